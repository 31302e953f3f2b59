/- Equal machines are found to be the same. -/
import Derived.Test.YtddohdppmejjoaaA33b
import Derived.Test.YtddohdppmejjoaaP31a
import Derived.Test.YtddohdppmejjoaaP23
set_option linter.unusedSimpArgs false
set_option linter.unusedVariables false
namespace Go.Mine
theorem samelin_refl {fuel : Nat} {l : List (List Evt)} (hf : l.length < fuel) (hl : l.length ≤ 1000000) (hr : ∀ r ∈ l, r.length < fuel ∧ r.length ≤ 1000000) : ref32_SameLineages fuel l l = some true := by
  refine Ok.eq ?_
  unfold ref32_SameLineages
  rw [if_neg (by simp)]
  refine Ok.bind (Q := fun t => Sum.elim (fun _ => True) (fun _ => False) t) (Ok.for_ l.length (fun k t => t = (k : Int)) rfl hf ?_) ?_
  · rintro k _ hk rfl
    unfold ref32_SameLineages_B1
    refine Ok.iteP (fun h => ?_) fun h => Ok.ret trivial
    have hk' : k < l.length := by omega
    refine (Ok.at (by omega) h).bind fun r hr1 => (Ok.at (by omega) h).bind fun r2 hr2 => ?_
    rw [hr1] at hr2; cases hr2
    have hr3 := hr r (List.mem_of_getElem? hr1)
    rw [if_neg (by simp)]
    refine Ok.bind (Q := fun t => Sum.elim (fun _ => True) (fun _ => False) t) (Ok.for_ r.length (fun j t => t = (j : Int)) rfl hr3.1 ?_) ?_
    · rintro j _ hj rfl
      unfold ref32_SameLineages_B2
      refine (Ok.at (by omega) h).bind fun r4 hr4 => ?_
      rw [hr1] at hr4; cases hr4
      refine Ok.iteP (fun h2 => ?_) fun h2 => Ok.ret trivial
      refine (Ok.at (by omega) h).bind fun r4 hr4 => ?_
      rw [hr1] at hr4; cases hr4
      refine (Ok.at (by omega) h2).bind fun e he => ?_
      refine (Ok.at (by omega) h).bind fun r4 hr4 => ?_
      rw [hr1] at hr4; cases hr4
      refine (Ok.at (by omega) h2).bind fun e2 he2 => ?_
      rw [he] at he2; cases he2
      simp only [beq_self_eq_true, Bool.and_self, Bool.not_true, Bool.false_eq_true, if_false]
      exact Ok.ret ⟨by omega, w64_nat (by omega)⟩
    · rintro (t | t) ht
      · exact Ok.ret ⟨hk', w64_nat (by omega)⟩
      · exact ht.elim
  · rintro (t | t) ht
    · exact Ok.ret rfl
    · exact ht.elim
theorem rlineages33 {fuel : Nat} {bs : List Branch} {fl : List Letter} (hf : bs.length < fuel) (hl : bs.length ≤ 1000000) (he : ∀ b ∈ bs, b.events.length ≤ 1000000) : ref33_Lineages fuel (⟨bs, fl⟩ : Cascade) = some (bs.map (·.events)) := by
  refine Ok.eq ?_
  unfold ref33_Lineages
  refine Ok.bind (Q := fun l => l = bs.map (·.events)) (Ok.for_ bs.length (fun k t => t = ((bs.take k).map (·.events), (k : Int))) (by simp) hf ?_) fun l hl => Ok.ret hl
  rintro k t hk rfl
  unfold ref33_Lineages_B1
  refine Ok.iteP (fun h => ?_) fun h => ?_
  · simp only at h
    have hk' : k < bs.length := by omega
    refine (Ok.at (by omega) h).bind fun x hx => ?_
    simp only [Int.toNat_natCast] at hx
    have := he x (List.mem_of_getElem? hx)
    refine (Ok.cat (by simp; omega)).bind fun y hy => ?_
    subst hy
    refine (Ok.snoc (by simp; omega)).bind fun y hy => ?_
    subst hy
    refine Ok.ret ⟨hk', ?_⟩
    rw [w64_nat (by omega), List.take_add_one, hx]; simp
  · simp only at h
    refine Ok.ret ?_
    show _ = _
    rw [List.take_of_length_le (by omega)]
theorem same33 {fuel : Nat} {bs : List Branch} {fl : List Letter} (hf : 1000000 < fuel) (hb : bs.length ≤ 1000000) (hl : fl.length ≤ 1000000) (he : ∀ b ∈ bs, b.events.length ≤ 1000000) (he2 : ∀ b ∈ bs, b.ends.length ≤ 1000000) : ref33_Same fuel (⟨bs, fl⟩ : Cascade) (⟨bs, fl⟩ : Cascade) = some true := by
  refine Ok.eq ?_
  unfold ref33_Same
  dsimp only
  rw [rlineages33 (by omega) hb he]
  simp only [bne_self_eq_false, orM_false, Option.bind_some]
  rw [samelin_refl (by simp; omega) (by simp; omega) (fun r hr => by
    obtain ⟨b, hb, rfl⟩ := List.mem_map.1 hr
    have := he b hb
    omega)]
  simp only [Option.bind_some, Bool.not_true, Bool.false_eq_true, if_false]
  refine Ok.bind (Q := fun t => Sum.elim (fun _ => True) (fun _ => False) t) (Ok.for_ bs.length (fun k t => t = (k : Int)) rfl (by omega) ?_) ?_
  · rintro k _ hk rfl
    unfold ref33_Same_B2
    refine Ok.iteP (fun h => ?_) fun h => Ok.ret trivial
    simp only at h
    have hk' : k < bs.length := by omega
    have hx : bs[k]? = some bs[k] := List.getElem?_eq_getElem hk'
    have ha : ati bs (k : Int) = some bs[k] := ati_get hk'
    have := he2 bs[k] (List.getElem_mem _)
    simp only [ha, Option.bind_some, bne_self_eq_false, orM_false]
    rw [sameE_eq (by omega) (by omega)]
    simp only [Option.bind_some, decide_true, Bool.not_true, Bool.false_eq_true, if_false]
    exact Ok.ret ⟨by omega, w64_nat (by omega)⟩
  · rintro (t | t) ht
    · show Ok (ref33_Same_K1 _ _ _) _
      unfold ref33_Same_K1
      refine Ok.bind (Q := fun t => Sum.elim (fun _ => True) (fun _ => False) t) (Ok.for_ fl.length (fun k t => t = (k : Int)) rfl (by omega) ?_) ?_
      · rintro k _ hk rfl
        unfold ref33_Same_B1
        refine Ok.iteP (fun h => ?_) fun h => Ok.ret trivial
        simp only at h
        have hk' : k < fl.length := by omega
        have ha : ati fl (k : Int) = some fl[k] := ati_get hk'
        simp only [ha, Option.bind_some, beq_self_eq_true, Bool.and_self, Bool.not_true, Bool.false_eq_true, if_false]
        exact Ok.ret ⟨by omega, w64_nat (by omega)⟩
      · rintro (t | t) ht
        · exact Ok.ret rfl
        · exact ht.elim
    · exact ht.elim
end Go.Mine
