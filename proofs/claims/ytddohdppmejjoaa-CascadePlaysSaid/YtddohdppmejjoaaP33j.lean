/- The document's machine of chapter 33 does the same. -/
import Derived.Test.YtddohdppmejjoaaP33f
import Derived.Test.YtddohdppmejjoaaP33s
import Derived.Test.YtddohdppmejjoaaP31c
import Derived.Test.YtddohdppmejjoaaA33q
set_option linter.unusedSimpArgs false
set_option linter.unusedVariables false
namespace Go.Mine
theorem GoS.unique {bs : List Branch} {fl : List Letter} {p x : Int} {b : Branch} {t t' : List Branch × List Letter} (h : GoS bs fl p x b t) (h' : GoS bs fl p x b t') : t = t' := by
  obtain ⟨r, h1, _, h2, h3⟩ := h
  obtain ⟨r', g1, _, g2, g3⟩ := h'
  have := h1.unique g1
  subst this
  exact Prod.ext (h2.trans g2.symm) (h3.trans g3.symm)
theorem ChkS.unique {bs : List Branch} {fl : List Letter} {p : Int} {b : Branch} {t t' : List Branch × List Letter} (h : ChkS bs fl p b t) (h' : ChkS bs fl p b t') : t = t' := by
  rcases h with ⟨h1, rfl⟩ | ⟨k, e, h1, h2, h3, h4⟩ <;> rcases h' with ⟨g1, rfl⟩ | ⟨j, e', g1, g2, g3, g4⟩
  · rfl
  · have := h1 j e' g1; rw [g2] at this; cases this
  · have := g1 k e h1; rw [h2] at this; cases this
  · rcases Nat.lt_trichotomy k j with h5 | h5 | h5
    · have := g3 k e h5 h1; rw [h2] at this; cases this
    · subst h5; exact h4.unique g4
    · have := h3 j e' h5 g1; rw [g2] at this; cases this
theorem RecS.unique {bs : List Branch} {fl : List Letter} {i : Nat} {x : Letter} {b : Branch} {t t' : List Branch × List Letter} (h : RecS bs fl i x b t) (h' : RecS bs fl i x b t') : t = t' := by
  rcases h with ⟨h1, r, h2, _, h3⟩ | ⟨h1, h2⟩ <;> rcases h' with ⟨g1, r', g2, _, g3⟩ | ⟨g1, g2⟩
  · have := h2.unique g2
    subst this
    exact h3.unique g3
  · rw [h1] at g1; cases g1
  · rw [h1] at g1; cases g1
  · rw [h2, g2]
theorem radd33 {fuel : Nat} {a : List EndI} {e : EndI} (hf : 1000000 < fuel) (ha : a.length ≤ 1000) : Ok (ref31_Add fuel a e) fun r => Red (a ++ [e]) r ∧ r.length ≤ a.length + 1 := by
  obtain ⟨r', _, h1, h2⟩ := add_ok (fuel := fuel) (a := a) (e := e) hf ha
  refine (radd_ok hf ha).mono fun r hr => ?_
  have := hr.unique h1
  subst this
  exact ⟨h1, h2⟩
theorem rcopy33 {fuel : Nat} {bs : List Branch} {fl : List Letter} (hf : bs.length < fuel) (h1 : bs.length ≤ 1000000) (h2 : fl.length ≤ 1000000) (he : ∀ b ∈ bs, b.events.length ≤ 1000000 ∧ b.ends.length ≤ 1000000) :
    ref33_Copy fuel (⟨bs, fl⟩ : Cascade) = some ⟨bs, fl⟩ := by
  refine Ok.eq ?_
  unfold ref33_Copy
  refine Ok.bind (Q := fun l => l = bs) (Ok.for_ bs.length (fun k t => t = (bs.take k, (k : Int))) (by simp) hf ?_) ?_
  · rintro k t hk rfl
    unfold ref33_Copy_B1
    refine Ok.iteP (fun h => ?_) fun h => ?_
    · simp only at h
      have hk' : k < bs.length := by omega
      refine (Ok.at (by omega) h).bind fun x hx => ?_
      simp only [Int.toNat_natCast] at hx
      have := he x (List.mem_of_getElem? hx)
      refine (Ok.cat (by simp; omega)).bind fun y hy => ?_
      subst hy
      refine (Ok.cat (by simp; omega)).bind fun y hy => ?_
      subst hy
      refine (Ok.snoc (by simp; omega)).bind fun y hy => ?_
      subst hy
      refine Ok.ret ⟨hk', ?_⟩
      rw [w64_nat (by omega), List.take_add_one, hx]; simp
    · simp only at h
      refine Ok.ret ?_
      show _ = _
      rw [List.take_of_length_le (by omega)]
  · rintro l rfl
    show Ok (ref33_Copy_K1 fuel ⟨l, fl⟩ l) _
    unfold ref33_Copy_K1
    refine (Ok.cat (by simp; omega)).bind fun y hy => ?_
    subst hy
    exact Ok.ret (by simp)
theorem rback33 {fuel : Nat} {bs : List Branch} {fl : List Letter} {p x : Int} {b : Branch} (hf : 1000000 < fuel) (h0 : 0 ≤ p) (hb : bs[p.toNat]? = some b) (hx0 : 0 ≤ x) (hx : x ≤ b.events.length) (he : b.ends.length ≤ 1000) (hi0 : 0 ≤ b.inc) (hi : b.inc ≤ 1000000)
    (hn : bs.length ≤ 1000) (hfl : fl.length ≤ 1000000) : Ok (ref33_back fuel p x bs fl) (GoS bs fl p x b) := by
  have hp : p < bs.length := by have := (List.getElem?_eq_some_iff.1 hb).1; omega
  obtain ⟨q, rfl⟩ := Int.eq_ofNat_of_zero_le h0
  unfold ref33_back
  refine (Ok.at h0 hp).bind fun a ha => ?_
  rw [hb] at ha; cases ha
  refine (Ok.take hx0 hx).bind fun l hl => ?_
  subst hl
  refine (Ok.ret (Q := fun y => y = _) rfl).bind fun y hy => ?_
  subst hy
  refine (Ok.set h0 hp).bind fun b1 hb1 => ?_
  subst hb1
  refine (Ok.ret (Q := fun y => y = _) rfl).bind fun y hy => ?_
  subst hy
  refine (Ok.set h0 (by simpa using hp)).bind fun b1 hb1 => ?_
  subst hb1
  refine (radd33 hf he).bind fun r hr => ?_
  refine (Ok.ret (Q := fun y => y = _) rfl).bind fun y hy => ?_
  subst hy
  refine (Ok.set h0 (by simpa using hp)).bind fun b1 hb1 => ?_
  subst hb1
  refine (Ok.ret (Q := fun y => y = _) rfl).bind fun y hy => ?_
  subst hy
  refine (Ok.set h0 (by simpa using hp)).bind fun b1 hb1 => ?_
  subst hb1
  simp only [List.set_set, Int.toNat_natCast, List.length_set] at *
  refine (Ok.for_ bs.length (fun k s => s = (fl ++ newsL q ⟨q, b.inc, x⟩ k, (k : Int))) (Q := fun t => t = fl ++ newsL q ⟨q, b.inc, x⟩ bs.length) (by simp [newsL]) (by omega) ?_).bind ?_
  · rintro k s hk rfl
    unfold ref33_back_B1
    refine Ok.iteP (fun h => ?_) fun h => ?_
    · simp only [List.length_set] at h
      have hk' : k < bs.length := by omega
      refine Ok.iteN (fun h2 => ?_) fun h2 => ?_
      · refine (Ok.snoc (by have := newsL_len (p := q) (e := ⟨q, b.inc, x⟩) (n := k); simp; omega)).bind fun l hl => ?_
        subst hl
        refine Ok.ret ⟨hk', ?_⟩
        rw [newsL_succ, if_neg (by omega), w64_nat (by omega)]; simp
      · refine Ok.ret ⟨hk', ?_⟩
        rw [newsL_succ, if_pos (by omega), w64_nat (by omega)]; simp
    · simp only [List.length_set] at h
      obtain rfl : k = bs.length := by omega
      exact Ok.ret rfl
  · rintro t rfl
    refine Ok.ret ⟨r, hr.1, hr.2, ?_, rfl⟩
    have hw : w64 (b.inc + 1) = b.inc + 1 := by
      obtain ⟨m, hm⟩ := Int.eq_ofNat_of_zero_le hi0
      rw [hm]; exact w64_nat (by omega)
    simp [goB, hw]
theorem rcheck33 {fuel : Nat} {bs : List Branch} {fl : List Letter} {p : Int} {b : Branch} (hf : 1000000 < fuel) (h0 : 0 ≤ p) (hb : bs[p.toNat]? = some b) (hl : b.events.length ≤ 1000000) (he : b.ends.length ≤ 1000) (hi0 : 0 ≤ b.inc) (hi : b.inc ≤ 1000000)
    (hn : bs.length ≤ 1000) (hfl : fl.length ≤ 1000000) : Ok (ref33_check fuel p bs fl) (ChkS bs fl p b) := by
  have hp : p < bs.length := by have := (List.getElem?_eq_some_iff.1 hb).1; omega
  unfold ref33_check
  refine (Ok.at h0 hp).bind fun a ha => ?_
  rw [hb] at ha; cases ha
  refine (Ok.for_ b.events.length (fun k s => s = (k : Int) ∧ ∀ (j : Nat) (y : Evt), j < k → b.events[j]? = some y → badE b.ends y = false) (Q := fun t => Sum.elim (fun _ => ∀ (j : Nat) (y : Evt), b.events[j]? = some y → badE b.ends y = false) (fun t => ChkS bs fl p b t) t) ⟨rfl, fun j y h => by omega⟩ (by omega) ?_).bind ?_
  · rintro k s hk ⟨rfl, hn2⟩
    unfold ref33_check_B1
    refine Ok.iteP (fun h => ?_) fun h => ?_
    · have hk' : k < b.events.length := by omega
      refine (Ok.at (by omega) h).bind fun x hx => ?_
      rw [Int.toNat_natCast] at hx
      refine Ok.bind (Q := fun z => z = badE b.ends x) ?_ fun z hz => ?_
      · unfold badE
        cases h1 : (x.kind == 1)
        · exact ⟨false, by simp [andM], by simp⟩
        · rw [andM_true]
          refine (Ok.at (by omega) h).bind fun x2 hx2 => ?_
          rw [Int.toNat_natCast, hx] at hx2; cases hx2
          refine (Ok.at (by omega) h).bind fun x2 hx2 => ?_
          rw [Int.toNat_natCast, hx] at hx2; cases hx2
          rw [rundone_eq (by omega) (by omega)]
          exact Ok.ret (by simp)
      · subst hz
        refine Ok.ite (fun h2 => ?_) fun h2 => ?_
        · refine (rback33 hf h0 hb (by omega) (by omega) he hi0 hi hn hfl).bind fun t ht => Ok.ret (show ChkS bs fl p b _ from .inr ⟨k, x, hx, h2, hn2, ht⟩)
        · refine Ok.ret ⟨hk', w64_nat (by omega), fun j y hj hy => ?_⟩
          rcases Nat.lt_or_ge j k with h3 | h3
          · exact hn2 j y h3 hy
          · obtain rfl : j = k := by omega
            rw [hx] at hy; cases hy; exact h2
    · refine Ok.ret (show ∀ (j : Nat) (y : Evt), b.events[j]? = some y → badE b.ends y = false from fun j y hy => ?_)
      exact hn2 j y (by have := (List.getElem?_eq_some_iff.1 hy).1; omega) hy
  · rintro (t | t) ht
    · exact Ok.ret (.inl ⟨ht, rfl⟩)
    · exact Ok.ret ht
section
variable {n s fuel : Nat} {X : Ends33} {bs : List Branch} {fl : List Letter}
theorem MC.mem (h : MC n s X bs fl) (hn : n ≤ 5) (hs : s ≤ 99) {b : Branch} (hb : b ∈ bs) : b.events.length ≤ 1000 ∧ b.ends.length ≤ 1000 := by
  have hlen := h.len
  obtain ⟨j, hj, rfl⟩ := List.mem_iff_getElem.1 hb
  have hjr : InR n (j : Int) := ⟨by omega, by omega⟩
  have := h.get hjr
  rw [Int.toNat_natCast, List.getElem?_eq_getElem hj, Option.some.injEq] at this
  rw [this]
  have := h.small hjr
  have := h.ends hn hs hjr
  omega
theorem MS.rcopy (h : MS n s X bs fl) (hn : n ≤ 5) (hs : s ≤ 99) (hf : 1000000 < fuel) : ref33_Copy fuel (⟨bs, fl⟩ : Cascade) = some ⟨bs, fl⟩ := by
  have h3 := h.small' hn hs
  exact rcopy33 (by omega) (by omega) (by omega) fun b hb => by have := h.mem hn hs hb; omega
theorem not_inR {n p : Int} (h : ¬ InR n p) : (decide (p < 0) || decide (n ≤ p)) = true := by unfold InR at h; simp; omega
theorem is_inR {n p : Int} (h : InR n p) : decide (p < 0) = false ∧ decide (n ≤ p) = false := by unfold InR at h; simp; omega
/-- both refuse the same -/
theorem MS.refuse (h : MS n s X bs fl) (k : Shock) : ∃ z, cascade_refusal fuel ⟨bs, fl⟩ k = some z ∧ ref33_refuse fuel ⟨bs, fl⟩ k = some z ∧
    (z = 0 → (k.kind = 1 ∧ InR n k.proc ∧ InR n k.other ∧ k.other ≠ k.proc) ∨ (k.kind = 2 ∧ InR fl.length k.other) ∨ (k.kind = 3 ∧ InR n k.proc) ∨ (k.kind = 4 ∧ InR n k.proc)) := by
  obtain ⟨kind, p, o⟩ := k
  have hlen := h.len
  by_cases k1 : kind = 1
  · subst k1
    by_cases hb : InR n p ∧ InR n o ∧ o ≠ p
    · obtain ⟨hp, ho, hne⟩ := hb
      rw [← hlen] at hp ho
      obtain ⟨a1, a2⟩ := is_inR hp
      obtain ⟨b1, b2⟩ := is_inR ho
      have c1 : (o == p) = false := by simpa using hne
      have hat : ati bs p = some (brs bs p) := by
        unfold ati; rw [if_neg (by have := hp.1; omega)]; exact brs_some hp
      refine ⟨if (decide (64 ≤ ((brs bs p).events.length : Int)) || decide (256 ≤ (fl.length : Int))) = true then 4 else 0, ?_, ?_, fun _ => .inl ⟨rfl, by rw [← hlen]; exact hp, by rw [← hlen]; exact ho, hne⟩⟩
      · unfold cascade_refusal
        dsimp only
        rw [if_pos (by decide)]
        simp only [a1, a2, b1, b2, c1, orM_false, Option.bind_some, hat, orM_some]
        rw [if_neg (by decide)]
        split <;> rfl
      · unfold ref33_refuse
        dsimp only
        have d1 : decide ((1 : Int) < 1) = false := by decide
        have d2 : decide ((4 : Int) < 1) = false := by decide
        have d3 : ((1 : Int) != 2) = true := by decide
        have d4 : ((1 : Int) == 1) = true := by decide
        have d5 : ((1 : Int) == 2) = false := by decide
        simp only [a1, a2, b1, b2, c1, d1, d2, d3, d4, d5, orM_false, andM_true, andM_false, Option.bind_some, hat, orM_some, Bool.false_eq_true, if_false, Bool.or_self, Bool.or_false, Bool.false_or, Bool.false_and, Bool.true_and, Bool.and_false]
        split <;> rfl
    · have e1 : (((decide (p < 0) || decide ((bs.length : Int) ≤ p)) || decide (o < 0)) || decide ((bs.length : Int) ≤ o) || (o == p)) = true := by
        unfold InR at hb
        simp
        omega
      refine ⟨3, ?_, ?_, fun h => by cases h⟩
      · unfold cascade_refusal
        dsimp only
        rw [if_pos (by decide)]
        simp only [orM_some, Option.bind_some, e1]
        rfl
      · unfold ref33_refuse
        dsimp only
        have d1 : decide ((1 : Int) < 1) = false := by decide
        have d2 : decide ((4 : Int) < 1) = false := by decide
        have d3 : ((1 : Int) != 2) = true := by decide
        have d4 : ((1 : Int) == 1) = true := by decide
        have e2 : ((decide (p < 0) || decide ((bs.length : Int) ≤ p)) || ((decide (o < 0) || decide ((bs.length : Int) ≤ o)) || (o == p))) = true := by rw [← e1]; simp only [Bool.or_assoc]
        simp only [orM_some, andM_true, Option.bind_some, d1, d2, d3, d4, Bool.false_or, e2]
        rfl
  by_cases k2 : kind = 2
  · subst k2
    have d1 : decide ((2 : Int) < 1) = false := by decide
    have d2 : decide ((4 : Int) < 2) = false := by decide
    have d3 : ((2 : Int) != 2) = false := by decide
    have d4 : ((2 : Int) == 1) = false := by decide
    have d5 : ((2 : Int) == 2) = true := by decide
    by_cases ho : InR fl.length o
    · obtain ⟨b1, b2⟩ := is_inR ho
      obtain ⟨i, rfl⟩ := Int.eq_ofNat_of_zero_le ho.1
      have hi : i < fl.length := by have := ho.2; omega
      have hat : ati fl (i : Int) = some fl[i] := ati_get hi
      have hto := (h.ci.mail fl[i] (List.getElem_mem _)).to_
      have hpl : InR bs.length (fl[i]).to := by rw [hlen]; exact hto
      have hab : ati bs (fl[i]).to = some (brs bs (fl[i]).to) := by
        unfold ati; rw [if_neg (by have := hto.1; omega)]; exact brs_some hpl
      refine ⟨if (!(fl[i]).news && decide (64 ≤ ((brs bs (fl[i]).to).events.length : Int))) = true then 4 else 0, ?_, ?_, fun _ => .inr (.inl ⟨rfl, ho⟩)⟩
      · unfold cascade_refusal
        dsimp only
        rw [if_neg (by decide), if_pos (by decide)]
        simp only [b1, b2, orM_false, Option.bind_some, hat, hab, andM_some, Bool.false_eq_true, if_false]
        split <;> rfl
      · unfold ref33_refuse
        dsimp only
        simp only [d1, d2, d3, d4, d5, b1, b2, orM_false, andM_true, andM_false, Option.bind_some, hat, hab, andM_some, orM_some, Bool.false_eq_true, if_false, Bool.or_self, Bool.or_false, Bool.false_or, Bool.false_and, Bool.true_and, Bool.and_false]
        split <;> rfl
    · have e := not_inR ho
      refine ⟨11, ?_, ?_, fun h => by cases h⟩
      · unfold cascade_refusal
        dsimp only
        rw [if_neg (by decide), if_pos (by decide)]
        simp only [orM_some, Option.bind_some, e]
        rfl
      · unfold ref33_refuse
        dsimp only
        simp only [d1, d2, d3, d4, d5, orM_false, andM_true, andM_false, Option.bind_some, orM_some, Bool.false_eq_true, if_false, Bool.or_self, Bool.false_and, Bool.true_and, Bool.or_false, Bool.false_or, e]
        rfl
  have d34 : ∀ kind : Int, (kind = 3 ∨ kind = 4) → decide (kind < 1) = false ∧ decide (4 < kind) = false ∧ (kind != 2) = true ∧ (kind == 1) = false ∧ (kind == 2) = false := by
    rintro k (rfl | rfl) <;> decide
  by_cases k34 : kind = 3 ∨ kind = 4
  · obtain ⟨d1, d2, d3, d4, d5⟩ := d34 kind k34
    have hJ : cascade_refusal fuel ⟨bs, fl⟩ ⟨kind, p, o⟩ = (orM (decide (p < 0)) (some (decide ((bs.length : Int) ≤ p)))).bind fun x183 => if x183 = true then some 3 else some 0 := by
      unfold cascade_refusal cascade_refusal_J1
      dsimp only
      simp only [d4, d5, Bool.false_eq_true, if_false]
      rcases k34 with rfl | rfl
      · rw [if_pos (by decide), if_pos (by decide)]
      · rw [if_neg (by decide), if_pos (by decide)]
    by_cases hp : InR bs.length p
    · obtain ⟨a1, a2⟩ := is_inR hp
      refine ⟨0, ?_, ?_, fun _ => ?_⟩
      · rw [hJ]; simp only [a1, a2, orM_false, Option.bind_some]; rfl
      · unfold ref33_refuse
        dsimp only
        simp only [d1, d2, d3, d4, d5, a1, a2, orM_false, andM_true, andM_false, Option.bind_some, orM_some, Bool.false_eq_true, if_false, Bool.or_self, Bool.or_false, Bool.false_or, Bool.true_and, Bool.false_and, Bool.and_false]
      · rw [hlen] at hp
        rcases k34 with rfl | rfl
        · exact .inr (.inr (.inl ⟨rfl, hp⟩))
        · exact .inr (.inr (.inr ⟨rfl, hp⟩))
    · have e := not_inR hp
      refine ⟨3, ?_, ?_, fun h => by cases h⟩
      · rw [hJ]; simp only [orM_some, Option.bind_some, e]; rfl
      · unfold ref33_refuse
        dsimp only
        simp only [d1, d2, d3, d4, d5, orM_false, andM_true, andM_false, Option.bind_some, orM_some, Bool.false_eq_true, if_false, Bool.or_self, e, Bool.or_false, Bool.false_or, Bool.true_and, Bool.false_and]
        rfl
  · have e1 : (kind == 1) = false := by simpa using k1
    have e2 : (kind == 2) = false := by simpa using k2
    have e3 : (kind == 3) = false := by simp; omega
    have e4 : (kind == 4) = false := by simp; omega
    have e5 : (decide (kind < 1) || decide (4 < kind)) = true := by simp; omega
    refine ⟨3, ?_, ?_, fun h => by cases h⟩
    · unfold cascade_refusal cascade_refusal_J1
      simp [e1, e2, e3, e4]
    · unfold ref33_refuse
      dsimp only
      simp only [orM_some, Option.bind_some, e5, orM_true]
      rfl
/-- both steps are the same -/
theorem MS.same (h : MS n s X bs fl) (hn : n ≤ 5) (hs : s ≤ 99) (hf : 1000000 < fuel) (k : Shock) : ∃ r, cascade_Step fuel (⟨bs, fl⟩ : Cascade) k = some r ∧ ref33_Step fuel (⟨bs, fl⟩ : Cascade) k = some r ∧ (r.2 = 0 → ∃ X', MS n (s + 1) X' r.1.branches r.1.flight) := by
  obtain ⟨r, hr, hms⟩ := h.step hn hs hf k
  refine ⟨r, hr, ?_, hms⟩
  obtain ⟨z, z1, z2, z3⟩ := h.refuse (fuel := fuel) k
  have h3 := h.small' hn hs
  have hlen := h.len
  obtain ⟨kind, p, o⟩ := k
  unfold cascade_Step at hr
  unfold ref33_Step
  dsimp only at hr ⊢
  rw [z1, Option.bind_some] at hr
  rw [z2, Option.bind_some]
  by_cases hz : z = 0
  · subst hz
    rw [if_neg (by decide)] at hr ⊢
    rw [copied33 (by omega) (by omega), Option.bind_some] at hr
    rw [h.rcopy hn hs hf, Option.bind_some]
    dsimp only at hr ⊢
    rcases z3 rfl with ⟨rfl, hp, ho, hne⟩ | ⟨rfl, ho⟩ | ⟨rfl, hp⟩ | ⟨rfl, hp⟩
    · -- a message is sent
      simp only at hp ho hne
      have hpl : InR bs.length p := by rw [hlen]; exact hp
      have hsm := h.small hp
      rw [if_pos (by decide)] at hr ⊢
      rw [send33 hp.1 (h.get hp) (by omega) (by omega), Option.bind_some] at hr
      have hr : some ((⟨bs.set p.toNat (evS (brs bs p) ⟨2, 0, 0, ⟨0, 0⟩, 0, 0⟩), fl ++ [⟨p, o, false, ⟨(brs bs p).inc, (((brs bs p).events.length + 1 : Nat) : Int)⟩, ⟨0, 0, 0⟩⟩]⟩ : Cascade), (0 : Int)) = some r := hr
      rw [← hr]
      refine Ok.eq ?_
      refine (Ok.at hp.1 hpl.2).bind fun b hb => ?_
      rw [h.get hp] at hb; cases hb
      refine (Ok.snoc (by omega)).bind fun y hy => ?_
      subst hy
      refine (Ok.ret (Q := fun y => y = _) rfl).bind fun y hy => ?_
      subst hy
      refine (Ok.set hp.1 hpl.2).bind fun y hy => ?_
      subst hy
      refine (Ok.snoc (by omega)).bind fun y hy => ?_
      subst hy
      exact Ok.ret (by simp [evS])
    · -- a letter is taken
      simp only at ho
      obtain ⟨i, rfl⟩ := Int.eq_ofNat_of_zero_le ho.1
      have hi : i < fl.length := by have := ho.2; omega
      have hx : fl[i]? = some fl[i] := List.getElem?_eq_getElem hi
      generalize fl[i] = x at hx
      have hto := (h.ci.mail x (mem_of_getElem? hx)).to_
      have hpl : InR bs.length x.to := by rw [hlen]; exact hto
      have hsm := h.small hto
      have hen := h.ends hn hs hto
      have hi0 := h.ci.inc0 _ hto
      rw [if_neg (by decide), if_pos (by decide)] at hr ⊢
      obtain ⟨t, ht, hR⟩ := h.receive hn hs hf hx
      rw [ht, Option.bind_some] at hr
      have hr : some ((⟨t.1, t.2⟩ : Cascade), (0 : Int)) = some r := hr
      rw [← hr]
      have at1 : ati fl (i : Int) = some x := by rw [ati_cast]; exact hx
      have hd : dropL fl ((i + 1 : Nat) : Int) = some (fl.drop (i + 1)) := by unfold dropL; rw [if_pos (by omega), Int.toNat_natCast]
      have ab : ati bs x.to = some (brs bs x.to) := by unfold ati; rw [if_neg (by have := hto.1; omega)]; exact brs_some hpl
      rw [at1, Option.bind_some]
      refine Ok.eq ?_
      refine (Ok.take (by omega) (by omega)).bind fun l1 hl1 => ?_
      rw [Int.toNat_natCast] at hl1
      subst hl1
      rw [w64_nat (by omega), hd, Option.bind_some]
      refine (Ok.cat (by simp; omega)).bind fun l2 hl2 => ?_
      subst hl2
      rw [ab, Option.bind_some]
      have key : ∀ t' : List Branch × List Letter, RecS bs fl i x (brs bs x.to) t' → ((⟨t'.1, t'.2⟩ : Cascade), (0 : Int)) = ((⟨t.1, t.2⟩ : Cascade), (0 : Int)) := fun t' h' => by rw [h'.unique hR]
      refine Ok.ite (fun hw => ?_) fun hw => ?_
      · refine (radd33 hf (by omega)).bind fun r2 hr2 => ?_
        refine (Ok.ret (Q := fun y => y = { brs bs x.to with ends := r2 }) rfl).bind fun y hy => ?_
        subst hy
        refine (Ok.set hto.1 hpl.2).bind fun b1 hb1 => ?_
        subst hb1
        refine (rcheck33 (b := { brs bs x.to with ends := r2 }) hf hto.1 (by rw [List.getElem?_set_self (by have := hpl.1; have := hpl.2; omega)]) (by simp only; omega) (by have := hr2.2; simp only; omega) hi0 (by simp only; omega) (by simpa using h3.1) (by simp; omega)).bind fun t' ht' => ?_
        exact Ok.ret (key t' (.inl ⟨hw, r2, hr2.1, hr2.2, ht'⟩))
      · rw [rundone_eq (by omega) (by omega), Option.bind_some]
        refine Ok.ite (fun h2 => ?_) fun h2 => ?_
        · refine (Ok.snoc (by omega)).bind fun y hy => ?_
          subst hy
          refine (Ok.ret (Q := fun y => y = _) rfl).bind fun y hy => ?_
          subst hy
          refine (Ok.set hto.1 hpl.2).bind fun y hy => ?_
          subst hy
          refine Ok.ret (key (_, _) (.inr ⟨hw, ?_⟩))
          have h2' : undB (brs bs x.to).ends x.frm x.sent = false := by simpa using h2
          rw [h2']; simp [evS]
        · refine Ok.ret (key (_, _) (.inr ⟨hw, ?_⟩))
          have h2' : undB (brs bs x.to).ends x.frm x.sent = true := by simpa using h2
          rw [h2']; simp
    · -- a flush
      simp only at hp
      have hpl : InR bs.length p := by rw [hlen]; exact hp
      have ab : ati bs p = some (brs bs p) := by unfold ati; rw [if_neg (by have := hp.1; omega)]; exact brs_some hpl
      rw [if_neg (by decide), if_neg (by decide), if_pos (by decide)] at hr ⊢
      rw [ab] at hr ⊢
      simp only [Option.bind_some] at hr ⊢
      exact hr
    · -- a crash
      simp only at hp
      have hpl : InR bs.length p := by rw [hlen]; exact hp
      have hsm := h.small hp
      have hen := h.ends hn hs hp
      have hi0 := h.ci.inc0 _ hp
      have hst := h.ci.stab p hp
      have ab : ati bs p = some (brs bs p) := by unfold ati; rw [if_neg (by have := hp.1; omega)]; exact brs_some hpl
      rw [if_neg (by decide), if_neg (by decide), if_neg (by decide), if_pos (by decide)] at hr ⊢
      rw [ab, Option.bind_some] at hr ⊢
      obtain ⟨t, ht, hG⟩ := h.goBack hn hs hf hp
      rw [ht, Option.bind_some] at hr
      obtain ⟨t', ht', hG'⟩ := rback33 hf hp.1 (h.get hp) hst.1 hst.2 (by omega) hi0 (by omega) h3.1 (by omega : fl.length ≤ 1000000)
      rw [ht', Option.bind_some, hG'.unique hG]
      exact hr
  · rw [if_pos (by simpa using hz)] at hr ⊢
    exact hr
end
end Go.Mine
