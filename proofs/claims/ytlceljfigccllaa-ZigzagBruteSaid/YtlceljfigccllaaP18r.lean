/- Cuts, plain: layer 18's reference. -/
import Derived.Test.YtlceljfigccllaaA18r
import Derived.Test.YtlceljfigccllaaP18a
set_option linter.unusedSimpArgs false
set_option linter.unusedVariables false
namespace Go.Mine
open Go.RowKit
theorem rorphan_g {fuel n : Nat} {lens x : List Int} {a : Arc} (h : ArcG n lens a) (hx : x.length = n) : ref18_orphan fuel a x = some (orph a x) := by
  unfold ref18_orphan
  rw [ati_nI h.to.1 (by have := h.to.2; omega), ati_nI h.fr.1 (by have := h.fr.2; omega)]
  simp only [Option.bind_some, andM_some, orph]
  congr 3
  have := h.rcv.1
  rw [decide_eq_decide]; omega
theorem rorphans_g {fuel n : Nat} {p : Pat} {x : List Int} (ha : ∀ a ∈ p.arcs, ArcG n p.lens a) (hl : p.arcs.length ≤ 1000) (hf : 1000000 < fuel) (hx : x.length = n) : Ok (ref18_Orphans fuel p x) (OrS p.arcs x) := by
  unfold ref18_Orphans
  refine Ok.bind (Q := OrS p.arcs x) (Ok.for_ p.arcs.length (fun k s => s.2 = (k : Int) ∧ OrI p.arcs x k s.1) ⟨rfl, by simp, .inl ⟨rfl, by simp⟩⟩ (by omega) ?_) fun t ht => Ok.ret ht
  rintro k ⟨l, i⟩ hk ⟨hi, hI⟩
  simp only at hi hI
  subst hi
  simp only [ref18_Orphans_B1]
  refine Ok.iteP (fun hkl => ?_) (fun hkl => ?_)
  · refine (Ok.at (by omega) hkl).bind fun a h1 => ?_
    rw [Int.toNat_natCast] at h1
    rw [rorphan_g (ha a (List.mem_of_getElem? h1)) hx, Option.bind_some]
    refine Ok.ite (fun ho => ?_) (fun ho => Ok.ret ⟨by omega, w64_nat (by omega), hI.no h1 ho⟩)
    exact (Ok.snoc (by have := hI.1; omega)).bind fun y hy => Ok.ret ⟨by omega, w64_nat (by omega), by subst hy; exact hI.yes h1 ho⟩
  · have e : k = p.arcs.length := by omega
    subst e
    exact Ok.ret hI.fin
theorem rcons_g {fuel n : Nat} {p : Pat} {x : List Int} (ha : ∀ a ∈ p.arcs, ArcG n p.lens a) (hl : p.arcs.length ≤ 1000) (hf : 1000000 < fuel) (hx : x.length = n) : ref18_Consistent fuel p x = some (consB p.arcs x) := by
  unfold ref18_Consistent
  exact Ok.eq ((rorphans_g (p := ⟨p.lens, p.ckpts, p.arcs⟩) ha hl hf hx).bind fun l h => Ok.ret h.cons)
theorem rmost_g {fuel : Nat} {x y : List Int} (h : x.length = y.length) (hl : x.length ≤ 1000) (hf : 1000000 < fuel) : ref18_Most fuel x y = some (leB x y) := by
  unfold ref18_Most
  rw [if_neg (by simp; omega)]
  refine Ok.eq ?_
  refine Ok.bind (Q := fun t => match t with | .inl _ => Le x y | .inr b => b = false ∧ ¬ Le x y) (Ok.for_ x.length (fun k s => s = (k : Int) ∧ ∀ q : Nat, q < k → nI x q ≤ nI y q) ⟨rfl, fun q hq => by omega⟩ (by omega) ?_) ?_
  · rintro k s hk ⟨rfl, h1⟩
    unfold ref18_Most_B1
    refine Ok.iteP (fun hkl => ?_) (fun hkl => Ok.ret fun q hq => h1 q (by omega))
    rw [ati_nI (by omega) (by omega), ati_nI (by omega) (by omega)]
    simp only [Option.bind_some]
    refine Ok.iteP (fun hc => Ok.ret ⟨rfl, fun hle => by have := hle k (by omega); omega⟩) (fun hc => Ok.ret ⟨by omega, w64_nat (by omega), fun q hq => ?_⟩)
    rcases Nat.lt_succ_iff_lt_or_eq.1 hq with h3 | rfl
    · exact h1 q h3
    · omega
  · rintro (u | b) ht
    · exact Ok.ret (leB_iff.2 ht).symm
    · obtain ⟨rfl, h2⟩ := ht; exact Ok.ret (leB_not.2 h2).symm
end Go.Mine
