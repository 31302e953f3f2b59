/- Cuts, plain: layer 18's reference, and cut.Most. -/
import Derived.Test.YtljpjekifbamfaaA18
import Derived.Test.YtljpjekifbamfaaA18r
import Derived.Test.YtljpjekifbamfaaP18a
set_option linter.unusedSimpArgs false
set_option linter.unusedVariables false
namespace Go.Mine
open Go.RowKit
theorem rorphan_g {fuel n : Nat} {lens x : List Int} {a : Arc} (h : ArcG n lens a) (hx : x.length = n) : ref18_orphan fuel a x = some (orph a x) := by
  unfold ref18_orphan
  rw [ati_nI h.to.1 (by have := h.to.2; omega), ati_nI h.fr.1 (by have := h.fr.2; omega)]
  simp only [Option.bind_some, andM_some, orph]
  congr 3
  have := h.rcv.1
  rw [decide_eq_decide]; omega
theorem rorphans_g {fuel n : Nat} {p : Pat} {x : List Int} (ha : ∀ a ∈ p.arcs, ArcG n p.lens a) (hl : p.arcs.length ≤ 1000) (hf : 1000000 < fuel) (hx : x.length = n) : Ok (ref18_Orphans fuel p x) (OrS p.arcs x) := by
  unfold ref18_Orphans
  refine Ok.bind (Q := OrS p.arcs x) (Ok.for_ p.arcs.length (fun k s => s.2 = (k : Int) ∧ OrI p.arcs x k s.1) ⟨rfl, by simp, .inl ⟨rfl, by simp⟩⟩ (by omega) ?_) fun t ht => Ok.ret ht
  rintro k ⟨l, i⟩ hk ⟨hi, hI⟩
  simp only at hi hI
  subst hi
  simp only [ref18_Orphans_B1]
  refine Ok.iteP (fun hkl => ?_) (fun hkl => ?_)
  · refine (Ok.at (by omega) hkl).bind fun a h1 => ?_
    rw [Int.toNat_natCast] at h1
    rw [rorphan_g (ha a (List.mem_of_getElem? h1)) hx, Option.bind_some]
    refine Ok.ite (fun ho => ?_) (fun ho => Ok.ret ⟨by omega, w64_nat (by omega), hI.no h1 ho⟩)
    exact (Ok.snoc (by have := hI.1; omega)).bind fun y hy => Ok.ret ⟨by omega, w64_nat (by omega), by subst hy; exact hI.yes h1 ho⟩
  · have e : k = p.arcs.length := by omega
    subst e
    exact Ok.ret hI.fin
theorem rcons_g {fuel n : Nat} {p : Pat} {x : List Int} (ha : ∀ a ∈ p.arcs, ArcG n p.lens a) (hl : p.arcs.length ≤ 1000) (hf : 1000000 < fuel) (hx : x.length = n) : ref18_Consistent fuel p x = some (consB p.arcs x) := by
  unfold ref18_Consistent
  exact Ok.eq ((rorphans_g (p := ⟨p.lens, p.ckpts, p.arcs⟩) ha hl hf hx).bind fun l h => Ok.ret h.cons)
end Go.Mine
