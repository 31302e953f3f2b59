/- modelbased.Play in the words of the printed walks. -/
import Derived.Test.YtbmjcbhappjnaaaM26g
set_option linter.unusedSimpArgs false
set_option linter.unusedVariables false
namespace Go.Mine
open Go.RowKit
def HistV.hist (h : HistV) : Hist := ⟨⟨h.lens, h.ckpts, h.arcs⟩, h.clocks, h.vecs, h.forced⟩
def modelbased_Play (fuel : Nat) (a0 : Int) (a1 : Int) (a2 : List Deed) : Option (Hist × Int) := if a2.length ≤ 1000000000 then some ((play26E a0 a1 a2).1.hist, (play26E a0 a1 a2).2) else none
end Go.Mine
namespace Go.Proofs.Ytbmjcbhappjnaaa
open Go.RowKit Go.Mine
theorem modelbased_Play_w {F R : Nat → Prop} {w : World} {fuel : Nat} {a0 a1 : Int} {a2 : List Deed} {v1 : Value} {r : Hist × Int} (hS : Sep F R R w w []) (f1 : IsSlice deedTy w R v1 a2) (h : modelbased_Play fuel a0 a1 a2 = some r) :
    Gives Try.prog 14 [.int .i64 a0, .int .i64 a1, v1] w fun u w1 => ∃ vL vC vA vK vV vF : Value, ∃ R1 : Nat → Prop, u = .tuple #[.agg #[vL, vC, vA, vK, vV, vF], .int .i64 r.2] ∧ Sep F R R1 w w1 [] ∧ IsSlice Ty.int w1 R1 vL r.1.pat.lens ∧ IsSlice (Ty.slice Ty.int) w1 R1 vC r.1.pat.ckpts ∧ IsSlice arcTy w1 R1 vA r.1.pat.arcs ∧
      IsSlice (Ty.slice Ty.int) w1 R1 vK r.1.clocks ∧ IsSlice (Ty.slice (Ty.slice Ty.int)) w1 R1 vV r.1.vecs ∧ IsSlice (Ty.slice Ty.bool) w1 R1 vF r.1.forced := by
  unfold modelbased_Play at h
  split at h
  · rename_i hl
    cases h
    refine (play26 a0 a1 f1 hl).mono fun u w1 ⟨vL, vC, vA, vK, vV, vF, e, hh, hB⟩ => ?_
    obtain ⟨R1, g1, g2, g3⟩ := hS.growO hB
    have hm : ∀ k, w.heap.size ≤ k → k < w1.heap.size → R1 k := g3
    exact ⟨vL, vC, vA, vK, vV, vF, R1, e, g1, hh.lens.mono hm, hh.ckpts.mono hm, hh.arcs.mono hm, hh.clocks.mono hm, hh.vecs.mono hm, hh.forced.mono hm⟩
  · cases h
end Go.Proofs.Ytbmjcbhappjnaaa
