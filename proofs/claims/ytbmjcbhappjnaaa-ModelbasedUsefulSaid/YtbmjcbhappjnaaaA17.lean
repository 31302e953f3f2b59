/- Printed walks: A17. -/
import Derived.Test.YtbmjcbhappjnaaaA16
set_option linter.unusedVariables false
set_option linter.unusedSimpArgs false
namespace Go.Mine
open Go.RowKit
def causal_fits_K1 (fuel : Nat) : Option (Bool) :=
  some true
def causal_fits_B1 (fuel : Nat) (a1 : (List Pt)) (a0 : Pat) (x199 : Int) : Option ((Int) ⊕ (Unit ⊕ (Bool))) :=
  (if (decide (x199 < (a1.length : Int))) = true then (ati a1 x199).bind fun x245 => (orM (decide (x245.proc < 0)) (some (decide ((a0.lens.length : Int) ≤ x245.proc)))).bind fun x255 => (orM x255 (some (decide (x245.index < 0)))).bind fun x259 => (orM x259 ((ati a0.lens x245.proc).bind fun x266 => some (decide (x266 < x245.index)))).bind fun x265 => (if x265 = true then some (Sum.inr (Sum.inr false)) else some (Sum.inl (w64 (x199 + 1)))) else some (Sum.inr (Sum.inl ())))
def causal_fits (fuel : Nat) (a0 : Pat) (a1 : (List Pt)) : Option (Bool) :=
  (pattern_Check fuel (⟨a0.lens, a0.ckpts, a0.arcs⟩ : Pat)).bind fun r144 => (if (r144 != 0) = true then some false else (iter (fun s => causal_fits_B1 fuel a1 a0 s) fuel 0).bind (fun t => Sum.elim (fun t => causal_fits_K1 fuel) (fun t => some t) t))
def causal_newHistory_K1 (fuel : Nat) (a0 : Pat) (x209 : (List (Pt × Pt))) : Option ((List Int) × (List (Pt × Pt)) × (List (Pt × (List Int)))) :=
  some (a0.lens, x209, ([] : List (Pt × (List Int))))
def causal_newHistory_B1 (fuel : Nat) (a0 : Pat) (x171 : (List (Pt × Pt))) (x174 : Int) : Option (((List (Pt × Pt)) × Int) ⊕ ((List (Pt × Pt)))) :=
  (if (decide (x174 < (a0.arcs.length : Int))) = true then (ati a0.arcs x174).bind fun x217 => (if (x217.rcv != 0) = true then (some (mput x171 (⟨x217.to, x217.rcv⟩ : Pt) (⟨x217.fr, x217.ix⟩ : Pt))).bind fun x226 => some (Sum.inl (x226, (w64 (x174 + 1)))) else some (Sum.inl (x171, (w64 (x174 + 1))))) else some (Sum.inr x171))
def causal_newHistory (fuel : Nat) (a0 : Pat) : Option ((List Int) × (List (Pt × Pt)) × (List (Pt × (List Int)))) :=
  (iter (fun s => causal_newHistory_B1 fuel a0 s.1 s.2) fuel (([] : List (Pt × Pt)), 0)).bind (fun t => causal_newHistory_K1 fuel a0 t)
def causal_raise_K1 (fuel : Nat) (x110 : (List Int)) : Option ((List Int)) :=
  some x110
def causal_raise_B1 (fuel : Nat) (c0_0 : (List Int)) (a1 : (List Int)) (x88 : (List Int)) (x90 : Int) : Option (((List Int) × Int) ⊕ ((List Int))) :=
  (if (decide (x90 < (c0_0.length : Int))) = true then (ati x88 x90).bind fun x116 => (ati a1 x90).bind fun x118 => (ati x88 x90).bind fun x120 => (seti x88 x90 (max x116 x118)).bind fun x122 => some (Sum.inl (x122, (w64 (x90 + 1)))) else some (Sum.inr x88))
def causal_raise (fuel : Nat) (a1 : (List Int)) (c0_0 : (List Int)) : Option ((List Int)) :=
  (iter (fun s => causal_raise_B1 fuel c0_0 a1 s.1 s.2) fuel (c0_0, 0)).bind (fun t => causal_raise_K1 fuel t)
def causal_history_clock_J1 (fuel : Nat) (rec_ : Pt → (List Int) → (List (Pt × Pt)) → (List (Pt × (List Int))) → Option ((List Int) × (List (Pt × Pt)) × (List (Pt × (List Int))))) (a1 : Pt) (x327 : (List (Pt × Pt))) (x329 : (List (Pt × (List Int)))) (x332 : (List Int)) : Option ((List Int) × (List (Pt × Pt)) × (List (Pt × (List Int)))) :=
  (ati x332 a1.proc).bind fun x334 => (seti x332 a1.proc a1.index).bind fun x336 => (some (mput x329 (⟨a1.proc, a1.index⟩ : Pt) x336)).bind fun x340 => some (x336, x327, x340)
def causal_history_clock_J2 (fuel : Nat) (rec_ : Pt → (List Int) → (List (Pt × Pt)) → (List (Pt × (List Int))) → Option ((List Int) × (List (Pt × Pt)) × (List (Pt × (List Int))))) (r346 : ((List Int) × (List (Pt × Pt)) × (List (Pt × (List Int))))) (a1 : Pt) (x352 : Pt) (c0_0 : (List Int)) (x349 : (List Int)) : Option ((List Int) × (List (Pt × Pt)) × (List (Pt × (List Int)))) :=
  (if ((mget r346.2.1 (⟨a1.proc, a1.index⟩ : Pt)).isSome) = true then (rec_ (⟨x352.proc, x352.index⟩ : Pt) c0_0 r346.2.1 r346.2.2).bind fun r376 => (causal_raise fuel r376.1 x349).bind fun r379 => causal_history_clock_J1 fuel rec_ a1 r376.2.1 r376.2.2 r379 else causal_history_clock_J1 fuel rec_ a1 r346.2.1 r346.2.2 x349)
def causal_history_clock_F (fuel : Nat) (rec_ : Pt → (List Int) → (List (Pt × Pt)) → (List (Pt × (List Int))) → Option ((List Int) × (List (Pt × Pt)) × (List (Pt × (List Int))))) (a1 : Pt) (c0_0 : (List Int)) (c0_1 : (List (Pt × Pt))) (c0_2 : (List (Pt × (List Int)))) : Option ((List Int) × (List (Pt × Pt)) × (List (Pt × (List Int)))) :=
  (some ((mget c0_2 (⟨a1.proc, a1.index⟩ : Pt)).getD ([] : List Int))).bind fun x267 => (if ((mget c0_2 (⟨a1.proc, a1.index⟩ : Pt)).isSome) = true then some (x267, c0_1, c0_2) else (mkL (c0_0.length : Int) (0 : Int)).bind fun x272 => (if (decide (0 < a1.index)) = true then (rec_ (⟨a1.proc, w64 (a1.index - 1)⟩ : Pt) c0_0 c0_1 c0_2).bind fun r346 => (copyM x272 r346.1).bind fun x349 => (some ((mget r346.2.1 (⟨a1.proc, a1.index⟩ : Pt)).getD (⟨(0 : Int), (0 : Int)⟩ : Pt))).bind fun x352 => causal_history_clock_J2 fuel rec_ r346 a1 x352 c0_0 x349 else causal_history_clock_J1 fuel rec_ a1 c0_1 c0_2 x272))
def causal_history_clock_R (fuel : Nat) : Nat → Pt → (List Int) → (List (Pt × Pt)) → (List (Pt × (List Int))) → Option ((List Int) × (List (Pt × Pt)) × (List (Pt × (List Int))))
  | 0 => fun _ _ _ _ => none
  | d_ + 1 => causal_history_clock_F fuel (causal_history_clock_R fuel d_)
def causal_history_clock (fuel : Nat) (a1 : Pt) (c0_0 : (List Int)) (c0_1 : (List (Pt × Pt))) (c0_2 : (List (Pt × (List Int)))) : Option ((List Int) × (List (Pt × Pt)) × (List (Pt × (List Int)))) := causal_history_clock_R fuel fuel a1 c0_0 c0_1 c0_2
def causal_Clock (fuel : Nat) (a0 : Pat) (a1 : Int) (a2 : Int) : Option ((List Int)) :=
  (causal_fits fuel (⟨a0.lens, a0.ckpts, a0.arcs⟩ : Pat) ([(⟨a1, a2⟩ : Pt)])).bind fun r51 => (if (!r51) = true then some ([] : List Int) else (causal_newHistory fuel (⟨a0.lens, a0.ckpts, a0.arcs⟩ : Pat)).bind fun r66 => (causal_history_clock fuel (⟨a1, a2⟩ : Pt) r66.1 r66.2.1 r66.2.2).bind fun r72 => some r72.1)
end Go.Mine
namespace Go.Proofs.Ytbmjcbhappjnaaa
open Go.RowKit Go.Mine
attribute [local irreducible] eseq ewp iter
instance : TKey Try.prog 127 Pt.key_ where
  eq a b := by
    rw [show decide (a = b) = (((a.proc == b.proc) && ((a.index == b.index) && true))) from by obtain ⟨_, _⟩ := a; obtain ⟨_, _⟩ := b; rw [Bool.eq_iff_iff]; simp]
    exact eqT127
  chk e a w := by
    have h0 : PartV Try.prog 3 #[.int .i64 a.proc, .int .i64 a.index] 0 (.int .i64 a.proc) := PartV.cell rfl
    have h1 : PartV Try.prog 3 #[.int .i64 a.proc, .int .i64 a.index] 1 (.int .i64 a.index) := PartV.cell rfl
    exact chk2 (n := 9998) Try.underlying127 rfl rfl h0 h1 Try.underlying3 Try.underlying3
  now := ⟨_, Try.underlying127, fun a b => rfl⟩
  bits a := by simp [Pt.key_, Pt.cells_, Instr.sameBits]
end Go.Proofs.Ytbmjcbhappjnaaa
