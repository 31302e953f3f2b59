/- Printed walks: A18a. -/
import Derived.Test.YtbmjcbhappjnaaaA16
set_option linter.unusedVariables false
set_option linter.unusedSimpArgs false
namespace Go.Mine
open Go.RowKit
def cut_Valid_K1 (fuel : Nat) : Option (Bool) :=
  some true
def cut_Valid_B1 (fuel : Nat) (a1 : (List Int)) (a0 : Pat) (x147 : Int) : Option ((Int) ⊕ (Unit ⊕ (Bool))) :=
  (if (decide (x147 < (a1.length : Int))) = true then (ati a1 x147).bind fun x181 => (orM (decide (x181 < 0)) ((ati a0.lens x147).bind fun x190 => some (decide (x190 < x181)))).bind fun x189 => (if x189 = true then some (Sum.inr (Sum.inr false)) else some (Sum.inl (w64 (x147 + 1)))) else some (Sum.inr (Sum.inl ())))
def cut_Valid (fuel : Nat) (a0 : Pat) (a1 : (List Int)) : Option (Bool) :=
  (if ((a1.length : Int) != (a0.lens.length : Int)) = true then some false else (iter (fun s => cut_Valid_B1 fuel a1 a0 s) fuel 0).bind (fun t => Sum.elim (fun t => cut_Valid_K1 fuel) (fun t => some t) t))
def cut_fits (fuel : Nat) (a0 : Pat) (a1 : (List Int)) : Option (Bool) :=
  (pattern_Check fuel (⟨a0.lens, a0.ckpts, a0.arcs⟩ : Pat)).bind fun r24 => (andM (r24 == 0) ((cut_Valid fuel (⟨a0.lens, a0.ckpts, a0.arcs⟩ : Pat) a1).bind fun r32 => some r32)).bind fun x30 => some x30
def cut_orphan (fuel : Nat) (a0 : Arc) (a1 : (List Int)) : Option (Bool) :=
  (andM (a0.rcv != 0) ((ati a1 a0.to).bind fun x32 => some (decide (a0.rcv ≤ x32)))).bind fun x31 => (andM x31 ((ati a1 a0.fr).bind fun x40 => some (decide (x40 < a0.ix)))).bind fun x39 => some x39
def cut_Orphans_K1 (fuel : Nat) (x220 : (List Int)) : Option ((List Int)) :=
  some x220
def cut_Orphans_B1 (fuel : Nat) (a0 : Pat) (a1 : (List Int)) (x180 : (List Int)) (x182 : Int) : Option (((List Int) × Int) ⊕ ((List Int))) :=
  (if (decide (x182 < (a0.arcs.length : Int))) = true then (ati a0.arcs x182).bind fun x228 => (cut_orphan fuel (⟨x228.fr, x228.ix, x228.to, x228.rcv⟩ : Arc) a1).bind fun r236 => (if r236 = true then (snoc x180 x182).bind fun x241 => some (Sum.inl (x241, (w64 (x182 + 1)))) else some (Sum.inl (x180, (w64 (x182 + 1))))) else some (Sum.inr x180))
def cut_Orphans (fuel : Nat) (a0 : Pat) (a1 : (List Int)) : Option ((List Int)) :=
  (cut_fits fuel (⟨a0.lens, a0.ckpts, a0.arcs⟩ : Pat) a1).bind fun r130 => (if (!r130) = true then some ([] : List Int) else (iter (fun s => cut_Orphans_B1 fuel a0 a1 s.1 s.2) fuel (([] : List Int), 0)).bind (fun t => cut_Orphans_K1 fuel t))
def cut_Consistent (fuel : Nat) (a0 : Pat) (a1 : (List Int)) : Option (Bool) :=
  (cut_fits fuel (⟨a0.lens, a0.ckpts, a0.arcs⟩ : Pat) a1).bind fun r26 => (andM r26 ((cut_Orphans fuel (⟨a0.lens, a0.ckpts, a0.arcs⟩ : Pat) a1).bind fun r35 => some ((r35.length : Int) == 0))).bind fun x33 => some x33
end Go.Mine
namespace Go.Proofs.Ytbmjcbhappjnaaa
open Go.RowKit Go.Mine
attribute [local irreducible] eseq ewp iter
end Go.Proofs.Ytbmjcbhappjnaaa
