import Derived.Test.YtbmjcbhappjnaaaLibD
set_option linter.unusedVariables false
set_option linter.unusedSectionVars false
namespace Go.Mine
open Go.RowKit
/-! ### the beginning of a slice of one's own is one's own -/
section
variable {P : Program} {N : Nat} {X : Nat → Prop} {K : Env → World → Prop} {E : Env} {w : World} {t : TypeId} {m : Bool} {rest : List QOp} {sd : Nat} {α : Type} {T : Ty α}
end
end Go.Mine

namespace Go.Mine
open Go.RowKit
/-! ### maps: asked and set, never ranged over -/
/-- cells as a value -/
def mkV (agg : Bool) (cs : List Value) : Value := match agg, cs with
  | true, cs => .agg cs.toArray
  | false, v :: _ => v
  | false, [] => undef
def VR {V : Type} (T : Ty V) (agg : Bool) (w : World) (S : Nat → Prop) (v : Value) (x : V) : Prop := ∃ cs, T.R w S cs x ∧ v = mkV agg cs
theorem VR.enc {V : Type} {T : Ty V} {enc : V → List Value} [hE : Enc T enc] {agg : Bool} {w : World} {S : Nat → Prop} {v : Value} {x : V} (h : VR T agg w S v x) : v = mkV agg (enc x) := by
  obtain ⟨cs, h1, h2⟩ := h; rw [h2, (hE.R _ _ _ _).1 h1]
theorem VR.slice {V : Type} {T : Ty V} {w : World} {S : Nat → Prop} {v : Value} {x : List V} (h : VR (Ty.slice T) false w S v x) : IsSlice T w S v x := by
  obtain ⟨cs, ⟨u, rfl, h1⟩, h2⟩ := h; rw [h2]; exact h1
theorem VR.kept {V : Type} {T : Ty V} {agg : Bool} {w w' : World} {S : Nat → Prop} {v : Value} {x : V} (h : VR T agg w S v x) (hk : Kept S w w') : VR T agg w' S v x := by
  obtain ⟨cs, h1, h2⟩ := h; exact ⟨cs, T.kept hk h1, h2⟩
theorem VR.mono {V : Type} {T : Ty V} {agg : Bool} {w : World} {S S' : Nat → Prop} {v : Value} {x : V} (h : VR T agg w S v x) (hS : ∀ k, S k → k < w.heap.size → S' k) : VR T agg w S' v x := by
  obtain ⟨cs, h1, h2⟩ := h; exact ⟨cs, T.mono hS h1, h2⟩
inductive MRel {K V : Type} (enc : K → Value) (R : Value → V → Prop) : List MapEntry → List (K × V) → Prop
  | nil : MRel enc R [] []
  | cons {e : MapEntry} {es : List MapEntry} {k : K} {x : V} {l : List (K × V)} : e.key = enc k → R e.val x → MRel enc R es l → MRel enc R (e :: es) ((k, x) :: l)
theorem MRel.imp {K V : Type} {enc : K → Value} {R R' : Value → V → Prop} (hR : ∀ v x, R v x → R' v x) {es : List MapEntry} {l : List (K × V)} (h : MRel enc R es l) : MRel enc R' es l := by
  induction h with
  | nil => exact .nil
  | cons h1 h2 _ ih => exact .cons h1 (hR _ _ h2) ih
theorem MRel.snoc {K V : Type} {enc : K → Value} {R : Value → V → Prop} {es : List MapEntry} {l : List (K × V)} (h : MRel enc R es l) {e : MapEntry} {k : K} {x : V} (h1 : e.key = enc k) (h2 : R e.val x) : MRel enc R (es ++ [e]) (l ++ [(k, x)]) := by
  induction h with
  | nil => exact .cons h1 h2 .nil
  | cons a b _ ih => exact .cons a b ih
section
variable {P : Program} {K V : Type} [DecidableEq K] {enc : K → Value} {R : Value → V → Prop} {kt : TypeId} {w : World}
end
/-- a map of one's own -/
def HP.map {K V : Type} (enc : K → Value) (T : Ty V) (agg : Bool) (S : Nat → Prop) (b : Nat) (l : List (K × V)) : HP :=
  ⟨fun k => k = b, S, fun w => ∃ es clock, w.heap[b]? = some (.map es clock) ∧ MRel enc (VR T agg w S) es.toList l, fun {w w'} hk h => by
    obtain ⟨es, clock, h1, h2⟩ := h
    have hb : b < w.heap.size := (Array.getElem?_eq_some_iff.1 h1).1
    exact ⟨es, clock, by rw [hk.block b (.inl rfl) hb]; exact h1, h2.imp fun v x hv => hv.kept ⟨hk.size, fun k hs hl => hk.block k (.inr hs) hl⟩⟩⟩
section
variable {F R0 R : Nat → Prop} {w0 w w' : World} {cs : List HP} {K V : Type} [DecidableEq K] {enc : K → Value} {T : Ty V} {agg : Bool} {S : Nat → Prop}
end
section
variable {P : Program} {N : Nat} {X : Nat → Prop} {Kc : Env → World → Prop} {E : Env} {w : World} {t : TypeId} {m : Bool} {rest : List QOp} {sd : Nat} {F R0 R : Nat → Prop} {w0 : World} {cs : List HP} {K V : Type} [DecidableEq K] {enc : K → Value} {T : Ty V} {agg : Bool} {S : Nat → Prop}
end
/-! ### arrays of numbers as values -/
section
variable {P : Program} {N : Nat} {X : Nat → Prop} {Kc : Env → World → Prop} {E : Env} {w : World} {t : TypeId} {m : Bool} {rest : List QOp} {sd : Nat} {dst : Option Nat}
end
end Go.Mine
