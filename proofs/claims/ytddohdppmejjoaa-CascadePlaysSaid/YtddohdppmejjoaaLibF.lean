import Derived.Test.YtddohdppmejjoaaLibD
set_option linter.unusedVariables false
set_option linter.unusedSectionVars false
namespace Go.Mine
open Go.RowKit
/-! ### the beginning of a slice of one's own is one's own -/
def truncV (v : Value) (k : Nat) : Value :=
  match v with
  | .slice ad _ cap => .slice ad k cap
  | v => v
theorem truncV_own {v : Value} {k : Nat} : (truncV v k).ownBlock = v.ownBlock := by
  cases v <;> try rfl
  rename_i ad n cap
  cases ad <;> rfl
section
variable {P : Program} {N : Fr} {X : Nat → Prop} {K : Env → World → Prop} {E : Env} {w : World} {t : TypeId} {m : Bool} {rest : List QOp} {sd : Nat} {α : Type} {T : Ty α}
theorem Own.trunc {lo : Nat} {S : Nat → Prop} {e : TypeId} {v : Value} {xs ys : List α} {j : Int} (h : Own T w lo S e v xs) (hj : takeL xs j = some ys) : Own T w lo S e (truncV v j.toNat) ys := by
  obtain ⟨h0, h1, rfl⟩ := takeL_eq hj
  have hk : j.toNat ≤ xs.length := by omega
  generalize j.toNat = k at hk
  obtain ⟨cells, hl, ⟨hlen, hrow⟩, hRx⟩ := h.row
  have hcl : ∀ c ∈ cells, c.length = T.sz := fun c hc => by
    obtain ⟨q, hq, rfl⟩ := List.getElem_of_mem hc
    exact T.len (hRx q cells[q] (xs[q]'(by omega)) (by simp) (by simp))
  have hlk : (xs.take k).length = k := by simp; omega
  have hfk : (cells.take k).flatten.length = k * T.sz := by rw [flat_len _ fun c hc => hcl c (List.mem_of_mem_take hc), List.length_take, Nat.min_eq_left (by omega)]
  refine ⟨cells.take k, by simp [hl], ?_, fun i c x hc hx => ?_⟩
  · rw [hlk]
    refine ⟨hfk, ?_⟩
    rcases hrow with ⟨rfl, h2⟩ | ⟨g, cap, cur, rfl, h3, h4, h5, h6, h7, h8⟩
    · have : k = 0 := by omega
      subst this
      exact .inl ⟨rfl, rfl⟩
    · refine .inr ⟨g, cap, cur, rfl, h3, h4, by omega, h6, h7, ?_⟩
      rw [flat_take _ _ hcl, ← h8, List.take_take, Nat.min_eq_left (Nat.mul_le_mul_right _ hk)]
  · rw [truncV_own]
    have hi : i < k := by have := (List.getElem?_eq_some_iff.1 hx).1; omega
    rw [List.getElem?_take_of_lt hi] at hc hx
    exact hRx i c x hc hx
theorem q_takeO {x hi : Operand} {ts e e' l0 : Nat} {S : Nat → Prop} {v : Value} {xs ys : List α} {k' : IntKind} {j : Int} (TS : TSlice P ts e T.sz) (hx : ev E x = some v) (hown : Own T w l0 S e' v xs) (hh : ev E hi = some (.int k' j)) (hj : takeL xs j = some ys)
    (hd : dOK N (some sd) = true) (h : eseq P N X K rest (Env.set E sd (truncV v j.toNat)) w) : eseq P N X K (⟨none, some sd, .slice ts x none (some hi) none, t, m⟩ :: rest) E w := by
  obtain ⟨h0, h1, rfl⟩ := takeL_eq hj
  obtain ⟨n, rfl⟩ := Int.eq_ofNat_of_zero_le h0
  obtain ⟨ad, cap, rfl, h2, _⟩ := hown.isSlice
  obtain ⟨inf, h5, h6⟩ := TS.size
  have hn : n ≤ xs.length := by simpa using h1
  refine q_pure _ rfl hd (fun a ha w' => ?_) h
  simp [execOp, QOp.oper, ha.eval hx, ha.eval hh, Instr.sliceAt, Instr.slice, Instr.sliceBounds, run_sliceBound (show n ≤ cap by omega), run_under TS.under, run_size h5, truncV]
  intro _
  obtain ⟨cells, hl, ⟨hlen, hrow⟩, hRx⟩ := hown.row
  rcases hrow with ⟨he, _⟩ | ⟨g, cap', cur, he, _⟩
  · simp only [Value.slice.injEq] at he; rw [he.1]; rfl
  · simp only [Value.slice.injEq] at he; rw [he.1]; rfl
end
end Go.Mine

namespace Go.Mine
open Go.RowKit
/-! ### maps: asked and set, never ranged over -/
/-- cells as a value -/
def mkV (agg : Bool) (cs : List Value) : Value := match agg, cs with
  | true, cs => .agg cs.toArray
  | false, v :: _ => v
  | false, [] => undef
def VR {V : Type} (T : Ty V) (agg : Bool) (w : World) (S : Nat → Prop) (v : Value) (x : V) : Prop := ∃ cs, T.R w S cs x ∧ v = mkV agg cs
theorem VR.enc {V : Type} {T : Ty V} {enc : V → List Value} [hE : Enc T enc] {agg : Bool} {w : World} {S : Nat → Prop} {v : Value} {x : V} (h : VR T agg w S v x) : v = mkV agg (enc x) := by
  obtain ⟨cs, h1, h2⟩ := h; rw [h2, (hE.R _ _ _ _).1 h1]
theorem VR.slice {V : Type} {T : Ty V} {w : World} {S : Nat → Prop} {v : Value} {x : List V} (h : VR (Ty.slice T) false w S v x) : IsSlice T w S v x := by
  obtain ⟨cs, ⟨u, rfl, h1⟩, h2⟩ := h; rw [h2]; exact h1
theorem VR.kept {V : Type} {T : Ty V} {agg : Bool} {w w' : World} {S : Nat → Prop} {v : Value} {x : V} (h : VR T agg w S v x) (hk : Kept S w w') : VR T agg w' S v x := by
  obtain ⟨cs, h1, h2⟩ := h; exact ⟨cs, T.kept hk h1, h2⟩
theorem VR.mono {V : Type} {T : Ty V} {agg : Bool} {w : World} {S S' : Nat → Prop} {v : Value} {x : V} (h : VR T agg w S v x) (hS : ∀ k, S k → k < w.heap.size → S' k) : VR T agg w S' v x := by
  obtain ⟨cs, h1, h2⟩ := h; exact ⟨cs, T.mono hS h1, h2⟩
inductive MRel {K V : Type} (enc : K → Value) (R : Value → V → Prop) : List MapEntry → List (K × V) → Prop
  | nil : MRel enc R [] []
  | cons {e : MapEntry} {es : List MapEntry} {k : K} {x : V} {l : List (K × V)} : e.key = enc k → R e.val x → MRel enc R es l → MRel enc R (e :: es) ((k, x) :: l)
theorem MRel.imp {K V : Type} {enc : K → Value} {R R' : Value → V → Prop} (hR : ∀ v x, R v x → R' v x) {es : List MapEntry} {l : List (K × V)} (h : MRel enc R es l) : MRel enc R' es l := by
  induction h with
  | nil => exact .nil
  | cons h1 h2 _ ih => exact .cons h1 (hR _ _ h2) ih
theorem MRel.snoc {K V : Type} {enc : K → Value} {R : Value → V → Prop} {es : List MapEntry} {l : List (K × V)} (h : MRel enc R es l) {e : MapEntry} {k : K} {x : V} (h1 : e.key = enc k) (h2 : R e.val x) : MRel enc R (es ++ [e]) (l ++ [(k, x)]) := by
  induction h with
  | nil => exact .cons h1 h2 .nil
  | cons a b _ ih => exact .cons a b ih
section
variable {P : Program} {K V : Type} [DecidableEq K] {enc : K → Value} {R : Value → V → Prop} {kt : TypeId} {w : World}
end
/-- a map of one's own -/
def HP.map {K V : Type} (enc : K → Value) (T : Ty V) (agg : Bool) (S : Nat → Prop) (b : Nat) (l : List (K × V)) : HP :=
  ⟨fun k => k = b, S, fun w => ∃ es clock, w.heap[b]? = some (.map es clock) ∧ MRel enc (VR T agg w S) es.toList l, fun {w w'} hk h => by
    obtain ⟨es, clock, h1, h2⟩ := h
    have hb : b < w.heap.size := (Array.getElem?_eq_some_iff.1 h1).1
    exact ⟨es, clock, by rw [hk.block b (.inl rfl) hb]; exact h1, h2.imp fun v x hv => hv.kept ⟨hk.size, fun k hs hl => hk.block k (.inr hs) hl⟩⟩⟩
section
variable {F R0 R : Nat → Prop} {w0 w w' : World} {cs : List HP} {K V : Type} [DecidableEq K] {enc : K → Value} {T : Ty V} {agg : Bool} {S : Nat → Prop}
end
section
variable {P : Program} {N : Fr} {X : Nat → Prop} {Kc : Env → World → Prop} {E : Env} {w : World} {t : TypeId} {m : Bool} {rest : List QOp} {sd : Nat} {F R0 R : Nat → Prop} {w0 : World} {cs : List HP} {K V : Type} [DecidableEq K] {enc : K → Value} {T : Ty V} {agg : Bool} {S : Nat → Prop}
end
/-! ### arrays of numbers as values -/
section
variable {P : Program} {N : Fr} {X : Nat → Prop} {Kc : Env → World → Prop} {E : Env} {w : World} {t : TypeId} {m : Bool} {rest : List QOp} {sd : Nat} {dst : Option Nat}
end
end Go.Mine
