/- Histories as values. -/
import Derived.Test.YtbmjcbhappjnaaaData
set_option linter.unusedSimpArgs false
set_option linter.unusedVariables false
namespace Go.Mine
open Go.RowKit
/-- a result that lies in a variable, and another -/
theorem resC2 {P : Program} {E : Env} {w : World} {fn : Func} {s s' : Nat} {tt : TypeId} {b n : Nat} {vs : List Value} {v' : Value} [T : TAgg P tt n] (h : fn.results = #[.cell s tt, .tmp s']) (hs : Env.find E s = some (.pointer (some ⟨b, 0, none⟩))) (hc : CellsAt w b 0 vs) (hn : vs.length = n) (hs' : Env.find E s' = some v') :
    Res P fn E w (.tuple #[.agg vs.toArray, v']) := fun a N d ha => by
  obtain ⟨de, h1, h2⟩ := T.under
  obtain ⟨inf, h3, h4⟩ := T.size
  have hA := run_isAgg h1 (w.atd d)
  rw [h2] at hA
  have hc' : CellsAt (w.atd d) b (0 + 0) vs := fun j v hj => hc j v hj
  have hl := run_loadCellsFrom (P := P) vs 0 #[] (w.atd d) hc'
  rw [hn, ← h4] at hl
  simp [results, h, ha.slot s _ hs, ha.slot s' _ hs', asAddr, loadVar, hA, run_size h3, loadCells, hl]
/-- a history as a value -/
structure HistV where
  lens : List Int
  ckpts : List (List Int)
  arcs : List Arc
  clocks : List (List Int)
  vecs : List (List (List Int))
  forced : List (List Bool)
deriving DecidableEq
structure HistAt (w : World) (S : Nat → Prop) (vL vC vA vK vV vF : Value) (h : HistV) : Prop where
  lens : IsSlice Ty.int w S vL h.lens
  ckpts : IsSlice Ty.int.slice w S vC h.ckpts
  arcs : IsSlice arcTy w S vA h.arcs
  clocks : IsSlice Ty.int.slice w S vK h.clocks
  vecs : IsSlice Ty.int.slice.slice w S vV h.vecs
  forced : IsSlice Ty.bool.slice w S vF h.forced
theorem HistAt.kept {w w' : World} {S : Nat → Prop} {vL vC vA vK vV vF : Value} {h : HistV} (hh : HistAt w S vL vC vA vK vV vF h) (hk : Kept S w w') : HistAt w' S vL vC vA vK vV vF h :=
  ⟨hh.lens.kept hk, hh.ckpts.kept hk, hh.arcs.kept hk, hh.clocks.kept hk, hh.vecs.kept hk, hh.forced.kept hk⟩
theorem HistAt.mono {w : World} {S S' : Nat → Prop} {vL vC vA vK vV vF : Value} {h : HistV} (hh : HistAt w S vL vC vA vK vV vF h) (hs : ∀ k, S k → S' k) : HistAt w S' vL vC vA vK vV vF h :=
  ⟨hh.lens.mono fun k hk _ => hs k hk, hh.ckpts.mono fun k hk _ => hs k hk, hh.arcs.mono fun k hk _ => hs k hk, hh.clocks.mono fun k hk _ => hs k hk, hh.vecs.mono fun k hk _ => hs k hk, hh.forced.mono fun k hk _ => hs k hk⟩
theorem HistAt.ext {w w' : World} {S : Nat → Prop} {vL vC vA vK vV vF : Value} {h : HistV} (hh : HistAt w S vL vC vA vK vV vF h) (hB : Below w.heap.size w w') : HistAt w' S vL vC vA vK vV vF h := hh.kept (.of_ext hB)
theorem Sep.start0 (w : World) : Sep (fun _ => False) (fun _ => False) (fun _ => False) w w [] :=
  ⟨StepF.refl _ _, fun _ h => h.elim, fun _ h => h, fun _ h => h.elim, fun _ h => (by cases h), fun _ h => (by cases h), fun _ h => (by cases h), List.Pairwise.nil⟩
theorem Sep.new0 {R : Nat → Prop} {w0 w : World} {cs : List HP} (h : Sep (fun _ => False) (fun _ => False) R w0 w cs) : ∀ k, R k → w0.heap.size ≤ k := fun k hk => by
  rcases h.ro1 k hk with h | h | h
  · exact h.elim
  · exact h.elim
  · exact h
def HistV.none : HistV := ⟨[], [], [], [], [], []⟩
end Go.Mine
