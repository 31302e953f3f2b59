/- Chapter 32, plain: the pattern of lineages. -/
import Derived.Test.YtbmjcbhappjnaaaA32p
import Derived.Test.YtbmjcbhappjnaaaP32q
set_option linter.unusedSimpArgs false
set_option linter.unusedVariables false
namespace Go.Mine
open Go.RowKit
/-- the arcs of a lineage's first events -/
def arcR (q : Nat) (r : List Evt) (k : Nat) : List Arc := (List.range k).filterMap fun i => match r[i]? with | some e => if e.kind = 1 then some ⟨e.frm, e.sent.index, (q : Int), ((i + 1 : Nat) : Int)⟩ else none | none => none
theorem arcR_succ {q : Nat} {r : List Evt} {k : Nat} {e : Evt} (h : r[k]? = some e) : arcR q r (k + 1) = if e.kind = 1 then arcR q r k ++ [⟨e.frm, e.sent.index, (q : Int), ((k + 1 : Nat) : Int)⟩] else arcR q r k := by
  unfold arcR
  rw [List.range_succ, List.filterMap_append]
  by_cases hk : e.kind = 1
  · simp [h, hk]
  · simp [h, hk]
theorem arcR_le {q : Nat} {r : List Evt} {k : Nat} : (arcR q r k).length ≤ k := by
  unfold arcR
  have := List.length_filterMap_le (fun i => match r[i]? with | some e => if e.kind = 1 then some (⟨e.frm, e.sent.index, (q : Int), ((i + 1 : Nat) : Int)⟩ : Arc) else none | none => none) (List.range k)
  simpa using this
def arcL (l : List (List Evt)) : Nat → List Arc
  | 0 => []
  | q + 1 => arcL l q ++ arcR q (l[q]?.getD []) (rl l q)
theorem arcL_le {l : List (List Evt)} (hs : Small l) : ∀ q, (arcL l q).length ≤ q * 1000
  | 0 => by simp [arcL]
  | q + 1 => by
    have := arcL_le hs q
    have h2 := @arcR_le q (l[q]?.getD []) (rl l q)
    have h3 := hs.2 q
    simp only [arcL, List.length_append]; omega
end Go.Mine
