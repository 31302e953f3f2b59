/- Chapter 32, plain: the pattern of lineages. -/
import Derived.Test.YtghjjkdfjmnfeaaA32p
import Derived.Test.YtghjjkdfjmnfeaaP32f
set_option linter.unusedSimpArgs false
set_option linter.unusedVariables false
namespace Go.Mine
open Go.RowKit
def fullC (l : List (List Evt)) : List Int := l.map fun r => (r.length : Int)
theorem nI_full {l : List (List Evt)} {j : Nat} : nI (fullC l) j = rl l j := by
  simp only [nI, fullC, rl, Int.toNat_natCast, List.getElem?_map]
  cases l[j]? <;> simp
theorem fullC_length {l : List (List Evt)} : (fullC l).length = l.length := by simp [fullC]
theorem all_o {fuel : Nat} {l : List (List Evt)} (hs : Small l) (hf : 1000000 < fuel) : orphan_all fuel l = some (fullC l) := by
  have hs1 := hs.1
  refine Ok.eq ?_
  unfold orphan_all
  refine (Ok.mk (by omega) (by omega)).bind fun x hx => ?_
  rw [Int.toNat_natCast] at hx
  refine Ok.bind (Ok.for_ l.length (fun k s => s.2 = (k : Int) ∧ s.1.length = l.length ∧ ∀ j : Nat, j < k → nI s.1 j = rl l j) (Q := fun t => t = fullC l) ⟨rfl, by rw [hx]; simp, by omega⟩ (by omega) ?_) fun t ht => Ok.ret ht
  rintro k ⟨y, i⟩ hk ⟨rfl, h1, h2⟩
  simp only at h1 h2
  simp only [orphan_all_B1]
  refine Ok.iteP (fun hlt => ?_) fun hlt => Ok.ret ?_
  · refine (Ok.at (by omega) (by omega)).bind fun r hr => (Ok.at (by omega) (by omega)).bind fun _ _ => (Ok.set (by omega) (by omega)).bind fun z hz => Ok.ret ⟨by omega, w64_nat (by omega), by rw [hz]; simp [h1], fun j hj => ?_⟩
    rw [Int.toNat_natCast] at hr
    simp only; rw [hz, nI_set (by omega) (by omega) (by omega)]
    by_cases e : j = k
    · subst e; rw [if_pos rfl, rl_some hr]
    · rw [if_neg (by omega)]; exact h2 j (by omega)
  · refine List.ext_getElem (by rw [h1]; simp [fullC]) fun j a b => ?_
    rw [nI_gt a, nI_gt b, nI_full]
    exact h2 j (by omega)
/-- the arcs of a lineage's first events -/
def arcR (q : Nat) (r : List Evt) (k : Nat) : List Arc := (List.range k).filterMap fun i => match r[i]? with | some e => if e.kind = 1 then some ⟨e.frm, e.sent.index, (q : Int), ((i + 1 : Nat) : Int)⟩ else none | none => none
theorem arcR_succ {q : Nat} {r : List Evt} {k : Nat} {e : Evt} (h : r[k]? = some e) : arcR q r (k + 1) = if e.kind = 1 then arcR q r k ++ [⟨e.frm, e.sent.index, (q : Int), ((k + 1 : Nat) : Int)⟩] else arcR q r k := by
  unfold arcR
  rw [List.range_succ, List.filterMap_append]
  by_cases hk : e.kind = 1
  · simp [h, hk]
  · simp [h, hk]
theorem arcR_le {q : Nat} {r : List Evt} {k : Nat} : (arcR q r k).length ≤ k := by
  unfold arcR
  have := List.length_filterMap_le (fun i => match r[i]? with | some e => if e.kind = 1 then some (⟨e.frm, e.sent.index, (q : Int), ((i + 1 : Nat) : Int)⟩ : Arc) else none | none => none) (List.range k)
  simpa using this
def arcL (l : List (List Evt)) : Nat → List Arc
  | 0 => []
  | q + 1 => arcL l q ++ arcR q (l[q]?.getD []) (rl l q)
theorem arcL_le {l : List (List Evt)} (hs : Small l) : ∀ q, (arcL l q).length ≤ q * 1000
  | 0 => by simp [arcL]
  | q + 1 => by
    have := arcL_le hs q
    have h2 := @arcR_le q (l[q]?.getD []) (rl l q)
    have h3 := hs.2 q
    simp only [arcL, List.length_append]; omega
theorem row_get {α : Type} {vs : List (List α)} {q : Nat} (h : q < vs.length) : ∃ r, vs[q]? = some r ∧ rl vs q = r.length := ⟨vs[q], by simp [h], by simp [rl, h]⟩
theorem opat_o {fuel : Nat} {l : List (List Evt)} {ck : List (List Int)} (hs : Small l) (hf : 5000000 < fuel) : Ok (orphan_Pattern fuel l ck) fun r => (ConsP l (fullC l) ∧ r = (⟨fullC l, ck, arcL l l.length⟩, true)) ∨ (¬ ConsP l (fullC l) ∧ r = (⟨[], [], []⟩, false)) := by
  have hs1 := hs.1
  unfold orphan_Pattern
  rw [all_o hs (by omega), Option.bind_some]
  refine (cons_o hs (by omega)).bind fun b hb => Ok.ite (fun hc => Ok.ret (.inr ⟨fun h => ?_, rfl⟩)) fun hc => ?_
  · rw [hb.2 h] at hc; cases hc
  have hcons : ConsP l (fullC l) := hb.1 (by simpa using hc)
  rw [Option.bind_some]
  refine Ok.bind (Ok.for_ l.length (fun k s => s = (arcL l k, (k : Int))) (Q := fun t => t = arcL l l.length) rfl (by omega) ?_) fun t ht => Ok.ret (.inl ⟨hcons, by rw [ht]⟩)
  rintro k s hk rfl
  simp only [orphan_Pattern_B1]
  refine Ok.iteP (fun hlt => ?_) fun hlt => Ok.ret ?_
  · obtain ⟨r, hr, hrl⟩ := row_get (vs := l) (q := k) (by omega)
    have c1 : ati l (k : Int) = some r := by rw [ati_cast]; exact hr
    have hb2 := hs.2 k
    have hle := arcL_le hs k
    rw [c1, Option.bind_some]
    refine Ok.bind (Ok.for_ r.length (fun i s => s = (arcL l k ++ arcR k r i, (i : Int))) (Q := fun t => t = arcL l k ++ arcR k r r.length) (by simp [arcR]) (by omega) ?_) fun t ht => Ok.ret ⟨by omega, ?_⟩
    · rintro i s hi rfl
      simp only [orphan_Pattern_B2]
      refine Ok.iteP (fun hlt2 => ?_) fun hlt2 => Ok.ret ?_
      · refine (Ok.at (by omega) (by omega)).bind fun e he => ?_
        rw [Int.toNat_natCast] at he
        have hle2 := @arcR_le k r i
        refine Ok.iteE (fun h1 => ?_) fun h1 => Ok.ret ⟨by omega, ?_⟩
        · refine (Ok.snoc (by simp; omega)).bind fun y hy => Ok.ret ⟨by omega, ?_⟩
          rw [hy, w64_nat (by omega), arcR_succ he, if_pos h1, List.append_assoc]
        · rw [w64_nat (by omega), arcR_succ he, if_neg h1]
      · obtain rfl : i = r.length := by omega
        rfl
    · rw [ht, w64_nat (by omega)]
      simp only [arcL, hr, Option.getD_some, hrl]
  · obtain rfl : k = l.length := by omega
    rfl
end Go.Mine
