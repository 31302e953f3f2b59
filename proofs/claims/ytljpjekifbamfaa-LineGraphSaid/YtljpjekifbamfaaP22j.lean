/- Recovery lines, plain: what the graph says is the greatest consistent cut of the checkpoints. -/
import Derived.Test.YtljpjekifbamfaaA22e
import Derived.Test.YtljpjekifbamfaaP20d
import Derived.Test.YtljpjekifbamfaaP22g
set_option linter.unusedSimpArgs false
set_option linter.unusedVariables false
namespace Go.Mine
open Go.RowKit
theorem rwI_ck {p : Pat} {q : Int} : rwI p.ckpts q = ckR p q := rfl
theorem mem_alRow {r : List Int} {l y : Int} {b : Bool} (h : y ∈ alRow r l b) : y ∈ r ∨ (b = false ∧ y = l) := by
  unfold alRow at h
  split at h
  · rename_i hc
    rcases List.mem_append.1 h with h1 | h1
    · exact .inl h1
    · simp at h1 hc; exact .inr ⟨hc.1, h1⟩
  · exact .inl h
theorem mem_alRow' {r : List Int} {l y : Int} {b : Bool} (h : y ∈ r ∨ (b = false ∧ y = l)) : y ∈ alRow r l b := by
  unfold alRow
  split
  · rename_i hc
    rcases h with h | h
    · simp [h]
    · simp [h.2]
  · rename_i hc
    rcases h with h | ⟨rfl, rfl⟩
    · exact h
    · simpa using hc
/-- what stays is behind no other consistent cut -/
theorem rch_below {n B : Nat} {p : Pat} (h : PatG n B p) {f : List Int} (hf : ∀ q ∈ f, 0 ≤ q ∧ q < n) {z : List Int} (hz : AllC n (allowL p f) z) (hc : Cons p.arcs z) {x : Pt} (hr : Rch n p (lastN p f) x) : 1 ≤ x.index ∧ nI z x.proc ≤ nI (ckR p x.proc) (x.index - 1) := by
  have hl := h.len
  obtain ⟨hv, hp⟩ := lastN_vn h hf
  have hzq : ∀ q : Nat, q < n → nI z q ∈ ckR p q ∨ (¬ (q : Int) ∈ f ∧ nI z q = nI p.lens q) := fun q hq => by
    have := hz.2 q hq
    rw [rwI_allowL (by omega)] at this
    rcases mem_alRow this with h1 | ⟨h1, h2⟩
    · exact .inl h1
    · exact .inr ⟨by simpa using h1, h2⟩
  induction hr with
  | @start x hm =>
    obtain ⟨q, hq, rfl⟩ := List.mem_map.1 hm
    have hq2 := hf q hq
    obtain ⟨k, rfl⟩ := Int.eq_ofNat_of_zero_le hq2.1
    have hcg := h.ckI (q := (k : Int)) (by omega) (by omega)
    have hpos := hcg.pos
    refine ⟨by simp only; omega, ?_⟩
    rcases hzq k (by omega) with h1 | h1
    · simp only
      rw [show ((ckR p k).length : Int) - 1 = (((ckR p k).length - 1 : Nat) : Int) by omega, nI_get (x := ckR p k) (by omega)]
      exact hcg.last (List.getElem?_eq_getElem (by omega)) _ h1
    · exact absurd hq h1.1
  | @step e hr he ih =>
    refine ⟨he.pos h, ?_⟩
    rcases he with ⟨q, j, h1, h2, rfl⟩ | ⟨a, ha, h1, rfl⟩
    · have hcg := h.ckI (q := (q : Int)) (by omega) (by omega)
      simp only [chE] at ih ⊢
      obtain ⟨i1, i2⟩ := ih
      have : nI (ckR p q) ((j : Int) - 1) ≤ nI (ckR p q) (((j + 1 : Nat) : Int) - 1) := by
        rw [show (j : Int) - 1 = ((j - 1 : Nat) : Int) by omega, show ((j + 1 : Nat) : Int) - 1 = (j : Int) by omega, nI_get (by omega), nI_get h2]
        have := List.pairwise_iff_getElem.1 hcg.asc (j - 1) j (by omega) h2 (by omega); omega
      omega
    · have hag := h.arc a ha
      simp only [arcE] at ih ⊢
      obtain ⟨i1, i2⟩ := ih
      have hcf := h.ckI hag.fr.1 hag.fr.2
      have hct := h.ckI hag.to.1 hag.to.2
      have e1 := ivl_le (r := ckR p a.fr) (k := a.ix)
      have hfr : nI z a.fr < a.ix := by
        rw [show (ivl (ckR p a.fr) a.ix : Int) - 1 = ((ivl (ckR p a.fr) a.ix - 1 : Nat) : Int) by omega, nI_get (by omega)] at i2
        have := (ivl_lt hcf.asc (k := a.ix) (show ivl (ckR p a.fr) a.ix - 1 < _ by omega)).2 (by omega)
        omega
      have hto : nI z a.to < a.rcv := by
        have := orph_not.1 (hc a ha)
        omega
      obtain ⟨k, hk⟩ := Int.eq_ofNat_of_zero_le hag.to.1
      have hkn : k < n := by have := hag.to.2; omega
      rcases hzq k hkn with h3 | h3
      · rw [← hk] at h3
        obtain ⟨j, hj, hje⟩ := List.getElem_of_mem h3
        have hji := (ivl_lt hct.asc (k := a.rcv) hj).1 (by omega)
        have e2 := ivl_le (r := ckR p a.to) (k := a.rcv)
        rw [show (ivl (ckR p a.to) a.rcv : Int) - 1 = ((ivl (ckR p a.to) a.rcv - 1 : Nat) : Int) by omega, nI_get (by omega), ← hje]
        rcases Nat.lt_or_ge j (ivl (ckR p a.to) a.rcv - 1) with h5 | h5
        · have := List.pairwise_iff_getElem.1 hct.asc j (ivl (ckR p a.to) a.rcv - 1) hj (by omega) h5; omega
        · have : j = ivl (ckR p a.to) a.rcv - 1 := by omega
          simp only [this]; exact Int.le_refl _
      · exfalso
        have := hag.rcv.2
        rw [hk] at this hto
        have := h3.2; omega
/-- the line of a failure -/
theorem fail_l {n B : Nat} {p : Pat} (hp : PatG n B p) (hn : n ≤ 5) (hB : B ≤ 64) (f : List Int) (hfl : f.length ≤ 1000) : ∃ x, line_Failure 10000000 p f = some x ∧ AllC n (allowL p f) x ∧ Cons p.arcs x ∧ ∀ z, AllC n (allowL p f) z → Cons p.arcs z → Le z x := by
  obtain ⟨r, h1, h3⟩ := greatest_g (fuel := 10000000) hp hn hB (by omega) (allow_ag hp hn hB (f := f))
  rcases h3 with ⟨h4, h5, h6, h7⟩ | ⟨_, h⟩
  · refine ⟨r.1, ?_, h5, h6, h7⟩
    unfold line_Failure
    rw [show (⟨p.lens, p.ckpts, p.arcs⟩ : Pat) = p from rfl, allow_l hp hn hB (by omega) hfl, Option.bind_some, h1]; rfl
  · exact absurd (zero_cons hp hn hB) (h _ (zero_all hp hn hB))
theorem recS_fcut {n B : Nat} {p : Pat} (h : PatG n B p) (hn : n ≤ 5) (hB : B ≤ 64) {f : List Int} (hf : ∀ q ∈ f, 0 ≤ q ∧ q < n) (hfl : f.length ≤ 1000) {x : List Int} (hx : RecS n p (lastN p f) x) : line_Failure 10000000 p f = some x := by
  obtain ⟨y, g0, g1, g2, g3⟩ := fail_l h hn hB f hfl
  have hl := h.len
  obtain ⟨hcut, hcons⟩ := hx.good h
  have hall : AllC n (allowL p f) x := by
    refine ⟨hx.1, fun q hq => ?_⟩
    rw [rwI_allowL (by omega)]
    refine mem_alRow' ?_
    rw [rwI_ck]
    obtain ⟨u, u1, u2, u3, u4⟩ := hx.2 q hq
    by_cases hu : u ≤ (ckR p q).length
    · left
      rw [u4]; unfold recQ
      rw [if_neg (by omega), show ((u : Int) - 1) = ((u - 1 : Nat) : Int) by omega, nI_get (by omega)]
      exact List.getElem_mem _
    · right
      refine ⟨?_, by rw [u4]; unfold recQ; rw [if_pos (by omega)]⟩
      have hnf : ¬ (q : Int) ∈ f := fun hin => by
        have := (u3 (ckR p q).length (Nat.le_refl _)).1 (.start (List.mem_map.2 ⟨(q : Int), hin, rfl⟩))
        omega
      simpa using hnf
  have h1 : Le x y := g3 x hall hcons
  have h2 : Le y x := fun q hq => by
    have hqn : q < n := by rw [g1.1] at hq; exact hq
    obtain ⟨u, u1, u2, u3, u4⟩ := hx.2 q hqn
    rw [u4]; unfold recQ
    split
    · have := g1.2 q hqn
      rw [rwI_allowL (by omega)] at this
      rcases mem_alRow this with h5 | h5
      · exact (h.ckI (q := (q : Int)) (by omega) (by omega)).le _ h5
      · rw [h5.2]; exact Int.le_refl _
    · rename_i hlt
      have := (rch_below h hf g1 g2 ((u3 u (by omega)).2 (Nat.le_refl _))).2
      exact this
  rw [g0, Le.antisymm g1.1 hx.1 h2 h1]
theorem lineGraph {a0 a1 : List Int} (h0 : ∀ x ∈ a0, U8 x) (h1 : ∀ x ∈ a1, U8 x) : law22_LineGraph 10000000 a0 a1 = some true := by
  unfold law22_LineGraph
  rw [awake22, Option.bind_some]
  simp only [Bool.not_true, Bool.false_eq_true, if_false]
  refine Ok.eq ?_
  refine (Ok.new (by omega) (by omega) h0).bind fun r hr => (pattern_g hr (m := 24) (by omega) (by omega)).bind fun P ⟨n, hn2, hn4, hp, _⟩ => ?_
  have hl := hp.len
  simp only [show (⟨P.1.lens, P.1.ckpts, P.1.arcs⟩ : Pat) = P.1 from rfl]
  refine (Ok.new (by omega) (by omega) h1).bind fun r2 hr2 => ?_
  rw [hl]
  refine (procs_g (n := n) (by omega) (by omega) hr2).bind fun F ⟨hF, hFl⟩ => ?_
  obtain ⟨x, e1, hx⟩ := recovery_g (fuel := 10000000) hp (by omega) (by omega) (by omega) hF (by omega)
  rw [recS_fcut hp (by omega) (by omega) hF (by omega) hx, Option.bind_some, e1, Option.bind_some, sameInts_refl (by rw [hx.1]; omega) (by omega)]
  exact Ok.ret rfl
end Go.Mine
