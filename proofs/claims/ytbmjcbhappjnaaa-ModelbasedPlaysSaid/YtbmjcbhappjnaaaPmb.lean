/- Plain: the model-based protocol: what is true behind every act. -/
import Derived.Test.YtbmjcbhappjnaaaC26
import Derived.Test.YtbmjcbhappjnaaaPH
import Derived.Test.YtbmjcbhappjnaaaPivl
import Derived.Test.YtbmjcbhappjnaaaP17a
set_option linter.unusedSimpArgs false
set_option linter.unusedVariables false
namespace Go.Mine
open Go.RowKit
theorem nth_nI {xs : List Int} {i : Nat} : nth xs i = nI xs i := by simp [nth, nI]
theorem nth_rw {α : Type} {xs : List (List α)} {i : Nat} : nth xs i = rwL xs i := by simp [nth, rwL]; rfl
theorem nI_appL {xs ys : List Int} {j : Nat} (h : j < xs.length) : nI (xs ++ ys) j = nI xs j := by simp [nI, List.getElem?_append_left h]
theorem nI_appR {xs : List Int} {x : Int} : nI (xs ++ [x]) (xs.length : Nat) = x := by simp [nI]
theorem Hb.incl {A B : List Arc} {s j q k : Int} (h : Hb A s j q k) (hi : ∀ a ∈ A, a.rcv ≠ 0 → a ∈ B) : Hb B s j q k := by
  induction h with
  | same h1 => exact .same h1
  | arc h1 h2 h3 _ ih => exact .arc (hi _ h1 h2) h2 h3 ih
/-- what is behind an event does not change with events that come later -/
theorem Hb.old {A B : List Arc} {lens : List Int} {n : Nat} (hA : ∀ a ∈ A, ArcG n lens a) {s j q k : Int} (h : Hb B s j q k) (hi : ∀ a ∈ B, a.rcv ≠ 0 → a ∈ A ∨ nI lens a.to < a.rcv) : k ≤ nI lens q → Hb A s j q k := by
  induction h with
  | same h1 => exact fun _ => .same h1
  | @arc a k h1 h2 h3 _ ih =>
    intro hk
    rcases hi a h1 h2 with h5 | h5
    · exact .arc h5 h2 h3 (ih (hA a h5).ix.2)
    · omega
theorem ClkS.old {A B : List Arc} {lens : List Int} {n : Nat} (hA : ∀ a ∈ A, ArcG n lens a) {q k : Int} {c : List Int} (h : ClkS n A q k c) (hk : k ≤ nI lens q) (hi : ∀ a ∈ B, a.rcv ≠ 0 → a ∈ A ∨ nI lens a.to < a.rcv) (hj : ∀ a ∈ A, a.rcv ≠ 0 → a ∈ B) : ClkS n B q k c :=
  ⟨h.1, fun s hs => ⟨(h.2 s hs).1, fun j h1 hb => (h.2 s hs).2.1 j h1 (hb.old hA hi hk), fun h1 => ((h.2 s hs).2.2 h1).incl hj⟩⟩
theorem ClkS.own {n B : Nat} {p : Pat} (h : PatG n B p) {q : Nat} (hq : q < n) {k : Int} {c : List Int} (hc : ClkS n p.arcs q k c) (hk0 : 0 ≤ k) (hk : k ≤ nI p.lens q) : nI c q = k := by
  obtain ⟨ρ, hρ⟩ := h.rank
  obtain ⟨h1, h2, h3⟩ := hc.2 q hq
  rcases Int.lt_or_le (nI c q) 1 with h5 | h5
  · rcases Int.lt_or_le k 1 with h6 | h6
    · omega
    · have := h2 k h6 (.same (Int.le_refl _)); omega
  · have := (h3 h5).self h hρ h5 (by omega) (by omega) hk hk0
    rcases Int.lt_or_le k 1 with h6 | h6
    · omega
    · have := h2 k h6 (.same (Int.le_refl _)); omega
theorem ClkS.bnd {n B : Nat} {p : Pat} (h : PatG n B p) {q k : Int} {c : List Int} (hc : ClkS n p.arcs q k c) (hk : k ≤ nI p.lens q) {s : Nat} (hs : s < n) : 0 ≤ nI c s ∧ nI c s ≤ nI p.lens s := by
  obtain ⟨ρ, hρ⟩ := h.rank
  have h1 := hc.2 s hs
  refine ⟨h1.1, ?_⟩
  rcases Int.lt_or_le (nI c s) 1 with h5 | h5
  · have := (h.nI_rng s).1; omega
  · exact ((h1.2.2 h5).rank h hρ h5 (by omega) (by omega) hk).2
theorem ivl_mono' {r : List Int} {j k : Int} (h : j ≤ k) : ivl r j ≤ ivl r k := by
  unfold ivl
  exact List.countP_mono_left fun x _ hx => by simp at hx ⊢; omega
theorem ivl_max {r : List Int} {j k : Int} : (ivl r (max j k) : Int) = max (ivl r j : Int) (ivl r k) := by
  rcases Int.le_total j k with h | h
  · have := ivl_mono' (r := r) h; rw [Int.max_eq_right h]; omega
  · have := ivl_mono' (r := r) h; rw [Int.max_eq_left h]; omega
/-- the interval of s that is known at an event -/
def dep (κ : Int → Int → List Int) (C : List (List Int)) (q k : Int) (s : Nat) : Int := (ivl (rwL C s) (nI (κ q k) s) : Int)
structure MbI (n m W : Nat) (c : C26) (κ : Int → Int → List Int) : Prop where
  pat : PatH n m W ⟨c.lens, c.ckpts, c.arcs⟩
  vl : c.vecs.length = n
  fl : c.forced.length = n
  nl : c.now.length = n
  sl : c.sent.length = n
  al : c.act.length = n
  clk : ∀ q : Nat, q < n → ∀ k, 0 ≤ k → k ≤ nI c.lens q → ClkS n c.arcs q k (κ q k)
  rows : ∀ q : Nat, q < n → (rwL c.vecs q).length = (rwL c.ckpts q).length ∧ (rwL c.forced q).length = (rwL c.ckpts q).length
  now : ∀ q : Nat, q < n → (rwL c.now q).length = n ∧ ∀ s : Nat, s < n → nI (rwL c.now q) s = if s = q then ((rwL c.ckpts q).length : Int) else dep κ c.ckpts q (nI c.lens q) s
  vec : ∀ q : Nat, q < n → ∀ (j : Nat) (v : List Int), (rwL c.vecs q)[j]? = some v → v.length = n ∧ ∀ s : Nat, s < n → nI v s = dep κ c.ckpts q (nI (rwL c.ckpts q) j) s
  act : ∀ q : Nat, q < n → (nth c.act q = true ↔ ∀ y ∈ rwL c.ckpts q, y < nI c.lens q)
  sent : ∀ q : Nat, q < n → (nth c.sent q = true ↔ ∃ a ∈ c.arcs, a.fr = q ∧ ∀ y ∈ rwL c.ckpts q, y < a.ix)
  pos : ∀ a ∈ c.arcs, 1 ≤ a.ix
  fly : ∀ l ∈ c.fly, ∃ (j : Nat) (a : Arc), l.arc = j ∧ c.arcs[j]? = some a ∧ a.rcv = 0 ∧ l.vec.length = n ∧ ∀ s : Nat, s < n → nI l.vec s = dep κ c.ckpts a.fr a.ix s
  nod : (c.fly.map (·.arc)).Nodup
  fll : c.fly.length ≤ m
  fix : ∀ a ∈ c.arcs, ∀ k, a.ix ≤ k → k ≤ nI c.lens a.fr → ivl (rwL c.ckpts a.fr) k = ivl (rwL c.ckpts a.fr) a.ix → ∀ s : Nat, s < n → dep κ c.ckpts a.fr k s = dep κ c.ckpts a.fr a.ix s
theorem PatH.ckI2 {n m W : Nat} {p : Pat} (h : PatH n m W p) {q : Nat} (h1 : q < n) : CkG (rwL p.ckpts q) (nI p.lens q) := by
  have hk := h.ck; have hl := h.len
  exact h.row q _ _ (rwL_get (by omega)) (nI_get? (by omega))
theorem MbI.start {n : Nat} : MbI n 0 0 (C26.start n) fun _ _ => List.replicate n 0 := by
  have hz : ∀ s : Nat, s < n → nI (List.replicate n (0 : Int)) s = 0 := fun s hs => by simp [nI, hs]
  have hc : ∀ s : Nat, s < n → rwL (List.replicate n [(0 : Int)]) s = [0] := fun s hs => rwL_rep (by omega) (by omega)
  have hd : ∀ (q k : Int) (s : Nat), s < n → dep (fun _ _ => List.replicate n 0) (List.replicate n [0]) q k s = 0 := fun q k s hs => by
    unfold dep; rw [hc s hs, hz s hs]; rfl
  unfold C26.start
  refine ⟨PatH.start, by simp, by simp, by simp, by simp, by simp, fun q hq k h0 h1 => ?_, fun q hq => ?_, fun q hq => ?_, fun q hq j v hv => ?_, fun q hq => ?_, fun q hq => ?_, fun a ha => absurd ha (by simp), fun l hl => absurd hl (by simp), by simp, by simp, fun a ha => absurd ha (by simp)⟩
  · simp only at h1
    rw [hz q hq] at h1
    have : k = 0 := by omega
    subst this
    exact ClkS.zero (PatH.start.g (B := 0) (Nat.le_refl _) (Nat.le_refl _))
  · simp only
    rw [hc q hq, rwL_rep (by omega) (by omega), rwL_rep (by omega) (by omega)]; exact ⟨rfl, rfl⟩
  · simp only
    have e : rwL ((List.range n).map (unitV n)) (q : Int) = unitV n q := by simp [rwL, hq]
    rw [e, hc q hq]
    refine ⟨by simp [unitV], fun s hs => ?_⟩
    rw [hd _ _ s hs]
    have := nI_set (xs := List.replicate n (0 : Int)) (i := (q : Int)) (j := (s : Int)) (x := 1) (by omega) (by simp; omega) (by omega)
    rw [Int.toNat_natCast, hz s hs] at this
    show nI ((List.replicate n 0).set q 1) s = _
    rw [this]
    by_cases e2 : s = q
    · subst e2; simp
    · rw [if_neg (by omega), if_neg e2]
  · simp only at hv ⊢
    rw [rwL_rep (by omega) (by omega)] at hv
    cases j with
    | succ j => simp at hv
    | zero =>
      simp at hv
      subst hv
      refine ⟨by simp, fun s hs => ?_⟩
      rw [hz s hs, hd _ _ s hs]
  · simp only
    rw [hc q hq, hz q hq]
    constructor
    · intro h; simp [nth, hq] at h
    · intro h; have := h 0 (by simp); omega
  · simp only
    constructor
    · intro h; simp [nth, hq] at h
    · rintro ⟨a, ha, _⟩; simp at ha
section
variable {n m W : Nat} {c : C26} {κ : Int → Int → List Int} (h : MbI n m W c κ)
include h
theorem MbI.g : PatG n (max m W) ⟨c.lens, c.ckpts, c.arcs⟩ := h.pat.g (Nat.le_max_left _ _) (Nat.le_max_right _ _)
theorem MbI.wide : MbI n (m + 1) (W + 1) c κ :=
  { h with pat := (h.pat.wide (by omega)).more (by omega), fll := by have := h.fll; omega }
theorem MbI.clk_rng {q : Nat} (hq : q < n) {k : Int} (h0 : 0 ≤ k) (h1 : k ≤ nI c.lens q) {s : Nat} (hs : s < n) : 0 ≤ nI (κ q k) s ∧ nI (κ q k) s ≤ nI c.lens s := (h.clk q hq k h0 h1).bnd h.g h1 hs
theorem MbI.clk_own {q : Nat} (hq : q < n) {k : Int} (h0 : 0 ≤ k) (h1 : k ≤ nI c.lens q) : nI (κ q k) q = k := (h.clk q hq k h0 h1).own h.g hq h0 h1
/-- a checkpoint -/
theorem MbI.ckpt {q : Nat} (hq : q < n) (hact : nth c.act q = true) (b : Bool) : MbI n m (W + 1) (c.checkpoint q b) κ := by
  have hck := h.pat.ck; have hl := h.pat.len; have hvl := h.vl; have hfl := h.fl; have hnl := h.nl; have hsl := h.sl; have hal := h.al
  simp only at hck hl
  have hC := h.pat.ckI2 hq
  simp only at hC
  have hlt := (h.act q hq).1 hact
  have hp := hC.pos
  obtain ⟨y, hy⟩ : ∃ y, (rwL c.ckpts q)[(rwL c.ckpts q).length - 1]? = some y := ⟨_, List.getElem?_eq_getElem (by omega)⟩
  have hyx := hlt y (List.mem_of_getElem? hy)
  have hpm := h.pat.mark (q := q) (r := rwL c.ckpts q) (x := nI c.lens q) (y := y) (rwL_get (xs := c.ckpts) (by omega)) (nI_get? (x := c.lens) (by omega)) hy (by omega)
  simp only at hpm
  have hrw : ∀ s : Nat, rwL (c.ckpts.set q (rwL c.ckpts q ++ [nI c.lens q])) s = if s = q then rwL c.ckpts q ++ [nI c.lens q] else rwL c.ckpts s := fun s => by
    rw [rwL_set (by omega) (by omega)]
    by_cases e : s = q
    · rw [if_pos (by omega), if_pos e]
    · rw [if_neg (by omega), if_neg e]
  have hiv : ∀ (s : Nat) (k : Int), s < n → k ≤ nI c.lens s → ivl (rwL (c.ckpts.set q (rwL c.ckpts q ++ [nI c.lens q])) s) k = ivl (rwL c.ckpts s) k := fun s k hs hk => by
    rw [hrw s]
    by_cases e : s = q
    · subst e; rw [if_pos rfl, ivl_snoc, if_neg (by omega), Nat.add_zero]
    · rw [if_neg e]
  have hdep : ∀ (q' : Nat) (k : Int) (s : Nat), q' < n → 0 ≤ k → k ≤ nI c.lens q' → s < n → dep κ (c.ckpts.set q (rwL c.ckpts q ++ [nI c.lens q])) q' k s = dep κ c.ckpts q' k s := fun q' k s hq' h0 h1 hs => by
    unfold dep
    rw [hiv s _ hs (h.clk_rng hq' h0 h1 hs).2]
  have hlr : ∀ s : Nat, 0 ≤ nI c.lens s := fun s => (h.pat.nI_rng s).1
  unfold C26.checkpoint
  rw [nth_rw, nth_nI, nth_rw, nth_rw, nth_rw]
  refine ⟨hpm, by simp [hvl], by simp [hfl], by simp [hnl], by simp [hsl], by simp [hal], h.clk, fun q' hq' => ?_, fun q' hq' => ?_, fun q' hq' j v hv => ?_, fun q' hq' => ?_, fun q' hq' => ?_, h.pos, fun l hl2 => ?_, h.nod, h.fll, fun a ha k h1 h2 h3 s hs => ?_⟩
  · simp only
    rw [hrw q', rwL_set (by omega) (by omega), rwL_set (by omega) (by omega)]
    have := h.rows q' hq'
    by_cases e : q' = q
    · subst e; simp [this]
    · rw [if_neg (show ¬ (q' : Int) = q by omega), if_neg (show ¬ (q' : Int) = q by omega), if_neg e]; exact this
  · simp only
    rw [rwL_set (by omega) (by omega)]
    have h1 := h.now q' hq'
    by_cases e : q' = q
    · subst e
      rw [if_pos rfl]
      refine ⟨by simp [bumpV, h1.1], fun s hs => ?_⟩
      unfold bumpV
      rw [nth_nI]
      have := nI_set (xs := rwL c.now q') (i := (q' : Int)) (j := (s : Int)) (x := nI (rwL c.now q') q' + 1) (by omega) (by rw [h1.1]; omega) (by omega)
      rw [Int.toNat_natCast] at this
      rw [this, hrw q', if_pos rfl, hdep q' _ s hq' (hlr _) (Int.le_refl _) hs, h1.2 q' hq', h1.2 s hs, if_pos rfl]
      by_cases e2 : s = q'
      · rw [if_pos (by omega), if_pos e2]; simp
      · rw [if_neg (by omega), if_neg e2, if_neg e2]
    · rw [if_neg (by omega)]
      refine ⟨h1.1, fun s hs => ?_⟩
      rw [h1.2 s hs, hdep q' _ s hq' (hlr _) (Int.le_refl _) hs, hrw q', if_neg e]
  · simp only at hv ⊢
    rw [rwL_set (by omega) (by omega)] at hv
    have hCq := h.pat.ckI2 hq'
    simp only at hCq
    have hrl := h.rows q' hq'
    by_cases e : q' = q
    · subst e
      rw [if_pos rfl] at hv
      rcases Nat.lt_trichotomy j (rwL c.vecs q').length with h5 | h5 | h5
      · rw [List.getElem?_append_left h5] at hv
        have h1 := h.vec q' hq' j v hv
        have hj : j < (rwL c.ckpts q').length := by omega
        have e1 : nI (rwL (c.ckpts.set q' (rwL c.ckpts q' ++ [nI c.lens q'])) q') j = nI (rwL c.ckpts q') j := by
          rw [hrw q', if_pos rfl, nI_appL hj]
        refine ⟨h1.1, fun s hs => ?_⟩
        have hm : nI (rwL c.ckpts q') j ∈ rwL c.ckpts q' := by rw [nI_get hj]; exact List.getElem_mem hj
        rw [e1, hdep q' _ s hq' (hCq.nonneg _ hm) (hCq.le _ hm) hs]
        exact h1.2 s hs
      · subst h5
        rw [List.getElem?_append_right (Nat.le_refl _)] at hv
        simp at hv
        subst hv
        have h1 := h.now q' hq'
        have e1 : nI (rwL (c.ckpts.set q' (rwL c.ckpts q' ++ [nI c.lens q'])) q') ((rwL c.vecs q').length : Nat) = nI c.lens q' := by
          rw [hrw q', if_pos rfl, hrl.1, nI_appR]
        refine ⟨h1.1, fun s hs => ?_⟩
        rw [e1, hdep q' _ s hq' (hlr _) (Int.le_refl _) hs, h1.2 s hs]
        split
        · rename_i e2
          subst e2
          unfold dep
          rw [h.clk_own hs (hlr _) (Int.le_refl _), ivl_all hlt]
        · rfl
      · rw [List.getElem?_append_right (by omega)] at hv
        rw [List.getElem?_eq_none (by simp; omega)] at hv; cases hv
    · rw [if_neg (by omega)] at hv
      have h1 := h.vec q' hq' j v hv
      have hj : j < (rwL c.ckpts q').length := by have := (List.getElem?_eq_some_iff.1 hv).1; omega
      refine ⟨h1.1, fun s hs => ?_⟩
      have hm : nI (rwL c.ckpts q') j ∈ rwL c.ckpts q' := by rw [nI_get hj]; exact List.getElem_mem hj
      rw [hrw q', if_neg e, hdep q' _ s hq' (hCq.nonneg _ hm) (hCq.le _ hm) hs]
      exact h1.2 s hs
  · simp only
    rw [hrw q']
    by_cases e : q' = q
    · subst e
      rw [if_pos rfl]
      constructor
      · intro h5; simp [nth, hal, hq'] at h5
      · intro h5; have := h5 (nI c.lens q') (by simp); omega
    · rw [if_neg e, ← h.act q' hq']
      have : nth (c.act.set q false) q' = nth c.act q' := by
        have hqa : q' < c.act.length := by omega
        simp [nth, List.getElem_set, hqa, (show q ≠ q' by omega)]
      rw [this]
  · simp only
    rw [hrw q']
    by_cases e : q' = q
    · subst e
      rw [if_pos rfl]
      constructor
      · intro h5; simp [nth, hsl, hq'] at h5
      · rintro ⟨a, ha, h5, h6⟩
        have := h6 (nI c.lens q') (by simp)
        have h7 := (h.pat.arc a ha).ix.2
        simp only at h7
        rw [h5] at h7; omega
    · rw [if_neg e, ← h.sent q' hq']
      have : nth (c.sent.set q false) q' = nth c.sent q' := by
        have hqa : q' < c.sent.length := by omega
        simp [nth, List.getElem_set, hqa, (show q ≠ q' by omega)]
      rw [this]
  · obtain ⟨j, a, h1, h2, h3, h4, h5⟩ := h.fly l hl2
    refine ⟨j, a, h1, h2, h3, h4, fun s hs => ?_⟩
    have hag := h.pat.arc a (List.mem_of_getElem? h2)
    obtain ⟨u, hu⟩ := Int.eq_ofNat_of_zero_le hag.fr.1
    have h7 := hag.ix; have h8 := hag.fr.2
    simp only at h7 ⊢
    rw [h5 s hs]
    rw [hu] at h7 ⊢
    exact (hdep u _ s (by omega) h7.1 h7.2 hs).symm
  · have hag := h.pat.arc a ha
    obtain ⟨u, hu⟩ := Int.eq_ofNat_of_zero_le hag.fr.1
    have h7 := hag.ix; have h8 := hag.fr.2
    have h9 := h.fix a ha k h1
    simp only at h7 h2 h3 ⊢
    rw [hu] at h7 h2 h3 h9 ⊢
    rw [hiv u _ (by omega) h2, hiv u _ (by omega) h7.2] at h3
    rw [hdep u _ s (by omega) (by omega) h2 hs, hdep u _ s (by omega) h7.1 h7.2 hs]
    exact h9 h2 h3 s hs
end
end Go.Mine
