/- Chapter 31, plain: a reduced list says the same; the life of a process. -/
import Derived.Test.YtfgmboklpjanlaaP31c
set_option linter.unusedSimpArgs false
set_option linter.unusedVariables false
namespace Go.Mine
open Go.RowKit
theorem endsm_ok {fuel : Nat} {c : List Int} {i m : Int} (h : COk c i) (hf : 1000000 < fuel) (h0 : 0 ≤ m) (h1 : m ≤ 1000) : Ok (make_Codes_Ends fuel m c i) fun r => (r.1.length : Int) ≤ m ∧ (∀ e ∈ r.1, EndD e) ∧ COk c r.2 := by
  unfold make_Codes_Ends
  rw [w64_id (by omega) (by omega)]
  refine Ok.bind (Ok.next h (by omega)) fun ⟨n, j⟩ ⟨n0, n1, hj, _⟩ => ?_
  simp only at n0 n1 hj ⊢
  refine Ok.bind (Q := fun t => COk c t.1 ∧ (t.2.length : Int) ≤ m ∧ ∀ e ∈ t.2, EndD e) (Ok.run (fun k s => COk c s.1 ∧ s.2.2 = (k : Int) ∧ (s.2.1.length : Int) + k ≤ m ∧ ∀ e ∈ s.2.1, EndD e) (m := n.toNat) ⟨hj, by simp only; omega, by simp only [List.length_nil]; omega, fun e he => by cases he⟩ (by omega) ?_) fun t ht => Ok.ret ⟨ht.2.1, ht.2.2, ht.1⟩
  rintro k ⟨i1, l, x⟩ ⟨hc, hk, hl, hd⟩
  simp only at hc hk hl hd
  subst hk
  simp only [make_Codes_Ends_B1]
  refine Ok.iteP (fun hm => ?_) (fun hm => Ok.ret ⟨hc, by simp only; omega, hd⟩)
  refine Ok.bind (Ok.next hc (by omega)) fun ⟨x1, j1⟩ ⟨a0, a1, h2, _⟩ => ?_
  refine Ok.bind (Ok.next h2 (by omega)) fun ⟨x2, j2⟩ ⟨b0, b1, h3, _⟩ => ?_
  refine Ok.bind (Ok.next h3 (by omega)) fun ⟨x3, j3⟩ ⟨c0, c1, h4, _⟩ => ?_
  simp only at a0 a1 b0 b1 c0 c1 h4 ⊢
  refine Ok.bind (Ok.snoc (by omega)) fun y hy => Ok.ret ?_
  subst hy
  rw [w64_id (by omega) (by omega)]
  refine ⟨k - 1, by omega, h4, by simp only; omega, by simp; omega, fun e he => ?_⟩
  simp only [List.mem_append, List.mem_singleton] at he
  rcases he with he | rfl
  · exact hd e he
  · exact ⟨a0, by simp only; omega, b0, by simp only; omega, c0, by simp only; omega⟩
theorem red_nil : Red [] [] := ⟨List.Pairwise.nil, fun _ h => h, (fun e he => by cases he), (fun e he => by cases he)⟩
/-- the questions say the same -/
theorem asks_same {r all : List EndI} {l : List Evt} {j : Int} (h : Red all r) (hr : r.length ≤ 1000) (ha : all.length ≤ 1000) (hl : l.length ≤ 1000) : Ok (iter (fun s => law31_IncarnationSame_B1 10000000 r all (l, j) s) 10000000 0) fun t => t = .inl () := by
  refine Ok.for_ 4 (fun k s => s = (k : Int)) rfl (by omega) ?_
  rintro k s hk rfl
  unfold law31_IncarnationSame_B1
  refine Ok.iteP (fun h4 => ?_) (fun h4 => Ok.ret rfl)
  obtain ⟨n1, e1, f1⟩ := next31_ok (fuel := 10000000) (ends := r) (q := (k : Int)) (by omega) (by omega)
  obtain ⟨n2, e2, f2⟩ := next31_ok (fuel := 10000000) (ends := all) (q := (k : Int)) (by omega) (by omega)
  obtain ⟨k1, e3, f3⟩ := kept_ok (fuel := 10000000) (ends := r) (q := (k : Int)) (evs := l) (by omega) (by omega) (by omega)
  obtain ⟨k2, e4, f4⟩ := kept_ok (fuel := 10000000) (ends := all) (q := (k : Int)) (evs := l) (by omega) (by omega) (by omega)
  obtain rfl := h.next f1 f2
  obtain rfl := f3.unique f4 fun x => h.und
  rw [e1, e2, e3, e4]
  simp only [Option.bind_some, orM_some, bne_self_eq_false, Bool.or_self]
  rw [if_neg (by simp)]
  refine Ok.bind (Q := fun t => t = .inl ()) (Ok.run (fun m s => s = 6 - (m : Int) ∧ m ≤ 7) (m := 7) (by omega) (by omega) ?_) fun t ht => ?_
  · rintro m s ⟨rfl, hm7⟩
    unfold law31_IncarnationSame_B2
    refine Ok.iteP (fun h6 => ?_) (fun h6 => Ok.ret rfl)
    refine Ok.bind (Q := fun t => t = .inl ()) (Ok.run (fun m s => s = 8 - (m : Int) ∧ m ≤ 9) (m := 9) (by omega) (by omega) ?_) fun t ht => ?_
    · rintro m' s ⟨rfl, hm9⟩
      unfold law31_IncarnationSame_B3
      refine Ok.iteP (fun h8 => ?_) (fun h8 => Ok.ret rfl)
      rw [undone_eq (by omega) (by omega), undone_eq (by omega) (by omega), undB_congr h.und]
      simp only [Option.bind_some, bne_self_eq_false]
      rw [if_neg (by simp)]
      exact Ok.ret ⟨m' - 1, by omega, by rw [w64_id (by omega) (by omega)]; omega, by omega⟩
    · subst ht
      exact Ok.ret ⟨m - 1, by omega, by rw [w64_id (by omega) (by omega)]; omega, by omega⟩
  · subst ht
    exact Ok.ret ⟨by omega, by rw [w64_nat (by omega)]⟩
theorem rises31 {r all : List EndI} (h : Red all r) (hr : r.length ≤ 1000) : Ok (iter (fun s => law31_IncarnationSame_B4 10000000 r s) 10000000 0) fun t => t = .inl () := by
  refine Ok.for_ r.length (fun k s => s = (k : Int)) rfl (by omega) ?_
  rintro k s hk rfl
  unfold law31_IncarnationSame_B4
  rw [w64_nat (by omega)]
  refine Ok.iteP (fun h4 => ?_) (fun h4 => Ok.ret rfl)
  have h5 : k + 1 < r.length := by omega
  rw [ati_get (show k < r.length by omega), ati_get h5]
  simp only [Option.bind_some, andM_some, orM_some]
  have h1 := List.pairwise_iff_getElem.1 h.sort k (k + 1) (by omega) h5 (by omega)
  have h2 : ¬ Imp r[k] r[k + 1] := fun hi => by
    have := h.anti _ (List.getElem_mem _) _ (List.getElem_mem _) hi
    rw [this] at h1; unfold klt at h1; omega
  unfold klt at h1
  unfold Imp at h2
  have hb : (decide (r[k + 1].proc < r[k].proc) || (r[k].proc == r[k + 1].proc) && (decide (r[k + 1].inc ≤ r[k].inc) || decide (r[k + 1].index ≤ r[k].index))) = false := by
    simp only [Bool.or_eq_false_iff, Bool.and_eq_false_imp, beq_iff_eq, decide_eq_false_iff_not]
    omega
  rw [hb, if_neg (by simp)]
  exact Ok.ret ⟨by omega, rfl⟩
theorem same_law {c : List Int} (hc : ∀ x ∈ c, U8 x) : law31_IncarnationSame 10000000 c = some true := by
  unfold law31_IncarnationSame
  rw [awake31]
  simp only [Option.bind_some, Bool.not_true]
  rw [if_neg (by simp)]
  refine Ok.eq ?_
  refine Ok.bind (Ok.new (by omega) (by omega) hc) fun ⟨d, j⟩ h0 => ?_
  refine Ok.bind (endsm_ok h0 (by omega) (by omega) (by omega)) fun ⟨x, j1⟩ ⟨hx, hdx, h1⟩ => ?_
  refine Ok.bind (endsm_ok h1 (by omega) (by omega) (by omega)) fun ⟨y, j2⟩ ⟨hy, hdy, h2⟩ => ?_
  refine Ok.bind (events_ok h2 (by omega) (by omega) (by omega)) fun ⟨l, j3⟩ ⟨hl, h3⟩ => ?_
  simp only at hx hy hl h3 hdx hdy ⊢
  rw [catL_ok (by simp; omega), Option.bind_some, List.nil_append, catL_ok (by omega), Option.bind_some]
  obtain ⟨r, er, hr, hrl⟩ := merge_ok (fuel := 10000000) (a := x) (b := y) (by omega) (by omega) (by omega)
  rw [er, Option.bind_some]
  have hal : (x ++ y).length ≤ 16 := by simp; omega
  have hsw : ∀ e, e ∈ y ++ x ↔ e ∈ x ++ y := fun e => by simp [or_comm]
  obtain ⟨r2, er2, hr2, hrl2⟩ := merge_ok (fuel := 10000000) (a := y) (b := x) (by omega) (by omega) (by omega)
  obtain rfl := hr.unique (hr2.congr hsw)
  have hd : ∀ e ∈ x ++ y, EndD e := fun e he => by rcases List.mem_append.1 he with he | he; exact hdx e he; exact hdy e he
  generalize x ++ y = all at hal hr hd
  refine Ok.bind (Q := fun s => Red all s) (Ok.run (fun m s => s.2 = (m : Int) - 1 ∧ m ≤ all.length ∧ Red (all.drop m) s.1 ∧ s.1.length + m ≤ all.length) (m := all.length) ⟨by rw [w64_id (by omega) (by omega)], Nat.le_refl _, by rw [List.drop_length]; exact red_nil, by simp⟩ (by omega) ?_) ?_
  · rintro m ⟨s, i⟩ ⟨hi, hm, hR, hsl⟩
    simp only at hi hR hsl
    subst hi
    simp only [law31_IncarnationSame_B5]
    refine Ok.iteP (fun h4 => ?_) (fun h4 => ?_)
    · have hm1 : m - 1 < all.length := by omega
      rw [show (m : Int) - 1 = ((m - 1 : Nat) : Int) by omega, ati_get hm1, Option.bind_some]
      refine Ok.bind (add_ok (by omega) (by omega)) fun s' ⟨hs', hl'⟩ => Ok.ret ⟨m - 1, by omega, by rw [w64_id (by omega) (by omega)], by omega, (hR.more hs').congr fun e => ?_, by simp only; omega⟩
      rw [List.drop_eq_getElem_cons hm1, show m - 1 + 1 = m by omega]
      simp [or_comm]
    · have : m = 0 := by omega
      subst this
      exact Ok.ret (by simpa using hR)
  · intro s hs
    unfold law31_IncarnationSame_K1
    obtain rfl := hr.unique hs
    obtain ⟨r3, er3, hr3, hrl3⟩ := merge_ok (fuel := 10000000) (a := r) (b := r) (by omega) (by omega) (by omega)
    obtain rfl := hr.self.unique hr3
    rw [er2, er3]
    simp only [Option.bind_some]
    rw [sameE_eq (by omega) (by omega)]
    simp only [Option.bind_some, decide_true, Bool.not_true, orM_some, Bool.or_self]
    rw [if_neg (by simp)]
    refine Ok.bind (rises31 hr (by omega)) fun t ht => ?_
    subst ht
    simp only [Sum.elim_inl, law31_IncarnationSame_K2]
    refine Ok.bind (asks_same hr (by omega) (by omega) (by omega)) fun t ht => ?_
    subst ht
    simp only [Sum.elim_inl, law31_IncarnationSame_K3]
    refine Ok.bind (Ok.next h3 (by omega)) fun ⟨p, j4⟩ _ => ?_
    simp only
    rw [undone_eq (by omega) (by omega)]
    have : undB r p ⟨0, 0⟩ = false := undB_not.2 fun ⟨e, he, _, _, h6⟩ => by
      have := hd e (hr.sub e he); unfold EndD at this; simp only at h6; omega
    rw [this]
    exact Ok.ret rfl
/-- the life of a process -/
structure LiveI (evs : List Evt) (lost : List Lab) (E : List EndI) (inc : Int) : Prop where
  inc0 : 0 ≤ inc
  old : ∀ e ∈ E, e.proc = 2 ∧ e.inc < inc
  last : (inc = 0 ∧ E = []) ∨ ∃ e ∈ E, e.inc = inc - 1
  now : ∀ (i : Nat) (v : Evt), evs[i]? = some v → v.inc ≤ inc ∧ ∀ e ∈ E, e.inc < v.inc ∨ (i : Int) + 1 ≤ e.index
  gone : ∀ l ∈ lost, ∃ e ∈ E, l.inc ≤ e.inc ∧ e.index < l.index
theorem LiveI.event {evs : List Evt} {lost : List Lab} {E : List EndI} {inc : Int} (h : LiveI evs lost E inc) {v : Evt} (hv : v.inc = inc) : LiveI (evs ++ [v]) lost E inc := by
  refine ⟨h.inc0, h.old, h.last, fun i u hu => ?_, h.gone⟩
  rcases Nat.lt_or_ge i evs.length with hi | hi
  · rw [List.getElem?_append_left hi] at hu; exact h.now i u hu
  · rw [List.getElem?_append_right hi] at hu
    have : i - evs.length = 0 := by have := (List.getElem?_eq_some_iff.1 hu).1; simp at this; omega
    rw [this] at hu; simp at hu; subst hu
    exact ⟨by omega, fun e he => .inl (by have := (h.old e he).2; omega)⟩
theorem LiveI.back {evs : List Evt} {lost lost' : List Lab} {E : List EndI} {inc : Int} (h : LiveI evs lost E inc) {x : Nat} (hl : ∀ l ∈ lost', l ∈ lost ∨ ∃ (i : Nat) (v : Evt), x ≤ i ∧ evs[i]? = some v ∧ l = ⟨v.inc, (i : Int) + 1⟩) : LiveI (evs.take x) lost' (E ++ [⟨2, inc, x⟩]) (inc + 1) := by
  refine ⟨by have := h.inc0; omega, fun e he => ?_, .inr ⟨⟨2, inc, x⟩, by simp, by simp only; omega⟩, fun i v hv => ?_, fun l hl1 => ?_⟩
  · rcases List.mem_append.1 he with he | he
    · exact ⟨(h.old e he).1, by have := (h.old e he).2; omega⟩
    · simp at he; subst he; exact ⟨rfl, by simp only; omega⟩
  · have hi : i < x := by have := (List.getElem?_eq_some_iff.1 hv).1; simp at this; omega
    rw [List.getElem?_take_of_lt hi] at hv
    obtain ⟨h1, h2⟩ := h.now i v hv
    refine ⟨by omega, fun e he => ?_⟩
    rcases List.mem_append.1 he with he | he
    · exact h2 e he
    · simp at he; subst he; exact .inr (by simp only; omega)
  · rcases hl l hl1 with h1 | ⟨i, v, h1, h2, rfl⟩
    · obtain ⟨e, he, h3⟩ := h.gone l h1; exact ⟨e, by simp [he], h3⟩
    · exact ⟨⟨2, inc, x⟩, by simp, (h.now i v h2).1, by simp only; omega⟩
theorem lives_check {evs : List Evt} {lost : List Lab} {E ends : List EndI} {inc a : Int} (h : LiveI evs lost E inc) (hR : Red E ends) (he : ends.length ≤ 1000) (hv : evs.length ≤ 1000) (hl : lost.length ≤ 1000) (hi : inc ≤ 1000000) :
    law31_IncarnationLives_J1 10000000 a evs lost ends inc = some (.inl (a, evs, lost, ends, inc)) := by
  unfold law31_IncarnationLives_J1
  refine Ok.eq ?_
  refine Ok.bind (kept_ok (by omega) (by omega) (by omega)) fun k hk => ?_
  have hk2 : k = evs.length := hk.all fun i hi2 hu => by
    obtain ⟨e, he2, h1, h2, h3⟩ := hR.und.1 hu
    have hvi : evs[i]? = some evs[i] := by simp [hi2]
    have := (h.now i _ hvi).2 e he2
    simp only [labAt, hvi, Option.map_some, Option.getD_some] at h2 h3
    omega
  subst hk2
  obtain ⟨n, en, hn⟩ := next31_ok (fuel := 10000000) (ends := ends) (q := 2) (by omega) (by omega)
  have hn2 : n = inc := hR.next hn (by
    rcases h.last with ⟨rfl, rfl⟩ | ⟨e, he2, h1⟩
    · exact .inl ⟨rfl, fun e he => by cases he⟩
    · refine .inr ⟨e, he2, (h.old e he2).1, fun f hf _ => by have := (h.old f hf).2; omega, ?_⟩
      have := h.inc0
      rw [w64_id (by omega) (by omega)]; omega)
  subst hn2
  rw [en]
  simp only [Option.bind_some, bne_self_eq_false, orM_some, Bool.or_self]
  rw [if_neg (by simp)]
  refine Ok.bind (Q := fun t => t = .inl ()) (Ok.for_ lost.length (fun k s => s = (k : Int)) rfl (by omega) ?_) fun t ht => by subst ht; exact Ok.ret rfl
  rintro k s hk2 rfl
  unfold law31_IncarnationLives_B2
  refine Ok.iteP (fun h1 => ?_) (fun h1 => Ok.ret rfl)
  have hk3 : k < lost.length := by omega
  rw [ati_get hk3, w64_nat (by omega)]
  simp only [Option.bind_some]
  rw [undone_eq (by omega) (by omega), obs_eq (by omega) (by omega)]
  have : undB ends 2 lost[k] = true := undB_iff.2 (hR.und.2 (by
    obtain ⟨e, he2, h2, h3⟩ := h.gone lost[k] (List.getElem_mem _)
    exact ⟨e, he2, (h.old e he2).1, h2, h3⟩))
  simp only [this, Option.bind_some, Bool.not_true, orM_some, Bool.or_self]
  rw [if_neg (by simp)]
  exact Ok.ret ⟨hk3, rfl⟩
theorem lives_law {c : List Int} (hc : ∀ x ∈ c, U8 x) : law31_IncarnationLives 10000000 c = some true := by
  unfold law31_IncarnationLives
  rw [awake31]
  simp only [Option.bind_some, Bool.not_true]
  rw [if_neg (by simp)]
  refine Ok.eq ?_
  obtain ⟨d, e0, h0⟩ := new_ok (fuel := 10000000) (n := 200) (by omega) (by omega) hc
  have hdl : d.length ≤ 200 := by
    have : make_New 10000000 c 200 = some (d, 0) := e0
    unfold make_New make_New_J1 at this
    by_cases hl : (200 : Int) < c.length
    · simp only [hl, decide_true, if_true, takeL_ok (show (0 : Int) ≤ 200 by omega) (by omega : (200 : Int) ≤ c.length), Option.bind_some, Option.some.injEq, Prod.mk.injEq] at this
      rw [← this.1]; simp; omega
    · simp [hl] at this; subst this; omega
  rw [e0, Option.bind_some]
  refine Ok.bind (Q := fun t => t = .inl ()) (Ok.run (fun m s => COk d s.1 ∧ (m : Int) = d.length - s.1 ∧ s.2.1.length ≤ 30 ∧ s.2.2.1.length ≤ 130 ∧ (s.2.2.2.1.length : Int) ≤ s.1 ∧ s.2.2.2.2 ≤ s.1 ∧ ∃ E, Red E s.2.2.2.1 ∧ LiveI s.2.1 s.2.2.1 E s.2.2.2.2) (m := d.length) ⟨h0, by simp, by simp, by simp, by simp, by simp, [], red_nil, ⟨by simp, fun e he => (by cases he), .inl ⟨rfl, rfl⟩, fun i v hv => (by simp at hv), fun l hl => (by cases hl)⟩⟩ (by omega) ?_) fun t ht => by subst ht; exact Ok.ret rfl
  rintro m ⟨a, evs, lost, ends, inc⟩ ⟨h1, hm, hv, hl, he, hi, E, hR, hL⟩
  simp only at h1 hm hv hl he hi hR hL
  simp only [law31_IncarnationLives_B1, make_Codes_Left, Option.bind_some, andM_some]
  have hah := h1.hi; have hal := h1.lo
  refine Ok.ite (fun hc1 => ?_) (fun _ => Ok.ret rfl)
  simp only [Bool.and_eq_true, decide_eq_true_eq] at hc1
  refine Ok.bind (next_step h1 (by omega) hc1.1) fun ⟨k, a1⟩ ⟨k0, k1, h2, ha1⟩ => ?_
  simp only at k0 k1 h2 ha1 ⊢
  subst ha1
  refine Ok.ite (fun hc2 => ?_) (fun hc2 => ?_)
  · simp only [Bool.and_eq_true, decide_eq_true_eq] at hc2
    refine Ok.bind (Ok.snoc (by omega)) fun y hy => ?_
    subst hy
    have hL2 := hL.event (v := ⟨2, inc, 0, ⟨0, 0⟩, 0, k⟩) rfl
    rw [lives_check hL2 hR (by omega) (by simp; omega) (by omega) (by omega)]
    exact Ok.ret ⟨m - 1, by omega, h2, by simp only; omega, by simp; omega, hl, by simp only; omega, by simp only; omega, E, hR, hL2⟩
  · rw [w64_id (by omega) (by omega)]
    refine Ok.bind (Ok.next h2 (by omega)) fun ⟨x, a2⟩ ⟨x0, x1, h3, ha2⟩ => ?_
    simp only at x0 x1 h3 ha2 ⊢
    have ha3 := h3.hi
    refine Ok.bind (Q := fun t => t.length ≤ 130 ∧ ∀ l ∈ t, l ∈ lost ∨ ∃ (i : Nat) (v : Evt), x.toNat ≤ i ∧ evs[i]? = some v ∧ l = ⟨v.inc, (i : Int) + 1⟩) (Ok.run (fun q s => s.2 = (evs.length : Int) - q ∧ q ≤ evs.length ∧ x ≤ s.2 ∧ s.1.length + q ≤ lost.length + evs.length ∧ ∀ l ∈ s.1, l ∈ lost ∨ ∃ (i : Nat) (v : Evt), x.toNat ≤ i ∧ evs[i]? = some v ∧ l = ⟨v.inc, (i : Int) + 1⟩) (m := evs.length - x.toNat) ⟨by simp only; omega, by omega, by simp only; omega, by simp only; omega, fun l hl => .inl hl⟩ (by omega) ?_) ?_
    · rintro q ⟨ls, i⟩ ⟨q1, q2, q3, q4, q5⟩
      simp only at q1 q3 q4 q5
      subst q1
      simp only [law31_IncarnationLives_B3]
      refine Ok.iteP (fun h5 => ?_) (fun h5 => Ok.ret ⟨by omega, q5⟩)
      refine Ok.bind (Ok.at (by omega) h5) fun v hvv => ?_
      refine Ok.bind (Ok.snoc (by omega)) fun y hy => Ok.ret ?_
      subst hy
      rw [w64_id (by omega) (by omega)]
      refine ⟨q - 1, by omega, by simp only; omega, by omega, by simp only; omega, by simp; omega, fun l hl1 => ?_⟩
      rcases List.mem_append.1 hl1 with hl1 | hl1
      · exact q5 l hl1
      · simp at hl1; subst hl1
        exact .inr ⟨_, v, by omega, hvv, by congr 1; omega⟩
    · rintro ls ⟨hls, hlm⟩
      unfold law31_IncarnationLives_K3
      simp only
      rw [takeL_ok x0 (by omega), Option.bind_some, catL_ok (by simp; omega), Option.bind_some, List.nil_append]
      refine Ok.bind (add_ok (by omega) (by omega)) fun s ⟨hs, hsl⟩ => ?_
      rw [w64_id (by have := hL.inc0; omega) (by omega)]
      have hxx : ((x.toNat : Nat) : Int) = x := by omega
      have hL2 := hL.back (x := x.toNat) hlm
      rw [hxx] at hL2
      have hR2 := hR.more hs
      rw [lives_check hL2 hR2 (by omega) (by simp; omega) (by omega) (by omega)]
      exact Ok.ret ⟨(d.length - a2).toNat, by omega, h3, by simp only; omega, by simp; omega, hls, by simp only; omega, by simp only; omega, _, hR2, hL2⟩
end Go.Mine
