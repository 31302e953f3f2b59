/- Recovery lines, plain: LineLater. -/
import Derived.Test.YtdjkdbojmcdogaaA22d
import Derived.Test.YtdjkdbojmcdogaaP22h
set_option linter.unusedSimpArgs false
set_option linter.unusedVariables false
set_option linter.unusedSectionVars false
namespace Go.Mine
open Go.RowKit
structure Ext (n : Nat) (p p' : Pat) : Prop where
  lens : ∀ q : Nat, q < n → nI p.lens q ≤ nI p'.lens q
  ck : ∀ q : Nat, q < n → ∀ y ∈ rwI p.ckpts q, y ∈ rwI p'.ckpts q
  arc : ∀ a ∈ p'.arcs, a ∈ p.arcs ∨ nI p.lens a.to < a.rcv
theorem Ext.refl (n : Nat) (p : Pat) : Ext n p p := ⟨fun _ _ => Int.le_refl _, fun _ _ _ h => h, fun _ h => .inl h⟩
theorem pmark_g {fuel n B : Nat} {p0 p : Pat} {q : Int} (h : PatG n B p) (h0 : 0 ≤ q) (h1 : q < n) (hB : B ≤ 100) (hn : n ≤ 100) (hf : 1000000 < fuel) (hx : Ext n p0 p) : Ok (pattern_Mark fuel p q) fun p' => PatG n (B + 1) p' ∧ Ext n p0 p' := by
  have hl := h.len; have hk := h.ck
  have stay : PatG n (B + 1) p ∧ Ext n p0 p := ⟨h.mono (by omega), hx⟩
  unfold pattern_Mark
  rw [process_g, Option.bind_some]
  simp only [orM_some, Option.bind_some]
  refine Ok.ite (fun _ => Ok.ret stay) fun _ => ?_
  refine (Ok.at h0 (by omega)).bind fun x hx1 => (Ok.at h0 (by omega)).bind fun r hr => ?_
  have hw := h.wid r (List.mem_of_getElem? hr)
  rw [contains_g (by omega) hf, Option.bind_some]
  refine Ok.iteP (fun _ => Ok.ret stay) fun hnin => ?_
  simp only [Clone_ListInt, Clip_Int]
  refine (Ok.cat (by simp; omega)).bind fun c hc => ?_
  rw [List.nil_append] at hc
  subst hc
  refine (Ok.at h0 (by omega)).bind fun r2 hr2 => ?_
  rw [hr] at hr2; cases hr2
  rw [Option.bind_some]
  refine (Ok.snoc (by omega)).bind fun z hz => (Ok.at h0 (by omega)).bind fun _ _ => (Ok.set h0 (by omega)).bind fun d hd => ?_
  subst hz hd
  unfold pattern_Mark_J1
  have hpos := (h.row _ r _ hr hx1).pos
  refine Ok.ret ⟨h.mark hr hx1 (y := r[r.length - 1]'(by omega)) (by simp [hpos]) (fun e => hnin (by rw [← e]; exact List.getElem_mem _)), hx.lens, fun j hj y hy => ?_, hx.arc⟩
  have := hx.ck j hj y hy
  simp only
  unfold rwI at this ⊢
  rw [getElem?_set' (by omega)]
  split
  · rename_i e
    rw [e, hr] at this
    simp at this ⊢; exact .inl this
  · exact this
theorem pappend_g {fuel n B : Nat} {p0 p : Pat} {q s i : Int} (h : PatG n B p) (h0 : 0 ≤ q) (h1 : q < n) (hs0 : 0 ≤ s) (hs1 : s < n) (hB : B ≤ 100) (hn : n ≤ 100) (hf : 1000000 < fuel) (hx : Ext n p0 p) : Ok (pattern_Append fuel p q s i) fun r => r.2 = true → PatG n (B + 1) r.1 ∧ Ext n p0 r.1 := by
  have hl := h.len; have hal := h.al
  unfold pattern_Append
  rw [process_g, process_g, Option.bind_some]
  refine Ok.bind (Q := fun b => True) (Ok.orM (fun _ => (Ok.at h0 (by omega)).bind fun x hx => Ok.ret trivial) fun _ => trivial) fun b _ => Ok.ite (fun _ => Ok.ret (by simp)) fun _ => ?_
  refine Ok.iteN (fun _ => ?_) (fun e => by omega)
  simp only [orM_some, Option.bind_some]
  refine Ok.bind (Q := fun b => b = false → (s ≠ q ∧ 0 ≤ i ∧ i ≤ nI p.lens s)) (Ok.orM (fun hc => ?_) fun _ => by simp) fun b hb => ?_
  · simp at hc
    refine (Ok.at hs0 (by omega)).bind fun y hy => Ok.ret fun h5 => ?_
    rw [nI_some hy]; simp at h5; omega
  · refine Ok.ite (fun _ => Ok.ret (by simp)) fun hc => Ok.iteP (fun _ => Ok.ret (by simp)) fun _ => ?_
    have hb2 := hb hc
    unfold pattern_Append_J1
    simp only [Clone_Int, Clip_Arc]
    refine (Ok.cat (by simp; omega)).bind fun c hc => ?_
    rw [List.nil_append] at hc
    subst hc
    refine (Ok.at h0 (by omega)).bind fun x hx1 => (Ok.at h0 (by omega)).bind fun _ _ => (Ok.set h0 (by omega)).bind fun l hl2 => ?_
    have hxr := h.rng x (List.mem_of_getElem? hx1)
    rw [w64_id (by omega) (by omega)] at hl2
    subst hl2
    refine Ok.iteN (fun _ => ?_) (fun e => by omega)
    refine (Ok.at h0 (by simp; omega)).bind fun y hy => ?_
    have hyx : y = x + 1 := by rw [getElem?_set' (by omega)] at hy; simpa using hy.symm
    subst hyx
    rw [Option.bind_some]
    refine (Ok.snoc (by omega)).bind fun as' has => ?_
    subst has
    unfold pattern_Append_J2
    have hqq : ((q.toNat : Nat) : Int) = q := by omega
    have hxn : nI p.lens q = x := nI_some hx1
    have hq0 : nI p0.lens q ≤ x := by have := hx.lens q.toNat (by omega); rw [hqq, hxn] at this; exact this
    refine Ok.ret fun _ => ⟨h.event hx1 [⟨s, i, q, x + 1⟩] (by simp) (fun a h6 => by simp at h6; subst h6; exact ⟨⟨hs0, hs1⟩, hb2.1, hqq.symm, hb2.2, rfl⟩), fun j hj => ?_, hx.ck, fun a ha => ?_⟩
    · have := hx.lens j hj
      simp only
      rw [nI_set h0 (by omega) (by omega)]
      split
      · rename_i e; rw [e] at this ⊢; rw [hxn] at this; omega
      · exact this
    · simp only at ha
      rcases List.mem_append.1 ha with h6 | h6
      · exact hx.arc a h6
      · simp at h6; subst h6
        exact .inr (by simp only; omega)
theorem Ok.new2 {fuel : Nat} {c : List Int} {n : Int} (h0 : 0 ≤ n) (h1 : n ≤ 1000000) (h : ∀ x ∈ c, U8 x) : Ok (make_New fuel c n) fun r => COk r.1 r.2 ∧ (r.1.length : Int) ≤ n ∧ r.2 = 0 := by
  unfold make_New make_New_J1
  by_cases hl : n < c.length
  · refine ⟨(c.take n.toNat, 0), ?_, ⟨by simp, by simp, by simp; omega, fun x hx => h x (List.mem_of_mem_take hx)⟩, by simp; omega, rfl⟩
    simp only [hl, decide_true, if_true, takeL_ok h0 (by omega : n ≤ c.length), Option.bind_some]
  · exact ⟨(c, 0), by simp [hl], ⟨by simp, by simp, by simp only; omega, h⟩, by simp only; omega, rfl⟩
/-- what is drawn next, and how far -/
theorem Ok.next2 {fuel : Nat} {c : List Int} {i n : Int} (h : COk c i) (hn : 0 < n) : Ok (make_Codes_Next fuel n c i) fun r => 0 ≤ r.1 ∧ r.1 < n ∧ COk c r.2 ∧ i ≤ r.2 ∧ (i < c.length → r.2 = i + 1) := by
  by_cases hl : i < c.length
  · exact (next_step h hn hl).mono fun r ⟨a, b, c, d⟩ => ⟨a, b, c, by omega, fun _ => d⟩
  · exact (Ok.next h hn).mono fun r ⟨a, b, c, d⟩ => ⟨a, b, c, d, fun h => absurd h hl⟩
theorem MI.ex {n B : Nat} {p : Pat} (hp : PatG n B p) (hn : n ≤ 5) (hB : B ≤ 64) {f : List Int} : ∀ k : Nat, ∃ M, MI n p f k M
  | 0 => ⟨_, MI.init hp hn hB⟩
  | k + 1 => by
    obtain ⟨M, hM⟩ := MI.ex hp hn hB (f := f) k
    by_cases h : (k : Int) ∈ f
    · exact ⟨_, hM.yes hp hn hB h⟩
    · exact ⟨_, hM.no hp hn hB h⟩
theorem later_le {n B B' : Nat} {p p' : Pat} (hp : PatG n B p) (hn : n ≤ 5) (hB : B ≤ 64) (hp' : PatG n B' p') (hB' : B' ≤ 64) (hx : Ext n p p') {f : List Int} (hf : f.length ≤ 1000) : Le (safeF p 1) (fcut p' f) := by
  have hal : ∀ q : Nat, q < n → (q : Int) ∈ (List.range n).map Int.ofNat := fun q hq => List.mem_map.2 ⟨q, by simp [hq], rfl⟩
  have hall : ((List.range n).map Int.ofNat).length ≤ 1000 := by simp; omega
  obtain ⟨M, hM⟩ := MI.ex hp hn hB (f := (List.range n).map Int.ofNat) n
  rw [safe_all hp hn hB (by omega) hall hal hM, ← hM.fin hp hn hB hall]
  generalize (List.range n).map Int.ofNat = allP at hal hall
  have hF := fail_g hp hn hB allP hall
  have ha := (allC_iff hp hn hB).1 hF.2.2.1
  refine (fail_g hp' hn hB' f hf).2.2.2.2 _ ((allC_iff hp' hn hB').2 ⟨ha.1, fun q hq => .inl ?_⟩) fun a h => ?_
  · rcases ha.2 q hq with h5 | h5
    · exact hx.ck q hq _ h5
    · exact absurd (hal q hq) h5.2
  · rcases hx.arc a h with h5 | h5
    · exact hF.2.2.2.1 a h5
    · rw [orph_not]
      have ht := (hp'.arc a h).to
      have := (fcut_rng hp hn hB hall (q := a.to.toNat) (by omega)).2
      rw [show ((a.to.toNat : Nat) : Int) = a.to by omega] at this
      omega
theorem lineLater {a0 a1 a2 : List Int} (h0 : ∀ x ∈ a0, U8 x) (h1 : ∀ x ∈ a1, U8 x) (h2 : ∀ x ∈ a2, U8 x) : law22_LineLater 10000000 a0 a1 a2 = some true := by
  unfold law22_LineLater
  rw [awake22, Option.bind_some]
  simp only [Bool.not_true, Bool.false_eq_true, if_false]
  refine Ok.eq ?_
  refine (Ok.new (by omega) (by omega) h0).bind fun r hr => (pattern_g hr (m := 14) (by omega) (by omega)).bind fun P ⟨n, hn2, hn4, hp, _⟩ => ?_
  have hl := hp.len
  have hn5 : n ≤ 5 := by omega
  rw [show (⟨P.1.lens, P.1.ckpts, P.1.arcs⟩ : Pat) = P.1 from rfl, (safe_g hp hn5 (by omega)).1, Option.bind_some]
  refine (Ok.new2 (by omega) (by omega) h1).bind fun c ⟨hc, hcl, hc0⟩ => ?_
  refine Ok.bind (Q := fun t => match t with | .inl s => ∃ B', B' ≤ 64 ∧ PatG n B' ⟨s.1, s.2.1, s.2.2⟩ ∧ Ext n P.1 ⟨s.1, s.2.1, s.2.2⟩ | .inr b => False)
    (Ok.run (m := 60) (fun m s => (c.1.length : Int) - s.2.2.2 ≤ (m : Int) ∧ COk c.1 s.2.2.2 ∧ Ext n P.1 ⟨s.1, s.2.1, s.2.2.1⟩ ∧ ∃ k : Nat, PatG n (14 + k) ⟨s.1, s.2.1, s.2.2.1⟩ ∧ 2 * (k : Int) ≤ s.2.2.2 + 1 ∧ (s.2.2.2 < (c.1.length : Int) → 2 * (k : Int) ≤ s.2.2.2)) ⟨by simp only; omega, hc, Ext.refl n P.1, 0, hp, by simp only; omega, fun _ => by simp only; omega⟩ (by omega) ?_) ?_
  · rintro m ⟨l, ck, ar, i⟩ ⟨hm, hci, hx, k, hpk, hk1, hk2⟩
    simp only at hm hci hx hpk hk1 hk2
    have hi0 := hci.lo; have hi1 := hci.hi
    simp only [law22_LineLater_B1, make_Codes_Left, Option.bind_some]
    rw [hl]
    refine Ok.iteP (fun hlt => ?_) (fun hlt => Ok.ret ⟨14 + k, by omega, hpk, hx⟩)
    have hk2 := hk2 hlt
    refine (Ok.next2 hci (by omega)).bind fun q ⟨q0, q1, hc2, _, hq⟩ => (Ok.next2 hc2 (by omega)).bind fun s ⟨s0, s1, hc3, hs2, hs⟩ => ?_
    have hq := hq hlt
    have hc2h := hc2.hi; have hc3h := hc3.hi
    have fin : ∀ (p' : Pat) (i' : Int), s.2 ≤ i' → COk c.1 i' → (∃ k' : Nat, k' ≤ k + 1 ∧ PatG n (14 + k') p') → Ext n P.1 p' → Ok (law22_LineLater_J1 10000000 P p'.lens p'.ckpts p'.arcs i') fun o => Sum.elim (fun s' => ∃ m', m' < m ∧ (c.1.length : Int) - s'.2.2.2 ≤ (m' : Int) ∧ COk c.1 s'.2.2.2 ∧ Ext n P.1 ⟨s'.1, s'.2.1, s'.2.2.1⟩ ∧ ∃ k : Nat, PatG n (14 + k) ⟨s'.1, s'.2.1, s'.2.2.1⟩ ∧ 2 * (k : Int) ≤ s'.2.2.2 + 1 ∧ (s'.2.2.2 < (c.1.length : Int) → 2 * (k : Int) ≤ s'.2.2.2)) (fun t => match t with | .inl s => ∃ B', B' ≤ 64 ∧ PatG n B' ⟨s.1, s.2.1, s.2.2⟩ ∧ Ext n P.1 ⟨s.1, s.2.1, s.2.2⟩ | .inr b => False) o := by
      rintro p' i' hi' hci' ⟨k', hk', hpk'⟩ hx'
      unfold law22_LineLater_J1
      rw [if_neg (by rw [hl, hpk'.len]; simp)]
      refine Ok.ret ⟨m - 1, ?_, ?_, hci', hx', k', hpk', ?_, fun hlt' => ?_⟩
      · have : (0 : Int) < m := by omega
        omega
      · simp only; omega
      · simp only; by_cases h9 : q.2 < c.1.length
        · have := hs h9; omega
        · omega
      · simp only at hlt' ⊢; have := hs (by omega); omega
    refine Ok.iteE (fun e => ?_) (fun e => ?_)
    · exact (pmark_g hpk q0 q1 (by omega) (by omega) (by omega) hx).bind fun p' hp' => fin p' _ (by omega) hc3 ⟨k + 1, by omega, hp'.1⟩ hp'.2
    · have hll := hpk.len
      simp only at hll
      refine (Ok.at s0 (by omega)).bind fun y hy => ?_
      have hyr := hpk.rng y (List.mem_of_getElem? hy)
      rw [w64_id (i := y + 1) (by omega) (by omega)]
      refine (Ok.next2 hc3 (by omega)).bind fun ix ⟨x0, x1, hc4, hc5, _⟩ => (pappend_g hpk q0 q1 s0 s1 (by omega) (by omega) (by omega) hx).bind fun p' hp' => ?_
      unfold law22_LineLater_J2
      refine Ok.ite (fun eb => ?_) (fun eb => ?_)
      · exact fin p'.1 _ (by omega) hc4 ⟨k + 1, by omega, (hp' eb).1⟩ (hp' eb).2
      · exact fin ⟨l, ck, ar⟩ _ (by omega) hc4 ⟨k, by omega, hpk⟩ hx
  · rintro (⟨l, ck, ar⟩ | b) ht
    · obtain ⟨B', hB', hp', hx⟩ := ht
      simp only at hp' hx
      simp only [Sum.elim_inl, law22_LineLater_K1]
      rw [hl]
      refine (Ok.new (by omega) (by omega) h2).bind fun r3 hr3 => (procs_g (n := n) (by omega) (by omega) hr3).bind fun f ⟨hf, hfl⟩ => ?_
      have hF := fail_g hp' hn5 hB' f.1 (by omega)
      have hFl := hF.2.2.1.1
      have hsl := safe_len hp hn5 (by omega) (k := 1)
      rw [hF.1, Option.bind_some, hsl, most_g (by omega) (by omega) (by omega), leB_iff.2 (later_le hp hn5 (by omega) hp' hB' hx (by omega))]
      simp only [beq_self_eq_true, andM_true, Option.bind_some]
      exact Ok.ret rfl
    · exact ht.elim
end Go.Mine
