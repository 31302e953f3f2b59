/- Drawn patterns, plain: what is true of every pattern that is made event by event. -/
import Derived.Test.YtbmjcbhappjnaaaApat
import Derived.Test.YtbmjcbhappjnaaaPmk
set_option linter.unusedSimpArgs false
set_option linter.unusedVariables false
namespace Go.Mine
open Go.RowKit
structure ArcG (n : Nat) (lens : List Int) (a : Arc) : Prop where
  fr : 0 ≤ a.fr ∧ a.fr < n
  to : 0 ≤ a.to ∧ a.to < n
  ne : a.fr ≠ a.to
  ix : 0 ≤ a.ix ∧ a.ix ≤ nI lens a.fr
  rcv : 0 ≤ a.rcv ∧ a.rcv ≤ nI lens a.to
/-- checkpoints of a process with x events -/
structure CkG (r : List Int) (x : Int) : Prop where
  zero : r[0]? = some 0
  asc : r.Pairwise (· < ·)
  le : ∀ y ∈ r, y ≤ x
/-- ranks: no event must come behind itself -/
structure RankG (n B : Nat) (lens : List Int) (arcs : List Arc) (ρ : Int → Int → Nat) : Prop where
  top : ∀ (q k : Int), ρ q k ≤ B
  up : ∀ (q k : Int), 0 ≤ q → q < n → 1 ≤ k → k + 1 ≤ nI lens q → ρ q k < ρ q (k + 1)
  arc : ∀ a ∈ arcs, a.rcv ≠ 0 → a.ix ≠ 0 → ρ a.fr a.ix < ρ a.to a.rcv
structure PatG (n B : Nat) (p : Pat) : Prop where
  len : p.lens.length = n
  ck : p.ckpts.length = n
  rng : ∀ x ∈ p.lens, 0 ≤ x ∧ x ≤ B
  row : ∀ (q : Nat) (r : List Int) (x : Int), p.ckpts[q]? = some r → p.lens[q]? = some x → CkG r x
  wid : ∀ r ∈ p.ckpts, r.length ≤ B + 1
  arc : ∀ a ∈ p.arcs, ArcG n p.lens a
  al : p.arcs.length ≤ 4 * B
  uniq : p.arcs.Pairwise fun a b => a.rcv ≠ 0 → ¬ (a.to = b.to ∧ a.rcv = b.rcv)
  rank : ∃ ρ, RankG n B p.lens p.arcs ρ
theorem PatG.mono {n B C : Nat} {p : Pat} (h : PatG n B p) (hc : B ≤ C) : PatG n C p := by
  obtain ⟨ρ, hr⟩ := h.rank
  exact ⟨h.len, h.ck, fun x hx => by have := h.rng x hx; omega, h.row, fun r hr => by have := h.wid r hr; omega, h.arc, by have := h.al; omega, h.uniq, ρ, fun q k => by have := hr.top q k; omega, hr.up, hr.arc⟩
theorem CkG.pos {r : List Int} {x : Int} (h : CkG r x) : 0 < r.length := (List.getElem?_eq_some_iff.1 h.zero).1
theorem CkG.nonneg {r : List Int} {x : Int} (h : CkG r x) : ∀ y ∈ r, 0 ≤ y := by
  intro y hy
  obtain ⟨i, hi, rfl⟩ := List.getElem_of_mem hy
  obtain ⟨h0, h1⟩ := List.getElem?_eq_some_iff.1 h.zero
  rcases Nat.eq_zero_or_pos i with rfl | hp
  · omega
  · have := List.pairwise_iff_getElem.1 h.asc 0 i h0 hi hp; omega
theorem CkG.last {r : List Int} {x : Int} (h : CkG r x) {y : Int} (hy : r[r.length - 1]? = some y) : ∀ z ∈ r, z ≤ y := by
  intro z hz
  obtain ⟨i, hi, rfl⟩ := List.getElem_of_mem hz
  obtain ⟨h0, rfl⟩ := List.getElem?_eq_some_iff.1 hy
  rcases Nat.lt_or_ge i (r.length - 1) with hl | hl
  · have := List.pairwise_iff_getElem.1 h.asc i (r.length - 1) hi h0 hl; omega
  · have : i = r.length - 1 := by omega
    subst this; exact Int.le_refl _
theorem CkG.snoc {r : List Int} {x : Int} (h : CkG r x) {y : Int} (hy : r[r.length - 1]? = some y) (hne : y ≠ x) : CkG (r ++ [x]) x := by
  have hl := h.last hy
  have hyx := h.le y (List.mem_of_getElem? hy)
  refine ⟨by rw [List.getElem?_append_left h.pos]; exact h.zero, ?_, fun z hz => ?_⟩
  · rw [List.pairwise_append]
    exact ⟨h.asc, List.pairwise_singleton _ _, fun a ha b hb => by simp at hb; subst hb; have := hl a ha; omega⟩
  · rcases List.mem_append.1 hz with hz | hz
    · exact h.le z hz
    · simp at hz; omega
theorem CkG.up {r : List Int} {x y : Int} (h : CkG r x) (hxy : x ≤ y) : CkG r y := ⟨h.zero, h.asc, fun z hz => by have := h.le z hz; omega⟩
theorem proc_g {fuel : Nat} {p : Pat} {q : Int} : ref16_proc fuel p q = some (decide (0 ≤ q) && decide (q < (p.lens.length : Int))) := by
  unfold ref16_proc; simp [andM_some]
theorem PatG.nI_rng {n B : Nat} {p : Pat} (h : PatG n B p) (q : Int) : 0 ≤ nI p.lens q ∧ nI p.lens q ≤ B := by
  unfold nI
  cases e : p.lens[q.toNat]? with
  | none => simp
  | some w => have := h.rng w (List.mem_of_getElem? e); simpa using this
/-- a checkpoint more -/
theorem PatG.mark {n B : Nat} {p : Pat} (h : PatG n B p) {q : Nat} {r : List Int} {x y : Int} (hr : p.ckpts[q]? = some r) (hx : p.lens[q]? = some x) (hy : r[r.length - 1]? = some y) (hne : y ≠ x) : PatG n (B + 1) ⟨p.lens, p.ckpts.set q (r ++ [x]), p.arcs⟩ := by
  have hq : q < p.ckpts.length := (List.getElem?_eq_some_iff.1 hr).1
  have h1 := h.mono (Nat.le_succ B)
  refine ⟨h1.len, by simp [h.ck], h1.rng, fun q' r' x' hr' hx' => ?_, fun r' hr' => ?_, h1.arc, h1.al, h1.uniq, h1.rank⟩
  · rw [getElem?_set' hq] at hr'
    split at hr'
    · rename_i e; subst e; cases hr'; rw [hx] at hx'; cases hx'; exact (h.row q' r x hr hx).snoc hy hne
    · exact h.row q' r' x' hr' hx'
  · rcases mem_set hr' with h5 | rfl
    · have := h.wid r' h5; omega
    · have := h.wid r (List.mem_of_getElem? hr); simp; omega
/-- an event more -/
theorem PatG.event {n B : Nat} {p : Pat} (h : PatG n B p) {q : Nat} {x : Int} (hx : p.lens[q]? = some x) (ars : List Arc) (hal : ars.length ≤ 1)
    (ha : ∀ a ∈ ars, (0 ≤ a.fr ∧ a.fr < n) ∧ a.fr ≠ a.to ∧ a.to = q ∧ (0 ≤ a.ix ∧ a.ix ≤ nI p.lens a.fr) ∧ a.rcv = x + 1) : PatG n (B + 1) ⟨p.lens.set q (x + 1), p.ckpts, p.arcs ++ ars⟩ := by
  have hq : q < p.lens.length := (List.getElem?_eq_some_iff.1 hx).1
  have hn := h.len
  have hxr := h.rng x (List.mem_of_getElem? hx)
  have hxn : nI p.lens (q : Int) = x := nI_some (by simpa using hx)
  have hset : ∀ j : Int, 0 ≤ j → nI (p.lens.set q (x + 1)) j = if j = q then x + 1 else nI p.lens j := fun j hj => by
    have := nI_set (xs := p.lens) (i := (q : Int)) (j := j) (x := x + 1) (by omega) (by omega) hj
    simpa using this
  have hge : ∀ j : Int, 0 ≤ j → nI p.lens j ≤ nI (p.lens.set q (x + 1)) j := fun j hj => by
    rw [hset j hj]; split
    · rename_i e; subst e; omega
    · omega
  obtain ⟨ρ, hr⟩ := h.rank
  have hold : ∀ a ∈ p.arcs, ArcG n (p.lens.set q (x + 1)) a := fun a h5 => by
    obtain ⟨a1, a2, a3, a4, a5⟩ := h.arc a h5
    exact ⟨a1, a2, a3, ⟨a4.1, Int.le_trans a4.2 (hge _ a1.1)⟩, ⟨a5.1, Int.le_trans a5.2 (hge _ a2.1)⟩⟩
  refine ⟨by simp [h.len], h.ck, fun z hz => ?_, fun q' r' x' hr' hx' => ?_, fun r hr => by have := h.wid r hr; omega, fun a h5 => ?_, ?_, ?_, fun q' k' => if q' = q ∧ k' = x + 1 then B + 1 else ρ q' k', fun q' k' => ?_, fun q' k' h0 h1 h2 h3 => ?_, fun a h5 h6 h7 => ?_⟩
  · rcases mem_set hz with h7 | rfl
    · have := h.rng z h7; omega
    · omega
  · rw [getElem?_set' hq] at hx'
    split at hx'
    · rename_i e; subst e; cases hx'; exact (h.row q' r' x hr' hx).up (by omega)
    · exact h.row q' r' x' hr' hx'
  · rcases List.mem_append.1 h5 with h6 | h6
    · exact hold a h6
    · obtain ⟨b1, b2, b3, b4, b5⟩ := ha a h6
      refine ⟨b1, by omega, b2, ⟨b4.1, Int.le_trans b4.2 (hge _ b1.1)⟩, ⟨by omega, ?_⟩⟩
      rw [hset _ (by omega), if_pos b3]; omega
  · have := h.al; simp; omega
  · rw [List.pairwise_append]
    refine ⟨h.uniq, ?_, fun a h5 b h6 _ h8 => ?_⟩
    · match ars, hal with
      | [], _ => exact List.Pairwise.nil
      | [a], _ => exact List.pairwise_singleton _ _
    · obtain ⟨b1, b2, b3, b4, b5⟩ := ha b h6
      have := (h.arc a h5).rcv
      rw [h8.1, b3, hxn] at this
      omega
  · split
    · omega
    · have := hr.top q' k'; omega
  · rw [hset q' h0] at h3
    by_cases e : q' = q
    · subst e
      rw [if_pos rfl] at h3
      rw [if_neg (by omega)]
      split
      · have := hr.top (q : Int) k'; omega
      · exact hr.up _ k' h0 h1 h2 (by rw [hxn]; omega)
    · rw [if_neg e] at h3
      rw [if_neg (by omega), if_neg (by omega)]
      exact hr.up q' k' h0 h1 h2 h3
  · rcases List.mem_append.1 h5 with h8 | h8
    · have a4 := (h.arc a h8).ix; have a5 := (h.arc a h8).rcv
      have e1 : ¬ (a.fr = q ∧ a.ix = x + 1) := fun ⟨e, e'⟩ => by rw [e, hxn] at a4; omega
      have e2 : ¬ (a.to = q ∧ a.rcv = x + 1) := fun ⟨e, e'⟩ => by rw [e, hxn] at a5; omega
      rw [if_neg e1, if_neg e2]
      exact hr.arc a h8 h6 h7
    · obtain ⟨b1, b2, b3, b4, b5⟩ := ha a h8
      rw [if_neg (fun ⟨e, _⟩ => b2 (by omega)), if_pos ⟨b3, b5⟩]
      have := hr.top a.fr a.ix; omega
/-- a message more that is not received -/
theorem PatG.sent {n B : Nat} {p : Pat} (h : PatG n B p) {a : Arc} (hf : 0 ≤ a.fr ∧ a.fr < n) (ht : 0 ≤ a.to ∧ a.to < n) (hne : a.fr ≠ a.to) (hi : 0 ≤ a.ix ∧ a.ix ≤ nI p.lens a.fr) (hr : a.rcv = 0) : PatG n (B + 1) ⟨p.lens, p.ckpts, p.arcs ++ [a]⟩ := by
  have h1 := h.mono (Nat.le_succ B)
  obtain ⟨ρ, hρ⟩ := h1.rank
  refine ⟨h1.len, h1.ck, h1.rng, h1.row, h1.wid, fun b hb => ?_, by have := h.al; simp; omega, ?_, ρ, hρ.top, hρ.up, fun b hb h6 h7 => ?_⟩
  · rcases List.mem_append.1 hb with h6 | h6
    · exact h1.arc b h6
    · simp at h6; subst h6; exact ⟨hf, ht, hne, hi, by omega, by rw [hr]; exact (h.nI_rng _).1⟩
  · rw [List.pairwise_append]
    exact ⟨h.uniq, List.pairwise_singleton _ _, fun b hb c hc h6 h7 => by simp at hc; subst hc; omega⟩
  · rcases List.mem_append.1 hb with h8 | h8
    · exact hρ.arc b h8 h6 h7
    · simp at h8; subst h8; exact absurd hr h6
theorem mark_g {fuel : Nat} {n B : Nat} {p : Pat} {q : Int} (h : PatG n B p) (h0 : 0 ≤ q) (h1 : q < n) (hB : B ≤ 100000) (hn : n ≤ 100) : Ok (ref16_Mark fuel p q) fun p' => PatG n (B + 1) p' := by
  have hl := h.len; have hk := h.ck; have hal := h.al
  unfold ref16_Mark
  rw [proc_g, Option.bind_some]
  refine Ok.ite (fun hc => Ok.ret (h.mono (by omega))) fun _ => ?_
  refine (Ok.at h0 (by omega)).bind fun r hr => ?_
  have hw := h.wid r (List.mem_of_getElem? hr)
  have hlx : p.lens[q.toNat]? = some (p.lens[q.toNat]'(by omega)) := by simp
  have hpos := (h.row _ r _ hr hlx).pos
  rw [w64_id (by omega) (by omega)]
  refine (Ok.at (by omega) (by omega)).bind fun y hy => (Ok.at h0 (by omega)).bind fun x hx => Ok.iteE (fun _ => Ok.ret (h.mono (by omega))) fun hne => ?_
  have hy' : r[r.length - 1]? = some y := by rw [← hy]; congr 1; omega
  refine (Ok.cat (by simp; omega)).bind fun c hc => ?_
  unfold ref16_Mark_J1
  subst hc
  refine (Ok.at h0 (by omega)).bind fun z2 hz2 => (Ok.cat (by simp; omega)).bind fun c2 hc2 => ?_
  subst hc2
  rw [hx] at hz2; cases hz2
  refine (Ok.snoc (by first | omega | (simp; omega))).bind fun c3 hc3 => ?_
  subst hc3
  refine (Ok.at h0 (by simp; omega)).bind fun y2 hy2 => (Ok.set h0 (by simp; omega)).bind fun c4 hc4 => ?_
  subst hc4
  unfold ref16_Mark_J2
  simp only [List.nil_append]
  exact Ok.ret (h.mark hr hx hy' hne)
theorem append_g {fuel : Nat} {n B : Nat} {p : Pat} {q s i : Int} (h : PatG n B p) (h0 : 0 ≤ q) (h1 : q < n) (hB : B ≤ 100000) (hn : n ≤ 100) : Ok (ref16_Append fuel p q s i) fun r => r.2 = true → PatG n (B + 1) r.1 := by
  have hl := h.len; have hal := h.al
  unfold ref16_Append
  rw [proc_g, Option.bind_some]
  refine Ok.bind (Q := fun b => True) (Ok.orM (fun _ => (Ok.at h0 (by omega)).bind fun x hx => Ok.ret trivial) fun _ => trivial) fun b _ => Ok.ite (fun _ => Ok.ret (by simp)) fun _ => ?_
  refine (Ok.cat (by simp; omega)).bind fun c1 e1 => (Ok.cat (by simp; omega)).bind fun c2 e2 => ?_
  subst e1 e2
  simp only [List.nil_append]
  unfold ref16_Append_J1
  refine (Ok.at h0 (by omega)).bind fun x hx => (Ok.at h0 (by omega)).bind fun x2 hx2 => (Ok.set h0 (by omega)).bind fun l hl2 => ?_
  have hxr := h.rng x (List.mem_of_getElem? hx)
  rw [w64_id (by omega) (by omega)] at hl2
  subst hl2
  have hqq : ((q.toNat : Nat) : Int) = q := by omega
  refine Ok.iteE (fun _ => Ok.ret fun _ => by simpa using h.event hx [] (by simp) (by simp)) fun _ => ?_
  rw [proc_g, Option.bind_some]
  simp only [orM_some, Option.bind_some]
  refine Ok.bind (Q := fun b => b = false → (0 ≤ s ∧ s < n ∧ s ≠ q ∧ 0 ≤ i ∧ i ≤ nI p.lens s)) (Ok.orM (fun hc => ?_) fun _ => by simp) fun b hb => ?_
  · simp at hc
    refine (Ok.at (by omega) (by omega)).bind fun y hy => Ok.ret fun h5 => ?_
    rw [nI_some hy]; simp at h5; omega
  · refine Ok.ite (fun _ => Ok.ret (by simp)) fun hc => ?_
    have hb2 := hb (by simp at hc; exact hc.1)
    refine (Ok.at h0 (by simp; omega)).bind fun y hy => (Ok.snoc (by omega)).bind fun c3 e3 => Ok.ret fun _ => ?_
    subst e3
    have hyx : y = x + 1 := by rw [getElem?_set' (by omega)] at hy; simpa using hy.symm
    subst hyx
    exact h.event hx _ (by simp) (fun a h6 => by simp at h6; subst h6; exact ⟨⟨hb2.1, hb2.2.1⟩, hb2.2.2.1, hqq.symm, ⟨hb2.2.2.2.1, hb2.2.2.2.2⟩, rfl⟩)
theorem with_g {fuel : Nat} {n B : Nat} {p : Pat} {q s i : Int} (h : PatG n B p) (h0 : 0 ≤ q) (h1 : q < n) (hB : B ≤ 100000) (hn : n ≤ 100) : Ok (make_with fuel p q s i) fun p' => PatG n (B + 1) p' := by
  unfold make_with
  refine (append_g (p := p) h h0 h1 hB hn).bind fun r hr => Ok.ite (fun e => Ok.ret (hr e)) fun _ => Ok.ret (h.mono (by omega))
theorem tmod_ne {n : Nat} {q s : Int} (q0 : 0 ≤ q) (q1 : q < n) (s0 : 0 ≤ s) (s1 : s < (n : Int) - 1) : (q + 1 + s).tmod n ≠ q := by
  rcases Int.lt_or_le (q + 1 + s) n with h | h
  · rw [Int.tmod_eq_of_lt (by omega) h]; omega
  · have : (q + 1 + s).tmod n = q + 1 + s - n := by
      rw [Int.tmod_eq_emod_of_nonneg (by omega), ← Int.sub_emod_right, Int.emod_eq_of_lt (by omega) (by omega)]
    omega
theorem pattern_g {fuel : Nat} {c : List Int} {i : Int} {m : Nat} (h : COk c i) (hm : m ≤ 1000) (hf : 1000000 < fuel) : Ok (make_Codes_Pattern fuel m c i) fun r => ∃ n : Nat, 2 ≤ n ∧ n ≤ 4 ∧ PatG n m r.1 ∧ COk c r.2 := by
  unfold make_Codes_Pattern
  refine (Ok.next h (by omega)).bind fun r ⟨r0, r1, hc, _⟩ => ?_
  obtain ⟨n, hn⟩ : ∃ n : Nat, 2 + r.1 = n := ⟨(2 + r.1).toNat, by omega⟩
  have hw : w64 (2 + r.1) = n := by rw [hn, w64_id (by omega) (by omega)]
  rw [hw]
  refine (Ok.mk (by omega) (by omega)).bind fun x hx => ?_
  refine Ok.bind (Ok.for_ n (fun k s => s = (List.replicate k [0], (k : Int))) (Q := fun t => t = List.replicate n [0]) rfl (by omega) fun k s hk e => ?_) fun t ht => ?_
  · subst e
    simp only [make_Codes_Pattern_B2, hw]
    refine Ok.iteP (fun hk2 => ?_) fun hk2 => Ok.ret ?_
    · refine (Ok.snoc (by simp; omega)).bind fun y hy => Ok.ret ⟨by omega, ?_⟩
      rw [hy, w64_nat (by omega), List.replicate_succ']
    · obtain rfl : k = n := by omega
      rfl
  · subst ht
    simp only [make_Codes_Pattern_K1]
    refine Ok.bind (Ok.for_ m (fun k s => PatG n k ⟨s.2.1, s.2.2.1, s.2.2.2.1⟩ ∧ COk c s.1 ∧ s.2.2.2.2 = (k : Int)) (Q := fun t => PatG n m ⟨t.2.1, t.2.2.1, t.2.2.2⟩ ∧ COk c t.1) ⟨?_, hc, rfl⟩ (by omega) ?_) fun t ht => ?_
    · subst hx
      refine ⟨by simp, by simp, fun y hy => ?_, fun q r' x' hr' hx' => ?_, fun y hy => ?_, fun a ha => by simp at ha, by simp, List.Pairwise.nil, fun _ _ => 0, fun _ _ => Nat.le_refl _, fun q k h0 h1 h2 h3 => ?_, fun a ha => by cases ha⟩
      · have := List.eq_of_mem_replicate hy; omega
      · have e1 := List.eq_of_mem_replicate (List.mem_of_getElem? hr'); have e2 := List.eq_of_mem_replicate (List.mem_of_getElem? hx')
        subst e1 e2
        exact ⟨rfl, List.pairwise_singleton _ _, by simp⟩
      · have := List.eq_of_mem_replicate hy; subst this; simp
      · exfalso
        have : nI (List.replicate (n : Int).toNat (0 : Int)) q = 0 := by
          unfold nI
          cases e : (List.replicate (n : Int).toNat (0 : Int))[q.toNat]? with
          | none => rfl
          | some w => have := List.eq_of_mem_replicate (List.mem_of_getElem? e); simp [this]
        simp only at h3
        omega
    · rintro k ⟨i1, l, ck, ars, i2⟩ hk ⟨hp, hc1, he⟩
      simp only at hp hc1 he
      subst he
      simp only [make_Codes_Pattern_B1, make_Codes_Left, hw]
      refine Ok.bind (Q := fun b => b = true → k < m) (Ok.andM (fun hb => Ok.ret fun _ => by simpa using hb) fun _ => by simp) fun b hb => Ok.ite (fun hb2 => ?_) fun _ => Ok.ret ⟨hp.mono hk, hc1⟩
      have hkm := hb hb2
      have hn4 : n ≤ 4 := by omega
      have hn2 : 2 ≤ n := by omega
      refine (Ok.next hc1 (by omega)).bind fun q ⟨q0, q1, hc2, _⟩ => (Ok.next hc2 (by omega)).bind fun kd ⟨_, _, hc3, _⟩ => Ok.iteP (fun _ => ?_) fun _ => Ok.iteE (fun _ => ?_) fun _ => Ok.iteE (fun _ => ?_) fun _ => ?_
      · refine (mark_g hp q0 q1 (by omega) (by omega)).bind fun p' hp' => Ok.ret ⟨hkm, hp', hc3, w64_nat (by omega)⟩
      · refine (with_g hp q0 q1 (by omega) (by omega)).bind fun p' hp' => Ok.ret ⟨hkm, hp', hc3, w64_nat (by omega)⟩
      · have e1 : w64 ((n : Int) - 1) = (n : Int) - 1 := w64_id (by omega) (by omega)
        rw [e1]
        refine (Ok.next hc3 (by omega)).bind fun s ⟨s0, s1, hc4, _⟩ => ?_
        have e2 : w64 (w64 (q.1 + 1) + s.1) = q.1 + 1 + s.1 := by rw [w64_id (i := q.1 + 1) (by omega) (by omega), w64_id (by omega) (by omega)]
        rw [e2]
        refine (Ok.rem (by omega)).bind fun z hz => ?_
        have z0 : 0 ≤ z := by rw [hz]; exact Int.tmod_nonneg _ (by omega)
        have z1 : z < n := by rw [hz]; exact Int.tmod_lt_of_pos _ (by omega)
        have zq : z ≠ q.1 := by rw [hz]; exact tmod_ne q0 q1 s0 s1
        refine (Ok.at z0 (by have := hp.len; simp only at this; omega)).bind fun y hy => ?_
        have hyr := hp.rng y (List.mem_of_getElem? hy)
        rw [w64_id (i := y + 1) (by omega) (by omega)]
        refine (Ok.next hc4 (by omega)).bind fun ix ⟨i0, i1', hc5, _⟩ => (Ok.snoc (by have := hp.al; simp only at this; omega)).bind fun as2 has => Ok.ret ⟨hkm, ?_, hc5, w64_nat (by omega)⟩
        subst has
        exact hp.sent (a := ⟨z, ix.1, q.1, 0⟩) ⟨z0, z1⟩ ⟨q0, q1⟩ zq ⟨i0, by simp only; rw [nI_some hy]; omega⟩ rfl
      · have e1 : w64 ((n : Int) - 1) = (n : Int) - 1 := w64_id (by omega) (by omega)
        rw [e1]
        refine (Ok.next hc3 (by omega)).bind fun s ⟨s0, s1, hc4, _⟩ => ?_
        have e2 : w64 (w64 (q.1 + 1) + s.1) = q.1 + 1 + s.1 := by rw [w64_id (i := q.1 + 1) (by omega) (by omega), w64_id (by omega) (by omega)]
        rw [e2]
        refine (Ok.rem (by omega)).bind fun z hz => ?_
        have z0 : 0 ≤ z := by rw [hz]; exact Int.tmod_nonneg _ (by omega)
        have z1 : z < n := by rw [hz]; exact Int.tmod_lt_of_pos _ (by omega)
        have hll := hp.len
        simp only at hll
        refine (Ok.at z0 (by omega)).bind fun y hy => (Ok.at z0 (by omega)).bind fun y2 hy2 => ?_
        obtain rfl : y = y2 := by rw [hy] at hy2; exact Option.some.inj hy2
        have hyr := hp.rng y (List.mem_of_getElem? hy)
        rw [w64_id (i := y + 1) (by omega) (by omega)]
        refine (Ok.next hc4 (by omega)).bind fun ix ⟨i0, i1', hc5, _⟩ => (with_g hp q0 q1 (by omega) (by omega)).bind fun p' hp' => Ok.ret ⟨hkm, hp', hc5, w64_nat (by omega)⟩
    · exact Ok.ret ⟨n, by omega, by omega, ht.1, ht.2⟩
end Go.Mine
