/- ZigzagTracks, plain. -/
import Derived.Test.YtlceljfigccllaaA21lf
import Derived.Test.YtlceljfigccllaaP21k
set_option linter.unusedSimpArgs false
set_option linter.unusedVariables false
namespace Go.Mine
open Go.RowKit
theorem received_g {n B : Nat} {p : Pat} (h : PatG n B p) (hB : B ≤ 64) {q k : Int} (hk : 0 < k) : Ok (ref16_Received 10000000 p q k) fun r => 0 ≤ r ↔ ∃ a ∈ p.arcs, a.to = q ∧ a.rcv = k := by
  have hal := h.al
  unfold ref16_Received
  refine Ok.bind (Q := fun t => match t with | .inl _ => ¬ ∃ a ∈ p.arcs, a.to = q ∧ a.rcv = k | .inr r => 0 ≤ r ∧ ∃ a ∈ p.arcs, a.to = q ∧ a.rcv = k) (Ok.for_ p.arcs.length (fun i s => s = (i : Int) ∧ ∀ a ∈ p.arcs.take i, ¬ (a.to = q ∧ a.rcv = k)) ⟨rfl, by simp⟩ (by omega) ?_) ?_
  · rintro i s hi ⟨rfl, h1⟩
    unfold ref16_Received_B1
    refine Ok.iteP (fun hil => ?_) (fun hil => Ok.ret ?_)
    · have hil' : i < p.arcs.length := by omega
      rw [ati_get hil', Option.bind_some, andM_some, Option.bind_some, Option.bind_some, andM_some, Option.bind_some]
      refine Ok.ite (fun hc => Ok.ret ?_) (fun hc => Ok.ret ⟨hil', w64_nat (by omega), fun a ha => ?_⟩)
      · simp at hc; exact ⟨by omega, p.arcs[i], List.getElem_mem _, hc.1.2, hc.2⟩
      · rw [mem_take_succ', List.getElem?_eq_getElem hil', Option.some.injEq] at ha
        rcases ha with h5 | rfl
        · exact h1 a h5
        · rintro ⟨h6, h7⟩; simp [hk, h6, h7] at hc
    · rw [show i = p.arcs.length by omega, List.take_length] at h1
      rintro ⟨a, h5, h6⟩; exact h1 a h5 h6
  · rintro (u | r) ht
    · exact Ok.ret ⟨fun h5 => absurd h5 (by omega), fun h5 => absurd h5 ht⟩
    · exact Ok.ret ⟨fun _ => ht.2, fun _ => ht.1⟩
/-- a checkpoint before every received message -/
structure FullR (B : Nat) (p : Pat) (q : Nat) (m : List Int) : Prop where
  ck : CkG m (nI p.lens q)
  len : m.length ≤ B + 1
  rcv : ∀ a ∈ p.arcs, a.to = q → a.rcv ≠ 0 → a.rcv - 1 ∈ m
theorem full_g {n B : Nat} {p f : Pat} (h : PatG n B p) (h1 : f.lens = p.lens) (h2 : f.arcs = p.arcs) (h3 : f.ckpts.length = n) (h4 : ∀ q : Nat, q < n → FullR B p q (ckR f q)) : PatG n B f := by
  have hrow : ∀ (q : Nat) (r : List Int), f.ckpts[q]? = some r → q < n ∧ ckR f q = r := fun q r hr => ⟨by have := (List.getElem?_eq_some_iff.1 hr).1; omega, by simp [ckR, hr]⟩
  refine ⟨by rw [h1]; exact h.len, h3, by rw [h1]; exact h.rng, fun q r x hr hx => ?_, fun r hr => ?_, by rw [h1, h2]; exact h.arc, by rw [h2]; exact h.al, by rw [h2]; exact h.uniq, by rw [h1, h2]; exact h.rank⟩
  · obtain ⟨hq, e⟩ := hrow q r hr
    have := (h4 q hq).ck
    rw [e] at this
    rw [h1] at hx
    rw [nI_some (by simpa using hx)] at this
    exact this
  · obtain ⟨q, hq⟩ := List.getElem?_of_mem hr
    obtain ⟨hqn, e⟩ := hrow q r hq
    rw [← e]; exact (h4 q hqn).len
theorem ivl_full {r : List Int} {c k : Int} (hc : c - 1 ∈ r) (hle : ivl r c ≤ ivl r k) : c ≤ k := by
  rcases Int.lt_or_le k c with h5 | h5
  · exfalso
    have : ivl r k < ivl r c := countP_lt hc (by simp; omega) (by simp; omega) fun y hy => by simp at hy ⊢; omega
    omega
  · exact h5
theorem full_za {n B : Nat} {f : Pat} (h : PatG n B f) (hf : ∀ a ∈ f.arcs, a.rcv ≠ 0 → a.rcv - 1 ∈ ckR f a.to) {a y : Pt} (ha : VN n f a) (hz : ZA f a y) :
    ∃ r ∈ f.arcs, r.rcv ≠ 0 ∧ y = (arcE f r).x1 ∧ ∃ j, 1 ≤ j ∧ a.index < (ivl (ckR f a.proc) j : Int) ∧ Hb f.arcs a.proc j r.to r.rcv := by
  induction hz with
  | @first r h1 h2 h3 h4 =>
    refine ⟨r, h1, h2, rfl, r.ix, ?_, by rw [← h3]; exact h4, ?_⟩
    · have hag := h.arc r h1
      rcases Int.lt_or_le r.ix 1 with h5 | h5
      · exfalso
        have e : r.ix = 0 := by have := hag.ix.1; omega
        have hcg := h.ckI hag.fr.1 hag.fr.2
        have : ivl (ckR f r.fr) r.ix = 0 := by
          rw [e]; unfold ivl; rw [List.countP_eq_zero]
          intro y hy; have := hcg.nonneg y hy; simp; omega
        have := ha.i0; omega
      · exact h5
    · refine .arc h1 h2 (Int.le_refl _) ?_
      rw [h3]; exact .same (Int.le_refl _)
  | @next y r _ h1 h2 h3 h4 ih =>
    obtain ⟨r0, g1, g2, g3, j, g4, g5, g6⟩ := ih
    refine ⟨r, h1, h2, rfl, j, g4, g5, .arc h1 h2 (Int.le_refl _) ?_⟩
    subst g3
    simp only [arcE] at h3 h4
    rw [h3] at h4 ⊢
    exact g6.mono (ivl_full (hf r0 g1 g2) (by omega))
theorem full_trk {n B : Nat} {f : Pat} (h : PatG n B f) (hn : n ≤ 5) (hB : B ≤ 64) (hf : ∀ a ∈ f.arcs, a.rcv ≠ 0 → a.rcv - 1 ∈ ckR f a.to) : TrkP n f := by
  rintro a b ha hb ⟨y, hy, hyp, hyi⟩
  obtain ⟨r, g1, g2, g3, j, g4, g5, g6⟩ := full_za h hf ha hy
  subst g3
  simp only [arcE] at hyp hyi
  have hag := h.arc r g1
  obtain ⟨m, hm⟩ := Int.eq_ofNat_of_zero_le hb.i0
  obtain ⟨s, hs⟩ := Int.eq_ofNat_of_zero_le ha.p0
  have hsn : s < n := by have := ha.p1; omega
  have hr := cidx_rng h hb.p0 hb.p1 hb.i0
  have hle : r.rcv ≤ cidx f b.proc b.index := by
    rw [hm]
    refine (ivl_cidx h hb.p0 hb.p1 (y := m) (by have := hb.i1; omega) (by rw [← hyp]; exact hag.rcv.2)).1 ?_
    rw [hyp] at hyi; omega
  rw [hyp] at g6
  obtain ⟨_, hc⟩ := clk_s h hn hB hb.p0 hb.p1 hr.1 hr.2
  obtain ⟨c1, c2, c3⟩ := hc.2 s hsn
  have h5 := c2 j g4 (by rw [← hs]; exact g6.mono hle)
  have h6 := ivl_mono (r := ckR f s) h5
  unfold dv
  rw [hs] at g5 ⊢
  omega
theorem trk_usl {n B : Nat} {p : Pat} (h : PatG n B p) (hn : n ≤ 5) (hB : B ≤ 64) (ht : TrkP n p) {x : Pt} (hx : VN n p x) : ¬ zpath p x x := fun hz => by
  have h1 := ht x x hx hx hz
  obtain ⟨q, hq⟩ := Int.eq_ofNat_of_zero_le hx.p0
  obtain ⟨m, hm⟩ := Int.eq_ofNat_of_zero_le hx.i0
  obtain ⟨x1, x2⟩ := x
  simp only at hq hm h1
  subst hq hm
  have := dv_self h hn hB (q := q) (by have := hx.p1; simp only at this; omega) (y := m) (by have := hx.i1; simp only at this; omega)
  omega
theorem trk_nil {n B : Nat} {p : Pat} (h : PatG n B p) (hn : n ≤ 5) (hB : B ≤ 64) (ht : TrkP n p) : uslL n p = [] := by
  unfold uslL
  rw [List.filter_eq_nil_iff]
  intro x hx
  rw [zpB_iff]
  exact trk_usl h hn hB ht (mem_allL.1 hx)
theorem zigzagTracks {a0 a1 : List Int} (h0 : ∀ x ∈ a0, U8 x) (h1 : ∀ x ∈ a1, U8 x) : law21_ZigzagTracks 10000000 a0 a1 = some true := by
  unfold law21_ZigzagTracks
  rw [awake21, Option.bind_some]
  simp only [Bool.not_true, Bool.false_eq_true, if_false]
  refine Ok.eq ?_
  refine (Ok.new (by omega) (by omega) h0).bind fun r hr => (pattern_g hr (m := 12) (by omega) (by omega)).bind fun P ⟨n, hn2, hn4, hp, _⟩ => ?_
  simp only [show (⟨P.1.lens, P.1.ckpts, P.1.arcs⟩ : Pat) = P.1 from rfl]
  refine (Ok.new (by omega) (by omega) h1).bind fun r2 hr2 => (ckpts_g hp (by omega) (by omega) hr2).bind fun L hL => ?_
  have hLl := hL.len; have hlen := hp.len
  refine Ok.bind (Q := fun t => t.length = n ∧ ∀ (q : Nat) (m : List Int), t[q]? = some m → FullR 12 P.1 q m) (Ok.for_ n (fun k s => s.2 = (k : Int) ∧ s.1.length = k ∧ ∀ (q : Nat) (m : List Int), s.1[q]? = some m → FullR 12 P.1 q m) ⟨rfl, rfl, by simp⟩ (by omega) ?_) fun t ⟨t1, t2⟩ => ?_
  · rintro k ⟨C, i⟩ hk ⟨hi, hC, hF⟩
    simp only at hi hC hF
    subst hi
    simp only [law21_ZigzagTracks_B3]
    refine Ok.iteP (fun hkl => ?_) (fun hkl => Ok.ret ⟨by omega, hF⟩)
    have hkn : k < n := by omega
    have hrg := hp.nI_rng k
    refine Ok.bind (Q := FullR 12 P.1 k) (Ok.for_ 12 (fun j s => s.2 = 1 + (j : Int) ∧ s.1.length ≤ j + 1 ∧ s.1[0]? = some 0 ∧ s.1.Pairwise (· < ·) ∧ (∀ y ∈ s.1, y ≤ nI P.1.lens k ∧ y < 1 + (j : Int)) ∧ ∀ y : Int, 1 ≤ y → y < 1 + (j : Int) → (∃ a ∈ P.1.arcs, a.to = k ∧ a.rcv = y + 1) → y ∈ s.1) ⟨rfl, by simp, rfl, by simp, by simp; exact hrg.1, fun y _ _ => by omega⟩ (by omega) ?_) fun m hm => ?_
    · rintro j ⟨m, i⟩ hj ⟨hi, m1, m2, m3, m4, m5⟩
      simp only at hi m1 m2 m3 m4 m5
      subst hi
      simp only [law21_ZigzagTracks_B4, show (⟨P.1.lens, P.1.ckpts, P.1.arcs⟩ : Pat) = P.1 from rfl]
      rw [ati_nI (by omega) (by omega), Option.bind_some]
      refine Ok.iteP (fun hjl => ?_) (fun hjl => Ok.ret ?_)
      · rw [w64_id (i := 1 + (j : Int) + 1) (by omega) (by omega)]
        refine (received_g hp (by omega) (by omega)).bind fun v hv => ?_
        refine Ok.iteP (fun h5 => ?_) (fun h5 => Ok.ret ⟨by omega, by simp only; omega, by simp only; omega, m2, m3, fun y hy => ⟨(m4 y hy).1, by have := (m4 y hy).2; omega⟩, fun y y1 y2 ya => ?_⟩)
        · refine (Ok.snoc (by omega)).bind fun m' hm' => Ok.ret ⟨by omega, by simp only; omega, ?_⟩
          subst hm'
          refine ⟨by simp; omega, ?_, ?_, fun y hy => ?_, fun y y1 y2 ya => ?_⟩
          · simp only; rw [List.getElem?_append_left (List.getElem?_eq_some_iff.1 m2).1]; exact m2
          · refine List.pairwise_append.2 ⟨m3, by simp, fun a ha b hb => ?_⟩
            simp at hb; subst hb; exact (m4 a ha).2
          · rcases List.mem_append.1 hy with h6 | h6
            · exact ⟨(m4 y h6).1, by have := (m4 y h6).2; omega⟩
            · simp at h6; subst h6; exact ⟨by omega, by omega⟩
          · simp only
            rcases Int.lt_or_le y (1 + (j : Int)) with h6 | h6
            · exact List.mem_append.2 (.inl (m5 y y1 h6 ya))
            · exact List.mem_append.2 (.inr (by simp; omega))
        · rcases Int.lt_or_le y (1 + (j : Int)) with h6 | h6
          · exact m5 y y1 h6 ya
          · exact absurd (hv.2 (by rw [show 1 + (j : Int) + 1 = y + 1 by omega]; exact ya)) h5
      · refine ⟨⟨m2, m3, fun y hy => (m4 y hy).1⟩, by omega, fun a ha hat har => ?_⟩
        have hag := hp.arc a ha
        have a1 := hag.rcv.1; have a2 := hag.rcv.2
        rw [hat] at a2
        by_cases e : a.rcv = 1
        · rw [e]; exact List.mem_of_getElem? m2
        · exact m5 (a.rcv - 1) (by omega) (by omega) ⟨a, ha, hat, by omega⟩
    · simp only [law21_ZigzagTracks_K4]
      refine (Ok.snoc (by omega)).bind fun C' hC' => Ok.ret ⟨hkn, w64_nat (by omega), by simp [hC', hC], fun q m' hq => ?_⟩
      simp only [hC'] at hq
      rcases Nat.lt_or_ge q C.length with h5 | h5
      · rw [List.getElem?_append_left h5] at hq; exact hF q m' hq
      · rw [List.getElem?_append_right h5] at hq
        have hq0 : q - C.length = 0 := by
          rcases Nat.eq_zero_or_pos (q - C.length) with h6 | h6
          · exact h6
          · rw [List.getElem?_eq_none (by simp; omega)] at hq; cases hq
        rw [hq0] at hq
        simp at hq; subst hq
        rw [show q = k by omega]; exact hm
  · simp only [law21_ZigzagTracks_K1, show (⟨P.1.lens, P.1.ckpts, P.1.arcs⟩ : Pat) = P.1 from rfl]
    have hrowF : ∀ q : Nat, q < n → FullR 12 P.1 q (ckR ⟨P.1.lens, t, P.1.arcs⟩ q) := fun q hq => by
      have : t[q]? = some (ckR ⟨P.1.lens, t, P.1.arcs⟩ q) := by simp [ckR, (show q < t.length by omega)]
      exact t2 q _ this
    have hfp : PatG n 12 ⟨P.1.lens, t, P.1.arcs⟩ := full_g hp rfl rfl t1 hrowF
    have hft : TrkP n ⟨P.1.lens, t, P.1.arcs⟩ := full_trk hfp (by omega) (by omega) fun a ha har => by
      have hag := hp.arc a ha
      obtain ⟨q, hq⟩ := Int.eq_ofNat_of_zero_le hag.to.1
      rw [hq]
      exact (hrowF q (by have := hag.to.2; omega)).rcv a ha hq har
    refine (trackable_g hfp (by omega) (by omega)).bind fun b hb => ?_
    rw [hb.2 hft, useless_g hfp (by omega) (by omega), trk_nil hfp (by omega) (by omega) hft]
    simp only [Bool.not_true, orM_false, Option.bind_some]
    rw [if_neg (by simp)]
    refine (trackable_g hp (by omega) (by omega)).bind fun b2 hb2 => ?_
    refine Ok.ite (fun _ => Ok.ret rfl) (fun hc => ?_)
    have htr : TrkP n P.1 := hb2.1 (by simpa using hc)
    rw [useless_g hp (by omega) (by omega), trk_nil hp (by omega) (by omega) htr, Option.bind_some, if_neg (by simp)]
    have hdep : ∀ (i j : Nat) (hi : i < L.1.length) (hj : j < L.1.length), depend_Depends 10000000 P.1 L.1[i] L.1[j] = some (decide ((L.1[j]).index < (dv P.1 L.1[i] (L.1[j]).proc : Int))) := fun i j hi hj => Depends_g hp (by omega) (by omega) (hL.vn _ (List.getElem_mem _)) (hL.vn _ (List.getElem_mem _))
    refine Ok.bind (Q := fun t => match t with | .inl _ => ∀ (i j : Nat) (hi : i < L.1.length) (hj : j < L.1.length), i ≠ j → ¬ (L.1[j]).index < (dv P.1 L.1[i] (L.1[j]).proc : Int) | .inr b => b = true) (Ok.for_ L.1.length (fun k s => s = (k : Int) ∧ ∀ (i j : Nat) (hi : i < L.1.length) (hj : j < L.1.length), i < k → i ≠ j → ¬ (L.1[j]).index < (dv P.1 L.1[i] (L.1[j]).proc : Int)) ⟨rfl, fun i j _ _ h5 => by omega⟩ (by omega) ?_) ?_
    · rintro k s hk ⟨rfl, h3⟩
      unfold law21_ZigzagTracks_B1
      refine Ok.iteP (fun hkl => ?_) (fun hkl => Ok.ret fun i j hi hj => h3 i j hi hj (by omega))
      have hkl' : k < L.1.length := by omega
      refine Ok.bind (Q := fun t => match t with | .inl _ => ∀ (j : Nat) (hj : j < L.1.length), k ≠ j → ¬ (L.1[j]).index < (dv P.1 L.1[k] (L.1[j]).proc : Int) | .inr b => b = true) (Ok.for_ L.1.length (fun m s => s = (m : Int) ∧ ∀ (j : Nat) (hj : j < L.1.length), j < m → k ≠ j → ¬ (L.1[j]).index < (dv P.1 L.1[k] (L.1[j]).proc : Int)) ⟨rfl, fun j _ h5 => by omega⟩ (by omega) ?_) ?_
      · rintro m s hm ⟨rfl, h4⟩
        unfold law21_ZigzagTracks_B2
        refine Ok.iteP (fun hml => ?_) (fun hml => Ok.ret fun j hj => h4 j hj (by omega))
        have hml' : m < L.1.length := by omega
        simp only [show (⟨P.1.lens, P.1.ckpts, P.1.arcs⟩ : Pat) = P.1 from rfl]
        rw [ati_get hkl', Option.bind_some, ati_get hml', Option.bind_some, hdep k m hkl' hml', Option.bind_some, andM_some, Option.bind_some]
        refine Ok.ite (fun hc => Ok.ret rfl) (fun hc => Ok.ret ⟨hml', w64_nat (by omega), fun j hj hjm hkj => ?_⟩)
        rcases Nat.lt_succ_iff_lt_or_eq.1 hjm with h5 | rfl
        · exact h4 j hj h5 hkj
        · simp at hc; have := hc (by omega); omega
      · rintro (u | b) ht
        · simp only [Sum.elim_inl, law21_ZigzagTracks_K3]
          refine Ok.ret ⟨hkl', w64_nat (by omega), fun i j hi hj hik hij => ?_⟩
          rcases Nat.lt_succ_iff_lt_or_eq.1 hik with h5 | rfl
          · exact h3 i j hi hj h5 hij
          · exact ht j hj hij
        · exact Ok.ret ht
    · rintro (u | b) ht
      · simp only [Sum.elim_inl, law21_ZigzagTracks_K2, show (⟨P.1.lens, P.1.ckpts, P.1.arcs⟩ : Pat) = P.1 from rfl]
        refine (extension_g hp (by omega) (by omega) hL.vn (by omega)).bind fun x hx => Ok.ret ?_
        rw [hx.ok hp (by omega) hL.vn]
        have hdist : ∀ (i j : Nat) (hi : i < L.1.length) (hj : j < L.1.length), (L.1[i]).proc = (L.1[j]).proc → i = j := fun i j hi hj e => by
          rcases Nat.lt_trichotomy i j with h5 | h5 | h5
          · have := List.pairwise_iff_getElem.1 hL.asc i j hi hj h5; omega
          · exact h5
          · have := List.pairwise_iff_getElem.1 hL.asc j i hj hi h5; omega
        refine ⟨fun a ha b hb e => ?_, fun a ha b hb hz => ?_⟩
        · obtain ⟨i, hi, rfl⟩ := List.getElem_of_mem ha
          obtain ⟨j, hj, rfl⟩ := List.getElem_of_mem hb
          have := hdist i j hi hj e
          subst this; rfl
        · obtain ⟨i, hi, rfl⟩ := List.getElem_of_mem ha
          obtain ⟨j, hj, rfl⟩ := List.getElem_of_mem hb
          by_cases e : j = i
          · subst e; exact trk_usl hp (by omega) (by omega) htr (hL.vn _ ha) hz
          · exact ht j i hj hi e (htr _ _ (hL.vn _ ha) (hL.vn _ hb) hz)
      · exact Ok.ret ht
end Go.Mine
