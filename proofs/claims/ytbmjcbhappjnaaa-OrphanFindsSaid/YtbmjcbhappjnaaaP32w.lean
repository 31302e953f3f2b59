/- Chapter 32, plain: drawn lineages and their patterns. -/
import Derived.Test.YtbmjcbhappjnaaaP32p
import Derived.Test.YtbmjcbhappjnaaaP18a
set_option linter.unusedSimpArgs false
set_option linter.unusedVariables false
namespace Go.Mine
open Go.RowKit
/-- lineages of a pattern: the receive events are its messages -/
structure LOK (n : Nat) (p : Pat) (l : List (List Evt)) : Prop where
  lin : LinI p.lens l
  len : p.lens.length = n
  r1 : ∀ q j : Nat, q < n → (j : Int) < nI p.lens q → (ev_ l q j).kind = 1 → ∃ a ∈ p.arcs, a.to = (q : Int) ∧ a.rcv = (j : Int) + 1 ∧ (ev_ l q j).frm = a.fr ∧ (ev_ l q j).sent.index = a.ix ∧ Lbl (rw_ l a.fr) (ev_ l q j).sent
  r2 : ∀ a ∈ p.arcs, ∃ j : Nat, a.rcv = (j : Int) + 1 ∧ (ev_ l a.to.toNat j).kind = 1 ∧ (ev_ l a.to.toNat j).frm = a.fr ∧ (ev_ l a.to.toNat j).sent.index = a.ix
theorem LOK.ll {n : Nat} {p : Pat} {l : List (List Evt)} (h : LOK n p l) : l.length = n := by rw [h.lin.len, h.len]
theorem LOK.row {n : Nat} {p : Pat} {l : List (List Evt)} (h : LOK n p l) {q : Nat} (hq : q < n) : (rl l q : Int) = nI p.lens q := h.lin.row q (by rw [h.ll]; exact hq)
theorem consP_iff {n : Nat} {p : Pat} {l : List (List Evt)} {x : List Int} (h : LOK n p l) (ha : ∀ a ∈ p.arcs, ArcG n p.lens a) : ConsP l x ↔ CutG n p.lens x ∧ Cons p.arcs x := by
  have hll := h.ll
  constructor
  · rintro ⟨h1, h2, h3⟩
    refine ⟨⟨by omega, fun q hq => ?_⟩, fun a hm => orph_not.2 fun ⟨o1, o2, o3⟩ => ?_⟩
    · have := h2 q (by omega); unfold Rng at this; rw [h.row hq] at this; exact this
    · obtain ⟨j, j1, j2, j3, j4⟩ := h.r2 a hm
      have ht := (ha a hm).to
      have e : ((a.to.toNat : Nat) : Int) = a.to := by omega
      have := h3 a.to.toNat (by omega) j (by rw [e]; omega) j2
      rw [j3, j4] at this
      omega
  · rintro ⟨h1, h2⟩
    refine ⟨by rw [h1.len, hll], fun j hj => ?_, fun q hq j hj hk => ?_⟩
    · unfold Rng; rw [h.row (by omega)]; exact h1.rng j (by omega)
    · have hr := h1.rng q (by omega)
      obtain ⟨a, hm, a1, a2, a3, a4, a5⟩ := h.r1 q j (by omega) (by omega) hk
      have g := ha a hm
      have ho := orph_not.1 (h2 a hm)
      have gf := g.fr
      rw [a3]
      refine ⟨gf.1, by rw [hll]; exact gf.2, by rw [← a1]; exact g.ne, a5, ?_⟩
      rw [a4]
      rw [a1, a2] at ho
      omega
theorem ev_getL {l : List (List Evt)} {q j : Nat} (h : j < rl l q) : (l[q]?.getD [])[j]? = some (ev_ l q j) := by
  unfold ev_ rl at *; simp [h]
theorem mem_arcR {l : List (List Evt)} {q k : Nat} {a : Arc} (hk : k ≤ rl l q) : a ∈ arcR q (l[q]?.getD []) k ↔ ∃ j : Nat, j < k ∧ (ev_ l q j).kind = 1 ∧ a = ⟨(ev_ l q j).frm, (ev_ l q j).sent.index, (q : Int), ((j + 1 : Nat) : Int)⟩ := by
  induction k with
  | zero => simp [arcR]
  | succ k ih =>
    rw [arcR_succ (ev_getL (by omega))]
    constructor
    · intro hm
      split at hm
      · rename_i hkd
        rcases List.mem_append.1 hm with h1 | h1
        · obtain ⟨j, j1, j2⟩ := (ih (by omega)).1 h1; exact ⟨j, by omega, j2⟩
        · exact ⟨k, by omega, hkd, by simpa using h1⟩
      · obtain ⟨j, j1, j2⟩ := (ih (by omega)).1 hm; exact ⟨j, by omega, j2⟩
    · rintro ⟨j, j1, j2, j3⟩
      rcases Nat.lt_succ_iff_lt_or_eq.1 j1 with h1 | h1
      · have := (ih (by omega)).2 ⟨j, h1, j2, j3⟩
        split
        · exact List.mem_append.2 (.inl this)
        · exact this
      · subst h1; rw [if_pos j2]; exact List.mem_append.2 (.inr (by simp [j3]))
theorem mem_arcL {l : List (List Evt)} {m : Nat} {a : Arc} : a ∈ arcL l m ↔ ∃ q j : Nat, q < m ∧ j < rl l q ∧ (ev_ l q j).kind = 1 ∧ a = ⟨(ev_ l q j).frm, (ev_ l q j).sent.index, (q : Int), ((j + 1 : Nat) : Int)⟩ := by
  induction m with
  | zero => simp [arcL]
  | succ m ih =>
    simp only [arcL, List.mem_append, ih, mem_arcR (Nat.le_refl _)]
    constructor
    · rintro (⟨q, j, h1, h2⟩ | ⟨j, h1, h2⟩)
      · exact ⟨q, j, by omega, h2⟩
      · exact ⟨m, j, by omega, h1, h2⟩
    · rintro ⟨q, j, h1, h2, h3⟩
      rcases Nat.lt_succ_iff_lt_or_eq.1 h1 with h4 | h4
      · exact .inl ⟨q, j, h4, h2, h3⟩
      · subst h4; exact .inr ⟨j, h2, h3⟩
theorem arcR_uniq {l : List (List Evt)} {q k : Nat} (hk : k ≤ rl l q) : (arcR q (l[q]?.getD []) k).Pairwise fun a b => a.rcv ≠ 0 → ¬ (a.to = b.to ∧ a.rcv = b.rcv) := by
  induction k with
  | zero => simp [arcR]
  | succ k ih =>
    rw [arcR_succ (ev_getL (by omega))]
    split
    · rw [List.pairwise_append]
      refine ⟨ih (by omega), List.pairwise_singleton _ _, fun a ha b hb _ he => ?_⟩
      obtain ⟨j, j1, _, rfl⟩ := (mem_arcR (by omega)).1 ha
      simp at hb; subst hb; simp at he; omega
    · exact ih (by omega)
theorem arcL_uniq {l : List (List Evt)} : ∀ m, (arcL l m).Pairwise fun a b => a.rcv ≠ 0 → ¬ (a.to = b.to ∧ a.rcv = b.rcv)
  | 0 => by simp [arcL]
  | m + 1 => by
    simp only [arcL]
    rw [List.pairwise_append]
    refine ⟨arcL_uniq m, arcR_uniq (Nat.le_refl _), fun a ha b hb _ he => ?_⟩
    obtain ⟨q, j, q1, _, _, rfl⟩ := mem_arcL.1 ha
    obtain ⟨j', _, _, rfl⟩ := (mem_arcR (Nat.le_refl _)).1 hb
    simp at he; omega
theorem arcL_len {l : List (List Evt)} {B : Nat} (h : ∀ j, rl l j ≤ B) : ∀ q, (arcL l q).length ≤ q * B
  | 0 => by simp [arcL]
  | q + 1 => by
    have := arcL_len h q
    have h2 := @arcR_le q (l[q]?.getD []) (rl l q)
    have h3 := h q
    simp only [arcL, List.length_append, Nat.add_mul]; omega
theorem LOK.full {n : Nat} {p : Pat} {l : List (List Evt)} (h : LOK n p l) : fullC l = p.lens := by
  refine list_ext_nI (by rw [fullC_length, h.lin.len]) fun q hq => ?_
  rw [fullC_length, h.ll] at hq
  rw [nI_full]; exact h.row hq
theorem LOK.arcs {n : Nat} {p : Pat} {l : List (List Evt)} (h : LOK n p l) (ha : ∀ a ∈ p.arcs, ArcG n p.lens a) {a : Arc} : a ∈ arcL l n ↔ a ∈ p.arcs := by
  rw [mem_arcL]
  constructor
  · rintro ⟨q, j, h1, h2, h3, rfl⟩
    obtain ⟨a, hm, a1, a2, a3, a4, _⟩ := h.r1 q j h1 (by have := h.row h1; omega) h3
    rw [a3, a4, ← a1, show ((j + 1 : Nat) : Int) = a.rcv by omega]; exact hm
  · intro hm
    obtain ⟨j, j1, j2, j3, j4⟩ := h.r2 a hm
    have ht := (ha a hm).to; have hr := (ha a hm).rcv
    have e : ((a.to.toNat : Nat) : Int) = a.to := by omega
    refine ⟨a.to.toNat, j, by omega, ?_, j2, ?_⟩
    · have := h.row (q := a.to.toNat) (by omega); rw [e] at this; omega
    · rw [j3, j4, e, show ((j + 1 : Nat) : Int) = a.rcv by omega]
theorem LOK.pat {n B : Nat} {p : Pat} {l : List (List Evt)} (h : LOK n p l) (hp : PatG n B p) (hn : n ≤ 4) : PatG n B ⟨fullC l, p.ckpts, arcL l n⟩ := by
  rw [h.full]
  obtain ⟨ρ, hr⟩ := hp.rank
  refine ⟨hp.len, hp.ck, hp.rng, hp.row, hp.wid, fun a ha => hp.arc a ((h.arcs hp.arc).1 ha), ?_, arcL_uniq n, ρ, hr.top, hr.up, fun a ha => hr.arc a ((h.arcs hp.arc).1 ha)⟩
  have := arcL_len (l := l) (B := B) (fun j => ?_) n
  · have : n * B ≤ 4 * B := Nat.mul_le_mul_right _ hn
    simp only; omega
  · rcases Nat.lt_or_ge j n with hj | hj
    · have := h.row hj; have := hp.nI_rng j; omega
    · unfold rl; rw [List.getElem?_eq_none (by rw [h.ll]; exact hj)]; simp
theorem LOK.cons {n : Nat} {p : Pat} {l : List (List Evt)} (h : LOK n p l) (ha : ∀ a ∈ p.arcs, ArcG n p.lens a) {x : List Int} : Cons (arcL l n) x ↔ Cons p.arcs x := by
  unfold Cons
  constructor
  · exact fun hc a hm => hc a ((h.arcs ha).2 hm)
  · exact fun hc a hm => hc a ((h.arcs ha).1 hm)
def NoR (l : List (List Evt)) : Prop := ∀ r ∈ l, ∀ e ∈ r, e.kind ≠ 1
theorem NoR.nil {n : Nat} : NoR (List.replicate n []) := fun r hr e he => by rw [List.eq_of_mem_replicate hr] at he; simp at he
theorem NoR.set {l : List (List Evt)} {k : Nat} {r : List Evt} (h : NoR l) (hr : ∀ e ∈ r, e.kind ≠ 1) : NoR (l.set k r) := fun r' h' => by
  rcases mem_set h' with h1 | rfl
  · exact h r' h1
  · exact hr
theorem NoR.row {l : List (List Evt)} {k : Nat} {r : List Evt} (h : NoR l) (hr : l[k]? = some r) : ∀ e ∈ r, e.kind ≠ 1 := h r (List.mem_of_getElem? hr)
theorem NoR.snoc {r : List Evt} {e : Evt} (h : ∀ e ∈ r, e.kind ≠ 1) (he : e.kind ≠ 1) : ∀ x ∈ r ++ [e], x.kind ≠ 1 := fun x hx => by
  rcases List.mem_append.1 hx with h1 | h1
  · exact h x h1
  · simp at h1; rw [h1]; exact he
theorem NoR.rset {r : List Evt} {k : Nat} {e : Evt} (h : ∀ e ∈ r, e.kind ≠ 1) (he : e.kind ≠ 1) : ∀ x ∈ r.set k e, x.kind ≠ 1 := fun x hx => by
  rcases mem_set hx with h1 | h1
  · exact h x h1
  · rw [h1]; exact he
theorem lin_build2 {fuel : Nat} {c : List Int} {i : Int} {p : Pat} {B : Int} (hc : COk c i) (hn : p.lens.length ≤ 100) (hr : ∀ x ∈ p.lens, 0 ≤ x ∧ x ≤ B) (hB0 : 0 ≤ B) (hB : B ≤ 1000) (hf : 1000000 < fuel) :
    Ok (iter (fun s => make_Codes_Lineages_B4 fuel p c s.1 s.2.1 s.2.2) fuel (i, List.replicate p.lens.length [], 0)) fun t => COk c t.1 ∧ LinI p.lens t.2 ∧ NoR t.2 := by
  refine Ok.for_ p.lens.length (fun k s => COk c s.1 ∧ s.2.2 = (k : Int) ∧ s.2.1.length = p.lens.length ∧ NoR s.2.1 ∧ ∀ j : Nat, j < p.lens.length → (rl s.2.1 j : Int) = if j < k then nI p.lens j else 0) ⟨hc, rfl, by simp, NoR.nil, fun j hj => by simp [rl, hj]⟩ (by omega) ?_
  rintro k ⟨i1, l, q⟩ hk ⟨h1, h2, h3, hN, h4⟩
  simp only at h1 h2 h3 hN h4
  subst h2
  simp only [make_Codes_Lineages_B4]
  refine Ok.iteP (fun hlt => ?_) fun hlt => Ok.ret ⟨h1, ⟨by simpa using h3, fun j hj => by simp only at hj ⊢; rw [h4 j (by omega), if_pos (by omega)]⟩, hN⟩
  have hkn : k < p.lens.length := by omega
  refine Ok.bind (Ok.for_ (nI p.lens k).toNat (fun m s => COk c s.1 ∧ s.2.2 = (m : Int) + 1 ∧ s.2.1.length = p.lens.length ∧ NoR s.2.1 ∧ ∀ j : Nat, j < p.lens.length → (rl s.2.1 j : Int) = if j < k then nI p.lens j else if j = k then (m : Int) else 0) (Q := fun t => COk c t.1 ∧ t.2.length = p.lens.length ∧ NoR t.2 ∧ ∀ j : Nat, j < p.lens.length → (rl t.2 j : Int) = if j < k then nI p.lens j else if j = k then nI p.lens j else 0) ⟨h1, rfl, h3, hN, fun j hj => by simp only; rw [h4 j hj]; split <;> simp⟩ (by have := nI_nonneg (i := (k : Int)) hr hB0; omega) ?_) fun t ⟨t1, t2, tN, t3⟩ => ?_
  · rintro m ⟨i2, l2, z⟩ hm ⟨g1, g2, g3, gN, g4⟩
    simp only at g1 g2 g3 gN g4
    subst g2
    simp only [make_Codes_Lineages_B5]
    have hb := nI_nonneg (i := (k : Int)) hr hB0
    refine (Ok.at (by omega) (by omega)).bind fun x hx => ?_
    have hxe : nI p.lens k = x := nI_some hx
    refine Ok.iteP (fun hlt2 => ?_) fun hlt2 => Ok.ret ⟨g1, g3, gN, fun j hj => ?_⟩
    · refine (Ok.at (by omega) (by omega)).bind fun r hr2 => (next_o g1 (by omega)).bind fun y ⟨_, _, hy⟩ => ?_
      have hrl := g4 k hkn
      simp only [Int.toNat_natCast] at hr2
      rw [rl_some hr2, if_neg (by omega), if_pos rfl] at hrl
      refine (Ok.snoc (by omega)).bind fun r2 e2 => (Ok.set (by omega) (by omega)).bind fun l3 e3 => (Ok.at (by omega) (by rw [e3]; simp; omega)).bind fun _ _ => Ok.ret ⟨by omega, hy, ?_, by simp only; rw [e3]; simp [g3], by simp only; rw [e3, e2]; exact gN.set (NoR.snoc (gN.row hr2) (by simp)), fun j hj => ?_⟩
      · simp only; rw [w64_id (by omega) (by omega)]; omega
      · simp only; rw [e3, Int.toNat_natCast, rl_set (by omega)]
        by_cases e : j = k
        · subst e; rw [if_pos rfl, if_neg (by omega), if_pos rfl, e2]; simp; omega
        · rw [if_neg e, g4 j hj, if_neg e, if_neg e]
    · simp only; rw [g4 j hj]
      by_cases e : j = k
      · subst e; rw [if_neg (by omega), if_pos rfl, if_neg (by omega), if_pos rfl]; omega
      · rw [if_neg e, if_neg e]
  · simp only [make_Codes_Lineages_K6]
    refine Ok.ret ⟨hkn, t1, w64_nat (by omega), t2, tN, fun j hj => ?_⟩
    simp only; rw [t3 j hj]
    by_cases e : j < k
    · rw [if_pos e, if_pos (by omega)]
    · by_cases e2 : j = k
      · rw [if_neg e, if_pos e2, if_pos (by omega)]
      · rw [if_neg e, if_neg e2, if_neg (by omega)]
theorem lin_rise2 {fuel : Nat} {c rise : List Int} {i : Int} {p : Pat} {B : Int} {l0 : List (List Evt)} (hc : COk c i) (hl : LinI p.lens l0) (hN0 : NoR l0) (hs : rise.length = p.lens.length) (hp : ∀ x ∈ rise, 0 < x) (hn : p.lens.length ≤ 100) (hr : ∀ x ∈ p.lens, 0 ≤ x ∧ x ≤ B) (hB0 : 0 ≤ B) (hB : B ≤ 1000) (hf : 1000000 < fuel) :
    Ok (iter (fun s => make_Codes_Lineages_B2 fuel p rise c s.1 s.2.1 s.2.2) fuel (i, l0, 0)) fun t => COk c t.1 ∧ LinI p.lens t.2 ∧ NoR t.2 := by
  refine Ok.for_ p.lens.length (fun k s => COk c s.1 ∧ s.2.2 = (k : Int) ∧ LinI p.lens s.2.1 ∧ NoR s.2.1) ⟨hc, rfl, hl, hN0⟩ (by omega) ?_
  rintro k ⟨i1, l, q⟩ hk ⟨h1, h2, h3, hN⟩
  simp only at h1 h2 h3 hN
  subst h2
  simp only [make_Codes_Lineages_B2]
  refine Ok.iteP (fun hlt => ?_) fun hlt => Ok.ret ⟨h1, h3, hN⟩
  have hkn : k < p.lens.length := by omega
  have hb := nI_nonneg (i := (k : Int)) hr hB0
  refine Ok.bind (Ok.for_ (nI p.lens k).toNat (fun m s => COk c s.1 ∧ LinI p.lens s.2.1 ∧ NoR s.2.1 ∧ (0 : Int) ≤ s.2.2.1 ∧ s.2.2.1 ≤ (m : Int) ∧ s.2.2.2 = (m : Int) + 1) (Q := fun t => COk c t.1 ∧ LinI p.lens t.2 ∧ NoR t.2) ⟨h1, h3, hN, by simp, by simp, rfl⟩ (by omega) ?_) fun t ⟨t1, t2⟩ => Ok.ret ⟨hkn, t1, w64_nat (by omega), t2⟩
  rintro m ⟨i2, l2, up, z⟩ hm ⟨g1, g2, gN, g3, g4, g5⟩
  simp only at g1 g2 gN g3 g4 g5
  subst g5
  simp only [make_Codes_Lineages_B3]
  refine (Ok.at (by omega) (by omega)).bind fun x hx => ?_
  have hxe : nI p.lens k = x := nI_some hx
  refine Ok.iteP (fun hlt2 => ?_) fun hlt2 => Ok.ret ⟨g1, g2, gN⟩
  refine (Ok.at (by omega) (by omega)).bind fun y hy => (next_o g1 (hp y (List.mem_of_getElem? hy))).bind fun z ⟨_, _, hz⟩ => ?_
  have key : ∀ u : Int, 0 ≤ u → u ≤ m + 1 → Ok (make_Codes_Lineages_J3 fuel l2 (k : Int) ((m : Int) + 1) z.2 u) fun o => Sum.elim (fun s' : Int × List (List Evt) × Int × Int => m < (nI p.lens k).toNat ∧ COk c s'.1 ∧ LinI p.lens s'.2.1 ∧ NoR s'.2.1 ∧ 0 ≤ s'.2.2.1 ∧ s'.2.2.1 ≤ ((m + 1 : Nat) : Int) ∧ s'.2.2.2 = ((m + 1 : Nat) : Int) + 1) (fun t : Int × List (List Evt) => COk c t.1 ∧ LinI p.lens t.2 ∧ NoR t.2) o := fun u u0 u1 => by
    simp only [make_Codes_Lineages_J3]
    have hll := g2.len
    have hrow := g2.row k (by omega)
    rw [w64_id (i := (m : Int) + 1 - 1) (by omega) (by omega)]
    refine (Ok.at (by omega) (by omega)).bind fun r hr2 => ?_
    simp only [Int.toNat_natCast] at hr2
    rw [rl_some hr2] at hrow
    refine (Ok.at (by omega) (by omega)).bind fun e he => (Ok.set (by omega) (by omega)).bind fun r2 e2 => (Ok.set (by omega) (by omega)).bind fun l3 e3 => Ok.ret ⟨by omega, hz, ?_, by simp only; rw [e3, e2]; exact gN.set (NoR.rset (gN.row hr2) (gN.row hr2 e (List.mem_of_getElem? he))), u0, by simp only; omega, by simp only; rw [w64_id (by omega) (by omega)]; omega⟩
    simp only; rw [e3, Int.toNat_natCast]
    exact g2.set (by omega) (by rw [e2, rl_some hr2]; simp)
  exact Ok.iteE (fun _ => key _ (by rw [w64_id (by omega) (by omega)]; omega) (by rw [w64_id (by omega) (by omega)]; omega)) fun _ => key _ g3 (by omega)
end Go.Mine
