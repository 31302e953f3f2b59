/- Plain: the reference's check of a pattern. -/
import Derived.Test.YtbmjcbhappjnaaaA16c
import Derived.Test.YtbmjcbhappjnaaaP16r
import Derived.Test.YtbmjcbhappjnaaaPsmN
set_option linter.unusedSimpArgs false
set_option linter.unusedVariables false
namespace Go.Mine
open Go.RowKit
theorem ckpts16_g {r : List Int} {x : Int} (h : CkG r x) (hl : r.length ≤ 1000) : ref16_ckpts 10000000 r x = some true := by
  have hp := h.pos
  unfold ref16_ckpts
  rw [show ((r.length : Int) == 0) = false by simp; intro e; simp [e] at hp, orM_false, show ati r 0 = some 0 by rw [show (0 : Int) = ((0 : Nat) : Int) from rfl, ati_cast]; exact h.zero]
  simp only [Option.bind_some, bne_self_eq_false, Bool.false_eq_true, if_false]
  refine Ok.eq (Ok.bind (Q := fun t => t = .inl ()) (Ok.for_ (r.length - 1) (fun k s => s = ((k + 1 : Nat) : Int)) rfl (by omega) ?_) fun t ht => by subst ht; exact Ok.ret rfl)
  rintro k s hk rfl
  unfold ref16_ckpts_B1
  refine Ok.iteP (fun hlt => ?_) fun hlt => Ok.ret rfl
  have hk1 : k + 1 < r.length := by omega
  rw [ati_cast, w64_id (by omega) (by omega), show ((k + 1 : Nat) : Int) - 1 = (k : Int) by omega, ati_cast, List.getElem?_eq_getElem hk1, List.getElem?_eq_getElem (show k < r.length by omega)]
  have h1 := List.pairwise_iff_getElem.1 h.asc k (k + 1) (by omega) hk1 (by omega)
  have h2 := h.le _ (List.getElem_mem hk1)
  simp only [Option.bind_some]
  rw [show decide (r[k + 1] ≤ r[k]) = false by simp; omega, orM_false, show decide (x < r[k + 1]) = false by simp; omega]
  simp only [Option.bind_some, Bool.false_eq_true, if_false]
  exact Ok.ret ⟨by omega, w64_nat (by omega)⟩
theorem arc16_g {n B : Nat} {p : Pat} (h : PatG n B p) (hB : B ≤ 64) {i : Nat} (hi : i < p.arcs.length) : ref16_arc 10000000 p i = some 0 := by
  have hl := h.len; have hal := h.al
  obtain ⟨a, ha⟩ : ∃ a, p.arcs[i]? = some a := ⟨_, List.getElem?_eq_getElem hi⟩
  obtain ⟨fr, to, ne, ix, rcv⟩ := h.arc a (List.mem_of_getElem? ha)
  unfold ref16_arc
  rw [ati_cast, ha, Option.bind_some, show (⟨p.lens, p.ckpts, p.arcs⟩ : Pat) = p from rfl, proc_g, Option.bind_some, proc_g]
  rw [show (decide (0 ≤ a.fr) && decide (a.fr < (p.lens.length : Int))) = true by simp; omega, show (decide (0 ≤ a.to) && decide (a.to < (p.lens.length : Int))) = true by simp; omega]
  simp only [Bool.not_true, orM_false, Option.bind_some]
  rw [show (a.fr == a.to) = false by simpa using ne, orM_false, Option.bind_some, show decide (a.ix < 0) = false by simp; omega, orM_false, ati_nI (by omega) (by omega)]
  simp only [Option.bind_some]
  rw [show decide (nI p.lens a.fr < a.ix) = false by simp; omega, orM_false, Option.bind_some, show decide (a.rcv < 0) = false by simp; omega, orM_false, ati_nI (by omega) (by omega)]
  simp only [Option.bind_some]
  rw [show decide (nI p.lens a.to < a.rcv) = false by simp; omega]
  simp only [Bool.false_eq_true, if_false]
  refine Ok.eq (Ok.bind (Q := fun t => t = .inl ()) (Ok.for_ i (fun k s => s = (k : Int)) rfl (by omega) ?_) fun t ht => by subst ht; exact Ok.ret rfl)
  rintro k s hk rfl
  unfold ref16_arc_B1
  refine Ok.iteP (fun hlt => ?_) fun hlt => Ok.ret rfl
  have hki : k < i := by omega
  rw [ati_cast, List.getElem?_eq_getElem (show k < p.arcs.length by omega)]
  simp only [Option.bind_some, andM_some]
  refine Ok.ite (fun hb => ?_) fun hb => Ok.ret ⟨hki, w64_nat (by omega)⟩
  exfalso
  have hu := List.pairwise_iff_getElem.1 h.uniq k i (by omega) hi hki
  rw [(List.getElem?_eq_some_iff.1 ha).2] at hu
  simp at hb
  exact hu (by omega) ⟨hb.1.2, hb.2⟩
theorem can_step {n : Nat} {p : Pat} {c : List Int} (hc : CntV n p c) {q : Nat} (hq : q < n) (hcan : CanP p c q) : CntV n p (c.set q (nI c q + 1)) ∧ smN (c.set q (nI c q + 1)) = smN c + 1 := by
  have hcl := hc.1; have hcq := hc.2 q hq; have hlt := hcan.1
  have hset : ∀ j : Nat, nI (c.set q (nI c q + 1)) j = if (j : Int) = q then nI c q + 1 else nI c j := fun j => by
    have := nI_set (xs := c) (i := (q : Int)) (j := (j : Int)) (x := nI c q + 1) (by omega) (by omega) (by omega)
    rw [Int.toNat_natCast] at this; exact this
  refine ⟨⟨by simp [hcl], fun j hj => ?_⟩, ?_⟩
  · rw [hset j]
    split
    · rename_i e; have : j = q := by omega
      subst this; omega
    · exact hc.2 j hj
  · have hg : c[q]? = some (nI c q) := by simp [nI, (show q < c.length by omega)]
    have := smN_set (x := c) (i := q) (v := nI c q) (w := nI c q + 1) hg
    omega
theorem possible_g {n B : Nat} {p : Pat} (h : PatG n B p) (hn : n ≤ 5) (hB : B ≤ 64) : ref16_possible 10000000 p = some true := by
  have hl := h.len
  unfold ref16_possible
  rw [hl, mkL_nat (by omega), Option.bind_some]
  have hz : ∀ q : Nat, q < n → nI (List.replicate n (0 : Int)) q = 0 := fun q hq => by simp [nI, hq]
  have hsl : smN p.lens ≤ 320 := by
    have := smN_le (B := 64) (x := p.lens) fun v hv => by have := (h.rng v hv).2; omega
    rw [hl] at this; omega
  have hle : ∀ {c : List Int}, CntV n p c → smN c ≤ smN p.lens := fun {c} hc => smN_mono (by rw [hc.1, hl]) fun j hj => (hc.2 j (by rw [hc.1] at hj; exact hj)).2
  refine Ok.eq (Ok.bind (Q := fun c => CntV n p c ∧ ∀ q : Nat, q < n → ¬ CanP p c q) (Ok.run (fun m s => CntV n p s.1 ∧ (s.2 = false → ∀ q : Nat, q < n → ¬ CanP p s.1 q) ∧ m = 2 * (smN p.lens - smN s.1) + (if s.2 = true then 1 else 0)) (m := 2 * (smN p.lens - smN (List.replicate n (0 : Int))) + 1) ⟨⟨by simp, fun q hq => ?_⟩, (fun e => by cases e), rfl⟩ (by omega) ?_) ?_)
  · rw [hz q hq]; exact ⟨Int.le_refl _, (h.nI_rng q).1⟩
  · rintro m ⟨c, mv⟩ ⟨hc, hno, hm⟩
    simp only at hc hno hm
    simp only [ref16_possible_B2]
    refine Ok.ite (fun hmv => ?_) fun hmv => Ok.ret ⟨hc, hno hmv⟩
    subst hmv
    refine Ok.bind (Q := fun t => CntV n p t.1 ∧ (t.2 = true → smN c < smN t.1) ∧ (t.2 = false → t.1 = c ∧ ∀ q : Nat, q < n → ¬ CanP p c q)) (Ok.for_ n (fun k s => s.2.2 = (k : Int) ∧ CntV n p s.1 ∧ (s.2.1 = true → smN c < smN s.1) ∧ (s.2.1 = false → s.1 = c ∧ ∀ q : Nat, q < k → ¬ CanP p c q)) ⟨rfl, hc, (fun e => by cases e), fun _ => ⟨rfl, fun q hq => by omega⟩⟩ (by omega) ?_) ?_
    · rintro k ⟨c1, mv1, i⟩ hk ⟨hi, hc1, h1, h2⟩
      simp only at hi hc1 h1 h2
      subst hi
      simp only [ref16_possible_B3]
      have hcl := hc1.1
      refine Ok.iteP (fun hlt => ?_) fun hlt => Ok.ret ⟨hc1, h1, fun e => ⟨(h2 e).1, fun q hq => (h2 e).2 q (by omega)⟩⟩
      have hkn : k < n := by omega
      refine Ok.bind (Q := fun t => CntV n p t.1 ∧ (t.2 = true → smN c < smN t.1) ∧ (t.2 = false → t.1 = c ∧ mv1 = false ∧ ¬ CanP p c k)) (Ok.run (fun m s => CntV n p s.1 ∧ (mv1 = true → smN c1 ≤ smN s.1) ∧ (s.2 = true → smN c < smN s.1) ∧ (s.2 = false → s.1 = c1 ∧ mv1 = false) ∧ smN c ≤ smN s.1 ∧ m = smN p.lens - smN s.1) (m := smN p.lens - smN c1) ⟨hc1, fun _ => Nat.le_refl _, h1, fun e => ⟨rfl, e⟩, ?_, rfl⟩ (by omega) ?_) ?_
      · cases e : mv1 with
        | true => have := h1 e; simp only; omega
        | false => rw [(h2 e).1]; exact Nat.le_refl _
      · rintro m2 ⟨c2, mv2⟩ ⟨hc2, g1, g2, g3, g4, hm2⟩
        simp only at hc2 g1 g2 g3 g4 hm2
        simp only [ref16_possible_B4, show (⟨p.lens, p.ckpts, p.arcs⟩ : Pat) = p from rfl]
        have hc2l := hc2.1
        refine (can_g h hB hc2 hkn).bind fun b hb => Ok.ite (fun hb1 => ?_) fun hb1 => Ok.ret ⟨hc2, g2, fun e => ?_⟩
        · have hcan := hb.1 hb1
          obtain ⟨s1, s2⟩ := can_step hc2 hkn hcan
          have hq2 := hc2.2 k hkn; have hrg := h.nI_rng k
          rw [ati_nI (by omega) (by omega), Option.bind_some, Option.bind_some, w64_id (by omega) (by omega), seti_get (by omega), Option.bind_some]
          have := hle s1
          exact Ok.ret ⟨smN p.lens - smN (c2.set k (nI c2 k + 1)), by omega, s1, fun e => by have := g1 e; simp only; omega, fun _ => by simp only; omega, (fun e => by cases e), by simp only; omega, rfl⟩
        · obtain ⟨e1, e2⟩ := g3 e
          have e3 := (h2 e2).1
          refine ⟨e1.trans e3, e2, fun hcan => ?_⟩
          rw [← e3, ← e1] at hcan
          rw [hb.2 hcan] at hb1; cases hb1
      · rintro ⟨c2, mv2⟩ ⟨g1, g2, g3⟩
        simp only at g1 g2 g3
        refine Ok.ret ⟨hkn, w64_nat (by omega), g1, g2, fun e => ?_⟩
        obtain ⟨e1, e2, e3⟩ := g3 e
        refine ⟨e1, fun q hq => ?_⟩
        rcases Nat.lt_succ_iff_lt_or_eq.1 hq with h5 | rfl
        · exact (h2 e2).2 q h5
        · exact e3
    · rintro ⟨c1, mv1⟩ ⟨hc1, h1, h2⟩
      simp only at hc1 h1 h2
      refine Ok.ret ⟨2 * (smN p.lens - smN c1) + (if mv1 = true then 1 else 0), ?_, hc1, fun e => ?_, rfl⟩
      · have := hle hc1; have := hle hc
        rw [if_pos rfl] at hm
        cases e : mv1 with
        | true => have := h1 e; simp; omega
        | false => rw [(h2 e).1]; simp; omega
      · simp only at e ⊢
        rw [(h2 e).1]; exact (h2 e).2
  · rintro c ⟨hc, hno⟩
    have hcl := hc.1
    have hfull := can_none h hc hno
    simp only [ref16_possible_K1]
    refine Ok.bind (Q := fun t => t = .inl ()) (Ok.for_ n (fun k s => s = (k : Int)) rfl (by omega) ?_) fun t ht => by subst ht; exact Ok.ret rfl
    rintro k s hk rfl
    simp only [ref16_possible_B1]
    refine Ok.iteP (fun hlt => ?_) fun hlt => Ok.ret rfl
    have hkn : k < n := by omega
    rw [ati_nI (by omega) (by omega), Option.bind_some, ati_nI (by omega) (by omega), Option.bind_some, hfull k hkn]
    refine Ok.iteP (fun hx => by omega) fun hx => Ok.ret ⟨hkn, w64_nat (by omega)⟩
theorem check16_g {n B : Nat} {p : Pat} (h : PatG n B p) (hn : n ≤ 5) (hB : B ≤ 64) : ref16_Check 10000000 p = some 0 := by
  have hl := h.len; have hk := h.ck; have hal := h.al
  unfold ref16_Check
  rw [orM_some, Option.bind_some, if_neg (by simp; omega), if_neg (by simp; omega)]
  refine Ok.eq (Ok.bind (Q := fun t => t = .inl ()) (Ok.for_ n (fun k s => s = (k : Int)) rfl (by omega) ?_) fun t ht => ?_)
  · rintro k s hk2 rfl
    simp only [ref16_Check_B3]
    refine Ok.iteP (fun hlt => ?_) fun hlt => Ok.ret rfl
    have hrg := h.nI_rng k
    rw [ati_nI (by omega) (by omega)]
    simp only [Option.bind_some]
    rw [orM_some, Option.bind_some, if_neg (by simp; omega)]
    exact Ok.ret ⟨by omega, w64_nat (by omega)⟩
  · subst ht
    simp only [Sum.elim_inl, ref16_Check_K1]
    refine Ok.bind (Q := fun t => t = .inl ()) (Ok.for_ n (fun k s => s = (k : Int)) rfl (by omega) ?_) fun t ht => ?_
    · rintro k s hk2 rfl
      simp only [ref16_Check_B2]
      refine Ok.iteP (fun hlt => ?_) fun hlt => Ok.ret rfl
      have hkn : k < n := by omega
      rw [ati_cast, ati_cast, List.getElem?_eq_getElem (show k < p.ckpts.length by omega), List.getElem?_eq_getElem (show k < p.lens.length by omega)]
      simp only [Option.bind_some]
      have hw := h.wid _ (List.getElem_mem (show k < p.ckpts.length by omega))
      rw [ckpts16_g (h.row k _ _ (List.getElem?_eq_getElem (by omega)) (List.getElem?_eq_getElem (by omega))) (by omega), Option.bind_some]
      simp only [Bool.not_true, Bool.false_eq_true, if_false]
      exact Ok.ret ⟨hkn, w64_nat (by omega)⟩
    · subst ht
      simp only [Sum.elim_inl, ref16_Check_K2]
      refine Ok.bind (Q := fun t => t = .inl ()) (Ok.for_ p.arcs.length (fun k s => s = (k : Int)) rfl (by omega) ?_) fun t ht => ?_
      · rintro k s hk2 rfl
        simp only [ref16_Check_B1, show (⟨p.lens, p.ckpts, p.arcs⟩ : Pat) = p from rfl]
        refine Ok.iteP (fun hlt => ?_) fun hlt => Ok.ret rfl
        rw [arc16_g h hB (by omega), Option.bind_some]
        simp only [bne_self_eq_false, Bool.false_eq_true, if_false]
        exact Ok.ret ⟨by omega, w64_nat (by omega)⟩
      · subst ht
        simp only [Sum.elim_inl, ref16_Check_K3, show (⟨p.lens, p.ckpts, p.arcs⟩ : Pat) = p from rfl]
        rw [possible_g h hn hB, Option.bind_some]
        exact Ok.ret rfl
end Go.Mine
