/- The reference's clocks, plain. -/
import Derived.Test.YtlceljfigccllaaA17r
import Derived.Test.YtlceljfigccllaaP21b
set_option linter.unusedSimpArgs false
set_option linter.unusedVariables false
namespace Go.Mine
open Go.RowKit
theorem receivedX_g {n B : Nat} {p : Pat} (h : PatG n B p) (hB : B ≤ 64) {q k : Int} (hk : 0 < k) : Ok (ref16_Received 10000000 p q k) fun r => (r = -1 ∧ ∀ a ∈ p.arcs, ¬ (a.to = q ∧ a.rcv = k)) ∨ ∃ (i : Nat) (a : Arc), r = (i : Int) ∧ p.arcs[i]? = some a ∧ a.to = q ∧ a.rcv = k := by
  have hal := h.al
  unfold ref16_Received
  refine Ok.bind (Q := fun t => match t with | .inl _ => ∀ a ∈ p.arcs, ¬ (a.to = q ∧ a.rcv = k) | .inr r => ∃ (i : Nat) (a : Arc), r = (i : Int) ∧ p.arcs[i]? = some a ∧ a.to = q ∧ a.rcv = k) (Ok.for_ p.arcs.length (fun i s => s = (i : Int) ∧ ∀ a ∈ p.arcs.take i, ¬ (a.to = q ∧ a.rcv = k)) ⟨rfl, by simp⟩ (by omega) ?_) ?_
  · rintro i s hi ⟨rfl, h1⟩
    unfold ref16_Received_B1
    refine Ok.iteP (fun hil => ?_) (fun hil => Ok.ret ?_)
    · have hil' : i < p.arcs.length := by omega
      rw [ati_get hil', Option.bind_some, andM_some, Option.bind_some, Option.bind_some, andM_some, Option.bind_some]
      refine Ok.ite (fun hc => Ok.ret ?_) (fun hc => Ok.ret ⟨hil', w64_nat (by omega), fun a ha => ?_⟩)
      · simp at hc; exact ⟨i, p.arcs[i], rfl, List.getElem?_eq_getElem hil', hc.1.2, hc.2⟩
      · rw [mem_take_succ', List.getElem?_eq_getElem hil', Option.some.injEq] at ha
        rcases ha with h5 | rfl
        · exact h1 a h5
        · rintro ⟨h6, h7⟩; simp [hk, h6, h7] at hc
    · rw [show i = p.arcs.length by omega, List.take_length] at h1
      exact h1
  · rintro (u | r) ht
    · exact Ok.ret (.inl ⟨rfl, ht⟩)
    · exact Ok.ret (.inr ht)
theorem arc_uniq {n B : Nat} {p : Pat} (h : PatG n B p) {a b : Arc} (ha : a ∈ p.arcs) (hb : b ∈ p.arcs) (hr : a.rcv ≠ 0) (h1 : a.to = b.to) (h2 : a.rcv = b.rcv) : a = b := by
  obtain ⟨i, hi, hie⟩ := List.getElem_of_mem ha
  obtain ⟨j, hj, hje⟩ := List.getElem_of_mem hb
  rcases Nat.lt_trichotomy i j with h5 | h5 | h5
  · exfalso
    have := List.pairwise_iff_getElem.1 h.uniq i j hi hj h5
    rw [hie, hje] at this
    exact this hr ⟨h1, h2⟩
  · subst h5; rw [← hie, ← hje]
  · exfalso
    have := List.pairwise_iff_getElem.1 h.uniq j i hj hi h5
    rw [hie, hje] at this
    exact this (by omega) ⟨h1.symm, h2.symm⟩
/-! the order of the events -/
def CntV (n : Nat) (p : Pat) (c : List Int) : Prop := c.length = n ∧ ∀ q : Nat, q < n → 0 ≤ nI c q ∧ nI c q ≤ nI p.lens q
def CanP (p : Pat) (c : List Int) (q : Int) : Prop := nI c q < nI p.lens q ∧ ∀ a ∈ p.arcs, a.to = q → a.rcv = nI c q + 1 → a.ix ≤ nI c a.fr
theorem can_g {n B : Nat} {p : Pat} (h : PatG n B p) (hB : B ≤ 64) {c : List Int} (hc : CntV n p c) {q : Nat} (hq : q < n) : Ok (ref16_Can 10000000 p c q) fun b => b = true ↔ CanP p c q := by
  have hl := h.len; have hcl := hc.1; have hcq := hc.2 q hq; have hrg := h.nI_rng q
  unfold ref16_Can
  rw [ati_nI (by omega) (by omega), Option.bind_some, ati_nI (by omega) (by omega), Option.bind_some]
  refine Ok.iteP (fun hle => Ok.ret ⟨(fun h5 => by cases h5), fun h5 => by have := h5.1; omega⟩) fun hlt => ?_
  rw [show (⟨p.lens, p.ckpts, p.arcs⟩ : Pat) = p from rfl, Option.bind_some, w64_id (i := nI c q + 1) (by omega) (by omega)]
  refine (receivedX_g h hB (by omega)).bind fun r hr => ?_
  rcases hr with ⟨rfl, hno⟩ | ⟨i, a, rfl, ha, hto, hrc⟩
  · rw [show (decide ((-1 : Int) < 0)) = true from rfl, orM_true, Option.bind_some]
    exact Ok.ret ⟨fun _ => ⟨by omega, fun a ha h1 h2 => absurd ⟨h1, h2⟩ (hno a ha)⟩, fun _ => rfl⟩
  · have hag := h.arc a (List.mem_of_getElem? ha)
    rw [show (decide ((i : Int) < 0)) = false by simp, orM_false, ati_cast, ha]
    simp only [Option.bind_some]
    rw [ati_nI hag.fr.1 (by have := hag.fr.2; omega)]
    simp only [Option.bind_some]
    refine Ok.ret ?_
    rw [decide_eq_true_eq]
    constructor
    · intro h5
      refine ⟨by omega, fun b hb h1 h2 => ?_⟩
      have := arc_uniq h hb (List.mem_of_getElem? ha) (by omega) (h1.trans hto.symm) (h2.trans hrc.symm)
      rw [this]; exact h5
    · intro h5; exact h5.2 a (List.mem_of_getElem? ha) hto hrc
/-- where nothing can happen, all has happened -/
theorem can_none {n B : Nat} {p : Pat} (h : PatG n B p) {c : List Int} (hc : CntV n p c) (hno : ∀ q : Nat, q < n → ¬ CanP p c q) : ∀ q : Nat, q < n → nI c q = nI p.lens q := by
  obtain ⟨ρ, hρ⟩ := h.rank
  have key : ∀ (m q : Nat), q < n → nI c q < nI p.lens q → ¬ ρ q (nI c q + 1) ≤ m := by
    intro m
    induction m using Nat.strongRecOn with
    | ind m ih =>
      intro q hq hlt hle
      refine hno q hq ⟨hlt, fun a ha h1 h2 => ?_⟩
      rcases Int.lt_or_le (nI c a.fr) a.ix with h5 | h5
      · exfalso
        have hag := h.arc a ha
        obtain ⟨f, hf⟩ := Int.eq_ofNat_of_zero_le hag.fr.1
        have hfn : f < n := by have := hag.fr.2; omega
        have hix := hag.ix.2
        rw [hf] at h5 hix
        have hcf := hc.2 f hfn; have hcq := hc.2 q hq
        obtain ⟨d, hd⟩ := Int.eq_ofNat_of_zero_le (show 0 ≤ a.ix - (nI c f + 1) by omega)
        have h6 := rho_mono hρ (q := (f : Int)) (k := nI c f + 1) (by omega) (by omega) (by omega) d (by omega)
        rw [show nI c f + 1 + (d : Int) = a.ix by omega] at h6
        have h7 := hρ.arc a ha (by omega) (by omega)
        rw [hf, h1, h2] at h7
        exact ih (ρ f (nI c f + 1)) (by omega) f hfn (by omega) (Nat.le_refl _)
      · exact h5
  intro q hq
  have := hc.2 q hq
  rcases Int.lt_or_le (nI c q) (nI p.lens q) with h5 | h5
  · exact absurd (Nat.le_refl _) (key _ q hq h5)
  · omega
theorem smN_mono : ∀ {x y : List Int}, x.length = y.length → (∀ q : Nat, q < x.length → nI x q ≤ nI y q) → smN x ≤ smN y
  | [], [], _, _ => by simp
  | [], b :: y, h, _ => by simp at h
  | a :: x, [], h, _ => by simp at h
  | a :: x, b :: y, h, hq => by
    have ih := smN_mono (x := x) (y := y) (by simpa using h) fun q hq2 => by
      have := hq (q + 1) (by simp; omega)
      simpa [nI] using this
    have h0 := hq 0 (by simp)
    simp [nI] at h0
    simp only [smN, List.map_cons, List.sum_cons] at ih ⊢
    omega
def cntE (E : List Pt) (q : Int) : Nat := E.countP fun e => decide (e.proc = q)
theorem cntE_snoc {E : List Pt} {e : Pt} {q : Int} : cntE (E ++ [e]) q = cntE E q + if e.proc = q then 1 else 0 := by
  unfold cntE; rw [List.countP_append, List.countP_singleton]; simp
def OrdS (n : Nat) (p : Pat) (E : List Pt) : Prop := ∀ (i : Nat) (e : Pt), E[i]? = some e → 0 ≤ e.proc ∧ e.proc < n ∧ e.index = cntE (E.take i) e.proc + 1 ∧ e.index ≤ nI p.lens e.proc ∧ ∀ a ∈ p.arcs, a.to = e.proc → a.rcv = e.index → a.ix ≤ cntE (E.take i) a.fr
theorem order_g {n B : Nat} {p : Pat} (h : PatG n B p) (hn : n ≤ 5) (hB : B ≤ 64) : Ok (ref17_Order 10000000 p) fun E => OrdS n p E ∧ (∀ q : Nat, q < n → (cntE E q : Int) = nI p.lens q) ∧ E.length ≤ 1000 := by
  have hl := h.len
  unfold ref17_Order
  rw [hl, mkL_nat (by omega), Option.bind_some]
  have hz : ∀ q : Nat, q < n → nI (List.replicate n (0 : Int)) q = 0 := fun q hq => by simp [nI, hq]
  have hsz : smN (List.replicate n (0 : Int)) = 0 := by simp [smN]
  have hsl : smN p.lens ≤ 320 := by
    have := smN_le (B := 64) (x := p.lens) fun v hv => by have := (h.rng v hv).2; omega
    rw [hl] at this; omega
  refine Ok.bind (Q := fun E => OrdS n p E ∧ (∀ q : Nat, q < n → (cntE E q : Int) = nI p.lens q) ∧ E.length ≤ 1000) (Ok.run (fun m s => CntV n p s.2 ∧ (∀ q : Nat, q < n → (cntE s.1 q : Int) = nI s.2 q) ∧ OrdS n p s.1 ∧ s.1.length = smN s.2 ∧ smN s.2 + m = smN p.lens) (m := smN p.lens) ⟨⟨by simp, fun q hq => by simp only; rw [hz q hq]; have := (h.nI_rng q).1; omega⟩, fun q hq => by simp only; rw [hz q hq]; rfl, fun i e he => by simp at he, by simp only; rw [hsz]; rfl, by simp only; rw [hsz]; omega⟩ (by omega) ?_) fun t ht => Ok.ret ht
  rintro m ⟨E, c⟩ ⟨hc, hce, hE, hEl, hm⟩
  simp only at hc hce hE hEl hm
  have hcl := hc.1
  simp only [ref17_Order_B1]
  refine Ok.bind (Q := fun t => ∃ q : Nat, t = (q : Int) ∧ ((q < n ∧ CanP p c q) ∨ (q = n ∧ ∀ q' : Nat, q' < n → ¬ CanP p c q'))) (Ok.for_ n (fun k s => s = (k : Int) ∧ ∀ q' : Nat, q' < k → ¬ CanP p c q') ⟨rfl, fun q hq => by omega⟩ (by omega) ?_) ?_
  · rintro k s hk ⟨rfl, h1⟩
    simp only [ref17_Order_B2, show (⟨p.lens, p.ckpts, p.arcs⟩ : Pat) = p from rfl]
    by_cases hkn : k < n
    · rw [show (decide ((k : Int) < (c.length : Int))) = true by simp; omega, andM_true]
      refine Ok.bind (Q := fun b => b = true ↔ ¬ CanP p c k) ?_ fun b hb => ?_
      · refine (can_g h hB hc hkn).bind fun b hb => Ok.ret ?_
        rw [← hb]; cases b <;> simp
      · refine Ok.ite (fun hb1 => Ok.ret ⟨hkn, w64_nat (by omega), fun q' hq' => ?_⟩) (fun hb1 => Ok.ret ⟨k, rfl, .inl ⟨hkn, ?_⟩⟩)
        · rcases Nat.lt_succ_iff_lt_or_eq.1 hq' with h5 | rfl
          · exact h1 q' h5
          · exact hb.1 hb1
        · refine Classical.byContradiction fun h5 => ?_
          rw [hb.2 h5] at hb1; cases hb1
    · rw [show (decide ((k : Int) < (c.length : Int))) = false by simp; omega, andM_false, Option.bind_some]
      simp only [Bool.false_eq_true, if_false]
      exact Ok.ret ⟨k, rfl, .inr ⟨by omega, fun q' hq' => h1 q' (by omega)⟩⟩
  · rintro t ⟨q, rfl, hq⟩
    simp only [ref17_Order_K1]
    rcases hq with ⟨hqn, hcan⟩ | ⟨rfl, hno⟩
    · have hcq := hc.2 q hqn; have hrg := h.nI_rng q
      have hlt := hcan.1
      rw [if_neg (by simp; omega), ati_nI (by omega) (by omega), Option.bind_some, Option.bind_some, w64_id (by omega) (by omega)]
      refine (Ok.set (by omega) (by omega)).bind fun c' hc' => ?_
      rw [Int.toNat_natCast] at hc'
      have hset : ∀ j : Nat, nI c' j = if (j : Int) = q then nI c q + 1 else nI c j := fun j => by
        have := nI_set (xs := c) (i := (q : Int)) (j := (j : Int)) (x := nI c q + 1) (by omega) (by omega) (by omega)
        rw [Int.toNat_natCast] at this
        rw [hc', this]
      have hcl' : c'.length = n := by rw [hc']; simp [hcl]
      have hsm : smN c' = smN c + 1 := by
        have := smN_set (x := c) (i := q) (v := nI c q) (w := nI c q + 1) (nI_get? (by omega))
        rw [← hc'] at this; omega
      have hcv : CntV n p c' := ⟨hcl', fun j hj => by
        rw [hset j]
        split
        · rename_i e; have : j = q := by omega
          subst this; omega
        · exact hc.2 j hj⟩
      have hle : smN c' ≤ smN p.lens := smN_mono (by omega) fun j hj => (hcv.2 j (by omega)).2
      rw [ati_nI (by omega) (by omega), Option.bind_some, hset q, if_pos rfl]
      refine (Ok.snoc (by omega)).bind fun E' hE' => Ok.ret ⟨m - 1, by omega, hcv, fun j hj => ?_, fun i e he => ?_, by simp only [hE']; simp; omega, by simp only; omega⟩
      · simp only [hE']
        rw [cntE_snoc, hset j]
        have := hce j hj
        by_cases e : (j : Int) = q
        · have e2 : j = q := by omega
          subst e2
          rw [if_pos rfl, if_pos rfl]; omega
        · rw [if_neg (by simp only; omega), if_neg e]; omega
      · simp only [hE'] at he ⊢
        rcases Nat.lt_trichotomy i E.length with h5 | h5 | h5
        · rw [List.getElem?_append_left h5] at he
          rw [List.take_append_of_le_length (by omega)]
          exact hE i e he
        · subst h5
          rw [List.getElem?_append_right (Nat.le_refl _)] at he
          simp at he; subst he
          rw [List.take_append_of_le_length (Nat.le_refl _), List.take_length]
          have := hce q hqn
          refine ⟨by simp only; omega, by simp only; omega, by simp only; omega, by simp only; omega, fun a ha h1 h2 => ?_⟩
          simp only at h1 h2
          have h6 := hcan.2 a ha h1 h2
          have hag := h.arc a ha
          obtain ⟨f, hf⟩ := Int.eq_ofNat_of_zero_le hag.fr.1
          have := hce f (by have := hag.fr.2; omega)
          rw [hf] at h6 ⊢; omega
        · rw [List.getElem?_eq_none (by simp; omega)] at he; cases he
    · rw [if_pos (by simp; omega)]
      refine Ok.ret ⟨hE, fun q hq => ?_, by omega⟩
      rw [hce q hq]; exact can_none h hc hno q hq
/-! the clocks -/
def ClksS (n : Nat) (p : Pat) (cnt : Nat → Nat) (C : List (List (List Int))) : Prop := C.length = n ∧ ∀ q : Nat, q < n → ∃ row, C[q]? = some row ∧ row.length = cnt q + 1 ∧ ∀ (k : Nat) (c : List Int), row[k]? = some c → ClkS n p.arcs q k c
theorem top_g {c d : List Int} (hl : c.length = d.length) (hw : c.length ≤ 1000) : Ok (ref17_top 10000000 c d) fun r => r.length = c.length ∧ ∀ s : Nat, s < c.length → nI r s = max (nI c s) (nI d s) := by
  unfold ref17_top
  refine (Ok.cat (by simp; omega)).bind fun x0 hx0 => ?_
  rw [List.nil_append] at hx0
  subst hx0
  refine Ok.bind (Q := fun r => r.length = x0.length ∧ ∀ s : Nat, s < x0.length → nI r s = max (nI x0 s) (nI d s)) (Ok.for_ x0.length (fun k s => s.2 = (k : Int) ∧ s.1.length = x0.length ∧ (∀ i : Nat, i < k → nI s.1 i = max (nI x0 i) (nI d i)) ∧ ∀ i : Nat, k ≤ i → i < x0.length → nI s.1 i = nI x0 i) ⟨rfl, rfl, fun i hi => by omega, fun i _ _ => rfl⟩ (by omega) ?_) fun t ht => Ok.ret ht
  rintro k ⟨x, i⟩ hk ⟨hi, hxl, h1, h2⟩
  simp only at hi hxl h1 h2
  subst hi
  simp only [ref17_top_B1]
  refine Ok.iteP (fun hkl => ?_) (fun hkl => Ok.ret ⟨hxl, fun s hs => h1 s (by omega)⟩)
  rw [ati_nI (by omega) (by omega), Option.bind_some, ati_nI (by omega) (by omega), Option.bind_some, Option.bind_some]
  refine (Ok.set (by omega) (by omega)).bind fun y hy => Ok.ret ⟨by omega, w64_nat (by omega), ?_⟩
  rw [Int.toNat_natCast] at hy
  subst hy
  have hset : ∀ q : Nat, nI (x.set k (max (nI x k) (nI d k))) q = if (q : Int) = k then max (nI x k) (nI d k) else nI x q := fun q => by
    have := nI_set (xs := x) (i := (k : Int)) (j := (q : Int)) (x := max (nI x k) (nI d k)) (by omega) (by omega) (by omega)
    simpa using this
  refine ⟨by simp [hxl], fun i hi => ?_, fun i hi1 hi2 => ?_⟩
  · simp only; rw [hset i]
    split
    · rename_i e; have : i = k := by omega
      subst this; rw [h2 i (Nat.le_refl _) (by omega)]
    · exact h1 i (by omega)
  · simp only; rw [hset i, if_neg (by omega)]; exact h2 i (by omega) hi2
theorem clocks_g {n B : Nat} {p : Pat} (h : PatG n B p) (hn : n ≤ 5) (hB : B ≤ 64) : Ok (ref17_Clocks 10000000 p) (ClksS n p fun q => (nI p.lens q).toNat) := by
  have hl := h.len
  unfold ref17_Clocks
  refine Ok.bind (Q := fun C => C = List.replicate n [List.replicate n (0 : Int)]) (Ok.for_ n (fun k s => s.2 = (k : Int) ∧ s.1 = List.replicate k [List.replicate n (0 : Int)]) ⟨rfl, rfl⟩ (by omega) ?_) fun C hC => ?_
  · rintro k ⟨C, i⟩ hk ⟨hi, hC⟩
    simp only at hi hC
    subst hi hC
    simp only [ref17_Clocks_B2]
    refine Ok.iteP (fun hkl => ?_) (fun hkl => Ok.ret (by rw [show k = n by omega]; rfl))
    rw [hl, mkL_nat (by omega), Option.bind_some]
    refine (Ok.snoc (by simp; omega)).bind fun C' hC' => Ok.ret ⟨by omega, w64_nat (by omega), ?_⟩
    subst hC'
    simp only; rw [List.replicate_succ']
  · subst hC
    unfold ref17_Clocks_K1
    rw [show (⟨p.lens, p.ckpts, p.arcs⟩ : Pat) = p from rfl]
    refine (order_g h hn hB).bind fun E ⟨hE, hEc, hEl⟩ => ?_
    refine Ok.bind (Q := ClksS n p fun q => (nI p.lens q).toNat) (Ok.for_ E.length (fun k s => s.2 = (k : Int) ∧ ClksS n p (fun q => cntE (E.take k) q) s.1) ⟨rfl, by simp, fun q hq => ⟨[List.replicate n (0 : Int)], by simp [hq], rfl, fun k c hk => ?_⟩⟩ (by omega) ?_) fun t ht => Ok.ret ht
    · have hk0 : k = 0 := by
        rcases Nat.eq_zero_or_pos k with h5 | h5
        · exact h5
        · rw [List.getElem?_eq_none (by simp; omega)] at hk; cases hk
      subst hk0
      simp at hk; subst hk
      exact ClkS.zero h
    · rintro k ⟨C, i⟩ hk ⟨hi, hC⟩
      simp only at hi hC
      subst hi
      simp only [ref17_Clocks_B1, show (⟨p.lens, p.ckpts, p.arcs⟩ : Pat) = p from rfl]
      refine Ok.iteP (fun hkl => ?_) (fun hkl => Ok.ret ?_)
      · have hkl' : k < E.length := by omega
        have hcl := hC.1
        obtain ⟨e0, e1, e2, e3, e4⟩ := hE k E[k] (List.getElem?_eq_getElem hkl')
        have htk : E.take (k + 1) = E.take k ++ [E[k]] := by rw [List.take_add_one, List.getElem?_eq_getElem hkl']; rfl
        rw [ati_get hkl']
        generalize hee : E[k] = e at *
        obtain ⟨e5, e6⟩ := e
        simp only at e0 e1 e2 e3 e4
        obtain ⟨q, rfl⟩ := Int.eq_ofNat_of_zero_le e0
        have hqn : q < n := by omega
        obtain ⟨row, g1, g2, g3⟩ := hC.2 q hqn
        have g2 : row.length = cntE (E.take k) q + 1 := g2
        have hrg := h.nI_rng q
        simp only [Option.bind_some]
        rw [ati_cast, g1, Option.bind_some, w64_id (by omega) (by omega), show e6 - 1 = ((cntE (E.take k) q : Nat) : Int) by omega, ati_get (by omega), Option.bind_some]
        have hprev : ClkS n p.arcs q (e6 - 1) (row[cntE (E.take k) q]'(by omega)) := by
          rw [show e6 - 1 = ((cntE (E.take k) q : Nat) : Int) by omega]
          exact g3 _ _ (List.getElem?_eq_getElem (by omega))
        generalize row[cntE (E.take k) q]'(by omega) = c1 at hprev
        have hc1l := hprev.1
        refine (Ok.cat (by simp; omega)).bind fun c1' hc1' => ?_
        rw [List.nil_append] at hc1'
        subst hc1'
        -- the clock is appended
        have fin : ∀ c2 : List Int, c2.length = n → (∀ c', c'.length = n → (∀ s : Nat, s < n → nI c' s = if (s : Int) = q then e6 else nI c2 s) → ClkS n p.arcs q e6 c') →
            Ok (ref17_Clocks_J1 10000000 ⟨q, e6⟩ ⟨q, e6⟩ C k c2) fun o => Sum.elim (fun s' => k < E.length ∧ s'.2 = ((k + 1 : Nat) : Int) ∧ ClksS n p (fun q => cntE (E.take (k + 1)) q) s'.1) (fun t => ClksS n p (fun q => (nI p.lens q).toNat) t) o := fun c2 hc2 hck => by
          simp only [ref17_Clocks_J1]
          refine (Ok.at (by omega) (by omega)).bind fun _ _ => (Ok.set (by omega) (by omega)).bind fun c' hc' => ?_
          rw [ati_cast, g1, Option.bind_some]
          refine (Ok.cat (by simp; omega)).bind fun row' hrow' => (Ok.set (by omega) (by omega)).bind fun C' hC' => ?_
          rw [Int.toNat_natCast] at hC'
          refine (Ok.at (by omega) (by rw [hC']; simp; omega)).bind fun _ _ => Ok.ret ⟨hkl', w64_nat (by omega), by simp [hC', hcl], fun q' hq' => ?_⟩
          have hcw : ClkS n p.arcs q e6 c' := hck c' (by rw [hc']; simp [hc2]) fun s hs => by
            rw [hc', nI_set (by omega) (by omega) (by omega)]
          simp only [hC']
          by_cases e : q = q'
          · subst e
            refine ⟨row', by rw [List.getElem?_set_self (by omega)], ?_, fun k' c3 hk' => ?_⟩
            · rw [hrow', htk, cntE_snoc, if_pos rfl]; simp [g2]
            · rw [hrow'] at hk'
              rcases Nat.lt_or_ge k' row.length with h5 | h5
              · rw [List.getElem?_append_left h5] at hk'; exact g3 k' c3 hk'
              · rw [List.getElem?_append_right h5] at hk'
                have h6 : k' - row.length = 0 := by
                  rcases Nat.eq_zero_or_pos (k' - row.length) with h6 | h6
                  · exact h6
                  · rw [List.getElem?_eq_none (by simp; omega)] at hk'; cases hk'
                rw [h6] at hk'
                simp at hk'; subst hk'
                rw [show ((k' : Nat) : Int) = e6 by omega]; exact hcw
          · obtain ⟨row2, r1, r2, r3⟩ := hC.2 q' hq'
            refine ⟨row2, by rw [List.getElem?_set_ne e]; exact r1, ?_, r3⟩
            rw [htk, cntE_snoc, if_neg (by simp only; omega)]; exact r2
        refine (receivedX_g h hB (by omega)).bind fun r hr => ?_
        rcases hr with ⟨rfl, hno⟩ | ⟨i, a, rfl, ha, hto, hrc⟩
        · rw [show (decide ((0 : Int) ≤ -1)) = false from rfl]
          simp only [Bool.false_eq_true, if_false]
          refine fin _ hc1l fun c' hl' hs' => ClkS.step (c2 := List.replicate n 0) h (by omega) (by omega) (by omega) e3 hprev (.inr ⟨fun a ha _ => hno a ha, fun s hs => by simp [nI, hs]⟩) hl' fun s hs => ?_
          rw [hs' s hs]
          have : nI (List.replicate n (0 : Int)) s = 0 := by simp [nI, hs]
          have := (hprev.2 s hs).1
          split
          · rfl
          · omega
        · have hain := List.mem_of_getElem? ha
          have hag := h.arc a hain
          rw [show (decide ((0 : Int) ≤ (i : Int))) = true by simp, if_pos rfl, ati_cast, ha]
          simp only [Option.bind_some]
          obtain ⟨f, hf⟩ := Int.eq_ofNat_of_zero_le hag.fr.1
          obtain ⟨x, hx⟩ := Int.eq_ofNat_of_zero_le hag.ix.1
          have hfn : f < n := by have := hag.fr.2; omega
          have h4 := e4 a hain hto hrc
          obtain ⟨row2, r1, r2, r3⟩ := hC.2 f hfn
          have r2 : row2.length = cntE (E.take k) f + 1 := r2
          rw [hf] at h4
          rw [hf, ati_cast, r1, Option.bind_some, hx, ati_get (by omega), Option.bind_some]
          have hsrc : ClkS n p.arcs a.fr a.ix (row2[x]'(by omega)) := by rw [hf, hx]; exact r3 x _ (List.getElem?_eq_getElem (by omega))
          generalize row2[x]'(by omega) = c2 at hsrc
          have hc2l := hsrc.1
          refine (top_g (by omega) (by omega)).bind fun c3 ⟨t1, t2⟩ => ?_
          refine fin c3 (by omega) fun c' hl' hs' => ClkS.step h (by omega) (by omega) (by omega) e3 hprev (.inl ⟨a, hain, by omega, hto, hrc, hsrc⟩) hl' fun s hs => ?_
          rw [hs' s hs, t2 s (by omega)]
      · rw [show k = E.length by omega, List.take_length] at hC
        refine ⟨hC.1, fun q hq => ?_⟩
        obtain ⟨row, g1, g2, g3⟩ := hC.2 q hq
        have g2 : row.length = cntE E q + 1 := g2
        exact ⟨row, g1, by have := hEc q hq; show row.length = (nI p.lens q).toNat + 1; omega, g3⟩
theorem rclock_g {n B : Nat} {p : Pat} (h : PatG n B p) (hn : n ≤ 5) (hB : B ≤ 64) {q k : Int} (h0 : 0 ≤ q) (h1 : q < n) (hk : 0 ≤ k) (hkl : k ≤ nI p.lens q) : ref17_Clock 10000000 p q k = some (clk p q k) := by
  unfold ref17_Clock
  rw [show (⟨p.lens, p.ckpts, p.arcs⟩ : Pat) = p from rfl]
  refine Ok.eq ((clocks_g h hn hB).bind fun C hC => ?_)
  obtain ⟨q', rfl⟩ := Int.eq_ofNat_of_zero_le h0
  obtain ⟨k', rfl⟩ := Int.eq_ofNat_of_zero_le hk
  obtain ⟨row, g1, g2, g3⟩ := hC.2 q' (by omega)
  simp only at g2
  rw [ati_cast, g1, Option.bind_some, ati_get (by omega), Option.bind_some]
  exact Ok.ret ((g3 k' _ (List.getElem?_eq_getElem (by omega))).uniq (clk_s h hn hB h0 h1 hk hkl).2)
theorem rckpt_g {n B : Nat} {p : Pat} (h : PatG n B p) (hn : n ≤ 5) (hB : B ≤ 64) {x : Pt} (hx : VN n p x) : ref19_Ckpt 10000000 p x.proc x.index = some (dvL n p x) := by
  have hr := cidx_rng h hx.p0 hx.p1 hx.i0; have hk := h.ck
  have hcl := (clk_s h hn hB hx.p0 hx.p1 hr.1 hr.2).2.1
  unfold ref19_Ckpt
  rw [show (⟨p.lens, p.ckpts, p.arcs⟩ : Pat) = p from rfl, rindex_a h hx.p0 hx.p1 hx.i0, Option.bind_some]
  unfold ref19_Vector
  rw [show (⟨p.lens, p.ckpts, p.arcs⟩ : Pat) = p from rfl, rclock_g h hn hB hx.p0 hx.p1 hr.1 hr.2, Option.bind_some]
  have e : ref19_Intervals 10000000 p (clk p x.proc (cidx p x.proc x.index)) = some (dvL n p x) := by
    unfold ref19_Intervals
    refine Ok.eq (Ok.bind (Q := fun t => t = dvL n p x) (Ok.for_ n (fun k s => s.2 = (k : Int) ∧ s.1 = (List.range k).map fun (s : Nat) => (dv p x s : Int)) ⟨rfl, rfl⟩ (by omega) ?_) fun t ht => by subst ht; exact Ok.ret rfl)
    rintro k ⟨L, i⟩ hk2 ⟨hi, hL⟩
    simp only at hi hL
    subst hi hL
    simp only [ref19_Intervals_B1]
    refine Ok.iteP (fun hkl => ?_) (fun hkl => Ok.ret (by rw [show k = n by omega]; rfl))
    rw [ati_nI (by omega) hkl, Option.bind_some, show (⟨p.lens, p.ckpts, p.arcs⟩ : Pat) = p from rfl, rinterval_g (by omega) (by omega) (by have := h.ckW k; omega) (by omega), Option.bind_some]
    refine (Ok.snoc (by simp; omega)).bind fun z hz => Ok.ret ⟨by omega, w64_nat (by omega), ?_⟩
    subst hz
    simp only; rw [List.range_succ, List.map_append]; rfl
  rw [e]; rfl
theorem rdepends_g {n B : Nat} {p : Pat} (h : PatG n B p) (hn : n ≤ 5) (hB : B ≤ 64) {a b : Pt} (ha : VN n p a) (hb : VN n p b) : ref19_Depends 10000000 p b a = some (decide (a.index < (dv p b a.proc : Int))) := by
  unfold ref19_Depends
  rw [show (⟨p.lens, p.ckpts, p.arcs⟩ : Pat) = p from rfl, rckpt_g h hn hB hb, Option.bind_some, ati_nI ha.p0 (by simp [dvL]; exact ha.p1), Option.bind_some]
  obtain ⟨q, hq⟩ := Int.eq_ofNat_of_zero_le ha.p0
  rw [hq, nI_dvL (by have := ha.p1; omega)]
end Go.Mine
