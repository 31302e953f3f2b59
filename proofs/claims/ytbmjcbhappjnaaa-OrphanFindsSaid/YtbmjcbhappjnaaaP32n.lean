/- Chapter 32, plain: drawn lineages and cuts. -/
import Derived.Test.YtbmjcbhappjnaaaP32m
set_option linter.unusedSimpArgs false
set_option linter.unusedVariables false
namespace Go.Mine
open Go.RowKit
theorem reduce_o {fuel : Nat} {p : Pat} (h : p.arcs.length ≤ 1000000) (hf : 1000000 < fuel) : Ok (ref16_Reduce fuel p) fun p' => p'.lens = p.lens ∧ p'.ckpts = p.ckpts ∧ p'.arcs.length ≤ p.arcs.length ∧ ∀ a ∈ p'.arcs, a ∈ p.arcs ∧ a.rcv ≠ 0 := by
  unfold ref16_Reduce
  refine Ok.bind (Ok.for_ p.arcs.length (fun k s => s.2 = (k : Int) ∧ s.1.length ≤ k ∧ ∀ a ∈ s.1, a ∈ p.arcs ∧ a.rcv ≠ 0) (Q := fun t => t.length ≤ p.arcs.length ∧ ∀ a ∈ t, a ∈ p.arcs ∧ a.rcv ≠ 0) ⟨rfl, by simp, by simp⟩ (by omega) ?_) fun t ht => Ok.ret ⟨rfl, rfl, ht⟩
  rintro k ⟨l, i⟩ hk ⟨h1, h2, h3⟩
  simp only at h1 h2 h3
  subst h1
  simp only [ref16_Reduce_B1]
  refine Ok.iteP (fun hlt => ?_) fun _ => Ok.ret ⟨by omega, h3⟩
  refine (Ok.at (by omega) (by omega)).bind fun a ha => Ok.iteN (fun hr => ?_) fun _ => Ok.ret ⟨by omega, by rw [w64_nat (by omega)], by simp only; omega, h3⟩
  refine (Ok.at (by omega) (by omega)).bind fun a2 ha2 => ?_
  obtain rfl : a = a2 := by rw [ha] at ha2; exact Option.some.inj ha2
  refine (Ok.snoc (by omega)).bind fun l2 hl2 => Ok.ret ⟨by omega, by rw [w64_nat (by omega)], by rw [hl2]; simp; omega, fun b hb => ?_⟩
  rw [hl2] at hb
  rcases List.mem_append.1 hb with h5 | h5
  · exact h3 b h5
  · obtain rfl : b = a := by simpa using h5
    exact ⟨List.mem_of_getElem? ha, hr⟩
/-- the length of a row -/
def rl {α : Type} (l : List (List α)) (j : Nat) : Nat := (l[j]?.getD []).length
theorem rl_set {α : Type} {l : List (List α)} {k j : Nat} {r : List α} (h : k < l.length) : rl (l.set k r) j = if j = k then r.length else rl l j := by
  unfold rl; rw [getElem?_set' h]; split <;> simp
theorem rl_some {α : Type} {l : List (List α)} {k : Nat} {r : List α} (h : l[k]? = some r) : rl l k = r.length := by simp [rl, h]
/-- lineages of these lengths -/
structure LinI (lens : List Int) (l : List (List Evt)) : Prop where
  len : l.length = lens.length
  row : ∀ j, j < l.length → (rl l j : Int) = nI lens j
theorem LinI.set {lens : List Int} {l : List (List Evt)} {k : Nat} {r : List Evt} (h : LinI lens l) (hk : k < l.length) (hr : r.length = rl l k) : LinI lens (l.set k r) :=
  ⟨by simp [h.len], fun j hj => by
    rw [rl_set hk]; split
    · rename_i e; subst e; rw [hr]; exact h.row j hk
    · exact h.row j (by simpa using hj)⟩
theorem nI_nonneg {lens : List Int} {B i : Int} (h : ∀ x ∈ lens, 0 ≤ x ∧ x ≤ B) (hB : 0 ≤ B) : 0 ≤ nI lens i ∧ nI lens i ≤ B := by
  unfold nI
  cases e9 : lens[i.toNat]? with
  | none => simp [hB]
  | some w => exact h w (List.mem_of_getElem? e9)
theorem lin_build {fuel : Nat} {c : List Int} {i : Int} {p : Pat} {B : Int} (hc : COk c i) (hn : p.lens.length ≤ 100) (hr : ∀ x ∈ p.lens, 0 ≤ x ∧ x ≤ B) (hB0 : 0 ≤ B) (hB : B ≤ 1000) (hf : 1000000 < fuel) :
    Ok (iter (fun s => make_Codes_Lineages_B4 fuel p c s.1 s.2.1 s.2.2) fuel (i, List.replicate p.lens.length [], 0)) fun t => COk c t.1 ∧ LinI p.lens t.2 := by
  refine Ok.for_ p.lens.length (fun k s => COk c s.1 ∧ s.2.2 = (k : Int) ∧ s.2.1.length = p.lens.length ∧ ∀ j : Nat, j < p.lens.length → (rl s.2.1 j : Int) = if j < k then nI p.lens j else 0) ⟨hc, rfl, by simp, fun j hj => by simp [rl, hj]⟩ (by omega) ?_
  rintro k ⟨i1, l, q⟩ hk ⟨h1, h2, h3, h4⟩
  simp only at h1 h2 h3 h4
  subst h2
  simp only [make_Codes_Lineages_B4]
  refine Ok.iteP (fun hlt => ?_) fun hlt => Ok.ret ⟨h1, by simpa using h3, fun j hj => by simp only at hj ⊢; rw [h4 j (by omega), if_pos (by omega)]⟩
  have hkn : k < p.lens.length := by omega
  refine Ok.bind (Ok.for_ (nI p.lens k).toNat (fun m s => COk c s.1 ∧ s.2.2 = (m : Int) + 1 ∧ s.2.1.length = p.lens.length ∧ ∀ j : Nat, j < p.lens.length → (rl s.2.1 j : Int) = if j < k then nI p.lens j else if j = k then (m : Int) else 0) (Q := fun t => COk c t.1 ∧ t.2.length = p.lens.length ∧ ∀ j : Nat, j < p.lens.length → (rl t.2 j : Int) = if j < k then nI p.lens j else if j = k then nI p.lens j else 0) ⟨h1, rfl, h3, fun j hj => by simp only; rw [h4 j hj]; split <;> simp⟩ (by have := nI_nonneg (i := (k : Int)) hr hB0; omega) ?_) fun t ⟨t1, t2, t3⟩ => ?_
  · rintro m ⟨i2, l2, z⟩ hm ⟨g1, g2, g3, g4⟩
    simp only at g1 g2 g3 g4
    subst g2
    simp only [make_Codes_Lineages_B5]
    have hb := nI_nonneg (i := (k : Int)) hr hB0
    refine (Ok.at (by omega) (by omega)).bind fun x hx => ?_
    have hxe : nI p.lens k = x := nI_some hx
    refine Ok.iteP (fun hlt2 => ?_) fun hlt2 => Ok.ret ⟨g1, g3, fun j hj => ?_⟩
    · refine (Ok.at (by omega) (by omega)).bind fun r hr2 => (next_o g1 (by omega)).bind fun y ⟨_, _, hy⟩ => ?_
      have hrl := g4 k hkn
      simp only [Int.toNat_natCast] at hr2
      rw [rl_some hr2, if_neg (by omega), if_pos rfl] at hrl
      refine (Ok.snoc (by omega)).bind fun r2 e2 => (Ok.set (by omega) (by omega)).bind fun l3 e3 => (Ok.at (by omega) (by rw [e3]; simp; omega)).bind fun _ _ => Ok.ret ⟨by omega, hy, ?_, by simp only; rw [e3]; simp [g3], fun j hj => ?_⟩
      · simp only; rw [w64_id (by omega) (by omega)]; omega
      · simp only; rw [e3, Int.toNat_natCast, rl_set (by omega)]
        by_cases e : j = k
        · subst e; rw [if_pos rfl, if_neg (by omega), if_pos rfl, e2]; simp; omega
        · rw [if_neg e, g4 j hj, if_neg e, if_neg e]
    · simp only; rw [g4 j hj]
      by_cases e : j = k
      · subst e; rw [if_neg (by omega), if_pos rfl, if_neg (by omega), if_pos rfl]; omega
      · rw [if_neg e, if_neg e]
  · simp only [make_Codes_Lineages_K6]
    refine Ok.ret ⟨hkn, t1, w64_nat (by omega), t2, fun j hj => ?_⟩
    simp only; rw [t3 j hj]
    by_cases e : j < k
    · rw [if_pos e, if_pos (by omega)]
    · by_cases e2 : j = k
      · rw [if_neg e, if_pos e2, if_pos (by omega)]
      · rw [if_neg e, if_neg e2, if_neg (by omega)]
theorem lin_rise {fuel : Nat} {c rise : List Int} {i : Int} {p : Pat} {B : Int} {l0 : List (List Evt)} (hc : COk c i) (hl : LinI p.lens l0) (hs : rise.length = p.lens.length) (hp : ∀ x ∈ rise, 0 < x) (hn : p.lens.length ≤ 100) (hr : ∀ x ∈ p.lens, 0 ≤ x ∧ x ≤ B) (hB0 : 0 ≤ B) (hB : B ≤ 1000) (hf : 1000000 < fuel) :
    Ok (iter (fun s => make_Codes_Lineages_B2 fuel p rise c s.1 s.2.1 s.2.2) fuel (i, l0, 0)) fun t => COk c t.1 ∧ LinI p.lens t.2 := by
  refine Ok.for_ p.lens.length (fun k s => COk c s.1 ∧ s.2.2 = (k : Int) ∧ LinI p.lens s.2.1) ⟨hc, rfl, hl⟩ (by omega) ?_
  rintro k ⟨i1, l, q⟩ hk ⟨h1, h2, h3⟩
  simp only at h1 h2 h3
  subst h2
  simp only [make_Codes_Lineages_B2]
  refine Ok.iteP (fun hlt => ?_) fun hlt => Ok.ret ⟨h1, h3⟩
  have hkn : k < p.lens.length := by omega
  have hb := nI_nonneg (i := (k : Int)) hr hB0
  refine Ok.bind (Ok.for_ (nI p.lens k).toNat (fun m s => COk c s.1 ∧ LinI p.lens s.2.1 ∧ (0 : Int) ≤ s.2.2.1 ∧ s.2.2.1 ≤ (m : Int) ∧ s.2.2.2 = (m : Int) + 1) (Q := fun t => COk c t.1 ∧ LinI p.lens t.2) ⟨h1, h3, by simp, by simp, rfl⟩ (by omega) ?_) fun t ⟨t1, t2⟩ => Ok.ret ⟨hkn, t1, w64_nat (by omega), t2⟩
  rintro m ⟨i2, l2, up, z⟩ hm ⟨g1, g2, g3, g4, g5⟩
  simp only at g1 g2 g3 g4 g5
  subst g5
  simp only [make_Codes_Lineages_B3]
  refine (Ok.at (by omega) (by omega)).bind fun x hx => ?_
  have hxe : nI p.lens k = x := nI_some hx
  refine Ok.iteP (fun hlt2 => ?_) fun hlt2 => Ok.ret ⟨g1, g2⟩
  refine (Ok.at (by omega) (by omega)).bind fun y hy => (next_o g1 (hp y (List.mem_of_getElem? hy))).bind fun z ⟨_, _, hz⟩ => ?_
  have key : ∀ u : Int, 0 ≤ u → u ≤ m + 1 → Ok (make_Codes_Lineages_J3 fuel l2 (k : Int) ((m : Int) + 1) z.2 u) fun o => Sum.elim (fun s' : Int × List (List Evt) × Int × Int => m < (nI p.lens k).toNat ∧ COk c s'.1 ∧ LinI p.lens s'.2.1 ∧ 0 ≤ s'.2.2.1 ∧ s'.2.2.1 ≤ ((m + 1 : Nat) : Int) ∧ s'.2.2.2 = ((m + 1 : Nat) : Int) + 1) (fun t : Int × List (List Evt) => COk c t.1 ∧ LinI p.lens t.2) o := fun u u0 u1 => by
    simp only [make_Codes_Lineages_J3]
    have hll := g2.len
    have hrow := g2.row k (by omega)
    rw [w64_id (i := (m : Int) + 1 - 1) (by omega) (by omega)]
    refine (Ok.at (by omega) (by omega)).bind fun r hr2 => ?_
    simp only [Int.toNat_natCast] at hr2
    rw [rl_some hr2] at hrow
    refine (Ok.at (by omega) (by omega)).bind fun e he => (Ok.set (by omega) (by omega)).bind fun r2 e2 => (Ok.set (by omega) (by omega)).bind fun l3 e3 => Ok.ret ⟨by omega, hz, ?_, u0, by simp only; omega, by simp only; rw [w64_id (by omega) (by omega)]; omega⟩
    simp only; rw [e3, Int.toNat_natCast]
    exact g2.set (by omega) (by rw [e2, rl_some hr2]; simp)
  exact Ok.iteE (fun _ => key _ (by rw [w64_id (by omega) (by omega)]; omega) (by rw [w64_id (by omega) (by omega)]; omega)) fun _ => key _ g3 (by omega)
theorem lin_arcs {fuel : Nat} {c : List Int} {i : Int} {p : Pat} {B n : Nat} {l0 : List (List Evt)} (hc : COk c i) (hl : LinI p.lens l0) (hp : ∀ a ∈ p.arcs, ArcI n p.lens a ∧ a.rcv ≠ 0) (hlen : p.lens.length = n) (hn : n ≤ 100) (hr : ∀ x ∈ p.lens, 0 ≤ x ∧ x ≤ (B : Int)) (hB : B ≤ 1000) (ha : p.arcs.length ≤ 1000000) (hf : 1000000 < fuel) :
    Ok (iter (fun s => make_Codes_Lineages_B1 fuel p c s.1 s.2.1 s.2.2) fuel (i, l0, 0)) fun t => COk c t.1 ∧ LinI p.lens t.2 := by
  refine Ok.for_ p.arcs.length (fun k s => COk c s.1 ∧ LinI p.lens s.2.1 ∧ s.2.2 = (k : Int)) ⟨hc, hl, rfl⟩ (by omega) ?_
  rintro k ⟨i1, l, q⟩ hk ⟨h1, h2, h3⟩
  simp only at h1 h2 h3
  subst h3
  simp only [make_Codes_Lineages_B1]
  refine Ok.iteP (fun hlt => ?_) fun hlt => Ok.ret ⟨h1, h2⟩
  refine (Ok.at (by omega) (by omega)).bind fun a haa => ?_
  obtain ⟨⟨a1, a2, a3, a4⟩, a5⟩ := hp a (List.mem_of_getElem? haa)
  have hll := h2.len
  have b1 := nI_nonneg (i := a.to) hr (by omega)
  have b2 := nI_nonneg (i := a.fr) hr (by omega)
  have r1 := h2.row a.to.toNat (by omega)
  have r2 := h2.row a.fr.toNat (by omega)
  rw [Int.toNat_of_nonneg (by omega)] at r1 r2
  rw [w64_id (i := a.rcv - 1) (by omega) (by omega)]
  refine (Ok.at (by omega) (by omega)).bind fun r hrr => ?_
  rw [rl_some hrr] at r1
  refine (Ok.at (by omega) (by omega)).bind fun e he => (next_o h1 (by omega)).bind fun z ⟨_, _, hz⟩ => ?_
  have key : ∀ u v : Int, Ok (make_Codes_Lineages_J2 fuel l a e z (k : Int) u v) fun o => Sum.elim (fun s' : Int × List (List Evt) × Int => k < p.arcs.length ∧ COk c s'.1 ∧ LinI p.lens s'.2.1 ∧ s'.2.2 = ((k + 1 : Nat) : Int)) (fun t : Int × List (List Evt) => COk c t.1 ∧ LinI p.lens t.2) o := fun u v => by
    simp only [make_Codes_Lineages_J2]
    rw [w64_id (i := a.rcv - 1) (by omega) (by omega)]
    refine (Ok.at (by omega) (by omega)).bind fun r2 hr2 => ?_
    obtain rfl : r = r2 := by rw [hrr] at hr2; exact Option.some.inj hr2
    refine (Ok.at (by omega) (by omega)).bind fun e2 he2 => (Ok.set (by omega) (by omega)).bind fun r3 e3 => (Ok.set (by omega) (by omega)).bind fun l3 e4 => Ok.ret ⟨by omega, hz, ?_, w64_nat (by omega)⟩
    simp only; rw [e4]
    exact h2.set (by omega) (by rw [e3, rl_some hrr]; simp)
  simp only [make_Codes_Lineages_J1]
  refine Ok.iteP (fun hx => ?_) fun _ => key _ _
  rw [w64_id (i := a.ix - 1) (by omega) (by omega)]
  refine (Ok.at (by omega) (by omega)).bind fun r4 hr4 => ?_
  rw [rl_some hr4] at r2
  exact (Ok.at (by omega) (by omega)).bind fun e5 he5 => key _ _
/-- a pattern without messages on their way -/
structure PatR (n B : Nat) (p : Pat) : Prop extends PatI n B p where
  got : ∀ a ∈ p.arcs, a.rcv ≠ 0
theorem lineages_o {fuel : Nat} {c : List Int} {i : Int} {m : Nat} (h : COk c i) (hm : m ≤ 1000) (hf : 1000000 < fuel) : Ok (make_Codes_Lineages fuel m c i) fun r => ∃ n : Nat, 2 ≤ n ∧ n ≤ 4 ∧ PatR n m r.2.1 ∧ LinI r.2.1.lens r.1 ∧ COk c r.2.2 := by
  unfold make_Codes_Lineages
  refine (pattern_o h hm hf).bind fun r ⟨n, n1, n2, hp, hc⟩ => ?_
  refine (reduce_o (by have := hp.al; omega) hf).bind fun p ⟨p1, p2, p3, p4⟩ => ?_
  have hp' : PatR n m p := ⟨⟨by rw [p1]; exact hp.len, by rw [p2]; exact hp.ck, by rw [p1]; exact hp.rng, by rw [p2]; exact hp.row, by rw [p1]; exact fun a ha => hp.arc a (p4 a ha).1, by have := hp.al; omega⟩, fun a ha => (p4 a ha).2⟩
  have hl := hp'.len
  refine (Ok.mk (by omega) (by omega)).bind fun x hx => ?_
  refine Ok.bind (Ok.for_ p.lens.length (fun k s => COk c s.1 ∧ s.2.1.length = p.lens.length ∧ (∀ j : Nat, j < k → 0 < nI s.2.1 j) ∧ s.2.2 = (k : Int)) (Q := fun t => COk c t.1 ∧ t.2.length = p.lens.length ∧ ∀ x ∈ t.2, 0 < x) ⟨hc, by rw [hx]; simp, by omega, rfl⟩ (by omega) ?_) fun t ⟨t1, t2, t3⟩ => ?_
  · rintro k ⟨i1, l, q⟩ hk ⟨h1, h2, h3, h4⟩
    simp only at h1 h2 h3 h4
    subst h4
    simp only [make_Codes_Lineages_B6]
    refine Ok.iteP (fun hlt => ?_) fun hlt => Ok.ret ⟨h1, h2, fun x hx => ?_⟩
    · refine (next_o h1 (by omega)).bind fun y ⟨y0, y1, hy⟩ => (Ok.at (by omega) (by omega)).bind fun z hz => (Ok.set (by omega) (by omega)).bind fun l2 e2 => Ok.ret ⟨by omega, hy, by simp only; rw [e2]; simp [h2], fun j hj => ?_, w64_nat (by omega)⟩
      simp only; rw [e2, nI_set (by omega) (by omega) (by omega)]
      split
      · rw [w64_id (by omega) (by omega)]; omega
      · exact h3 j (by omega)
    · obtain ⟨j, hj, e⟩ := List.getElem_of_mem hx
      have := h3 j (by simp only at hj; omega)
      simp only at hj e
      simp [nI, hj, e] at this
      exact this
  · simp only [make_Codes_Lineages_K1]
    refine (Ok.mk (by omega) (by omega)).bind fun y hy => ?_
    rw [Int.toNat_natCast] at hy
    subst hy
    have hr : ∀ x ∈ p.lens, 0 ≤ x ∧ x ≤ (m : Int) := hp'.rng
    refine (lin_build t1 (by omega) hr (by omega) (by omega) hf).bind fun u ⟨u1, u2⟩ => ?_
    simp only [make_Codes_Lineages_K2]
    refine (lin_rise u1 u2 t2 t3 (by omega) hr (by omega) (by omega) hf).bind fun v ⟨v1, v2⟩ => ?_
    simp only [make_Codes_Lineages_K3]
    refine (lin_arcs v1 v2 (fun a ha => ⟨hp'.arc a ha, hp'.got a ha⟩) hl (by omega) hr (by omega) (by have := hp'.al; omega) hf).bind fun w ⟨w1, w2⟩ => ?_
    exact Ok.ret ⟨n, n1, n2, hp', w2, w1⟩
end Go.Mine
