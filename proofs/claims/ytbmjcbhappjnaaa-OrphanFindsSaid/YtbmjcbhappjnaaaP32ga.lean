/- Chapter 32, plain: the incarnations of drawn lineages rise. -/
import Derived.Test.YtbmjcbhappjnaaaP32y
set_option linter.unusedSimpArgs false
set_option linter.unusedVariables false
namespace Go.Mine
open Go.RowKit
/-- a computation, if it answers -/
def Pc {α : Type} (m : Option α) (Q : α → Prop) : Prop := ∀ a, m = some a → Q a
section
variable {α β σ τ : Type}
theorem Pc.ret {a : α} {Q : α → Prop} (h : Q a) : Pc (some a) Q := fun b e => by cases e; exact h
theorem Pc.self {m : Option α} : Pc m fun a => m = some a := fun a h => h
theorem Pc.bind {m : Option α} {f : α → Option β} {Q : α → Prop} {R : β → Prop} (h : Pc m Q) (h2 : ∀ a, Q a → Pc (f a) R) : Pc (m.bind f) R := fun b e => by
  cases hm : m with
  | none => rw [hm] at e; cases e
  | some a => rw [hm] at e; exact h2 a (h a hm) b e
theorem Pc.ite {p : Prop} [Decidable p] {x y : Option α} {Q : α → Prop} (h1 : p → Pc x Q) (h2 : ¬ p → Pc y Q) : Pc (if p then x else y) Q := by
  split
  · exact h1 ‹_›
  · exact h2 ‹_›
theorem Pc.iter {body : σ → Option (σ ⊕ τ)} {P : σ → Prop} {Q : τ → Prop} (step : ∀ s, P s → Pc (body s) fun o => Sum.elim P Q o) : ∀ (fuel : Nat) (s : σ), P s → Pc (Go.Mine.iter body fuel s) Q
  | 0, s, h => fun a e => by rw [Go.Mine.iter] at e; cases e
  | fuel + 1, s, h => fun a e => by
    rw [Go.Mine.iter] at e
    cases hb : body s with
    | none => rw [hb] at e; cases e
    | some o =>
      rw [hb] at e
      have := step s h o hb
      cases o with
      | inl s' => exact Pc.iter step fuel s' this a e
      | inr t => cases e; exact this
theorem Ok.pc {m : Option α} {Q R : α → Prop} (h : Ok m Q) (h2 : Pc m R) : Ok m fun a => Q a ∧ R a := by
  obtain ⟨a, h1, h3⟩ := h; exact ⟨a, h1, h3, h2 a h1⟩
end
theorem ati_eq' {α : Type} {xs : List α} {i : Int} {x : α} (h : ati xs i = some x) : 0 ≤ i ∧ xs[i.toNat]? = some x := by
  unfold ati at h; split at h
  · cases h
  · exact ⟨by omega, h⟩
theorem ev_set2 {l : List (List Evt)} {k q j : Nat} {r : List Evt} (h : k < l.length) : ev_ (l.set k r) q j = if q = k then (r[j]?).getD default else ev_ l q j := by
  unfold ev_; rw [getElem?_set' h]; split <;> simp
theorem arcs_inc {fuel : Nat} {c : List Int} {i : Int} {p : Pat} {l0 : List (List Evt)} : Pc (iter (fun s => make_Codes_Lineages_B1 fuel p c s.1 s.2.1 s.2.2) fuel (i, l0, 0)) fun t => ∀ q j, (ev_ t.2 q j).inc = (ev_ l0 q j).inc := by
  refine Pc.iter (P := fun s => ∀ q j, (ev_ s.2.1 q j).inc = (ev_ l0 q j).inc) (fun s h => ?_) fuel _ fun q j => rfl
  simp only [make_Codes_Lineages_B1]
  refine Pc.ite (fun _ => ?_) fun _ => Pc.ret h
  refine Pc.self.bind fun a _ => Pc.self.bind fun r hr => Pc.self.bind fun e he => Pc.self.bind fun y _ => ?_
  obtain ⟨h0, h1⟩ := ati_eq' hr
  obtain ⟨e0, e1⟩ := ati_eq' he
  have key : ∀ u v, Pc (make_Codes_Lineages_J2 fuel s.2.1 a e y s.2.2 u v) fun o => Sum.elim (fun s : Int × List (List Evt) × Int => ∀ q j, (ev_ s.2.1 q j).inc = (ev_ l0 q j).inc) (fun t : Int × List (List Evt) => ∀ q j, (ev_ t.2 q j).inc = (ev_ l0 q j).inc) o := fun u v => by
    simp only [make_Codes_Lineages_J2]
    rw [hr, Option.bind_some, he, Option.bind_some]
    refine Pc.self.bind fun r2 hr2 => Pc.self.bind fun l2 hl2 => Pc.ret ?_
    obtain ⟨_, g1, rfl⟩ := seti_eq hr2
    obtain ⟨_, g2, rfl⟩ := seti_eq hl2
    intro q j
    simp only
    rw [ev_set2 (by omega)]
    split
    · rename_i e2
      rw [← h q j, getElem?_set' (by omega)]
      split
      · rename_i e3; rw [e2, e3, ev_get h1 e1]; rfl
      · rw [e2, ev_, h1]; rfl
    · exact h q j
  simp only [make_Codes_Lineages_J1]
  exact Pc.ite (fun _ => Pc.self.bind fun _ _ => Pc.self.bind fun _ _ => key _ _) fun _ => key _ _
/-- incarnations rise in the first k rows -/
def Mon (l : List (List Evt)) (k : Nat) : Prop := ∀ q i j : Nat, q < k → i ≤ j → j < rl l q → 0 ≤ (ev_ l q i).inc ∧ (ev_ l q i).inc ≤ (ev_ l q j).inc
theorem lin_rise3 {fuel : Nat} {c rise : List Int} {i : Int} {p : Pat} {B : Int} {l0 : List (List Evt)} (hc : COk c i) (hl : LinI p.lens l0) (hN0 : NoR l0) (hs : rise.length = p.lens.length) (hp : ∀ x ∈ rise, 0 < x) (hn : p.lens.length ≤ 100) (hr : ∀ x ∈ p.lens, 0 ≤ x ∧ x ≤ B) (hB0 : 0 ≤ B) (hB : B ≤ 1000) (hf : 1000000 < fuel) :
    Ok (iter (fun s => make_Codes_Lineages_B2 fuel p rise c s.1 s.2.1 s.2.2) fuel (i, l0, 0)) fun t => COk c t.1 ∧ LinI p.lens t.2 ∧ NoR t.2 ∧ Mon t.2 p.lens.length := by
  refine Ok.for_ p.lens.length (fun k s => COk c s.1 ∧ s.2.2 = (k : Int) ∧ LinI p.lens s.2.1 ∧ NoR s.2.1 ∧ Mon s.2.1 k) ⟨hc, rfl, hl, hN0, fun q i j hq => by omega⟩ (by omega) ?_
  rintro k ⟨i1, l, q⟩ hk ⟨h1, h2, h3, hN, hM⟩
  simp only at h1 h2 h3 hN hM
  subst h2
  simp only [make_Codes_Lineages_B2]
  refine Ok.iteP (fun hlt => ?_) fun hlt => Ok.ret ⟨h1, h3, hN, by have e : k = p.lens.length := by omega
                                                                   rw [← e]; exact hM⟩
  have hkn : k < p.lens.length := by omega
  have hb := nI_nonneg (i := (k : Int)) hr hB0
  refine Ok.bind (Ok.for_ (nI p.lens k).toNat (fun m s => COk c s.1 ∧ LinI p.lens s.2.1 ∧ NoR s.2.1 ∧ (0 : Int) ≤ s.2.2.1 ∧ s.2.2.1 ≤ (m : Int) ∧ s.2.2.2 = (m : Int) + 1 ∧ Mon s.2.1 k ∧ (∀ j : Nat, j < m → 0 ≤ (ev_ s.2.1 k j).inc ∧ (ev_ s.2.1 k j).inc ≤ s.2.2.1) ∧ ∀ i j : Nat, i ≤ j → j < m → (ev_ s.2.1 k i).inc ≤ (ev_ s.2.1 k j).inc) (Q := fun t => COk c t.1 ∧ LinI p.lens t.2 ∧ NoR t.2 ∧ Mon t.2 (k + 1)) ⟨h1, h3, hN, by simp, by simp, rfl, hM, fun j hj => by omega, fun i j _ hj => by omega⟩ (by omega) ?_) fun t ⟨t1, t2⟩ => Ok.ret ⟨hkn, t1, w64_nat (by omega), t2⟩
  rintro m ⟨i2, l2, up, z⟩ hm ⟨g1, g2, gN, g3, g4, g5, g6, g7, g8⟩
  simp only at g1 g2 gN g3 g4 g5 g6 g7 g8
  subst g5
  have hll := g2.len
  have hrow := g2.row k (by omega)
  simp only [make_Codes_Lineages_B3]
  refine (Ok.at (by omega) (by omega)).bind fun x hx => ?_
  have hxe : nI p.lens k = x := nI_some hx
  refine Ok.iteP (fun hlt2 => ?_) fun hlt2 => Ok.ret ⟨g1, g2, gN, fun q i j hq hij hj => ?_⟩
  · refine (Ok.at (by omega) (by omega)).bind fun y hy => (next_o g1 (hp y (List.mem_of_getElem? hy))).bind fun z ⟨_, _, hz⟩ => ?_
    have key : ∀ u : Int, 0 ≤ u → u ≤ m + 1 → up ≤ u → Ok (make_Codes_Lineages_J3 fuel l2 (k : Int) ((m : Int) + 1) z.2 u) fun o => Sum.elim (fun s' : Int × List (List Evt) × Int × Int => m < (nI p.lens k).toNat ∧ COk c s'.1 ∧ LinI p.lens s'.2.1 ∧ NoR s'.2.1 ∧ 0 ≤ s'.2.2.1 ∧ s'.2.2.1 ≤ ((m + 1 : Nat) : Int) ∧ s'.2.2.2 = ((m + 1 : Nat) : Int) + 1 ∧ Mon s'.2.1 k ∧ (∀ j : Nat, j < m + 1 → 0 ≤ (ev_ s'.2.1 k j).inc ∧ (ev_ s'.2.1 k j).inc ≤ s'.2.2.1) ∧ ∀ i j : Nat, i ≤ j → j < m + 1 → (ev_ s'.2.1 k i).inc ≤ (ev_ s'.2.1 k j).inc) (fun t : Int × List (List Evt) => COk c t.1 ∧ LinI p.lens t.2 ∧ NoR t.2 ∧ Mon t.2 (k + 1)) o := fun u u0 u1 u2 => by
      simp only [make_Codes_Lineages_J3]
      rw [w64_id (i := (m : Int) + 1 - 1) (by omega) (by omega)]
      refine (Ok.at (by omega) (by omega)).bind fun r hr2 => ?_
      simp only [Int.toNat_natCast] at hr2
      rw [rl_some hr2] at hrow
      refine (Ok.at (by omega) (by omega)).bind fun e he => (Ok.set (by omega) (by omega)).bind fun r2 e2 => (Ok.set (by omega) (by omega)).bind fun l3 e3 => ?_
      rw [Int.toNat_natCast] at e3
      rw [show ((m : Int) + 1 - 1).toNat = m by omega] at he e2
      have hmr : m < r.length := by have := (List.getElem?_eq_some_iff.1 he).1; exact this
      have hev : ∀ q j, ev_ l3 q j = if q = k then (if j = m then { e with inc := u } else ev_ l2 k j) else ev_ l2 q j := fun q j => by
        rw [e3, ev_set2 (by omega)]
        split
        · rw [e2, getElem?_set' hmr]
          split
          · rfl
          · rw [ev_, hr2]; rfl
        · rfl
      have hrl3 : ∀ q, rl l3 q = rl l2 q := fun q => by
        rw [e3, rl_set (by omega)]; split
        · rename_i e5; rw [e5, rl_some hr2, e2]; simp
        · rfl
      refine Ok.ret ⟨by omega, hz, ?_, by simp only; rw [e3, e2]; exact gN.set (NoR.rset (gN.row hr2) (gN.row hr2 e (List.mem_of_getElem? he))), u0, by simp only; omega, by simp only; rw [w64_id (by omega) (by omega)]; omega, ?_, ?_, ?_⟩
      · simp only; rw [e3]
        exact g2.set (by omega) (by rw [e2, rl_some hr2]; simp)
      · intro q i j hq hij hj
        simp only at hj ⊢
        rw [hrl3] at hj
        rw [hev, hev, if_neg (by omega), if_neg (by omega)]
        exact g6 q i j hq hij hj
      · intro j hj
        simp only
        rw [hev, if_pos rfl]
        split
        · exact ⟨u0, Int.le_refl _⟩
        · have := g7 j (by omega); omega
      · intro i j hij hj
        simp only
        rw [hev, hev, if_pos rfl, if_pos rfl]
        by_cases e5 : j = m
        · rw [if_pos e5]
          split
          · exact Int.le_refl _
          · have := g7 i (by omega); simp only; omega
        · rw [if_neg e5, if_neg (by omega)]
          exact g8 i j hij (by omega)
    exact Ok.iteE (fun _ => key _ (by rw [w64_id (by omega) (by omega)]; omega) (by rw [w64_id (by omega) (by omega)]; omega) (by rw [w64_id (by omega) (by omega)]; omega)) fun _ => key _ g3 (by omega) (Int.le_refl _)
  · simp only at hj ⊢
    by_cases e : q = k
    · subst e
      exact ⟨(g7 i (by omega)).1, g8 i j hij (by omega)⟩
    · exact g6 q i j (by omega) hij hj
theorem lineages_h {fuel : Nat} {c : List Int} {i : Int} {m : Nat} (h : COk c i) (hm : m ≤ 1000) (hf : 1000000 < fuel) : Ok (make_Codes_Lineages fuel m c i) fun r => ∃ n : Nat, 2 ≤ n ∧ n ≤ 4 ∧ PatG n m r.2.1 ∧ LOK n r.2.1 r.1 ∧ COk c r.2.2 ∧ Mon r.1 n := by
  unfold make_Codes_Lineages
  refine (pattern_g h hm hf).bind fun r ⟨n, n1, n2, hp, hc⟩ => ?_
  refine (reduce_q (by have := hp.al; omega) hf hp).bind fun p ⟨hp', hg⟩ => ?_
  have hl := hp'.len
  refine (Ok.mk (by omega) (by omega)).bind fun x hx => ?_
  refine Ok.bind (Ok.for_ p.lens.length (fun k s => COk c s.1 ∧ s.2.1.length = p.lens.length ∧ (∀ j : Nat, j < k → 0 < nI s.2.1 j) ∧ s.2.2 = (k : Int)) (Q := fun t => COk c t.1 ∧ t.2.length = p.lens.length ∧ ∀ x ∈ t.2, 0 < x) ⟨hc, by rw [hx]; simp, by omega, rfl⟩ (by omega) ?_) fun t ⟨t1, t2, t3⟩ => ?_
  · rintro k ⟨i1, l, q⟩ hk ⟨h1, h2, h3, h4⟩
    simp only at h1 h2 h3 h4
    subst h4
    simp only [make_Codes_Lineages_B6]
    refine Ok.iteP (fun hlt => ?_) fun hlt => Ok.ret ⟨h1, h2, fun x hx => ?_⟩
    · refine (next_o h1 (by omega)).bind fun y ⟨y0, y1, hy⟩ => (Ok.at (by omega) (by omega)).bind fun z hz => (Ok.set (by omega) (by omega)).bind fun l2 e2 => Ok.ret ⟨by omega, hy, by simp only; rw [e2]; simp [h2], fun j hj => ?_, w64_nat (by omega)⟩
      simp only; rw [e2, nI_set (by omega) (by omega) (by omega)]
      split
      · rw [w64_id (by omega) (by omega)]; omega
      · exact h3 j (by omega)
    · obtain ⟨j, hj, e⟩ := List.getElem_of_mem hx
      have := h3 j (by simp only at hj; omega)
      simp only at hj e
      simp [nI, hj, e] at this
      exact this
  · simp only [make_Codes_Lineages_K1]
    refine (Ok.mk (by omega) (by omega)).bind fun y hy => ?_
    rw [Int.toNat_natCast] at hy
    subst hy
    have hr : ∀ x ∈ p.lens, 0 ≤ x ∧ x ≤ (m : Int) := hp'.rng
    refine (lin_build2 t1 (by omega) hr (by omega) (by omega) hf).bind fun u ⟨u1, u2, u3⟩ => ?_
    simp only [make_Codes_Lineages_K2]
    refine (lin_rise3 u1 u2 u3 t2 t3 (by omega) hr (by omega) (by omega) hf).bind fun v ⟨v1, v2, v3, v4⟩ => ?_
    simp only [make_Codes_Lineages_K3]
    refine ((lin_arcs2 v1 v2 v3 (fun a ha => ⟨hp'.arc a ha, hg a ha⟩) hl (by omega) hr (by omega) (by have := hp'.al; omega) hf).pc arcs_inc).bind fun w ⟨⟨w1, w2⟩, w3⟩ => ?_
    have hlok := w2.lok hp' hg
    refine Ok.ret ⟨n, n1, n2, hp', hlok, w1, fun q i j hq hij hj => ?_⟩
    simp only at hj ⊢
    rw [w3, w3]
    refine v4 q i j (by omega) hij ?_
    have a1 := hlok.row hq
    have a2 := v2.row q (by have := v2.len; omega)
    omega
end Go.Mine
