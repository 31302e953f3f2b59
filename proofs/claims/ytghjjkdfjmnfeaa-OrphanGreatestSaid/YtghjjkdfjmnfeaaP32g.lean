/- Chapter 32, plain: 'Lower' is the greatest, by trying every cut. -/
import Derived.Test.YtghjjkdfjmnfeaaP32f
set_option linter.unusedSimpArgs false
set_option linter.unusedVariables false
namespace Go.Mine
open Go.RowKit
/-- a cut as a number -/
def valC : List Int → Nat
  | [] => 0
  | a :: t => a.toNat + 16 * valC t
theorem nI_cons {a : Int} {t : List Int} {j : Nat} : nI (a :: t) ((j + 1 : Nat) : Int) = nI t j := by simp [nI]
theorem nI_zero {a : Int} {t : List Int} : nI (a :: t) ((0 : Nat) : Int) = a := by simp [nI]
theorem ext_nI {y z : List Int} (h : y.length = z.length) (h2 : ∀ j : Nat, j < y.length → nI y j = nI z j) : y = z :=
  List.ext_getElem h fun i a b => by rw [nI_get a, nI_get b]; exact h2 i a
theorem valC_lt : ∀ (y z : List Int) (k : Nat), y.length = z.length → k < y.length → (∀ j : Nat, j < k → 0 ≤ nI y j ∧ nI y j ≤ 15) → nI z k = nI y k + 1 → 0 ≤ nI y k → (∀ j : Nat, k < j → nI z j = nI y j) → valC y < valC z
  | [], _, _, _, h, _, _, _, _ => by simp at h
  | _ :: _, [], _, h, _, _, _, _, _ => by simp at h
  | a :: t, b :: u, 0, h, _, _, h1, h0, h2 => by
    rw [nI_zero] at h1 h0
    rw [nI_zero] at h1
    have : t = u := ext_nI (by simpa using h) fun j hj => by have := h2 (j + 1) (by omega); rw [nI_cons, nI_cons] at this; exact this.symm
    subst this
    simp only [valC]; omega
  | a :: t, b :: u, k + 1, h, hk, hb, h1, h0, h2 => by
    have ih := valC_lt t u k (by simpa using h) (by simpa using hk) (fun j hj => by have := hb (j + 1) (by omega); rwa [nI_cons] at this) (by rw [nI_cons, nI_cons] at h1; exact h1) (by rwa [nI_cons] at h0) (fun j hj => by have := h2 (j + 1) (by omega); rwa [nI_cons, nI_cons] at this)
    have ha := hb 0 (by omega)
    rw [nI_zero] at ha
    simp only [valC]; omega
theorem valC_bound : ∀ (y : List Int), (∀ j : Nat, j < y.length → nI y j ≤ 15) → valC y < 16 ^ y.length
  | [], _ => by simp [valC]
  | a :: t, h => by
    have ih := valC_bound t fun j hj => by have := h (j + 1) (by simp; omega); rwa [nI_cons] at this
    have ha := h 0 (by simp)
    rw [nI_zero] at ha
    simp only [valC, List.length_cons, Nat.pow_succ]; omega
theorem greatest_j {l : List (List Evt)} {x : List Int} {i : Int} {lens : List Int} {n : Nat} (hl : LinI lens l) (hn : lens.length = n) (hn4 : n ≤ 4) (hr : ∀ y ∈ lens, 0 ≤ y ∧ y ≤ ((14 : Nat) : Int)) (hx : x.length = n) (hxr : ∀ j : Nat, j < n → 0 ≤ nI x j ∧ nI x j ≤ nI lens j) : law32_OrphanGreatest_J1 10000000 (x, i) l = some true := by
  have hs : Small l := hl.small (B := ((14 : Nat) : Int)) (by omega) hr (by omega) (by omega)
  have hll := hl.len
  refine Ok.eq ?_
  unfold law32_OrphanGreatest_J1
  refine (lower_o hs (by simp only; omega) (by omega)).bind fun best hb => ?_
  have hbl := hb.cons.1
  simp only at hb
  refine Ok.bind (Q := fun b => b = false) (Ok.orM (fun h => ?_) fun h => ?_) fun b hb2 => ?_
  · refine (cons_o hs (by omega)).bind fun b hb3 => Ok.ret ?_
    rw [hb3.2 hb.cons]; rfl
  · simp at h; omega
  · subst hb2
    rw [if_neg (by simp)]
    refine (Ok.mk (by omega) (by simp only; omega)).bind fun y0 hy0 => ?_
    rw [Int.toNat_natCast] at hy0
    simp only at hy0
    have hx15 : ∀ j : Nat, j < n → nI x j ≤ 14 := fun j hj => by
      have h1 := hxr j hj
      have h2 := (nI_nonneg (i := (j : Int)) hr (by omega)).2
      omega
    have hcl : ∀ j, j < l.length → clampI l x j = nI x j := fun j hj => by
      have h1 := hxr j (by omega)
      have h2 := hl.row j hj
      unfold clampI; rw [if_pos (by omega)]; omega
    have hp : 16 ^ n ≤ 65536 := by
      have : (16 : Nat) ^ n ≤ 16 ^ 4 := Nat.pow_le_pow_right (by omega) hn4
      simpa using this
    refine Ok.bind (Ok.run (fun m y => y.length = n ∧ (∀ j : Nat, j < n → 0 ≤ nI y j ∧ nI y j ≤ nI x j) ∧ m + valC y = 65536) (Q := fun b => b = true) (m := 65536 - valC y0) ⟨by rw [hy0]; simp [hx], fun j hj => ?_, ?_⟩ (by omega) ?_) fun t ht => Ok.ret ht
    · have h1 := hxr j hj
      have : nI y0 j = 0 := by rw [hy0]; simp [nI, hx, hj]
      omega
    · have : valC y0 ≤ 65536 := by
        have := valC_bound y0 fun j hj => by
          have : nI y0 j = 0 := by rw [hy0] at hj ⊢; simp at hj; simp [nI, hj]
          omega
        rw [show y0.length = n by rw [hy0]; simp [hx]] at this
        omega
      omega
    · rintro m y ⟨hyl, hyr, hm⟩
      have hvb : valC y < 16 ^ y.length := valC_bound y fun j hj => by have := hyr j (by omega); have := hx15 j (by omega); omega
      -- the next cut
      have next : Ok (law32_OrphanGreatest_J2 10000000 (x, i) y) fun o => Sum.elim (fun s' => ∃ m', m' < m ∧ s'.length = n ∧ (∀ j : Nat, j < n → 0 ≤ nI s' j ∧ nI s' j ≤ nI x j) ∧ m' + valC s' = 65536) (fun b => b = true) o := by
        unfold law32_OrphanGreatest_J2
        refine Ok.bind (Ok.for_ n (fun k s => s.2 = (k : Int) ∧ s.1.length = n ∧ (∀ j : Nat, j < k → nI s.1 j = 0 ∧ nI y j = nI x j) ∧ ∀ j : Nat, k ≤ j → nI s.1 j = nI y j) (Q := fun t => ∃ k : Nat, t.2 = (k : Int) ∧ k ≤ n ∧ t.1.length = n ∧ (∀ j : Nat, j < k → nI t.1 j = 0 ∧ nI y j = nI x j) ∧ (∀ j : Nat, k ≤ j → nI t.1 j = nI y j) ∧ (k < n → nI y k ≠ nI x k)) ⟨rfl, hyl, by omega, by intro j _; rfl⟩ (by omega) ?_) ?_
        · rintro k ⟨z, q⟩ hk ⟨rfl, h1, h2, h3⟩
          simp only at h1 h2 h3
          simp only [law32_OrphanGreatest_B2]
          refine Ok.bind (Q := fun b => b = true ↔ (k < n ∧ nI y k = nI x k)) (Ok.andM (fun hb => ?_) fun hb => ?_) fun b hb => Ok.ite (fun hc => ?_) fun hc => Ok.ret ⟨k, rfl, hk, h1, h2, h3, fun hkn e => ?_⟩
          · simp at hb
            refine (Ok.at (by omega) (by omega)).bind fun a ha => (Ok.at (by omega) (by omega)).bind fun c hc => Ok.ret ?_
            have e1 : nI z k = a := nI_some ha
            have e2 : nI x k = c := nI_some hc
            rw [h3 k (by omega)] at e1
            rw [e1, e2]; simp; omega
          · simp at hb
            simp; omega
          · have hkn := (hb.1 hc).1
            refine (Ok.at (by omega) (by omega)).bind fun a ha => (Ok.set (by omega) (by omega)).bind fun z2 hz2 => Ok.ret ⟨hkn, w64_nat (by omega), by rw [hz2]; simp [h1], fun j hj => ?_, fun j hj => ?_⟩
            · simp only; rw [hz2, nI_set (by omega) (by omega) (by omega)]
              by_cases e : j = k
              · subst e; rw [if_pos rfl]; exact ⟨rfl, (hb.1 hc).2⟩
              · rw [if_neg (by omega)]; exact h2 j (by omega)
            · simp only; rw [hz2, nI_set (by omega) (by omega) (by omega), if_neg (by omega)]; exact h3 j (by omega)
          · rw [hb.2 ⟨hkn, e⟩] at hc; cases hc
        · rintro ⟨z, q⟩ ⟨k, e1, e2, e3, e4, e5, e6⟩
          simp only at e1 e3 e4 e5
          subst e1
          simp only [law32_OrphanGreatest_K1]
          refine Ok.iteE (fun _ => Ok.ret rfl) fun hne => ?_
          have hkn : k < n := by omega
          refine (Ok.at (by omega) (by omega)).bind fun a ha => (Ok.at (by omega) (by omega)).bind fun _ _ => (Ok.set (by omega) (by omega)).bind fun z2 hz2 => Ok.ret ?_
          have ea : nI y k = a := by rw [← e5 k (by omega)]; exact nI_some ha
          have hyk := hyr k hkn
          have hxk := hx15 k hkn
          have hne2 := e6 hkn
          rw [w64_id (by omega) (by omega)] at hz2
          have hz : ∀ j : Nat, nI z2 j = if j = k then a + 1 else nI z j := fun j => by
            rw [hz2, nI_set (by omega) (by omega) (by omega)]
            by_cases e : j = k
            · subst e; simp
            · rw [if_neg e, if_neg (by omega)]
          have hz2l : z2.length = n := by rw [hz2]; simp [e3]
          have hzr : ∀ j : Nat, j < n → 0 ≤ nI z2 j ∧ nI z2 j ≤ nI x j := fun j hj => by
            rw [hz]
            have hxj := hxr j hj
            split
            · rename_i e; subst e; omega
            · by_cases e9 : j < k
              · rw [(e4 j e9).1]; omega
              · rw [e5 j (by omega)]; exact hyr j hj
          have hv : valC y < valC z2 := valC_lt y z2 k (by omega) (by omega) (fun j hj => by have := hyr j (by omega); have := hx15 j (by omega); omega) (by rw [hz, if_pos rfl, ea]) (by omega) (fun j hj => by rw [hz, if_neg (by omega)]; exact e5 j (by omega))
          have hvb2 : valC z2 < 16 ^ z2.length := valC_bound z2 fun j hj => by have := hzr j (by omega); have := hx15 j (by omega); omega
          rw [hz2l] at hvb2
          exact ⟨65536 - valC z2, by omega, hz2l, hzr, by omega⟩
      unfold law32_OrphanGreatest_B1
      refine (rcons_o hs (by omega)).bind fun b hb2 => Ok.ite (fun hc => ?_) fun _ => next
      have hcy := hb2.1 hc
      have htop := hb.top y hcy fun j hj => by rw [hcl j hj]; exact (hyr j (by omega)).2
      refine Ok.bind (Ok.for_ n (fun k s => s = (k : Int)) (Q := fun t => Sum.elim (fun _ => True) (fun _ => False) t) rfl (by omega) ?_) ?_
      · rintro k s hk rfl
        simp only [law32_OrphanGreatest_B3]
        refine Ok.iteP (fun hlt => ?_) fun hlt => Ok.ret trivial
        refine (Ok.at (by omega) (by omega)).bind fun a ha => (Ok.at (by omega) (by omega)).bind fun c hc2 => ?_
        have e1 : nI y k = a := nI_some ha
        have e2 : nI best k = c := nI_some hc2
        have := htop k (by omega)
        exact Ok.iteP (fun h => by omega) fun _ => Ok.ret ⟨by omega, w64_nat (by omega)⟩
      · rintro t ht
        cases t with
        | inr u => exact ht.elim
        | inl u => exact next
theorem greatest_ok {c : List Int} (hc : ∀ x ∈ c, U8 x) : law32_OrphanGreatest 10000000 c = some true := by
  refine Ok.eq ?_
  unfold law32_OrphanGreatest
  rw [awake32, Option.bind_some, if_neg (by simp)]
  obtain ⟨d, e0, h0⟩ := new_ok (fuel := 10000000) (n := 60) (by omega) (by omega) hc
  rw [e0, Option.bind_some]
  refine (lineages_o (m := 14) h0 (by omega) (by omega)).bind fun r ⟨n, n1, n2, hp, hl, hc1⟩ => ?_
  have hlen := hp.len
  refine (cut_o (p := ⟨r.2.1.lens, r.2.1.ckpts, r.2.1.arcs⟩) (B := ((14 : Nat) : Int)) hc1 (by simp only; omega) hp.rng (by omega) (by omega) (by omega)).bind fun x ⟨x1, x2, hc2⟩ => (next_o hc2 (by omega)).bind fun z ⟨_, _, hz⟩ => ?_
  simp only at x1 x2
  refine Ok.iteE (fun _ => ?_) fun _ => ?_
  · refine (spoil_o hz hl (by rw [hl.len]; omega)).bind fun y ⟨y1, y2⟩ => ?_
    rw [greatest_j (x := x.1) (i := x.2) y1 hlen n2 hp.rng (by omega) (fun j hj => x2 j (by omega))]
    exact Ok.ret rfl
  · rw [greatest_j (x := x.1) (i := x.2) hl hlen n2 hp.rng (by omega) (fun j hj => x2 j (by omega))]
    exact Ok.ret rfl
end Go.Mine
