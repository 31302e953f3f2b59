/- Recovery lines, plain: LineMore and LineBrute. -/
import Derived.Test.YtdjkdbojmcdogaaP22c
set_option linter.unusedSimpArgs false
set_option linter.unusedVariables false
namespace Go.Mine
open Go.RowKit
theorem rwI_set {A : List (List Int)} {i j : Int} {r : List Int} (hi : 0 ≤ i) (h : i < A.length) (hj : 0 ≤ j) : rwI (A.set i.toNat r) j = if j = i then r else rwI A j := by
  unfold rwI
  rw [getElem?_set' (by omega)]
  by_cases e : j = i
  · subst e; simp
  · rw [if_neg (by omega), if_neg e]
/-- what is said of the rows that are put together -/
structure Uni (n k : Nat) (lens : List Int) (A C : List (List Int)) : Prop where
  len : C.length = n
  rng : ∀ q : Nat, q < n → ∀ y ∈ rwI C q, 0 ≤ y ∧ y ≤ nI lens q
  wid : ∀ q : Nat, q < n → (rwI C q).length ≤ 1000
  sub : ∀ q : Nat, q < k → ∀ y ∈ rwI A q, y ∈ rwI C q
  nil : ∀ q : Nat, k ≤ q → rwI C q = []
theorem lineMore {a0 a1 a2 : List Int} (h0 : ∀ x ∈ a0, U8 x) (h1 : ∀ x ∈ a1, U8 x) (h2 : ∀ x ∈ a2, U8 x) : law22_LineMore 10000000 a0 a1 a2 = some true := by
  unfold law22_LineMore
  rw [awake22, Option.bind_some]
  simp only [Bool.not_true, Bool.false_eq_true, if_false]
  refine Ok.eq ?_
  refine (Ok.new (by omega) (by omega) h0).bind fun r hr => (pattern_g hr (m := 20) (by omega) (by omega)).bind fun P ⟨n, hn2, hn4, hp, _⟩ => ?_
  have hrg : ∀ q : Nat, q < n → 0 ≤ nI P.1.lens q ∧ nI P.1.lens q ≤ 64 := fun q _ => by have := hp.nI_rng q; omega
  have hl := hp.len
  refine (Ok.new (by omega) (by omega) h1).bind fun r2 hr2 => ?_
  simp only [show (⟨P.1.lens, P.1.ckpts, P.1.arcs⟩ : Pat) = P.1 from rfl]
  refine (allowed_g (n := n) hp.len (by omega) hrg (by omega) hr2).bind fun A ⟨hA, hc⟩ => (Ok.new (by omega) (by omega) h2).bind fun r3 hr3 => (allowed_g (n := n) hp.len (by omega) hrg (by omega) hr3).bind fun A2 ⟨hA2, hc2⟩ => ?_
  rw [hl, mkL_nat (by omega), Option.bind_some]
  have hAl := hA.len; have hA2l := hA2.len
  refine Ok.bind (Q := Uni n n P.1.lens A.1) (Ok.for_ n (fun k s => s.2 = (k : Int) ∧ Uni n k P.1.lens A.1 s.1) ⟨rfl, by simp, fun q hq y hy => ?_, fun q hq => ?_, fun q hq => by omega, fun q hq => ?_⟩ (by omega) ?_) ?_
  · simp [rwI, hq] at hy
  · simp [rwI, hq]
  · unfold rwI; rw [Int.toNat_natCast]; rcases Nat.lt_or_ge q n with h | h
    · simp [h]
    · rw [List.getElem?_eq_none (by simpa using h)]; rfl
  · rintro k ⟨C, i⟩ hk ⟨hi, hU⟩
    simp only at hi hU
    subst hi
    simp only [law22_LineMore_B1, List.length_replicate]
    have hCl := hU.len
    refine Ok.iteP (fun hkn => ?_) (fun hkn => Ok.ret (by rw [show n = k by omega] at hU ⊢; exact hU))
    have hkn' : k < n := by omega
    have hrk := hrg k hkn'
    obtain ⟨m, hm⟩ := Int.eq_ofNat_of_zero_le hrk.1
    refine Ok.bind (Q := fun C' => Uni n (k + 1) P.1.lens A.1 C') (Ok.for_ (m + 1) (fun k' s => s.2 = (k' : Int) ∧ s.1.length = n ∧ (∀ q : Nat, q ≠ k → rwI s.1 q = rwI C q) ∧ (rwI s.1 k).length ≤ k' ∧ (∀ y ∈ rwI s.1 k, 0 ≤ y ∧ y ≤ nI P.1.lens k) ∧ ∀ y ∈ rwI A.1 k, y < (k' : Int) → y ∈ rwI s.1 k) ⟨rfl, hCl, fun q _ => rfl, ?_, ?_, fun y hy h => ?_⟩ (by omega) ?_) fun C' hC' => ?_
    · rw [hU.nil k (by omega)]; simp
    · rw [hU.nil k (by omega)]; simp
    · have := (hA.rng k hkn' y hy).1; omega
    · rintro k' ⟨D, j⟩ hk' ⟨hj, d1, d2, d3, d4, d5⟩
      simp only at hj d1 d2 d3 d4 d5
      subst hj
      simp only [law22_LineMore_B2]
      rw [ati_nI (by omega) (by omega), ati_rw (A := A.1) (by omega) (by omega), ati_rw (A := A2.1) (by omega) (by omega)]
      simp only [Option.bind_some]
      rw [in_g (hA.wid k hkn') (by omega), in_g (hA2.wid k hkn') (by omega)]
      simp only [Option.bind_some, orM_some]
      refine Ok.iteP (fun hkm => ?_) (fun hkm => Ok.ret ?_)
      · refine Ok.ite (fun hin => ?_) (fun hin => Ok.ret ⟨by omega, w64_nat (by omega), d1, d2, by simp only; omega, d4, fun y hy h => ?_⟩)
        · rw [ati_rw (by omega) (by omega), Option.bind_some]
          refine (Ok.snoc (by omega)).bind fun z hz => (Ok.set (by omega) (by omega)).bind fun E hE => ?_
          subst hE
          refine (Ok.at (by omega) (by simp; omega)).bind fun _ _ => ?_
          have hrw : ∀ q : Nat, rwI (D.set (k : Int).toNat z) q = if (q : Int) = k then z else rwI D q := fun q => rwI_set (by omega) (by omega) (by omega)
          have hrk' : rwI (D.set (k : Int).toNat z) k = z := by rw [hrw]; simp
          refine Ok.ret ⟨by omega, w64_nat (by omega), by simp [d1], fun q hq => ?_, ?_, ?_, ?_⟩
          · simp only; rw [hrw, if_neg (by omega)]; exact d2 q hq
          · simp only; rw [hrk', hz]; simp; omega
          · simp only; rw [hrk', hz]; intro y hy
            rcases List.mem_append.1 hy with h | h
            · exact d4 y h
            · simp at h; omega
          · simp only; rw [hrk', hz]; intro y hy h
            rw [List.mem_append]
            rcases Int.lt_or_le y k' with h3 | h3
            · exact .inl (d5 y hy h3)
            · exact .inr (by simp; omega)
        · refine d5 y hy ?_
          simp at hin
          rcases Int.lt_or_le y k' with h3 | h3
          · exact h3
          · exact absurd (show (k' : Int) ∈ rwI A.1 k by rw [show (k' : Int) = y by omega]; exact hy) hin.1
      · refine ⟨d1, fun q hq => ?_, fun q hq => ?_, fun q hq => ?_, fun q hq => ?_⟩
        · by_cases e : q = k
          · subst e; exact d4
          · rw [d2 q e]; exact hU.rng q hq
        · by_cases e : q = k
          · subst e; omega
          · rw [d2 q e]; exact hU.wid q hq
        · by_cases e : q = k
          · subst e; intro y hy; exact d5 y hy (by have := (hA.rng q hkn' y hy).2; omega)
          · rw [d2 q e]; exact hU.sub q (by omega)
        · rw [d2 q (by omega)]; exact hU.nil q (by omega)
    · exact Ok.ret ⟨by omega, w64_nat (by omega), hC'⟩
  · intro C hC
    have hAC : AG n P.1.lens C := ⟨hC.len, hC.rng, hC.wid⟩
    unfold law22_LineMore_K1
    refine (greatest_g hp (by omega) (by omega) (by omega) hA).bind fun g hg => (greatest_g hp (by omega) (by omega) (by omega) hAC).bind fun g2 hg2 => ?_
    refine Ok.bind (Q := fun b => b = true) (Ok.orM (fun e => ?_) (fun _ => rfl)) fun b hb => Ok.ret hb
    simp at e
    rcases hg with ⟨_, g1, g2', g3⟩ | ⟨rfl, _⟩
    · have hall : AllC n C g.1 := ⟨g1.1, fun q hq => hC.sub q hq _ (g1.2 q hq)⟩
      rcases hg2 with ⟨k0, k1, k2, k3⟩ | ⟨_, k4⟩
      · rw [k0, andM_true, most_g (by have := g1.1; have := k1.1; omega) (by have := g1.1; omega) (by omega), leB_iff.2 (k3 _ hall g2')]
        exact Ok.ret rfl
      · exact absurd g2' (k4 _ hall)
    · simp at e
end Go.Mine
