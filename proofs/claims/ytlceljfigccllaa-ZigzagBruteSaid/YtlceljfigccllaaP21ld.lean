/- ZigzagBrute, plain. -/
import Derived.Test.YtlceljfigccllaaA21ld
import Derived.Test.YtlceljfigccllaaP18r
import Derived.Test.YtlceljfigccllaaP21k
import Derived.Test.YtlceljfigccllaaP21n
set_option linter.unusedSimpArgs false
set_option linter.unusedVariables false
namespace Go.Mine
open Go.RowKit
/-! a counter with a digit for each process -/
def val : List Int → Int
  | [] => 0
  | a :: y => a + 11 * val y
theorem val_set : ∀ {y : List Int} {k : Nat} {v : Int}, k < y.length → val (y.set k v) = val y + (v - nI y k) * 11 ^ k
  | [], k, v, h => by simp at h
  | a :: y, 0, v, h => by simp [val, nI]; omega
  | a :: y, k + 1, v, h => by
    have ih := val_set (y := y) (k := k) (v := v) (by simpa using h)
    have e : nI (a :: y) ((k + 1 : Nat) : Int) = nI y k := by simp [nI]
    rw [e, List.set_cons_succ, val, val, ih, Int.pow_succ, Int.mul_add, ← Int.mul_assoc, Int.add_assoc]
    congr 2
    rw [Int.mul_comm 11 (v - nI y k), Int.mul_assoc, Int.mul_comm 11]
theorem val_rng : ∀ {y : List Int}, (∀ a ∈ y, 0 ≤ a ∧ a ≤ 10) → 0 ≤ val y ∧ val y + 1 ≤ 11 ^ y.length
  | [], h => by simp [val]
  | a :: y, h => by
    have ih := val_rng (y := y) fun b hb => h b (by simp [hb])
    have ha := h a (by simp)
    rw [val, List.length_cons, Int.pow_succ]
    omega
theorem val_zero : ∀ n : Nat, val (List.replicate n 0) = 0
  | 0 => rfl
  | n + 1 => by rw [List.replicate_succ, val, val_zero n]; rfl
theorem pow_pos' (k : Nat) : (1 : Int) ≤ 11 ^ k := by
  induction k with
  | zero => simp
  | succ k ih => rw [Int.pow_succ]; omega
theorem NumV.set {n : Nat} {p : Pat} {y : List Int} (hy : NumV n p y) {k : Nat} (hk : k < n) {v : Int} (h0 : 0 ≤ v) (h1 : v ≤ (ckR p k).length) : NumV n p (y.set k v) := by
  have hl := hy.1
  refine ⟨by simp [hl], fun j hj => ?_⟩
  have := nI_set (xs := y) (i := (k : Int)) (j := (j : Int)) (x := v) (by omega) (by omega) (by omega)
  rw [Int.toNat_natCast] at this
  rw [this]
  split
  · rename_i e; have : j = k := by omega
    subst this; exact ⟨h0, h1⟩
  · exact hy.2 j hj
theorem NumV.val {n : Nat} {p : Pat} {y : List Int} (hn : n ≤ 4) (hw : ∀ q, (ckR p q).length ≤ 10) (hy : NumV n p y) : 0 ≤ Go.Mine.val y ∧ Go.Mine.val y ≤ 14640 := by
  have hl := hy.1
  have := val_rng (y := y) fun a ha => by
    obtain ⟨i, hi, rfl⟩ := List.getElem_of_mem ha
    have := hy.2 i (by omega)
    rw [nI_get hi] at this
    have := hw i; omega
  have h4 : (11 : Int) ^ y.length ≤ 14641 := by
    rw [hl]
    have : n = 0 ∨ n = 1 ∨ n = 2 ∨ n = 3 ∨ n = 4 := by omega
    rcases this with rfl | rfl | rfl | rfl | rfl <;> decide
  omega
theorem zigzagBrute {a0 a1 : List Int} (h0 : ∀ x ∈ a0, U8 x) (h1 : ∀ x ∈ a1, U8 x) : law21_ZigzagBrute 10000000 a0 a1 = some true := by
  unfold law21_ZigzagBrute
  rw [awake21, Option.bind_some]
  simp only [Bool.not_true, Bool.false_eq_true, if_false]
  refine Ok.eq ?_
  refine (Ok.new (by omega) (by omega) h0).bind fun r hr => (pattern_g hr (m := 9) (by omega) (by omega)).bind fun P ⟨n, hn2, hn4, hp, _⟩ => ?_
  simp only [show (⟨P.1.lens, P.1.ckpts, P.1.arcs⟩ : Pat) = P.1 from rfl]
  refine (Ok.new (by omega) (by omega) h1).bind fun r2 hr2 => (ckpts_g hp (by omega) (by omega) hr2).bind fun L hL => ?_
  have hLl := hL.len; have hlen := hp.len; have hck := hp.ck
  have hw : ∀ q, (ckR P.1 q).length ≤ 10 := fun q => by have := hp.ckW q; omega
  refine (extension_g hp (by omega) (by omega) hL.vn (by omega)).bind fun x hx => ?_
  rw [hlen, mkL_nat (by omega), Option.bind_some]
  refine Ok.bind (Q := fun t => t = true) (Ok.run (fun m y => NumV n P.1 y ∧ (m : Int) + val y = 14641) (m := 14641) ⟨⟨by simp, fun q hq => ?_⟩, ?_⟩ (by omega) ?_) fun t ht => Ok.ret ht
  · have : nI (List.replicate n (0 : Int)) q = 0 := by simp [nI, hq]
    rw [this]; exact ⟨Int.le_refl _, by omega⟩
  · rw [val_zero]; rfl
  rintro m y ⟨hy, hm⟩
  have hyl := hy.1
  simp only [law21_ZigzagBrute_B1, show (⟨P.1.lens, P.1.ckpts, P.1.arcs⟩ : Pat) = P.1 from rfl]
  rw [rcut_g hp (by omega) (by omega) hy, Option.bind_some, rcons_g hp.arc (by have := hp.al; omega) (by omega) (by simp [cutOf]), Option.bind_some]
  refine Ok.bind (Q := fun b => b = true ↔ Good n P.1 L.1 y) (Ok.for_ L.1.length (fun k s => s.2 = (k : Int) ∧ (s.1 = true ↔ Cons P.1.arcs (cutOf n P.1 y) ∧ ∀ z ∈ L.1.take k, nI y z.proc = z.index)) ⟨rfl, by simp [consB_iff]⟩ (by omega) ?_) fun b hb => ?_
  · rintro k ⟨b, i⟩ hk ⟨hi, hb⟩
    simp only at hi hb
    subst hi
    simp only [law21_ZigzagBrute_B3]
    refine Ok.iteP (fun hkl => ?_) (fun hkl => Ok.ret ?_)
    · have hkl' : k < L.1.length := by omega
      have hv := hL.vn L.1[k] (List.getElem_mem _)
      rw [ati_get hkl', Option.bind_some, ati_nI hv.p0 (by have := hv.p1; omega), Option.bind_some, andM_some, Option.bind_some]
      refine Ok.ret ⟨hkl', w64_nat (by omega), ?_⟩
      simp only
      rw [Bool.and_eq_true, hb, beq_iff_eq]
      constructor
      · rintro ⟨⟨h5, h6⟩, h7⟩
        refine ⟨h5, fun z hz => ?_⟩
        rw [mem_take_succ', List.getElem?_eq_getElem hkl', Option.some.injEq] at hz
        rcases hz with h8 | rfl
        · exact h6 z h8
        · exact h7
      · rintro ⟨h5, h6⟩
        exact ⟨⟨h5, fun z hz => h6 z (mem_take_succ'.2 (.inl hz))⟩, h6 _ (mem_take_succ'.2 (.inr (List.getElem?_eq_getElem hkl')))⟩
    · rw [show k = L.1.length by omega, List.take_length] at hb
      simp only [Sum.elim_inr]
      rw [hb]
      exact ⟨fun h5 => ⟨hy, h5.1, h5.2⟩, fun h5 => ⟨h5.2.1, h5.2.2⟩⟩
  · simp only [law21_ZigzagBrute_K1]
    refine Ok.bind (Q := fun c => c = false) ?_ fun c hc => ?_
    · refine Ok.andM (fun hbt => ?_) (fun _ => rfl)
      have hg := hb.1 hbt
      rcases hx with ⟨e, hgx, hmax⟩ | ⟨e, hno⟩
      · have hxl := hgx.1.1
        rw [e, rmost_g (by omega) (by omega) (by omega), leB_iff.2 (hmax y hg)]
        exact Ok.ret rfl
      · exact absurd hg (hno y)
    · subst hc
      simp only [Bool.false_eq_true, if_false]
      refine Ok.bind (Q := fun t => ∃ q : Nat, t.2 = (q : Int) ∧ q ≤ n ∧ NumV n P.1 t.1 ∧ val y - val t.1 ≤ 11 ^ q - 1 ∧ (q < n → nI t.1 q ≠ (ckR P.1 q).length)) (Ok.for_ n (fun k s => s.2 = (k : Int) ∧ NumV n P.1 s.1 ∧ val y - val s.1 ≤ 11 ^ k - 1) ⟨rfl, hy, by simp⟩ (by omega) ?_) ?_
      · rintro k ⟨z, i⟩ hk ⟨hi, hz, hv⟩
        simp only at hi hz hv
        subst hi
        have hzl := hz.1
        simp only [law21_ZigzagBrute_B2]
        by_cases hkn : k < n
        · rw [show (decide ((k : Int) < (z.length : Int))) = true by simp; omega, andM_true, ati_nI (by omega) (by omega), Option.bind_some, ati_ck (by omega) (by omega), Option.bind_some, Option.bind_some]
          refine Ok.iteE (fun he => ?_) (fun hne => Ok.ret ⟨k, rfl, by omega, hz, hv, fun _ => hne⟩)
          rw [Option.bind_some]
          refine (Ok.set (by omega) (by omega)).bind fun z' hz' => Ok.ret ⟨hkn, w64_nat (by omega), ?_⟩
          rw [Int.toNat_natCast] at hz'
          subst hz'
          refine ⟨hz.set hkn (Int.le_refl _) (by omega), ?_⟩
          simp only
          rw [val_set (by omega), he, Int.pow_succ]
          have h10 := hw k
          have hpw := pow_pos' k
          have hmul : ((ckR P.1 k).length : Int) * 11 ^ k ≤ 10 * 11 ^ k := Int.mul_le_mul_of_nonneg_right (by omega) (by omega)
          rw [show ((0 : Int) - ((ckR P.1 k).length : Int)) * 11 ^ k = - (((ckR P.1 k).length : Int) * 11 ^ k) by rw [Int.zero_sub, Int.neg_mul]]
          omega
        · rw [show (decide ((k : Int) < (z.length : Int))) = false by simp; omega, andM_false, Option.bind_some]
          simp only [Bool.false_eq_true, if_false]
          exact Ok.ret ⟨k, rfl, hk, hz, hv, fun h5 => absurd h5 hkn⟩
      · rintro ⟨z, i⟩ ⟨q, hi, hqn, hz, hv, hne⟩
        simp only at hi hz hv hne
        subst hi
        have hzl := hz.1
        simp only [law21_ZigzagBrute_K2]
        refine Ok.iteE (fun _ => Ok.ret rfl) (fun h5 => ?_)
        have hqn' : q < n := by omega
        have hzq := hz.2 q hqn'
        have hne' := hne hqn'
        have h10 := hw q
        rw [ati_nI (by omega) (by omega), Option.bind_some, Option.bind_some, w64_id (by omega) (by omega)]
        refine (Ok.set (by omega) (by omega)).bind fun z' hz' => Ok.ret ?_
        rw [Int.toNat_natCast] at hz'
        have hz2 : NumV n P.1 z' := by rw [hz']; exact hz.set hqn' (by omega) (by omega)
        have hval : val z' = val z + 11 ^ q := by
          rw [hz', val_set (by omega), show nI z q + 1 - nI z q = 1 by omega, Int.one_mul]
        have hr := hz2.val (by omega) hw
        refine ⟨(14641 - val z').toNat, ?_, hz2, ?_⟩
        · omega
        · omega
end Go.Mine
