/- Recovery lines, plain: LineBrute. -/
import Derived.Test.YtdjkdbojmcdogaaP22d
set_option linter.unusedSimpArgs false
set_option linter.unusedVariables false
namespace Go.Mine
open Go.RowKit
/-- a cut as a number -/
def odo : List Int → Nat
  | [] => 0
  | a :: t => a.toNat + 16 * odo t
/-- the next cut -/
def nxt : List Int → List Int → Option (List Int)
  | l :: ls, a :: t => if a = l then (nxt ls t).map (0 :: ·) else some ((a + 1) :: t)
  | _, _ => none
def InC : List Int → List Int → Prop
  | l :: ls, a :: t => (0 ≤ a ∧ a ≤ l ∧ l ≤ 15) ∧ InC ls t
  | [], [] => True
  | _, _ => False
theorem nxt_cons {l a : Int} {ls t : List Int} : nxt (l :: ls) (a :: t) = if a = l then (nxt ls t).map (0 :: ·) else some ((a + 1) :: t) := by rw [nxt]
theorem set0_drop {k : Nat} {y : List Int} {v : Int} (h : k < y.length) : (y.drop k).set 0 v = v :: y.drop (k + 1) := by rw [List.drop_eq_getElem_cons h]; rfl
theorem odo_zero : ∀ n : Nat, odo (List.replicate n 0) = 0
  | 0 => rfl
  | n + 1 => by rw [List.replicate_succ]; simp [odo, odo_zero n]
theorem nxt_next : ∀ {ls y z : List Int}, InC ls y → InC ls z → odo y < odo z → ∃ y', nxt ls y = some y' ∧ odo y' ≤ odo z
  | [], [], [], _, _, h => by simp at h
  | l :: ls, a :: t, b :: u, hy, hz, h => by
    obtain ⟨h1, h2⟩ := hy
    obtain ⟨h3, h4⟩ := hz
    simp only [odo] at h
    unfold nxt
    by_cases e : a = l
    · rw [if_pos e]
      obtain ⟨t', h5, h6⟩ := nxt_next h2 h4 (by omega)
      exact ⟨0 :: t', by rw [h5]; rfl, by simp only [odo]; omega⟩
    · rw [if_neg e]
      exact ⟨_, rfl, by simp only [odo]; omega⟩
theorem nxt_in : ∀ {ls y y' : List Int}, InC ls y → nxt ls y = some y' → InC ls y' ∧ odo y < odo y'
  | [], [], y', _, h => by simp [nxt] at h
  | l :: ls, a :: t, y', hy, h => by
    obtain ⟨h1, h2⟩ := hy
    unfold nxt at h
    by_cases e : a = l
    · rw [if_pos e] at h
      cases h5 : nxt ls t with
      | none => rw [h5] at h; simp at h
      | some t' =>
        rw [h5] at h; simp at h; subst h
        obtain ⟨h6, h7⟩ := nxt_in h2 h5
        exact ⟨⟨by omega, h6⟩, by simp only [odo]; omega⟩
    · rw [if_neg e] at h; cases h
      exact ⟨⟨by omega, h2⟩, by simp only [odo]; omega⟩
theorem odo_inj : ∀ {ls y z : List Int}, InC ls y → InC ls z → odo y = odo z → y = z
  | [], [], [], _, _, _ => rfl
  | l :: ls, a :: t, b :: u, hy, hz, h => by
    obtain ⟨h1, h2⟩ := hy
    obtain ⟨h3, h4⟩ := hz
    simp only [odo] at h
    rw [odo_inj h2 h4 (by omega), show a = b by omega]
theorem odo_lt : ∀ {ls y : List Int}, InC ls y → odo y < 16 ^ y.length
  | [], [], _ => by simp [odo]
  | l :: ls, a :: t, hy => by
    have := odo_lt hy.2
    have := hy.1
    simp only [odo, List.length_cons, Nat.pow_succ]; omega
theorem InC_of : ∀ {ls y : List Int}, y.length = ls.length → (∀ q : Nat, q < ls.length → 0 ≤ nI y q ∧ nI y q ≤ nI ls q ∧ nI ls q ≤ 15) → InC ls y
  | [], [], _, _ => trivial
  | l :: ls, a :: t, h, h2 => by
    refine ⟨by have := h2 0 (by simp); simpa [nI] using this, InC_of (by simpa using h) fun q hq => ?_⟩
    have := h2 (q + 1) (by simp; omega)
    simpa [nI] using this
theorem InC.out : ∀ {ls y : List Int}, InC ls y → y.length = ls.length ∧ ∀ q : Nat, q < ls.length → 0 ≤ nI y q ∧ nI y q ≤ nI ls q
  | [], [], _ => ⟨rfl, fun q hq => by simp at hq⟩
  | l :: ls, a :: t, h => by
    obtain ⟨h1, h2⟩ := InC.out h.2
    refine ⟨by simp [h1], fun q hq => ?_⟩
    match q with
    | 0 => have := h.1; simp [nI]; omega
    | q + 1 => have := h2 q (by simpa using hq); simpa [nI] using this
theorem nxt_drop : ∀ {k : Nat} {ls y : List Int}, k ≤ y.length → k ≤ ls.length → y.take k = ls.take k → nxt ls y = (nxt (ls.drop k) (y.drop k)).map (List.replicate k 0 ++ ·)
  | 0, ls, y, _, _, _ => by simp
  | k + 1, l :: ls, a :: t, h1, h2, h => by
    simp at h
    have ih := nxt_drop (k := k) (ls := ls) (y := t) (by simpa using h1) (by simpa using h2) h.2
    rw [nxt_cons, if_pos h.1, ih, List.drop_succ_cons, List.drop_succ_cons, Option.map_map]
    rfl
theorem nxt_at {k : Nat} {ls y : List Int} (hl : y.length = ls.length) (hk : k < y.length) (h : y.take k = ls.take k) (hne : nI y k ≠ nI ls k) : nxt ls y = some ((List.replicate k 0 ++ y.drop k).set k (nI y k + 1)) := by
  rw [nxt_drop (by omega) (by omega) h, List.drop_eq_getElem_cons (by omega : k < ls.length), List.drop_eq_getElem_cons hk]
  rw [nI_get hk, nI_get (by omega)] at hne
  rw [nxt_cons, if_neg hne, nI_get hk, List.set_append_right _ _ (by simp)]
  simp
  exact (set0_drop hk).symm
theorem nxt_none {ls y : List Int} (hl : y.length = ls.length) (h : y.take y.length = ls.take y.length) : nxt ls y = none := by
  rw [nxt_drop (Nat.le_refl _) (by omega) h]
  simp [nxt]
theorem take_succ_eq {k : Nat} {ls y : List Int} (h1 : k < y.length) (h2 : k < ls.length) (h : y.take k = ls.take k) (he : nI y k = nI ls k) : y.take (k + 1) = ls.take (k + 1) := by
  rw [List.take_add_one, List.take_add_one, h, nI_get? h1, nI_get? h2, he]
/-- what has been seen -/
def Seen (T : List Int → Prop) (ls y : List Int) (b : Bool) : Prop := b = true ↔ ∃ z, InC ls z ∧ T z ∧ odo z < odo y
theorem Seen.yes {T : List Int → Prop} {ls y y' : List Int} {b : Bool} (hy : InC ls y) (hn : nxt ls y = some y') (ht : T y) : Seen T ls y' true := by
  refine ⟨fun _ => ⟨y, hy, ht, (nxt_in hy hn).2⟩, fun _ => rfl⟩
theorem Seen.no {T : List Int → Prop} {ls y y' : List Int} {b : Bool} (h : Seen T ls y b) (hy : InC ls y) (hn : nxt ls y = some y') (ht : ¬ T y) : Seen T ls y' b := by
  refine h.trans ⟨fun ⟨z, h1, h2, h3⟩ => ⟨z, h1, h2, by have := (nxt_in hy hn).2; omega⟩, fun ⟨z, h1, h2, h3⟩ => ⟨z, h1, h2, ?_⟩⟩
  rcases Nat.lt_trichotomy (odo z) (odo y) with h4 | h4 | h4
  · exact h4
  · have := odo_inj h1 hy h4; subst this; exact absurd h2 ht
  · obtain ⟨w, h5, h6⟩ := nxt_next hy h1 h4
    rw [hn] at h5; cases h5; omega
def SeenAll (T : List Int → Prop) (b : Bool) : Prop := b = true ↔ ∃ z, T z
theorem SeenAll.yes {T : List Int → Prop} {y : List Int} (ht : T y) : SeenAll T true := ⟨fun _ => ⟨y, ht⟩, fun _ => rfl⟩
theorem Seen.fin {T : List Int → Prop} {ls y : List Int} {b : Bool} (hT : ∀ z, T z → InC ls z) (h : Seen T ls y b) (hy : InC ls y) (hn : nxt ls y = none) (ht : ¬ T y) : SeenAll T b := by
  refine h.trans ⟨fun ⟨z, h1, h2, h3⟩ => ⟨z, h2⟩, fun ⟨z, h2⟩ => ⟨z, hT z h2, h2, ?_⟩⟩
  rcases Nat.lt_trichotomy (odo z) (odo y) with h4 | h4 | h4
  · exact h4
  · have := odo_inj (hT z h2) hy h4; subst this; exact absurd h2 ht
  · obtain ⟨w, h5, h6⟩ := nxt_next hy (hT z h2) h4
    rw [hn] at h5; cases h5
theorem brute_j {P : Pat × Int} {y : List Int} {s1 s2 : Bool} {fuel n : Nat} (hf : 1000000 < fuel) (hn : n ≤ 5) (hl : P.1.lens.length = n) (hyl : y.length = n) (hr : ∀ q : Nat, q < n → 0 ≤ nI y q ∧ nI y q ≤ 64) :
    law22_LineBrute_J1 fuel P y s1 s2 = some (match nxt P.1.lens y with | none => .inr (.inl (s1, s2)) | some y' => .inl (s1, s2, y')) := by
  unfold law22_LineBrute_J1
  refine Ok.eq ?_
  refine Ok.bind (Q := fun t => ∃ k : Nat, t.2 = (k : Int) ∧ k ≤ n ∧ t.1 = List.replicate k 0 ++ y.drop k ∧ y.take k = P.1.lens.take k ∧ (k < n → nI y k ≠ nI P.1.lens k)) (Ok.for_ n (fun k s => s.2 = (k : Int) ∧ s.1 = List.replicate k 0 ++ y.drop k ∧ y.take k = P.1.lens.take k) ⟨rfl, by simp, by simp⟩ (by omega) ?_) ?_
  · rintro k ⟨z, j⟩ hk ⟨hj, hz, ht⟩
    simp only at hj hz ht
    subst hj
    have hzl : z.length = n := by rw [hz]; simp; omega
    simp only [law22_LineBrute_B3]
    refine Ok.bind (Q := fun b => b = true ↔ (k < n ∧ nI y k = nI P.1.lens k)) (Ok.andM (fun e => ?_) (fun e => by simp at e; simp; omega)) fun b hb => ?_
    · simp at e
      have hzk : nI z k = nI y k := by
        rw [hz]; unfold nI; rw [Int.toNat_natCast, List.getElem?_append_right (by simp)]; simp
      rw [ati_nI (by omega) (by omega), ati_nI (by omega) (by omega), hzk]
      exact Ok.ret (by simp; omega)
    · refine Ok.ite (fun e => ?_) (fun e => Ok.ret ⟨k, rfl, hk, hz, ht, fun hkn h => ?_⟩)
      · obtain ⟨hkn, he⟩ := hb.1 e
        refine (Ok.at (by omega) (by omega)).bind fun _ _ => (Ok.set (by omega) (by omega)).bind fun w hw => Ok.ret ⟨hkn, w64_nat (by omega), ?_, take_succ_eq (by omega) (by omega) ht he⟩
        simp only
        rw [hw, hz, List.set_append_right _ _ (by simp), List.replicate_succ', List.append_assoc]
        congr 1
        rw [Int.toNat_natCast, List.length_replicate, Nat.sub_self, set0_drop (by omega)]
        rfl
      · have := hb.2 ⟨hkn, h⟩; rw [e] at this; cases this
  · rintro ⟨z, j⟩ ⟨k, hj, hk, hz, ht, hne⟩
    simp only at hj hz
    subst hj
    have hzl : z.length = n := by rw [hz]; simp; omega
    simp only [law22_LineBrute_K4]
    refine Ok.iteE (fun e => ?_) (fun e => ?_)
    · rw [nxt_none (by omega) (by rw [show y.length = k by omega]; exact ht)]; exact Ok.ret rfl
    · have hkn : k < n := by omega
      rw [nxt_at (by omega) (by omega) ht (hne hkn)]
      have hzk : nI z k = nI y k := by
        rw [hz]; unfold nI; rw [Int.toNat_natCast, List.getElem?_append_right (by simp)]; simp
      rw [ati_nI (by omega) (by omega)]
      simp only [Option.bind_some]
      have := hr k hkn
      rw [hzk, w64_id (by omega) (by omega)]
      exact (Ok.set (by omega) (by omega)).bind fun w hw => Ok.ret (by rw [hw, hz, Int.toNat_natCast])
theorem lineBrute {a0 a1 : List Int} (h0 : ∀ x ∈ a0, U8 x) (h1 : ∀ x ∈ a1, U8 x) : law22_LineBrute 10000000 a0 a1 = some true := by
  unfold law22_LineBrute
  rw [awake22, Option.bind_some]
  simp only [Bool.not_true, Bool.false_eq_true, if_false]
  refine Ok.eq ?_
  refine (Ok.new (by omega) (by omega) h0).bind fun r hr => (pattern_g hr (m := 9) (by omega) (by omega)).bind fun P ⟨n, hn2, hn4, hp, _⟩ => ?_
  have hrg : ∀ q : Nat, q < n → 0 ≤ nI P.1.lens q ∧ nI P.1.lens q ≤ 64 := fun q _ => by have := hp.nI_rng q; omega
  have hrg9 : ∀ q : Nat, q < n → 0 ≤ nI P.1.lens q ∧ nI P.1.lens q ≤ 9 := fun q _ => by have := hp.nI_rng q; omega
  have hal := hp.al
  refine (Ok.new (by omega) (by omega) h1).bind fun r2 hr2 => ?_
  simp only [show (⟨P.1.lens, P.1.ckpts, P.1.arcs⟩ : Pat) = P.1 from rfl]
  refine (allowed_g (n := n) hp.len (by omega) hrg (by omega) hr2).bind fun A ⟨hA, hc⟩ => (cut_g (n := n) hp.len (by omega) hrg (by omega) hc).bind fun x ⟨hx, _⟩ => ?_
  refine (greatest_g hp (by omega) (by omega) (by omega) hA).bind fun g hg => (least_g hp (by omega) (by omega) (by omega) hA hx).bind fun l hll => ?_
  have hl := hp.len; have hAl := hA.len; have hxl := hx.len
  rw [hl, mkL_nat (by omega), Option.bind_some]
  have toCut : ∀ z, AllC n A.1 z → CutG n P.1.lens z := fun z hz => ⟨hz.1, fun q hq => hA.rng q hq _ (hz.2 q hq)⟩
  have toIn : ∀ z, CutG n P.1.lens z → InC P.1.lens z := fun z hz => InC_of (by rw [hz.len, hl]) fun q hq => by have := hz.rng q (by omega); have := hrg9 q (by omega); omega
  have ofIn : ∀ z, InC P.1.lens z → CutG n P.1.lens z := fun z hz => ⟨by rw [hz.out.1, hl], fun q hq => hz.out.2 q (by omega)⟩
  have hT1 : ∀ z, (AllC n A.1 z ∧ Cons P.1.arcs z) → InC P.1.lens z := fun z hz => toIn z (toCut z hz.1)
  have hT2 : ∀ z, ((AllC n A.1 z ∧ Cons P.1.arcs z) ∧ Le x.1 z) → InC P.1.lens z := fun z hz => toIn z (toCut z hz.1.1)
  have hpow : 16 ^ n ≤ 65536 := by
    have : (16 : Nat) ^ n ≤ 16 ^ 4 := Nat.pow_le_pow_right (by omega) hn4
    simpa using this
  refine Ok.bind (Q := fun t => match t with | .inl s => SeenAll (fun z => AllC n A.1 z ∧ Cons P.1.arcs z) s.1 ∧ SeenAll (fun z => (AllC n A.1 z ∧ Cons P.1.arcs z) ∧ Le x.1 z) s.2 | .inr b => False)
    (Ok.run (m := 65536) (fun m s => m + odo s.2.2 = 65536 ∧ InC P.1.lens s.2.2 ∧ Seen (fun z => AllC n A.1 z ∧ Cons P.1.arcs z) P.1.lens s.2.2 s.1 ∧ Seen (fun z => (AllC n A.1 z ∧ Cons P.1.arcs z) ∧ Le x.1 z) P.1.lens s.2.2 s.2.1) ?_ (by omega) ?_) ?_
  · have h00 := odo_zero n
    refine ⟨by simp only; rw [h00], toIn _ ⟨by simp, fun q hq => ?_⟩, ?_, ?_⟩
    · have := hrg q hq
      rw [show nI (List.replicate n 0) q = 0 by simp [nI, hq]]; omega
    · simp [Seen, h00]
    · simp [Seen, h00]
  · rintro m ⟨s1, s2, y⟩ ⟨hm, hy, hs1, hs2⟩
    simp only at hm hy hs1 hs2
    have hyc := ofIn y hy
    have hyl := hyc.len
    have hylt := odo_lt hy
    rw [hyl] at hylt
    simp only [law22_LineBrute_B2]
    rw [show (⟨P.1.lens, P.1.ckpts, P.1.arcs⟩ : Pat) = P.1 from rfl, rcons_g (n := n) hp.arc (by omega) (by omega) hyl, Option.bind_some]
    refine Ok.bind (Q := fun b => b = true ↔ (AllC n A.1 y ∧ Cons P.1.arcs y)) (Ok.for_ n (fun k s => s.2 = (k : Int) ∧ (s.1 = true ↔ (Cons P.1.arcs y ∧ ∀ q : Nat, q < k → nI y q ∈ rwI A.1 q))) ⟨rfl, ?_⟩ (by omega) ?_) fun b hb => ?_
    · simp only; rw [consB_iff]; simp
    · rintro k ⟨b, j⟩ hk ⟨hj, hb⟩
      simp only at hj hb
      subst hj
      simp only [law22_LineBrute_B4]
      refine Ok.iteP (fun hkl => ?_) (fun hkl => Ok.ret ?_)
      · have hkn : k < n := by omega
        rw [ati_rw (by omega) (by omega), ati_nI (by omega) (by omega)]
        simp only [Option.bind_some]
        rw [in_g (hA.wid k hkn) (by omega)]
        simp only [Option.bind_some, andM_some]
        refine Ok.ret ⟨hkn, w64_nat (by omega), ?_⟩
        simp only [Bool.and_eq_true, decide_eq_true_eq, hb, and_assoc]
        refine and_congr_right fun _ => ⟨fun ⟨e1, e2⟩ q hq => ?_, fun e => ⟨fun q hq => e q (by omega), e k (by omega)⟩⟩
        rcases Nat.lt_succ_iff_lt_or_eq.1 hq with h9 | rfl
        · exact e1 q h9
        · exact e2
      · have e : k = n := by omega
        subst e
        simp only [Sum.elim_inr]
        rw [hb]
        exact ⟨fun ⟨e1, e2⟩ => ⟨⟨hyl, e2⟩, e1⟩, fun ⟨e1, e2⟩ => ⟨e2, e1.2⟩⟩
    · have hyr : ∀ q : Nat, q < n → 0 ≤ nI y q ∧ nI y q ≤ 64 := fun q hq => by have := hyc.rng q hq; have := hrg q hq; omega
      -- how the step ends
      have fin : ∀ t1 t2 : Bool, (∀ y', nxt P.1.lens y = some y' → Seen (fun z => AllC n A.1 z ∧ Cons P.1.arcs z) P.1.lens y' t1 ∧ Seen (fun z => (AllC n A.1 z ∧ Cons P.1.arcs z) ∧ Le x.1 z) P.1.lens y' t2) →
          (nxt P.1.lens y = none → SeenAll (fun z => AllC n A.1 z ∧ Cons P.1.arcs z) t1 ∧ SeenAll (fun z => (AllC n A.1 z ∧ Cons P.1.arcs z) ∧ Le x.1 z) t2) →
          Ok (law22_LineBrute_J1 10000000 P y t1 t2) fun o => Sum.elim (fun s' => ∃ m', m' < m ∧ m' + odo s'.2.2 = 65536 ∧ InC P.1.lens s'.2.2 ∧ Seen (fun z => AllC n A.1 z ∧ Cons P.1.arcs z) P.1.lens s'.2.2 s'.1 ∧ Seen (fun z => (AllC n A.1 z ∧ Cons P.1.arcs z) ∧ Le x.1 z) P.1.lens s'.2.2 s'.2.1) (fun t => match t with | .inl s => SeenAll (fun z => AllC n A.1 z ∧ Cons P.1.arcs z) s.1 ∧ SeenAll (fun z => (AllC n A.1 z ∧ Cons P.1.arcs z) ∧ Le x.1 z) s.2 | .inr b => False) o := by
        intro t1 t2 f1 f2
        rw [brute_j (by omega) (by omega) hl hyl hyr]
        cases hnx : nxt P.1.lens y with
        | none => exact Ok.ret (f2 hnx)
        | some y' =>
          have h5 := nxt_in hy hnx
          have h6 := odo_lt h5.1
          rw [h5.1.out.1, hl] at h6
          exact Ok.ret ⟨65536 - odo y', by omega, by simp only; omega, h5.1, f1 y' hnx⟩
      unfold law22_LineBrute_K3
      refine Ok.ite (fun e => ?_) (fun e => ?_)
      · obtain ⟨b1, b2⟩ := hb.1 e
        rcases hg with ⟨g0, g1, g2, g3⟩ | ⟨_, g4⟩
        · rw [g0, rmost_g (by have := g1.1; omega) (by omega) (by omega), leB_iff.2 (g3 y b1 b2)]
          simp only [Bool.not_true, orM_false, Option.bind_some, Bool.false_eq_true, if_false]
          rw [rmost_g (by omega) (by omega) (by omega), Option.bind_some]
          refine Ok.ite (fun e2 => ?_) (fun e2 => ?_)
          · have hle := leB_iff.1 e2
            rcases hll with ⟨l0, l1, l2, l3, l4⟩ | ⟨_, l5⟩
            · rw [l0, rmost_g (by have := l1.1; omega) (by have := l1.1; omega) (by omega), leB_iff.2 (l4 y b1 b2 hle)]
              simp only [Bool.not_true, orM_false, Option.bind_some, Bool.false_eq_true, if_false]
              exact fin true true (fun y' hn => ⟨Seen.yes (b := true) hy hn ⟨b1, b2⟩, Seen.yes (b := true) hy hn ⟨⟨b1, b2⟩, hle⟩⟩) (fun _ => ⟨SeenAll.yes ⟨b1, b2⟩, SeenAll.yes ⟨⟨b1, b2⟩, hle⟩⟩)
            · exact absurd b2 (l5 y b1 hle)
          · have hle := leB_not.1 e2
            exact fin true s2 (fun y' hn => ⟨Seen.yes (b := true) hy hn ⟨b1, b2⟩, hs2.no hy hn fun h => hle h.2⟩) (fun hn => ⟨SeenAll.yes ⟨b1, b2⟩, hs2.fin hT2 hy hn fun h => hle h.2⟩)
        · exact absurd b2 (g4 y b1)
      · have hnb : ¬ (AllC n A.1 y ∧ Cons P.1.arcs y) := fun h => by rw [hb.2 h] at e; cases e
        exact fin s1 s2 (fun y' hn => ⟨hs1.no hy hn hnb, hs2.no hy hn fun h => hnb h.1⟩) (fun hn => ⟨hs1.fin hT1 hy hn hnb, hs2.fin hT2 hy hn fun h => hnb h.1⟩)
  · rintro (⟨s1, s2⟩ | b) ht
    · obtain ⟨t1, t2⟩ := ht
      simp only at t1 t2
      simp only [Sum.elim_inl, law22_LineBrute_K1]
      have e1 : g.2 = s1 := by
        rcases hg with ⟨g0, g1, g2, g3⟩ | ⟨rfl, g4⟩
        · rw [g0]; exact (t1.2 ⟨_, g1, g2⟩).symm
        · cases s1 with
          | false => rfl
          | true => obtain ⟨z, z1, z2⟩ := t1.1 rfl; exact absurd z2 (g4 z z1)
      have e2 : l.2 = s2 := by
        rcases hll with ⟨l0, l1, l2, l3, l4⟩ | ⟨rfl, l5⟩
        · rw [l0]; exact (t2.2 ⟨_, ⟨l1, l2⟩, l3⟩).symm
        · cases s2 with
          | false => rfl
          | true => obtain ⟨z, ⟨z1, z2⟩, z3⟩ := t2.1 rfl; exact absurd z2 (l5 z z1 z3)
      rw [e1, e2]
      simp only [orM_some, Option.bind_some]
      rw [if_neg (by simp)]
      refine Ok.bind (Q := fun t => t = .inl ()) (Ok.for_ n (fun k s => s = (k : Int)) rfl (by omega) ?_) fun t ht => ?_
      · rintro k s hk rfl
        unfold law22_LineBrute_B1
        refine Ok.iteP (fun hkl => ?_) (fun _ => Ok.ret rfl)
        have hkn : k < n := by omega
        refine Ok.bind (Q := fun b => b = false) (Ok.andM (fun e => ?_) (fun _ => rfl)) fun b hb => ?_
        · rcases hg with ⟨g0, g1, g2, g3⟩ | ⟨rfl, g4⟩
          · rw [ati_rw (by omega) (by omega), ati_nI (by omega) (by have := g1.1; omega)]
            simp only [Option.bind_some]
            rw [in_g (hA.wid k hkn) (by omega), Option.bind_some]
            exact Ok.ret (by simp [g1.2 k hkn])
          · cases e
        · subst hb
          rw [orM_false]
          refine Ok.bind (Q := fun b => b = false) (Ok.bind (Q := fun b => b = false) (Ok.andM (fun e => ?_) (fun _ => rfl)) fun b hb => Ok.ret hb) fun b hb => ?_
          · rcases hll with ⟨l0, l1, l2, l3, l4⟩ | ⟨rfl, l5⟩
            · rw [ati_rw (by omega) (by omega), ati_nI (by omega) (by have := l1.1; omega)]
              simp only [Option.bind_some]
              rw [in_g (hA.wid k hkn) (by omega), Option.bind_some]
              rw [ati_nI (by omega) (by omega)]
              simp only [Option.bind_some, orM_some]
              refine Ok.ret ?_
              have := l3 k (by omega)
              simp [l1.2 k hkn]; omega
            · cases e
          · subst hb
            exact Ok.ret ⟨hkn, w64_nat (by omega)⟩
      · subst ht
        simp only [Sum.elim_inl, law22_LineBrute_K2]
        rw [show (⟨P.1.lens, P.1.ckpts, P.1.arcs⟩ : Pat) = P.1 from rfl]
        refine Ok.bind (Q := fun b => b = true) (Ok.orM (fun e => ?_) (fun _ => rfl)) fun b hb => ?_
        · rcases hg with ⟨g0, g1, g2, g3⟩ | ⟨rfl, g4⟩
          · rw [cons_g hp (by omega) (by omega) (by omega) (toCut _ g1), consB_iff.2 g2]; exact Ok.ret rfl
          · cases e
        · subst hb
          rw [andM_true]
          refine Ok.bind (Q := fun b => b = true) (Ok.bind (Q := fun b => b = true) (Ok.orM (fun e => ?_) (fun _ => rfl)) fun b hb => Ok.ret hb) fun b hb => Ok.ret hb
          rcases hll with ⟨l0, l1, l2, l3, l4⟩ | ⟨rfl, l5⟩
          · rw [cons_g hp (by omega) (by omega) (by omega) (toCut _ l1), consB_iff.2 l2]; exact Ok.ret rfl
          · cases e
    · exact ht.elim
end Go.Mine
