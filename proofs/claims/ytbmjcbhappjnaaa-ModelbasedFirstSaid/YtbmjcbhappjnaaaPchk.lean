/- pattern.Check, plain: a good pattern has no error. -/
import Derived.Test.YtbmjcbhappjnaaaA16
import Derived.Test.YtbmjcbhappjnaaaPpat
set_option linter.unusedSimpArgs false
set_option linter.unusedVariables false
namespace Go.Mine
open Go.RowKit
theorem process_g {fuel : Nat} {p : Pat} {q : Int} : pattern_process fuel p q = some (decide (0 ≤ q) && decide (q < (p.lens.length : Int))) := by
  unfold pattern_process; simp [andM_some]
theorem asc_g {fuel : Nat} {r : List Int} {x : Int} (h : CkG r x) (hl : r.length ≤ 1000) (hf : 1000000 < fuel) : pattern_ascending fuel r x = some true := by
  unfold pattern_ascending
  have hp := h.pos
  obtain ⟨h0, h1⟩ := List.getElem?_eq_some_iff.1 h.zero
  refine Ok.eq ?_
  refine Ok.bind (Q := fun b => b = false) (Ok.orM (fun _ => ?_) (fun hc => by simp at hc; subst hc; simp at hp)) fun b hb => ?_
  · have : ati r 0 = some 0 := by
      have := ati_get h0; rw [h1] at this; exact this
    rw [this]; exact Ok.ret rfl
  · subst hb
    rw [w64_id (by omega) (by omega)]
    refine Ok.bind (Q := fun b => b = false) (Ok.orM (fun _ => ?_) (fun hc => by cases hc)) fun b hb => ?_
    · refine (Ok.at (by omega) (by omega)).bind fun y hy => Ok.ret ?_
      have := h.le y (List.mem_of_getElem? hy)
      simp; omega
    · subst hb
      rw [if_neg (by simp)]
      refine Ok.bind (Q := fun t => t = .inl ()) (Ok.run (fun m s => ∃ k : Nat, s = (k : Int) ∧ 1 ≤ k ∧ k ≤ r.length ∧ m + k = r.length) (m := r.length - 1) ⟨1, rfl, Nat.le_refl _, by omega, by omega⟩ (by omega) ?_) fun t ht => by subst ht; exact Ok.ret rfl
      rintro m s ⟨k, rfl, hk1, hk2, hmk⟩
      unfold pattern_ascending_B1
      refine Ok.iteP (fun hk => ?_) (fun hk => Ok.ret rfl)
      have hkl : k < r.length := by omega
      rw [ati_get hkl, Option.bind_some, w64_id (by omega) (by omega), show (k : Int) - 1 = ((k - 1 : Nat) : Int) by omega, ati_get (by omega), Option.bind_some, w64_nat (by omega)]
      have := List.pairwise_iff_getElem.1 h.asc (k - 1) k (by omega) hkl (by omega)
      refine Ok.iteP (fun hc => by omega) (fun hc => Ok.ret ⟨m - 1, by omega, k + 1, rfl, by omega, by omega, by omega⟩)
theorem inRange_g {fuel : Nat} {p : Pat} {n : Nat} {a : Arc} (hn : p.lens.length = n) (h : ArcG n p.lens a) : pattern_inRange fuel p a = some true := by
  unfold pattern_inRange
  obtain ⟨h1, h2, h3, h4, h5⟩ := h
  simp only [process_g, Option.bind_some, orM_some]
  have e1 : (!(decide (0 ≤ a.fr) && decide (a.fr < (p.lens.length : Int))) || !(decide (0 ≤ a.to) && decide (a.to < (p.lens.length : Int))) || (a.fr == a.to)) = false := by simp; omega
  rw [e1, if_neg (by simp)]
  refine Ok.eq ?_
  refine Ok.bind (Q := fun b => b = true) (Ok.andM (fun _ => ?_) (fun hc => by simp at hc; omega)) fun b hb => ?_
  · refine (Ok.at h1.1 (by omega)).bind fun y hy => Ok.ret ?_
    rw [← nI_some hy]; simpa using h4.2
  · subst hb
    simp only [andM_some, Option.bind_some]
    refine Ok.bind (Q := fun b => b = true) (Ok.andM (fun _ => ?_) (fun hc => by simp at hc; omega)) fun b hb => Ok.ret hb
    refine (Ok.at h2.1 (by omega)).bind fun y hy => Ok.ret ?_
    rw [← nI_some hy]; simpa using h5.2
/-- which arc an event received -/
def RecG (arcs : List Arc) (m : Nat) (rec : List Int) : Prop := rec.length = 325 ∧ ∀ (q k : Nat) (x : Int), k < 65 → rec[q * 65 + k]? = some x → x = 0 ∨ ∃ (i : Nat) (a : Arc), i < m ∧ arcs[i]? = some a ∧ a.to = q ∧ a.rcv = k ∧ a.rcv ≠ 0 ∧ x = (i : Int) + 1
theorem bnd_ok {i : Int} {n : Nat} (h0 : 0 ≤ i) (h1 : i < n) : bnd i n = some i.toNat := by unfold bnd; rw [if_pos ⟨h0, h1⟩]
theorem flat_ix {q k : Nat} : ix (ix 0 q 65) k 1 = q * 65 + k := by rw [ix_eq, ix_eq]; omega
theorem visit_zero {fuel d : Nat} {q : Int} {rec lens : List Int} {ck : List (List Int)} {arcs : List Arc} {m : List Int} : visit_R fuel (d + 1) q 0 rec lens ck arcs m = some (true, m) := by
  unfold visit_R visit_F
  rw [show ((0 : Int) == 0) = true from rfl, orM_true]; rfl
theorem visit_g {fuel : Nat} {n B : Nat} {p : Pat} (h : PatG n B p) (hn : n ≤ 5) (hB : B ≤ 64) {ρ : Int → Int → Nat} (hρ : RankG n B p.lens p.arcs ρ) {rec : List Int} (hrec : RecG p.arcs p.arcs.length rec) :
    ∀ (r d : Nat) (q k : Int) (m : List Int), r + 2 ≤ d → 0 ≤ q → q < n → 1 ≤ k → k ≤ nI p.lens q → ρ q k ≤ r → m.length = 325 → (∀ (q' k' : Nat), k' < 65 → m[q' * 65 + k']? = some 1 → ρ q k < ρ q' k') →
      Ok (visit_R fuel d q k rec p.lens p.ckpts p.arcs m) fun t => t.1 = true ∧ t.2.length = 325 ∧ ∀ (j : Nat), t.2[j]? = some 1 → m[j]? = some 1 := by
  intro r
  induction r with
  | zero =>
    intro d q k m hd h0 h1 h2 h3 h4 h5 h6
    exact step h hn hB hρ hrec 0 (fun r' hr' => absurd hr' (Nat.not_lt_zero r')) d q k m hd h0 h1 h2 h3 h4 h5 h6
  | succ r ih =>
    intro d q k m hd h0 h1 h2 h3 h4 h5 h6
    exact step h hn hB hρ hrec (r + 1) (fun r' hr' d' q' k' m' a1 a2 a3 a4 a5 a6 a7 a8 => ih d' q' k' m' (by omega) a2 a3 a4 a5 (by omega) a7 a8) d q k m hd h0 h1 h2 h3 h4 h5 h6
where
  step {fuel : Nat} {n B : Nat} {p : Pat} (h : PatG n B p) (hn : n ≤ 5) (hB : B ≤ 64) {ρ : Int → Int → Nat} (hρ : RankG n B p.lens p.arcs ρ) {rec : List Int} (hrec : RecG p.arcs p.arcs.length rec) (r : Nat)
      (ih : ∀ r', r' < r → ∀ (d : Nat) (q k : Int) (m : List Int), r + 1 ≤ d → 0 ≤ q → q < n → 1 ≤ k → k ≤ nI p.lens q → ρ q k ≤ r' → m.length = 325 → (∀ (q' k' : Nat), k' < 65 → m[q' * 65 + k']? = some 1 → ρ q k < ρ q' k') →
        Ok (visit_R fuel d q k rec p.lens p.ckpts p.arcs m) fun t => t.1 = true ∧ t.2.length = 325 ∧ ∀ (j : Nat), t.2[j]? = some 1 → m[j]? = some 1)
      (d : Nat) (q k : Int) (m : List Int) (hd : r + 2 ≤ d) (h0 : 0 ≤ q) (h1 : q < n) (h2 : 1 ≤ k) (h3 : k ≤ nI p.lens q) (h4 : ρ q k ≤ r) (h5 : m.length = 325) (h6 : ∀ (q' k' : Nat), k' < 65 → m[q' * 65 + k']? = some 1 → ρ q k < ρ q' k') :
      Ok (visit_R fuel d q k rec p.lens p.ckpts p.arcs m) fun t => t.1 = true ∧ t.2.length = 325 ∧ ∀ (j : Nat), t.2[j]? = some 1 → m[j]? = some 1 := by
    obtain ⟨d, rfl⟩ : ∃ e, d = e + 1 := ⟨d - 1, by omega⟩
    have hk64 := (h.nI_rng q).2
    obtain ⟨q, rfl⟩ := Int.eq_ofNat_of_zero_le h0
    obtain ⟨k, rfl⟩ := Int.eq_ofNat_of_zero_le (show (0 : Int) ≤ k by omega)
    have b1 : bnd (q : Int) 5 = some q := by rw [bnd_ok h0 (by omega)]; simp
    have b2 : bnd (k : Int) 65 = some k := by rw [bnd_ok (by omega) (by omega)]; simp
    have hfl : q * 65 + k < 325 := by omega
    have hinj : ∀ (q' k' : Nat), k' < 65 → q' * 65 + k' = q * 65 + k → q' = q ∧ k' = k := fun q' k' _ _ => by omega
    -- the visit of another event: it ends at once, or it has a lower rank
    have sub : ∀ (q2 k2 : Int) (m1 : List Int), 0 ≤ q2 → q2 < n → 0 ≤ k2 → k2 ≤ nI p.lens q2 → (k2 ≠ 0 → ρ q2 k2 < ρ q k) → m1.length = 325 → (∀ (q' k' : Nat), k' < 65 → m1[q' * 65 + k']? = some 1 → ρ q k ≤ ρ q' k') →
        Ok (visit_R fuel d q2 k2 rec p.lens p.ckpts p.arcs m1) fun t => t.1 = true ∧ t.2.length = 325 ∧ ∀ (j : Nat), t.2[j]? = some 1 → m1[j]? = some 1 := fun q2 k2 m1 g0 g1 g2 g3 g4 g5 g6 => by
      by_cases e : k2 = 0
      · subst e
        obtain ⟨d', rfl⟩ : ∃ e, d = e + 1 := ⟨d - 1, by omega⟩
        rw [visit_zero]
        exact Ok.ret ⟨rfl, g5, fun j hj => hj⟩
      · have := g4 e
        exact ih (ρ q2 k2) (by omega) d q2 k2 m1 (by omega) g0 g1 (by omega) g3 (Nat.le_refl _) g5 fun q' k' a1 a2 => by have := g6 q' k' a1 a2; omega
    have hne1 : ∀ x, m[q * 65 + k]? = some x → x ≠ 1 := fun x hx e => by subst e; have := h6 q k (by omega) hx; omega
    unfold visit_R visit_F
    rw [show ((k : Int) == 0) = false by simp; omega, orM_false]
    simp only [b1, b2, Option.bind_some, flat_ix]
    refine Ok.bind (Q := fun b => True) ((Ok.at (by omega) (by omega)).bind fun x hx => Ok.ret trivial) fun b _ => Ok.ite (fun _ => Ok.ret ⟨rfl, h5, fun j hj => hj⟩) fun _ => ?_
    refine (Ok.at (by omega) (by omega)).bind fun x hx => ?_
    rw [Int.toNat_natCast] at hx
    rw [if_neg (by have := hne1 x hx; simpa using this)]
    refine (Ok.set (by omega) (by omega)).bind fun m1 hm1 => ?_
    rw [Int.toNat_natCast] at hm1
    subst hm1
    have g6 : ∀ (q' k' : Nat), k' < 65 → (m.set (q * 65 + k) 1)[q' * 65 + k']? = some 1 → ρ q k ≤ ρ q' k' := fun q' k' a1 a2 => by
      rw [getElem?_set' (by omega)] at a2
      split at a2
      · rename_i e; obtain ⟨rfl, rfl⟩ := hinj q' k' a1 e; exact Nat.le_refl _
      · have := h6 q' k' a1 a2; omega
    rw [w64_id (by omega) (by omega)]
    refine (sub q ((k : Int) - 1) _ h0 h1 (by omega) (by omega) (fun e => by have := hρ.up (q : Int) ((k : Int) - 1) h0 h1 (by omega) (by omega); rwa [show (k : Int) - 1 + 1 = k by omega] at this) (by simp [h5]) g6).bind fun t ⟨t1, t2, t3⟩ => ?_
    refine (Ok.at (by omega) (by have := hrec.1; omega)).bind fun y hy => ?_
    rw [Int.toNat_natCast] at hy
    have hfin : ∀ (m2 : List Int) (b : Bool), b = true → m2.length = 325 → (∀ (j : Nat), m2[j]? = some 1 → (m.set (q * 65 + k) 1)[j]? = some 1) → Ok (visit_J1 fuel (visit_R fuel d) q k m2 b) fun t => t.1 = true ∧ t.2.length = 325 ∧ ∀ (j : Nat), t.2[j]? = some 1 → m[j]? = some 1 := fun m2 b hb hl h9 => by
      unfold visit_J1
      simp only [b1, b2, Option.bind_some, flat_ix]
      refine (Ok.set (by omega) (by omega)).bind fun m3 hm3 => Ok.ret ⟨hb, ?_, fun j hj => ?_⟩
      · subst hm3; simp [hl]
      · subst hm3
        rw [Int.toNat_natCast] at hj
        simp only at hj
        rw [getElem?_set' (by omega)] at hj
        split at hj
        · cases hj
        · rename_i e
          have := h9 j hj
          rw [getElem?_set' (by omega), if_neg e] at this; exact this
    rw [t1]
    simp only [andM_some, Bool.true_and, Option.bind_some]
    refine Ok.iteP (fun hy0 => ?_) (fun _ => hfin t.2 true rfl t2 t3)
    rcases hrec.2 q k y (by omega) hy with rfl | ⟨i, a, hi, ha, hto, hrc, hrn, rfl⟩
    · omega
    · rw [w64_id (by have := (List.getElem?_eq_some_iff.1 ha).1; have := h.al; omega) (by have := (List.getElem?_eq_some_iff.1 ha).1; have := h.al; omega), show (i : Int) + 1 - 1 = (i : Int) by omega, ati_cast, ha, Option.bind_some]
      have hag := h.arc a (List.mem_of_getElem? ha)
      refine (sub a.fr a.ix t.2 hag.fr.1 hag.fr.2 hag.ix.1 hag.ix.2 (fun e => by have := hρ.arc a (List.mem_of_getElem? ha) hrn e; rwa [hto, hrc] at this) t2 fun q' k' a1 a2 => g6 q' k' a1 (t3 _ a2)).bind fun t' ⟨u1, u2, u3⟩ => ?_
      exact hfin t'.2 t'.1 u1 u2 fun j hj => t3 j (u3 j hj)
theorem ordered_g {fuel : Nat} {n B : Nat} {p : Pat} (h : PatG n B p) (hn : n ≤ 5) (hB : B ≤ 64) (hf : 1000000 < fuel) {rec : List Int} (hrec : RecG p.arcs p.arcs.length rec) : pattern_ordered fuel p rec = some true := by
  obtain ⟨ρ, hρ⟩ := h.rank
  have hl := h.len
  unfold pattern_ordered
  refine Ok.eq ?_
  refine Ok.bind (Q := fun t => t = .inl ()) (Ok.for_ n (fun k s => s.2 = (k : Int) ∧ s.1.length = 325 ∧ ∀ (j : Nat), s.1[j]? ≠ some 1) ⟨rfl, List.length_replicate, fun j hj => by have := List.eq_of_mem_replicate (List.mem_of_getElem? (show (List.replicate 325 (0 : Int))[j]? = some 1 from hj)); omega⟩ (by omega) ?_) fun t ht => by subst ht; exact Ok.ret rfl
  rintro k ⟨m, i⟩ hk ⟨hi, hm, h1⟩
  simp only at hi hm h1
  subst hi
  simp only [pattern_ordered_B1]
  refine Ok.iteP (fun hkl => ?_) (fun _ => Ok.ret rfl)
  refine (Ok.at (by omega) hkl).bind fun x hx => ?_
  have hxn := nI_some hx
  have hx0 := h.rng x (List.mem_of_getElem? hx)
  have hv : Ok (visit fuel (k : Int) x rec p.lens p.ckpts p.arcs m) fun t => t.1 = true ∧ t.2.length = 325 ∧ ∀ (j : Nat), t.2[j]? ≠ some 1 := by
    unfold visit
    by_cases e : x = 0
    · subst e
      obtain ⟨d, rfl⟩ : ∃ e, fuel = e + 1 := ⟨fuel - 1, by omega⟩
      rw [visit_zero]
      exact Ok.ret ⟨rfl, hm, h1⟩
    · refine (visit_g h hn hB hρ hrec B fuel (k : Int) x m (by omega) (by omega) (by omega) (by omega) (by omega) (hρ.top _ _) hm (fun q' k' _ a2 => absurd a2 (h1 _))).mono fun t ⟨t1, t2, t3⟩ => ⟨t1, t2, fun j hj => h1 j (t3 j hj)⟩
  refine hv.bind fun t ⟨t1, t2, t3⟩ => ?_
  rw [t1]
  rw [if_neg (by simp)]
  exact Ok.ret ⟨by omega, w64_nat (by omega), t2, t3⟩
theorem check_g {fuel : Nat} {n B : Nat} {p : Pat} (h : PatG n B p) (hn : n ≤ 5) (hB : B ≤ 64) (hf : 1000000 < fuel) : pattern_Check fuel p = some 0 := by
  have hl := h.len; have hk := h.ck; have hal := h.al
  unfold pattern_Check
  simp only [orM_some, Option.bind_some]
  rw [if_neg (by simp; omega), if_neg (by simp; omega)]
  refine Ok.eq ?_
  refine Ok.bind (Q := fun t => t = .inl ()) (Ok.for_ n (fun k s => s = (k : Int)) rfl (by omega) ?_) fun t ht => ?_
  · rintro k s hk2 rfl
    unfold pattern_Check_B3
    refine Ok.iteP (fun hkl => ?_) (fun _ => Ok.ret rfl)
    refine (Ok.at (by omega) hkl).bind fun x hx => ?_
    have := h.rng x (List.mem_of_getElem? hx)
    simp only [orM_some, Option.bind_some]
    rw [if_neg (by simp; omega)]
    exact Ok.ret ⟨by omega, w64_nat (by omega)⟩
  subst ht
  simp only [Sum.elim_inl, pattern_Check_K1]
  refine Ok.bind (Q := fun t => t = .inl ()) (Ok.for_ n (fun k s => s = (k : Int)) rfl (by omega) ?_) fun t ht => ?_
  · rintro k s hk2 rfl
    unfold pattern_Check_B2
    refine Ok.iteP (fun hkl => ?_) (fun _ => Ok.ret rfl)
    refine (Ok.at (by omega) hkl).bind fun r hr => (Ok.at (by omega) (by omega)).bind fun x hx => ?_
    rw [Int.toNat_natCast] at hr hx
    rw [asc_g (h.row k r x hr hx) (by have := h.wid r (List.mem_of_getElem? hr); omega) hf, Option.bind_some, if_neg (by simp)]
    exact Ok.ret ⟨by omega, w64_nat (by omega)⟩
  subst ht
  simp only [Sum.elim_inl, pattern_Check_K2]
  refine Ok.bind (Q := fun t => ∃ rec, t = .inl rec ∧ RecG p.arcs p.arcs.length rec) (Ok.for_ p.arcs.length (fun k s => s.2 = (k : Int) ∧ RecG p.arcs k s.1) ⟨rfl, List.length_replicate, fun q k x _ hx => .inl (List.eq_of_mem_replicate (List.mem_of_getElem? (show (List.replicate 325 (0 : Int))[q * 65 + k]? = some x from hx)))⟩ (by omega) ?_) ?_
  · rintro k ⟨rec, i⟩ hk2 ⟨hi, hr1, hr2⟩
    simp only at hi hr1 hr2
    subst hi
    simp only [pattern_Check_B1]
    refine Ok.iteP (fun hkl => ?_) (fun hkl => by
      have e : k = p.arcs.length := by omega
      subst e
      exact Ok.ret ⟨rec, rfl, hr1, hr2⟩)
    refine (Ok.at (by omega) hkl).bind fun a ha => ?_
    rw [Int.toNat_natCast] at ha
    have hag := h.arc a (List.mem_of_getElem? ha)
    rw [inRange_g (p := ⟨p.lens, p.ckpts, p.arcs⟩) hl hag, Option.bind_some, if_neg (by simp)]
    have hkl2 : k < p.arcs.length := by omega
    refine Ok.iteE (fun e => Ok.ret ⟨hkl2, w64_nat (by omega), hr1, fun q k' x hk' hx => ?_⟩) fun e => ?_
    · rcases hr2 q k' x hk' hx with h5 | ⟨i, b, h5, h6⟩
      · exact .inl h5
      · exact .inr ⟨i, b, by omega, h6⟩
    · have hto := hag.to; have hrv := hag.rcv
      have h64 := (h.nI_rng a.to).2
      obtain ⟨qt, hqt⟩ := Int.eq_ofNat_of_zero_le hto.1
      obtain ⟨kt, hkt⟩ := Int.eq_ofNat_of_zero_le hrv.1
      have b1 : bnd a.to 5 = some qt := by rw [bnd_ok hto.1 (by omega), hqt]; simp
      have b2 : bnd a.rcv 65 = some kt := by rw [bnd_ok hrv.1 (by omega), hkt]; simp
      simp only [b1, b2, Option.bind_some, flat_ix]
      refine (Ok.at (by omega) (by omega)).bind fun x hx => ?_
      rw [Int.toNat_natCast] at hx
      have hx0 : x = 0 := by
        rcases hr2 qt kt x (by omega) hx with h5 | ⟨i, b, h5, h6, h7, h8, h9, _⟩
        · exact h5
        · exfalso
          obtain ⟨hi, rfl⟩ := List.getElem?_eq_some_iff.1 h6
          obtain ⟨hk3, rfl⟩ := List.getElem?_eq_some_iff.1 ha
          exact List.pairwise_iff_getElem.1 h.uniq i k hi hk3 h5 h9 ⟨by omega, by omega⟩
      subst hx0
      rw [if_neg (by simp)]
      refine (Ok.set (by omega) (by omega)).bind fun rec' hrec' => Ok.ret ⟨hkl2, w64_nat (by omega), ?_⟩
      rw [Int.toNat_natCast, w64_nat (by omega)] at hrec'
      subst hrec'
      refine ⟨by simp [hr1], fun q k' y hk' hy => ?_⟩
      simp only at hy
      rw [getElem?_set' (by omega)] at hy
      split at hy
      · rename_i e2
        have : q = qt ∧ k' = kt := by omega
        obtain ⟨rfl, rfl⟩ := this
        cases hy
        exact .inr ⟨k, a, by omega, ha, hqt, hkt, e, by omega⟩
      · rcases hr2 q k' y hk' hy with h5 | ⟨i, b, h5, h6⟩
        · exact .inl h5
        · exact .inr ⟨i, b, by omega, h6⟩
  · rintro t ⟨rec, rfl, hrec⟩
    simp only [Sum.elim_inl, pattern_Check_K3]
    rw [show (⟨p.lens, p.ckpts, p.arcs⟩ : Pat) = p from rfl, ordered_g h hn hB hf hrec, Option.bind_some, if_neg (by simp)]
    exact Ok.ret rfl
end Go.Mine
