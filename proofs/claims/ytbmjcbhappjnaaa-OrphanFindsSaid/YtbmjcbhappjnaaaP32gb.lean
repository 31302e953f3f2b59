/- Chapter 32, plain: OrphanFinds, the law. -/
import Derived.Test.YtbmjcbhappjnaaaP32ga
import Derived.Test.YtbmjcbhappjnaaaP32v
import Derived.Test.YtbmjcbhappjnaaaP31b
import Derived.Test.YtbmjcbhappjnaaaA32f
set_option linter.unusedSimpArgs false
set_option linter.unusedVariables false
namespace Go.Mine
open Go.RowKit
/-- the label of an index -/
def labOf (l : List (List Evt)) (i : Nat) (j : Int) : Lab := if j = 0 then zl else ⟨(ev_ l i (j.toNat - 1)).inc, j⟩
def labV (l : List (List Evt)) (c : List Int) : List Lab := (List.range c.length).map fun i => labOf l i (nI c i)
theorem labV_len {l : List (List Evt)} {c : List Int} : (labV l c).length = c.length := by simp [labV]
theorem labV_get {l : List (List Evt)} {c : List Int} {i : Nat} (h : i < c.length) : (labV l c)[i]? = some (labOf l i (nI c i)) := by simp [labV, h]
theorem atL_labV {l : List (List Evt)} {c : List Int} {i : Nat} (h : i < c.length) : atL (labV l c) i = labOf l i (nI c i) := by rw [atL, labV_get h]; rfl
theorem labV_set {l : List (List Evt)} {c : List Int} {q k : Nat} (hq : q < c.length) : (labV l c).set q ⟨(ev_ l q k).inc, ((k + 1 : Nat) : Int)⟩ = labV l (c.set q ((k + 1 : Nat) : Int)) := by
  refine List.ext_getElem? fun i => ?_
  by_cases hi : i < c.length
  · rw [labV_get (by simpa using hi), getElem?_set' (by rw [labV_len]; exact hq), labV_get hi]
    have := nI_set (xs := c) (i := (q : Int)) (j := (i : Int)) (x := ((k + 1 : Nat) : Int)) (by omega) (by omega) (by omega)
    rw [Int.toNat_natCast] at this
    rw [this]
    by_cases e : i = q
    · subst e; rw [if_pos rfl, if_pos rfl, labOf, if_neg (by omega)]; simp
    · rw [if_neg e, if_neg (by omega)]
  · rw [List.getElem?_eq_none (by simp [labV_len]; omega), List.getElem?_eq_none (by simp [labV_len]; omega)]
theorem gtrL {l : List (List Evt)} {n i : Nat} {a b : Int} (hM : Mon l n) (hi : i < n) (a0 : 0 ≤ a) (a1 : a ≤ rl l i) (b0 : 0 ≤ b) (b1 : b ≤ rl l i) : gtr (labOf l i a) (labOf l i b) = labOf l i (max a b) := by
  have key : ∀ a b : Int, 0 ≤ a → a < b → b ≤ rl l i → bef (labOf l i a) (labOf l i b) = true := fun a b a0 hab b1 => by
    have hb := hM i (b.toNat - 1) (b.toNat - 1) hi (Nat.le_refl _) (by omega)
    unfold bef labOf
    rw [if_neg (show ¬ b = 0 by omega)]
    split
    · rw [Bool.or_eq_true, Bool.and_eq_true, beq_iff_eq, decide_eq_true_eq, decide_eq_true_eq]; simp only [zl]; omega
    · have := hM i (a.toNat - 1) (b.toNat - 1) hi (by omega) (by omega)
      rw [Bool.or_eq_true, Bool.and_eq_true, beq_iff_eq, decide_eq_true_eq, decide_eq_true_eq]; simp only; omega
  have asym : ∀ x y : Lab, bef x y = true → bef y x = false := fun x y h => by
    unfold bef at *; simp at *; omega
  rcases Int.lt_trichotomy a b with h | h | h
  · rw [Int.max_eq_right (by omega), gtr, if_pos (key a b a0 h b1)]
  · subst h; rw [Int.max_self, gtr]; split <;> rfl
  · rw [Int.max_eq_left (by omega), gtr, if_neg (by rw [asym _ _ (key b a b0 h a1)]; simp)]
theorem mergeV {l : List (List Evt)} {n : Nat} {c d : List Int} (hM : Mon l n) (hc : c.length = n) (hd : d.length = n) (h1 : ∀ s : Nat, s < n → 0 ≤ nI c s ∧ nI c s ≤ rl l s) (h2 : ∀ s : Nat, s < n → 0 ≤ nI d s ∧ nI d s ≤ rl l s) : mergeL (labV l c) (labV l d) = labV l ((List.range c.length).map fun (s : Nat) => max (nI c s) (nI d s)) := by
  refine List.ext_getElem (by simp [mergeL, labV_len, hc, hd]) fun i g1 g2 => ?_
  have hi : i < n := by simp [labV_len, hc] at g2; exact g2
  simp only [mergeL, List.getElem_map, List.getElem_range]
  rw [atL_labV (by omega), atL_labV (by omega), gtrL hM hi (h1 i hi).1 (h1 i hi).2 (h2 i hi).1 (h2 i hi).2]
  simp [labV, nI, hi, hc]
theorem ClkS.bound {n B : Nat} {p : Pat} {l : List (List Evt)} (h : PatG n B p) (hL : LOK n p l) {q k : Int} {c : List Int} (hc : ClkS n p.arcs q k c) (hk : k ≤ nI p.lens q) : ∀ s : Nat, s < n → 0 ≤ nI c s ∧ nI c s ≤ rl l s := fun s hs => by
  obtain ⟨ρ, hρ⟩ := h.rank
  have h1 := hc.2 s hs
  refine ⟨h1.1, ?_⟩
  rcases Int.lt_or_le (nI c s) 1 with h5 | h5
  · omega
  · have := ((h1.2.2 h5).rank h hρ h5 (by omega) (by omega) hk).2
    have := hL.row hs; omega
theorem hd_lab {n B : Nat} {p : Pat} {l : List (List Evt)} (h : PatG n B p) (hL : LOK n p l) (hM : Mon l n) {hh q k : Nat} {v : List Lab} (hd : Hd l hh q k v) : q < n → ∃ c, ClkS n p.arcs q k c ∧ v = labV l c := by
  have hll := hL.ll
  obtain ⟨ρ, hρ⟩ := h.rank
  induction hd with
  | zero _ =>
    intro hq
    refine ⟨_, ClkS.zero h, ?_⟩
    refine List.ext_getElem (by simp [labV_len, hll]) fun i h1 h2 => ?_
    have hi : i < n := by simp [hll] at h1; exact h1
    simp [labV, labOf, nI, hi]
  | @tick hh q k v _ h1 h2 ih =>
    intro hq
    obtain ⟨c, hc, rfl⟩ := ih hq
    exact ⟨_, hd_tick h hL hq h1 h2 hc, labV_set (by rw [hc.1]; exact hq)⟩
  | @recv hh q k v u _ h1 h2 _ ih1 ih2 =>
    intro hq
    obtain ⟨c, hc, rfl⟩ := ih1 hq
    have hrow := hL.row hq
    obtain ⟨a, ha, a1, a2, a3, a4, _⟩ := hL.r1 q k hq (by omega) h2
    have hag := h.arc a ha
    have f0 := hag.fr.1; have f1 := hag.fr.2; have x0 := hag.ix.1
    obtain ⟨d, hdc, rfl⟩ := ih2 (by rw [a3]; omega)
    rw [a3, a4, Int.toNat_of_nonneg f0, Int.toNat_of_nonneg x0] at hdc
    have hcl := hc.1; have hdl := hdc.1
    have hcb := hc.bound h hL (by omega)
    have hdb := hdc.bound h hL hag.ix.2
    have hset : ∀ s : Nat, nI (c.set q ((k + 1 : Nat) : Int)) s = if (s : Int) = q then ((k + 1 : Nat) : Int) else nI c s := fun s => by
      have := nI_set (xs := c) (i := (q : Int)) (j := (s : Int)) (x := ((k + 1 : Nat) : Int)) (by omega) (by omega) (by omega)
      rw [Int.toNat_natCast] at this; exact this
    have hsb : ∀ s : Nat, s < n → 0 ≤ nI (c.set q ((k + 1 : Nat) : Int)) s ∧ nI (c.set q ((k + 1 : Nat) : Int)) s ≤ rl l s := fun s hs => by
      rw [hset]
      split
      · rename_i e
        have : s = q := by omega
        subst this; omega
      · exact hcb s hs
    refine ⟨_, ClkS.step h (c1 := c) (c2 := d) (by omega) (by omega) (by omega) (by omega) (by rw [show ((k + 1 : Nat) : Int) - 1 = k by omega]; exact hc) (.inl ⟨a, ha, by omega, a1, by omega, hdc⟩) ?_ fun s hs => ?_, by rw [labV_set (by omega), mergeV hM (by simp [hcl]) hdl hsb hdb]⟩
    · simp [hcl]
    · have : nI ((List.range (c.set q ((k + 1 : Nat) : Int)).length).map fun (s : Nat) => max (nI (c.set q ((k + 1 : Nat) : Int)) s) (nI d s)) s = max (nI (c.set q ((k + 1 : Nat) : Int)) s) (nI d s) := by simp [nI, (show s < c.length by omega)]
      rw [this, hset]
      split
      · rename_i e
        have hds := hdc.2 s hs
        rcases Int.lt_or_le (nI d s) 1 with h5 | h5
        · omega
        · have hb : Hb p.arcs s (nI d s) q ((k + 1 : Nat) : Int) := by rw [← a1]; exact .arc ha (by omega) (by omega) (hds.2.2 h5)
          rw [e] at hb
          have := hb.self h hρ (by rw [← e]; exact h5) (by omega) (by omega) (by omega) (by omega)
          rw [← e] at this; omega
      · rfl
theorem Hb.trans {arcs : List Arc} {a : Arc} (ha : a ∈ arcs) (hr : a.rcv ≠ 0) {j s k : Int} (hb : Hb arcs a.to j s k) (hj : a.rcv ≤ j) : Hb arcs a.fr a.ix s k := by
  induction hb with
  | same h1 => exact .arc ha hr (by omega) (.same (Int.le_refl _))
  | arc h1 h2 h3 _ ih => exact .arc h1 h2 h3 ih
theorem Hb.cut {arcs : List Arc} {y : List Int} (hy : Cons arcs y) {i j s k : Int} (hb : Hb arcs i j s k) : k ≤ nI y s → j ≤ nI y i := by
  induction hb with
  | same h1 => intro h; omega
  | @arc a k ha h2 h3 _ ih =>
    intro h
    have := orph_not.1 (hy a ha)
    exact ih (by omega)
theorem ClkS.cons {n B : Nat} {p : Pat} (h : PatG n B p) {q k : Int} {c : List Int} (hc : ClkS n p.arcs q k c) : Cons p.arcs c := fun a ha => orph_not.2 fun ⟨h1, h2, h3⟩ => by
  have hag := h.arc a ha
  obtain ⟨f, hf⟩ := Int.eq_ofNat_of_zero_le hag.fr.1
  obtain ⟨t, ht⟩ := Int.eq_ofNat_of_zero_le hag.to.1
  have hfn : f < n := by have := hag.fr.2; omega
  have htn : t < n := by have := hag.to.2; omega
  have hrc := hag.rcv.1
  have c1 := hc.2 t htn
  have c2 := hc.2 f hfn
  rw [ht] at h2
  have hb := c1.2.2 (by omega)
  rw [hf] at h3
  rcases Int.lt_or_le a.ix 1 with h5 | h5
  · have := c2.1; omega
  · rw [← ht] at hb
    have := c2.2.1 a.ix h5 (by have := Hb.trans ha h1 hb (by rw [ht]; exact h2); rwa [hf] at this)
    omega
open Classical in
theorem orphan_und {fuel : Nat} {ends : List EndI} {v : List Lab} (hf : 1000000 < fuel) (hl : ends.length ≤ 1000000) (hv : v.length ≤ 1000000) : orphan_Orphan fuel ends v = some (decide (∃ (k : Nat), k < v.length ∧ decide (∃ x, v[k]? = some x ∧ Und ends k x) = true)) := by
  unfold orphan_Orphan
  rw [iter_any v.length (fun k => decide (∃ x, v[k]? = some x ∧ Und ends k x)) true (by omega) (fun k hk => by
    unfold orphan_Orphan_B1
    rw [if_pos (by simp [hk]), ati_get hk, w64_nat (by omega)]
    simp only [Option.bind_some, undone_eq (show ends.length < fuel by omega) hl, List.getElem?_eq_getElem hk]
    cases h : undB ends (k : Int) v[k]
    · have := undB_not.1 h; simp [this]
    · have := undB_iff.1 h; simp [this]) (by unfold orphan_Orphan_B1; simp)]
  split
  · rename_i h; simp only [Option.bind_some, Sum.elim_inr, h, decide_true]
  · rename_i h; simp only [Option.bind_some, Sum.elim_inl, orphan_Orphan_K1, h, decide_false]
open Classical in
theorem finds_J {n : Nat} {p : Pat} {l : List (List Evt)} {i j' inc xq : Int} {q : Nat} (h : PatG n 30 p) (hn : n ≤ 4) (hL : LOK n p l) (hM : Mon l n) (hqn : q < n) (hx0 : 0 ≤ xq) (hx1 : xq ≤ nI p.lens q) (hinc : ∀ j : Nat, j < rl l q → (ev_ l q j).inc ≤ inc) :
    Ok (law32_OrphanFinds_J1 10000000 (p.lens.set q xq) ((q : Int), j') (l, p, i) inc) fun b => b = true := by
  have hl := h.len
  have hll := hL.ll
  have hrg : ∀ x ∈ p.lens, 0 ≤ x ∧ x ≤ (30 : Int) := fun x hx => by have := h.rng x hx; omega
  have hs : Small l := hL.lin.small (B := 30) (by omega) hrg (by omega) (by omega)
  have hxs : ∀ s : Nat, nI (p.lens.set q xq) s = if (s : Int) = q then xq else nI p.lens s := fun s => by
    have := nI_set (xs := p.lens) (i := (q : Int)) (j := (s : Int)) (x := xq) (by omega) (by omega) (by omega)
    rw [Int.toNat_natCast] at this; exact this
  unfold law32_OrphanFinds_J1
  simp only
  rw [ati_nI (by omega) (by simp; omega), Option.bind_some, hxs, if_pos rfl]
  refine (add_ok (by omega) (by simp)).bind fun ends ⟨e1, e2⟩ => ?_
  have hund : ∀ s x, Und ends s x ↔ (s = (q : Int) ∧ x.inc ≤ inc ∧ xq < x.index) := fun s x => by
    rw [e1.und]; simp [Und, eq_comm]
  refine (track_o hs (by omega)).bind fun t ht => ?_
  have hcons := full_cons h hL
  obtain ⟨ρ, hρ⟩ := h.rank
  have hall : AllD l := fun q hq => hd_all h hL hρ _ q (rl l q) (by omega) (Nat.le_refl _) (Nat.le_refl _)
  refine (lower_o hs (by simp; omega) (by omega)).bind fun y hy => ?_
  have hyc := (consP_iff hL h.arc).1 hy.cons
  have hyl := hyc.1.len
  rcases ht with ⟨_, _, t2, t3, t4⟩ | ⟨hno, _⟩
  · have ht1 := t3.len
    rw [t2]
    simp only [Bool.not_true, orM_false, Option.bind_some, orM_some]
    rw [if_neg (by simp; omega)]
    refine Ok.bind (Q := fun o => o = .inl ()) ?_ fun o ho => by subst ho; exact Ok.ret rfl
    refine Ok.for_ l.length (fun k s => s = (k : Int)) rfl (by have := hs.1; omega) ?_
    rintro s s1 hsl rfl
    simp only [law32_OrphanFinds_B1]
    refine Ok.iteP (fun hlt => ?_) fun hlt => Ok.ret rfl
    have hsn : s < n := by omega
    obtain ⟨vr, hvr, hvl⟩ := row_get (vs := t.1) (q := s) (by omega)
    obtain ⟨lr, hlr, hlrl⟩ := row_get (vs := l) (q := s) (by omega)
    have b1 : ati t.1 (s : Int) = some vr := by rw [ati_cast]; exact hvr
    have b2 : ati l (s : Int) = some lr := by rw [ati_cast]; exact hlr
    have h4 := t4 s (by omega)
    have hsq := hs.2 s
    have hrow := hL.row hsn
    rw [b1, Option.bind_some, b2, Option.bind_some, w64_nat (by omega)]
    refine Ok.iteN (fun hne => absurd (by omega) hne) fun _ => ?_
    refine Ok.bind (Q := fun o => o = .inl ()) ?_ fun o ho => by subst ho; exact Ok.ret ⟨by omega, w64_nat (by omega)⟩
    refine Ok.for_ (rl l s + 1) (fun k s => s = (k : Int)) rfl (by omega) ?_
    rintro k k1 hk2 rfl
    simp only [law32_OrphanFinds_B2]
    rw [b2, Option.bind_some]
    refine Ok.iteP (fun hlt2 => ?_) fun hlt2 => Ok.ret rfl
    rw [b1, Option.bind_some]
    refine (Ok.at (by omega) (by omega)).bind fun v hv => ?_
    rw [Int.toNat_natCast] at hv
    obtain ⟨hh, hd⟩ := t3.der s vr k v hvr hv
    obtain ⟨c, hc, rfl⟩ := hd_lab h hL hM hd hsn
    have hcl := hc.1
    rw [ati_nI (by omega) (by omega), Option.bind_some, orphan_und (by omega) (by simp at e2; omega) (by rw [labV_len]; omega), Option.bind_some]
    have hcb := hc.bound h hL (by omega)
    have hcq := hcb q hqn
    have heq : (∃ (k : Nat), k < (labV l c).length ∧ decide (∃ x, (labV l c)[k]? = some x ∧ Und ends k x) = true) ↔ nI y s < k := by
      rw [show (∃ (k : Nat), k < (labV l c).length ∧ decide (∃ x, (labV l c)[k]? = some x ∧ Und ends k x) = true) ↔ xq < nI c q from ⟨?_, ?_⟩]
      · have hyx : ∀ j : Nat, j < n → clampI l (p.lens.set q xq) j = if (j : Int) = q then xq else nI p.lens j := fun j hj => by
          have hr := hL.row hj
          have := (h.nI_rng j).1
          unfold clampI
          rw [if_pos (by simp; omega), hxs]
          split
          · rename_i e; have : j = q := by omega
            subst this; omega
          · omega
        constructor
        · intro hx
          rcases Int.lt_or_le (nI y s) k with h5 | h5
          · exact h5
          · exfalso
            have hb := (hc.2 q hqn).2.2 (by omega)
            have h6 := hb.cut hyc.2 h5
            have h7 := hy.le q (by omega)
            rw [hyx q hqn, if_pos rfl] at h7
            omega
        · intro hk3
          rcases Int.lt_or_le xq (nI c q) with h5 | h5
          · exact h5
          · exfalso
            have hcc := hc.cons h
            have hjc : Cons p.arcs (joinL y c) := hyc.2.join h.arc hyl hcl hcc
            have hjn : ∀ j : Nat, j < n → nI (joinL y c) j = max (nI y j) (nI c j) := fun j hj => joinL_nI (by omega) (by omega)
            have hjP : ConsP l (joinL y c) := (consP_iff hL h.arc).2 ⟨⟨by rw [joinL_len (by omega)]; exact hyl, fun j hj => by
              rw [hjn j hj]
              have a1 := hyc.1.rng j hj; have a2 := hcb j hj; have a3 := hL.row hj
              omega⟩, hjc⟩
            have h8 := hy.top _ hjP (fun j hj => by
              have hj' : j < n := by omega
              have a0 := hy.le j hj
              rw [hyx j hj'] at a0 ⊢
              rw [hjn j hj']
              have a2 := hcb j hj'; have a3 := hL.row hj'
              split
              · rename_i e; rw [if_pos e] at a0; have : j = q := by omega
                subst this; omega
              · rename_i e; rw [if_neg e] at a0; omega) s (by omega)
            rw [hjn s hsn] at h8
            have h9 : (k : Int) ≤ nI c s := by
              rcases Int.lt_or_le (k : Int) 1 with g | g
              · have := (hcb s hsn).1; omega
              · exact (hc.2 s hsn).2.1 k g (.same (Int.le_refl _))
            omega
      · rintro ⟨k2, k3, k4⟩
        simp only [decide_eq_true_eq] at k4
        obtain ⟨x, x1, x2⟩ := k4
        rw [hund] at x2
        obtain ⟨y1, y2, y3⟩ := x2
        have : k2 = q := by omega
        subst this
        rw [labV_get (by omega)] at x1
        cases x1
        unfold labOf at y3
        split at y3
        · simp [zl] at y3; omega
        · exact y3
      · intro hx
        refine ⟨q, by rw [labV_len]; omega, ?_⟩
        simp only [decide_eq_true_eq]
        refine ⟨_, labV_get (by omega), (hund _ _).2 ⟨rfl, ?_, ?_⟩⟩
        · rw [labOf, if_neg (by omega)]
          exact hinc _ (by omega)
        · rw [labOf, if_neg (by omega)]; exact hx
    have : ∀ P Q : Prop, [Decidable P] → [Decidable Q] → (P ↔ Q) → (decide P != decide Q) = false := fun P Q _ _ h => by simp [h]
    rw [if_neg (by rw [this _ _ heq]; simp)]
    exact Ok.ret ⟨by omega, w64_nat (by omega)⟩
  · exact absurd ⟨hcons, hall⟩ hno
theorem awake32g : ∀ k, law32_awake (k + 1000) = some true := fun k => by kernel_rfl
theorem orphanFinds {a0 : List Int} (h0 : ∀ x ∈ a0, U8 x) : law32_OrphanFinds 10000000 a0 = some true := by
  unfold law32_OrphanFinds
  rw [show law32_awake 10000000 = some true from awake32g 9999000, Option.bind_some]
  simp only [Bool.not_true, Bool.false_eq_true, if_false]
  refine Ok.eq ?_
  refine (Ok.new (by omega) (by omega) h0).bind fun c hc => (lineages_h hc (m := 30) (by omega) (by omega)).bind fun r ⟨n, n1, n2, hp, hL, hc2, hM⟩ => ?_
  have hl := hp.len
  have hll := hL.ll
  refine (next_o hc2 (by omega)).bind fun z ⟨z0, z1, hc3⟩ => ?_
  refine (Ok.cat (by simp; omega)).bind fun x hx => ?_
  rw [List.nil_append] at hx
  subst hx
  obtain ⟨q, hq⟩ := Int.eq_ofNat_of_zero_le z0
  have hqn : q < n := by omega
  have hrow := hL.row hqn
  have hrg := hp.nI_rng q
  have hqi : ∀ xs : List Int, q < xs.length → ati xs z.1 = some (nI xs q) := fun xs h => by rw [hq]; exact ati_nI (by omega) (by omega)
  rw [hqi _ (by omega), Option.bind_some, w64_id (by omega) (by omega)]
  refine (next_o hc3 (by omega)).bind fun u ⟨u0, u1, hc4⟩ => ?_
  rw [Option.bind_some, show seti r.2.1.lens z.1 u.1 = some (r.2.1.lens.set q u.1) by rw [hq]; exact seti_get (by omega), Option.bind_some, Option.bind_some]
  have hze : z = ((q : Int), z.2) := by rw [← hq]
  refine Ok.iteP (fun hpos => ?_) fun hz => ?_
  · obtain ⟨lr, hlr, hlrl⟩ := row_get (vs := r.1) (q := q) (by omega)
    rw [show ati r.1 z.1 = some lr by rw [hq, ati_cast]; exact hlr, Option.bind_some, Option.bind_some, w64_id (by omega) (by omega)]
    refine (Ok.at (by omega) (by omega)).bind fun e he => ?_
    have hev := ev_get hlr he
    rw [hze]
    refine finds_J hp n2 hL hM hqn u0 (by omega) fun j hj => ?_
    rw [← hev]
    exact (hM q j _ hqn (by omega) (by omega)).2
  · rw [hze]
    exact finds_J hp n2 hL hM hqn u0 (by omega) fun j hj => by omega
end Go.Mine
