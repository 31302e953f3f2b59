/- Chapter 32, plain: the reference's vectors. -/
import Derived.Test.YtghjjkdfjmnfeaaP32h
set_option linter.unusedSimpArgs false
set_option linter.unusedVariables false
namespace Go.Mine
open Go.RowKit
def TrackP (l : List (List Evt)) (r : List (List (List Lab)) × Bool) : Prop :=
  (ConsP l (fullC l) ∧ AllD l ∧ r.2 = true ∧ VecI l r.1 ∧ ∀ q, q < l.length → rl r.1 q = rl l q + 1) ∨ (¬ (ConsP l (fullC l) ∧ AllD l) ∧ r = ([], false))
theorem TrackP.unique {l : List (List Evt)} {r s : List (List (List Lab)) × Bool} (h1 : TrackP l r) (h2 : TrackP l s) : r = s := by
  rcases h1 with ⟨a1, a2, a3, a4, a5⟩ | ⟨a1, a2⟩
  · rcases h2 with ⟨b1, b2, b3, b4, b5⟩ | ⟨b1, b2⟩
    · exact Prod.ext (a4.full b4 a5 b5) (by rw [a3, b3])
    · exact absurd ⟨a1, a2⟩ b1
  · rcases h2 with ⟨b1, b2, b3, b4, b5⟩ | ⟨b1, b2⟩
    · exact absurd ⟨b1, b2⟩ a1
    · rw [a2, b2]
def sumL {α : Type} (vs : List (List α)) : Nat := (vs.map List.length).sum
theorem sumL_set {α : Type} : ∀ {vs : List (List α)} {q : Nat} {r : List α} {v : α}, vs[q]? = some r → sumL (vs.set q (r ++ [v])) = sumL vs + 1
  | [], q, r, v, h => by simp at h
  | a :: t, 0, r, v, h => by obtain rfl : a = r := by simpa using h
                             simp [sumL]; omega
  | a :: t, q + 1, r, v, h => by
    have := sumL_set (vs := t) (q := q) (r := r) (v := v) (by simpa using h)
    simp [sumL] at this ⊢; omega
theorem sumL_le {α : Type} {B : Nat} : ∀ {vs : List (List α)}, (∀ q, rl vs q ≤ B) → sumL vs ≤ vs.length * B
  | [], _ => by simp [sumL]
  | a :: t, h => by
    have h1 := sumL_le (vs := t) (B := B) fun q => by have := h (q + 1); simpa [rl] using this
    have h2 := h 0
    simp [rl] at h2
    simp [sumL] at h1 ⊢
    rw [Nat.add_mul]; omega
theorem VecI.sum {l : List (List Evt)} {vs : List (List (List Lab))} (h : VecI l vs) (hs : Small l) : sumL vs ≤ 1001000 := by
  have h1 := hs.1
  have h2 := h.len
  have : sumL vs ≤ vs.length * 1001 := sumL_le fun q => by
    by_cases hq : q < l.length
    · have := (h.row q hq).2; have := hs.2 q; omega
    · have : vs[q]? = none := by simp; omega
      simp [rl, this]
  have h3 : vs.length * 1001 ≤ 1000 * 1001 := Nat.mul_le_mul_right _ (by omega)
  omega
/-- no more vector of a process can be computed -/
def Stuck (l : List (List Evt)) (vs : List (List (List Lab))) (p : Nat) : Prop :=
  rl vs p = rl l p + 1 ∨ ((ev_ l p (rl vs p - 1)).kind = 1 ∧ rl vs (ev_ l p (rl vs p - 1)).frm.toNat ≤ (ev_ l p (rl vs p - 1)).sent.index.toNat)
theorem stuck_all {l : List (List Evt)} {vs : List (List (List Lab))} (hv : VecI l vs) (hst : ∀ p, p < l.length → Stuck l vs p) {h q k : Nat} {v : List Lab} (hd : Hd l h q k v) : k < rl vs q := by
  induction hd with
  | zero h => exact (hv.row _ h).1
  | @tick _ q k v a h1 h2 ih =>
    rcases hst q a.len.2.1 with h3 | ⟨h3, h4⟩
    · omega
    · rcases Nat.lt_or_ge (k + 1) (rl vs q) with h5 | h5
      · exact h5
      · have : rl vs q - 1 = k := by omega
        rw [this] at h3; exact absurd h3 h2
  | @recv _ q k v u a h1 h2 b ih ih2 =>
    rcases hst q a.len.2.1 with h3 | ⟨h3, h4⟩
    · omega
    · rcases Nat.lt_or_ge (k + 1) (rl vs q) with h5 | h5
      · exact h5
      · have : rl vs q - 1 = k := by omega
        rw [this] at h4; omega
theorem row_get {α : Type} {vs : List (List α)} {q : Nat} (h : q < vs.length) : ∃ r, vs[q]? = some r ∧ rl vs q = r.length := ⟨vs[q], by simp [h], by simp [rl, h]⟩
theorem rtrack_o {fuel : Nat} {l : List (List Evt)} (hs : Small l) (hf : 5000000 < fuel) : Ok (ref32_Track fuel l) (TrackP l) := by
  have hs1 := hs.1
  unfold ref32_Track
  rw [full_o hs (by omega), Option.bind_some]
  refine (rcons_o hs (by omega)).bind fun b hb => Ok.ite (fun hc => Ok.ret (.inr ⟨fun h => ?_, rfl⟩)) fun hc => ?_
  · rw [hb.2 h.1] at hc; cases hc
  have hcons : ConsP l (fullC l) := hb.1 (by simpa using hc)
  have hsnd := sound_of hcons
  refine Ok.bind (Ok.for_ l.length (fun k s => s.2 = (k : Int) ∧ s.1 = List.replicate k [List.replicate l.length zl]) (Q := fun t => t = List.replicate l.length [List.replicate l.length zl]) ⟨rfl, rfl⟩ (by omega) ?_) ?_
  · rintro k ⟨y, i⟩ hk ⟨rfl, h1⟩
    simp only at h1
    subst h1
    simp only [ref32_Track_B4]
    refine Ok.iteP (fun hlt => ?_) fun hlt => Ok.ret ?_
    · refine (Ok.mk (by omega) (by omega)).bind fun x hx => (Ok.snoc (by simp; omega)).bind fun y2 hy => Ok.ret ⟨by omega, w64_nat (by omega), ?_⟩
      rw [Int.toNat_natCast] at hx
      rw [hy, hx, List.replicate_succ']; rfl
    · obtain rfl : k = l.length := by omega
      rfl
  · rintro v0 hv0
    have hI : VecI l v0 := by
      refine ⟨by rw [hv0]; simp, fun q hq => ?_, fun q r k v hr hk => ?_⟩
      · have : rl v0 q = 1 := by rw [hv0]; simp [rl, hq]
        omega
      · have hq : q < l.length := by have := (List.getElem?_eq_some_iff.1 hr).1; rw [hv0] at this; simpa using this
        have : r = [List.replicate l.length zl] := by rw [hv0] at hr; simpa [hq] using hr.symm
        subst this
        have hk0 : k = 0 := by have := (List.getElem?_eq_some_iff.1 hk).1; simp at this; omega
        subst hk0
        obtain rfl : List.replicate l.length zl = v := by simpa using hk
        exact ⟨0, .zero hq⟩
    unfold ref32_Track_K1
    refine Ok.bind (Ok.run (fun m s => VecI l s.1 ∧ (s.2 = true → m + sumL s.1 = 1001002) ∧ (s.2 = false → m = 1 ∧ ∀ p, p < l.length → Stuck l s.1 p)) (Q := fun t => VecI l t ∧ ∀ p, p < l.length → Stuck l t p) (m := 1001002 - sumL v0) ⟨hI, fun _ => by have := hI.sum hs; simp only; omega, by simp⟩ (by omega) ?_) ?_
    · rintro m ⟨vs, more⟩ ⟨hv, hm1, hm2⟩
      simp only at hv hm1 hm2
      simp only [ref32_Track_B2]
      refine Ok.ite (fun hmo => ?_) fun hmo => Ok.ret ⟨hv, (hm2 hmo).2⟩
      have hm := hm1 hmo
      refine Ok.bind (Ok.for_ l.length (fun k s => s.2.2 = (k : Int) ∧ VecI l s.1 ∧ (s.2.1 = true → sumL vs < sumL s.1) ∧ (s.2.1 = false → s.1 = vs ∧ ∀ p, p < k → Stuck l vs p)) (Q := fun t => VecI l t.1 ∧ (t.2 = true → sumL vs < sumL t.1) ∧ (t.2 = false → ∀ p, p < l.length → Stuck l t.1 p)) ⟨rfl, hv, by simp, fun _ => ⟨rfl, by omega⟩⟩ (by omega) ?_) ?_
      · rintro k ⟨us, mo, i⟩ hk ⟨rfl, g1, g2, g3⟩
        simp only at g1 g2 g3
        have gl := g1.len
        simp only [ref32_Track_B3]
        refine Ok.iteP (fun hlt => ?_) fun hlt => Ok.ret ⟨g1, g2, fun h => ?_⟩
        · have hkl : k < l.length := by omega
          have grow := g1.row k hkl
          obtain ⟨r, hr, hrl⟩ := row_get (vs := us) (q := k) (by omega)
          obtain ⟨w, hw, hwl⟩ := row_get (vs := l) (q := k) (by omega)
          have sm := hs.2 k
          have a1 : ati us (k : Int) = some r := by rw [ati_cast]; exact hr
          have a2 : ati l (k : Int) = some w := by rw [ati_cast]; exact hw
          rw [a1, Option.bind_some, a2, Option.bind_some]
          refine Ok.iteP (fun hc => Ok.ret ⟨hkl, w64_nat (by omega), g1, g2, fun h => ⟨(g3 h).1, fun p hp => ?_⟩⟩) fun hc => ?_
          · by_cases e : p = k
            · subst e; left; rw [← (g3 h).1]; omega
            · exact (g3 h).2 p (by omega)
          · rw [Option.bind_some, w64_id (by omega) (by omega)]
            have hrn : ((r.length : Int) - 1) = ((r.length - 1 : Nat) : Int) := by omega
            rw [hrn]
            refine (Ok.at (by omega) (by omega)).bind fun e he => ?_
            rw [Int.toNat_natCast] at he
            have hev : ev_ l k (r.length - 1) = e := ev_get hw he
            have hsd := hsnd k (r.length - 1) hkl (by omega)
            rw [hev] at hsd
            refine Ok.bind (Q := fun b => b = true ↔ (e.kind = 1 ∧ rl us e.frm.toNat ≤ e.sent.index.toNat)) (Ok.andM (fun hk1 => ?_) fun hk1 => ?_) fun b hb2 => Ok.ite (fun hc2 => Ok.ret ⟨hkl, w64_nat (by omega), g1, g2, fun h => ⟨(g3 h).1, fun p hp => ?_⟩⟩) fun hc2 => ?_
            · simp at hk1
              obtain ⟨s1, s2, s3, s4, s5⟩ := hsd hk1
              refine (Ok.at s1 (by omega)).bind fun z hz => Ok.ret ?_
              rw [rl_some hz]; simp [hk1]; omega
            · simp at hk1; simp [hk1]
            · by_cases ep : p = k
              · subst ep
                right
                obtain ⟨c1, c2⟩ := hb2.1 hc2
                rw [← (g3 h).1, hrl, hev]
                exact ⟨c1, c2⟩
              · exact (g3 h).2 p (by omega)
            · have hnb : ¬ (e.kind = 1 ∧ rl us e.frm.toNat ≤ e.sent.index.toNat) := fun h => by rw [hb2.2 h] at hc2; cases hc2
              rw [Option.bind_some]
              refine (Ok.at (by omega) (by omega)).bind fun v hvv => ?_
              rw [Int.toNat_natCast] at hvv
              obtain ⟨hh, hd⟩ := g1.der k r (r.length - 1) v hr hvv
              have hvl := hd.len.1
              refine (Ok.cat (by simp; omega)).bind fun v2 hv2 => ?_
              rw [List.nil_append] at hv2
              obtain rfl : v = v2 := hv2.symm
              refine (Ok.at (by omega) (by omega)).bind fun _ _ => (Ok.set (by omega) (by omega)).bind fun v3 hv3 => ?_
              rw [Int.toNat_natCast] at hv3
              have hr1 : r.length - 1 + 1 = r.length := by omega
              have fin : ∀ u h2, Hd l h2 k r.length u → Ok (ref32_Track_J1 fuel us (k : Int) u) fun o => Sum.elim (fun s' : List (List (List Lab)) × Bool × Int => k < l.length ∧ s'.2.2 = ((k + 1 : Nat) : Int) ∧ VecI l s'.1 ∧ (s'.2.1 = true → sumL vs < sumL s'.1) ∧ (s'.2.1 = false → s'.1 = vs ∧ ∀ p, p < k + 1 → Stuck l vs p)) (fun t : List (List (List Lab)) × Bool => VecI l t.1 ∧ (t.2 = true → sumL vs < sumL t.1) ∧ (t.2 = false → ∀ p, p < l.length → Stuck l t.1 p)) o := fun u h2 hd2 => by
                unfold ref32_Track_J1
                rw [a1, Option.bind_some]
                refine (Ok.cat (by simp; omega)).bind fun r2 hr2 => (Ok.set (by omega) (by omega)).bind fun us2 hus => (Ok.at (by omega) (by rw [hus]; simp; omega)).bind fun _ _ => Ok.ret ⟨hkl, w64_nat (by omega), ?_, fun _ => ?_, by simp⟩
                · simp only; rw [hus, Int.toNat_natCast, hr2]; exact g1.add hkl hr hd2
                · simp only; rw [hus, Int.toNat_natCast, hr2, sumL_set hr]
                  cases mo with
                  | true => have := g2 rfl; omega
                  | false => rw [(g3 rfl).1]; omega
              have hinc : v3 = v.set k ⟨(ev_ l k (r.length - 1)).inc, ((r.length - 1 + 1 : Nat) : Int)⟩ := by rw [hv3, hev, hr1]
              refine Ok.iteE (fun hk1 => ?_) fun hk1 => ?_
              · obtain ⟨s1, s2, s3, s4, s5⟩ := hsd hk1
                refine (Ok.at s1 (by omega)).bind fun z hz => ?_
                have hzl := rl_some hz
                refine (Ok.at s4 (by have : ¬ rl us e.frm.toNat ≤ e.sent.index.toNat := fun h => hnb ⟨hk1, h⟩; omega)).bind fun u hu => ?_
                obtain ⟨h3, hd3⟩ := g1.der _ z _ u hz hu
                have hul := hd3.len.1
                rw [rmerge_eq (by rw [hv3]; simp; omega) (by omega) (by omega), Option.bind_some]
                refine fin _ (max hh h3 + 1) ?_
                rw [hinc]
                have := Hd.recv (hd.mono (Nat.le_max_left hh h3)) (by omega) (by rw [hev]; exact hk1) (by rw [hev]; exact hd3.mono (Nat.le_max_right hh h3))
                rwa [hr1] at this ⊢
              · refine fin _ (hh + 1) ?_
                rw [hinc]
                have := Hd.tick hd (by omega) (by rw [hev]; exact hk1)
                rwa [hr1] at this ⊢
        · simp only at h
          have := g3 h
          rw [this.1]; exact fun p hp => this.2 p (by omega)
      · rintro t ⟨t1, t2, t3⟩
        refine Ok.ret ?_
        have := t1.sum hs
        cases ht : t.2 with
        | true => exact ⟨1001002 - sumL t.1, by have := t2 ht; omega, t1, fun _ => by simp only; omega, by simp⟩
        | false => exact ⟨1, by have := hv.sum hs; omega, t1, by simp, fun _ => ⟨rfl, t3 ht⟩⟩
    · rintro vs ⟨hv, hst⟩
      have hvl := hv.len
      unfold ref32_Track_K2
      refine Ok.bind (Ok.for_ l.length (fun k s => s = (k : Int) ∧ ∀ p, p < k → rl vs p = rl l p + 1) (Q := fun t => Sum.elim (fun _ => ∀ p, p < l.length → rl vs p = rl l p + 1) (fun r => r = ([], false) ∧ ¬ AllD l) t) ⟨rfl, by omega⟩ (by omega) ?_) ?_
      · rintro k s hk ⟨rfl, h1⟩
        simp only [ref32_Track_B1]
        refine Ok.iteP (fun hlt => ?_) fun hlt => Ok.ret fun p hp => h1 p (by omega)
        refine (Ok.at (by omega) (by omega)).bind fun r hr => (Ok.at (by omega) (by omega)).bind fun w hw => ?_
        rw [Int.toNat_natCast] at hr hw
        have e1 := rl_some hr
        have e2 := rl_some hw
        have e3 := (hv.row k (by omega)).2
        refine Ok.iteP (fun hc => Ok.ret ⟨rfl, fun hall => ?_⟩) fun hc => Ok.ret ⟨by omega, w64_nat (by omega), fun p hp => ?_⟩
        · obtain ⟨h, v, hd⟩ := hall k (by omega)
          have := stuck_all hv hst hd
          omega
        · by_cases e : p = k
          · subst e; omega
          · exact h1 p (by omega)
      · rintro t ht
        cases t with
        | inr r => obtain ⟨rfl, h2⟩ := ht; exact Ok.ret (.inr ⟨fun h => h2 h.2, rfl⟩)
        | inl u =>
          refine Ok.ret (.inl ⟨hcons, fun q hq => ?_, rfl, hv, ht⟩)
          obtain ⟨r, hr, hrl⟩ := row_get (vs := vs) (q := q) (by omega)
          have h9 : rl vs q = rl l q + 1 := ht q hq
          have h8 : rl l q < r.length := by omega
          obtain ⟨h, hd⟩ := hv.der q r (rl l q) (r[rl l q]'h8) hr (by simp [h8])
          exact ⟨h, _, hd⟩
end Go.Mine
