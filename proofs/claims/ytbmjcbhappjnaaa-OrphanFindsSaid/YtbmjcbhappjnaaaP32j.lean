/- Chapter 32, plain: the program's vectors. -/
import Derived.Test.YtbmjcbhappjnaaaP32i
set_option linter.unusedSimpArgs false
set_option linter.unusedVariables false
namespace Go.Mine
open Go.RowKit
def cntF : List Bool → Nat
  | [] => 0
  | b :: t => (if b = true then 0 else 1) + cntF t
theorem cntF_set : ∀ {on : List Bool} {q : Nat}, on[q]? = some false → cntF (on.set q true) + 1 = cntF on
  | [], q, h => by simp at h
  | b :: t, 0, h => by obtain rfl : b = false := by simpa using h
                       simp [cntF]; omega
  | b :: t, q + 1, h => by
    have := cntF_set (on := t) (q := q) (by simpa using h)
    simp [cntF]; omega
theorem cntF_le : ∀ {on : List Bool}, cntF on ≤ on.length
  | [] => by simp [cntF]
  | b :: t => by have := cntF_le (on := t); simp only [cntF, List.length_cons]; split <;> omega
/-- what a call of 'reach' may rely on: whoever is on the way needs what it asks for -/
def Needs (l : List (List Evt)) (vs : List (List (List Lab))) (on : List Bool) (q k : Nat) : Prop :=
  ∀ p, on[p]? = some true → ∀ h u, Hd l h p (rl vs p) u → ∃ h' u', h' < h ∧ Hd l h' q k u'
theorem needs_no {l : List (List Evt)} {vs : List (List (List Lab))} {on : List Bool} {q k : Nat} (hN : Needs l vs on q k) (hq : on[q]? = some true) (hk : rl vs q ≤ k) : ∀ h u, ¬ Hd l h q (rl vs q) u := by
  intro h
  induction h using Nat.strongRecOn with
  | _ h ih =>
    intro u hd
    obtain ⟨h', u', h1, h2⟩ := hN q hq h u hd
    obtain ⟨u2, h3⟩ := h2.down hk
    exact ih h' h1 u2 h3
theorem reach_o {fuel : Nat} {l : List (List Evt)} (hs : Small l) (hsnd : Sound l) (hf : 5000000 < fuel) : ∀ (d : Nat) {q k : Nat} {vs : List (List (List Lab))} {on : List Bool}, VecI l vs → on.length = l.length → q < l.length → k ≤ rl l q → Needs l vs on q k → cntF on < d →
    Ok (reach_R fuel d (q : Int) (k : Int) l vs on) fun r => (r.1 = false → ¬ AllD l) ∧ (r.1 = true → VecI l r.2.1 ∧ r.2.2 = on ∧ k < rl r.2.1 q ∧ (∀ p : Nat, on[p]? = some true → r.2.1[p]? = vs[p]?) ∧ ∀ p, rl vs p ≤ rl r.2.1 p) := by
  intro d
  induction d with
  | zero => intro q k vs on _ _ _ _ _ h; omega
  | succ d ih =>
    intro q k vs on hv hon hq hk hN hd
    have hs1 := hs.1
    have hvl := hv.len
    show Ok (reach_F fuel (reach_R fuel d) (q : Int) (k : Int) l vs on) _
    unfold reach_F
    obtain ⟨r0, hr0, hrl0⟩ := row_get (vs := vs) (q := q) (by omega)
    have a1 : ati vs (q : Int) = some r0 := by rw [ati_cast]; exact hr0
    rw [a1, Option.bind_some]
    have hrow := hv.row q hq
    refine Ok.iteP (fun hlt => Ok.ret ⟨by simp, fun _ => ⟨hv, rfl, by simp only; omega, fun _ _ => rfl, fun _ => by simp⟩⟩) fun hlt => ?_
    refine (Ok.at (by omega) (by omega)).bind fun b hb => ?_
    rw [Int.toNat_natCast] at hb
    refine Ok.ite (fun hbt => Ok.ret ⟨fun _ hall => ?_, by simp⟩) fun hbf => ?_
    · subst hbt
      obtain ⟨h, v, h1⟩ := hall q hq
      obtain ⟨u, h2⟩ := h1.down (j := rl vs q) (by omega)
      exact needs_no hN hb (by omega) h u h2
    · subst hbf
      refine (Ok.at (by omega) (by omega)).bind fun _ _ => (Ok.set (by omega) (by omega)).bind fun on2 hon2 => ?_
      rw [Int.toNat_natCast] at hon2
      rw [Option.bind_some]
      have hsm := hs.2 q
      have on2q : ∀ p : Nat, on2[p]? = if p = q then some true else on[p]? := fun p => by rw [hon2, getElem?_set' (by omega)]
      refine Ok.bind (Ok.run (fun m s => ∃ i : Nat, s.2.2 = (i : Int) ∧ m + i = k + 1 ∧ s.2.1 = on2 ∧ VecI l s.1 ∧ rl s.1 q = i ∧ (∀ p : Nat, on[p]? = some true → s.1[p]? = vs[p]?) ∧ ∀ p, rl vs p ≤ rl s.1 p) (Q := fun t => Sum.elim (fun u => u.2 = on2 ∧ VecI l u.1 ∧ k < rl u.1 q ∧ (∀ p : Nat, on[p]? = some true → u.1[p]? = vs[p]?) ∧ ∀ p, rl vs p ≤ rl u.1 p) (fun r => r.1 = false ∧ ¬ AllD l) t) (m := k + 1 - r0.length) ⟨r0.length, rfl, by omega, rfl, hv, hrl0, fun _ _ => rfl, fun _ => by simp⟩ (by omega) ?_) ?_
      · rintro m ⟨us, on3, ii⟩ ⟨i, e1, e2, e3, hu, hui, hup, hum⟩
        simp only at e1 e3 hu hui hup hum
        subst e1
        obtain rfl : on2 = on3 := e3.symm
        have hul := hu.len
        have hur := hu.row q hq
        simp only [reach_B1]
        refine Ok.iteP (fun hlt2 => ?_) fun hlt2 => Ok.ret ⟨rfl, hu, by simp only; omega, hup, hum⟩
        obtain ⟨r, hr, hrl⟩ := row_get (vs := us) (q := q) (by omega)
        obtain ⟨w, hw, hwl⟩ := row_get (vs := l) (q := q) (by omega)
        have b1 : ati us (q : Int) = some r := by rw [ati_cast]; exact hr
        have b2 : ati l (q : Int) = some w := by rw [ati_cast]; exact hw
        have hrn : w64 ((i : Int) - 1) = ((i - 1 : Nat) : Int) := by rw [w64_id (by omega) (by omega)]; omega
        rw [b2, Option.bind_some, hrn]
        refine (Ok.at (by omega) (by omega)).bind fun e he => ?_
        rw [Int.toNat_natCast] at he
        have hev : ev_ l q (i - 1) = e := ev_get hw he
        have hsd := hsnd q (i - 1) hq (by omega)
        rw [hev] at hsd
        rw [b1, Option.bind_some]
        refine (Ok.at (by omega) (by omega)).bind fun v hvv => ?_
        rw [Int.toNat_natCast] at hvv
        obtain ⟨hh, hd1⟩ := hu.der q r (i - 1) v hr hvv
        have hvlen := hd1.len.1
        unfold Clone_Lab
        refine (Ok.cat (by simp; omega)).bind fun v2 hv2 => ?_
        rw [List.nil_append] at hv2
        obtain rfl : v = v2 := hv2.symm
        refine (Ok.at (by omega) (by omega)).bind fun _ _ => (Ok.set (by omega) (by omega)).bind fun v3 hv3 => ?_
        rw [Int.toNat_natCast] at hv3
        have hi1 : i - 1 + 1 = i := by omega
        have hinc : v3 = v.set q ⟨(ev_ l q (i - 1)).inc, ((i - 1 + 1 : Nat) : Int)⟩ := by rw [hv3, hev, hi1]
        have fin : ∀ (xs : List (List (List Lab))) u h2, VecI l xs → xs[q]? = some r → (∀ p : Nat, on[p]? = some true → xs[p]? = vs[p]?) → (∀ p, rl vs p ≤ rl xs p) → Hd l h2 q i u → Ok (reach_J1 fuel (reach_R fuel d) (q : Int) (i : Int) xs on2 u) fun o => Sum.elim (fun s' : List (List (List Lab)) × List Bool × Int => ∃ m', m' < m ∧ ∃ i : Nat, s'.2.2 = (i : Int) ∧ m' + i = k + 1 ∧ s'.2.1 = on2 ∧ VecI l s'.1 ∧ rl s'.1 q = i ∧ (∀ p : Nat, on[p]? = some true → s'.1[p]? = vs[p]?) ∧ ∀ p, rl vs p ≤ rl s'.1 p) (fun t => Sum.elim (fun u : List (List (List Lab)) × List Bool => u.2 = on2 ∧ VecI l u.1 ∧ k < rl u.1 q ∧ (∀ p : Nat, on[p]? = some true → u.1[p]? = vs[p]?) ∧ ∀ p, rl vs p ≤ rl u.1 p) (fun r : Bool × List (List (List Lab)) × List Bool => r.1 = false ∧ ¬ AllD l) t) o := fun xs u h2 hx hxq hxp hxm hd2 => by
          have hxl := hx.len
          unfold reach_J1
          have c1 : ati xs (q : Int) = some r := by rw [ati_cast]; exact hxq
          rw [c1, Option.bind_some]
          refine (Ok.cat (by simp; omega)).bind fun r2 hr2 => (Ok.set (by omega) (by omega)).bind fun xs2 hxs => (Ok.at (by omega) (by rw [hxs]; simp; omega)).bind fun _ _ => Ok.ret ⟨m - 1, by omega, i + 1, w64_nat (by omega), by omega, rfl, ?_, ?_, fun p hp => ?_, fun p => ?_⟩
          · simp only; rw [hxs, Int.toNat_natCast, hr2]; exact hx.add hq hxq (by rw [← hrl, hui]; exact hd2)
          · simp only; rw [hxs, Int.toNat_natCast, rl_set (by omega), if_pos rfl, hr2]; simp; omega
          · simp only; rw [hxs, Int.toNat_natCast, getElem?_set' (by omega)]
            have : p ≠ q := fun e => by subst e; rw [hb] at hp; cases hp
            rw [if_neg this]; exact hxp p hp
          · simp only; rw [hxs, Int.toNat_natCast, rl_set (by omega)]
            split
            · rename_i e9; subst e9; rw [hr2]; have := hum p; simp; omega
            · exact hxm p
        refine Ok.iteE (fun hk1 => ?_) fun hk1 => ?_
        · obtain ⟨s1, s2, s3, s4, s5⟩ := hsd hk1
          obtain ⟨f, hfe⟩ : ∃ f : Nat, e.frm = f := ⟨e.frm.toNat, by omega⟩
          obtain ⟨x, hxe⟩ : ∃ x : Nat, e.sent.index = x := ⟨e.sent.index.toNat, by omega⟩
          rw [hfe, hxe]
          rw [hfe] at s2 s5
          rw [hxe] at s5
          have hN2 : Needs l us on2 f x := fun p hp h u hdp => by
            rw [on2q] at hp
            by_cases ep : p = q
            · subst ep
              rw [hui, ← hi1] at hdp
              obtain ⟨h', u', h1, h2⟩ := hdp.need (by rw [hev]; exact hk1)
              rw [hev, hfe, hxe] at h2
              exact ⟨h', u', h1, by simpa using h2⟩
            · rw [if_neg ep] at hp
              have e5 : rl us p = rl vs p := by unfold rl; rw [hup p hp]
              rw [e5] at hdp
              obtain ⟨h', u', h1, h2⟩ := hN p hp h u hdp
              obtain ⟨u2, h3⟩ := h2.down (j := i) (by omega)
              rw [← hi1] at h3
              obtain ⟨h4, u4, h5, h6⟩ := h3.need (by rw [hev]; exact hk1)
              rw [hev, hfe, hxe] at h6
              exact ⟨h4, u4, by omega, by simpa using h6⟩
          have hcnt := cntF_set hb
          rw [← hon2] at hcnt
          refine (ih (q := f) (k := x) hu (by rw [hon2]; simp [hon]) (by omega) (by simp at s5; omega) hN2 (by omega)).bind fun z hz => ?_
          refine Ok.ite (fun hzf => Ok.ret ⟨rfl, hz.1 (by simpa using hzf)⟩) fun hzt => ?_
          obtain ⟨z1, z2, z3, z4, z5⟩ := hz.2 (by simpa using hzt)
          have hzl := z1.len
          obtain ⟨rf, hrf, hrfl⟩ := row_get (vs := z.2.1) (q := f) (by omega)
          have c2 : ati z.2.1 (f : Int) = some rf := by rw [ati_cast]; exact hrf
          rw [c2, Option.bind_some]
          refine (Ok.at (by omega) (by omega)).bind fun u hu2 => ?_
          rw [Int.toNat_natCast] at hu2
          obtain ⟨h3, hd3⟩ := z1.der f rf x u hrf hu2
          have hulen := hd3.len.1
          rw [merge_eq (by rw [hv3]; simp; omega) (by omega) (by omega), Option.bind_some, z2]
          refine fin _ _ (max hh h3 + 1) z1 (by rw [z4 q (by rw [on2q, if_pos rfl])]; exact hr) (fun p hp => ?_) (fun p => Nat.le_trans (hum p) (z5 p)) ?_
          · rw [z4 p (by rw [on2q]; split <;> simp_all)]; exact hup p hp
          · rw [hinc]
            have := Hd.recv (hd1.mono (Nat.le_max_left hh h3)) (by omega) (by rw [hev]; exact hk1) (by rw [hev, hfe, hxe]; simpa using hd3.mono (Nat.le_max_right hh h3))
            rwa [hi1] at this ⊢
        · refine fin _ _ (hh + 1) hu hr hup hum ?_
          rw [hinc]
          have := Hd.tick hd1 (by omega) (by rw [hev]; exact hk1)
          rwa [hi1] at this ⊢
      · rintro t ht
        cases t with
        | inr r => exact Ok.ret ⟨fun _ => ht.2, fun h => by have := ht.1; rw [this] at h; cases h⟩
        | inl u =>
          obtain ⟨u1, u2, u3, u4, u5⟩ := ht
          simp only [Sum.elim_inl, reach_K1]
          rw [u1]
          refine (Ok.at (by omega) (by rw [hon2]; simp; omega)).bind fun _ _ => (Ok.set (by omega) (by rw [hon2]; simp; omega)).bind fun on4 hon4 => Ok.ret ⟨by simp, fun _ => ⟨u2, ?_, u3, u4, u5⟩⟩
          simp only
          rw [hon4, Int.toNat_natCast, hon2, List.set_set]
          refine List.ext_getElem? fun j => ?_
          rw [getElem?_set' (by omega)]
          split
          · rename_i e; subst e; exact hb.symm
          · rfl
theorem track_o {fuel : Nat} {l : List (List Evt)} (hs : Small l) (hf : 5000000 < fuel) : Ok (Track fuel l) (TrackP l) := by
  have hs1 := hs.1
  unfold Track
  rw [all_o hs (by omega), Option.bind_some]
  refine (cons_o hs (by omega)).bind fun b hb => Ok.ite (fun hc => Ok.ret (.inr ⟨fun h => ?_, rfl⟩)) fun hc => ?_
  · rw [hb.2 h.1] at hc; cases hc
  have hcons : ConsP l (fullC l) := hb.1 (by simpa using hc)
  have hsnd := sound_of hcons
  refine (Ok.mk (by omega) (by omega)).bind fun v0 hv0 => (Ok.mk (by omega) (by omega)).bind fun on hon => ?_
  rw [Int.toNat_natCast] at hv0 hon
  unfold Track_J1
  refine Ok.bind (Ok.for_ l.length (fun k s => s.2 = (k : Int) ∧ s.1.length = l.length ∧ ∀ j, j < k → s.1[j]? = some [List.replicate l.length zl]) (Q := fun t => t = List.replicate l.length [List.replicate l.length zl]) ⟨rfl, by rw [hv0]; simp, by omega⟩ (by omega) ?_) ?_
  · rintro k ⟨y, i⟩ hk ⟨rfl, h1, h2⟩
    simp only at h1 h2
    simp only [Track_B2]
    refine Ok.iteP (fun hlt => ?_) fun hlt => Ok.ret ?_
    · refine (Ok.mk (by omega) (by omega)).bind fun x hx => (Ok.at (by omega) (by omega)).bind fun _ _ => (Ok.set (by omega) (by omega)).bind fun y2 hy => Ok.ret ⟨by omega, w64_nat (by omega), by rw [hy]; simp [h1], fun j hj => ?_⟩
      rw [Int.toNat_natCast] at hx
      simp only; rw [hy, Int.toNat_natCast, getElem?_set' (by omega), hx]
      split
      · rfl
      · exact h2 j (by omega)
    · refine List.ext_getElem? fun j => ?_
      by_cases hj : j < l.length
      · rw [h2 j (by omega)]; simp [hj]
      · have : y[j]? = none := by simp; omega
        rw [this]; simp [hj]
  · rintro v1 hv1
    have hI : VecI l v1 := by
      refine ⟨by rw [hv1]; simp, fun q hq => ?_, fun q r k v hr hk => ?_⟩
      · have : rl v1 q = 1 := by rw [hv1]; simp [rl, hq]
        omega
      · have hq : q < l.length := by have := (List.getElem?_eq_some_iff.1 hr).1; rw [hv1] at this; simpa using this
        have : r = [List.replicate l.length zl] := by rw [hv1] at hr; simpa [hq] using hr.symm
        subst this
        have hk0 : k = 0 := by have := (List.getElem?_eq_some_iff.1 hk).1; simp at this; omega
        subst hk0
        obtain rfl : List.replicate l.length zl = v := by simpa using hk
        exact ⟨0, .zero hq⟩
    unfold Track_K1
    have honl : on.length = l.length := by rw [hon]; simp
    have hnone : ∀ p : Nat, on[p]? ≠ some true := fun p h => by rw [hon] at h; have := List.mem_of_getElem? h; have := List.eq_of_mem_replicate this; cases this
    refine Ok.bind (Ok.for_ l.length (fun k s => s.2.2 = (k : Int) ∧ s.2.1 = on ∧ VecI l s.1 ∧ ∀ p, p < k → rl s.1 p = rl l p + 1) (Q := fun t => Sum.elim (fun u => VecI l u.1 ∧ ∀ p, p < l.length → rl u.1 p = rl l p + 1) (fun r => r = ([], false) ∧ ¬ AllD l) t) ⟨rfl, rfl, hI, by omega⟩ (by omega) ?_) ?_
    · rintro k ⟨vs, on2, i⟩ hk ⟨rfl, e2, h1, h2⟩
      simp only at e2 h1 h2
      subst e2
      simp only [Track_B1]
      refine Ok.iteP (fun hlt => ?_) fun hlt => Ok.ret ⟨h1, fun p hp => h2 p (by omega)⟩
      refine (Ok.at (by omega) (by omega)).bind fun w hw => ?_
      rw [Int.toNat_natCast] at hw
      have hwl := rl_some hw
      have := @cntF_le on2
      refine (reach_o hs hsnd hf fuel (q := k) (k := w.length) h1 honl (by omega) (by omega) (fun p hp => absurd hp (hnone p)) (by omega)).bind fun z hz => ?_
      refine Ok.ite (fun hzf => Ok.ret ⟨rfl, hz.1 (by simpa using hzf)⟩) fun hzt => ?_
      obtain ⟨z1, z2, z3, z4, z5⟩ := hz.2 (by simpa using hzt)
      refine Ok.ret ⟨by omega, w64_nat (by omega), z2, z1, fun p hp => ?_⟩
      simp only
      by_cases e : p = k
      · subst e; have := (z1.row p (by omega)).2; omega
      · have a := z5 p; have b := h2 p (by omega); have c := (z1.row p (by omega)).2; omega
    · rintro t ht
      cases t with
      | inr r => obtain ⟨rfl, h2⟩ := ht; exact Ok.ret (.inr ⟨fun h => h2 h.2, rfl⟩)
      | inl u =>
        obtain ⟨hv, ht⟩ := ht
        refine Ok.ret (.inl ⟨hcons, fun q hq => ?_, rfl, hv, ht⟩)
        have hvl := hv.len
        obtain ⟨r, hr, hrl⟩ := row_get (vs := u.1) (q := q) (by omega)
        have h9 : rl u.1 q = rl l q + 1 := ht q hq
        have h8 : rl l q < r.length := by omega
        obtain ⟨h, hd⟩ := hv.der q r (rl l q) (r[rl l q]'h8) hr (by simp [h8])
        exact ⟨h, _, hd⟩
end Go.Mine
