/- What the laws of chapter 33 say of the settled machine. -/
import Derived.Test.YtddohdppmejjoaaP33f
import Derived.Test.YtddohdppmejjoaaP32dx
set_option linter.unusedSimpArgs false
set_option linter.unusedVariables false
namespace Go.Mine
def lns (bs : List Branch) : List (List Evt) := bs.map (·.events)
theorem lns_length {bs : List Branch} : (lns bs).length = bs.length := by simp [lns]
theorem lns_get {bs : List Branch} {q : Int} (h : InR bs.length q) : (lns bs)[q.toNat]? = some (brs bs q).events := by
  unfold lns; rw [List.getElem?_map, brs_some h]; rfl
theorem rl_lns {bs : List Branch} {j : Nat} (h : j < bs.length) : rl (lns bs) j = (brs bs (j : Int)).events.length := by
  have := lns_get (bs := bs) (q := (j : Int)) ⟨by omega, by omega⟩
  rw [Int.toNat_natCast] at this
  exact rl_some this
theorem MC.smallL {n s : Nat} {X : Ends33} {bs : List Branch} {fl : List Letter} (h : MC n s X bs fl) (hn : n ≤ 5) (hs : s ≤ 99) : Small (lns bs) := by
  have hlen := h.len
  refine ⟨by rw [lns_length]; omega, fun j => ?_⟩
  by_cases hj : j < bs.length
  · rw [rl_lns hj]
    have := h.small (p := (j : Int)) ⟨by omega, by omega⟩
    omega
  · have : (lns bs)[j]? = none := by rw [List.getElem?_eq_none_iff, lns_length]; omega
    simp [rl, this]
/-- the consistent cuts of a quiet machine -/
theorem MS.cons {n s : Nat} {X : Ends33} {bs : List Branch} {fl : List Letter} (h : MS n s X bs fl) (hq : Quiet33 fl) {z : List Int} (hz : z.length = n) (hr : ∀ j : Nat, j < n → 0 ≤ nI z j ∧ nI z j ≤ (brs bs (j : Int)).events.length)
    (hc : ∀ q, InR n q → ∀ (k : Nat) (e : Evt), (k : Int) < nI z q → (brs bs q).events[k]? = some e → e.kind = 1 → e.sent.index ≤ nI z e.frm) : ConsP (lns bs) z := by
  have hlen := h.len
  refine ⟨by rw [lns_length]; omega, fun j hj => ?_, fun j hj k hk he => ?_⟩
  · rw [lns_length] at hj
    have := hr j (by omega)
    unfold Rng
    rw [rl_lns hj]; exact this
  · rw [lns_length] at hj
    have hjr : InR n (j : Int) := ⟨by omega, by omega⟩
    have hrj := hr j (by omega)
    have hg := lns_get (bs := bs) (q := (j : Int)) ⟨by omega, by omega⟩
    rw [Int.toNat_natCast] at hg
    have hkl : k < (brs bs (j : Int)).events.length := by omega
    have hek : (brs bs (j : Int)).events[k]? = some (ev_ (lns bs) j k) := by simp [ev_, hg, hkl]
    obtain ⟨h1, h2, h3, h4⟩ := h.agrees hq hjr hek he
    have hpl : InR bs.length (ev_ (lns bs) j k).frm := by rw [hlen]; exact h1
    refine ⟨h1.1, by rw [lns_length]; exact hpl.2, h2, .inr ?_, hc j hjr k _ hk hek he⟩
    have hrw : rw_ (lns bs) (ev_ (lns bs) j k).frm = (brs bs (ev_ (lns bs) j k).frm).events := by unfold rw_; rw [lns_get hpl]; rfl
    rw [hrw]
    exact ⟨by omega, h4.le h3, h4⟩
/-- all present events are a consistent cut -/
theorem MS.consAll {n s : Nat} {X : Ends33} {bs : List Branch} {fl : List Letter} (h : MS n s X bs fl) (hq : Quiet33 fl) : ConsP (lns bs) ((lns bs).map fun r => (r.length : Int)) := by
  have hlen := h.len
  have hz : ∀ q, InR n q → nI ((lns bs).map fun r => (r.length : Int)) q = (brs bs q).events.length := fun q hq => by
    unfold nI; rw [List.getElem?_map, lns_get (by rw [hlen]; exact hq)]; rfl
  refine h.cons hq (by simp [lns, hlen]) (fun j hj => ?_) fun q hqr k e hk he hk1 => ?_
  · rw [hz j ⟨by omega, by omega⟩]; omega
  · obtain ⟨h1, h2, h3, h4⟩ := h.agrees hq hqr he hk1
    rw [hz _ h1]
    exact h4.le h3
/-- the lineages behind the news: those of the greatest consistent cut -/
theorem MS.settled {n s0 s : Nat} {X0 : Ends33} {bs0 : List Branch} {fl0 : List Letter} (h0 : MS n s0 X0 bs0 fl0) (q0 : Quiet33 fl0) {x G : List Int} (hx : x.length = n) (hxr : ∀ j : Nat, j < n → 0 ≤ nI x j ∧ nI x j ≤ (brs bs0 (j : Int)).events.length) (hG : LowP (lns bs0) x G)
    {X : Ends33} {bs : List Branch} {fl : List Letter} (h : MS n s X bs fl) (hq : Quiet33 fl) (hJ : JI n (brs bs0) (nI G) (nI x) (brs bs) fl) :
    (lns bs).map (fun r => (r.length : Int)) = G ∧ ∀ q, InR n q → (brs bs q).events = (brs bs0 q).events.take (nI G q).toNat := by
  have hlen0 := h0.len
  have hlen := h.len
  have hz : ∀ q, InR n q → nI ((lns bs).map fun r => (r.length : Int)) q = (brs bs q).events.length := fun q hq => by
    unfold nI; rw [List.getElem?_map, lns_get (by rw [hlen]; exact hq)]; rfl
  have hle : ∀ q, InR n q → (brs bs q).events.length ≤ (brs bs0 q).events.length := fun q hq => by
    have := congrArg List.length (hJ.pre q hq)
    rw [List.length_take] at this; omega
  have hcons : ConsP (lns bs0) ((lns bs).map fun r => (r.length : Int)) := by
    refine h0.cons q0 (by simp [lns, hlen]) (fun j hj => ?_) fun q hqr k e hk he hk1 => ?_
    · have hr : InR n (j : Int) := ⟨by omega, by omega⟩
      rw [hz j hr]; have := hle j hr; omega
    · rw [hz q hqr] at hk
      have he' : (brs bs q).events[k]? = some e := by rw [hJ.pre q hqr, List.getElem?_take_of_lt (by omega)]; exact he
      obtain ⟨h1, h2, h3, h4⟩ := h.agrees hq hqr he' hk1
      rw [hz _ h1]
      exact h4.le h3
  have hcl : ∀ j : Nat, j < n → clampI (lns bs0) x j = nI x j := fun j hj => by
    unfold clampI
    rw [if_pos (by omega), rl_lns (by omega)]
    have := hxr j hj
    omega
  have heq : ∀ j : Nat, j < n → nI ((lns bs).map fun r => (r.length : Int)) j = nI G j := fun j hj => by
    have hr : InR n (j : Int) := ⟨by omega, by omega⟩
    have h1 := hG.top _ hcons (fun i hi => by
      rw [lns_length] at hi
      have hr : InR n (i : Int) := ⟨by omega, by omega⟩
      rw [hcl i (by omega), hz i hr]
      exact hJ.hi i hr) j (by rw [lns_length]; omega)
    have h2 := hJ.lo j hr
    rw [hz j hr] at h1 ⊢
    omega
  have hGl := hG.cons.1
  rw [lns_length] at hGl
  refine ⟨List.ext_getElem (by simp [lns]; omega) fun j a b => ?_, fun q hqr => ?_⟩
  · rw [nI_gt a, nI_gt b]
    exact heq j (by simp [lns] at a; omega)
  · have h1 := hJ.pre q hqr
    rw [h1]
    congr 1
    have := heq q.toNat (by have := hqr.1; have := hqr.2; omega)
    rw [Int.toNat_of_nonneg hqr.1, hz q hqr] at this
    omega
/-- the machine itself -/
theorem JI.start {n s : Nat} {X : Ends33} {bs : List Branch} {fl : List Letter} (h : MS n s X bs fl) (hq : Quiet33 fl) {G U : Int → Int} (hG : ∀ q, InR n q → G q ≤ (brs bs q).events.length) (hU : ∀ q, InR n q → ((brs bs q).events.length : Int) ≤ U q) : JI n (brs bs) G U (brs bs) fl :=
  ⟨fun q _ => (List.take_length).symm, hG, hU, fun q _ p l hu => .inl hu, fun x hx hw => by rw [hq x hx] at hw; cases hw⟩
/-- a crash -/
theorem JI.crash {n : Nat} {s : Nat} {X : Ends33} {C : Int → Branch} {G U : Int → Int} {bs : List Branch} {fl : List Letter} (hm : MS n s X bs fl) (h : JI n C G U (brs bs) fl) {p : Int} (hp : InR n p) (hx : G p ≤ (brs bs p).stable) {t : List Branch × List Letter} (ht : GoS bs fl p (brs bs p).stable (brs bs p) t) :
    JI n C G U (brs t.1) t.2 := by
  obtain ⟨r, hr, _, e1, e2⟩ := ht
  have hpl : InR bs.length p := by rw [hm.len]; exact hp
  have hs := hm.ci.stab p hp
  rw [e1, e2, brs_set hpl]
  exact h.back hs.1 hx hs.2 hr hp.1
theorem GoodG.of {n s : Nat} {X : Ends33} {bs : List Branch} {fl : List Letter} (h : MS n s X bs fl) {x G : List Int} (hG : LowP (lns bs) x G) : GoodG n (brs bs) (nI G) := by
  have hlen := h.len
  refine ⟨h.clean, fun q hq k e hk he h1 => ?_⟩
  obtain ⟨j, rfl⟩ := Int.eq_ofNat_of_zero_le hq.1
  have hj : j < bs.length := by have := hq.2; omega
  have hg := lns_get (bs := bs) (q := (j : Int)) ⟨by omega, by omega⟩
  rw [Int.toNat_natCast] at hg
  have := hG.cons.2.2 j (by rw [lns_length]; exact hj) k hk
  rw [ev_get hg he] at this
  exact (this h1).2.2.2.2
end Go.Mine
