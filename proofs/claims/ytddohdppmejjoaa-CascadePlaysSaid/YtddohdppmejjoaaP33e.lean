/- How far the news brings the processes back: never behind a consistent cut that the crashes allow. -/
import Derived.Test.YtddohdppmejjoaaP33d
set_option linter.unusedSimpArgs false
set_option linter.unusedVariables false
namespace Go.Mine
/-- a machine C without news, whose cut G is consistent -/
structure GoodG (n : Int) (C : Int → Branch) (G : Int → Int) : Prop where
  clean : ∀ q, InR n q → Clean (C q)
  cons : ∀ q, InR n q → ∀ (k : Nat) (e : Evt), (k : Int) < G q → (C q).events[k]? = some e → e.kind = 1 → e.sent.index ≤ G e.frm
/-- between the cut G and the cut U -/
structure JI (n : Int) (C : Int → Branch) (G U : Int → Int) (B : Int → Branch) (fl : List Letter) : Prop where
  pre : ∀ q, InR n q → (B q).events = (C q).events.take (B q).events.length
  lo : ∀ q, InR n q → G q ≤ (B q).events.length
  hi : ∀ q, InR n q → ((B q).events.length : Int) ≤ U q
  ends : ∀ q, InR n q → ∀ p l, Und (B q).ends p l → Und (C q).ends p l ∨ G p < l.index
  news : ∀ x ∈ fl, x.news = true → G x.end_.proc ≤ x.end_.index
theorem JI.learn {n : Int} {C B : Int → Branch} {G U : Int → Int} {fl fl' : List Letter} (h : JI n C G U B fl) {x : Letter} (hx : x ∈ fl) (hw : x.news = true) (hsub : ∀ y ∈ fl', y ∈ fl) {r : List EndI} (hr : Red ((B x.to).ends ++ [x.end_]) r) :
    JI n C G U (upd B x.to { B x.to with ends := r }) fl' := by
  have hev : ∀ a, (upd B x.to { B x.to with ends := r } a).events = (B a).events := fun a => by
    by_cases ha : a = x.to
    · rw [ha, upd_self]
    · rw [upd_ne ha]
  refine ⟨fun q hq => by rw [hev]; exact h.pre q hq, fun q hq => by rw [hev]; exact h.lo q hq, fun q hq => by rw [hev]; exact h.hi q hq, fun q hq p l hu => ?_, fun y hy => h.news y (hsub y hy)⟩
  by_cases e : q = x.to
  · rw [e, upd_self] at hu
    obtain ⟨z, hz, h1, h2, h3⟩ := hr.und.1 hu
    rw [List.mem_append, List.mem_singleton] at hz
    rcases hz with hz | rfl
    · rw [e]; exact h.ends x.to (e ▸ hq) p l ⟨z, hz, h1, h2, h3⟩
    · have := h.news x hx hw
      rw [h1] at this
      exact .inr (by omega)
  · rw [upd_ne e] at hu; exact h.ends q hq p l hu
theorem JI.back {n : Int} {C B : Int → Branch} {G U : Int → Int} {fl : List Letter} (h : JI n C G U B fl) {p x : Int} (h0 : 0 ≤ x) (hx : G p ≤ x) (hx2 : x ≤ (B p).events.length) {r : List EndI} (hr : Red ((B p).ends ++ [⟨p, (B p).inc, x⟩]) r) {m : Nat} (hp : 0 ≤ p) :
    JI n C G U (upd B p (goB (B p) x r)) (fl ++ newsL p.toNat ⟨p, (B p).inc, x⟩ m) := by
  have hl : (List.take x.toNat (B p).events).length = x.toNat := by rw [List.length_take]; omega
  refine ⟨fun q hq => ?_, fun q hq => ?_, fun q hq => ?_, fun q hq a l hu => ?_, fun y hy hw => ?_⟩
  · by_cases e : q = p
    · subst e
      rw [upd_self]
      simp only [goB, hl]
      have := h.pre q hq
      rw [this, List.take_take]
      congr 1
      omega
    · rw [upd_ne e]; exact h.pre q hq
  · by_cases e : q = p
    · subst e; rw [upd_self]; simp only [goB, hl]; omega
    · rw [upd_ne e]; exact h.lo q hq
  · by_cases e : q = p
    · subst e; rw [upd_self]; simp only [goB, hl]; have := h.hi q hq; omega
    · rw [upd_ne e]; exact h.hi q hq
  · by_cases e : q = p
    · subst e
      rw [upd_self] at hu
      obtain ⟨z, hz, h1, h2, h3⟩ := hr.und.1 hu
      rw [List.mem_append, List.mem_singleton] at hz
      rcases hz with hz | rfl
      · exact h.ends q hq a l ⟨z, hz, h1, h2, h3⟩
      · simp only at h1 h3
        rw [← h1]
        exact .inr (by omega)
    · rw [upd_ne e] at hu; exact h.ends q hq a l hu
  · rw [List.mem_append] at hy
    rcases hy with hy | hy
    · exact h.news y hy hw
    · obtain ⟨q, _, _, rfl⟩ := mem_newsL.1 hy
      exact hx
/-- news arrives: nobody goes back behind the cut -/
theorem JI.recv {n s : Nat} {X : Ends33} {bs : List Branch} {fl : List Letter} {C : Int → Branch} {G U : Int → Int} (hm : MS n s X bs fl) (hg : GoodG n C G) (h : JI n C G U (brs bs) fl) {i : Nat} {x : Letter} (hx : fl[i]? = some x) (hw : x.news = true)
    {t : List Branch × List Letter} (ht : RecS bs fl i x (brs bs x.to) t) : JI n C G U (brs t.1) t.2 := by
  have hml := hm.ci.mail x (mem_of_getElem? hx)
  have hpl : InR bs.length x.to := by rw [hm.len]; exact hml.to_
  have hb : ∀ r, brs (bs.set x.to.toNat { brs bs x.to with ends := r }) x.to = { brs bs x.to with ends := r } := fun r => by rw [brs_set hpl, upd_self]
  obtain ⟨d1, d2, d3⟩ := drop_mem hx
  rcases ht with ⟨_, r, hr, hrl, ht⟩ | ⟨h1, _⟩
  · have hj := h.learn (mem_of_getElem? hx) hw d1 hr
    rw [← brs_set hpl] at hj
    rcases ht with ⟨hc, rfl⟩ | ⟨k, e, hk, hbad, hcl, r', hr', hrl', e1, e2⟩
    · exact hj
    · have hkl := (List.getElem?_eq_some_iff.1 hk).1
      simp only at hkl hk
      have hpl' : InR (bs.set x.to.toNat { brs bs x.to with ends := r }).length x.to := by rw [List.length_set]; exact hpl
      have hgk : G x.to ≤ (k : Int) := by
        refine Classical.byContradiction fun hn => ?_
        unfold badE at hbad
        rw [Bool.and_eq_true, undB_iff] at hbad
        obtain ⟨b1, b2⟩ := hbad
        have b1 : e.kind = 1 := by simpa using b1
        have hC : (C x.to).events[k]? = some e := by
          have := h.pre x.to hml.to_
          rw [this, List.getElem?_take_of_lt hkl] at hk
          exact hk
        have b3 := hj.ends x.to hml.to_ e.frm e.sent (by rw [hb]; exact b2)
        rcases b3 with b3 | b3
        · have := hg.clean x.to hml.to_ k e hC
          unfold badE at this
          rw [Bool.and_eq_false_iff, undB_not] at this
          rcases this with this | this
          · simp [b1] at this
          · exact this b3
        · have := hg.cons x.to hml.to_ k e (by omega) hC b1
          omega
      have hB : brs (bs.set x.to.toNat { brs bs x.to with ends := r }) x.to = { brs bs x.to with ends := r } := hb r
      have := hj.back (p := x.to) (x := (k : Int)) (r := r') (m := (bs.set x.to.toNat { brs bs x.to with ends := r }).length) (by omega) hgk (by rw [hB]; simp only; omega) (by rw [hB]; exact hr') hml.to_.1
      rw [hB] at this
      rw [e1, e2, brs_set hpl']
      exact this
  · rw [hw] at h1; cases h1
/-- no news in flight -/
def Quiet33 (fl : List Letter) : Prop := ∀ x ∈ fl, x.news = false
end Go.Mine
