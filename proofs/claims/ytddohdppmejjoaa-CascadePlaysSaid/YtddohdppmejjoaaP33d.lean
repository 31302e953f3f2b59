/- The machine of package cascade: sizes, and what its steps keep. -/
import Derived.Test.YtddohdppmejjoaaP33c
set_option linter.unusedSimpArgs false
set_option linter.unusedVariables false
namespace Go.Mine
def zb33 : Branch := ⟨0, [], 0, []⟩
def brs (bs : List Branch) (p : Int) : Branch := if p < 0 then zb33 else (bs[p.toNat]?).getD zb33
theorem brs_some {bs : List Branch} {p : Int} (h : InR bs.length p) : bs[p.toNat]? = some (brs bs p) := by
  obtain ⟨h0, h1⟩ := h
  have hl : p.toNat < bs.length := by omega
  unfold brs
  rw [if_neg (by omega), List.getElem?_eq_getElem hl]; rfl
theorem brs_set {bs : List Branch} {p : Int} {b : Branch} (h : InR bs.length p) : brs (bs.set p.toNat b) = upd (brs bs) p b := by
  obtain ⟨h0, h1⟩ := h
  funext q
  unfold upd brs
  by_cases hq : q < 0
  · rw [if_pos hq, if_neg (by omega), if_pos hq]
  · rw [if_neg hq, getElem?_set' (by omega)]
    by_cases e : q = p
    · subst e; simp
    · rw [if_neg (by omega), if_neg e, if_neg hq]
theorem sum_set {α : Type} (f : α → Nat) : ∀ (xs : List α) (k : Nat) (x y : α), xs[k]? = some x → ((xs.set k y).map f).sum + f x = (xs.map f).sum + f y
  | [], k, x, y, h => by simp at h
  | a :: t, 0, x, y, h => by simp at h; subst h; simp; omega
  | a :: t, k + 1, x, y, h => by
    have := sum_set f t k x y (by simpa using h)
    simp only [List.set_cons_succ, List.map_cons, List.sum_cons]; omega
theorem le_sum {α : Type} (f : α → Nat) : ∀ {xs : List α} {x : α}, x ∈ xs → f x ≤ (xs.map f).sum
  | a :: t, x, h => by
    rw [List.mem_cons] at h
    rw [List.map_cons, List.sum_cons]
    rcases h with rfl | h
    · omega
    · have := le_sum f h; omega
theorem pw_len : ∀ (l : List Nat) (a N : Nat), l.Pairwise (· < ·) → (∀ x ∈ l, a ≤ x ∧ x < N) → l.length ≤ N - a
  | [], a, N, _, _ => by simp
  | x :: t, a, N, h, hb => by
    rw [List.pairwise_cons] at h
    have h1 := pw_len t (x + 1) N h.2 fun y hy => ⟨h.1 y hy, (hb y (by simp [hy])).2⟩
    have h2 := hb x (by simp)
    simp; omega
theorem ends_len {l : List EndI} (h : l.Pairwise klt) (hb : ∀ e ∈ l, 0 ≤ e.proc ∧ e.proc < 5 ∧ 0 ≤ e.inc ∧ e.inc < 100) : l.length ≤ 500 := by
  have h1 := pw_len (l.map fun e => e.proc.toNat * 100 + e.inc.toNat) 0 500 (by
    rw [List.pairwise_map]
    refine List.Pairwise.imp_of_mem (fun {x y} hx hy hk => ?_) h
    have := hb x hx
    have := hb y hy
    rcases hk with hk | hk <;> omega) fun x hx => by
      obtain ⟨e, he, rfl⟩ := List.mem_map.1 hx
      have := hb e he
      omega
  simpa using h1
def totB (b : Branch) : Nat := b.inc.toNat + b.events.length
def tot (bs : List Branch) : Nat := (bs.map totB).sum
def nev (bs : List Branch) : Nat := (bs.map fun b => b.events.length).sum
def meas (bs : List Branch) (fl : List Letter) : Nat := fl.length + 5 * nev bs
/-- the machine after at most s steps -/
structure MC (n s : Nat) (X : Ends33) (bs : List Branch) (fl : List Letter) : Prop where
  len : bs.length = n
  ci : CI n X (brs bs) fl
  tot : tot bs ≤ s
  meas : meas bs fl ≤ 6 * s
structure MS (n s : Nat) (X : Ends33) (bs : List Branch) (fl : List Letter) : Prop extends MC n s X bs fl where
  clean : ∀ p, InR n p → Clean (brs bs p)
theorem MC.get {n s : Nat} {X : Ends33} {bs : List Branch} {fl : List Letter} (h : MC n s X bs fl) {p : Int} (hp : InR n p) : bs[p.toNat]? = some (brs bs p) := brs_some (by rw [h.len]; exact hp)
theorem MC.small {n s : Nat} {X : Ends33} {bs : List Branch} {fl : List Letter} (h : MC n s X bs fl) {p : Int} (hp : InR n p) : (brs bs p).inc.toNat + (brs bs p).events.length ≤ s :=
  Nat.le_trans (le_sum totB (mem_of_getElem? (h.get hp))) h.tot
theorem MC.ends {n s : Nat} {X : Ends33} {bs : List Branch} {fl : List Letter} (h : MC n s X bs fl) (hn : n ≤ 5) (hs : s ≤ 99) {p : Int} (hp : InR n p) : (brs bs p).ends.length ≤ 500 :=
  ends_len (h.ci.sorted p hp) fun e he => by
    obtain ⟨⟨h1, h2⟩, h3⟩ := h.ci.ends p hp e he
    have := h3.inc0
    have := h3.inc1
    have := h.small ⟨h1, h2⟩
    omega
theorem MC.flight {n s : Nat} {X : Ends33} {bs : List Branch} {fl : List Letter} (h : MC n s X bs fl) : fl.length ≤ 6 * s := by have := h.meas; unfold Go.Mine.meas at this; omega
/-- a list without one of its elements -/
theorem drop_mem {α : Type} {xs : List α} {i : Nat} {x : α} (hx : xs[i]? = some x) : (∀ y ∈ xs.take i ++ xs.drop (i + 1), y ∈ xs) ∧ (∀ y ∈ xs, y = x ∨ y ∈ xs.take i ++ xs.drop (i + 1)) ∧ (xs.take i ++ xs.drop (i + 1)).length + 1 = xs.length := by
  obtain ⟨hi, hv⟩ := List.getElem?_eq_some_iff.1 hx
  refine ⟨fun y hy => ?_, fun y hy => ?_, by simp; omega⟩
  · rw [List.mem_append] at hy
    rcases hy with hy | hy
    · exact List.mem_of_mem_take hy
    · exact List.mem_of_mem_drop hy
  · have e : xs = xs.take i ++ x :: xs.drop (i + 1) := by rw [← hv, List.getElem_cons_drop, List.take_append_drop]
    rw [e] at hy
    simp only [List.mem_append, List.mem_cons] at hy ⊢
    rcases hy with h | h | h
    · exact .inr (.inl h)
    · exact .inl h
    · exact .inr (.inr h)
theorem nev_set {bs : List Branch} {p : Int} {b : Branch} (h : InR bs.length p) : nev (bs.set p.toNat b) + (brs bs p).events.length = nev bs + b.events.length := sum_set (fun b : Branch => b.events.length) bs p.toNat _ b (brs_some h)
theorem tot_set {bs : List Branch} {p : Int} {b : Branch} (h : InR bs.length p) : tot (bs.set p.toNat b) + totB (brs bs p) = tot bs + totB b := sum_set totB bs p.toNat _ b (brs_some h)
theorem len_evS {b : Branch} {e : Evt} : (evS b e).events.length = b.events.length + 1 := by simp [evS]
theorem totB_evS {b : Branch} {e : Evt} : totB (evS b e) = totB b + 1 := by simp only [totB, len_evS]; simp only [evS]; omega
theorem len_goB {b : Branch} {x : Int} {r : List EndI} : (goB b x r).events.length = min x.toNat b.events.length := by simp [goB]
theorem totB_goB {b : Branch} {x : Int} {r : List EndI} : totB (goB b x r) = (b.inc + 1).toNat + min x.toNat b.events.length := by simp [totB, goB]
/-- all events stable -/
def flB (b : Branch) : Branch := ⟨b.inc, b.events, (b.events.length : Int), b.ends⟩
/-- other ends known -/
def lrB (b : Branch) (r : List EndI) : Branch := ⟨b.inc, b.events, b.stable, r⟩
/-- a message is sent -/
theorem MS.send {n s : Nat} {X : Ends33} {bs : List Branch} {fl : List Letter} (h : MS n s X bs fl) {p q : Int} (hp : InR n p) (hq : InR n q) (hne : q ≠ p) :
    MS n (s + 1) X (bs.set p.toNat (evS (brs bs p) ⟨2, 0, 0, ⟨0, 0⟩, 0, 0⟩)) (fl ++ [⟨p, q, false, ⟨(brs bs p).inc, (((brs bs p).events.length + 1 : Nat) : Int)⟩, ⟨0, 0, 0⟩⟩]) := by
  have hpl : InR bs.length p := by rw [h.len]; exact hp
  have hi := h.ci.inc0 p hp
  have e1 := nev_set (b := evS (brs bs p) ⟨2, 0, 0, ⟨0, 0⟩, 0, 0⟩) hpl
  have e2 := tot_set (b := evS (brs bs p) ⟨2, 0, 0, ⟨0, 0⟩, 0, 0⟩) hpl
  have h1 := h.tot
  have h2 := h.meas
  refine ⟨⟨by rw [List.length_set]; exact h.len, ?_, ?_, ?_⟩, fun a ha => ?_⟩
  · rw [brs_set hpl]
    refine (h.ci.event hp (fun h => by simp at h)).letter ⟨hq, hp, hne, fun _ => ⟨by simp only; omega, hi, by rw [upd_self]; exact Int.le_refl _, .inl ?_⟩, fun h => by simp at h⟩
    simp only
    rw [upd_self]
    refine ⟨⟨2, (brs bs p).inc, 0, ⟨0, 0⟩, 0, 0⟩, ?_, rfl⟩
    simp only [evS]
    rw [show ((((brs bs p).events.length + 1 : Nat) : Int) - 1).toNat = (brs bs p).events.length by omega]
    simp
  · rw [totB_evS] at e2; omega
  · rw [len_evS] at e1; unfold Go.Mine.meas at h2 ⊢; rw [List.length_append, List.length_singleton]; omega
  · rw [brs_set hpl]
    by_cases e : a = p
    · subst e
      rw [upd_self]
      intro j y hy
      simp only [evS] at hy ⊢
      rcases Nat.lt_or_ge j (brs bs a).events.length with hj | hj
      · rw [List.getElem?_append_left hj] at hy
        exact h.clean a ha j y hy
      · rw [List.getElem?_append_right hj] at hy
        have := mem_of_getElem? hy
        rw [List.mem_singleton] at this
        subst this
        rfl
    · rw [upd_ne e]; exact h.clean a ha
/-- the events of a process become stable -/
theorem MS.flush {n s : Nat} {X : Ends33} {bs : List Branch} {fl : List Letter} (h : MS n s X bs fl) {p : Int} (hp : InR n p) : MS n (s + 1) X (bs.set p.toNat (flB (brs bs p))) fl := by
  have hpl : InR bs.length p := by rw [h.len]; exact hp
  have e1 : nev (bs.set p.toNat (flB (brs bs p))) + (brs bs p).events.length = nev bs + (brs bs p).events.length := nev_set hpl
  have e2 : tot (bs.set p.toNat (flB (brs bs p))) + totB (brs bs p) = tot bs + totB (brs bs p) := tot_set hpl
  have h1 := h.tot
  have h2 := h.meas
  refine ⟨⟨by rw [List.length_set]; exact h.len, ?_, by omega, ?_⟩, fun a ha => ?_⟩
  · rw [brs_set hpl]; exact h.ci.flush hp
  · unfold Go.Mine.meas at h2 ⊢; omega
  · rw [brs_set hpl]
    by_cases e : a = p
    · subst e
      rw [upd_self]
      exact fun j y hy => h.clean a ha j y hy
    · rw [upd_ne e]; exact h.clean a ha
/-- a process whose events below x are clean goes back to x -/
theorem MC.back {n s : Nat} {X : Ends33} {bs : List Branch} {fl : List Letter} (h : MC n s X bs fl) {p : Int} (hp : InR n p) {x : Int} (hx0 : 0 ≤ x) (hx : x ≤ (brs bs p).events.length) {t : List Branch × List Letter} (hn : n ≤ 5)
    (ht : GoS bs fl p x (brs bs p) t) (hc : ∀ q, InR n q → q ≠ p → Clean (brs bs q)) (hcp : ∀ (j : Nat) (y : Evt), (j : Int) < x → (brs bs p).events[j]? = some y → badE (brs bs p).ends y = false) {s' : Nat} (hs1 : Go.Mine.tot bs + 1 ≤ s' + ((brs bs p).events.length - x.toNat)) (hs2 : Go.Mine.meas bs fl + 5 ≤ 6 * s' + 5 * ((brs bs p).events.length - x.toNat)) :
    (∃ X', MS n s' X' t.1 t.2) ∧ Go.Mine.meas t.1 t.2 + 5 * ((brs bs p).events.length - x.toNat) ≤ Go.Mine.meas bs fl + 5 := by
  obtain ⟨r, hr, hrl, e1, e2⟩ := ht
  have hpl : InR bs.length p := by rw [h.len]; exact hp
  have f1 := nev_set (b := goB (brs bs p) x r) hpl
  have f2 := tot_set (b := goB (brs bs p) x r) hpl
  have hi := h.ci.inc0 p hp
  have f3 := newsL_len (p := p.toNat) (e := ⟨p, (brs bs p).inc, x⟩) (n := bs.length)
  rw [h.len] at f3
  rw [len_goB] at f1
  rw [totB_goB] at f2
  have f4 : totB (brs bs p) = (brs bs p).inc.toNat + (brs bs p).events.length := rfl
  have hm : Go.Mine.meas t.1 t.2 + 5 * ((brs bs p).events.length - x.toNat) ≤ Go.Mine.meas bs fl + 5 := by
    rw [e1, e2, h.len]
    unfold Go.Mine.meas
    rw [List.length_append]
    omega
  refine ⟨⟨newX X p (brs bs p).inc x, ⟨by rw [e1, List.length_set]; exact h.len, ?_, ?_, by omega⟩, fun a ha => ?_⟩, hm⟩
  · rw [e1, e2, brs_set hpl]
    exact h.ci.back hp hx0 hx hr (by rw [h.len])
  · rw [e1]; omega
  · rw [e1, brs_set hpl]
    by_cases e : a = p
    · subst e
      rw [upd_self]
      intro j y hy
      simp only [goB] at hy ⊢
      rw [List.getElem?_take] at hy
      split at hy
      · rename_i hj
        have hb := hcp j y (by omega) hy
        unfold badE at hb ⊢
        rw [Bool.and_eq_false_iff] at hb ⊢
        rcases hb with hb | hb
        · exact .inl hb
        · by_cases hk : y.kind = 1
          · refine .inr ?_
            rw [undB_not] at hb ⊢
            intro hu
            obtain ⟨z, hz, h3, h4⟩ := hr.und.1 hu
            rw [List.mem_append, List.mem_singleton] at hz
            rcases hz with hz | rfl
            · exact hb ⟨z, hz, h3, h4⟩
            · exact (h.ci.got a ha j y hy hk).2.1 h3.symm
          · exact .inl (by simpa using hk)
      · cases hy
    · rw [upd_ne e]; exact hc a ha e
/-- a crash -/
theorem MS.crash {n s : Nat} {X : Ends33} {bs : List Branch} {fl : List Letter} (h : MS n s X bs fl) {p : Int} (hp : InR n p) {t : List Branch × List Letter} (hn : n ≤ 5) (ht : GoS bs fl p (brs bs p).stable (brs bs p) t) : ∃ X', MS n (s + 1) X' t.1 t.2 := by
  have h1 := h.tot
  have h2 := h.meas
  have h3 := h.ci.stab p hp
  exact (h.toMC.back hp h3.1 h3.2 hn ht (fun q hq _ => h.clean q hq) (fun j y _ hy => h.clean p hp j y hy) (by omega) (by omega)).1
/-- news arrives -/
theorem MS.news {n s : Nat} {X : Ends33} {bs : List Branch} {fl : List Letter} (h : MS n s X bs fl) {i : Nat} {x : Letter} (hx : fl[i]? = some x) (hw : x.news = true) (hn : n ≤ 5) {t : List Branch × List Letter} (ht : RecS bs fl i x (brs bs x.to) t) :
    (∃ X', MS n s X' t.1 t.2) ∧ Go.Mine.meas t.1 t.2 < Go.Mine.meas bs fl := by
  have hm := h.ci.mail x (mem_of_getElem? hx)
  have hpl : InR bs.length x.to := by rw [h.len]; exact hm.to_
  obtain ⟨d1, d2, d3⟩ := drop_mem hx
  rcases ht with ⟨_, r, hr, hrl, ht⟩ | ⟨h1, _⟩
  · have hE := hm.end_ hw
    have ht : ChkS (bs.set x.to.toNat (lrB (brs bs x.to) r)) (fl.take i ++ fl.drop (i + 1)) x.to (lrB (brs bs x.to) r) t := ht
    have f1 : nev (bs.set x.to.toNat (lrB (brs bs x.to) r)) + (brs bs x.to).events.length = nev bs + (brs bs x.to).events.length := nev_set hpl
    have f2 : tot (bs.set x.to.toNat (lrB (brs bs x.to) r)) + totB (brs bs x.to) = tot bs + totB (brs bs x.to) := tot_set hpl
    have h1 := h.tot
    have h2 := h.meas
    have hb : brs (bs.set x.to.toNat (lrB (brs bs x.to) r)) x.to = lrB (brs bs x.to) r := by rw [brs_set hpl, upd_self]
    have mm : Go.Mine.meas (bs.set x.to.toNat (lrB (brs bs x.to) r)) (fl.take i ++ fl.drop (i + 1)) + 1 = Go.Mine.meas bs fl := by unfold Go.Mine.meas; omega
    have mc : MC n s X (bs.set x.to.toNat (lrB (brs bs x.to) r)) (fl.take i ++ fl.drop (i + 1)) := by
      refine ⟨by rw [List.length_set]; exact h.len, ?_, by omega, by omega⟩
      rw [brs_set hpl]
      have h5 := h.ci.learn hm.to_ ⟨by rw [hE.2]; exact hm.frm, hE.1⟩ hr
      have h5 : CI n X (upd (brs bs) x.to (lrB (brs bs x.to) r)) fl := h5
      refine h5.drop x d1 d2 fun _ l h3 h4 => ?_
      rw [upd_self]
      exact hr.und.2 ⟨x.end_, by simp, rfl, h3, h4⟩
    have hcq : ∀ q, InR n q → q ≠ x.to → Clean (brs (bs.set x.to.toNat (lrB (brs bs x.to) r)) q) := fun q hq hne => by
      rw [brs_set hpl, upd_ne hne]; exact h.clean q hq
    rcases ht with ⟨hc, rfl⟩ | ⟨k, e, hk, hbad, hcl, hg⟩
    · refine ⟨⟨X, mc, fun q hq => ?_⟩, by simp only; omega⟩
      by_cases e : q = x.to
      · subst e; rw [hb]; exact hc
      · exact hcq q hq e
    · have hkl : k < (brs bs x.to).events.length := (List.getElem?_eq_some_iff.1 hk).1
      have hlr : (lrB (brs bs x.to) r).events.length = (brs bs x.to).events.length := rfl
      have := mc.back hm.to_ (x := (k : Int)) (t := t) (s' := s) (by omega) (by rw [hb, hlr]; omega) hn (by rw [hb]; exact hg) hcq (fun j y hj hy => by rw [hb] at hy ⊢; exact hcl j y (by omega) hy) (by rw [hb, hlr]; omega) (by rw [hb, hlr]; omega)
      refine ⟨this.1, ?_⟩
      have := this.2
      rw [hb, hlr] at this
      omega
  · rw [hw] at h1; cases h1
/-- a message arrives -/
theorem MS.msg {n s : Nat} {X : Ends33} {bs : List Branch} {fl : List Letter} (h : MS n s X bs fl) {i : Nat} {x : Letter} (hx : fl[i]? = some x) (hw : x.news = false) {t : List Branch × List Letter} (ht : RecS bs fl i x (brs bs x.to) t) : MS n (s + 1) X t.1 t.2 := by
  have hm := h.ci.mail x (mem_of_getElem? hx)
  have hpl : InR bs.length x.to := by rw [h.len]; exact hm.to_
  obtain ⟨d1, d2, d3⟩ := drop_mem hx
  rcases ht with ⟨h1, _⟩ | ⟨_, rfl⟩
  · rw [hw] at h1; cases h1
  · have h1 := h.tot
    have h2 := h.meas
    have hci := h.ci.drop x d1 d2 (fun h3 => by rw [hw] at h3; cases h3)
    have hl : (fl.take i ++ fl.drop (i + 1)).length ≤ fl.length := by omega
    split
    · refine ⟨⟨h.len, hci, by simp only; omega, ?_⟩, h.clean⟩
      simp only
      unfold Go.Mine.meas at h2 ⊢
      omega
    · rename_i hu
      have hu' : undB (brs bs x.to).ends x.frm x.sent = false := by simpa using hu
      have f1 := nev_set (b := evS (brs bs x.to) ⟨1, 0, x.frm, x.sent, 0, 0⟩) hpl
      have f2 := tot_set (b := evS (brs bs x.to) ⟨1, 0, x.frm, x.sent, 0, 0⟩) hpl
      rw [len_evS] at f1
      rw [totB_evS] at f2
      refine ⟨⟨by rw [List.length_set]; exact h.len, ?_, ?_, ?_⟩, fun q hq => ?_⟩
      · rw [brs_set hpl]
        exact hci.event hm.to_ fun _ => ⟨hm.frm, hm.ne.symm, hm.lab hw⟩
      · simp only; omega
      · simp only
        unfold Go.Mine.meas at h2 ⊢
        omega
      · rw [brs_set hpl]
        by_cases e : q = x.to
        · subst e
          rw [upd_self]
          intro j y hy
          simp only [evS] at hy ⊢
          rcases Nat.lt_or_ge j (brs bs x.to).events.length with hj | hj
          · rw [List.getElem?_append_left hj] at hy
            exact h.clean _ hq j y hy
          · rw [List.getElem?_append_right hj] at hy
            have := mem_of_getElem? hy
            rw [List.mem_singleton] at this
            subst this
            simp [badE, hu']
        · rw [upd_ne e]; exact h.clean q hq
end Go.Mine
