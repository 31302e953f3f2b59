/- The invariant of the machine of package cascade. -/
import Derived.Test.YtddohdppmejjoaaP33b
set_option linter.unusedSimpArgs false
set_option linter.unusedVariables false
namespace Go.Mine
def InR (n p : Int) : Prop := 0 ≤ p ∧ p < n
/-- incarnation j of process p ended at X p j -/
abbrev Ends33 := Int → Int → Int
def Dead (X : Ends33) (m p : Int) (l : Lab) : Prop := ∃ j, l.inc ≤ j ∧ 0 ≤ j ∧ j < m ∧ X p j < l.index
def Pres (b : Branch) (l : Lab) : Prop := ∃ e, b.events[(l.index - 1).toNat]? = some e ∧ e.inc = l.inc
structure LbOK (X : Ends33) (b : Branch) (p : Int) (l : Lab) : Prop where
  pos : 1 ≤ l.index
  inc0 : 0 ≤ l.inc
  inc1 : l.inc ≤ b.inc
  or_ : Pres b l ∨ Dead X b.inc p l
structure EndOK (X : Ends33) (B : Int → Branch) (e : EndI) : Prop where
  inc0 : 0 ≤ e.inc
  inc1 : e.inc < (B e.proc).inc
  ix : e.index = X e.proc e.inc
structure MailOK (n : Int) (X : Ends33) (B : Int → Branch) (x : Letter) : Prop where
  to_ : InR n x.to
  frm : InR n x.frm
  ne : x.to ≠ x.frm
  lab : x.news = false → LbOK X (B x.frm) x.frm x.sent
  end_ : x.news = true → EndOK X B x.end_ ∧ x.end_.proc = x.frm
structure CI (n : Int) (X : Ends33) (B : Int → Branch) (fl : List Letter) : Prop where
  inc0 : ∀ p, InR n p → 0 ≤ (B p).inc
  stab : ∀ p, InR n p → 0 ≤ (B p).stable ∧ (B p).stable ≤ (B p).events.length
  stamp : ∀ p, InR n p → ∀ (k : Nat) (e : Evt), (B p).events[k]? = some e → 0 ≤ e.inc ∧ e.inc ≤ (B p).inc ∧ ¬ Dead X (B p).inc p ⟨e.inc, ((k + 1 : Nat) : Int)⟩
  mail : ∀ x ∈ fl, MailOK n X B x
  got : ∀ q, InR n q → ∀ (k : Nat) (e : Evt), (B q).events[k]? = some e → e.kind = 1 → InR n e.frm ∧ e.frm ≠ q ∧ LbOK X (B e.frm) e.frm e.sent
  known : ∀ p q, InR n p → InR n q → ∀ j, 0 ≤ j → j < (B p).inc → (∀ l : Lab, l.inc ≤ j → X p j < l.index → Und (B q).ends p l) ∨ ∃ x ∈ fl, x.news = true ∧ x.to = q ∧ x.end_ = ⟨p, j, X p j⟩
  ends : ∀ q, InR n q → ∀ e ∈ (B q).ends, InR n e.proc ∧ EndOK X B e
  sorted : ∀ q, InR n q → (B q).ends.Pairwise klt
/-- no event of q is known to q to have received what is undone -/
def Clean (b : Branch) : Prop := ∀ (j : Nat) (y : Evt), b.events[j]? = some y → badE b.ends y = false
def upd (B : Int → Branch) (p : Int) (b : Branch) : Int → Branch := fun q => if q = p then b else B q
theorem upd_self {B : Int → Branch} {p : Int} {b : Branch} : upd B p b p = b := by simp [upd]
theorem upd_ne {B : Int → Branch} {p q : Int} {b : Branch} (h : q ≠ p) : upd B p b q = B q := by simp [upd, h]
theorem Dead.more {X X' : Ends33} {m m' p : Int} {l : Lab} (h : Dead X m p l) (hm : m ≤ m') (hX : ∀ j, 0 ≤ j → j < m → X' p j = X p j) : Dead X' m' p l := by
  obtain ⟨j, h1, h2, h3, h4⟩ := h
  exact ⟨j, h1, h2, by omega, by rw [hX j h2 h3]; exact h4⟩
/-- a letter goes: what it told must be known -/
theorem CI.drop {n : Int} {X : Ends33} {B : Int → Branch} {fl fl' : List Letter} (h : CI n X B fl) (x : Letter) (hsub : ∀ y ∈ fl', y ∈ fl) (hmem : ∀ y ∈ fl, y = x ∨ y ∈ fl')
    (hk : x.news = true → ∀ l : Lab, l.inc ≤ x.end_.inc → x.end_.index < l.index → Und (B x.to).ends x.end_.proc l) : CI n X B fl' where
  inc0 := h.inc0
  stab := h.stab
  stamp := h.stamp
  mail y hy := h.mail y (hsub y hy)
  got := h.got
  known p q hp hq j h0 h1 := by
    rcases h.known p q hp hq j h0 h1 with h2 | ⟨y, hy, h3, h4, h5⟩
    · exact .inl h2
    · rcases hmem y hy with rfl | hy'
      · refine .inl fun l hl1 hl2 => ?_
        have := hk h3 l (by rw [h5]; exact hl1) (by rw [h5]; exact hl2)
        rw [h4, h5] at this; exact this
      · exact .inr ⟨y, hy', h3, h4, h5⟩
  ends := h.ends
  sorted := h.sorted
/-- an event more: a send event, or a message received -/
theorem CI.event {n : Int} {X : Ends33} {B : Int → Branch} {fl : List Letter} (h : CI n X B fl) {p : Int} (hp : InR n p) {e : Evt}
    (he : e.kind = 1 → InR n e.frm ∧ e.frm ≠ p ∧ LbOK X (B e.frm) e.frm e.sent) : CI n X (upd B p (evS (B p) e)) fl := by
  have hinc : ∀ q, (upd B p (evS (B p) e) q).inc = (B q).inc := fun q => by
    by_cases hq : q = p
    · subst hq; rw [upd_self]; rfl
    · rw [upd_ne hq]
  have hends : ∀ q, (upd B p (evS (B p) e) q).ends = (B q).ends := fun q => by
    by_cases hq : q = p
    · subst hq; rw [upd_self]; rfl
    · rw [upd_ne hq]
  have hev : ∀ q (k : Nat) (y : Evt), (upd B p (evS (B p) e) q).events[k]? = some y → (B q).events[k]? = some y ∨ (q = p ∧ k = (B p).events.length ∧ y = { e with inc := (B p).inc }) := fun q k y hy => by
    by_cases hq : q = p
    · subst hq
      rw [upd_self] at hy
      simp only [evS] at hy
      rcases Nat.lt_or_ge k (B q).events.length with hk | hk
      · rw [List.getElem?_append_left hk] at hy; exact .inl hy
      · rw [List.getElem?_append_right hk] at hy
        have hk' : k - (B q).events.length = 0 := by
          rcases Nat.eq_zero_or_pos (k - (B q).events.length) with h | h
          · exact h
          · rw [List.getElem?_eq_none (by simp; omega)] at hy; cases hy
        rw [hk'] at hy; simp at hy
        exact .inr ⟨rfl, by omega, hy.symm⟩
    · rw [upd_ne hq] at hy; exact .inl hy
  have hpres : ∀ q l, Pres (B q) l → Pres (upd B p (evS (B p) e) q) l := fun q l ⟨y, hy, hi⟩ => by
    by_cases hq : q = p
    · subst hq
      rw [upd_self]
      exact ⟨y, by simp only [evS]; rw [List.getElem?_append_left (List.getElem?_eq_some_iff.1 hy).1]; exact hy, hi⟩
    · rw [upd_ne hq]; exact ⟨y, hy, hi⟩
  have hlb : ∀ q l, LbOK X (B q) q l → LbOK X (upd B p (evS (B p) e) q) q l := fun q l hl =>
    ⟨hl.pos, hl.inc0, by rw [hinc]; exact hl.inc1, by rw [hinc]; exact hl.or_.imp (hpres q l) id⟩
  exact {
    inc0 := fun q hq => by rw [hinc]; exact h.inc0 q hq
    stab := fun q hq => by
      by_cases hqp : q = p
      · subst hqp; rw [upd_self]; have := h.stab q hq; simp only [evS, List.length_append, List.length_singleton]; omega
      · rw [upd_ne hqp]; exact h.stab q hq
    stamp := fun q hq k y hy => by
      rw [hinc]
      rcases hev q k y hy with h1 | ⟨rfl, rfl, rfl⟩
      · exact h.stamp q hq k y h1
      · exact ⟨h.inc0 q hq, Int.le_refl _, fun ⟨j, h1, h2, h3, _⟩ => by simp only at h1; omega⟩
    mail := fun x hx => by
      have := h.mail x hx
      exact ⟨this.to_, this.frm, this.ne, fun h1 => hlb _ _ (this.lab h1), fun h1 => ⟨⟨(this.end_ h1).1.inc0, by rw [hinc]; exact (this.end_ h1).1.inc1, (this.end_ h1).1.ix⟩, (this.end_ h1).2⟩⟩
    got := fun q hq k y hy hk => by
      rcases hev q k y hy with h1 | ⟨rfl, rfl, rfl⟩
      · obtain ⟨g1, g2, g3⟩ := h.got q hq k y h1 hk
        exact ⟨g1, g2, hlb _ _ g3⟩
      · obtain ⟨g1, g2, g3⟩ := he hk
        exact ⟨g1, g2, hlb _ _ g3⟩
    known := fun a q ha hq j h0 h1 => by rw [hinc] at h1; rw [hends]; exact h.known a q ha hq j h0 h1
    ends := fun q hq y hy => by
      rw [hends] at hy
      obtain ⟨g1, g2⟩ := h.ends q hq y hy
      exact ⟨g1, ⟨g2.inc0, by rw [hinc]; exact g2.inc1, g2.ix⟩⟩
    sorted := fun q hq => by rw [hends]; exact h.sorted q hq }
/-- a process learns of an end -/
theorem CI.learn {n : Int} {X : Ends33} {B : Int → Branch} {fl : List Letter} (h : CI n X B fl) {q : Int} (hq : InR n q) {e : EndI} (he : InR n e.proc ∧ EndOK X B e) {r : List EndI} (hr : Red ((B q).ends ++ [e]) r) :
    CI n X (upd B q { B q with ends := r }) fl := by
  have hinc : ∀ a, (upd B q { B q with ends := r } a).inc = (B a).inc := fun a => by
    by_cases ha : a = q
    · subst ha; rw [upd_self]
    · rw [upd_ne ha]
  have hev : ∀ a, (upd B q { B q with ends := r } a).events = (B a).events := fun a => by
    by_cases ha : a = q
    · subst ha; rw [upd_self]
    · rw [upd_ne ha]
  have hst : ∀ a, (upd B q { B q with ends := r } a).stable = (B a).stable := fun a => by
    by_cases ha : a = q
    · subst ha; rw [upd_self]
    · rw [upd_ne ha]
  have hlb : ∀ a l, LbOK X (B a) a l → LbOK X (upd B q { B q with ends := r } a) a l := fun a l hl =>
    ⟨hl.pos, hl.inc0, by rw [hinc]; exact hl.inc1, by rw [hinc]; refine hl.or_.imp ?_ id; rintro ⟨y, hy, hi⟩; exact ⟨y, by rw [hev]; exact hy, hi⟩⟩
  have heo : ∀ y, EndOK X B y → EndOK X (upd B q { B q with ends := r }) y := fun y hy => ⟨hy.inc0, by rw [hinc]; exact hy.inc1, hy.ix⟩
  exact {
    inc0 := fun a ha => by rw [hinc]; exact h.inc0 a ha
    stab := fun a ha => by rw [hst, hev]; exact h.stab a ha
    stamp := fun a ha k y hy => by rw [hinc]; rw [hev] at hy; exact h.stamp a ha k y hy
    mail := fun x hx => by
      have := h.mail x hx
      exact ⟨this.to_, this.frm, this.ne, fun h1 => hlb _ _ (this.lab h1), fun h1 => ⟨heo _ (this.end_ h1).1, (this.end_ h1).2⟩⟩
    got := fun a ha k y hy hk => by
      rw [hev] at hy
      obtain ⟨g1, g2, g3⟩ := h.got a ha k y hy hk
      exact ⟨g1, g2, hlb _ _ g3⟩
    known := fun p a hp ha j h0 h1 => by
      rw [hinc] at h1
      rcases h.known p a hp ha j h0 h1 with h2 | h2
      · refine .inl fun l hl1 hl2 => ?_
        have := h2 l hl1 hl2
        by_cases hqa : a = q
        · subst hqa; rw [upd_self]; obtain ⟨y, hy, h3⟩ := this; exact hr.und.2 ⟨y, by simp [hy], h3⟩
        · rw [upd_ne hqa]; exact this
      · exact .inr h2
    ends := fun a ha y hy => by
      by_cases hqa : a = q
      · subst hqa
        rw [upd_self] at hy
        have hm := hr.sub y hy
        rw [List.mem_append, List.mem_singleton] at hm
        rcases hm with hm | rfl
        · obtain ⟨g1, g2⟩ := h.ends a ha y hm; exact ⟨g1, heo y g2⟩
        · exact ⟨he.1, heo y he.2⟩
      · rw [upd_ne hqa] at hy; obtain ⟨g1, g2⟩ := h.ends a ha y hy; exact ⟨g1, heo y g2⟩
    sorted := fun a ha => by
      by_cases hqa : a = q
      · subst hqa; rw [upd_self]; exact hr.sort
      · rw [upd_ne hqa]; exact h.sorted a ha }
/-- the end of an incarnation -/
def newX (X : Ends33) (p i x : Int) : Ends33 := fun a j => if a = p ∧ j = i then x else X a j
theorem mem_newsL {p n : Nat} {e : EndI} {y : Letter} : y ∈ newsL p e n ↔ ∃ q : Nat, q < n ∧ q ≠ p ∧ y = ⟨(p : Int), (q : Int), true, ⟨0, 0⟩, e⟩ := by
  unfold newsL
  simp only [List.mem_map, List.mem_filter, List.mem_range, bne_iff_ne, ne_eq]
  constructor
  · rintro ⟨q, ⟨h1, h2⟩, rfl⟩; exact ⟨q, h1, h2, rfl⟩
  · rintro ⟨q, h1, h2, rfl⟩; exact ⟨q, ⟨h1, h2⟩, rfl⟩
theorem newX_ne {X : Ends33} {p i x a j : Int} (h : ¬ (a = p ∧ j = i)) : newX X p i x a j = X a j := by unfold newX; rw [if_neg h]
theorem newX_self {X : Ends33} {p i x : Int} : newX X p i x p i = x := by simp [newX]
theorem LbOK.back {X : Ends33} {B : Int → Branch} {p x a : Int} {r : List EndI} {l : Lab} (h : LbOK X (B a) a l) : LbOK (newX X p (B p).inc x) (upd B p (goB (B p) x r) a) a l := by
  have h1 := h.inc0
  have h2 := h.inc1
  by_cases ha : a = p
  · subst ha
    rw [upd_self]
    refine ⟨h.pos, h.inc0, by simp only [goB]; omega, ?_⟩
    rcases h.or_ with ⟨e, he, hi⟩ | hd
    · by_cases hl : l.index ≤ x
      · have := h.pos
        exact .inl ⟨e, by simp only [goB]; rw [List.getElem?_take, if_pos (by omega)]; exact he, hi⟩
      · exact .inr ⟨(B a).inc, h.inc1, by omega, by simp only [goB]; omega, by rw [newX_self]; omega⟩
    · exact .inr (hd.more (by simp only [goB]; omega) fun j _ h4 => newX_ne (by omega))
  · rw [upd_ne ha]
    exact ⟨h.pos, h.inc0, h.inc1, h.or_.imp id fun hd => hd.more (Int.le_refl _) fun j _ _ => newX_ne (by simp [ha])⟩
theorem EndOK.back {X : Ends33} {B : Int → Branch} {p x : Int} {r : List EndI} {e : EndI} (h : EndOK X B e) : EndOK (newX X p (B p).inc x) (upd B p (goB (B p) x r)) e := by
  have h1 := h.inc1
  refine ⟨h.inc0, ?_, ?_⟩
  · by_cases ha : e.proc = p
    · rw [ha, upd_self]; rw [ha] at h1; simp only [goB]; omega
    · rw [upd_ne ha]; exact h1
  · rw [newX_ne]
    · exact h.ix
    · rintro ⟨g1, g2⟩; rw [g1] at h1; omega
/-- a process goes back -/
theorem CI.back {n : Int} {X : Ends33} {B : Int → Branch} {fl : List Letter} (h : CI n X B fl) {p x : Int} (hp : InR n p) (hx0 : 0 ≤ x) (hx : x ≤ (B p).events.length) {r : List EndI} (hr : Red ((B p).ends ++ [⟨p, (B p).inc, x⟩]) r) {m : Nat} (hm : (m : Int) = n) :
    CI n (newX X p (B p).inc x) (upd B p (goB (B p) x r)) (fl ++ newsL p.toNat ⟨p, (B p).inc, x⟩ m) := by
  obtain ⟨hp0, hp1⟩ := hp
  have hi := h.inc0 p ⟨hp0, hp1⟩
  have hlen : (List.take x.toNat (B p).events).length = x.toNat := by rw [List.length_take]; omega
  have hends : ∀ q, q ≠ p → (upd B p (goB (B p) x r) q) = B q := fun q hq => upd_ne hq
  exact {
    inc0 := fun q hq => by
      by_cases e : q = p
      · subst e; rw [upd_self]; simp only [goB]; omega
      · rw [upd_ne e]; exact h.inc0 q hq
    stab := fun q hq => by
      by_cases e : q = p
      · subst e; rw [upd_self]; simp only [goB, hlen]; have := h.stab q hq; omega
      · rw [upd_ne e]; exact h.stab q hq
    stamp := fun q hq k y hy => by
      by_cases e : q = p
      · subst e
        rw [upd_self] at hy ⊢
        simp only [goB] at hy ⊢
        rw [List.getElem?_take] at hy
        split at hy
        · rename_i hk
          obtain ⟨g1, g2, g3⟩ := h.stamp q hq k y hy
          refine ⟨g1, by omega, ?_⟩
          rintro ⟨j, j1, j2, j3, j4⟩
          rcases (by omega : j = (B q).inc ∨ j < (B q).inc) with e2 | e2
          · rw [e2, newX_self] at j4; simp only at j4; omega
          · rw [newX_ne (by omega)] at j4; exact g3 ⟨j, j1, j2, e2, j4⟩
        · cases hy
      · rw [upd_ne e] at hy ⊢
        obtain ⟨g1, g2, g3⟩ := h.stamp q hq k y hy
        refine ⟨g1, g2, fun hd => g3 (hd.more (Int.le_refl _) fun j _ _ => (newX_ne (by simp [e])).symm)⟩
    mail := fun y hy => by
      rw [List.mem_append] at hy
      rcases hy with hy | hy
      · have := h.mail y hy
        exact ⟨this.to_, this.frm, this.ne, fun h1 => (this.lab h1).back, fun h1 => ⟨(this.end_ h1).1.back, (this.end_ h1).2⟩⟩
      · obtain ⟨q, h1, h2, rfl⟩ := mem_newsL.1 hy
        refine ⟨⟨by simp only; omega, by simp only; omega⟩, ⟨by simp only; omega, by simp only; omega⟩, by simp only; omega, fun h => by simp at h, fun _ => ⟨⟨hi, ?_, newX_self.symm⟩, by simp only; omega⟩⟩
        simp only; rw [upd_self]; simp only [goB]; omega
    got := fun q hq k y hy hk => by
      have hy' : (B q).events[k]? = some y := by
        by_cases e : q = p
        · subst e
          rw [upd_self] at hy
          simp only [goB] at hy
          rw [List.getElem?_take] at hy
          split at hy
          · exact hy
          · cases hy
        · rw [upd_ne e] at hy; exact hy
      obtain ⟨g1, g2, g3⟩ := h.got q hq k y hy' hk
      exact ⟨g1, g2, g3.back⟩
    known := fun a q ha hq j h0 h1 => by
      have und : ∀ e l, Und (B q).ends e l → Und (upd B p (goB (B p) x r) q).ends e l := fun e l hu => by
        by_cases e1 : q = p
        · subst e1
          rw [upd_self]
          obtain ⟨y, hy, h3⟩ := hu
          exact hr.und.2 ⟨y, by simp [hy], h3⟩
        · rw [upd_ne e1]; exact hu
      have old : ∀ j, 0 ≤ j → j < (B a).inc → ¬ (a = p ∧ j = (B p).inc) → (∀ l : Lab, l.inc ≤ j → newX X p (B p).inc x a j < l.index → Und (upd B p (goB (B p) x r) q).ends a l) ∨ ∃ y ∈ fl ++ newsL p.toNat ⟨p, (B p).inc, x⟩ m, y.news = true ∧ y.to = q ∧ y.end_ = ⟨a, j, newX X p (B p).inc x a j⟩ := fun j h0 h1 hne => by
        rw [newX_ne hne]
        rcases h.known a q ha hq j h0 h1 with h2 | ⟨y, hy, h2⟩
        · exact .inl fun l h3 h4 => und a l (h2 l h3 h4)
        · exact .inr ⟨y, by simp [hy], h2⟩
      by_cases e : a = p
      · subst e
        rw [upd_self] at h1
        simp only [goB] at h1
        rcases (by omega : j = (B a).inc ∨ j < (B a).inc) with e2 | e2
        · subst e2
          rw [newX_self]
          by_cases e3 : q = a
          · subst e3
            refine .inl fun l h3 h4 => ?_
            rw [upd_self]
            exact hr.und.2 ⟨⟨q, (B q).inc, x⟩, by simp, rfl, h3, h4⟩
          · obtain ⟨hq0, hq1⟩ := hq
            refine .inr ⟨⟨((a.toNat : Nat) : Int), ((q.toNat : Nat) : Int), true, ⟨0, 0⟩, ⟨a, (B a).inc, x⟩⟩, ?_, rfl, by simp only; omega, rfl⟩
            rw [List.mem_append]
            exact .inr (mem_newsL.2 ⟨q.toNat, by omega, by omega, rfl⟩)
        · exact old j h0 e2 (by omega)
      · rw [upd_ne e] at h1
        exact old j h0 h1 (by simp [e])
    ends := fun q hq y hy => by
      by_cases e : q = p
      · subst e
        rw [upd_self] at hy
        have hm := hr.sub y hy
        rw [List.mem_append, List.mem_singleton] at hm
        rcases hm with hm | rfl
        · obtain ⟨g1, g2⟩ := h.ends q hq y hm; exact ⟨g1, g2.back⟩
        · exact ⟨⟨hp0, hp1⟩, ⟨hi, by simp only; rw [upd_self]; simp only [goB]; omega, newX_self.symm⟩⟩
      · rw [upd_ne e] at hy; obtain ⟨g1, g2⟩ := h.ends q hq y hy; exact ⟨g1, g2.back⟩
    sorted := fun q hq => by
      by_cases e : q = p
      · subst e; rw [upd_self]; exact hr.sort
      · rw [upd_ne e]; exact h.sorted q hq }
/-- a message is sent -/
theorem CI.letter {n : Int} {X : Ends33} {B : Int → Branch} {fl : List Letter} (h : CI n X B fl) {x : Letter} (hx : MailOK n X B x) : CI n X B (fl ++ [x]) where
  inc0 := h.inc0
  stab := h.stab
  stamp := h.stamp
  mail y hy := by
    rw [List.mem_append, List.mem_singleton] at hy
    rcases hy with hy | rfl
    · exact h.mail y hy
    · exact hx
  got := h.got
  known p q hp hq j h0 h1 := (h.known p q hp hq j h0 h1).imp id fun ⟨y, hy, h2⟩ => ⟨y, by simp [hy], h2⟩
  ends := h.ends
  sorted := h.sorted
/-- the events of a process become stable -/
theorem CI.flush {n : Int} {X : Ends33} {B : Int → Branch} {fl : List Letter} (h : CI n X B fl) {p : Int} (hp : InR n p) : CI n X (upd B p { B p with stable := ((B p).events.length : Int) }) fl := by
  have hinc : ∀ a, (upd B p { B p with stable := ((B p).events.length : Int) } a).inc = (B a).inc := fun a => by
    by_cases ha : a = p
    · subst ha; rw [upd_self]
    · rw [upd_ne ha]
  have hev : ∀ a, (upd B p { B p with stable := ((B p).events.length : Int) } a).events = (B a).events := fun a => by
    by_cases ha : a = p
    · subst ha; rw [upd_self]
    · rw [upd_ne ha]
  have hen : ∀ a, (upd B p { B p with stable := ((B p).events.length : Int) } a).ends = (B a).ends := fun a => by
    by_cases ha : a = p
    · subst ha; rw [upd_self]
    · rw [upd_ne ha]
  have hlb : ∀ a l, LbOK X (B a) a l → LbOK X (upd B p { B p with stable := ((B p).events.length : Int) } a) a l := fun a l hl =>
    ⟨hl.pos, hl.inc0, by rw [hinc]; exact hl.inc1, by rw [hinc]; refine hl.or_.imp ?_ id; rintro ⟨y, hy, hi⟩; exact ⟨y, by rw [hev]; exact hy, hi⟩⟩
  have heo : ∀ y, EndOK X B y → EndOK X (upd B p { B p with stable := ((B p).events.length : Int) }) y := fun y hy => ⟨hy.inc0, by rw [hinc]; exact hy.inc1, hy.ix⟩
  exact {
    inc0 := fun a ha => by rw [hinc]; exact h.inc0 a ha
    stab := fun a ha => by
      by_cases e : a = p
      · subst e; rw [upd_self]; simp only; omega
      · rw [upd_ne e]; exact h.stab a ha
    stamp := fun a ha k y hy => by rw [hinc]; rw [hev] at hy; exact h.stamp a ha k y hy
    mail := fun x hx => by
      have := h.mail x hx
      exact ⟨this.to_, this.frm, this.ne, fun h1 => hlb _ _ (this.lab h1), fun h1 => ⟨heo _ (this.end_ h1).1, (this.end_ h1).2⟩⟩
    got := fun a ha k y hy hk => by
      rw [hev] at hy
      obtain ⟨g1, g2, g3⟩ := h.got a ha k y hy hk
      exact ⟨g1, g2, hlb _ _ g3⟩
    known := fun a q ha hq j h0 h1 => by
      rw [hinc] at h1
      rw [hen]
      exact h.known a q ha hq j h0 h1
    ends := fun a ha y hy => by rw [hen] at hy; obtain ⟨g1, g2⟩ := h.ends a ha y hy; exact ⟨g1, heo y g2⟩
    sorted := fun a ha => by rw [hen]; exact h.sorted a ha }
end Go.Mine
