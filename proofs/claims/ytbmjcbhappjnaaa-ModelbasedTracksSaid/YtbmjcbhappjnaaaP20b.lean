/- The rollback-dependency graph, plain: the edges, sorted and each once. -/
import Derived.Test.YtbmjcbhappjnaaaA20b
import Derived.Test.YtbmjcbhappjnaaaP20a
set_option linter.unusedSimpArgs false
set_option linter.unusedVariables false
namespace Go.Mine
open Go.RowKit
theorem dropL_ok {α : Type} {xs : List α} {j : Nat} (h : j ≤ xs.length) : dropL xs (j : Int) = some (xs.drop j) := by
  unfold dropL; rw [if_pos ⟨by omega, by simpa using h⟩]; simp
/-! slices.Compact -/
theorem adj_lt {l : List Pt2} (hs : l.Pairwise fun x y => ¬ E2lt y x) {j : Nat} (h1 : 1 ≤ j) {a b : Pt2} (ha : l[j - 1]? = some a) (hb : l[j]? = some b) (hne : b ≠ a) : E2lt a b := by
  obtain ⟨i1, rfl⟩ := List.getElem?_eq_some_iff.1 ha
  obtain ⟨i2, rfl⟩ := List.getElem?_eq_some_iff.1 hb
  rcases E2lt.tri (l[j - 1]) (l[j]) with h | h | h
  · exact h
  · exact absurd h.symm hne
  · exact absurd h (List.pairwise_iff_getElem.1 hs (j - 1) j i1 i2 (by omega))
theorem strict_of {l : List Pt2} (hs : l.Pairwise fun x y => ¬ E2lt y x) {k : Nat} (hk : k ≤ l.length) (hd : ∀ j, 1 ≤ j → j < k → l[j]? ≠ l[j - 1]?) : (l.take k).Pairwise E2lt := by
  rw [List.pairwise_iff_getElem]
  intro i j hi hj hij
  have hj' : j < k := by simp at hj; omega
  have adj : ∀ j, 1 ≤ j → (h : j < k) → E2lt (l[j - 1]'(by omega)) (l[j]'(by omega)) := fun j h1 h2 =>
    adj_lt hs h1 (by simp) (by simp) fun e => hd j h1 h2 (by rw [List.getElem?_eq_getElem (by omega), List.getElem?_eq_getElem (by omega), e])
  have key : ∀ d, (h : i + 1 + d < k) → E2lt (l[i]'(by omega)) (l[i + 1 + d]'(by omega)) := by
    intro d
    induction d with
    | zero => intro h; exact adj (i + 1) (by omega) h
    | succ d ih => intro h; exact (ih (by omega)).trans (adj (i + 1 + (d + 1)) (by omega) h)
  have := key (j - (i + 1)) (by omega)
  simp only [List.getElem_take]
  have e : i + 1 + (j - (i + 1)) = j := by omega
  simp only [e] at this
  exact this
theorem compact_g {fuel : Nat} {l : List Pt2} (hs : l.Pairwise fun x y => ¬ E2lt y x) (hw : l.length ≤ 10000) (hf : 1000000 < fuel) : Ok (Compact fuel l) fun r => r.Pairwise E2lt ∧ (∀ e, e ∈ r ↔ e ∈ l) ∧ r.length ≤ l.length := by
  unfold Compact
  refine Ok.iteP (fun h2 => Ok.ret ⟨?_, fun e => Iff.rfl, Nat.le_refl _⟩) fun h2 => ?_
  · have h3 : l.length < 2 := by omega
    match l, h3 with
    | [], _ => exact List.Pairwise.nil
    | [a], _ => exact List.pairwise_singleton _ _
    | a :: b :: t, h => simp at h; omega
  refine Ok.bind (Q := fun t => match t with | .inl _ => ∀ j, 1 ≤ j → j < l.length → l[j]? ≠ l[j - 1]? | .inr r => r.Pairwise E2lt ∧ (∀ e, e ∈ r ↔ e ∈ l) ∧ r.length ≤ l.length)
    (Ok.run (fun m s => ∃ k : Nat, s = (k : Int) ∧ 1 ≤ k ∧ k ≤ l.length ∧ m + k = l.length ∧ ∀ j, 1 ≤ j → j < k → l[j]? ≠ l[j - 1]?) (m := l.length - 1) ⟨1, rfl, Nat.le_refl _, by omega, by omega, fun j h1 h2 => by omega⟩ (by omega) ?_) ?_
  · rintro m s ⟨k0, rfl, hk1, hkl, hmk, hd⟩
    unfold Compact_B1
    refine Ok.iteP (fun hk => ?_) (fun hk => Ok.ret fun j h1 h3 => hd j h1 (by omega))
    have hk : k0 < l.length := by omega
    rw [ati_get hk, Option.bind_some, w64_id (by omega) (by omega), show (k0 : Int) - 1 = ((k0 - 1 : Nat) : Int) by omega, ati_get (by omega), Option.bind_some]
    simp only [eq4]
    refine Ok.iteP (fun he => ?_) (fun he => Ok.ret ⟨m - 1, by omega, k0 + 1, w64_nat (by omega), by omega, by omega, by omega, fun j h1 h3 => ?_⟩)
    · rw [dropL_ok (by omega), Option.bind_some]
      refine Ok.bind (Q := fun t => ∃ kk : Nat, t.2 = (kk : Int) ∧ kk ≤ l.length ∧ t.1.length = l.length ∧ (t.1.take kk).Pairwise E2lt ∧ ∀ e, e ∈ t.1.take kk ↔ e ∈ l)
        (Ok.run (fun m s => ∃ kk c : Nat, s.2.1 = (kk : Int) ∧ s.2.2 = (c : Int) ∧ 1 ≤ c ∧ k0 + c + m = l.length ∧ k0 ≤ kk ∧ kk + 1 ≤ k0 + c ∧ s.1.length = l.length ∧ (∀ j, k0 + c ≤ j + 1 → s.1[j]? = l[j]?) ∧ (s.1.take kk).Pairwise E2lt ∧ (∀ e, e ∈ s.1.take kk ↔ e ∈ l.take (k0 + c)) ∧ s.1[kk - 1]? = l[k0 + c - 1]?)
          (m := l.length - (k0 + 1)) ⟨k0, 1, rfl, rfl, Nat.le_refl _, by omega, Nat.le_refl _, Nat.le_refl _, rfl, fun j _ => rfl, strict_of hs (by omega) hd, fun e => ?_, ?_⟩ (by omega) ?_) ?_
      · constructor
        · intro h3; exact mem_take_succ'.2 (.inl h3)
        · intro h3
          rcases mem_take_succ'.1 h3 with h4 | h4
          · exact h4
          · rw [List.getElem?_eq_getElem hk, he] at h4
            refine List.mem_iff_getElem?.2 ⟨k0 - 1, ?_⟩
            rw [List.getElem?_take_of_lt (by omega), ← h4]; simp
      · rw [show k0 + 1 - 1 = k0 by omega, List.getElem?_eq_getElem hk, he]; simp
      · rintro m2 ⟨xs, k, c⟩ ⟨kk, cc, e1, e2, hc1, hcm, hk0, hkc, hxl, hsame, hst, hmem, hlast⟩
        simp only at e1 e2 hxl hsame hst hmem hlast
        subst e1 e2
        simp only [Compact_B2]
        rw [dropL_ok (by omega), Option.bind_some]
        refine Ok.iteP (fun hcl => ?_) (fun hcl => Ok.ret ?_)
        · have hcl' : k0 + cc < l.length := by simp at hcl; omega
          have g1 : ati (xs.drop k0) (cc : Int) = some (l[k0 + cc]'hcl') := by
            rw [ati_cast, List.getElem?_drop, hsame (k0 + cc) (by omega)]; simp
          have g2 : ati (xs.drop k0) (w64 ((cc : Int) - 1)) = some (l[k0 + cc - 1]'(by omega)) := by
            rw [w64_id (by omega) (by omega), show (cc : Int) - 1 = ((cc - 1 : Nat) : Int) by omega, ati_cast, List.getElem?_drop, show k0 + (cc - 1) = k0 + cc - 1 by omega, hsame (k0 + cc - 1) (by omega)]; simp
          rw [Option.bind_some, g1, Option.bind_some, Option.bind_some, g2, Option.bind_some]
          refine Ok.ite (fun hne => ?_) (fun heq => Ok.ret ⟨m2 - 1, by omega, kk, cc + 1, rfl, w64_nat (by omega), by omega, by omega, hk0, by omega, hxl, fun j hj => hsame j (by omega), hst, fun e => ?_, ?_⟩)
          · have hne' : l[k0 + cc]'hcl' ≠ l[k0 + cc - 1]'(by omega) := by rw [eq4] at hne; simpa using hne
            rw [Option.bind_some, g1, Option.bind_some]
            refine (Ok.at (by omega) (by omega)).bind fun _ _ => (Ok.set (by omega) (by omega)).bind fun ys hys => Ok.ret ⟨m2 - 1, by omega, kk + 1, cc + 1, w64_nat (by omega), w64_nat (by omega), by omega, by omega, by omega, by omega, ?_⟩
            rw [Int.toNat_natCast] at hys
            subst hys
            simp only
            have htk : (xs.set kk (l[k0 + cc]'hcl')).take (kk + 1) = xs.take kk ++ [l[k0 + cc]'hcl'] := by
              rw [List.take_add_one, List.take_set_of_le (Nat.le_refl _)]
              simp [(show kk < xs.length by omega)]
            refine ⟨by simp [hxl], fun j hj => ?_, ?_, fun e => ?_, ?_⟩
            · rw [getElem?_set' (by omega), if_neg (by omega)]; exact hsame j (by omega)
            · rw [htk, List.pairwise_append]
              refine ⟨hst, List.pairwise_singleton _ _, fun a ha b hb => ?_⟩
              simp at hb; subst hb
              have hlt : E2lt (l[k0 + cc - 1]'(by omega)) (l[k0 + cc]'hcl') := adj_lt hs (j := k0 + cc) (by omega) (by simp) (by simp) hne'
              obtain ⟨i, hi, rfl⟩ := List.getElem_of_mem ha
              have hik : i < kk := by simp at hi; omega
              rcases Nat.lt_or_ge i (kk - 1) with h4 | h4
              · have h5 := List.pairwise_iff_getElem.1 hst i (kk - 1) hi (by simp; omega) h4
                refine h5.trans ?_
                have h6 : (xs.take kk)[kk - 1]'(by simp; omega) = l[k0 + cc - 1]'(by omega) := by
                  rw [List.getElem_take]
                  have := hlast
                  rw [List.getElem?_eq_getElem (by omega), List.getElem?_eq_getElem (by omega)] at this
                  exact Option.some.inj this
                rw [h6]; exact hlt
              · have : i = kk - 1 := by omega
                subst this
                have h6 : (xs.take kk)[kk - 1]'hi = l[k0 + cc - 1]'(by omega) := by
                  rw [List.getElem_take]
                  have := hlast
                  rw [List.getElem?_eq_getElem (by omega), List.getElem?_eq_getElem (by omega)] at this
                  exact Option.some.inj this
                rw [h6]; exact hlt
            · rw [htk, List.mem_append, List.mem_singleton, hmem e, show k0 + (cc + 1) = k0 + cc + 1 by omega, mem_take_succ', List.getElem?_eq_getElem hcl', Option.some.injEq]
              exact or_congr_right eq_comm
            · rw [getElem?_set' (by omega), if_pos (by omega), show k0 + (cc + 1) - 1 = k0 + cc by omega]; simp
          · have heq' : l[k0 + cc]'hcl' = l[k0 + cc - 1]'(by omega) := by rw [eq4] at heq; simpa using heq
            rw [hmem e, show k0 + (cc + 1) = k0 + cc + 1 by omega, mem_take_succ']
            constructor
            · exact .inl
            · rintro (h4 | h4)
              · exact h4
              · rw [List.getElem?_eq_getElem hcl', heq'] at h4
                refine List.mem_iff_getElem?.2 ⟨k0 + cc - 1, ?_⟩
                rw [List.getElem?_take_of_lt (by omega), ← h4]; simp
          · have heq' : l[k0 + cc]'hcl' = l[k0 + cc - 1]'(by omega) := by rw [eq4] at heq; simpa using heq
            show xs[kk - 1]? = _
            rw [hlast, show k0 + (cc + 1) - 1 = k0 + cc by omega, List.getElem?_eq_getElem hcl', heq']; simp
        · have hcl' : k0 + cc = l.length := by simp at hcl; omega
          refine ⟨kk, rfl, by omega, hxl, hst, fun e => ?_⟩
          rw [hmem e, hcl', List.take_length]
      · rintro ⟨xs, k⟩ ⟨kk, e1, hkk, hxl, hst, hmem⟩
        simp only at e1 hxl hst hmem
        subst e1
        simp only [Compact_K2]
        rw [dropL_ok (by omega), Option.bind_some, Option.bind_some, Option.bind_some]
        refine (Ok.take (by omega) (by rw [clearL_length (by omega)]; omega)).bind fun r hr => Ok.ret ?_
        have hr2 : r = xs.take kk := by
          rw [hr, Int.toNat_natCast]; unfold clearL
          rw [List.take_append_of_le_length (by simp; omega), List.take_take, Nat.min_self]
        subst hr2
        exact ⟨hst, hmem, by simp; omega⟩
    · rcases Nat.lt_or_ge j k0 with h4 | h4
      · exact hd j h1 h4
      · have : j = k0 := by omega
        subst this
        rw [List.getElem?_eq_getElem hk, List.getElem?_eq_getElem (by omega)]
        exact fun e => he (Option.some.inj e)
  · rintro (u | r) ht
    · refine Ok.ret ⟨?_, fun e => Iff.rfl, Nat.le_refl _⟩
      have := strict_of hs (Nat.le_refl _) ht
      rwa [List.take_length] at this
    · exact Ok.ret ht
/-! which edges there are -/
def arcE (p : Pat) (a : Arc) : Pt2 := ⟨⟨a.fr, (ivl (ckR p a.fr) a.ix : Int)⟩, ⟨a.to, (ivl (ckR p a.to) a.rcv : Int)⟩⟩
def chE (q j : Nat) : Pt2 := ⟨⟨q, j⟩, ⟨q, ((j + 1 : Nat) : Int)⟩⟩
def IsEdge (n : Nat) (p : Pat) (e : Pt2) : Prop := (∃ q j : Nat, q < n ∧ j < (ckR p q).length ∧ e = chE q j) ∨ ∃ a ∈ p.arcs, a.rcv ≠ 0 ∧ e = arcE p a
def InCh (p : Pat) (k i : Nat) (e : Pt2) : Prop := ∃ q j : Nat, (q < k ∧ j < (ckR p q).length ∨ q = k ∧ j < i) ∧ e = chE q j
theorem InCh.zero {p : Pat} {e : Pt2} : ¬ InCh p 0 0 e := by rintro ⟨q, j, h | h, _⟩ <;> omega
theorem InCh.next {p : Pat} {k : Nat} {e : Pt2} : InCh p k (ckR p k).length e ↔ InCh p (k + 1) 0 e := by
  constructor
  · rintro ⟨q, j, h | h, he⟩
    · exact ⟨q, j, .inl ⟨by omega, h.2⟩, he⟩
    · obtain ⟨rfl, h⟩ := h; exact ⟨q, j, .inl ⟨by omega, h⟩, he⟩
  · rintro ⟨q, j, h | h, he⟩
    · rcases Nat.lt_or_ge q k with h2 | h2
      · exact ⟨q, j, .inl ⟨h2, h.2⟩, he⟩
      · have : q = k := by omega
        subst this; exact ⟨q, j, .inr ⟨rfl, h.2⟩, he⟩
    · omega
theorem InCh.succ {p : Pat} {k i : Nat} {e : Pt2} : InCh p k (i + 1) e ↔ e = chE k i ∨ InCh p k i e := by
  constructor
  · rintro ⟨q, j, h | h, he⟩
    · exact .inr ⟨q, j, .inl h, he⟩
    · rcases Nat.lt_or_ge j i with h2 | h2
      · exact .inr ⟨q, j, .inr ⟨h.1, h2⟩, he⟩
      · have : j = i := by omega
        rw [he, h.1, this]; exact .inl rfl
  · rintro (h | ⟨q, j, h | h, he⟩)
    · exact ⟨k, i, .inr ⟨rfl, by omega⟩, h⟩
    · exact ⟨q, j, .inl h, he⟩
    · exact ⟨q, j, .inr ⟨h.1, by omega⟩, he⟩
theorem InCh.all {n : Nat} {p : Pat} {e : Pt2} : InCh p n 0 e ↔ ∃ q j : Nat, q < n ∧ j < (ckR p q).length ∧ e = chE q j := by
  constructor
  · rintro ⟨q, j, h | h, he⟩
    · exact ⟨q, j, h.1, h.2, he⟩
    · omega
  · rintro ⟨q, j, h1, h2, he⟩; exact ⟨q, j, .inl ⟨h1, h2⟩, he⟩
def InAr (p : Pat) (m : Nat) (e : Pt2) : Prop := ∃ a ∈ p.arcs.take m, a.rcv ≠ 0 ∧ e = arcE p a
theorem InAr.succ {p : Pat} {m : Nat} {a : Arc} {e : Pt2} (ha : p.arcs[m]? = some a) : InAr p (m + 1) e ↔ (a.rcv ≠ 0 ∧ e = arcE p a) ∨ InAr p m e := by
  constructor
  · rintro ⟨b, hb, h1, h2⟩
    rcases mem_take_succ'.1 hb with h3 | h3
    · exact .inr ⟨b, h3, h1, h2⟩
    · rw [ha] at h3; cases h3; exact .inl ⟨h1, h2⟩
  · rintro (h | ⟨b, hb, h⟩)
    · exact ⟨a, mem_take_succ'.2 (.inr ha), h⟩
    · exact ⟨b, mem_take_succ'.2 (.inl hb), h⟩
def ESpec (n : Nat) (p : Pat) (l : List Pt2) : Prop := l.Pairwise E2lt ∧ (∀ e, e ∈ l ↔ IsEdge n p e) ∧ l.length ≤ 1000
theorem ESpec.uniq {n : Nat} {p : Pat} {l l' : List Pt2} (h : ESpec n p l) (h' : ESpec n p l') : l = l' := sorted_uniq h.1 h'.1 fun e => (h.2.1 e).trans (h'.2.1 e).symm
theorem edges_g {fuel n B : Nat} {p : Pat} (h : PatG n B p) (hn : n ≤ 5) (hB : B ≤ 64) (hf : 1000000 < fuel) : Ok (rgraph_Edges fuel p) (ESpec n p) := by
  have hk := h.ck; have hal := h.al
  have hw : ∀ q, (ckR p q).length ≤ 65 := fun q => by have := h.ckW q; omega
  unfold rgraph_Edges
  rw [show (⟨p.lens, p.ckpts, p.arcs⟩ : Pat) = p from rfl, check_g h hn hB hf, Option.bind_some, if_neg (by simp)]
  refine Ok.bind (Q := fun t => (∀ e, e ∈ t ↔ InCh p n 0 e) ∧ t.length ≤ 65 * n) (Ok.for_ n (fun k s => s.2 = (k : Int) ∧ (∀ e, e ∈ s.1 ↔ InCh p k 0 e) ∧ s.1.length ≤ 65 * k) ⟨rfl, fun e => by simp [InCh.zero], by simp⟩ (by omega) ?_) fun t ⟨ht, htl⟩ => ?_
  · rintro k ⟨l, i⟩ hk2 ⟨hi, hm, hl⟩
    simp only at hi hm hl
    subst hi
    simp only [rgraph_Edges_B2]
    refine Ok.iteP (fun hkl => ?_) (fun hkl => Ok.ret ?_)
    · rw [ati_ck (by omega) (by omega), Option.bind_some]
      refine Ok.bind (Q := fun t => (∀ e, e ∈ t ↔ InCh p (k + 1) 0 e) ∧ t.length ≤ 65 * (k + 1)) (Ok.for_ (ckR p k).length (fun i s => s.2 = (i : Int) ∧ (∀ e, e ∈ s.1 ↔ InCh p k i e) ∧ s.1.length ≤ 65 * k + i) ⟨rfl, hm, hl⟩ (by have := hw k; omega) ?_) fun t ⟨ht1, ht2⟩ => Ok.ret ⟨by omega, w64_nat (by omega), ht1, ht2⟩
      rintro i ⟨l2, i2⟩ hi2 ⟨e2, hm2, hl2⟩
      simp only at e2 hm2 hl2
      subst e2
      have := hw k
      simp only [rgraph_Edges_B3]
      refine Ok.iteP (fun hil => ?_) (fun hil => Ok.ret ?_)
      · refine (Ok.snoc (by omega)).bind fun l3 hl3 => Ok.ret ⟨by omega, w64_nat (by omega), fun e => ?_, ?_⟩
        · subst hl3
          rw [w64_nat (by omega), List.mem_append, List.mem_singleton, hm2 e, InCh.succ]
          exact or_comm
        · subst hl3; simp; omega
      · have e : i = (ckR p k).length := by omega
        subst e
        exact ⟨fun e => (hm2 e).trans InCh.next, by omega⟩
    · have e : k = n := by omega
      subst e
      exact ⟨hm, hl⟩
  · simp only [rgraph_Edges_K1]
    refine Ok.bind (Q := fun t => (∀ e, e ∈ t ↔ IsEdge n p e) ∧ t.length ≤ 1000) (Ok.for_ p.arcs.length (fun k s => s.2 = (k : Int) ∧ (∀ e, e ∈ s.1 ↔ InCh p n 0 e ∨ InAr p k e) ∧ s.1.length ≤ 65 * n + k) ⟨rfl, fun e => by simp [ht e, InAr], by omega⟩ (by omega) ?_) fun t ⟨ht1, ht2⟩ => ?_
    · rintro k ⟨l, i⟩ hk2 ⟨hi, hm, hl⟩
      simp only at hi hm hl
      subst hi
      simp only [rgraph_Edges_B1]
      refine Ok.iteP (fun hkl => ?_) (fun hkl => Ok.ret ?_)
      · refine (Ok.at (by omega) hkl).bind fun a ha => ?_
        rw [Int.toNat_natCast] at ha
        have hag := h.arc a (List.mem_of_getElem? ha)
        refine Ok.iteN (fun hr => ?_) (fun hr => Ok.ret ⟨by omega, w64_nat (by omega), fun e => ?_, by simp only; omega⟩)
        · rw [show (⟨p.lens, p.ckpts, p.arcs⟩ : Pat) = p from rfl, interval_g hag.fr.1 (by have := hag.fr.2; omega) (by have := hw a.fr; omega) hf, Option.bind_some, interval_g hag.to.1 (by have := hag.to.2; omega) (by have := hw a.to; omega) hf, Option.bind_some]
          refine (Ok.snoc (by omega)).bind fun l3 hl3 => Ok.ret ⟨by omega, w64_nat (by omega), fun e => ?_, ?_⟩
          · subst hl3
            rw [List.mem_append, List.mem_singleton, hm e, InAr.succ ha]
            show _ ∨ e = arcE p a ↔ _
            constructor
            · rintro ((h1 | h1) | h1)
              · exact .inl h1
              · exact .inr (.inr h1)
              · exact .inr (.inl ⟨hr, h1⟩)
            · rintro (h1 | h1 | h1)
              · exact .inl (.inl h1)
              · exact .inr h1.2
              · exact .inl (.inr h1)
          · subst hl3; simp; omega
        · rw [hm e, InAr.succ ha]
          simp [hr]
      · have e : k = p.arcs.length := by omega
        subst e
        refine ⟨fun e => (hm e).trans ?_, by omega⟩
        unfold IsEdge InAr
        rw [InCh.all, List.take_length]
    · simp only [rgraph_Edges_K2, sortP]
      rw [if_pos (by omega), Option.bind_some]
      have hp := sortL_perm sortP_swo t
      have hs : (sortL sortP_cf t).Pairwise fun x y => ¬ E2lt y x := (sortL_sorted sortP_swo t).imp fun hxy => by rw [sortP_lt] at hxy; simpa [E2lt] using hxy
      refine (compact_g hs (by rw [hp.length_eq]; omega) hf).bind fun r ⟨r1, r2, r3⟩ => Ok.ret ⟨r1, fun e => (r2 e).trans (hp.mem_iff.trans (ht1 e)), by rw [hp.length_eq] at r3; omega⟩
end Go.Mine
