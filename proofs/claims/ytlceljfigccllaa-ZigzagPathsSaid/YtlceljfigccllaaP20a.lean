/- The rollback-dependency graph, plain: intervals and edges. -/
import Derived.Test.YtlceljfigccllaaA20x
import Derived.Test.YtlceljfigccllaaP18a
set_option linter.unusedSimpArgs false
set_option linter.unusedVariables false
namespace Go.Mine
open Go.RowKit
/-! intervals -/
def ckR (p : Pat) (q : Int) : List Int := p.ckpts[q.toNat]?.getD []
def ivl (r : List Int) (k : Int) : Nat := r.countP (fun y => decide (y < k))
theorem ati_ck {p : Pat} {q : Int} (h0 : 0 ≤ q) (h1 : q < p.ckpts.length) : ati p.ckpts q = some (ckR p q) := by
  rw [ati_int h0 (by omega)]; simp [ckR, (show q.toNat < p.ckpts.length by omega)]
theorem PatG.ckI {n B : Nat} {p : Pat} (h : PatG n B p) {q : Int} (h0 : 0 ≤ q) (h1 : q < n) : CkG (ckR p q) (nI p.lens q) := by
  have hk := h.ck; have hl := h.len
  have e1 : p.ckpts[q.toNat]? = some (ckR p q) := by simp [ckR, (show q.toNat < p.ckpts.length by omega)]
  have e2 : p.lens[q.toNat]? = some (nI p.lens q) := by simp [nI, (show q.toNat < p.lens.length by omega)]
  exact h.row _ _ _ e1 e2
theorem PatG.ckW {n B : Nat} {p : Pat} (h : PatG n B p) (q : Int) : (ckR p q).length ≤ B + 1 := by
  unfold ckR
  cases e : p.ckpts[q.toNat]? with
  | none => simp
  | some r => exact h.wid r (List.mem_of_getElem? e)
theorem ivl_le {r : List Int} {k : Int} : ivl r k ≤ r.length := List.countP_le_length
theorem ivl_take {r : List Int} {k : Int} {i : Nat} (h : i < r.length) : ivl (r.take (i + 1)) k = ivl (r.take i) k + if r[i] < k then 1 else 0 := by
  unfold ivl
  rw [List.take_add_one, List.countP_append]
  simp [h, List.countP_cons]
/-- in an ascending row the interval is the place -/
theorem ivl_lt {r : List Int} (h : r.Pairwise (· < ·)) {k : Int} {i : Nat} (hi : i < r.length) : r[i] < k ↔ i < ivl r k := by
  induction r generalizing i with
  | nil => simp at hi
  | cons a r ih =>
    rw [List.pairwise_cons] at h
    have hc : ivl (a :: r) k = ivl r k + if a < k then 1 else 0 := by simp [ivl, List.countP_cons]
    cases i with
    | zero =>
      simp only [List.getElem_cons_zero]
      rw [hc]
      constructor
      · intro hk; rw [if_pos hk]; omega
      · intro hp
        by_cases hk : a < k
        · exact hk
        · rw [if_neg hk] at hp
          have : ivl r k = 0 := by
            unfold ivl; rw [List.countP_eq_zero]
            intro y hy
            have := h.1 y hy
            simp; omega
          omega
    | succ i =>
      have hi' : i < r.length := by simpa using hi
      simp only [List.getElem_cons_succ]
      rw [hc, ih h.2 hi']
      by_cases hk : a < k
      · rw [if_pos hk]; omega
      · rw [if_neg hk]
        have : ivl r k = 0 := by
          unfold ivl; rw [List.countP_eq_zero]
          intro y hy
          have := h.1 y hy
          simp; omega
        omega
theorem interval_g {fuel : Nat} {p : Pat} {q k : Int} (h0 : 0 ≤ q) (h1 : q < p.ckpts.length) (hw : (ckR p q).length ≤ 1000) (hf : 1000000 < fuel) : pattern_Interval fuel p q k = some (ivl (ckR p q) k : Int) := by
  unfold pattern_Interval
  rw [andM_some, Option.bind_some, if_pos (by simp; omega), ati_ck h0 h1, Option.bind_some]
  generalize ckR p q = r at *
  refine Ok.eq ?_
  refine Ok.bind (Q := fun t => t = (ivl r k : Int)) (Ok.for_ r.length (fun i s => s.2 = (i : Int) ∧ s.1 = (ivl (r.take i) k : Int)) ⟨rfl, by simp [ivl]⟩ (by omega) ?_) fun t ht => by subst ht; exact Ok.ret rfl
  rintro i ⟨c, j⟩ hi ⟨hj, hc⟩
  simp only at hj hc
  subst hj hc
  simp only [pattern_Interval_B1]
  refine Ok.iteP (fun hil => ?_) (fun hil => Ok.ret ?_)
  · have hil' : i < r.length := by omega
    have hle : ivl (r.take i) k ≤ i := by have := ivl_le (r := r.take i) (k := k); simp at this; omega
    rw [ati_get hil', Option.bind_some]
    refine Ok.iteP (fun hc => Ok.ret ⟨by omega, w64_nat (by omega), ?_⟩) (fun hc => Ok.ret ⟨by omega, w64_nat (by omega), ?_⟩)
    · rw [ivl_take hil', if_pos hc, w64_nat (by omega)]
    · rw [ivl_take hil', if_neg hc]; rfl
  · have e : i = r.length := by omega
    subst e; rw [List.take_length]; rfl
theorem rinterval_g {fuel : Nat} {p : Pat} {q k : Int} (h0 : 0 ≤ q) (h1 : q < p.ckpts.length) (hw : (ckR p q).length ≤ 1000) (hf : 1000000 < fuel) : ref16_Interval fuel p q k = some (ivl (ckR p q) k : Int) := by
  unfold ref16_Interval
  refine Ok.eq ?_
  refine Ok.bind (Q := fun t => t = (ivl (ckR p q) k : Int)) (Ok.for_ (ckR p q).length (fun i s => s.2 = (i : Int) ∧ s.1 = (ivl ((ckR p q).take i) k : Int)) ⟨rfl, by simp [ivl]⟩ (by omega) ?_) fun t ht => by subst ht; exact Ok.ret rfl
  rintro i ⟨c, j⟩ hi ⟨hj, hc⟩
  simp only at hj hc
  subst hj hc
  simp only [ref16_Interval_B1]
  rw [ati_ck h0 h1, Option.bind_some]
  refine Ok.iteP (fun hil => ?_) (fun hil => Ok.ret ?_)
  · have hil' : i < (ckR p q).length := by omega
    have hle : ivl ((ckR p q).take i) k ≤ i := by have := ivl_le (r := (ckR p q).take i) (k := k); simp at this; omega
    rw [Option.bind_some, ati_get hil', Option.bind_some]
    refine Ok.iteP (fun hc => Ok.ret ⟨by omega, w64_nat (by omega), ?_⟩) (fun hc => Ok.ret ⟨by omega, w64_nat (by omega), ?_⟩)
    · rw [ivl_take hil', if_pos hc, w64_nat (by omega)]
    · rw [ivl_take hil', if_neg hc]; rfl
  · have e : i = (ckR p q).length := by omega
    subst e; rw [List.take_length]; rfl
/-! the order of edges -/
def E2lt (a b : Pt2) : Prop := a.x0.proc < b.x0.proc ∨ a.x0.proc = b.x0.proc ∧ (a.x0.index < b.x0.index ∨ a.x0.index = b.x0.index ∧ (a.x1.proc < b.x1.proc ∨ a.x1.proc = b.x1.proc ∧ a.x1.index < b.x1.index))
theorem Pt2.ext4 {a b : Pt2} (h1 : a.x0.proc = b.x0.proc) (h2 : a.x0.index = b.x0.index) (h3 : a.x1.proc = b.x1.proc) (h4 : a.x1.index = b.x1.index) : a = b := by
  obtain ⟨⟨_, _⟩, ⟨_, _⟩⟩ := a; obtain ⟨⟨_, _⟩, ⟨_, _⟩⟩ := b; simp_all
theorem E2lt.irrefl (a : Pt2) : ¬ E2lt a a := by unfold E2lt; omega
theorem E2lt.trans {a b c : Pt2} (h : E2lt a b) (h' : E2lt b c) : E2lt a c := by unfold E2lt at *; omega
theorem E2lt.tri (a b : Pt2) : E2lt a b ∨ a = b ∨ E2lt b a := by
  by_cases h : a.x0.proc = b.x0.proc ∧ a.x0.index = b.x0.index ∧ a.x1.proc = b.x1.proc ∧ a.x1.index = b.x1.index
  · exact .inr (.inl (Pt2.ext4 h.1 h.2.1 h.2.2.1 h.2.2.2))
  · unfold E2lt; omega
instance (a b : Pt2) : Decidable (E2lt a b) := by unfold E2lt; infer_instance
theorem sorted_uniq : ∀ {l l' : List Pt2}, l.Pairwise E2lt → l'.Pairwise E2lt → (∀ e, e ∈ l ↔ e ∈ l') → l = l'
  | [], [], _, _, _ => rfl
  | [], b :: l', _, _, h => absurd ((h b).2 (by simp)) (by simp)
  | a :: l, [], _, _, h => absurd ((h a).1 (by simp)) (by simp)
  | a :: l, b :: l', h, h', hm => by
    rw [List.pairwise_cons] at h h'
    have hab : a = b := by
      rcases List.mem_cons.1 ((hm a).1 (by simp)) with e | e
      · exact e
      · rcases List.mem_cons.1 ((hm b).2 (by simp)) with e2 | e2
        · exact e2.symm
        · exact absurd ((h.1 b e2).trans (h'.1 a e)) (E2lt.irrefl a)
    subst hab
    congr 1
    refine sorted_uniq h.2 h'.2 fun e => ?_
    constructor
    · intro he
      rcases List.mem_cons.1 ((hm e).1 (by simp [he])) with e2 | e2
      · subst e2; exact absurd (h.1 e he) (E2lt.irrefl e)
      · exact e2
    · intro he
      rcases List.mem_cons.1 ((hm e).2 (by simp [he])) with e2 | e2
      · subst e2; exact absurd (h'.1 e he) (E2lt.irrefl e)
      · exact e2
theorem eq4 {a b : Pt2} : ((((a.x0.proc == b.x0.proc) && ((a.x0.index == b.x0.index) && true))) && ((((a.x1.proc == b.x1.proc) && ((a.x1.index == b.x1.index) && true))) && true)) = decide (a = b) := by
  rw [Bool.eq_iff_iff]
  simp only [Bool.and_eq_true, beq_iff_eq, decide_eq_true_eq, and_true]
  exact ⟨fun h => Pt2.ext4 h.1.1 h.1.2 h.2.1 h.2.2, fun h => by subst h; simp⟩
theorem eq2 {a b : Pt} : ((a.proc == b.proc) && ((a.index == b.index) && true)) = decide (a = b) := by
  obtain ⟨a1, a2⟩ := a; obtain ⟨b1, b2⟩ := b
  rw [Bool.eq_iff_iff]; simp
theorem less_g {fuel : Nat} {a b : Pt} : ref20_less fuel a b = some (decide (a.proc < b.proc ∨ a.proc = b.proc ∧ a.index < b.index)) := by
  unfold ref20_less
  simp only [andM_some, orM_some, Option.bind_some]
  congr 1
  rw [Bool.eq_iff_iff]; simp
theorem insert_g {fuel : Nat} {l : List Pt2} {e : Pt2} (hl : l.Pairwise E2lt) (hw : l.length ≤ 10000) (hf : 1000000 < fuel) : Ok (ref20_insert fuel l e) fun r => r.Pairwise E2lt ∧ (∀ x, x ∈ r ↔ x = e ∨ x ∈ l) ∧ r.length ≤ l.length + 1 := by
  unfold ref20_insert
  refine Ok.bind (Q := fun t => ∃ k : Nat, t = (k : Int) ∧ k ≤ l.length ∧ (∀ x ∈ l.drop k, E2lt e x) ∧ (∀ x, 0 < k → l[k - 1]? = some x → ¬ E2lt e x))
    (Ok.run (fun m s => s = (m : Int) ∧ m ≤ l.length ∧ ∀ x ∈ l.drop m, E2lt e x) (m := l.length) ⟨rfl, Nat.le_refl _, by simp⟩ (by omega) ?_) ?_
  · rintro m s ⟨rfl, hm, hd⟩
    simp only [ref20_insert_B1]
    refine Ok.bind (Q := fun b => b = decide (0 < m ∧ ∃ x, l[m - 1]? = some x ∧ E2lt e x)) (Ok.andM (fun hp => ?_) fun hp => ?_) fun b hb => ?_
    · have hm0 : 0 < m := by simpa using hp
      have hx : l[m - 1]? = some (l[m - 1]'(by omega)) := by simp
      rw [w64_id (by omega) (by omega), show (m : Int) - 1 = ((m - 1 : Nat) : Int) by omega, ati_get (by omega)]
      generalize (l[m - 1]'(by omega)) = x at hx
      simp only [Option.bind_some, less_g, eq2, andM_some, orM_some]
      refine Ok.ret ?_
      rw [Bool.eq_iff_iff]
      simp only [Bool.or_eq_true, Bool.and_eq_true, decide_eq_true_eq, hx, Option.some.injEq, exists_eq_left', hm0, true_and]
      obtain ⟨⟨_, _⟩, ⟨_, _⟩⟩ := x
      obtain ⟨⟨_, _⟩, ⟨_, _⟩⟩ := e
      simp only [E2lt, Pt.mk.injEq]
      omega
    · have : ¬ 0 < m := by simpa using hp
      simp [this]
    · subst hb
      refine Ok.ite (fun hc => Ok.ret ?_) fun hc => Ok.ret ?_
      · simp only [decide_eq_true_eq] at hc
        obtain ⟨hm0, x, hx, hlt⟩ := hc
        refine ⟨m - 1, by omega, by rw [w64_id (by omega) (by omega)]; omega, by omega, fun y hy => ?_⟩
        have hm1 : m - 1 < l.length := by omega
        rw [List.drop_eq_getElem_cons hm1] at hy
        rcases List.mem_cons.1 hy with rfl | hy
        · rw [List.getElem?_eq_getElem hm1] at hx; cases hx; exact hlt
        · rw [show m - 1 + 1 = m by omega] at hy; exact hd y hy
      · simp only [decide_eq_false_iff_not] at hc
        exact ⟨m, rfl, hm, hd, fun x h0 hx hlt => hc ⟨h0, x, hx, hlt⟩⟩
  · rintro t ⟨k, rfl, hk, hd, hn⟩
    simp only [ref20_insert_K1, eq4]
    refine Ok.bind (Q := fun b => b = decide (0 < k ∧ l[k - 1]? = some e)) (Ok.andM (fun hp => ?_) fun hp => ?_) fun b hb => ?_
    · have hk0 : 0 < k := by simpa using hp
      rw [w64_id (by omega) (by omega), show (k : Int) - 1 = ((k - 1 : Nat) : Int) by omega, ati_get (by omega)]
      refine Ok.ret ?_
      simp [hk0, (show k - 1 < l.length by omega)]
    · have : ¬ 0 < k := by simpa using hp
      simp [this]
    · subst hb
      refine Ok.ite (fun hc => Ok.ret ?_) fun hc => ?_
      · simp only [decide_eq_true_eq] at hc
        exact ⟨hl, fun x => ⟨.inr, fun h => h.elim (fun h => by subst h; exact List.mem_of_getElem? hc.2) id⟩, by omega⟩
      · simp only [decide_eq_false_iff_not] at hc
        refine (Ok.take (by omega) (by omega)).bind fun a ha => (Ok.cat (by subst ha; simp; omega)).bind fun b hb => ?_
        have hdr : dropL l (k : Int) = some (l.drop k) := by unfold dropL; rw [if_pos ⟨by omega, by omega⟩]; simp
        rw [hdr, Option.bind_some]
        rw [Int.toNat_natCast] at ha
        subst ha hb
        refine (Ok.snoc (by simp; omega)).bind fun c hc2 => (Ok.cat (by subst hc2; simp; omega)).bind fun d hd2 => Ok.ret ?_
        subst hc2 hd2
        have he : (⟨⟨e.x0.proc, e.x0.index⟩, ⟨e.x1.proc, e.x1.index⟩⟩ : Pt2) = e := rfl
        rw [he, List.nil_append]
        have hbef : ∀ x ∈ l.take k, E2lt x e := fun x hx => by
          obtain ⟨i, hi, rfl⟩ := List.getElem_of_mem hx
          have hik : i < k := by simp at hi; omega
          have hk1 : k - 1 < l.length := by omega
          have hlast : E2lt (l[k - 1]'hk1) e := by
            rcases E2lt.tri (l[k - 1]'hk1) e with h | h | h
            · exact h
            · exact absurd ⟨by omega, by rw [← h]; simp⟩ hc
            · exact absurd h (hn _ (by omega) (by simp))
          rw [List.getElem_take]
          rcases Nat.lt_or_ge i (k - 1) with h1 | h1
          · exact (List.pairwise_iff_getElem.1 hl i (k - 1) (by omega) hk1 h1).trans hlast
          · have : i = k - 1 := by omega
            subst this; exact hlast
        refine ⟨?_, fun x => ?_, by simp; omega⟩
        · rw [List.append_assoc, List.pairwise_append]
          refine ⟨hl.sublist (List.take_sublist _ _), ?_, fun a ha b hb => ?_⟩
          · rw [List.singleton_append, List.pairwise_cons]
            exact ⟨hd, hl.sublist (List.drop_sublist _ _)⟩
          · rcases List.mem_append.1 hb with hb | hb
            · simp at hb; subst hb; exact hbef a ha
            · exact (hbef a ha).trans (hd b hb)
        · rw [List.append_assoc]
          simp only [List.mem_append, List.mem_singleton]
          constructor
          · rintro (h | h | h)
            · exact .inr (List.mem_of_mem_take h)
            · exact .inl h
            · exact .inr (List.mem_of_mem_drop h)
          · rintro (h | h)
            · exact .inr (.inl h)
            · rw [← List.take_append_drop k l, List.mem_append] at h
              exact h.elim .inl fun h => .inr (.inr h)
end Go.Mine
