/- The rollback-dependency graph, plain: intervals and edges. -/
import Derived.Test.YtbmjcbhappjnaaaA20x
import Derived.Test.YtbmjcbhappjnaaaP18a
import Derived.Test.YtbmjcbhappjnaaaPivl
set_option linter.unusedSimpArgs false
set_option linter.unusedVariables false
namespace Go.Mine
open Go.RowKit
theorem interval_g {fuel : Nat} {p : Pat} {q k : Int} (h0 : 0 ≤ q) (h1 : q < p.ckpts.length) (hw : (ckR p q).length ≤ 1000) (hf : 1000000 < fuel) : pattern_Interval fuel p q k = some (ivl (ckR p q) k : Int) := by
  unfold pattern_Interval
  rw [andM_some, Option.bind_some, if_pos (by simp; omega), ati_ck h0 h1, Option.bind_some]
  generalize ckR p q = r at *
  refine Ok.eq ?_
  refine Ok.bind (Q := fun t => t = (ivl r k : Int)) (Ok.for_ r.length (fun i s => s.2 = (i : Int) ∧ s.1 = (ivl (r.take i) k : Int)) ⟨rfl, by simp [ivl]⟩ (by omega) ?_) fun t ht => by subst ht; exact Ok.ret rfl
  rintro i ⟨c, j⟩ hi ⟨hj, hc⟩
  simp only at hj hc
  subst hj hc
  simp only [pattern_Interval_B1]
  refine Ok.iteP (fun hil => ?_) (fun hil => Ok.ret ?_)
  · have hil' : i < r.length := by omega
    have hle : ivl (r.take i) k ≤ i := by have := ivl_le (r := r.take i) (k := k); simp at this; omega
    rw [ati_get hil', Option.bind_some]
    refine Ok.iteP (fun hc => Ok.ret ⟨by omega, w64_nat (by omega), ?_⟩) (fun hc => Ok.ret ⟨by omega, w64_nat (by omega), ?_⟩)
    · rw [ivl_take hil', if_pos hc, w64_nat (by omega)]
    · rw [ivl_take hil', if_neg hc]; rfl
  · have e : i = r.length := by omega
    subst e; rw [List.take_length]; rfl
/-! the order of edges -/
def E2lt (a b : Pt2) : Prop := a.x0.proc < b.x0.proc ∨ a.x0.proc = b.x0.proc ∧ (a.x0.index < b.x0.index ∨ a.x0.index = b.x0.index ∧ (a.x1.proc < b.x1.proc ∨ a.x1.proc = b.x1.proc ∧ a.x1.index < b.x1.index))
theorem Pt2.ext4 {a b : Pt2} (h1 : a.x0.proc = b.x0.proc) (h2 : a.x0.index = b.x0.index) (h3 : a.x1.proc = b.x1.proc) (h4 : a.x1.index = b.x1.index) : a = b := by
  obtain ⟨⟨_, _⟩, ⟨_, _⟩⟩ := a; obtain ⟨⟨_, _⟩, ⟨_, _⟩⟩ := b; simp_all
theorem E2lt.irrefl (a : Pt2) : ¬ E2lt a a := by unfold E2lt; omega
theorem E2lt.trans {a b c : Pt2} (h : E2lt a b) (h' : E2lt b c) : E2lt a c := by unfold E2lt at *; omega
theorem E2lt.tri (a b : Pt2) : E2lt a b ∨ a = b ∨ E2lt b a := by
  by_cases h : a.x0.proc = b.x0.proc ∧ a.x0.index = b.x0.index ∧ a.x1.proc = b.x1.proc ∧ a.x1.index = b.x1.index
  · exact .inr (.inl (Pt2.ext4 h.1 h.2.1 h.2.2.1 h.2.2.2))
  · unfold E2lt; omega
instance (a b : Pt2) : Decidable (E2lt a b) := by unfold E2lt; infer_instance
theorem sorted_uniq : ∀ {l l' : List Pt2}, l.Pairwise E2lt → l'.Pairwise E2lt → (∀ e, e ∈ l ↔ e ∈ l') → l = l'
  | [], [], _, _, _ => rfl
  | [], b :: l', _, _, h => absurd ((h b).2 (by simp)) (by simp)
  | a :: l, [], _, _, h => absurd ((h a).1 (by simp)) (by simp)
  | a :: l, b :: l', h, h', hm => by
    rw [List.pairwise_cons] at h h'
    have hab : a = b := by
      rcases List.mem_cons.1 ((hm a).1 (by simp)) with e | e
      · exact e
      · rcases List.mem_cons.1 ((hm b).2 (by simp)) with e2 | e2
        · exact e2.symm
        · exact absurd ((h.1 b e2).trans (h'.1 a e)) (E2lt.irrefl a)
    subst hab
    congr 1
    refine sorted_uniq h.2 h'.2 fun e => ?_
    constructor
    · intro he
      rcases List.mem_cons.1 ((hm e).1 (by simp [he])) with e2 | e2
      · subst e2; exact absurd (h.1 e he) (E2lt.irrefl e)
      · exact e2
    · intro he
      rcases List.mem_cons.1 ((hm e).2 (by simp [he])) with e2 | e2
      · subst e2; exact absurd (h'.1 e he) (E2lt.irrefl e)
      · exact e2
theorem eq4 {a b : Pt2} : ((((a.x0.proc == b.x0.proc) && ((a.x0.index == b.x0.index) && true))) && ((((a.x1.proc == b.x1.proc) && ((a.x1.index == b.x1.index) && true))) && true)) = decide (a = b) := by
  rw [Bool.eq_iff_iff]
  simp only [Bool.and_eq_true, beq_iff_eq, decide_eq_true_eq, and_true]
  exact ⟨fun h => Pt2.ext4 h.1.1 h.1.2 h.2.1 h.2.2, fun h => by subst h; simp⟩
end Go.Mine
