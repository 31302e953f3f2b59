/- Plain: the references' comparisons of lists, patterns and histories. -/
import Derived.Test.YtbmjcbhappjnaaaA23
import Derived.Test.YtbmjcbhappjnaaaPmk
import Derived.Test.YtbmjcbhappjnaaaA26d
import Derived.Test.YtbmjcbhappjnaaaPmd
import Derived.Test.YtbmjcbhappjnaaaPsmN
import Derived.Test.YtbmjcbhappjnaaaP16c
import Derived.Test.YtbmjcbhappjnaaaA20x
import Derived.Test.YtbmjcbhappjnaaaPivl
set_option linter.unusedSimpArgs false
set_option linter.unusedVariables false
namespace Go.Mine
open Go.RowKit
end Go.Mine
/- Plain: the model-based protocol: drawn plays. -/
set_option linter.unusedSimpArgs false
set_option linter.unusedVariables false
namespace Go.Mine
open Go.RowKit
theorem draw_mb {a0 : List Int} (h : ∀ x ∈ a0, U8 x) : Ok (law26_draw 10000000 a0) fun r => ∃ n : Nat, r.1 = n ∧ 2 ≤ n ∧ n ≤ 4 ∧ (1 ≤ r.2.1 ∧ r.2.1 ≤ 4) ∧ r.2.2.length ≤ 50 := by
  unfold law26_draw
  refine (Ok.new (by omega) (by omega) h).bind fun c hc => (Ok.next hc (by omega)).bind fun a ⟨a0, a1, ha, _⟩ => (Ok.next ha (by omega)).bind fun b ⟨b0, b1, hb, _⟩ => ?_
  obtain ⟨n, hn⟩ := Int.eq_ofNat_of_zero_le (show 0 ≤ 2 + a.1 by omega)
  rw [w64_id (by omega) (by omega), hn, w64_id (by omega) (by omega)]
  exact (acts_o (m := 50) hb (by omega) (by omega) (by omega) (by omega)).bind fun l ⟨hl, _⟩ => Ok.ret ⟨n, rfl, by omega, by omega, by simp only; omega, hl⟩
theorem awake26i : ∀ k, law26_awake (k + 1000) = some true := fun k => by kernel_rfl
theorem play_mb {fuel n : Nat} {rule : Int} {l : List Deed} (h1 : 1 ≤ n) (h5 : n ≤ 5) (hr : 1 ≤ rule ∧ rule ≤ 4) (hl : l.length ≤ 200) : modelbased_Play fuel n rule l = some ((C26.run n rule l).hist.hist, 0) := by
  unfold modelbased_Play
  rw [if_pos (by omega), play26E, if_neg (by simp; omega), if_neg (by omega)]; simp
section
variable {n m W : Nat} {c : C26} {κ : Int → Int → List Int} (h : MbI n m W c κ)
include h
theorem MbI.patG (hm : m ≤ 64) (hW : W ≤ 64) : PatG n 64 ⟨c.lens, c.ckpts, c.arcs⟩ := h.pat.g hm hW
theorem sound_mb (hm : m ≤ 64) (hW : W ≤ 64) (hn : n ≤ 5) : law26_sound 10000000 c.hist.hist n = some true := by
  have hl := h.pat.len; have hk := h.pat.ck; have hvl := h.vl; have hfl := h.fl
  simp only at hl hk
  unfold law26_sound
  simp only [C26.hist, HistV.hist]
  rw [orM_some, Option.bind_some, orM_some, Option.bind_some, orM_some, Option.bind_some, if_neg (by simp; omega)]
  refine Ok.eq (Ok.bind (Q := fun t => t = .inl ()) (Ok.for_ n (fun k s => s = (k : Int)) rfl (by omega) ?_) fun t ht => ?_)
  · rintro k s hk2 rfl
    simp only [law26_sound_B1]
    refine Ok.iteP (fun hlt => ?_) fun hlt => Ok.ret rfl
    have hkn : k < n := by omega
    have hr := h.rows k hkn
    rw [ati_rw (xs := c.vecs) (by omega), Option.bind_some, ati_rw (xs := c.ckpts) (by omega), Option.bind_some, ati_rw (xs := c.forced) (by omega)]
    simp only [Option.bind_some]
    rw [orM_some, Option.bind_some, if_neg (by simp; omega)]
    exact Ok.ret ⟨hkn, w64_nat (by omega)⟩
  · subst ht
    simp only [Sum.elim_inl, law26_sound_K1]
    rw [check16_g (h.patG hm hW) hn (by omega), Option.bind_some]
    exact Ok.ret rfl
end
end Go.Mine
/- The rollback-dependency graph, plain: intervals and edges. -/
set_option linter.unusedSimpArgs false
set_option linter.unusedVariables false
namespace Go.Mine
open Go.RowKit
theorem interval_g {fuel : Nat} {p : Pat} {q k : Int} (h0 : 0 ≤ q) (h1 : q < p.ckpts.length) (hw : (ckR p q).length ≤ 1000) (hf : 1000000 < fuel) : pattern_Interval fuel p q k = some (ivl (ckR p q) k : Int) := by
  unfold pattern_Interval
  rw [andM_some, Option.bind_some, if_pos (by simp; omega), ati_ck h0 h1, Option.bind_some]
  generalize ckR p q = r at *
  refine Ok.eq ?_
  refine Ok.bind (Q := fun t => t = (ivl r k : Int)) (Ok.for_ r.length (fun i s => s.2 = (i : Int) ∧ s.1 = (ivl (r.take i) k : Int)) ⟨rfl, by simp [ivl]⟩ (by omega) ?_) fun t ht => by subst ht; exact Ok.ret rfl
  rintro i ⟨c, j⟩ hi ⟨hj, hc⟩
  simp only at hj hc
  subst hj hc
  simp only [pattern_Interval_B1]
  refine Ok.iteP (fun hil => ?_) (fun hil => Ok.ret ?_)
  · have hil' : i < r.length := by omega
    have hle : ivl (r.take i) k ≤ i := by have := ivl_le (r := r.take i) (k := k); simp at this; omega
    rw [ati_get hil', Option.bind_some]
    refine Ok.iteP (fun hc => Ok.ret ⟨by omega, w64_nat (by omega), ?_⟩) (fun hc => Ok.ret ⟨by omega, w64_nat (by omega), ?_⟩)
    · rw [ivl_take hil', if_pos hc, w64_nat (by omega)]
    · rw [ivl_take hil', if_neg hc]; rfl
  · have e : i = r.length := by omega
    subst e; rw [List.take_length]; rfl
/-! the order of edges -/
def E2lt (a b : Pt2) : Prop := a.x0.proc < b.x0.proc ∨ a.x0.proc = b.x0.proc ∧ (a.x0.index < b.x0.index ∨ a.x0.index = b.x0.index ∧ (a.x1.proc < b.x1.proc ∨ a.x1.proc = b.x1.proc ∧ a.x1.index < b.x1.index))
theorem Pt2.ext4 {a b : Pt2} (h1 : a.x0.proc = b.x0.proc) (h2 : a.x0.index = b.x0.index) (h3 : a.x1.proc = b.x1.proc) (h4 : a.x1.index = b.x1.index) : a = b := by
  obtain ⟨⟨_, _⟩, ⟨_, _⟩⟩ := a; obtain ⟨⟨_, _⟩, ⟨_, _⟩⟩ := b; simp_all
theorem E2lt.irrefl (a : Pt2) : ¬ E2lt a a := by unfold E2lt; omega
theorem E2lt.trans {a b c : Pt2} (h : E2lt a b) (h' : E2lt b c) : E2lt a c := by unfold E2lt at *; omega
theorem E2lt.tri (a b : Pt2) : E2lt a b ∨ a = b ∨ E2lt b a := by
  by_cases h : a.x0.proc = b.x0.proc ∧ a.x0.index = b.x0.index ∧ a.x1.proc = b.x1.proc ∧ a.x1.index = b.x1.index
  · exact .inr (.inl (Pt2.ext4 h.1 h.2.1 h.2.2.1 h.2.2.2))
  · unfold E2lt; omega
instance (a b : Pt2) : Decidable (E2lt a b) := by unfold E2lt; infer_instance
theorem sorted_uniq : ∀ {l l' : List Pt2}, l.Pairwise E2lt → l'.Pairwise E2lt → (∀ e, e ∈ l ↔ e ∈ l') → l = l'
  | [], [], _, _, _ => rfl
  | [], b :: l', _, _, h => absurd ((h b).2 (by simp)) (by simp)
  | a :: l, [], _, _, h => absurd ((h a).1 (by simp)) (by simp)
  | a :: l, b :: l', h, h', hm => by
    rw [List.pairwise_cons] at h h'
    have hab : a = b := by
      rcases List.mem_cons.1 ((hm a).1 (by simp)) with e | e
      · exact e
      · rcases List.mem_cons.1 ((hm b).2 (by simp)) with e2 | e2
        · exact e2.symm
        · exact absurd ((h.1 b e2).trans (h'.1 a e)) (E2lt.irrefl a)
    subst hab
    congr 1
    refine sorted_uniq h.2 h'.2 fun e => ?_
    constructor
    · intro he
      rcases List.mem_cons.1 ((hm e).1 (by simp [he])) with e2 | e2
      · subst e2; exact absurd (h.1 e he) (E2lt.irrefl e)
      · exact e2
    · intro he
      rcases List.mem_cons.1 ((hm e).2 (by simp [he])) with e2 | e2
      · subst e2; exact absurd (h'.1 e he) (E2lt.irrefl e)
      · exact e2
theorem eq4 {a b : Pt2} : ((((a.x0.proc == b.x0.proc) && ((a.x0.index == b.x0.index) && true))) && ((((a.x1.proc == b.x1.proc) && ((a.x1.index == b.x1.index) && true))) && true)) = decide (a = b) := by
  rw [Bool.eq_iff_iff]
  simp only [Bool.and_eq_true, beq_iff_eq, decide_eq_true_eq, and_true]
  exact ⟨fun h => Pt2.ext4 h.1.1 h.1.2 h.2.1 h.2.2, fun h => by subst h; simp⟩
end Go.Mine
