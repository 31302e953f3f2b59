import Derived.Test.YtbmjcbhappjnaaaLibD
import Derived.Shelf.SlSortCmp.NoneTotal
import Derived.Shelf.Spec.SlicesGrow
import Derived.Test.YtbmjcbhappjnaaaProg
import Derived.Test.YtbmjcbhappjnaaaA16
import Derived.Test.YtbmjcbhappjnaaaA20x
import Derived.Test.YtbmjcbhappjnaaaLibF
import Derived.Test.YtbmjcbhappjnaaaP18a
import Derived.Test.YtbmjcbhappjnaaaPivl
set_option linter.unusedVariables false
namespace Go.Mine
open Go.RowKit
/-! ### exact worlds: for functions that are handed to the library -/
section
variable {P : Program} {N : Nat} {X : Nat → Prop} {Q : EPost} {K : Env → World → Prop} {E : Env} {w : World} {t : TypeId} {m : Bool} {rest : List QOp}
end
/-- only draws and new blocks -/
def Gr (W w : World) : Prop := ∃ q os, w = Sort.grow (W.drewN q) os
theorem Gr.refl (W : World) : Gr W W := ⟨0, #[], by simp [Sort.grow, World.drewN]⟩
theorem Gr.alloc {W w : World} (h : Gr W w) (o : Obj) : Gr W (w.alloc o) := by
  obtain ⟨q, os, rfl⟩ := h
  exact ⟨q, os.push o, by simp [Sort.grow, World.alloc, World.drewN, Array.push_append]⟩
theorem Gr.below {W w : World} (h : Gr W w) : Below W.heap.size W w := by
  obtain ⟨q, os, rfl⟩ := h
  exact ⟨rfl, rfl, rfl, by simp [Sort.grow, World.drewN], fun k hk => by simp only [Sort.grow, World.drewN]; rw [Array.getElem?_append_left hk]⟩
theorem Gr.trans {W w w' : World} (h : Gr W w) (h' : Gr w w') : Gr W w' := by
  obtain ⟨q, os, rfl⟩ := h
  obtain ⟨q', os', rfl⟩ := h'
  exact ⟨q + q', os ++ os', by simp [Sort.grow, World.drewN, Array.append_assoc, Nat.add_assoc]⟩
section
variable {P : Program} {N : Nat} {X : Nat → Prop} {Q : EPost} {K : Env → World → Prop} {E : Env} {w : World} {t : TypeId} {m : Bool} {rest : List QOp}
end
end Go.Mine

namespace Go.Mine
open Go.RowKit Go.Shelf Go.Lib Go.Proofs
/-! ### slices.SortFunc at structs, by the shelf's contract -/
section
variable {α : Type} [Inhabited α] {cf : α → α → Int}
end
end Go.Mine
/-
  DERIVED: THE SHELF's CONTRACTS AT THIS DUMP, IN PLAIN WORDS (tools/lay-plain.mjs out of 'YtbmjcbhappjnaaaShelf.lean', which tools/lay-shelf.mjs wrote): THE SAME DECLARATIONS UNDER THE SAME NAMES: 'import', 'namespace', 'open', 'def', 'theorem' AND NOTHING ELSE: no command of the shelf's: FOR A HAND-IN. Each laying: the table of numbers ('.._ren') and one theorem, a field a fact of the dump's own or the kernel's comparison; each contract: ONE APPLICATION.
-/
namespace Go.Proofs
open Go.Shelf
end Go.Proofs
/- Printed walks: A20a. -/
set_option linter.unusedVariables false
set_option linter.unusedSimpArgs false
namespace Go.Mine
open Go.RowKit
end Go.Mine
namespace Go.Proofs.Ytbmjcbhappjnaaa
open Go.RowKit Go.Mine
attribute [local irreducible] eseq ewp iter
end Go.Proofs.Ytbmjcbhappjnaaa
/- Printed walks: A20b. -/
set_option linter.unusedVariables false
set_option linter.unusedSimpArgs false
namespace Go.Mine
open Go.RowKit
end Go.Mine
namespace Go.Proofs.Ytbmjcbhappjnaaa
open Go.RowKit Go.Mine
attribute [local irreducible] eseq ewp iter
end Go.Proofs.Ytbmjcbhappjnaaa
/- The rollback-dependency graph, plain: intervals and edges. -/
set_option linter.unusedSimpArgs false
set_option linter.unusedVariables false
namespace Go.Mine
open Go.RowKit
theorem interval_g {fuel : Nat} {p : Pat} {q k : Int} (h0 : 0 ≤ q) (h1 : q < p.ckpts.length) (hw : (ckR p q).length ≤ 1000) (hf : 1000000 < fuel) : pattern_Interval fuel p q k = some (ivl (ckR p q) k : Int) := by
  unfold pattern_Interval
  rw [andM_some, Option.bind_some, if_pos (by simp; omega), ati_ck h0 h1, Option.bind_some]
  generalize ckR p q = r at *
  refine Ok.eq ?_
  refine Ok.bind (Q := fun t => t = (ivl r k : Int)) (Ok.for_ r.length (fun i s => s.2 = (i : Int) ∧ s.1 = (ivl (r.take i) k : Int)) ⟨rfl, by simp [ivl]⟩ (by omega) ?_) fun t ht => by subst ht; exact Ok.ret rfl
  rintro i ⟨c, j⟩ hi ⟨hj, hc⟩
  simp only at hj hc
  subst hj hc
  simp only [pattern_Interval_B1]
  refine Ok.iteP (fun hil => ?_) (fun hil => Ok.ret ?_)
  · have hil' : i < r.length := by omega
    have hle : ivl (r.take i) k ≤ i := by have := ivl_le (r := r.take i) (k := k); simp at this; omega
    rw [ati_get hil', Option.bind_some]
    refine Ok.iteP (fun hc => Ok.ret ⟨by omega, w64_nat (by omega), ?_⟩) (fun hc => Ok.ret ⟨by omega, w64_nat (by omega), ?_⟩)
    · rw [ivl_take hil', if_pos hc, w64_nat (by omega)]
    · rw [ivl_take hil', if_neg hc]; rfl
  · have e : i = r.length := by omega
    subst e; rw [List.take_length]; rfl
/-! the order of edges -/
def E2lt (a b : Pt2) : Prop := a.x0.proc < b.x0.proc ∨ a.x0.proc = b.x0.proc ∧ (a.x0.index < b.x0.index ∨ a.x0.index = b.x0.index ∧ (a.x1.proc < b.x1.proc ∨ a.x1.proc = b.x1.proc ∧ a.x1.index < b.x1.index))
theorem E2lt.irrefl (a : Pt2) : ¬ E2lt a a := by unfold E2lt; omega
theorem E2lt.trans {a b c : Pt2} (h : E2lt a b) (h' : E2lt b c) : E2lt a c := by unfold E2lt at *; omega
theorem sorted_uniq : ∀ {l l' : List Pt2}, l.Pairwise E2lt → l'.Pairwise E2lt → (∀ e, e ∈ l ↔ e ∈ l') → l = l'
  | [], [], _, _, _ => rfl
  | [], b :: l', _, _, h => absurd ((h b).2 (by simp)) (by simp)
  | a :: l, [], _, _, h => absurd ((h a).1 (by simp)) (by simp)
  | a :: l, b :: l', h, h', hm => by
    rw [List.pairwise_cons] at h h'
    have hab : a = b := by
      rcases List.mem_cons.1 ((hm a).1 (by simp)) with e | e
      · exact e
      · rcases List.mem_cons.1 ((hm b).2 (by simp)) with e2 | e2
        · exact e2.symm
        · exact absurd ((h.1 b e2).trans (h'.1 a e)) (E2lt.irrefl a)
    subst hab
    congr 1
    refine sorted_uniq h.2 h'.2 fun e => ?_
    constructor
    · intro he
      rcases List.mem_cons.1 ((hm e).1 (by simp [he])) with e2 | e2
      · subst e2; exact absurd (h.1 e he) (E2lt.irrefl e)
      · exact e2
    · intro he
      rcases List.mem_cons.1 ((hm e).2 (by simp [he])) with e2 | e2
      · subst e2; exact absurd (h'.1 e he) (E2lt.irrefl e)
      · exact e2
end Go.Mine
