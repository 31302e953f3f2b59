/- slices.Delete of one element, on a slice of the caller's own: the cells of a row, whatever they hold. -/
import Derived.Test.YtddohdppmejjoaaTypes
set_option linter.unusedSimpArgs false
set_option linter.unusedVariables false
namespace Go.Mine
open Go.RowKit
theorem BlkInj {w : World} {b : Nat} {cs cs' : List Value} {t t' : TypeId} (h : Blk w b cs t) (h' : Blk w b cs' t') : cs = cs' ∧ t = t' := by
  unfold Blk at *; rw [h] at h'; simpa using h'
/-- the cells of an element, as they lie -/
def Ty.cellsN (n : Nat) : Ty (List Value) where
  sz := n
  R _ _ cs x := cs = x ∧ x.length = n ∧ ∀ v ∈ x, oneV v = true
  len h := by rw [h.1]; exact h.2.1
  one h v hv := by rw [h.1] at hv; exact h.2.2 v hv
  kept _ h := h
  mono _ h := h
section
variable {α : Type} {T : Ty α} {w w1 : World} {lo : Nat} {S : Nat → Prop} {e : TypeId} {v v' : Value} {xs : List α}
theorem Own.toN (h : Own T w lo S e v xs) : ∃ cells : List (List Value), cells.length = xs.length ∧ Own (Ty.cellsN T.sz) w lo (fun _ => False) e v cells ∧
    ∀ (i : Nat) (c : List Value) (x : α), cells[i]? = some c → xs[i]? = some x → T.R w (fun k => S k ∧ some k ≠ v.ownBlock) c x := by
  obtain ⟨cells, hl, h1, h2⟩ := h.row
  refine ⟨cells, hl, ⟨cells, rfl, by rw [hl]; exact h1, fun i c x hc hx => ?_⟩, h2⟩
  rw [hc] at hx; cases hx
  have hi := (List.getElem?_eq_some_iff.1 hc).1
  have := h2 i c (xs[i]'(by omega)) hc (by simp)
  exact ⟨rfl, T.len this, T.one this⟩
theorem Own.delN {cells : List (List Value)} {i : Nat} (hN : Own (Ty.cellsN T.sz) w1 lo (fun _ => False) e v' (cells.take i ++ cells.drop (i + 1))) (hl : cells.length = xs.length)
    (hR : ∀ (i : Nat) (c : List Value) (x : α), cells[i]? = some c → xs[i]? = some x → T.R w (fun k => S k ∧ some k ≠ v.ownBlock) c x)
    (hk : w.grownBy w1 v.ownBlock) (hv : v'.ownBlock = v.ownBlock) : Own T w1 lo S e v' (xs.take i ++ xs.drop (i + 1)) := by
  obtain ⟨cs, hcl, h1, h2⟩ := hN.row
  have hcs : cs = cells.take i ++ cells.drop (i + 1) := by
    refine List.ext_getElem hcl fun j g1 g2 => ?_
    exact (h2 j _ _ (List.getElem?_eq_getElem g1) (List.getElem?_eq_getElem g2)).1
  subst hcs
  have hlen : (cells.take i ++ cells.drop (i + 1)).length = (xs.take i ++ xs.drop (i + 1)).length := by simp [hl]
  refine ⟨_, hlen, by rw [← hlen]; exact h1, fun j c x hc hx => ?_⟩
  rw [hv]
  have hkk : Kept (fun k => S k ∧ some k ≠ v.ownBlock) w w1 := Kept.of_grown hk fun k h => h.2
  refine T.kept hkk ?_
  rcases Nat.lt_or_ge j (cells.take i).length with hj | hj
  · rw [List.getElem?_append_left hj] at hc
    rw [List.getElem?_append_left (by simpa [← hl] using hj)] at hx
    rw [List.getElem?_take] at hc hx
    split at hc
    · exact hR j c x hc (by rw [if_pos (by assumption)] at hx; exact hx)
    · cases hc
  · rw [List.getElem?_append_right hj] at hc
    rw [List.getElem?_append_right (by simpa [← hl] using hj)] at hx
    rw [List.getElem?_drop] at hc hx
    rw [show (xs.take i).length = (cells.take i).length by simp [hl]] at hx
    exact hR _ c x hc hx
end
theorem ati_seti_same {α : Type} {xs ys : List α} {i : Int} {x : α} (h : seti xs i x = some ys) : ati ys i = some x := by
  obtain ⟨h0, h1, rfl⟩ := seti_eq h
  unfold ati; rw [if_neg (by omega)]; simp [h1]
theorem Sep.relXq {R R1 : Nat → Prop} {w w' : World} {cs As : List HP} {b : Nat} {c : List Value} {t : TypeId} (h : Sep (feet (HP.blk b c t :: As)) R R1 w w' (HP.blk b c t :: cs)) (h0 : Blk w b c t) : RelX (feet As) w w' :=
  ⟨h.step.os, h.step.tape, h.step.output, h.step.size, fun k hk hn => Classical.byCases (fun (e : k = b) => by
    subst e
    have h1 := h.blk 0 rfl
    unfold Blk at h0 h1
    rw [h0, h1]) fun e => h.step.same k hk fun ⟨d, hd, hf⟩ => by
      rcases List.mem_cons.1 hd with rfl | hd
      · exact e hf
      · exact hn ⟨d, hd, hf⟩⟩
section
variable {P : Program} {N : Fr} {X : Nat → Prop} {K : Env → World → Prop} {E : Env} {w : World} {t : TypeId} {m : Bool} {rest : List QOp} {sd : Nat} {α : Type} {T : Ty α}
/-- a variable that is an array of data -/
theorem Own.zeroArr {z : List Value} {zx : α} [TZ : TyZ T z zx] {S : Nat → Prop} {b n : Nat} {e : TypeId} {cs : List Value} (hb : Blk w b cs e) (hc : cs = (List.replicate n z).flatten) (hz : z.length = T.sz) (hn : n ≤ 1000) : Own T w 0 S e (.slice (some ⟨b, 0, none⟩) n n) (List.replicate n zx) := by
  subst hc
  obtain ⟨cells, h1, h2, h3⟩ := (Own.ofBlk (T := T) (w := w) hb (by simp : n = (List.replicate n zx).length) (by omega) (by simp) fun i c y hc hy => by
    rw [List.getElem?_replicate] at hc hy
    split at hc
    · rename_i h; rw [if_pos h] at hy; cases hc; cases hy; exact TZ.R _ _
    · cases hc).row
  exact ⟨cells, h1, h2, fun i c x hc hx => T.mono (fun k hk _ => hk.1.elim) (h3 i c x hc hx)⟩
theorem q_indexArr {x y : Operand} {ts e e' lo n b : Nat} {S : Nat → Prop} {xs : List α} {k : IntKind} {i : Int} {a : α} (TA : TArr P ts n e T.sz) (hx : ev E x = some (.pointer (some ⟨b, 0, none⟩))) (ho : Own T w lo S e' (.slice (some ⟨b, 0, none⟩) n n) xs) (hy : ev E y = some (.int k i)) (ha : ati xs i = some a)
    (hd : dOK N (some sd) = true) (h : eseq P N X K rest (Env.set E sd (.pointer (some ⟨vblk (.slice (some ⟨b, 0, none⟩) n n), ix 0 i.toNat T.sz, none⟩))) w) : eseq P N X K (⟨none, some sd, .indexAddr ts x y, t, m⟩ :: rest) E w := by
  obtain ⟨h0, hi, hx2⟩ := ati_lt ha
  obtain ⟨ad, cap, he, h2, _⟩ := ho.isSlice
  have hn : n = xs.length := by cases he; rfl
  exact q_indexA (T := TA) hx hy (show bnd i n = some i.toNat by unfold bnd; rw [if_pos (by omega)]) hd h
end
end Go.Mine
