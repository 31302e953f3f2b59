import Derived.Test.YtdpleaifhdlciaaRep
import Derived.Laws.AppendOwnNone
namespace Go.Mine
open Go.RowKit

class TInt (P : Program) (t : TypeId) (k : outParam IntKind) : Prop where
  under : P.underlying t = some (.int k)
class TElem (P : Program) (e : TypeId) (bytes : outParam Nat) (z : outParam (List Value)) : Prop where
  bytes0 : (P.info? e).map TypeInfo.bytes = some bytes
  zero0 : ((P.info? e).bind TypeInfo.zero).map (fun v => v.cells.toList) = some z
theorem TElem.parts {P : Program} {e bytes : Nat} {z : List Value} [T : TElem P e bytes z] : ∃ i v, P.info? e = some i ∧ i.bytes = bytes ∧ i.zero = some v ∧ v.cells = z.toArray := by
  obtain ⟨i, h1, h2⟩ := ex_of_map T.bytes0
  obtain ⟨v, h3, h4⟩ := ex_of_map T.zero0
  rw [h1] at h3
  exact ⟨i, v, h1, h2, h3, by rw [← h4]⟩

section
variable {P : Program} {N : Nat} {X : Nat → Prop} {K : Env → World → Prop} {E : Env} {w : World} {t : TypeId} {m : Bool} {rest : List QOp} {sd : Nat} {α : Type} {T : Ty α}

theorem q_conv {x : Operand} {src dst : TypeId} {k0 k k' : IntKind} {i : Int} [T1 : TInt P src k0] [T2 : TInt P dst k] (hx : ev E x = some (.int k' i)) (hr : k.wrap i = i) (hd : dOK N (some sd) = true) (h : eseq P N X K rest (Env.set E sd (.int k i)) w) :
    eseq P N X K (⟨none, some sd, .convert src dst x, t, m⟩ :: rest) E w :=
  q_pure _ rfl hd (fun a ha w' => by simp [execOp, QOp.oper, ha.eval hx, convert, run_under T1.under, run_under T2.under, Conv.intToInt, hr]) h

/-! new rows -/
theorem size_cells {z : List Value} {v : Value} (h : v.cells = z.toArray) : v.cells.size = z.length := by simp [h]
theorem fill_one {sz : Nat} {z cs : List Value} {v : Value} (hv : v.cells = cs.toArray) (hl : cs.length = sz) :
    Instr.fill (fun i => some (i * sz, sz)) ((Array.range (1 * sz)).map (z.toArray[· % z.toArray.size]!)) [(0, v)] = some cs.toArray := by
  have hsz : v.cells.size = sz := by simp [hv, hl]
  simp only [Instr.fill, hsz]
  simp only [ne_eq, not_true, decide_false, Bool.false_or, Nat.zero_mul, Nat.zero_add, Nat.one_mul, Array.size_map, Array.size_range, gt_iff_lt, Nat.lt_irrefl, Bool.false_eq_true, if_false, Option.some.injEq]
  -- the fold writes every cell
  have key : ∀ (l : List Value) (k : Nat) (A : Array Value), k + l.length = A.size → (l.zipIdx k).foldl (fun cs p => cs.setIfInBounds p.2 p.1) A = (A.toList.take k ++ l).toArray := by
    intro l
    induction l with
    | nil => intro k A h; simp at h; subst h; rw [List.append_nil, List.take_of_length_le (by simp)]; rfl
    | cons c l ih =>
      intro k A h
      simp only [List.length_cons] at h
      rw [List.zipIdx_cons, List.foldl_cons, ih (k + 1) _ (by simp; omega)]
      congr 1
      have hk : k < A.toList.length := by simp; omega
      rw [Array.toList_setIfInBounds, List.take_set, List.take_succ_eq_append_getElem (by simpa using hk)]
      have hm : min k A.size = k := by simp at hk; omega
      rw [List.set_append]
      simp [hm]
  have hz' : v.cells.zipIdx.foldl (fun cs p => cs.setIfInBounds p.2 p.1) (Array.map (fun x => z.toArray[x % z.toArray.size]!) (Array.range sz)) = cs.toArray := by
    rw [← Array.foldl_toList, Array.toList_zipIdx, hv]
    rw [key cs 0 _ (by simp [hl])]
    simp
  simpa using hz'
theorem q_slice1 {x : Operand} {ts e sz bytes : Nat} {v : Value} {cs z : List Value} [TS : TSlice P ts e sz] [TE : TElem P e bytes z] (hx : ev E x = some v) (hv : v.cells = cs.toArray) (hl : cs.length = sz) (h0 : Nat.blt 0 sz = true) (h24 : Nat.ble sz 1000 = true) (hd : dOK N (some sd) = true)
    (h : ∀ w1 b, w.heap.size ≤ b → Blk w1 b cs e → Below w.heap.size w w1 → eseq P N X K rest (Env.set E sd (.slice (some ⟨b, 0, none⟩) 1 1)) w1) : eseq P N X K (⟨none, some sd, .buildSlice ts 1 #[(0, x)], t, m⟩ :: rest) E w := by
  obtain ⟨inf, zv, h1, h2, h3, h4⟩ := TE.parts
  obtain ⟨inf', h5, h6⟩ := TS.size
  rw [h1] at h5; cases h5
  have h0' : 0 < sz := by simpa [Nat.blt_eq] using h0
  have h24' : sz ≤ 1000 := by simpa using h24
  refine q_eff rfl fun a ha d => ?_
  have hf := fill_one (z := z) hv hl
  have hrun : (execOp a.eval (QOp.oper ⟨none, some sd, .buildSlice ts 1 #[(0, x)], t, m⟩)).run P (w.atd d) = .ok (.value (.slice (some ⟨w.heap.size, 0, none⟩) 1 1)) ((w.atd d).alloc (.cells cs.toArray e)) := by
    have h7 : ¬ (1 * sz > 2 ^ 24) := by omega
    have h8 : ¬ (1 * sz = 0) := by omega
    simp only [execOp, QOp.oper, Instr.buildSlice]
    simp only [List.map_toArray, List.map_cons, List.map_nil, ha.eval hx]
    simp [run_under TS.under, run_size h1, h6, zeroValue, typeInfo, h1, h3, h4, newRow, newObj] at hf ⊢
    rw [if_neg (by omega)]
    simp [show ¬ sz = 0 by omega, hf, Sem.run]
    rfl
  unfold Oper.wp
  rw [hrun]
  exact ⟨_, _, _, rfl, rfl, hd, fun _ => .of_below (alloc_below w d _), h _ _ (Nat.le_refl _) (alloc_blk w d cs e) (alloc_below w d _)⟩

/-! slices of slices -/
theorem IsSlice.cut {w : World} {S : Nat → Prop} {ad : Option Addr} {cap : Nat} {xs : List α} (hs : IsSlice T w S (.slice ad xs.length cap) xs) (i j : Nat) (hij : i ≤ j) (hj : j ≤ xs.length) :
    IsSlice T w S (.slice (if cap = i then ad else ad.map (·.add (i * T.sz))) (j - i) (cap - i)) ((xs.drop i).take (j - i)) := by
  obtain ⟨ad', cap', he, h2, h3, h4, h5⟩ := hs
  simp only [Value.slice.injEq] at he
  obtain ⟨rfl, -, rfl⟩ := he
  have hlen : ((xs.drop i).take (j - i)).length = j - i := by simp; omega
  refine ⟨_, cap - i, by rw [hlen], by rw [hlen]; omega, fun hn => ?_, fun a ha hne => ?_, fun k hk => ?_⟩
  · split at hn
    · have := h3 hn; omega
    · cases ad with
      | none => have := h3 rfl; omega
      | some a => cases hn
  · split at ha
    · exact h4 a ha (by rintro rfl; simp at hne)
    · cases ad with
      | none => cases ha
      | some a0 =>
        simp only [Option.map_some, Option.some.injEq] at ha
        subst ha
        unfold Addr.add; split
        · exact h4 a0 rfl (by rintro rfl; simp at hne)
        · rfl
  · rw [hlen] at hk
    obtain ⟨b, off, rfl, hel⟩ := h5 (i + k) (by omega)
    refine ⟨b, off + i * T.sz, by rw [if_neg (by omega)]; simp [add_mk], ?_⟩
    have : ((xs.drop i).take (j - i))[k]'(by rw [hlen]; exact hk) = xs[i + k]'(by omega) := by simp
    rw [this]
    have e : ix (off + i * T.sz) k T.sz = ix off (i + k) T.sz := by rw [ix_eq, ix_eq, Nat.add_mul]; omega
    rw [e]; exact hel

theorem run_sliceBound {k : IntKind} {i y : Nat} (h : i ≤ y) (c : BoundsCode) (w : World) : (Instr.sliceBound (.int k i) y c).run P w = .ok i w := by
  have : (0 : Int) ≤ i ∧ (i : Int) ≤ y := by omega
  simp [Instr.sliceBound, asIntOf, h]
theorem q_sliceLH {x lo hi : Operand} {ts e : Nat} {S : Nat → Prop} {v : Value} {xs : List α} {k k' : IntKind} {i j : Nat} (TS : TSlice P ts e T.sz) (hx : ev E x = some v) (hs : IsSlice T w S v xs) (hl : ev E lo = some (.int k i)) (hh : ev E hi = some (.int k' j)) (hij : i ≤ j) (hj : j ≤ xs.length)
    (hd : dOK N (some sd) = true) (h : ∀ v', IsSlice T w S v' ((xs.drop i).take (j - i)) → eseq P N X K rest (Env.set E sd v') w) : eseq P N X K (⟨none, some sd, .slice ts x (some lo) (some hi) none, t, m⟩ :: rest) E w := by
  obtain ⟨ad, cap, rfl, h2, _⟩ := id hs
  obtain ⟨inf, h5, h6⟩ := TS.size
  refine q_pure _ rfl hd (fun a ha w' => ?_) (h _ (hs.cut i j hij hj))
  simp [execOp, QOp.oper, ha.eval hx, ha.eval hl, ha.eval hh, Instr.sliceAt, Instr.slice, Instr.sliceBounds, run_sliceBound (show j ≤ cap by omega), run_sliceBound hij, run_under TS.under, run_size h5, h6]
theorem q_sliceH {x hi : Operand} {ts e : Nat} {S : Nat → Prop} {v : Value} {xs : List α} {k' : IntKind} {j : Nat} (TS : TSlice P ts e T.sz) (hx : ev E x = some v) (hs : IsSlice T w S v xs) (hh : ev E hi = some (.int k' j)) (hj : j ≤ xs.length)
    (hd : dOK N (some sd) = true) (h : ∀ v', IsSlice T w S v' (xs.take j) → eseq P N X K rest (Env.set E sd v') w) : eseq P N X K (⟨none, some sd, .slice ts x none (some hi) none, t, m⟩ :: rest) E w := by
  obtain ⟨ad, cap, rfl, h2, _⟩ := id hs
  obtain ⟨inf, h5, h6⟩ := TS.size
  refine q_pure _ rfl hd (fun a ha w' => ?_) (h _ (by simpa using hs.cut 0 j (Nat.zero_le _) hj))
  simp [execOp, QOp.oper, ha.eval hx, ha.eval hh, Instr.sliceAt, Instr.slice, Instr.sliceBounds, run_sliceBound (show j ≤ cap by omega), run_under TS.under, run_size h5]
theorem q_sliceL {x lo : Operand} {ts e : Nat} {S : Nat → Prop} {v : Value} {xs : List α} {k : IntKind} {i : Nat} (TS : TSlice P ts e T.sz) (hx : ev E x = some v) (hs : IsSlice T w S v xs) (hl : ev E lo = some (.int k i)) (hj : i ≤ xs.length)
    (hd : dOK N (some sd) = true) (h : ∀ v', IsSlice T w S v' (xs.drop i) → eseq P N X K rest (Env.set E sd v') w) : eseq P N X K (⟨none, some sd, .slice ts x (some lo) none none, t, m⟩ :: rest) E w := by
  obtain ⟨ad, cap, rfl, h2, _⟩ := id hs
  obtain ⟨inf, h5, h6⟩ := TS.size
  refine q_pure _ rfl hd (fun a ha w' => ?_) (h _ (by have := hs.cut i xs.length hj (Nat.le_refl _); rwa [List.take_of_length_le (by simp)] at this))
  simp [execOp, QOp.oper, ha.eval hx, ha.eval hl, Instr.sliceAt, Instr.slice, Instr.sliceBounds, run_sliceBound hj, run_under TS.under, run_size h5, h6]
end
end Go.Mine
