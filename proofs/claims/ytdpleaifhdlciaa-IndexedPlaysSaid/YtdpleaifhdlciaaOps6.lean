import Derived.Test.YtdpleaifhdlciaaOps5
namespace Go.Mine
open Go.RowKit

theorem flatten_take {sz : Nat} : ∀ (cells : List (List Value)) (i : Nat), (∀ c ∈ cells, c.length = sz) → (cells.take i).flatten = cells.flatten.take (i * sz)
  | [], i, _ => by simp
  | c :: cells, 0, _ => by simp
  | c :: cells, i + 1, h => by
    have h0 := h c (by simp)
    rw [List.take_succ_cons, List.flatten_cons, flatten_take cells i fun c hc => h c (by simp [hc]), List.flatten_cons, List.take_append, h0]
    rw [show (i + 1) * sz - sz = i * sz from by rw [Nat.add_mul]; omega]
    rw [List.take_of_length_le (l := c) (by rw [h0, Nat.add_mul]; omega)]
theorem take_setN : ∀ (zs cs : List Value) (o m : Nat), m ≤ o → (setN cs o zs).take m = cs.take m
  | [], cs, o, m, _ => rfl
  | z :: zs, cs, o, m, h => by
    rw [setN, take_setN zs _ (o + 1) m (by omega), List.take_set]
    rw [List.set_eq_of_length_le (by simp; omega)]

section
variable {α : Type} {T : Ty α} {w w1 : World} {lo : Nat} {S : Nat → Prop} {e g n cap : Nat} {xs : List α}
theorem Own.firstPart (h : Own T w lo S e (.slice (some ⟨g, 0, none⟩) n cap) xs) (i : Nat) (hi : i ≤ xs.length) : Own T w lo S e (.slice (some ⟨g, 0, none⟩) i cap) (xs.take i) := by
  obtain ⟨cells, hl, ⟨hlen, h1⟩, h2⟩ := h.row
  have hcl : ∀ c ∈ cells, c.length = T.sz := fun c hc => by
    obtain ⟨j, hj, rfl⟩ := List.getElem_of_mem hc
    exact T.len (h2 j cells[j] (xs[j]'(by omega)) (by simp) (by simp))
  rcases h1 with ⟨h0, _⟩ | ⟨g', cap', cur, he, h3, h4, h5, h6, h7, h8⟩
  · cases h0
  · simp only [Value.slice.injEq, Option.some.injEq, Addr.mk.injEq, and_true] at he
    obtain ⟨rfl, hn, rfl⟩ := he
    have hti : (xs.take i).length = i := by simp; omega
    have hft := flatten_take cells i hcl
    have hle : i * T.sz ≤ xs.length * T.sz := Nat.mul_le_mul_right _ hi
    refine ⟨cells.take i, by simp [hl], ⟨?_, .inr ⟨g, cap, cur, by rw [hti], h3, h4, by omega, h6, h7, ?_⟩⟩, fun j c x hc hx => ?_⟩
    · rw [hti, hft, List.length_take, hlen]; omega
    · rw [hti, hft, ← h8, List.take_take, Nat.min_eq_left hle]
    · have hj : j < i := by have := (List.getElem?_eq_some_iff.1 hx).1; omega
      rw [List.getElem?_take_of_lt hj] at hc hx
      exact h2 j c x hc hx
theorem flatten_set {sz : Nat} : ∀ (cells : List (List Value)) (i j : Nat) (v : Value), (∀ c ∈ cells, c.length = sz) → i < cells.length → j < sz → cells.flatten.set (i * sz + j) v = (cells.modify i (·.set j v)).flatten
  | [], i, j, v, _, h, _ => by simp at h
  | c :: cells, 0, j, v, hl, _, hj => by
    have h0 := hl c (by simp)
    rw [List.flatten_cons, Nat.zero_mul, Nat.zero_add, List.set_append_left _ _ (by omega)]
    simp
  | c :: cells, i + 1, j, v, hl, hi, hj => by
    have h0 := hl c (by simp)
    have ih := flatten_set cells i j v (fun c hc => hl c (by simp [hc])) (by simpa using hi) hj
    rw [List.flatten_cons, List.set_append_right _ _ (by rw [h0, Nat.add_mul]; omega), h0, show (i + 1) * sz + j - sz = i * sz + j from by rw [Nat.add_mul]; omega, ih]
    simp
/-- one cell of an element is written -/
theorem Own.setPart [Inhabited α] {enc : α → List Value} (hR : ∀ w S cs x, T.R w S cs x ↔ cs = enc x) (h : Own T w lo S e (.slice (some ⟨g, 0, none⟩) n cap) xs) (i j : Nat) (hi : i < xs.length) (hj : j < T.sz) (u : Value) (x : α) (hx : enc x = (enc (nth xs i)).set j u)
    (hb : ∀ cs t, Blk w g cs t → Blk w1 g (cs.set (i * T.sz + j) u) t) : Own T w1 lo S e (.slice (some ⟨g, 0, none⟩) n cap) (xs.set i x) := by
  obtain ⟨cells, hl, ⟨hlen, h1⟩, h2⟩ := h.row
  have hcl : ∀ c ∈ cells, c.length = T.sz := fun c hc => by
    obtain ⟨j, hj, rfl⟩ := List.getElem_of_mem hc
    exact T.len (h2 j cells[j] (xs[j]'(by omega)) (by simp) (by simp))
  rcases h1 with ⟨h0, _⟩ | ⟨g', cap', cur, he, h3, h4, h5, h6, h7, h8⟩
  · cases h0
  · simp only [Value.slice.injEq, Option.some.injEq, Addr.mk.injEq, and_true] at he
    obtain ⟨rfl, hn, rfl⟩ := he
    have hb' : Blk w g cur.toList e := by unfold Blk; simpa using h4
    have hb1 := hb _ _ hb'
    have hlt : i * T.sz + j < xs.length * T.sz := by
      have := Nat.mul_le_mul_right T.sz hi; rw [Nat.succ_mul] at this; omega
    refine ⟨cells.modify i (·.set j u), by simp [hl], ⟨?_, .inr ⟨g, cap, (cur.toList.set (i * T.sz + j) u).toArray, by simp [hn], h3, hb1, by simpa using h5, h6, by simpa using h7, ?_⟩⟩, fun k c y hc hy => ?_⟩
    · rw [← flatten_set cells i j u hcl (by omega) hj]; simp [hlen]
    · rw [← flatten_set cells i j u hcl (by omega) hj, ← h8]
      simp [List.take_set]
    · by_cases hk : k = i
      · subst hk
        rw [List.getElem?_set_self hi] at hy
        simp only [Option.some.injEq] at hy
        subst hy
        have hck : cells[k]? = some (cells[k]'(by omega)) := by simp [hl, hi]
        rw [List.getElem?_modify, hck] at hc
        simp only [if_true, Option.map_eq_map, Option.map_some, Option.some.injEq] at hc
        have := (hR _ _ _ _).1 (h2 k _ _ hck (by simp [hi] : xs[k]? = some xs[k]))
        rw [hR, ← hc, this, hx, nth_eq hi]
      · rw [List.getElem?_set_ne (by omega)] at hy
        rw [List.getElem?_modify_ne _ _ (by omega)] at hc
        have := (hR _ _ _ _).1 (h2 k c y hc hy)
        rw [hR]; exact this
/-- what lies behind the row's end may change -/
theorem Own.tail (h : Own T w lo S e (.slice (some ⟨g, 0, none⟩) n cap) xs) (hO : Only w w1 g) (hS : ∀ k, S k → k ≠ g) (off : Nat) (zs : List Value) (hoff : xs.length * T.sz ≤ off) (hb : ∀ cs t, Blk w g cs t → Blk w1 g (setN cs off zs) t) : Own T w1 lo S e (.slice (some ⟨g, 0, none⟩) n cap) xs := by
  obtain ⟨cells, hl, ⟨hlen, h1⟩, h2⟩ := h.row
  rcases h1 with ⟨h0, _⟩ | ⟨g', cap', cur, he, h3, h4, h5, h6, h7, h8⟩
  · cases h0
  · simp only [Value.slice.injEq, Option.some.injEq, Addr.mk.injEq, and_true] at he
    obtain ⟨rfl, hn, rfl⟩ := he
    have hb' : Blk w g cur.toList e := by unfold Blk; simpa using h4
    have hb1 := hb _ _ hb'
    refine ⟨cells, hl, ⟨hlen, .inr ⟨g, cap, (setN cur.toList off zs).toArray, by rw [hn], h3, hb1, h5, h6, by simp [length_setN, h7], ?_⟩⟩, fun j c x hc hx => T.kept ⟨hO.size, fun k hk hs => hO.block k hs (hS k hk.1)⟩ (h2 j c x hc hx)⟩
    simp only [take_setN zs _ off _ hoff]; exact h8
end
section
variable {α : Type} {T : Ty α} {w : World} {lo : Nat} {S : Nat → Prop} {e g n cap : Nat} {xs : List α}
theorem Own.blk (h : Own T w lo S e (.slice (some ⟨g, 0, none⟩) n cap) xs) : n = xs.length ∧ n ≤ cap ∧ ∃ cur, Blk w g cur e ∧ cur.length = cap * T.sz := by
  obtain ⟨cells, hl, ⟨hlen, h1⟩, h2⟩ := h.row
  rcases h1 with ⟨h0, _⟩ | ⟨g', cap', cur, he, h3, h4, h5, h6, h7, h8⟩
  · cases h0
  · simp only [Value.slice.injEq, Option.some.injEq, Addr.mk.injEq, and_true] at he
    obtain ⟨rfl, hn, rfl⟩ := he
    exact ⟨hn, by omega, cur.toList, by unfold Blk; simpa using h4, by simpa using h7⟩
end
section
variable {P : Program} {N : Nat} {X : Nat → Prop} {K : Env → World → Prop} {E : Env} {w : World} {t : TypeId} {m : Bool} {rest : List QOp} {sd : Nat} {α : Type} {T : Ty α}
theorem q_slice3 {x lo hi mx : Operand} {ts e sz n cap : Nat} {ad : Option Addr} {k k' k'' : IntKind} {i j mm : Nat} [TS : TSlice P ts e sz] (hx : ev E x = some (.slice ad n cap)) (hl : ev E lo = some (.int k i)) (hh : ev E hi = some (.int k' j)) (hm : ev E mx = some (.int k'' mm)) (hij : i ≤ j) (hj : j ≤ mm) (hmm : mm ≤ cap)
    (hd : dOK N (some sd) = true) (h : ∀ v', eseq P N X K rest (Env.set E sd v') w) : eseq P N X K (⟨none, some sd, .slice ts x (some lo) (some hi) (some mx), t, m⟩ :: rest) E w := by
  obtain ⟨inf, h5, h6⟩ := TS.size
  refine q_pure (.slice (if mm = i then ad else ad.map (·.add (i * sz))) (j - i) (mm - i)) rfl hd (fun a ha w' => ?_) (h _)
  simp [execOp, QOp.oper, ha.eval hx, ha.eval hl, ha.eval hh, ha.eval hm, Instr.sliceAt, Instr.slice, Instr.sliceBounds, run_sliceBound hmm, run_sliceBound hj, run_sliceBound hij, run_under TS.under, run_size h5, h6]
/-- 's[:b]' of a row of the call's own -/
theorem q_sliceHx {x hi : Operand} {ts e sz n cap g : Nat} {k' : IntKind} {j : Nat} [TS : TSlice P ts e sz] (hx : ev E x = some (.slice (some ⟨g, 0, none⟩) n cap)) (hh : ev E hi = some (.int k' j)) (hj : j ≤ cap)
    (hd : dOK N (some sd) = true) (h : eseq P N X K rest (Env.set E sd (.slice (some ⟨g, 0, none⟩) j cap)) w) : eseq P N X K (⟨none, some sd, .slice ts x none (some hi) none, t, m⟩ :: rest) E w := by
  obtain ⟨inf, h5, h6⟩ := TS.size
  refine q_pure _ rfl hd (fun a ha w' => ?_) h
  simp [execOp, QOp.oper, ha.eval hx, ha.eval hh, Instr.sliceAt, Instr.slice, Instr.sliceBounds, run_sliceBound hj, run_under TS.under, run_size h5, add_mk]
/-- 's[a:b]' of a row of the call's own, b up to its capacity -/
theorem q_sliceCap {x lo hi : Operand} {ts e sz n cap g : Nat} {k k' : IntKind} {i j : Nat} [TS : TSlice P ts e sz] (hx : ev E x = some (.slice (some ⟨g, 0, none⟩) n cap)) (hl : ev E lo = some (.int k i)) (hh : ev E hi = some (.int k' j)) (hij : i < j) (hj : j ≤ cap)
    (hd : dOK N (some sd) = true) (h : eseq P N X K rest (Env.set E sd (.slice (some ⟨g, i * sz, none⟩) (j - i) (cap - i))) w) : eseq P N X K (⟨none, some sd, .slice ts x (some lo) (some hi) none, t, m⟩ :: rest) E w := by
  obtain ⟨inf, h5, h6⟩ := TS.size
  refine q_pure _ rfl hd (fun a ha w' => ?_) h
  simp [execOp, QOp.oper, ha.eval hx, ha.eval hl, ha.eval hh, Instr.sliceAt, Instr.slice, Instr.sliceBounds, run_sliceBound hj, run_sliceBound (Nat.le_of_lt hij), run_under TS.under, run_size h5, h6, add_mk]
  omega
/-- 'clear' of a part of a block -/
theorem q_clear {x : Operand} {ts e sz g off k c bytes : Nat} {z cur : List Value} {bt : TypeId} [TS : TSlice P ts e sz] [TE : TElem P e bytes z] (hx : ev E x = some (.slice (some ⟨g, off, none⟩) k c)) (hk : 0 < k) (hb : Blk w g cur bt) (hz : ∀ v ∈ z, oneV v = true) (hlen : off + k * z.length ≤ cur.length) (hm : m = false)
    (h : ∀ w1 zs, Only w w1 g → Blk w1 g (setN cur off zs) bt → eseq P N X K rest E w1) : eseq P N X K (⟨none, none, .call { callee := .builtin .clear, args := #[x], argTypes := #[ts] }, t, m⟩ :: rest) E w := by
  subst hm
  obtain ⟨inf, zv, h1, h2, h3, h4⟩ := TE.parts
  refine q_eff rfl fun a ha d => ?_
  have hzl : (Builtin.zeroCells zv.cells k).toList.length = k * z.length := by simp [Builtin.zeroCells, h4]
  have hz0 : z ≠ [] ∨ z = [] := by cases z <;> simp
  obtain ⟨w1, hs, hb1, ho1⟩ := run_storeCells (P := P) (off := off) (Builtin.zeroCells zv.cells k).toList 0 cur (w.atd d) hb (by rw [hzl]; omega) (fun v hv => by
    simp only [Builtin.zeroCells, Array.toList_map, List.mem_map] at hv
    obtain ⟨j, hj, rfl⟩ := hv
    rcases hz0 with hne | he
    · have hlt : j % z.length < z.length := Nat.mod_lt _ (by cases z <;> simp_all)
      have : zv.cells[j % zv.cells.size]! = z[j % z.length] := by simp [h4, hlt]
      rw [this]; exact hz _ (by simp)
    · subst he; simp [h4] at hj)
  have hrun : (execOp a.eval (QOp.oper ⟨none, none, .call { callee := .builtin .clear, args := #[x], argTypes := #[ts] }, t, false⟩)).run P (w.atd d) = .ok (.value (.tuple #[])) w1 := by
    obtain ⟨k, rfl⟩ : ∃ k', k = k' + 1 := ⟨k - 1, by omega⟩
    simp [execOp, QOp.oper, resolve, invoke, builtin, ha.eval hx, Builtin.clear_, run_under TS.under, zeroValue, typeInfo, h1, h3, hs]
  unfold Oper.wp
  rw [hrun]
  exact ⟨_, w1, w1.drawn, rfl, rfl, rfl, (fun h => by cases h), h w1 _ ⟨ho1.os, ho1.tape, ho1.output, ho1.size, ho1.block⟩ hb1⟩
end
end Go.Mine
