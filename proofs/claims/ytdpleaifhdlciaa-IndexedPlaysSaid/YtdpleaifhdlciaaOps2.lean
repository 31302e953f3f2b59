import Derived.Test.YtdpleaifhdlciaaOps
namespace Go.Mine
open Go.RowKit

theorem wr64 {n : Int} (h1 : -9223372036854775808 ≤ n) (h2 : n ≤ 9223372036854775807) : IntKind.i64.wrap n = n := IntWalk.i64_in n ⟨h1, h2⟩
/-! ### what is known of the program's types -/
def aggB : TypeDesc → Bool
  | .struct _ => true
  | .array _ _ => true
  | _ => false
theorem ex_of_map {α β : Type} {f : α → β} {o : Option α} {b : β} (h : o.map f = some b) : ∃ a, o = some a ∧ f a = b := by
  cases o with
  | none => cases h
  | some a => exact ⟨a, rfl, by simpa using h⟩
class TSlice (P : Program) (t : TypeId) (e sz : outParam Nat) : Prop where
  under : P.underlying t = some (.slice e)
  size0 : (P.info? e).map TypeInfo.size = some sz
class TCell (P : Program) (t : TypeId) : Prop where
  under0 : (P.underlying t).map aggB = some false
  size0 : (P.info? t).map TypeInfo.size = some 1
class TAgg (P : Program) (t : TypeId) (n : outParam Nat) : Prop where
  under0 : (P.underlying t).map aggB = some true
  size0 : (P.info? t).map TypeInfo.size = some n
def fieldOff (P : Program) (s f : Nat) : Option Nat :=
  match P.underlying s with
  | some (.struct fs) => match fs[f]? with
    | some fd => match P.info? fd.type with
      | some i => if i.size = 0 then none else some fd.offset
      | none => none
    | none => none
  | _ => none
class TField (P : Program) (s f : Nat) (off : outParam Nat) : Prop where
  field0 : fieldOff P s f = some off
class TArr (P : Program) (t : TypeId) (len e sz : outParam Nat) : Prop where
  under : P.underlying t = some (.array len e)
  size0 : (P.info? e).map TypeInfo.size = some sz
theorem TSlice.size {P : Program} {t e sz : Nat} [T : TSlice P t e sz] : ∃ i, P.info? e = some i ∧ i.size = sz := ex_of_map T.size0
theorem TArr.size {P : Program} {t len e sz : Nat} [T : TArr P t len e sz] : ∃ i, P.info? e = some i ∧ i.size = sz := ex_of_map T.size0
theorem TCell.under {P : Program} {t : Nat} [T : TCell P t] : ∃ d, P.underlying t = some d ∧ aggB d = false := ex_of_map T.under0
theorem TCell.size {P : Program} {t : Nat} [T : TCell P t] : ∃ i, P.info? t = some i ∧ i.size = 1 := ex_of_map T.size0
theorem TAgg.under {P : Program} {t n : Nat} [T : TAgg P t n] : ∃ d, P.underlying t = some d ∧ aggB d = true := ex_of_map T.under0
theorem TAgg.size {P : Program} {t n : Nat} [T : TAgg P t n] : ∃ i, P.info? t = some i ∧ i.size = n := ex_of_map T.size0
theorem TField.field {P : Program} {s f off : Nat} [T : TField P s f off] : ∃ fs fd, P.underlying s = some (.struct fs) ∧ fs[f]? = some fd ∧ fd.offset = off ∧ ∃ i, P.info? fd.type = some i ∧ i.size ≠ 0 := by
  have h := T.field0
  unfold fieldOff at h
  split at h
  · rename_i fs hu
    split at h
    · rename_i fd hf
      split at h
      · rename_i i hi
        split at h
        · cases h
        · rename_i hne
          exact ⟨fs, fd, hu, hf, by simpa using h, i, hi, hne⟩
      · cases h
    · cases h
  · cases h
class TFn (P : Program) (f : FuncId) : Prop where
  fn : (P.funcs[f]?).any (fun fn => !(fn.name == "runtime.NumGoroutine") && fn.body.isSome) = true

def ix (off k : Nat) : Nat → Nat
  | 1 => off + k
  | n => off + k * n
theorem ix_eq (off k n : Nat) : ix off k n = off + k * n := by
  unfold ix; split <;> simp
theorem add_mk (b off n : Nat) : (⟨b, off, none⟩ : Addr).add n = ⟨b, off + n, none⟩ := by
  unfold Addr.add; split
  · subst n; rfl
  · rfl

section
abbrev Env.set (E : Env) (d : Nat) (v : Value) : Env := (d, v) :: E
variable {P : Program} {N : Nat} {X : Nat → Prop} {K : Env → World → Prop} {E : Env} {w : World} {dst : Option Nat} {t : TypeId} {m : Bool} {rest : List QOp}

theorem q_move {sd : Nat} {x : Operand} {v : Value} (hx : ev E x = some v) (hd : dOK N (some sd) = true) (h : eseq P N X K rest (Env.set E sd v) w) : eseq P N X K (⟨none, some sd, .move x, t, m⟩ :: rest) E w :=
  q_pure v rfl hd (fun a ha w' => by simp [execOp, QOp.oper, ha.eval hx]) h
theorem q_assign {sd : Nat} {x : Operand} {v : Value} (hx : ev E x = some v) (hd : dOK N (some sd) = true) (h : eseq P N X K rest (Env.set E sd v) w) : eseq P N X K (⟨none, some sd, .assign x, t, m⟩ :: rest) E w :=
  q_pure v rfl hd (fun a ha w' => by simp [execOp, QOp.oper, ha.eval hx]) h
theorem q_pick_true {sd : Nat} {c x y : Operand} {v : Value} (hc : ev E c = some (.bool true)) (hx : ev E x = some v) (hd : dOK N (some sd) = true) (h : eseq P N X K rest (Env.set E sd v) w) : eseq P N X K (⟨none, some sd, .pick c x y, t, m⟩ :: rest) E w :=
  q_pure v rfl hd (fun a ha w' => by simp [execOp, QOp.oper, ha.eval hx, ha.eval hc, asBool]) h
theorem q_pick_false {sd : Nat} {c x y : Operand} {v : Value} (hc : ev E c = some (.bool false)) (hx : ev E y = some v) (hd : dOK N (some sd) = true) (h : eseq P N X K rest (Env.set E sd v) w) : eseq P N X K (⟨none, some sd, .pick c x y, t, m⟩ :: rest) E w :=
  q_pure v rfl hd (fun a ha w' => by simp [execOp, QOp.oper, ha.eval hx, ha.eval hc, asBool]) h
theorem q_nilCheck {sd : Nat} {x : Operand} {ad : Addr} (hx : ev E x = some (.pointer (some ad))) (hd : dOK N (some sd) = true) (h : eseq P N X K rest (Env.set E sd (.pointer (some ad))) w) : eseq P N X K (⟨none, some sd, .nilCheck x, t, m⟩ :: rest) E w :=
  q_pure _ rfl hd (fun a ha w' => by simp [execOp, QOp.oper, ha.eval hx]) h
theorem q_not {sd : Nat} {x : Operand} {b : Bool} {ty : TypeId} (hx : ev E x = some (.bool b)) (hd : dOK N (some sd) = true) (h : eseq P N X K rest (Env.set E sd (.bool !b)) w) : eseq P N X K (⟨none, some sd, .unOp .not ty x, t, m⟩ :: rest) E w :=
  q_pure _ rfl hd (fun a ha w' => by simp [execOp, QOp.oper, ha.eval hx, Op.unary]) h
theorem q_extract {sd : Nat} {x : Operand} {vs : Array Value} {i : Nat} {v : Value} (hx : ev E x = some (.tuple vs)) (hv : vs[i]? = some v) (hd : dOK N (some sd) = true) (h : eseq P N X K rest (Env.set E sd v) w) : eseq P N X K (⟨none, some sd, .extract x i, t, m⟩ :: rest) E w :=
  q_pure _ rfl hd (fun a ha w' => by simp [execOp, QOp.oper, ha.eval hx, Instr.extract, hv]) h

/-! integers -/
section
variable {x y : Operand} {k : IntKind} {i j : Int} {ty ty' : TypeId}
theorem q_add {sd : Nat} (hx : ev E x = some (.int k i)) (hy : ev E y = some (.int k j)) (hr : k.wrap (i + j) = i + j) (hd : dOK N (some sd) = true) (h : eseq P N X K rest (Env.set E sd (.int k (i + j))) w) : eseq P N X K (⟨none, some sd, .binOp .add ty x y ty', t, m⟩ :: rest) E w :=
  q_pure _ rfl hd (fun a ha w' => by simp [execOp, QOp.oper, ha.eval hx, ha.eval hy, eqGuard, binOp, Op.intArith, hr]) h
theorem q_sub {sd : Nat} (hx : ev E x = some (.int k i)) (hy : ev E y = some (.int k j)) (hr : k.wrap (i - j) = i - j) (hd : dOK N (some sd) = true) (h : eseq P N X K rest (Env.set E sd (.int k (i - j))) w) : eseq P N X K (⟨none, some sd, .binOp .sub ty x y ty', t, m⟩ :: rest) E w :=
  q_pure _ rfl hd (fun a ha w' => by simp [execOp, QOp.oper, ha.eval hx, ha.eval hy, eqGuard, binOp, Op.intArith, hr]) h
theorem q_mul {sd : Nat} (hx : ev E x = some (.int k i)) (hy : ev E y = some (.int k j)) (hr : k.wrap (i * j) = i * j) (hd : dOK N (some sd) = true) (h : eseq P N X K rest (Env.set E sd (.int k (i * j))) w) : eseq P N X K (⟨none, some sd, .binOp .mul ty x y ty', t, m⟩ :: rest) E w :=
  q_pure _ rfl hd (fun a ha w' => by simp [execOp, QOp.oper, ha.eval hx, ha.eval hy, eqGuard, binOp, Op.intArith, hr]) h
theorem q_rem {sd : Nat} (hx : ev E x = some (.int k i)) (hy : ev E y = some (.int k j)) (hr : j ≠ 0) (hd : dOK N (some sd) = true) (h : eseq P N X K rest (Env.set E sd (.int k (i.tmod j))) w) : eseq P N X K (⟨none, some sd, .binOp .rem ty x y ty', t, m⟩ :: rest) E w :=
  q_pure _ rfl hd (fun a ha w' => by simp [execOp, QOp.oper, ha.eval hx, ha.eval hy, eqGuard, binOp, Op.intDiv, hr]) h
theorem q_eql {sd : Nat} (hx : ev E x = some (.int k i)) (hy : ev E y = some (.int k j)) (hd : dOK N (some sd) = true) (h : eseq P N X K rest (Env.set E sd (.bool (i == j))) w) : eseq P N X K (⟨none, some sd, .binOp .eql ty x y ty', t, m⟩ :: rest) E w :=
  q_pure _ rfl hd (fun a ha w' => by simp [execOp, QOp.oper, ha.eval hx, ha.eval hy, eqGuard, binOp, Op.intCmp]) h
theorem q_neq {sd : Nat} (hx : ev E x = some (.int k i)) (hy : ev E y = some (.int k j)) (hd : dOK N (some sd) = true) (h : eseq P N X K rest (Env.set E sd (.bool (i != j))) w) : eseq P N X K (⟨none, some sd, .binOp .neq ty x y ty', t, m⟩ :: rest) E w :=
  q_pure _ rfl hd (fun a ha w' => by simp [execOp, QOp.oper, ha.eval hx, ha.eval hy, eqGuard, binOp, Op.intCmp]) h
theorem q_lss {sd : Nat} (hx : ev E x = some (.int k i)) (hy : ev E y = some (.int k j)) (hd : dOK N (some sd) = true) (h : eseq P N X K rest (Env.set E sd (.bool (decide (i < j)))) w) : eseq P N X K (⟨none, some sd, .binOp .lss ty x y ty', t, m⟩ :: rest) E w :=
  q_pure _ rfl hd (fun a ha w' => by simp [execOp, QOp.oper, ha.eval hx, ha.eval hy, eqGuard, binOp, Op.intCmp]) h
theorem q_leq {sd : Nat} (hx : ev E x = some (.int k i)) (hy : ev E y = some (.int k j)) (hd : dOK N (some sd) = true) (h : eseq P N X K rest (Env.set E sd (.bool (decide (i ≤ j)))) w) : eseq P N X K (⟨none, some sd, .binOp .leq ty x y ty', t, m⟩ :: rest) E w :=
  q_pure _ rfl hd (fun a ha w' => by simp [execOp, QOp.oper, ha.eval hx, ha.eval hy, eqGuard, binOp, Op.intCmp]) h
theorem q_gtr {sd : Nat} (hx : ev E x = some (.int k i)) (hy : ev E y = some (.int k j)) (hd : dOK N (some sd) = true) (h : eseq P N X K rest (Env.set E sd (.bool (decide (j < i)))) w) : eseq P N X K (⟨none, some sd, .binOp .gtr ty x y ty', t, m⟩ :: rest) E w :=
  q_pure _ rfl hd (fun a ha w' => by simp [execOp, QOp.oper, ha.eval hx, ha.eval hy, eqGuard, binOp, Op.intCmp]) h
theorem q_geq {sd : Nat} (hx : ev E x = some (.int k i)) (hy : ev E y = some (.int k j)) (hd : dOK N (some sd) = true) (h : eseq P N X K rest (Env.set E sd (.bool (decide (j ≤ i)))) w) : eseq P N X K (⟨none, some sd, .binOp .geq ty x y ty', t, m⟩ :: rest) E w :=
  q_pure _ rfl hd (fun a ha w' => by simp [execOp, QOp.oper, ha.eval hx, ha.eval hy, eqGuard, binOp, Op.intCmp]) h
end

/-! addresses -/
theorem run_under {t : TypeId} {d : TypeDesc} (h : P.underlying t = some d) (w : World) : (underlying t).run P w = .ok d w := by simp [underlying, h]
theorem run_size {t : TypeId} {i : TypeInfo} (h : P.info? t = some i) (w : World) : (sizeOf t).run P w = .ok i.size w := by simp [sizeOf, typeInfo, h]

theorem q_len {sd : Nat} {x : Operand} {ts : TypeId} {ad : Option Addr} {n c e sz : Nat} [T : TSlice P ts e sz] (hx : ev E x = some (.slice ad n c)) (hd : dOK N (some sd) = true) (h : eseq P N X K rest (Env.set E sd (.int .i64 n)) w) :
    eseq P N X K (⟨none, some sd, .call { callee := .builtin .len, args := #[x], argTypes := #[ts] }, t, m⟩ :: rest) E w :=
  q_pure _ rfl hd (fun a ha w' => by simp [QOp.oper, BigFrame.execOp_builtin, BigFrame.builtin_len, ha.eval hx, Builtin.len_, run_under T.under, goInt]) h

theorem q_index {sd : Nat} {x y : Operand} {ts : TypeId} {b off n c e sz : Nat} {k : IntKind} {i : Int} [T : TSlice P ts e sz] (hx : ev E x = some (.slice (some ⟨b, off, none⟩) n c)) (hy : ev E y = some (.int k i)) (hi : 0 ≤ i ∧ i < n)
    (hd : dOK N (some sd) = true) (h : eseq P N X K rest (Env.set E sd (.pointer (some ⟨b, ix off i.toNat sz, none⟩))) w) : eseq P N X K (⟨none, some sd, .indexAddr ts x y, t, m⟩ :: rest) E w := by
  obtain ⟨inf, h1, h2⟩ := T.size
  exact q_pure _ rfl hd (fun a ha w' => by simp [execOp, QOp.oper, ha.eval hx, ha.eval hy, Instr.indexAt, asIntOf, run_under T.under, hi, run_size h1, h2, add_mk, ix_eq]) h
theorem q_indexn {sd : Nat} {x y : Operand} {ts : TypeId} {b off n c e sz : Nat} {k : IntKind} {i : Nat} [T : TSlice P ts e sz] (hx : ev E x = some (.slice (some ⟨b, off, none⟩) n c)) (hy : ev E y = some (.int k i)) (hi : i < n)
    (hd : dOK N (some sd) = true) (h : eseq P N X K rest (Env.set E sd (.pointer (some ⟨b, ix off i sz, none⟩))) w) : eseq P N X K (⟨none, some sd, .indexAddr ts x y, t, m⟩ :: rest) E w :=
  q_index (i := (i : Int)) hx hy ⟨by omega, by omega⟩ hd (by simpa using h)
theorem q_field {sd : Nat} {x : Operand} {s f b off o : Nat} [T : TField P s f o] (hx : ev E x = some (.pointer (some ⟨b, off, none⟩)))
    (hd : dOK N (some sd) = true) (h : eseq P N X K rest (Env.set E sd (.pointer (some ⟨b, off + o, none⟩))) w) : eseq P N X K (⟨none, some sd, .fieldAddr s x f, t, m⟩ :: rest) E w := by
  obtain ⟨fs, fd, h1, h2, h3, inf, h4, h5⟩ := T.field
  exact q_pure _ rfl hd (fun a ha w' => by simp [execOp, QOp.oper, ha.eval hx, Instr.fieldAt, run_under h1, h2, Instr.sureAddr, fieldPlace, run_size h4, h5, h3, add_mk]) h

/-! memory -/
theorem cell_below {w w' : World} (hB : Below w.heap.size w w') {ad : Addr} {v : Value} (h : w.cell? ad = some v) : w'.cell? ad = some v := by
  rw [hB.cell]; exact h
  unfold World.cell? at h
  cases hh : w.heap[ad.block]? with
  | none => rw [hh] at h; cases h
  | some o => exact (Array.getElem?_eq_some_iff.1 hh).1

theorem cell_relX {X : Nat → Prop} {w w' : World} (hB : RelX X w w') {ad : Addr} {v : Value} (h : w.cell? ad = some v) (hX : ¬ X ad.block) : w'.cell? ad = some v := by
  have hlt : ad.block < w.heap.size := by
    unfold World.cell? at h
    cases hh : w.heap[ad.block]? with
    | none => rw [hh] at h; cases h
    | some o => exact (Array.getElem?_eq_some_iff.1 hh).1
  rw [World.cell?_of_block (w := w) (w' := w') (hB.block _ hlt hX)]; exact h
theorem run_isAgg {t : TypeId} {d : TypeDesc} (h : P.underlying t = some d) (w : World) : (isAgg t).run P w = .ok (aggB d) w := by
  cases d <;> simp [isAgg, run_under h, aggB]
theorem q_load {sd : Nat} {x : Operand} {tt : TypeId} {ad : Addr} {v : Value} [T : TCell P tt] (hx : ev E x = some (.pointer (some ad))) (hc : w.cell? ad = some v)
    (hd : dOK N (some sd) = true) (h : eseq P N X K rest (Env.set E sd v) w) (hX : ¬ X ad.block := by first | exact id | assumption | (show ¬ (_ = _); omega) | (intro h; omega)) : eseq P N X K (⟨none, some sd, .load tt x, t, m⟩ :: rest) E w := by
  obtain ⟨d, h1, h2⟩ := T.under
  refine q_read v rfl hd (fun a ha w' hB => ?_) h
  have hc' := cell_relX hB hc hX
  have hA := run_isAgg h1 w'
  rw [h2] at hA
  simp [execOp, QOp.oper, ha.eval hx, Instr.loadAt, Instr.sureAddr, loadVar, hA, load, Sem.run, hc']

/-- these values lie from the place on -/
def CellsAt (w : World) (b off : Nat) (vs : List Value) : Prop := ∀ j v, vs[j]? = some v → w.cell? ⟨b, off + j, none⟩ = some v

theorem run_loadCellsFrom {b off : Nat} : ∀ (vs : List Value) (i : Nat) (acc : Array Value) (w : World), CellsAt w b (off + i) vs →
    (loadCellsFrom ⟨b, off, none⟩ i vs.length acc).run P w = .ok (acc ++ vs.toArray) w
  | [], i, acc, w, _ => by simp [loadCellsFrom]
  | v :: vs, i, acc, w, h => by
    have h0 : w.cell? ⟨b, off + i, none⟩ = some v := by have := h 0 v rfl; simpa using this
    have h1 : CellsAt w b (off + (i + 1)) vs := fun j u hj => by
      have := h (j + 1) u (by simpa using hj)
      rw [show off + i + (j + 1) = off + (i + 1) + j from by omega] at this; exact this
    have ih := run_loadCellsFrom vs (i + 1) (acc.push v) w h1
    rw [List.length_cons, loadCellsFrom, add_mk]
    simp [load, Sem.run, h0, ih]
theorem q_loadAgg {sd : Nat} {x : Operand} {tt : TypeId} {b off n : Nat} {vs : List Value} [T : TAgg P tt n] (hx : ev E x = some (.pointer (some ⟨b, off, none⟩))) (hc : CellsAt w b off vs) (hn : vs.length = n)
    (hd : dOK N (some sd) = true) (h : eseq P N X K rest (Env.set E sd (.agg vs.toArray)) w) (hX : ¬ X b := by first | exact id | assumption | (show ¬ (_ = _); omega) | (intro h; omega)) : eseq P N X K (⟨none, some sd, .load tt x, t, m⟩ :: rest) E w := by
  obtain ⟨d, h1, h2⟩ := T.under
  obtain ⟨inf, h3, h4⟩ := T.size
  refine q_read _ rfl hd (fun a ha w' hB => ?_) h
  have hc' : CellsAt w' b (off + 0) vs := fun j v hj => cell_relX hB (hc j v hj) hX
  have hA := run_isAgg h1 w'
  rw [h2] at hA
  have hl := run_loadCellsFrom (P := P) vs 0 #[] w' hc'
  rw [hn, ← h4] at hl
  simp [execOp, QOp.oper, ha.eval hx, Instr.loadAt, Instr.sureAddr, loadVar, hA, run_size h3, loadCells, hl]

/-! ### blocks -/
def Blk (w : World) (b : Nat) (cs : List Value) (t : TypeId) : Prop := w.heap[b]? = some (.cells cs.toArray t (0, 0))
/-- but for block b (and new ones) memory is as it was -/
structure Only (w w1 : World) (b : Nat) : Prop where
  os : w1.os = w.os
  tape : w1.tape = w.tape
  output : w1.output = w.output
  size : w.heap.size ≤ w1.heap.size
  block : ∀ k, k < w.heap.size → k ≠ b → w1.heap[k]? = w.heap[k]?

theorem Blk.lt {w : World} {b : Nat} {cs : List Value} {t : TypeId} (h : Blk w b cs t) : b < w.heap.size := (Array.getElem?_eq_some_iff.1 h).1
theorem Blk.cell {w : World} {b : Nat} {cs : List Value} {t : TypeId} (h : Blk w b cs t) {o : Nat} {v : Value} (hv : cs[o]? = some v) : w.cell? ⟨b, o, none⟩ = some v := by
  unfold Blk at h; simp [World.cell?, h, hv]
theorem Blk.cells {w : World} {b : Nat} {cs : List Value} {t : TypeId} (h : Blk w b cs t) : CellsAt w b 0 cs := fun j v hj => by rw [Nat.zero_add]; exact h.cell hj
theorem Blk.below {w w' : World} {n b : Nat} {cs : List Value} {t : TypeId} (h : Blk w b cs t) (hB : Below n w w') (hn : b < n) : Blk w' b cs t := by
  unfold Blk at *; rw [hB.block b hn]; exact h
theorem Blk.only {w w' : World} {n b : Nat} {cs : List Value} {t : TypeId} (h : Blk w b cs t) (hB : Only w w' n) (hn : b ≠ n) : Blk w' b cs t := by
  unfold Blk at *; rw [hB.block b (Array.getElem?_eq_some_iff.1 h).1 hn]; exact h
theorem Below.only {n : Nat} {w0 w w' : World} {b : Nat} (h : Below n w0 w) (ho : Only w w' b) (hn : n ≤ b) (hs : n ≤ w.heap.size) : Below n w0 w' :=
  h.trans ⟨ho.os, ho.tape, ho.output, ho.size, fun k hk => ho.block k (by omega) (by omega)⟩

theorem alloc_below (w : World) (d : Nat) (o : Obj) : Below w.heap.size w ((w.atd d).alloc o) :=
  ⟨rfl, rfl, rfl, by simp, fun k hk => by show (w.heap.push o)[k]? = _; rw [Array.getElem?_push, if_neg (by omega)]⟩
theorem alloc_blk (w : World) (d : Nat) (cs : List Value) (t : TypeId) : Blk ((w.atd d).alloc (.cells cs.toArray t)) w.heap.size cs t := by
  show (w.heap.push _)[w.heap.size]? = _; simp

theorem setCell_only (w : World) (d b o : Nat) (v : Value) : Only w ((w.atd d).setCell ⟨b, o, none⟩ v) b :=
  ⟨rfl, rfl, rfl, by simp [World.setCell], fun k _ hk => by
    simp only [World.setCell, Array.getElem?_modify, atd_heap]; rw [if_neg (by omega)]⟩
theorem setCell_blk {w : World} (d : Nat) {b : Nat} {cs : List Value} {t : TypeId} (h : Blk w b cs t) (o : Nat) (v : Value) : Blk ((w.atd d).setCell ⟨b, o, none⟩ v) b (cs.set o v) t := by
  unfold Blk at *
  simp only [World.setCell, Array.getElem?_modify, atd_heap, if_true, h]
  simp

def oneV : Value → Bool
  | .agg _ => false
  | .tuple _ => false
  | _ => true
theorem cells_one {v : Value} (h : oneV v = true) : v.cells = #[v] := by cases v <;> simp_all [oneV, Value.cells]

theorem run_store1 {w : World} {b o : Nat} {cs : List Value} {t : TypeId} {v : Value} (hb : Blk w b cs t) (ho : o < cs.length) (hv : oneV v = true) : (store ⟨b, o, none⟩ v).run P w = .ok () (w.setCell ⟨b, o, none⟩ v) := by
  have hc : w.cell? ⟨b, o, none⟩ = some cs[o] := hb.cell (by simp [ho])
  have hf : w.frozen? ⟨b, o, none⟩ = false := by unfold Blk at hb; simp [World.frozen?, hb]
  cases v <;> simp_all [oneV, store, Sem.run]

theorem q_store {x y : Operand} {tt : TypeId} {b o : Nat} {cs : List Value} {bt : TypeId} {v : Value} [T : TCell P tt] (hx : ev E x = some (.pointer (some ⟨b, o, none⟩))) (hy : ev E y = some v)
    (hb : Blk w b cs bt) (ho : o < cs.length) (hv : oneV v = true) (hd : dst = none) (hm : m = false)
    (h : ∀ w1, Blk w1 b (cs.set o v) bt → Only w w1 b → eseq P N X K rest E w1) : eseq P N X K (⟨none, dst, .store tt x y, t, m⟩ :: rest) E w := by
  obtain ⟨inf, h3, h4⟩ := T.size
  subst hd; subst hm
  refine q_eff rfl fun a ha d => ?_
  have hb' : Blk (w.atd d) b cs bt := hb
  have hs := run_store1 (P := P) hb' ho hv
  have hrun : (execOp a.eval (QOp.oper ⟨none, none, .store tt x y, t, false⟩)).run P (w.atd d) = .ok .skip ((w.atd d).setCell ⟨b, o, none⟩ v) := by
    simp [execOp, QOp.oper, ha.eval hx, ha.eval hy, Instr.storeAt, Instr.sureAddr, storeVar, run_size h3, h4, cells_one hv, storeCells, add_mk, hs]
  unfold Oper.wp
  rw [hrun]
  refine ⟨undef, (w.atd d).setCell ⟨b, o, none⟩ v, d, rfl, rfl, rfl, (fun h => by cases h), ?_⟩
  exact h _ (setCell_blk d hb o v) (setCell_only w d b o v)

def setN : List Value → Nat → List Value → List Value
  | cs, _, [] => cs
  | cs, o, v :: vs => setN (cs.set o v) (o + 1) vs
theorem run_storeCells {b off : Nat} {t : TypeId} : ∀ (vs : List Value) (i : Nat) (cs : List Value) (w : World), Blk w b cs t → off + i + vs.length ≤ cs.length → (∀ v ∈ vs, oneV v = true) →
    ∃ w1, (storeCells ⟨b, off, none⟩ vs i).run P w = .ok () w1 ∧ Blk w1 b (setN cs (off + i) vs) t ∧ Only w w1 b
  | [], i, cs, w, hb, _, _ => ⟨w, by simp [storeCells], hb, ⟨rfl, rfl, rfl, Nat.le_refl _, fun _ _ _ => rfl⟩⟩
  | v :: vs, i, cs, w, hb, hl, hv => by
    simp only [List.length_cons] at hl
    have hs := run_store1 (P := P) hb (o := off + i) (by omega) (hv v (by simp))
    have hb1 := setCell_blk w.drawn hb (off + i) v
    obtain ⟨w1, h1, h2, h3⟩ := run_storeCells (off := off) vs (i + 1) (cs.set (off + i) v) (w.setCell ⟨b, off + i, none⟩ v) hb1 (by simp; omega) (fun u hu => hv u (by simp [hu]))
    refine ⟨w1, ?_, by rw [show off + (i + 1) = off + i + 1 from by omega] at h2; exact h2, ?_⟩
    · rw [storeCells, add_mk]; simp [hs, h1]
    · have h0 := setCell_only w w.drawn b (off + i) v
      exact ⟨h3.os.trans h0.os, h3.tape.trans h0.tape, h3.output.trans h0.output, Nat.le_trans h0.size h3.size, fun k hk hne => (h3.block k (Nat.lt_of_lt_of_le hk h0.size) hne).trans (h0.block k hk hne)⟩
theorem q_storeAgg {x y : Operand} {tt : TypeId} {b o n : Nat} {cs vs : List Value} {bt : TypeId} [T : TAgg P tt n] (hx : ev E x = some (.pointer (some ⟨b, o, none⟩))) (hy : ev E y = some (.agg vs.toArray))
    (hb : Blk w b cs bt) (hn : vs.length = n) (ho : o + n ≤ cs.length) (hv : ∀ v ∈ vs, oneV v = true) (hd : dst = none) (hm : m = false)
    (h : ∀ w1, Blk w1 b (setN cs o vs) bt → Only w w1 b → eseq P N X K rest E w1) : eseq P N X K (⟨none, dst, .store tt x y, t, m⟩ :: rest) E w := by
  obtain ⟨inf, h3, h4⟩ := T.size
  subst hd; subst hm
  refine q_eff rfl fun a ha d => ?_
  have hb' : Blk (w.atd d) b cs bt := hb
  obtain ⟨w1, hs, hb1, ho1⟩ := run_storeCells (P := P) (off := o) vs 0 cs (w.atd d) hb' (by omega) hv
  have hrun : (execOp a.eval (QOp.oper ⟨none, none, .store tt x y, t, false⟩)).run P (w.atd d) = .ok .skip w1 := by
    simp [execOp, QOp.oper, ha.eval hx, ha.eval hy, Instr.storeAt, Instr.sureAddr, storeVar, run_size h3, h4, Value.cells, hn, hs]
  unfold Oper.wp
  rw [hrun]
  exact ⟨undef, w1, w1.drawn, rfl, rfl, rfl, (fun h => by cases h), h w1 hb1 ⟨ho1.os, ho1.tape, ho1.output, ho1.size, ho1.block⟩⟩

/-! new blocks -/
class TZero (P : Program) (t : TypeId) (z : outParam (List Value)) : Prop where
  zero0 : ((P.info? t).bind TypeInfo.zero).map (fun v => v.cells.toList) = some z
theorem TZero.zero {P : Program} {t : TypeId} {z : List Value} [T : TZero P t z] : ∃ i v, P.info? t = some i ∧ i.zero = some v ∧ v.cells = z.toArray := by
  obtain ⟨v, h1, h2⟩ := ex_of_map T.zero0
  cases hi : P.info? t with
  | none => rw [hi] at h1; cases h1
  | some i => rw [hi] at h1; exact ⟨i, v, rfl, h1, by rw [← h2]⟩
theorem q_alloc {sd : Nat} {tt : TypeId} {z : List Value} [T : TZero P tt z] (hd : dOK N (some sd) = true)
    (h : ∀ w1, Blk w1 w.heap.size z tt → Below w.heap.size w w1 → eseq P N X K rest (Env.set E sd (.pointer (some ⟨w.heap.size, 0, none⟩))) w1) : eseq P N X K (⟨none, some sd, .alloc tt, t, m⟩ :: rest) E w := by
  obtain ⟨inf, v, h1, h2, h3⟩ := T.zero
  refine q_eff rfl fun a ha d => ?_
  have hrun : (execOp a.eval (QOp.oper ⟨none, some sd, .alloc tt, t, m⟩)).run P (w.atd d) = .ok (.value (.pointer (some ⟨w.heap.size, 0, none⟩))) ((w.atd d).alloc (.cells z.toArray tt)) := by
    simp [execOp, QOp.oper, Instr.alloc, zeroValue, typeInfo, h1, h2, newVar, newRow, h3, newObj, Sem.run]
  unfold Oper.wp
  rw [hrun]
  exact ⟨_, _, _, rfl, rfl, hd, fun _ => .of_below (alloc_below w d _), h _ (alloc_blk w d z tt) (alloc_below w d _)⟩
theorem q_box {sd : Nat} {x : Operand} {tt : TypeId} {v : Value} {cs : List Value} (hx : ev E x = some v) (hv : v.cells = cs.toArray) (hd : dOK N (some sd) = true)
    (h : ∀ w1, Blk w1 w.heap.size cs tt → Below w.heap.size w w1 → eseq P N X K rest (Env.set E sd (.pointer (some ⟨w.heap.size, 0, none⟩))) w1) : eseq P N X K (⟨none, some sd, .box tt x, t, m⟩ :: rest) E w := by
  refine q_eff rfl fun a ha d => ?_
  have hrun : (execOp a.eval (QOp.oper ⟨none, some sd, .box tt x, t, m⟩)).run P (w.atd d) = .ok (.value (.pointer (some ⟨w.heap.size, 0, none⟩))) ((w.atd d).alloc (.cells cs.toArray tt)) := by
    simp [execOp, QOp.oper, Instr.box, ha.eval hx, newVar, newRow, hv, newObj, Sem.run]
    rfl
  unfold Oper.wp
  rw [hrun]
  exact ⟨_, _, _, rfl, rfl, hd, fun _ => .of_below (alloc_below w d _), h _ (alloc_blk w d cs tt) (alloc_below w d _)⟩

/-! calls -/
def Gives (P : Program) (f : FuncId) (args : List Value) (w : World) (Φ : Value → World → Prop) : Prop :=
  ∀ d, Calls P f args.toArray (w.atd d) fun e w' => ∃ v w1 d', e = .returned v ∧ w' = w1.atd d' ∧ Φ v w1
def evs (E : Env) : List Operand → Option (List Value)
  | [] => some []
  | x :: xs => match ev E x, evs E xs with
    | some v, some vs => some (v :: vs)
    | _, _ => none
theorem evs_map {a : Act} (ha : Has a N E) : ∀ {xs : List Operand} {vs : List Value}, evs E xs = some vs → xs.map a.eval = vs
  | [], vs, h => by simp [evs] at h; subst h; rfl
  | x :: xs, vs, h => by
    simp only [evs] at h
    cases hx : ev E x with
    | none => rw [hx] at h; cases h
    | some v =>
      cases hxs : evs E xs with
      | none => rw [hx, hxs] at h; cases h
      | some us =>
        rw [hx, hxs] at h
        simp only [Option.some.injEq] at h
        subst h
        simp [ha.eval hx, evs_map ha hxs]
theorem run_callFunc {f : FuncId} [T : TFn P f] (args : Array Value) (w : World) : (callFunc f args).run P w = .ok (.enter f args) w := by
  have h := T.fn
  cases hf : P.funcs[f]? with
  | none => rw [hf] at h; cases h
  | some fn =>
    rw [hf] at h
    simp only [Option.any_some, Bool.and_eq_true, Bool.not_eq_true'] at h
    have hb : fn.body ≠ none := by intro e; rw [e] at h; cases h.2
    have hn : ¬ fn.name = "runtime.NumGoroutine" := by simpa using h.1
    simp [callFunc, hf, hn, hb]
theorem q_callD {f : FuncId} {xs : List Operand} {ts : Array TypeId} {vs : List Value} {Φ : Value → World → Prop} [T : TFn P f] (hx : evs E xs = some vs) (hc : Gives P f vs w Φ) (hd : dOK N dst = true)
    (h : ∀ v w1, Φ v w1 → (m = true → RelX X w w1) ∧ eseq P N X K rest (E.put dst v) w1) : eseq P N X K (⟨none, dst, .call { callee := .value (.func f), args := xs.toArray, argTypes := ts }, t, m⟩ :: rest) E w := by
  refine q_eff rfl fun a ha d => ?_
  have hrun : (execOp a.eval (QOp.oper ⟨none, dst, .call { callee := .value (.func f), args := xs.toArray, argTypes := ts }, t, m⟩)).run P (w.atd d) = .ok (.enter f vs.toArray) (w.atd d) := by
    have := run_callFunc (P := P) (f := f) vs.toArray (w.atd d)
    simp [execOp, QOp.oper, resolve, Act.eval, Deferred.ofValue, invoke]
    rw [show List.map a.eval xs = vs from evs_map ha hx]
    exact this
  unfold Oper.wp
  rw [hrun]
  refine (hc d).mono fun e w' h' => ?_
  obtain ⟨v, w1, d', rfl, rfl, hΦ⟩ := h'
  exact ⟨v, w1, d', rfl, rfl, hd, h v w1 hΦ⟩
theorem q_call {sd : Nat} {f : FuncId} {xs : List Operand} {ts : Array TypeId} {vs : List Value} {Φ : Value → World → Prop} [T : TFn P f] (hx : evs E xs = some vs) (hc : Gives P f vs w Φ) (hd : dOK N (some sd) = true)
    (h : ∀ v w1, Φ v w1 → (m = true → RelX X w w1) ∧ eseq P N X K rest (Env.set E sd v) w1) : eseq P N X K (⟨none, some sd, .call { callee := .value (.func f), args := xs.toArray, argTypes := ts }, t, m⟩ :: rest) E w :=
  q_callD hx hc hd h
theorem q_call0 {f : FuncId} {xs : List Operand} {ts : Array TypeId} {vs : List Value} {Φ : Value → World → Prop} [T : TFn P f] (hx : evs E xs = some vs) (hc : Gives P f vs w Φ)
    (h : ∀ v w1, Φ v w1 → (m = true → RelX X w w1) ∧ eseq P N X K rest E w1) : eseq P N X K (⟨none, none, .call { callee := .value (.func f), args := xs.toArray, argTypes := ts }, t, m⟩ :: rest) E w :=
  q_callD hx hc rfl h

/-! the body of a function -/
def Res (P : Program) (fn : Func) (E : Env) (w : World) (v : Value) : Prop := ∀ a N d, Has a N E → (results fn a.tmps).run P (w.atd d) = .ok v (w.atd d)
def QEnd (P : Program) (fn : Func) (Φ : Value → World → Prop) : EPost
  | .normal, E, w => ∃ v, Res P fn E w v ∧ Φ v w
  | .ret, E, w => ∃ v, Res P fn E w v ∧ Φ v w
  | _, _, _ => False
def Env.ofArgs : Nat → List Value → Env
  | _, [] => []
  | i, v :: vs => (i, v) :: Env.ofArgs (i + 1) vs
theorem find_ofArgs : ∀ (vs : List Value) (i s : Nat) (v : Value), Env.find (Env.ofArgs i vs) s = some v → i ≤ s ∧ vs[s - i]? = some v
  | [], i, s, v, h => by cases h
  | u :: vs, i, s, v, h => by
    rw [Env.ofArgs, Env.find_cons] at h
    split at h
    · subst s; simp at h; simp [h]
    · rename_i hne
      obtain ⟨h1, h2⟩ := find_ofArgs vs (i + 1) s v h
      refine ⟨by omega, ?_⟩
      rw [show s - i = (s - (i + 1)) + 1 from by omega]
      simpa using h2
theorem fn_of {f : FuncId} {fn : Func} {c : Code} {args : List Value} {Φ : Value → World → Prop} (hf : P.funcs[f]? = some fn) (hb : fn.body = some c) (hn : fn.ntmps = N) (hl : args.length ≤ N)
    (h : ewp P N c (QEnd P fn Φ) (Env.ofArgs 0 args) w) : Gives P f args w Φ := by
  intro d
  refine calls_of_wp hf hb (wp_mono (h d _ ⟨rfl, ?_, fun s v hs => ?_⟩) ?_)
  · simp [hn]; omega
  · obtain ⟨_, h2⟩ := find_ofArgs args 0 s v hs
    have hlt : s < args.length := by
      rcases Nat.lt_or_ge s args.length with h | h
      · exact h
      · simp [List.getElem?_eq_none h] at h2
    simp only [Array.getElem?_append]
    rw [if_pos (by simpa using hlt)]
    simpa using h2
  · rintro e a' w' ⟨E', w0, d0, rfl, hE, hQ⟩
    cases e with
    | normal => obtain ⟨v, hr, hΦ⟩ := hQ; exact ⟨hE.defers, v, hr a' N d0 hE, v, w0, d0, rfl, rfl, hΦ⟩
    | ret => obtain ⟨v, hr, hΦ⟩ := hQ; exact ⟨hE.defers, v, hr a' N d0 hE, v, w0, d0, rfl, rfl, hΦ⟩
    | _ => exact hQ.elim
theorem res0 {fn : Func} (h : fn.results = #[]) : Res P fn E w (.tuple #[]) := fun _ _ _ _ => results_none h _ _ _
theorem res1 {fn : Func} {s : Nat} {v : Value} (h : fn.results = #[.tmp s]) (hs : Env.find E s = some v) : Res P fn E w v := fun a N d ha => by
  rw [results_tmp h]; simp [ha.slot s v hs]
theorem res2 {fn : Func} {s s' : Nat} {v v' : Value} (h : fn.results = #[.tmp s, .tmp s']) (hs : Env.find E s = some v) (hs' : Env.find E s' = some v') : Res P fn E w (.tuple #[v, v']) := fun a N d ha => by
  rw [results_tmp2 h]; simp [ha.slot s v hs, ha.slot s' v' hs']
end
end Go.Mine
