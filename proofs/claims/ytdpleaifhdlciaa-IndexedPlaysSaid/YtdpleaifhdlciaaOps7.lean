import Derived.Test.YtdpleaifhdlciaaOps6
import Derived.Great.BuildSlice
import Derived.Laws.StructEq
namespace Go.Mine
open Go.RowKit

theorem all_nil : ∀ v ∈ ([] : List Value), oneV v = true := fun _ h => by cases h
theorem all_cons {a : Value} {l : List Value} (h : oneV a = true) (t : ∀ v ∈ l, oneV v = true) : ∀ v ∈ a :: l, oneV v = true := fun v hv => by
  rcases List.mem_cons.1 hv with rfl | hv
  · exact h
  · exact t v hv
/-! ### slice literals of several elements -/
def fillS (sz : Nat) : List Value → List (Nat × List Value) → Option (List Value)
  | cs, [] => some cs
  | cs, (i, c) :: rest => bif Nat.beq c.length sz && Nat.ble (i * sz + c.length) cs.length then fillS sz (setN cs (i * sz) c) rest else none
theorem fillS_eq {sz : Nat} : ∀ {ps : List (Nat × Operand)} {vs : List (Nat × Value)} {pc : List (Nat × List Value)} {E : Env}, Parts E ps vs pc → ∀ (cs out : List Value), fillS sz cs pc = some out →
    Instr.fill (fun i => some (i * sz, sz)) cs.toArray vs = some out.toArray := by
  intro ps vs pc E h
  induction h with
  | nil => intro cs out h; simp [fillS] at h; subst h; rfl
  | @cons i x v c ps vs pc hx hv _ ih =>
    intro cs out h
    rw [fillS] at h
    cases hc : (Nat.beq c.length sz && Nat.ble (i * sz + c.length) cs.length)
    · rw [hc] at h; cases h
    · rw [hc] at h
      simp only [cond_true] at h
      simp only [Bool.and_eq_true] at hc
      have h1 : c.length = sz := Nat.eq_of_beq_eq_true hc.1
      have h2 : i * sz + c.length ≤ cs.length := Nat.le_of_ble_eq_true hc.2
      have h3 : v.cells.size = sz := by simp [hv, h1]
      have := ih _ _ h
      unfold Instr.fill
      simp only [h3]
      simp only [ne_eq, not_true, decide_false, Bool.false_or] at *
      rw [if_neg (by simp; omega)]
      have hf := fold_setN (i * sz) c 0 cs.toArray
      rw [hv, ← Array.foldl_toList, Array.toList_zipIdx]
      simp only [Nat.add_zero] at hf
      rw [hf]; exact this
def zs (z : List Value) (n : Nat) : List Value := (List.range (n * z.length)).map fun i => z.getD (i % z.length) undef
section
variable {P : Program} {N : Nat} {X : Nat → Prop} {K : Env → World → Prop} {E : Env} {w : World} {t : TypeId} {m : Bool} {rest : List QOp} {sd : Nat}
theorem q_max {x y : Operand} {k k' : IntKind} {i j : Int} {ts : Array TypeId} (hx : ev E x = some (.int k i)) (hy : ev E y = some (.int k' j)) (hd : dOK N (some sd) = true) (h : eseq P N X K rest (Env.set E sd (.int k (max i j))) w) :
    eseq P N X K (⟨none, some sd, .call { callee := .builtin .max, args := #[x, y], argTypes := ts }, t, m⟩ :: rest) E w :=
  q_pure _ rfl hd (fun a ha w' => by
    have e : (if j > i then j else i) = max i j := by simp only [Int.max_def]; split <;> split <;> omega
    simp [execOp, QOp.oper, resolve, invoke, builtin, ha.eval hx, ha.eval hy, Builtin.max_, Builtin.max2, e]) h
theorem q_min {x y : Operand} {k k' : IntKind} {i j : Int} {ts : Array TypeId} (hx : ev E x = some (.int k i)) (hy : ev E y = some (.int k' j)) (hd : dOK N (some sd) = true) (h : eseq P N X K rest (Env.set E sd (.int k (min i j))) w) :
    eseq P N X K (⟨none, some sd, .call { callee := .builtin .min, args := #[x, y], argTypes := ts }, t, m⟩ :: rest) E w :=
  q_pure _ rfl hd (fun a ha w' => by
    have e : (if j < i then j else i) = min i j := by simp only [Int.min_def]; split <;> split <;> omega
    simp [execOp, QOp.oper, resolve, invoke, builtin, ha.eval hx, ha.eval hy, Builtin.min_, Builtin.min2, e]) h
theorem q_sliceN {ps : List (Nat × Operand)} {vs : List (Nat × Value)} {pc : List (Nat × List Value)} {ts e sz bytes n : Nat} {cs z : List Value} [TS : TSlice P ts e sz] [TE : TElem P e bytes z] (hp : Parts E ps vs pc) (hz0 : Nat.beq z.length sz = true) (hl : fillS sz (zs z n) pc = some cs)
    (h0 : Nat.blt 0 (n * sz) = true) (h24 : Nat.ble (n * sz) 1000 = true) (hd : dOK N (some sd) = true)
    (h : ∀ w1 b, w.heap.size ≤ b → Blk w1 b cs e → Below w.heap.size w w1 → eseq P N X K rest (Env.set E sd (.slice (some ⟨b, 0, none⟩) n n)) w1) : eseq P N X K (⟨none, some sd, .buildSlice ts n ps.toArray, t, m⟩ :: rest) E w := by
  have hz : z.length = sz := Nat.eq_of_beq_eq_true hz0
  obtain ⟨inf, zv, h1, h2, h3, h4⟩ := TE.parts
  obtain ⟨inf', h5, h6⟩ := TS.size
  rw [h1] at h5; cases h5
  have h0' : 0 < n * sz := by simpa [Nat.blt_eq] using h0
  have h24' : n * sz ≤ 1000 := by simpa using h24
  refine q_eff rfl fun a ha d => ?_
  have hvs : (ps.map fun (p : Nat × Operand) => (p.1, a.eval p.2)) = vs := by
    clear hl h
    induction hp with
    | nil => rfl
    | cons hx _ _ ih => simp [ha.eval hx, ih]
  have hf := fillS_eq (sz := sz) hp (zs z n) cs hl
  have hzz : (zs z n).toArray = (Array.range (n * inf.size)).map (zv.cells[· % zv.cells.size]!) := by
    have hlen : 0 < z.length := by
      rcases Nat.eq_zero_or_pos z.length with h | h
      · rw [h] at hz; subst hz; simp at h0'
      · exact h
    rw [h6, h4, zs, hz]
    apply Array.ext'
    simp only [Array.toList_map, Array.toList_range]
    apply List.map_congr_left
    intro i _
    have : i % sz < z.length := by rw [hz] at hlen ⊢; exact Nat.mod_lt _ hlen
    simp [hz, List.getD]
    rw [List.getElem?_eq_getElem (by simpa [hz] using this)]; simp
  have hrun : (execOp a.eval (QOp.oper ⟨none, some sd, .buildSlice ts n ps.toArray, t, m⟩)).run P (w.atd d) = .ok (.value (.slice (some ⟨w.heap.size, 0, none⟩) n n)) ((w.atd d).alloc (.cells cs.toArray e)) := by
    have hb := run_buildSlice (P := P) (w.atd d) ts e n (ps.toArray.map fun (p : Nat × Operand) => (p.1, a.eval p.2)) cs.toArray inf zv TS.under h1 h3 (by rw [h6]; omega) (by rw [h6]; omega) (by
      rw [← hzz, h6]; simp only [List.map_toArray]; rw [hvs]; exact hf)
    simp only [execOp, QOp.oper]
    simp only [Sem.run_bind]
    rw [hb]; rfl
  unfold Oper.wp
  rw [hrun]
  exact ⟨_, _, _, rfl, rfl, hd, fun _ => .of_below (alloc_below w d _), h _ _ (Nat.le_refl _) (alloc_blk w d cs e) (alloc_below w d _)⟩
/-! ### equality of structs and arrays -/
def EqV (P : Program) (d : Nat) (t : TypeId) (x y : Value) (r : Bool) : Prop := ∀ w, (Op.equalIn d t x y).run P w = .ok r w
def EqF (P : Program) (d : Nat) (fs : List Field) (xs ys : Array Value) (r : Bool) : Prop := ∀ w, (Op.eqFields d xs ys fs).run P w = .ok r w
def PartV (P : Program) (t : TypeId) (xs : Array Value) (off : Nat) (v : Value) : Prop := ∀ w, (part t xs off).run P w = .ok v w
theorem PartV.cell {tt off : Nat} {xs : Array Value} {v : Value} [T : TCell P tt] (h : xs[off]? = some v) : PartV P tt xs off v := fun w => by
  obtain ⟨de, h1, h2⟩ := T.under
  have hA := run_isAgg h1 w
  rw [h2] at hA
  simp [part, hA, h]
theorem PartV.agg {tt off n : Nat} {xs zs : Array Value} [T : TAgg P tt n] (h : xs.extract off (off + n) = zs) : PartV P tt xs off (.agg zs) := fun w => by
  obtain ⟨de, h1, h2⟩ := T.under
  obtain ⟨inf, h3, h4⟩ := T.size
  have hA := run_isAgg h1 w
  rw [h2] at hA
  simp [part, hA, run_size h3, h4, h]
theorem EqV.int {d : Nat} {tt : TypeId} {k k' : IntKind} {a b : Int} (h : P.underlying tt = some (.int k')) : EqV P (d + 1) tt (.int k a) (.int k b) (a == b) := fun w => run_equalIn_int w d tt k k' a b h
theorem EqV.bool {d : Nat} {tt : TypeId} {a b : Bool} (h : P.underlying tt = some .bool) : EqV P (d + 1) tt (.bool a) (.bool b) (a == b) := fun w => run_equalIn_bool' w d tt a b h
theorem EqF.nil {d : Nat} {xs ys : Array Value} : EqF P d [] xs ys true := fun w => by simp [Op.eqFields]
theorem EqF.cons {d : Nat} {f : Field} {fs : List Field} {xs ys : Array Value} {x y : Value} {r1 r2 : Bool} (hn : (f.name != "_") = true) (h1 : PartV P f.type xs f.offset x) (h2 : PartV P f.type ys f.offset y) (h3 : EqV P d f.type x y r1) (h4 : EqF P d fs xs ys r2) :
    EqF P d (f :: fs) xs ys (r1 && r2) := fun w => by
  have hn' : f.name ≠ "_" := by simpa using hn
  simp only [Op.eqFields, if_pos hn', Sem.run_bind, h1 w, h2 w, h3 w, Result.andThen_ok]
  cases r1
  · simp
  · simpa using h4 w
theorem EqV.struct {d : Nat} {tt : TypeId} {fs : Array Field} {xs ys : Array Value} {r : Bool} (ht : P.underlying tt = some (.struct fs)) (hp : P.stoodInHeld tt = false) (h : EqF P d fs.toList xs ys r) : EqV P (d + 1) tt (.agg xs) (.agg ys) r := fun w => by
  have hf : P.fieldsOf tt = fs := by simp [Program.fieldsOf, ht]
  rw [run_equalIn_agg w d tt xs ys (by rw [hf]; exact ht) hp, hf]
  exact h w
theorem q_eqlA {x y : Operand} {ty ty' : TypeId} {xs ys : Array Value} {r : Bool} (he : EqV P 10000 ty (.agg xs) (.agg ys) r) (hg : P.eqGuardType P.depth ty = false) (hx : ev E x = some (.agg xs)) (hy : ev E y = some (.agg ys)) (hd : dOK N (some sd) = true) (h : eseq P N X K rest (Env.set E sd (.bool r)) w) :
    eseq P N X K (⟨none, some sd, .binOp .eql ty x y ty', t, m⟩ :: rest) E w :=
  q_pure _ rfl hd (fun a ha w' => by
    simp only [execOp, QOp.oper, ha.eval hx, ha.eval hy, Sem.run_bind, run_eqGuard_agg w' .eql ty x y xs ys hg, Result.andThen_ok, run_eql_struct, he w']; rfl) h
theorem q_neqA {x y : Operand} {ty ty' : TypeId} {xs ys : Array Value} {r : Bool} (he : EqV P 10000 ty (.agg xs) (.agg ys) r) (hg : P.eqGuardType P.depth ty = false) (hx : ev E x = some (.agg xs)) (hy : ev E y = some (.agg ys)) (hd : dOK N (some sd) = true) (h : eseq P N X K rest (Env.set E sd (.bool (!r))) w) :
    eseq P N X K (⟨none, some sd, .binOp .neq ty x y ty', t, m⟩ :: rest) E w :=
  q_pure _ rfl hd (fun a ha w' => by
    simp only [execOp, QOp.oper, ha.eval hx, ha.eval hy, Sem.run_bind, run_eqGuard_agg w' .neq ty x y xs ys hg, Result.andThen_ok, run_neq_struct, he w']; rfl) h
end
end Go.Mine
