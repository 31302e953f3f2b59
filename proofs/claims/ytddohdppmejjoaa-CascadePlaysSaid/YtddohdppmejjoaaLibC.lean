import Derived.Test.YtddohdppmejjoaaLibB
import Derived.ProofKit
import Derived.Deep.Slices
import Derived.Carry
set_option linter.unusedVariables false
namespace Go.Mine
open Go.RowKit Go.ChangeShapes Go.WideShapes Go.ChangeAt

/-! ### whatever can be read of a type lies in memory as plain data -/
structure Opens (P : Program) (t : TypeId) {α : Type} (T : Ty α) (Q : α → Prop) : Prop where
  size : P.cellsOf t = T.sz
  run : ∀ {H : Type} {enc : TypeId × Value → H} {w : World} {sp : Nat → Bool} {held : Bool} {fuel : Nat} {cs : List Value} {x : DataW H × List MemPlace}, DataW.trod enc P w 0 sp held fuel t cs = some x → ∃ a, T.R w (fun _ => True) cs a ∧ Q a
def I64 (n : Int) : Prop := -9223372036854775808 ≤ n ∧ n ≤ 9223372036854775807
def U8 (n : Int) : Prop := 0 ≤ n ∧ n ≤ 255
theorem I64.of {n : Int} (h : (Lit.int .i64 n).wf = true) : I64 n := by simpa [Lit.wf, IntKind.min, IntKind.max, IntKind.signed, IntKind.bits, I64] using h
theorem U8.of {n : Int} (h : (Lit.int .u8 n).wf = true) : U8 n := by simpa [Lit.wf, IntKind.min, IntKind.max, IntKind.signed, IntKind.bits, U8] using h
section
variable {P : Program} {t e : TypeId} {α β : Type} {T : Ty α} {A : Ty α} {B : Ty β} {Q : α → Prop} {Q' : β → Prop}
theorem Opens.int (ht : P.underlying t = some (.int .i64)) (hc : P.cellsOf t = 1) : Opens P t Ty.int I64 :=
  ⟨hc, fun h => by obtain ⟨n, rfl, _, hw⟩ := DataW.trod_int ht h; exact ⟨n, rfl, I64.of hw⟩⟩
theorem Opens.u8 (ht : P.underlying t = some (.int .u8)) (hc : P.cellsOf t = 1) : Opens P t Ty.u8 U8 :=
  ⟨hc, fun h => by obtain ⟨n, rfl, _, hw⟩ := DataW.trod_int ht h; exact ⟨n, rfl, U8.of hw⟩⟩
theorem Opens.bool (ht : P.underlying t = some .bool) (hc : P.cellsOf t = 1) : Opens P t Ty.bool (fun _ => True) :=
  ⟨hc, fun h => by obtain ⟨n, rfl, _⟩ := DataW.trod_bool ht h; exact ⟨n, rfl, trivial⟩⟩
theorem Opens.slice (ht : P.underlying t = some (.slice e)) (hc : P.cellsOf t = 1) (h0 : 0 < T.sz) (he : Opens P e T Q) : Opens P t T.slice (fun xs => xs.length ≤ 9223372036854775807 ∧ ∀ x ∈ xs, Q x) := by
  refine ⟨hc, fun {H enc w sp held fuel cs x} h => ?_⟩
  rcases DataW.trod_slice ht h with ⟨rfl, _⟩ | ⟨a, len, cap, elems, rest, n, _, rfl, _, hb, hl, hm, hlen, hel, _, _⟩
  · exact ⟨[], ⟨_, rfl, IsSlice.nil _ _ _⟩, by simp, by simp⟩
  · have key : ∀ i, i < len → ∃ cs' x, (∀ j v, cs'[j]? = some v → w.cell? ((a.add (i * T.sz)).add j) = some v) ∧ cs'.length = T.sz ∧ T.R w (fun _ => True) cs' x ∧ Q x := fun i hi => by
      have h1 := hel i hi
      rw [List.getElem?_eq_getElem (by omega)] at h1
      obtain ⟨cs', h2, h3⟩ := Option.bind_eq_some_iff.1 h1
      obtain ⟨x, h4, h5⟩ := he.run h3
      rw [he.size] at h2
      obtain ⟨_, h6, h7⟩ := World.cells?_some h2
      exact ⟨cs', x, fun j v hj => by rw [h7 j (by rw [← h6]; exact (List.getElem?_eq_some_iff.1 hj).1)]; exact hj, h6, h4, h5⟩
    have hlist : ∀ m, m ≤ len → ∃ xs : List α, xs.length = m ∧ ∀ i (hi : i < xs.length), ∃ cs', (∀ j v, cs'[j]? = some v → w.cell? ((a.add (i * T.sz)).add j) = some v) ∧ cs'.length = T.sz ∧ T.R w (fun _ => True) cs' xs[i] ∧ Q xs[i] := by
      intro m
      induction m with
      | zero => exact fun _ => ⟨[], rfl, fun i hi => absurd hi (Nat.not_lt_zero i)⟩
      | succ m ih =>
        intro hm
        obtain ⟨xs, h1, h2⟩ := ih (by omega)
        obtain ⟨cs', x, h3, h4⟩ := key m (by omega)
        refine ⟨xs ++ [x], by simp [h1], fun i hi => ?_⟩
        rcases Nat.lt_or_ge i xs.length with hlt | hge
        · rw [List.getElem_append_left hlt]; exact h2 i hlt
        · have : i = m := by simp at hi; omega
          subst this
          rw [List.getElem_append_right hge]; simp
          exact ⟨cs', by simpa using h3, h4⟩
    obtain ⟨xs, hx, hR⟩ := hlist len (Nat.le_refl _)
    have hspot : 0 < xs.length → a.spot = none := fun h => by
      obtain ⟨cs', h1, h2, _, _⟩ := hR 0 h
      have h3 := h1 0 (cs'[0]'(by omega)) (by simp)
      have h4 : w.cell? a = some (cs'[0]'(by omega)) := by simpa [Addr.add] using h3
      unfold World.cell? at h4
      split at h4
      · split at h4
        · cases h4
        · rename_i h; simpa using h
      · cases h4
    refine ⟨xs, ⟨_, rfl, some a, cap, by rw [hx], by omega, fun h => (by cases h), fun b hb hne => ?_, fun i hi => ?_⟩, by unfold maxLen at hm; omega, fun x hxm => ?_⟩
    · cases hb; exact hspot (List.length_pos_iff.2 hne)
    · obtain ⟨cs', h1, h2, h3, _⟩ := hR i hi
      obtain ⟨b, off, sp'⟩ := a
      have := hspot (by omega)
      simp only at this; subst this
      have hat : CellsAt w b (ix off i T.sz) cs' := fun j v hj => by
        have := h1 j v hj
        rw [add_mk, add_mk] at this
        rw [ix_eq]; exact this
      have hlt : b < w.heap.size := cell_block (hat 0 (cs'[0]'(by omega)) (by simp))
      exact ⟨b, off, rfl, trivial, hlt, cs', hat, h3⟩
    · obtain ⟨i, hi, rfl⟩ := List.getElem_of_mem hxm
      obtain ⟨_, _, _, _, h⟩ := hR i hi
      exact h
/-- the fields from a cell on -/
structure OpensF (P : Program) (fs : List Field) (off : Nat) {α : Type} (T : Ty α) (Q : α → Prop) : Prop where
  run : ∀ {H : Type} {enc : TypeId × Value → H} {w : World} {sp : Nat → Bool} {held : Bool} {fuel : Nat} {cs : List Value}, (∀ f ∈ fs, ∃ x, DataW.trod enc P w 0 sp held fuel f.type ((cs.drop f.offset).take (P.cellsOf f.type)) = some x) → ∃ a, T.R w (fun _ => True) ((cs.drop off).take T.sz) a ∧ Q a
theorem OpensF.one {f : Field} {off : Nat} (ho : f.offset = off) (h : Opens P f.type T Q) : OpensF P [f] off T Q := ⟨fun {H enc w sp held fuel cs} hx => by
  subst ho
  obtain ⟨x, hx⟩ := hx f (by simp)
  rw [h.size] at hx
  exact h.run hx⟩
theorem OpensF.cons {f : Field} {fs : List Field} {off : Nat} (ho : f.offset = off) (h : Opens P f.type A Q) (hr : OpensF P fs (off + A.sz) B Q') : OpensF P (f :: fs) off (A.pair B) (fun p => Q p.1 ∧ Q' p.2) := ⟨fun {H enc w sp held fuel cs} hx => by
  subst ho
  obtain ⟨x, hx0⟩ := hx f (by simp)
  rw [h.size] at hx0
  obtain ⟨a, h1, h2⟩ := h.run hx0
  obtain ⟨b, h3, h4⟩ := hr.run (fun g hg => hx g (by simp [hg]))
  refine ⟨(a, b), ⟨_, _, ?_, h1, h3⟩, h2, h4⟩
  show (cs.drop f.offset).take (A.sz + B.sz) = _
  rw [List.take_add, List.drop_drop]⟩
theorem Opens.struct {fs : Array Field} (ht : P.underlying t = some (.struct fs)) (hc : P.cellsOf t = T.sz) (h : OpensF P fs.toList 0 T Q) : Opens P t T Q := by
  refine ⟨hc, fun {H enc w sp held fuel cs x} hx => ?_⟩
  obtain ⟨xs, n, _, _, hl, hlen, hf⟩ := DataW.trod_struct ht hx
  have := h.run (cs := cs) (fuel := n) (enc := enc) (w := w) (sp := sp) (held := held) (fun f hfm => by
    obtain ⟨i, hi, rfl⟩ := List.getElem_of_mem hfm
    have hi' : i < fs.size := by simpa using hi
    exact ⟨xs[i]'(by omega), by rw [hf i _ (by simp [hi'])]; simp [hlen, hi']⟩)
  rw [List.drop_zero, List.take_of_length_le (by omega)] at this
  exact this
theorem Opens.via {f : β → α} {g : α → β} (h : Opens P t T Q) (hfg : ∀ a, f (g a) = a) : Opens P t (T.via f) (fun b => Q (f b)) :=
  ⟨h.size, fun hx => by obtain ⟨a, h1, h2⟩ := h.run hx; exact ⟨g a, by show T.R _ _ _ (f (g a)); rw [hfg]; exact h1, by rw [hfg]; exact h2⟩⟩
theorem Opens.weak {Q2 : α → Prop} (h : Opens P t T Q) (hq : ∀ a, Q a → Q2 a) : Opens P t T Q2 := ⟨h.size, fun hx => by obtain ⟨a, h1, h2⟩ := h.run hx; exact ⟨a, h1, hq a h2⟩⟩
/-- an argument that is one cell -/
theorem Opens.cell {H : Type} {enc : TypeId × Value → H} {w : World} {v : Value} {d : DataW H} {ps : List MemPlace} (h : Opens P t T Q) (hd : DataW.Trod enc P w 0 (fun _ => true) true t v d ps) : ∃ a, T.R w (fun _ => True) v.cells.toList a ∧ Q a := by
  obtain ⟨fuel, hf⟩ := hd; exact h.run hf
end

section
variable {H : Type} {enc : TypeId × Value → H} {P : Program} {t e : TypeId} {w : World} {r : Reach} {b0 : Nat} {v : Value} {d : DataW H} {ps : List MemPlace} {α : Type} {T : Ty α} {Q : α → Prop}
theorem argSlice (ht : P.underlying t = some (.slice e)) (hc : P.cellsOf t = 1) (h0 : Nat.blt 0 T.sz = true) (he : Opens P e T Q) (hval : Value.okWide P w r b0 t v) (hd : DataW.Trod enc P w 0 (fun _ => true) true t v d ps) :
    ∃ xs, IsSlice T w (fun _ => True) v xs ∧ xs.length ≤ 9223372036854775807 ∧ ∀ x ∈ xs, Q x := by
  obtain ⟨a, len, cap, rfl⟩ := okWide_slice ht hval
  obtain ⟨xs, ⟨u, hu, h1⟩, h2⟩ := (Opens.slice ht hc (by simpa [Nat.blt_eq] using h0) he).cell hd
  simp [Value.cells] at hu; subst hu
  exact ⟨xs, h1, h2⟩
theorem argStruct {fs : Array Field} (ht : P.underlying t = some (.struct fs)) (h : Opens P t T Q) (hval : Value.okWide P w r b0 t v) (hd : DataW.Trod enc P w 0 (fun _ => true) true t v d ps) :
    ∃ cs a, v = .agg cs.toArray ∧ T.R w (fun _ => True) cs a ∧ Q a := by
  obtain ⟨cs, rfl, _⟩ := okWide_struct ht hval
  obtain ⟨a, h1, h2⟩ := h.cell hd
  exact ⟨cs.toList, a, by simp, by simpa [Value.cells] using h1, h2⟩
end

/-! ### a law's row -/
section
variable {H : Type} {enc : TypeId × Value → H} {P : Program}
theorem trodAll_below (hl : laidOutB P = true) {W W' : World} (hb : Below W.heap.size W W') : ∀ (ts : List TypeId) (vs : List Value) (ds : List (DataW H)) (ps : List MemPlace), ts.all (fun t => P.readableRec t && decide (t < P.types.size)) = true →
    DataW.TrodAll enc P W 0 (fun _ => true) true ts vs ds ps → (∀ x ∈ ps, x.block < W.heap.size) → DataW.TrodAll enc P W' 0 (fun b => decide (b < W.heap.size)) true ts vs ds ps := by
  intro ts
  induction ts with
  | nil => intro vs ds ps _ h _; cases vs <;> cases ds <;> exact h
  | cons t ts ih =>
    intro vs ds ps hr h hlt
    cases vs with
    | nil => exact h.elim
    | cons v vs =>
      cases ds with
      | nil => exact h.elim
      | cons d ds =>
        obtain ⟨p, q, h1, h2, rfl⟩ := h
        simp only [List.all_cons, Bool.and_eq_true, decide_eq_true_eq] at hr
        exact ⟨p, q, Below.trod hl hr.1.1 hr.1.2 h1 hb (fun x hx => hlt x (by simp [hx])), ih vs ds q hr.2 h2 (fun x hx => hlt x (by simp [hx])), rfl⟩
/-- 'true; the input reads as it did', of a call that leaves what was there alone -/
theorem law_post {f : Func} {s : ChangeSpec} {W W' : World} {args : Array Value} {ds gs : List (DataW H)} {before : List MemPlace} {tb : TypeId} (hv : s.vars = [])
    (hW : DataW.Whole enc P f.params.toList s.vars false W args.toList ds gs before) (hfn : ∀ ds : List (DataW H), ds.length = f.params.toList.length → (s.fn H ds).results = [.lit (.bool true)] ∧ (s.fn H ds).args = ds ∧ (s.fn H ds).vars = []) (hl : laidOutB P = true)
    (hr : f.params.toList.all (fun t => P.readableRec t && decide (t < P.types.size)) = true) (hb : Below W.heap.size W W') (hrt : f.resultTypes = #[tb]) (hbool : P.underlying tb = some .bool) :
    s.post enc P f false true false false W args (.bool true) W' := by
  obtain ⟨p, q, hA, hV, rfl, hz, hn⟩ := hW
  have hq : gs = [] ∧ q = [] := by
    rw [hv] at hV
    cases gs with
    | nil => exact ⟨rfl, hV⟩
    | cons g gs => exact hV.elim
  obtain ⟨rfl, rfl⟩ := hq
  have hlen : ∀ (ts : List TypeId) (vs : List Value) (ds : List (DataW H)) (ps : List MemPlace), DataW.TrodAll enc P W 0 (fun _ => true) true ts vs ds ps → ds.length = ts.length := by
    intro ts
    induction ts with
    | nil => intro vs ds ps h; cases vs <;> cases ds <;> first | rfl | exact h.elim
    | cons t ts ih =>
      intro vs ds ps h
      cases vs with
      | nil => exact h.elim
      | cons v vs =>
        cases ds with
        | nil => exact h.elim
        | cons d ds => obtain ⟨p, q, h1, h2, rfl⟩ := h; simp [ih _ _ _ h2]
  have hf := hfn ds (hlen _ _ _ _ hA)
  have hW0 : DataW.Whole enc P f.params.toList s.vars false W args.toList ds [] (p ++ []) := ⟨p, [], hA, hV, rfl, hz, hn⟩
  have hlt : ∀ x ∈ p, x.block < W.heap.size := fun x hx => hW0.lt x (by simpa using hx)
  refine ⟨ds, [], p ++ [], [], p, [], hW0, ?_, ?_, ?_, World.keptBut_mono (fun x hx => ⟨hx, ?_⟩) (hb.frame (· ∈ p ++ [])), fun h => (by cases h)⟩
  · rw [List.append_nil, hf.1, hrt]
    exact trodAll_mk1 (shut_bool hbool _)
  · rw [List.append_nil, hf.2.1]
    exact trodAll_below hl hb _ _ _ _ hr hA hlt
  · rw [List.append_nil, hf.2.2, hv]; exact rfl
  · right; left; simpa using hx
theorem Gives.law {f : FuncId} {args : List Value} {W : World} (h : Gives P f args W fun v w' => v = .bool true ∧ Below W.heap.size W w') : Calls P f args.toArray W fun e W' => e = .returned (.bool true) ∧ Below W.heap.size W W' :=
  (h W.drawn).mono fun e w' ⟨v, w1, d', he, hw, hv, hb⟩ => by subst he; subst hw; subst hv; exact ⟨rfl, ⟨hb.os, hb.tape, hb.output, hb.size, hb.block⟩⟩
end
end Go.Mine

namespace Go.Mine
open Go.RowKit

/-! ### parts of memory that may change, apart from one another; RO: the blocks that will not change any more -/
structure HP where
  foot : Nat → Prop
  dep : Nat → Prop
  holds : World → Prop
  loc : ∀ {w w' : World}, Kept (fun k => foot k ∨ dep k) w w' → holds w → holds w'
/-- old blocks outside F are As they were -/
structure StepF (F : Nat → Prop) (w w' : World) : Prop where
  os : w'.os = w.os
  tape : w'.tape = w.tape
  output : w'.output = w.output
  size : w.heap.size ≤ w'.heap.size
  same : ∀ k, k < w.heap.size → ¬ F k → w'.heap[k]? = w.heap[k]?
structure Sep (F R0 R : Nat → Prop) (w0 w : World) (cs : List HP) : Prop where
  step : StepF F w0 w
  ro : ∀ k, R k → k < w.heap.size
  ro0 : ∀ k, R0 k → R k
  ro1 : ∀ k, R k → R0 k ∨ F k ∨ w0.heap.size ≤ k
  holds : ∀ c ∈ cs, c.holds w
  foot : ∀ c ∈ cs, ∀ k, c.foot k → k < w.heap.size ∧ (k < w0.heap.size → F k) ∧ ¬ R k
  dep : ∀ c ∈ cs, ∀ k, c.dep k → R k
  disj : cs.Pairwise fun a b => ∀ k, a.foot k → ¬ b.foot k
theorem StepF.refl (F : Nat → Prop) (w : World) : StepF F w w := ⟨rfl, rfl, rfl, Nat.le_refl _, fun _ _ _ => rfl⟩
theorem StepF.trans {F : Nat → Prop} {a b c : World} {G : Nat → Prop} (h : StepF F a b) (k : StepF G b c) (hG : ∀ i, G i → i < a.heap.size → F i) : StepF F a c :=
  ⟨k.os.trans h.os, k.tape.trans h.tape, k.output.trans h.output, Nat.le_trans h.size k.size, fun i hi hn => (k.same i (Nat.lt_of_lt_of_le hi h.size) fun hg => hn (hG i hg hi)).trans (h.same i hi hn)⟩
theorem StepF.of_below {F : Nat → Prop} {w w' : World} (h : Below w.heap.size w w') : StepF F w w' := ⟨h.os, h.tape, h.output, h.size, fun k hk _ => h.block k hk⟩
theorem StepF.of_only {F : Nat → Prop} {b : Nat} {w w' : World} (h : Only w w' b) (hb : F b) : StepF F w w' := ⟨h.os, h.tape, h.output, h.size, fun k hk hn => h.block k hk fun e => hn (e ▸ hb)⟩
theorem StepF.of_grown {F : Nat → Prop} {row : Option Nat} {w w' : World} (h : w.grownBy w' row) (hb : ∀ k, row = some k → F k) : StepF F w w' := ⟨h.os, h.tape, h.output, h.size, fun k hk hn => h.block k hk fun e => hn (hb k e.symm)⟩
theorem StepF.below {w w' : World} (h : StepF (fun _ => False) w w') : Below w.heap.size w w' := ⟨h.os, h.tape, h.output, h.size, fun k hk => h.same k hk fun h => h⟩
theorem StepF.only {b : Nat} {w w' : World} (h : StepF (fun k => k = b) w w') : Only w w' b := ⟨h.os, h.tape, h.output, h.size, h.same⟩
theorem StepF.mono {F G : Nat → Prop} {w w' : World} (h : StepF F w w') (hF : ∀ k, F k → G k) : StepF G w w' := ⟨h.os, h.tape, h.output, h.size, fun k hk hn => h.same k hk fun hf => hn (hF k hf)⟩
section
variable {F R0 R : Nat → Prop} {w0 w w' : World} {cs As Ds : List HP}
theorem Sep.start (w : World) : Sep (fun _ => False) (fun k => k < w.heap.size) (fun k => k < w.heap.size) w w [] :=
  ⟨StepF.refl _ _, fun _ h => h, fun _ h => h, fun _ h => .inl h, fun _ h => (by cases h), fun _ h => (by cases h), fun _ h => (by cases h), List.Pairwise.nil⟩
theorem Sep.sizes (h : Sep F R0 R w0 w cs) : w0.heap.size ≤ w.heap.size := h.step.size
theorem Sep.get (h : Sep F R0 R w0 w cs) (i : Nat) {c : HP} (hi : cs[i]? = some c) : c.holds w := h.holds c (List.mem_of_getElem? hi)
theorem Sep.off (h : Sep F R0 R w0 w cs) (i : Nat) {c : HP} (hi : cs[i]? = some c) : ∀ k, R k → ¬ c.foot k := fun k hk hf => (h.foot c (List.mem_of_getElem? hi) k hf).2.2 hk
theorem Sep.depR (h : Sep F R0 R w0 w cs) (i : Nat) {c : HP} (hi : cs[i]? = some c) : ∀ k, c.dep k → R k := h.dep c (List.mem_of_getElem? hi)
theorem Sep.below (h : Sep F R0 R w0 w cs) (hB : Below w.heap.size w w') : Sep F R0 R w0 w' cs :=
  ⟨h.step.trans (StepF.of_below hB) (fun _ hf _ => hf), fun k hk => Nat.lt_of_lt_of_le (h.ro k hk) hB.size, h.ro0, h.ro1, fun c hc => c.loc ⟨hB.size, fun k _ hk => hB.block k hk⟩ (h.holds c hc),
    fun c hc k hk => ⟨Nat.lt_of_lt_of_le (h.foot c hc k hk).1 hB.size, (h.foot c hc k hk).2⟩, h.dep, h.disj⟩
theorem Sep.new (h : Sep F R0 R w0 w cs) (hB : Below w.heap.size w w') {c : HP} (hc : c.holds w') (hf : ∀ k, c.foot k → w.heap.size ≤ k ∧ k < w'.heap.size) (hd : ∀ k, c.dep k → R k) : Sep F R0 R w0 w' (c :: cs) := by
  have h' := h.below hB
  refine ⟨h'.step, h'.ro, h'.ro0, h'.ro1, fun c' hc' => ?_, fun c' hc' k hk => ?_, fun c' hc' k hk => ?_, List.pairwise_cons.2 ⟨fun c' hc' k hk hk' => ?_, h.disj⟩⟩
  · rcases List.mem_cons.1 hc' with rfl | hc'
    · exact hc
    · exact h'.holds c' hc'
  · rcases List.mem_cons.1 hc' with rfl | hc'
    · have h1 := hf k hk; have h2 := h.sizes
      exact ⟨h1.2, fun h3 => by omega, fun hr => by have := h.ro k hr; omega⟩
    · exact h'.foot c' hc' k hk
  · rcases List.mem_cons.1 hc' with rfl | hc'
    · exact hd k hk
    · exact h'.dep c' hc' k hk
  · have h1 := hf k hk; have h2 := (h.foot c' hc' k hk').1; omega
/-- a part that owns nothing yet -/
theorem Sep.newNone (h : Sep F R0 R w0 w cs) {c : HP} (hc : c.holds w) (hf : ∀ k, ¬ c.foot k) (hd : ∀ k, c.dep k → R k) : Sep F R0 R w0 w (c :: cs) :=
  h.new (Below.refl _ _) hc (fun k hk => absurd hk (hf k)) hd
theorem pw_set {P : HP → HP → Prop} (hs : ∀ a b, P a b → P b a) : ∀ {l : List HP} {i : Nat} {c : HP}, l.Pairwise P → (∀ (j : Nat) (d : HP), l[j]? = some d → j ≠ i → P c d) → (l.set i c).Pairwise P
  | [], _, _, _, _ => by simp
  | a :: l, 0, c, h, hc => by
    rw [List.set_cons_zero, List.pairwise_cons]
    obtain ⟨_, h2⟩ := List.pairwise_cons.1 h
    refine ⟨fun d hd => ?_, h2⟩
    obtain ⟨j, hj⟩ := List.mem_iff_getElem?.1 hd
    exact hc (j + 1) d (by simpa using hj) (by omega)
  | a :: l, i + 1, c, h, hc => by
    rw [List.set_cons_succ, List.pairwise_cons]
    obtain ⟨h1, h2⟩ := List.pairwise_cons.1 h
    refine ⟨fun d hd => ?_, pw_set hs h2 fun j d hj hne => hc (j + 1) d (by simpa using hj) (by omega)⟩
    rcases List.mem_or_eq_of_mem_set hd with hd | rfl
    · exact h1 d hd
    · exact hs _ _ (hc 0 a rfl (by omega))
theorem Sep.apart (h : Sep F R0 R w0 w cs) (i j : Nat) {c d : HP} (hi : cs[i]? = some c) (hj : cs[j]? = some d) (hne : i ≠ j) : ∀ k, c.foot k → ¬ d.foot k := by
  have key := List.pairwise_iff_getElem.1 h.disj
  obtain ⟨hi1, hi2⟩ := List.getElem?_eq_some_iff.1 hi
  obtain ⟨hj1, hj2⟩ := List.getElem?_eq_some_iff.1 hj
  subst hi2; subst hj2
  rcases Nat.lt_or_ge i j with hlt | hge
  · exact key i j hi1 hj1 hlt
  · exact fun k hk hk' => key j i hj1 hi1 (by omega) k hk' hk
theorem Sep.keptF (h : Sep F R0 R w0 w cs) (i : Nat) {c : HP} (hi : cs[i]? = some c) (hst : StepF c.foot w w') : Kept R w w' :=
  ⟨hst.size, fun k hk hk2 => hst.same k hk2 fun hf => (h.foot c (List.mem_of_getElem? hi) k hf).2.2 hk⟩
theorem Sep.set (h : Sep F R0 R w0 w cs) (i : Nat) {c : HP} (hi : cs[i]? = some c) {c' : HP} (hst : StepF c.foot w w') (hc : c'.holds w') (hf : ∀ k, c'.foot k → c.foot k ∨ (w.heap.size ≤ k ∧ k < w'.heap.size)) (hd : ∀ k, c'.dep k → R k) : Sep F R0 R w0 w' (cs.set i c') := by
  have hcm := List.mem_of_getElem? hi
  have hfoot : ∀ k, c'.foot k → k < w'.heap.size ∧ (k < w0.heap.size → F k) ∧ ¬ R k := fun k hk => by
    rcases hf k hk with h1 | h1
    · have h2 := h.foot c hcm k h1
      exact ⟨Nat.lt_of_lt_of_le h2.1 hst.size, h2.2⟩
    · have h2 := h.sizes
      exact ⟨h1.2, fun h3 => by omega, fun hr => by have := h.ro k hr; omega⟩
  refine ⟨h.step.trans hst fun k hk hk2 => (h.foot c hcm k hk).2.1 hk2, fun k hk => Nat.lt_of_lt_of_le (h.ro k hk) hst.size, h.ro0, h.ro1, fun d hd2 => ?_, fun d hd2 k hk => ?_, fun d hd2 k hk => ?_, pw_set (fun a b hab k hb ha => hab k ha hb) h.disj fun j d hj hne k hk hk' => ?_⟩
  · obtain ⟨j, hj⟩ := List.mem_iff_getElem?.1 hd2
    by_cases hji : j = i
    · subst hji
      rw [List.getElem?_set_self (List.getElem?_eq_some_iff.1 hi).1] at hj
      cases hj; exact hc
    · rw [List.getElem?_set_ne (Ne.symm hji)] at hj
      refine d.loc ⟨hst.size, fun k hk hk2 => hst.same k hk2 fun hf => ?_⟩ (h.get j hj)
      rcases hk with hk | hk
      · exact h.apart j i hj hi hji k hk hf
      · exact (h.foot c hcm k hf).2.2 (h.dep d (List.mem_of_getElem? hj) k hk)
  · rcases List.mem_or_eq_of_mem_set hd2 with hd2 | rfl
    · have h2 := h.foot d hd2 k hk
      exact ⟨Nat.lt_of_lt_of_le h2.1 hst.size, h2.2⟩
    · exact hfoot k hk
  · rcases List.mem_or_eq_of_mem_set hd2 with hd2 | rfl
    · exact h.dep d hd2 k hk
    · exact hd k hk
  · rcases hf k hk with h1 | h1
    · exact h.apart i j hi hj (Ne.symm hne) k h1 hk'
    · have := (h.foot d (List.mem_of_getElem? hj) k hk').1; omega
theorem Sep.perm {cs' : List HP} (h : Sep F R0 R w0 w cs) (hp : cs.Perm cs') : Sep F R0 R w0 w cs' :=
  ⟨h.step, h.ro, h.ro0, h.ro1, fun c hc => h.holds c (hp.mem_iff.2 hc), fun c hc => h.foot c (hp.mem_iff.2 hc), fun c hc => h.dep c (hp.mem_iff.2 hc), (hp.pairwise_iff (fun {a b} hab k hb ha => hab k ha hb)).1 h.disj⟩
theorem perm_front : ∀ {l : List HP} (i : Nat) {c : HP}, l[i]? = some c → l.Perm (c :: l.eraseIdx i)
  | [], i, c, h => by simp at h
  | a :: l, 0, c, h => by simp at h; subst h; exact List.Perm.refl _
  | a :: l, i + 1, c, h => by
    rw [List.eraseIdx_cons_succ]
    exact ((perm_front i (by simpa using h)).cons a).trans (List.Perm.swap _ _ _)
theorem Sep.front (h : Sep F R0 R w0 w cs) (i : Nat) {c : HP} (hi : cs[i]? = some c) : Sep F R0 R w0 w (c :: cs.eraseIdx i) := h.perm (perm_front i hi)
theorem Sep.tail {c : HP} (h : Sep F R0 R w0 w (c :: cs)) : Sep F R0 R w0 w cs :=
  ⟨h.step, h.ro, h.ro0, h.ro1, fun d hd => h.holds d (by simp [hd]), fun d hd => h.foot d (by simp [hd]), fun d hd => h.dep d (by simp [hd]), (List.pairwise_cons.1 h.disj).2⟩
theorem Sep.erase (h : Sep F R0 R w0 w cs) (i : Nat) {c : HP} (hi : cs[i]? = some c) : Sep F R0 R w0 w (cs.eraseIdx i) := (h.front i hi).tail
/-- a part will not change any more -/
theorem Sep.freeze1 {c : HP} (h : Sep F R0 R w0 w (c :: cs)) : Sep F R0 (fun k => R k ∨ c.foot k) w0 w cs := by
  obtain ⟨h1, h2⟩ := List.pairwise_cons.1 h.disj
  refine ⟨h.step, fun k hk => ?_, fun k hk => .inl (h.ro0 k hk), fun k hk => ?_, fun d hd => h.holds d (by simp [hd]), fun d hd k hk => ?_, fun d hd k hk => .inl (h.dep d (by simp [hd]) k hk), h2⟩
  · rcases hk with hk | hk
    · exact h.ro k hk
    · exact (h.foot c (by simp) k hk).1
  · rcases hk with hk | hk
    · exact h.ro1 k hk
    · have := (h.foot c (by simp) k hk).2.1
      rcases Nat.lt_or_ge k w0.heap.size with hlt | hge
      · exact .inr (.inl (this hlt))
      · exact .inr (.inr hge)
  · have h3 := h.foot d (by simp [hd]) k hk
    refine ⟨h3.1, h3.2.1, fun hr => ?_⟩
    rcases hr with hr | hr
    · exact h3.2.2 hr
    · exact h1 d hd k hr hk
theorem Sep.freeze (h : Sep F R0 R w0 w cs) (i : Nat) {c : HP} (hi : cs[i]? = some c) : Sep F R0 (fun k => R k ∨ c.foot k) w0 w (cs.eraseIdx i) := (h.front i hi).freeze1
/-- new blocks that will not change any more -/
theorem Sep.grow (h : Sep F R0 R w0 w cs) (hB : Below w.heap.size w w') : Sep F R0 (fun k => R k ∨ (w.heap.size ≤ k ∧ k < w'.heap.size)) w0 w' cs := by
  have h' := h.below hB
  refine ⟨h'.step, fun k hk => ?_, fun k hk => .inl (h.ro0 k hk), fun k hk => ?_, h'.holds, fun d hd k hk => ?_, fun d hd k hk => .inl (h.dep d hd k hk), h.disj⟩
  · rcases hk with hk | hk
    · exact h'.ro k hk
    · exact hk.2
  · rcases hk with hk | hk
    · exact h.ro1 k hk
    · have := h.sizes; exact .inr (.inr (by omega))
  · have h3 := h'.foot d hd k hk
    refine ⟨h3.1, h3.2.1, fun hr => ?_⟩
    rcases hr with hr | hr
    · exact h3.2.2 hr
    · have := (h.foot d hd k hk).1; omega
/-! calls -/
def feet (As : List HP) : Nat → Prop := fun k => ∃ c ∈ As, c.foot k
theorem Sep.enter (h : Sep F R0 R w0 w (As ++ Ds)) : Sep (feet As) R R w w As :=
  ⟨StepF.refl _ _, h.ro, fun _ hk => hk, fun _ hk => .inl hk, fun c hc => h.holds c (by simp [hc]), fun c hc k hk => have h1 := h.foot c (by simp [hc]) k hk; ⟨h1.1, fun _ => ⟨c, hc, hk⟩, h1.2.2⟩, fun c hc => h.dep c (by simp [hc]), (List.pairwise_append.1 h.disj).1⟩
theorem Sep.left (h : Sep F R0 R w0 w (As ++ Ds)) : Sep F R0 R w0 w As :=
  ⟨h.step, h.ro, h.ro0, h.ro1, fun c hc => h.holds c (by simp [hc]), fun c hc => h.foot c (by simp [hc]), fun c hc => h.dep c (by simp [hc]), (List.pairwise_append.1 h.disj).1⟩
theorem Sep.leave {R1 : Nat → Prop} {As' : List HP} (h : Sep F R0 R w0 w (As ++ Ds)) (hc : Sep (feet As) R R1 w w' As') : Sep F R0 R1 w0 w' (As' ++ Ds) := by
  obtain ⟨h1, h2, h3⟩ := List.pairwise_append.1 h.disj
  have hno : ∀ d ∈ Ds, ∀ k, d.foot k → k < w.heap.size ∧ ¬ feet As k := fun d hd k hk => ⟨(h.foot d (by simp [hd]) k hk).1, fun ⟨a, ha, hka⟩ => h3 a ha d hd k hka hk⟩
  refine ⟨h.step.trans hc.step fun k ⟨a, ha, hk⟩ hk2 => (h.foot a (by simp [ha]) k hk).2.1 hk2, hc.ro, fun k hk => hc.ro0 k (h.ro0 k hk), fun k hk => ?_, fun c hcm => ?_, fun c hcm k hk => ?_, fun c hcm k hk => ?_, List.pairwise_append.2 ⟨hc.disj, h2, fun a ha d hd k hk hk' => ?_⟩⟩
  · rcases hc.ro1 k hk with h4 | ⟨a, ha, h4⟩ | h4
    · exact h.ro1 k h4
    · have := (h.foot a (by simp [ha]) k h4).2.1
      rcases Nat.lt_or_ge k w0.heap.size with hlt | hge
      · exact .inr (.inl (this hlt))
      · exact .inr (.inr hge)
    · have := h.sizes; exact .inr (.inr (by omega))
  · rcases List.mem_append.1 hcm with hcm | hcm
    · exact hc.holds c hcm
    · refine c.loc ⟨hc.step.size, fun k hk hk2 => hc.step.same k hk2 fun ⟨a, ha, hka⟩ => ?_⟩ (h.holds c (by simp [hcm]))
      rcases hk with hk | hk
      · exact h3 a ha c hcm k hka hk
      · exact (h.foot a (by simp [ha]) k hka).2.2 (h.dep c (by simp [hcm]) k hk)
  · rcases List.mem_append.1 hcm with hcm | hcm
    · have h4 := hc.foot c hcm k hk
      refine ⟨h4.1, fun hlt => ?_, h4.2.2⟩
      obtain ⟨a, ha, hka⟩ := h4.2.1 (by have := h.sizes; omega)
      exact (h.foot a (by simp [ha]) k hka).2.1 hlt
    · have h4 := h.foot c (by simp [hcm]) k hk
      refine ⟨Nat.lt_of_lt_of_le h4.1 hc.step.size, h4.2.1, fun hr => ?_⟩
      rcases hc.ro1 k hr with h5 | h5 | h5
      · exact h4.2.2 h5
      · exact (hno c hcm k hk).2 h5
      · have := (hno c hcm k hk).1; omega
  · rcases List.mem_append.1 hcm with hcm | hcm
    · exact hc.dep c hcm k hk
    · exact hc.ro0 k (h.dep c (by simp [hcm]) k hk)
  · have h4 := hno d hd k hk'
    rcases Nat.lt_or_ge k w.heap.size with hlt | hge
    · exact h4.2 ((hc.foot a ha k hk).2.1 hlt)
    · omega
/-- what is read-only stays so over a call that changes F -/
theorem Sep.keptR {R1 : Nat → Prop} {As' : List HP} (hro : ∀ k, R k → ¬ F k) (hc : Sep F R R1 w w' As') : Kept R w w' := ⟨hc.step.size, fun k hk hk2 => hc.step.same k hk2 (hro k hk)⟩
theorem Sep.offFeet (h : Sep F R0 R w0 w (As ++ Ds)) : ∀ k, R k → ¬ feet As k := fun k hk ⟨a, ha, hka⟩ => (h.foot a (by simp [ha]) k hka).2.2 hk

/-! ### kinds of parts -/
def HP.blk (b : Nat) (cs : List Value) (t : TypeId) : HP := ⟨fun k => k = b, fun _ => False, fun w => Blk w b cs t, fun {w w'} hk h => by
  unfold Blk at *; rw [hk.block b (.inl rfl) (Array.getElem?_eq_some_iff.1 h).1]; exact h⟩
def HP.own {α : Type} (T : Ty α) (S : Nat → Prop) (e : TypeId) (v : Value) (xs : List α) : HP := ⟨fun k => v.ownBlock = some k, S, fun w => Own T w 0 S e v xs, fun {w w'} hk h =>
  h.kept ⟨hk.size, fun k hs hl => hk.block k (.inr hs) hl⟩ fun k hk2 => hk.block k (.inl hk2) (h.lt k hk2).2⟩
theorem Sep.blk (h : Sep F R0 R w0 w cs) (i : Nat) {b : Nat} {c : List Value} {t : TypeId} (hi : cs[i]? = some (HP.blk b c t)) : Blk w b c t := h.get i hi
theorem Sep.own (h : Sep F R0 R w0 w cs) (i : Nat) {α : Type} {T : Ty α} {S : Nat → Prop} {e : TypeId} {v : Value} {xs : List α} (hi : cs[i]? = some (HP.own T S e v xs)) : Own T w 0 S e v xs := h.get i hi
theorem Sep.newBlk (h : Sep F R0 R w0 w cs) (hB : Below w.heap.size w w') {b : Nat} {c : List Value} {t : TypeId} (hg : w.heap.size ≤ b) (hb : Blk w' b c t) : Sep F R0 R w0 w' (.blk b c t :: cs) :=
  h.new hB hb (fun k hk => by have e : k = b := hk; subst e; exact ⟨hg, hb.lt⟩) (fun k hk => hk.elim)
theorem Sep.setBlk (h : Sep F R0 R w0 w cs) (i : Nat) {b : Nat} {c c' : List Value} {t t' : TypeId} (hi : cs[i]? = some (HP.blk b c t)) (hb : Blk w' b c' t') (hO : Only w w' b) : Sep F R0 R w0 w' (cs.set i (.blk b c' t')) :=
  h.set i hi (StepF.of_only hO rfl) hb (fun k hk => .inl hk) (fun k hk => hk.elim)
theorem Sep.keptBlk (h : Sep F R0 R w0 w cs) (i : Nat) {b : Nat} {c : List Value} {t : TypeId} (hi : cs[i]? = some (HP.blk b c t)) (hO : Only w w' b) : Kept R w w' := h.keptF i hi (StepF.of_only hO rfl)
variable {α : Type} {T : Ty α} {S S' : Nat → Prop} {e : TypeId} {v v' : Value} {xs ys : List α}
theorem Sep.nilOwn (h : Sep F R0 R w0 w cs) (T : Ty α) (e : TypeId) : Sep F R0 R w0 w (.own T R e (.slice none 0 0) [] :: cs) :=
  h.newNone (Own.nil _ _ _ _ _) (fun k hk => by cases hk) (fun k hk => hk)
theorem Own.monoS (h : Own T w 0 S e v xs) (hs : ∀ k, S k → S' k) : Own T w 0 S' e v xs := by
  obtain ⟨cells, hl, h1, h2⟩ := h.row
  exact ⟨cells, hl, h1, fun i c x hc hx => T.mono (fun k hk _ => ⟨hs k hk.1, hk.2⟩) (h2 i c x hc hx)⟩
theorem Sep.ownMono (h : Sep F R0 R w0 w cs) (i : Nat) (hi : cs[i]? = some (HP.own T S e v xs)) : Sep F R0 R w0 w (cs.set i (.own T R e v xs)) :=
  h.set i hi (StepF.refl _ _) (Own.monoS (h.own i hi) fun k hk => h.dep _ (List.mem_of_getElem? hi) k hk) (fun k hk => .inl hk) (fun k hk => hk)
theorem Sep.setOwn (h : Sep F R0 R w0 w cs) (i : Nat) (hi : cs[i]? = some (HP.own T S e v xs)) {n : Nat} (ho : Own T w' 0 S e v' ys) (hg : w.grownBy w' v.ownBlock) (hn : NewRow w v v' n) : Sep F R0 R w0 w' (cs.set i (.own T S e v' ys)) :=
  h.set i hi (StepF.of_grown hg fun k hk => hk) ho (fun k hk => (hn.blk k hk).imp (fun h => h) fun h1 => ⟨h1, (ho.lt k hk).2⟩) (fun k hk => h.dep _ (List.mem_of_getElem? hi) k hk)
theorem Sep.keptOwn (h : Sep F R0 R w0 w cs) (i : Nat) (hi : cs[i]? = some (HP.own T S e v xs)) (hg : w.grownBy w' v.ownBlock) : Kept R w w' := h.keptF i hi (StepF.of_grown hg fun k hk => hk)
/-- a part of one's own, read -/
theorem Own.reads (h : Own T w 0 S e v xs) : IsSlice T w (fun k => S k ∨ v.ownBlock = some k) v xs := by
  obtain ⟨cells, hl, ⟨hlen, h1⟩, h2⟩ := h.row
  have h' := h.isSlice
  obtain ⟨ad, cap, h3, h4, h5, h6, h7⟩ := h'
  refine ⟨ad, cap, h3, h4, h5, h6, fun i hi => ?_⟩
  obtain ⟨b, off, he, hE⟩ := h7 i hi
  subst he
  rcases h1 with ⟨rfl, h0⟩ | ⟨g, cap', cur, rfl, _⟩
  · exact absurd h3 (by simp)
  · simp only [Value.slice.injEq, Option.some.injEq, Addr.mk.injEq] at h3
    obtain ⟨⟨rfl, rfl, _⟩, _⟩ := h3
    obtain ⟨_, hlt, cs, hcs, hR⟩ := hE
    have hcl : ∀ c ∈ cells, c.length = T.sz := fun c hc => by
      obtain ⟨j, hj, rfl⟩ := List.getElem_of_mem hc
      exact T.len (h2 j cells[j] (xs[j]'(by omega)) (by simp) (by simp))
    have hci : cells[i]? = some (cells[i]'(by omega)) := by simp [hl, hi]
    have hRi := h2 i _ _ hci (by simp : xs[i]? = some xs[i])
    refine ⟨_, _, rfl, .inr rfl, hlt, cells[i]'(by omega), fun j u hj => ?_, T.mono (fun k hk _ => .inl hk.1) hRi⟩
    have hjl : j < T.sz := by have h9 := hcl (cells[i]'(by omega)) (List.getElem_mem _); rw [← h9]; exact (List.getElem?_eq_some_iff.1 hj).1
    have hrow : Own T w 0 S e _ xs := h
    obtain ⟨cells', hl', ⟨_, h1'⟩, _⟩ := hrow.row
    have hg : Row w 0 e T.sz (.slice (some ⟨g, 0, none⟩) xs.length cap') xs.length cells.flatten := ⟨hlen, .inr ⟨g, cap', cur, rfl, by assumption⟩⟩
    have := hg.cells (g := g) rfl (i * T.sz + j) u (flatten_get cells i j _ u hcl hci hj)
    rw [ix_eq, Nat.zero_add]
    simpa [add_mk] using this
theorem Sep.isl (h : Sep F R0 R w0 w cs) (i : Nat) (hi : cs[i]? = some (HP.own T S e v xs)) : IsSlice T w (fun k => R k ∨ v.ownBlock = some k) v xs :=
  (Own.reads (h.own i hi)).mono fun k hk _ => hk.imp (fun hs => h.dep _ (List.mem_of_getElem? hi) k hs) fun h => h
theorem Sep.freezeO (h : Sep F R0 R w0 w cs) (i : Nat) {c : HP} (hi : cs[i]? = some c) : ∃ R', Sep F R0 R' w0 w (cs.eraseIdx i) ∧ (∀ k, R k → R' k) ∧ ∀ k, c.foot k → R' k :=
  ⟨_, h.freeze i hi, fun k hk => .inl hk, fun k hk => .inr hk⟩
end
section
variable {α : Type} {T : Ty α} {w : World} {e : TypeId} {lo : Nat} {v : Value} {xs : List α}
end
end Go.Mine

namespace Go.Mine
open Go.RowKit

/-! ### data whose cells are a plain function of them -/
class Enc {α : Type} (T : Ty α) (enc : outParam (α → List Value)) : Prop where
  R : ∀ w S cs x, T.R w S cs x ↔ cs = enc x
instance : Enc Ty.int fun x => [Value.int .i64 x] := ⟨fun _ _ _ _ => Iff.rfl⟩
instance : Enc Ty.bool fun x => [Value.bool x] := ⟨fun _ _ _ _ => Iff.rfl⟩
section
variable {α : Type} {T : Ty α} {enc : α → List Value} {w w1 : World} {lo : Nat} {S : Nat → Prop} {e g n cap : Nat} {xs : List α}
theorem Enc.any {S' : Nat → Prop} [hE : Enc T enc] : ∀ c u, T.R w S c u → T.R w S' c u := fun c u h => (hE.R _ _ _ _).2 ((hE.R _ _ _ _).1 h)
theorem Own.set [Inhabited α] [hE : Enc T enc] (h : Own T w lo S e (.slice (some ⟨g, 0, none⟩) n cap) xs) (i j : Nat) (hi : i < xs.length) (hj : j < T.sz) (u : Value) (x : α) (hx : enc x = (enc (nth xs i)).set j u)
    (hO : Only w w1 g) (hS : ∀ k, S k → k ≠ g) (hw : ∀ cs tt, Blk w g cs tt → Blk w1 g (cs.set (i * T.sz + j) u) tt) : Own T w1 lo S e (.slice (some ⟨g, 0, none⟩) n cap) (xs.set i x) := by
  exact h.setPart hE.R i j hi hj u x hx hw
end
/-! ### rows that may change: the headers in one part, the rows in another -/
def FamIn {α : Type} (T : Ty α) (S : Nat → Prop) (e : TypeId) (vs : List Value) (xss : List (List α)) (w : World) : Prop :=
  vs.length = xss.length ∧ (∀ (i : Nat) (u : Value) (xs : List α), vs[i]? = some u → xss[i]? = some xs → Own T w 0 S e u xs) ∧ ∀ (i j : Nat) (u u' : Value) (k : Nat), i ≠ j → vs[i]? = some u → vs[j]? = some u' → u.ownBlock = some k → u'.ownBlock ≠ some k
def HP.famS {α : Type} (T : Ty α) (S : Nat → Prop) (e : TypeId) (vs : List Value) (xss : List (List α)) : HP := ⟨fun k => ∃ (i : Nat) (u : Value), vs[i]? = some u ∧ u.ownBlock = some k, S, FamIn T S e vs xss, fun {w w'} hk h => by
  refine ⟨h.1, fun i u xs hi hx => (h.2.1 i u xs hi hx).kept ⟨hk.size, fun k hs hl => hk.block k (.inr hs) hl⟩ fun k hk2 => hk.block k (.inl ⟨i, u, hi, hk2⟩) ((h.2.1 i u xs hi hx).lt k hk2).2, h.2.2⟩⟩
abbrev HP.fam {α : Type} (T : Ty α) (e : TypeId) (vs : List Value) (xss : List (List α)) : HP := HP.famS T (fun _ => False) e vs xss
theorem some_nth {α : Type} [Inhabited α] {l : List α} {i : Nat} (h : i < l.length) : l[i]? = some (nth l i) := by rw [nth_eq h]; simp [h]
section
variable {F R0 R : Nat → Prop} {w0 w w' : World} {cs : List HP} {α : Type} {T : Ty α} {e eo g cap : Nat} {vs junk : List Value} {xss : List (List α)} {v u u' : Value} {S : Nat → Prop}
theorem Sep.famLen (h : Sep F R0 R w0 w cs) (i : Nat) (hi : cs[i]? = some (HP.famS T S e vs xss)) : vs.length = xss.length := (show FamIn T S e vs xss w from h.get i hi).1
theorem Sep.famOwn (h : Sep F R0 R w0 w cs) (i : Nat) (hi : cs[i]? = some (HP.famS T S e vs xss)) (q : Nat) (hq : q < xss.length) : Own T w 0 S e (nth vs q) (nth xss q) :=
  have hh : FamIn T S e vs xss w := h.get i hi
  hh.2.1 q _ _ (some_nth (by rw [hh.1]; exact hq)) (some_nth hq)
/-- one row is another now -/
theorem Sep.famPut (h : Sep F R0 R w0 w cs) (i : Nat) (hi : cs[i]? = some (HP.famS T S e vs xss)) (q : Nat) (hq : q < xss.length) {ys : List α} (hst : StepF (fun k => (nth vs q).ownBlock = some k) w w') (ho : Own T w' 0 S e u' ys)
    (hn : ∀ k, u'.ownBlock = some k → (nth vs q).ownBlock = some k ∨ w.heap.size ≤ k) : Sep F R0 R w0 w' (cs.set i (.famS T S e (vs.set q u') (xss.set q ys))) := by
  have hh : FamIn T S e vs xss w := h.get i hi
  have hl : vs.length = xss.length := hh.1
  have hvq : vs[q]? = some (nth vs q) := some_nth (by omega)
  refine h.set i hi (hst.mono fun k hk => ⟨q, _, hvq, hk⟩) ⟨by simp [hl], fun j a xs hj hx => ?_, fun j j' a a' k hne hj hj' hk hk' => ?_⟩ (fun k hk => ?_) (fun k hk => h.depR i hi k hk)
  · by_cases hjq : q = j
    · subst hjq
      rw [List.getElem?_set_self (by omega)] at hj hx
      cases hj; cases hx; exact ho
    · rw [List.getElem?_set_ne hjq] at hj hx
      have h1 := hh.2.1 j a xs hj hx
      exact h1.kept ⟨hst.size, fun k hs hl => hst.same k hl fun he => h.off i hi k (h.depR i hi k hs) ⟨q, _, hvq, he⟩⟩ fun k hk => hst.same k (h1.lt k hk).2 fun he => hh.2.2 j q a _ k (Ne.symm hjq) hj hvq hk he
  · have hold : ∀ (j : Nat) (a : Value), vs[j]? = some a → a.ownBlock = some k → k < w.heap.size := fun j a hj hk => by
      have hlt := (List.getElem?_eq_some_iff.1 hj).1
      exact ((hh.2.1 j a _ hj (by rw [List.getElem?_eq_getElem (by omega)])).lt k hk).2
    by_cases hjq : q = j
    · subst hjq
      rw [List.getElem?_set_self (by omega)] at hj
      rw [List.getElem?_set_ne hne] at hj'
      cases hj
      rcases hn k hk with h1 | h1
      · exact hh.2.2 q j' _ a' k hne hvq hj' h1 hk'
      · have := hold j' a' hj' hk'; omega
    · rw [List.getElem?_set_ne hjq] at hj
      by_cases hjq' : q = j'
      · subst hjq'
        rw [List.getElem?_set_self (by omega)] at hj'
        cases hj'
        rcases hn k hk' with h1 | h1
        · exact hh.2.2 j q a _ k hne hj hvq hk h1
        · have := hold j a hj hk; omega
      · rw [List.getElem?_set_ne hjq'] at hj'
        exact hh.2.2 j j' a a' k hne hj hj' hk hk'
  · obtain ⟨j, a, hj, hk⟩ := hk
    by_cases hjq : q = j
    · subst hjq
      rw [List.getElem?_set_self (by omega)] at hj
      cases hj
      rcases hn k hk with h1 | h1
      · exact .inl ⟨q, _, hvq, h1⟩
      · exact .inr ⟨h1, (ho.lt k hk).2⟩
    · rw [List.getElem?_set_ne hjq] at hj
      exact .inl ⟨j, a, hj, hk⟩
theorem Sep.famSet (h : Sep F R0 R w0 w cs) (i : Nat) (hi : cs[i]? = some (HP.famS T S e vs xss)) (q : Nat) (hq : q < xss.length) {ys : List α} {m : Nat} (ho : Own T w' 0 S e u' ys) (hg : w.grownBy w' (nth vs q).ownBlock) (hn : NewRow w (nth vs q) u' m) :
    Sep F R0 R w0 w' (cs.set i (.famS T S e (vs.set q u') (xss.set q ys))) := h.famPut i hi q hq (StepF.of_grown hg fun k hk => hk) ho hn.blk
theorem Sep.famKept (h : Sep F R0 R w0 w cs) (i : Nat) (hi : cs[i]? = some (HP.famS T S e vs xss)) (q : Nat) (hq : q < xss.length) (hg : w.grownBy w' (nth vs q).ownBlock) : Kept R w w' :=
  h.keptF i hi (StepF.of_grown hg fun k hk => ⟨q, _, some_nth (by rw [h.famLen i hi]; exact hq), hk⟩)
theorem Sep.nilFam (h : Sep F R0 R w0 w cs) (T : Ty α) (e : TypeId) : Sep F R0 R w0 w (.fam T e [] [] :: cs) :=
  h.newNone ⟨rfl, fun i u xs hi => by simp at hi, fun i j u u' k hne hi => by simp at hi⟩ (fun k ⟨i, u, hi, _⟩ => by simp at hi) (fun k hk => hk.elim)
end
section
variable {P : Program} {N : Fr} {X : Nat → Prop} {K : Env → World → Prop} {E : Env} {w : World} {t : TypeId} {m : Bool} {rest : List QOp} {sd : Nat}
end
/-- a cell as it is -/
def Ty.raw : Ty Value where
  sz := 1
  R _ _ cs v := cs = [v] ∧ oneV v = true
  len h := by obtain ⟨rfl, _⟩ := h; rfl
  one h v hv := by obtain ⟨rfl, h⟩ := h; simp at hv; subst hv; exact h
  kept _ h := h
  mono _ h := h
section
end
section
variable {F R0 R : Nat → Prop} {w0 w w' : World} {cs : List HP} {α : Type} {T : Ty α} {e : TypeId} {v : Value} {vs : List Value}
theorem Sep.nilOwn0 (h : Sep F R0 R w0 w cs) (T : Ty α) (e : TypeId) : Sep F R0 R w0 w (.own T (fun _ => False) e (.slice none 0 0) [] :: cs) :=
  h.newNone (Own.nil _ _ _ _ _) (fun k hk => by cases hk) (fun k hk => hk.elim)
theorem Sep.fresh (h : Sep (fun _ => False) R0 R w0 w cs) (i : Nat) {c : HP} (hi : cs[i]? = some c) : ∀ k, c.foot k → w0.heap.size ≤ k := fun k hk => by
  have := (h.foot c (List.mem_of_getElem? hi) k hk).2.1
  rcases Nat.lt_or_ge k w0.heap.size with h1 | h1
  · exact (this h1).elim
  · exact h1
instance : Inhabited HP := ⟨⟨fun _ => False, fun _ => False, fun _ => True, fun _ _ => trivial⟩⟩
theorem range_getD : ∀ (cs : List HP), (List.range cs.length).map (fun i => cs.getD i default) = cs := fun cs => by
  refine List.ext_getElem? fun i => ?_
  by_cases hi : i < cs.length
  · simp [hi, List.getD]
  · simp [hi]
/-- the parts in another order -/
theorem Sep.order (h : Sep F R0 R w0 w cs) (idx : List Nat) (n : Nat) (hn : cs.length = n) (hp : idx.isPerm (List.range n) = true) : Sep F R0 R w0 w (idx.map fun i => cs.getD i default) := by
  subst hn
  refine h.perm ?_
  have := (List.isPerm_iff.1 hp).map (fun i => cs.getD i default)
  rw [range_getD] at this
  exact this.symm
/-- one result, in a variable -/
theorem resC1 {P : Program} {E : Env} {w : World} {fn : Func} {s : Nat} {tt : TypeId} {b n : Nat} {vs : List Value} [T : TAgg P tt n] (h : fn.results = #[.cell s tt]) (hs : Env.find E s = some (.pointer (some ⟨b, 0, none⟩))) (hc : CellsAt w b 0 vs) (hn : vs.length = n) :
    Res P fn E w (.agg vs.toArray) := fun a N d ha => by
  obtain ⟨de, h1, h2⟩ := T.under
  obtain ⟨inf, h3, h4⟩ := T.size
  have hA := run_isAgg h1 (w.atd d)
  rw [h2] at hA
  have hc' : CellsAt (w.atd d) b (0 + 0) vs := fun j v hj => hc j v hj
  have hl := run_loadCellsFrom (P := P) vs 0 #[] (w.atd d) hc'
  rw [hn, ← h4] at hl
  simp [results, h, ha.slot s _ hs, asAddr, loadVar, hA, run_size h3, loadCells, hl]
end
end Go.Mine

namespace Go.Mine
open Go.RowKit
section
variable {P : Program} {N : Fr} {X : Nat → Prop} {K : Env → World → Prop} {rest : List QOp} {E : Env} {w : World} {x y : Operand} {sd : Nat} {t ty' : TypeId} {m : Bool}
theorem run_eqNilN {ts e sz : Nat} [TS : TSlice P ts e sz] (d : Nat) (ad : Option Addr) (n c : Nat) (w : World) : (Op.equalIn (d + 1) ts (.slice ad n c) (.slice none 0 0)).run P w = .ok ad.isNone w := by
  cases ad <;> simp [Op.equalIn, run_under TS.under]
theorem run_eqNil {ts e sz : Nat} [TS : TSlice P ts e sz] (ad : Option Addr) (n c : Nat) (w : World) : (Op.equal ts (.slice ad n c) (.slice none 0 0)).run P w = .ok ad.isNone w := by
  simp only [Op.equal, Op.maxDepth]; exact run_eqNilN 9999 ad n c w
/-- is a slice nil? -/
theorem q_eqlNil {ts e sz : Nat} [TS : TSlice P ts e sz] {ad : Option Addr} {n c : Nat} (hx : ev E x = some (.slice ad n c)) (hy : ev E y = some (.slice none 0 0)) (hd : dOK N (some sd) = true) (h : eseq P N X K rest (Env.set E sd (.bool ad.isNone)) w) : eseq P N X K (⟨none, some sd, .binOp .eql ts x y ty', t, m⟩ :: rest) E w :=
  q_pure _ rfl hd (fun a ha w' => by simp [execOp, QOp.oper, ha.eval hx, ha.eval hy, eqGuard, binOp, run_eqNil]) h
/-- an empty slice literal -/
theorem q_slice0 {ts e sz : Nat} [TS : TSlice P ts e sz] (hd : dOK N (some sd) = true)
    (h : ∀ w1 b, w.heap.size ≤ b → Blk w1 b [] e → Below w.heap.size w w1 → eseq P N X K rest (Env.set E sd (.slice (some ⟨b, 0, none⟩) 0 0)) w1) : eseq P N X K (⟨none, some sd, .buildSlice ts 0 #[], t, m⟩ :: rest) E w := by
  obtain ⟨inf', h5, h6⟩ := TS.size
  refine q_eff rfl fun a ha d => ?_
  have hrun : (execOp a.eval (QOp.oper ⟨none, some sd, .buildSlice ts 0 #[], t, m⟩)).run P (w.atd d) = .ok (.value (.slice (some ⟨w.heap.size, 0, none⟩) 0 0)) ((w.atd d).alloc (.cells #[] e)) := by
    simp only [execOp, QOp.oper, Instr.buildSlice]
    simp [run_under TS.under, run_size h5, Instr.fill, newRow, newObj, Sem.run]
    rw [show Array.map (fun _ => (default : Value)) (Array.range 0) = #[] from by simp]
  unfold Oper.wp
  rw [hrun]
  exact ⟨_, _, _, rfl, rfl, hd, fun _ => .of_below (alloc_below w d _), h _ _ (Nat.le_refl _) (alloc_blk w d [] e) (alloc_below w d _)⟩
theorem Own.empty {α : Type} (T : Ty α) {w : World} {b e lo : Nat} {S : Nat → Prop} (hb : Blk w b [] e) (hl : lo ≤ b) : Own T w lo S e (.slice (some ⟨b, 0, none⟩) 0 0) [] :=
  ⟨[], rfl, ⟨by simp, .inr ⟨b, 0, #[], rfl, hl, hb, Nat.le_refl _, Nat.zero_le _, by simp, by simp⟩⟩, fun i c x h => by simp at h⟩
end

/-- a cell as it is, of one cell's size -/
structure Cell where
  v : Value
  one : oneV v = true
instance : Inhabited Cell := ⟨⟨.slice none 0 0, rfl⟩⟩
def Ty.cell : Ty Cell where
  sz := 1
  R _ _ cs x := cs = [x.v]
  len h := by subst h; rfl
  one {_ _ _ x} h v hv := by subst h; simp at hv; subst hv; exact x.one
  kept _ h := h
  mono _ h := h
instance : Enc Ty.cell fun x => [x.v] := ⟨fun _ _ _ _ => Iff.rfl⟩
/-- cells that hold slices which will not change any more -/
structure Vecs (w : World) (R : Nat → Prop) (cs : List Cell) (xs : List (List Int)) : Prop where
  len : cs.length = xs.length
  at' : ∀ i, i < xs.length → IsSlice Ty.int w R (nth cs i).v (nth xs i)
section
variable {w w' : World} {R R' : Nat → Prop} {cs : List Cell} {xs : List (List Int)}
theorem Vecs.kept (h : Vecs w R cs xs) (hk : Kept R w w') : Vecs w' R cs xs := ⟨h.len, fun i hi => (h.at' i hi).kept hk⟩
theorem Vecs.ext (h : Vecs w R cs xs) (hB : Below w.heap.size w w') : Vecs w' R cs xs := ⟨h.len, fun i hi => (h.at' i hi).ext hB⟩
theorem Vecs.mono (h : Vecs w R cs xs) (hn : ∀ k, R k → k < w.heap.size → R' k) : Vecs w R' cs xs := ⟨h.len, fun i hi => (h.at' i hi).mono hn⟩
theorem nth_setC {α : Type} [Inhabited α] {l : List α} {q i : Nat} {x : α} (h : q < l.length) : nth (l.set q x) i = if i = q then x else nth l i := by
  by_cases hi : i = q
  · subst hi; simp [nth, h]
  · simp [nth, hi, List.getElem?_set_ne (Ne.symm hi)]
theorem nth_snocC {α : Type} [Inhabited α] {l : List α} {x : α} {i : Nat} : nth (l ++ [x]) i = if i = l.length then x else nth l i := by
  by_cases h : i < l.length
  · rw [if_neg (by omega)]; simp [nth, List.getElem?_append_left h]
  · by_cases h2 : i = l.length
    · subst h2; simp [nth]
    · rw [if_neg h2]; simp [nth, List.getElem?_append_right (show l.length ≤ i by omega), show ¬ i - l.length < 1 by omega, show ¬ i < l.length from h]
theorem Vecs.nil (w : World) (R : Nat → Prop) : Vecs w R [] [] := ⟨rfl, fun i hi => absurd hi (Nat.not_lt_zero _)⟩
theorem Vecs.set {c : Cell} {x : List Int} (h : Vecs w R cs xs) (q : Nat) (hc : IsSlice Ty.int w R c.v x) : Vecs w R (cs.set q c) (xs.set q x) := by
  have hl := h.len
  refine ⟨by simpa using hl, fun i hi => ?_⟩
  simp at hi
  by_cases hq : q < xs.length
  · rw [nth_setC (by omega), nth_setC hq]
    split
    · exact hc
    · exact h.at' i hi
  · rw [List.set_eq_of_length_le (by omega), List.set_eq_of_length_le (by omega)]; exact h.at' i hi
theorem Vecs.push {c : Cell} {x : List Int} (h : Vecs w R cs xs) (hc : IsSlice Ty.int w R c.v x) : Vecs w R (cs ++ [c]) (xs ++ [x]) := by
  have hl := h.len
  refine ⟨by simp [hl], fun i hi => ?_⟩
  simp at hi
  rw [nth_snocC, nth_snocC, hl]
  split
  · exact hc
  · exact h.at' i (by omega)
end
end Go.Mine
