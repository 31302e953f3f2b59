import Derived.Test.YtdpleaifhdlciaaOps7
import Derived.ProofKit
import Derived.Deep.Slices
import Derived.Carry
namespace Go.Mine
open Go.RowKit Go.ChangeShapes Go.WideShapes Go.ChangeAt

/-! ### whatever can be read of a type lies in memory as plain data -/
structure Opens (P : Program) (t : TypeId) {α : Type} (T : Ty α) (Q : α → Prop) : Prop where
  size : P.cellsOf t = T.sz
  run : ∀ {H : Type} {enc : TypeId × Value → H} {w : World} {sp : Nat → Bool} {held : Bool} {fuel : Nat} {cs : List Value} {x : DataW H × List MemPlace}, DataW.trod enc P w 0 sp held fuel t cs = some x → ∃ a, T.R w (fun _ => True) cs a ∧ Q a
def I64 (n : Int) : Prop := -9223372036854775808 ≤ n ∧ n ≤ 9223372036854775807
def U8 (n : Int) : Prop := 0 ≤ n ∧ n ≤ 255
theorem I64.of {n : Int} (h : (Lit.int .i64 n).wf = true) : I64 n := by simpa [Lit.wf, IntKind.min, IntKind.max, IntKind.signed, IntKind.bits, I64] using h
theorem U8.of {n : Int} (h : (Lit.int .u8 n).wf = true) : U8 n := by simpa [Lit.wf, IntKind.min, IntKind.max, IntKind.signed, IntKind.bits, U8] using h
section
variable {P : Program} {t e : TypeId} {α β : Type} {T : Ty α} {A : Ty α} {B : Ty β} {Q : α → Prop} {Q' : β → Prop}
theorem Opens.int (ht : P.underlying t = some (.int .i64)) (hc : P.cellsOf t = 1) : Opens P t Ty.int I64 :=
  ⟨hc, fun h => by obtain ⟨n, rfl, _, hw⟩ := DataW.trod_int ht h; exact ⟨n, rfl, I64.of hw⟩⟩
theorem Opens.u8 (ht : P.underlying t = some (.int .u8)) (hc : P.cellsOf t = 1) : Opens P t Ty.u8 U8 :=
  ⟨hc, fun h => by obtain ⟨n, rfl, _, hw⟩ := DataW.trod_int ht h; exact ⟨n, rfl, U8.of hw⟩⟩
theorem Opens.bool (ht : P.underlying t = some .bool) (hc : P.cellsOf t = 1) : Opens P t Ty.bool (fun _ => True) :=
  ⟨hc, fun h => by obtain ⟨n, rfl, _⟩ := DataW.trod_bool ht h; exact ⟨n, rfl, trivial⟩⟩
theorem Opens.slice (ht : P.underlying t = some (.slice e)) (hc : P.cellsOf t = 1) (h0 : 0 < T.sz) (he : Opens P e T Q) : Opens P t T.slice (fun xs => xs.length ≤ 9223372036854775807 ∧ ∀ x ∈ xs, Q x) := by
  refine ⟨hc, fun {H enc w sp held fuel cs x} h => ?_⟩
  rcases DataW.trod_slice ht h with ⟨rfl, _⟩ | ⟨a, len, cap, elems, rest, n, _, rfl, _, hb, hl, hm, hlen, hel, _, _⟩
  · exact ⟨[], ⟨_, rfl, IsSlice.nil _ _ _⟩, by simp, by simp⟩
  · have key : ∀ i, i < len → ∃ cs' x, (∀ j v, cs'[j]? = some v → w.cell? ((a.add (i * T.sz)).add j) = some v) ∧ cs'.length = T.sz ∧ T.R w (fun _ => True) cs' x ∧ Q x := fun i hi => by
      have h1 := hel i hi
      rw [List.getElem?_eq_getElem (by omega)] at h1
      obtain ⟨cs', h2, h3⟩ := Option.bind_eq_some_iff.1 h1
      obtain ⟨x, h4, h5⟩ := he.run h3
      rw [he.size] at h2
      obtain ⟨_, h6, h7⟩ := World.cells?_some h2
      exact ⟨cs', x, fun j v hj => by rw [h7 j (by rw [← h6]; exact (List.getElem?_eq_some_iff.1 hj).1)]; exact hj, h6, h4, h5⟩
    have hlist : ∀ m, m ≤ len → ∃ xs : List α, xs.length = m ∧ ∀ i (hi : i < xs.length), ∃ cs', (∀ j v, cs'[j]? = some v → w.cell? ((a.add (i * T.sz)).add j) = some v) ∧ cs'.length = T.sz ∧ T.R w (fun _ => True) cs' xs[i] ∧ Q xs[i] := by
      intro m
      induction m with
      | zero => exact fun _ => ⟨[], rfl, fun i hi => absurd hi (Nat.not_lt_zero i)⟩
      | succ m ih =>
        intro hm
        obtain ⟨xs, h1, h2⟩ := ih (by omega)
        obtain ⟨cs', x, h3, h4⟩ := key m (by omega)
        refine ⟨xs ++ [x], by simp [h1], fun i hi => ?_⟩
        rcases Nat.lt_or_ge i xs.length with hlt | hge
        · rw [List.getElem_append_left hlt]; exact h2 i hlt
        · have : i = m := by simp at hi; omega
          subst this
          rw [List.getElem_append_right hge]; simp
          exact ⟨cs', by simpa using h3, h4⟩
    obtain ⟨xs, hx, hR⟩ := hlist len (Nat.le_refl _)
    have hspot : 0 < xs.length → a.spot = none := fun h => by
      obtain ⟨cs', h1, h2, _, _⟩ := hR 0 h
      have h3 := h1 0 (cs'[0]'(by omega)) (by simp)
      have h4 : w.cell? a = some (cs'[0]'(by omega)) := by simpa [Addr.add] using h3
      unfold World.cell? at h4
      split at h4
      · split at h4
        · cases h4
        · rename_i h; simpa using h
      · cases h4
    refine ⟨xs, ⟨_, rfl, some a, cap, by rw [hx], by omega, fun h => (by cases h), fun b hb hne => ?_, fun i hi => ?_⟩, by unfold maxLen at hm; omega, fun x hxm => ?_⟩
    · cases hb; exact hspot (List.length_pos_iff.2 hne)
    · obtain ⟨cs', h1, h2, h3, _⟩ := hR i hi
      obtain ⟨b, off, sp'⟩ := a
      have := hspot (by omega)
      simp only at this; subst this
      have hat : CellsAt w b (ix off i T.sz) cs' := fun j v hj => by
        have := h1 j v hj
        rw [add_mk, add_mk] at this
        rw [ix_eq]; exact this
      have hlt : b < w.heap.size := cell_block (hat 0 (cs'[0]'(by omega)) (by simp))
      exact ⟨b, off, rfl, trivial, hlt, cs', hat, h3⟩
    · obtain ⟨i, hi, rfl⟩ := List.getElem_of_mem hxm
      obtain ⟨_, _, _, _, h⟩ := hR i hi
      exact h
/-- the fields from a cell on -/
structure OpensF (P : Program) (fs : List Field) (off : Nat) {α : Type} (T : Ty α) (Q : α → Prop) : Prop where
  run : ∀ {H : Type} {enc : TypeId × Value → H} {w : World} {sp : Nat → Bool} {held : Bool} {fuel : Nat} {cs : List Value}, (∀ f ∈ fs, ∃ x, DataW.trod enc P w 0 sp held fuel f.type ((cs.drop f.offset).take (P.cellsOf f.type)) = some x) → ∃ a, T.R w (fun _ => True) ((cs.drop off).take T.sz) a ∧ Q a
theorem OpensF.one {f : Field} {off : Nat} (ho : f.offset = off) (h : Opens P f.type T Q) : OpensF P [f] off T Q := ⟨fun {H enc w sp held fuel cs} hx => by
  subst ho
  obtain ⟨x, hx⟩ := hx f (by simp)
  rw [h.size] at hx
  exact h.run hx⟩
theorem OpensF.cons {f : Field} {fs : List Field} {off : Nat} (ho : f.offset = off) (h : Opens P f.type A Q) (hr : OpensF P fs (off + A.sz) B Q') : OpensF P (f :: fs) off (A.pair B) (fun p => Q p.1 ∧ Q' p.2) := ⟨fun {H enc w sp held fuel cs} hx => by
  subst ho
  obtain ⟨x, hx0⟩ := hx f (by simp)
  rw [h.size] at hx0
  obtain ⟨a, h1, h2⟩ := h.run hx0
  obtain ⟨b, h3, h4⟩ := hr.run (fun g hg => hx g (by simp [hg]))
  refine ⟨(a, b), ⟨_, _, ?_, h1, h3⟩, h2, h4⟩
  show (cs.drop f.offset).take (A.sz + B.sz) = _
  rw [List.take_add, List.drop_drop]⟩
theorem Opens.struct {fs : Array Field} (ht : P.underlying t = some (.struct fs)) (hc : P.cellsOf t = T.sz) (h : OpensF P fs.toList 0 T Q) : Opens P t T Q := by
  refine ⟨hc, fun {H enc w sp held fuel cs x} hx => ?_⟩
  obtain ⟨xs, n, _, _, hl, hlen, hf⟩ := DataW.trod_struct ht hx
  have := h.run (cs := cs) (fuel := n) (enc := enc) (w := w) (sp := sp) (held := held) (fun f hfm => by
    obtain ⟨i, hi, rfl⟩ := List.getElem_of_mem hfm
    have hi' : i < fs.size := by simpa using hi
    exact ⟨xs[i]'(by omega), by rw [hf i _ (by simp [hi'])]; simp [hlen, hi']⟩)
  rw [List.drop_zero, List.take_of_length_le (by omega)] at this
  exact this
theorem Opens.via {f : β → α} {g : α → β} (h : Opens P t T Q) (hfg : ∀ a, f (g a) = a) : Opens P t (T.via f) (fun b => Q (f b)) :=
  ⟨h.size, fun hx => by obtain ⟨a, h1, h2⟩ := h.run hx; exact ⟨g a, by show T.R _ _ _ (f (g a)); rw [hfg]; exact h1, by rw [hfg]; exact h2⟩⟩
theorem Opens.weak {Q2 : α → Prop} (h : Opens P t T Q) (hq : ∀ a, Q a → Q2 a) : Opens P t T Q2 := ⟨h.size, fun hx => by obtain ⟨a, h1, h2⟩ := h.run hx; exact ⟨a, h1, hq a h2⟩⟩
/-- an argument that is one cell -/
theorem Opens.cell {H : Type} {enc : TypeId × Value → H} {w : World} {v : Value} {d : DataW H} {ps : List MemPlace} (h : Opens P t T Q) (hd : DataW.Trod enc P w 0 (fun _ => true) true t v d ps) : ∃ a, T.R w (fun _ => True) v.cells.toList a ∧ Q a := by
  obtain ⟨fuel, hf⟩ := hd; exact h.run hf
end

section
variable {H : Type} {enc : TypeId × Value → H} {P : Program} {t e : TypeId} {w : World} {r : Reach} {b0 : Nat} {v : Value} {d : DataW H} {ps : List MemPlace} {α : Type} {T : Ty α} {Q : α → Prop}
theorem argInt (ht : P.underlying t = some (.int .i64)) (hval : Value.okWide P w r b0 t v) (hd : DataW.Trod enc P w 0 (fun _ => true) true t v d ps) : ∃ n, v = .int .i64 n ∧ I64 n := by
  obtain ⟨n, h, _, _, hw⟩ := open_int ht hval hd; exact ⟨n, h, I64.of hw⟩
theorem argU8 (ht : P.underlying t = some (.int .u8)) (hval : Value.okWide P w r b0 t v) (hd : DataW.Trod enc P w 0 (fun _ => true) true t v d ps) : ∃ n, v = .int .u8 n ∧ U8 n := by
  obtain ⟨n, h, _, _, hw⟩ := open_int ht hval hd; exact ⟨n, h, U8.of hw⟩
theorem argBool (ht : P.underlying t = some .bool) (hval : Value.okWide P w r b0 t v) : ∃ b, v = .bool b := okWide_bool ht hval
theorem argSlice (ht : P.underlying t = some (.slice e)) (hc : P.cellsOf t = 1) (h0 : Nat.blt 0 T.sz = true) (he : Opens P e T Q) (hval : Value.okWide P w r b0 t v) (hd : DataW.Trod enc P w 0 (fun _ => true) true t v d ps) :
    ∃ xs, IsSlice T w (fun _ => True) v xs ∧ xs.length ≤ 9223372036854775807 ∧ ∀ x ∈ xs, Q x := by
  obtain ⟨a, len, cap, rfl⟩ := okWide_slice ht hval
  obtain ⟨xs, ⟨u, hu, h1⟩, h2⟩ := (Opens.slice ht hc (by simpa [Nat.blt_eq] using h0) he).cell hd
  simp [Value.cells] at hu; subst hu
  exact ⟨xs, h1, h2⟩
theorem argStruct {fs : Array Field} (ht : P.underlying t = some (.struct fs)) (h : Opens P t T Q) (hval : Value.okWide P w r b0 t v) (hd : DataW.Trod enc P w 0 (fun _ => true) true t v d ps) :
    ∃ cs a, v = .agg cs.toArray ∧ T.R w (fun _ => True) cs a ∧ Q a := by
  obtain ⟨cs, rfl, _⟩ := okWide_struct ht hval
  obtain ⟨a, h1, h2⟩ := h.cell hd
  exact ⟨cs.toList, a, by simp, by simpa [Value.cells] using h1, h2⟩
end

/-! ### a law's row -/
section
variable {H : Type} {enc : TypeId × Value → H} {P : Program}
theorem trodAll_below (hl : laidOutB P = true) {W W' : World} (hb : Below W.heap.size W W') : ∀ (ts : List TypeId) (vs : List Value) (ds : List (DataW H)) (ps : List MemPlace), ts.all (fun t => P.readableRec t && decide (t < P.types.size)) = true →
    DataW.TrodAll enc P W 0 (fun _ => true) true ts vs ds ps → (∀ x ∈ ps, x.block < W.heap.size) → DataW.TrodAll enc P W' 0 (fun b => decide (b < W.heap.size)) true ts vs ds ps := by
  intro ts
  induction ts with
  | nil => intro vs ds ps _ h _; cases vs <;> cases ds <;> exact h
  | cons t ts ih =>
    intro vs ds ps hr h hlt
    cases vs with
    | nil => exact h.elim
    | cons v vs =>
      cases ds with
      | nil => exact h.elim
      | cons d ds =>
        obtain ⟨p, q, h1, h2, rfl⟩ := h
        simp only [List.all_cons, Bool.and_eq_true, decide_eq_true_eq] at hr
        exact ⟨p, q, Below.trod hl hr.1.1 hr.1.2 h1 hb (fun x hx => hlt x (by simp [hx])), ih vs ds q hr.2 h2 (fun x hx => hlt x (by simp [hx])), rfl⟩
/-- 'true; the input reads as it did', of a call that leaves what was there alone -/
theorem law_post {f : Func} {s : ChangeSpec} {W W' : World} {args : Array Value} {ds gs : List (DataW H)} {before : List MemPlace} {tb : TypeId} (hv : s.vars = [])
    (hW : DataW.Whole enc P f.params.toList s.vars false W args.toList ds gs before) (hfn : ∀ ds : List (DataW H), ds.length = f.params.toList.length → (s.fn H ds).results = [.lit (.bool true)] ∧ (s.fn H ds).args = ds ∧ (s.fn H ds).vars = []) (hl : laidOutB P = true)
    (hr : f.params.toList.all (fun t => P.readableRec t && decide (t < P.types.size)) = true) (hb : Below W.heap.size W W') (hrt : f.resultTypes = #[tb]) (hbool : P.underlying tb = some .bool) :
    s.post enc P f false true false false W args (.bool true) W' := by
  obtain ⟨p, q, hA, hV, rfl, hz, hn⟩ := hW
  have hq : gs = [] ∧ q = [] := by
    rw [hv] at hV
    cases gs with
    | nil => exact ⟨rfl, hV⟩
    | cons g gs => exact hV.elim
  obtain ⟨rfl, rfl⟩ := hq
  have hlen : ∀ (ts : List TypeId) (vs : List Value) (ds : List (DataW H)) (ps : List MemPlace), DataW.TrodAll enc P W 0 (fun _ => true) true ts vs ds ps → ds.length = ts.length := by
    intro ts
    induction ts with
    | nil => intro vs ds ps h; cases vs <;> cases ds <;> first | rfl | exact h.elim
    | cons t ts ih =>
      intro vs ds ps h
      cases vs with
      | nil => exact h.elim
      | cons v vs =>
        cases ds with
        | nil => exact h.elim
        | cons d ds => obtain ⟨p, q, h1, h2, rfl⟩ := h; simp [ih _ _ _ h2]
  have hf := hfn ds (hlen _ _ _ _ hA)
  have hW0 : DataW.Whole enc P f.params.toList s.vars false W args.toList ds [] (p ++ []) := ⟨p, [], hA, hV, rfl, hz, hn⟩
  have hlt : ∀ x ∈ p, x.block < W.heap.size := fun x hx => hW0.lt x (by simpa using hx)
  refine ⟨ds, [], p ++ [], [], p, [], hW0, ?_, ?_, ?_, World.keptBut_mono (fun x hx => ⟨hx, ?_⟩) (hb.frame (· ∈ p ++ [])), fun h => (by cases h)⟩
  · rw [List.append_nil, hf.1, hrt]
    exact trodAll_mk1 (shut_bool hbool _)
  · rw [List.append_nil, hf.2.1]
    exact trodAll_below hl hb _ _ _ _ hr hA hlt
  · rw [List.append_nil, hf.2.2, hv]; exact rfl
  · right; left; simpa using hx
theorem Gives.law {f : FuncId} {args : List Value} {W : World} (h : Gives P f args W fun v w' => v = .bool true ∧ Below W.heap.size W w') : Calls P f args.toArray W fun e W' => e = .returned (.bool true) ∧ Below W.heap.size W W' :=
  (h W.drawn).mono fun e w' ⟨v, w1, d', he, hw, hv, hb⟩ => by subst he; subst hw; subst hv; exact ⟨rfl, ⟨hb.os, hb.tape, hb.output, hb.size, hb.block⟩⟩
end
end Go.Mine
