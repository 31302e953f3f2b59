import Derived.Test.YtdpleaifhdlciaaOps2
namespace Go.Mine
open Go.RowKit

/-! ### how Go data reads as plain data; S: the blocks that the reading may touch -/
/-- the blocks of S that were there are as they were -/
structure Kept (S : Nat → Prop) (w w' : World) : Prop where
  size : w.heap.size ≤ w'.heap.size
  block : ∀ k, S k → k < w.heap.size → w'.heap[k]? = w.heap[k]?
theorem Kept.of_ext {S : Nat → Prop} {w w' : World} (h : Below w.heap.size w w') : Kept S w w' := ⟨h.size, fun k _ hk => h.block k hk⟩
theorem Kept.of_only {S : Nat → Prop} {b : Nat} {w w' : World} (h : Only w w' b) (hn : ∀ k, S k → k ≠ b) : Kept S w w' := ⟨h.size, fun k hk hs => h.block k hs (hn k hk)⟩
theorem cell_block {w : World} {ad : Addr} {v : Value} (h : w.cell? ad = some v) : ad.block < w.heap.size := by
  unfold World.cell? at h
  cases hh : w.heap[ad.block]? with
  | none => rw [hh] at h; cases h
  | some o => exact (Array.getElem?_eq_some_iff.1 hh).1
theorem CellsAt.kept {S : Nat → Prop} {w w' : World} (hk : Kept S w w') {b off : Nat} {vs : List Value} (hb : S b) (h : CellsAt w b off vs) : CellsAt w' b off vs := fun j v hj => by
  have hc := h j v hj
  have := hk.block b hb (cell_block hc)
  rw [World.cell?_of_block (w := w) (w' := w') this]; exact hc

structure Ty (α : Type) where
  sz : Nat
  R : World → (Nat → Prop) → List Value → α → Prop
  len : ∀ {w S cs x}, R w S cs x → cs.length = sz
  one : ∀ {w S cs x}, R w S cs x → ∀ v ∈ cs, oneV v = true
  kept : ∀ {w w' S cs x}, Kept S w w' → R w S cs x → R w' S cs x
  mono : ∀ {w S S' cs x}, (∀ k, S k → k < w.heap.size → S' k) → R w S cs x → R w S' cs x

def Ty.int : Ty Int where
  sz := 1
  R _ _ cs x := cs = [.int .i64 x]
  len h := by subst h; rfl
  one h v hv := by subst h; simp at hv; subst hv; rfl
  kept _ h := h
  mono _ h := h
def Ty.u8 : Ty Int where
  sz := 1
  R _ _ cs x := cs = [.int .u8 x]
  len h := by subst h; rfl
  one h v hv := by subst h; simp at hv; subst hv; rfl
  kept _ h := h
  mono _ h := h
def Ty.bool : Ty Bool where
  sz := 1
  R _ _ cs x := cs = [.bool x]
  len h := by subst h; rfl
  one h v hv := by subst h; simp at hv; subst hv; rfl
  kept _ h := h
  mono _ h := h
def Ty.pair {α β : Type} (A : Ty α) (B : Ty β) : Ty (α × β) where
  sz := A.sz + B.sz
  R w S cs x := ∃ c1 c2, cs = c1 ++ c2 ∧ A.R w S c1 x.1 ∧ B.R w S c2 x.2
  len := by rintro w S cs x ⟨c1, c2, rfl, h1, h2⟩; simp [A.len h1, B.len h2]
  one := by
    rintro w S cs x ⟨c1, c2, rfl, h1, h2⟩ v hv
    rcases List.mem_append.1 hv with h | h
    · exact A.one h1 v h
    · exact B.one h2 v h
  kept := by rintro w w' S cs x hk ⟨c1, c2, rfl, h1, h2⟩; exact ⟨c1, c2, rfl, A.kept hk h1, B.kept hk h2⟩
  mono := by rintro w S S' cs x hk ⟨c1, c2, rfl, h1, h2⟩; exact ⟨c1, c2, rfl, A.mono hk h1, B.mono hk h2⟩
def Ty.via {α β : Type} (T : Ty α) (f : β → α) : Ty β where
  sz := T.sz
  R w S cs x := T.R w S cs (f x)
  len h := T.len h
  one h := T.one h
  kept hk h := T.kept hk h
  mono hk h := T.mono hk h

/-- a datum lies at a place -/
structure El {α : Type} (T : Ty α) (w : World) (S : Nat → Prop) (b o : Nat) (x : α) : Prop where
  mem : S b
  lt : b < w.heap.size
  cells : ∃ cs, CellsAt w b o cs ∧ T.R w S cs x
/-- a slice value reads as a list -/
def IsSlice {α : Type} (T : Ty α) (w : World) (S : Nat → Prop) (v : Value) (xs : List α) : Prop :=
  ∃ ad cap, v = .slice ad xs.length cap ∧ xs.length ≤ cap ∧ (ad = none → cap = 0) ∧ (∀ a, ad = some a → xs ≠ [] → a.spot = none) ∧ ∀ i (h : i < xs.length), ∃ b off, ad = some ⟨b, off, none⟩ ∧ El T w S b (ix off i T.sz) xs[i]
theorem El.kept {α : Type} {T : Ty α} {w w' : World} {S : Nat → Prop} {b o : Nat} {x : α} (h : El T w S b o x) (hk : Kept S w w') : El T w' S b o x := by
  obtain ⟨hb, hl, cs, h1, h2⟩ := h
  exact ⟨hb, Nat.lt_of_lt_of_le hl hk.size, cs, h1.kept hk hb, T.kept hk h2⟩
theorem IsSlice.kept {α : Type} {T : Ty α} {w w' : World} {S : Nat → Prop} {v : Value} {xs : List α} (h : IsSlice T w S v xs) (hk : Kept S w w') : IsSlice T w' S v xs := by
  obtain ⟨ad, cap, h1, h2, h3, h4, h5⟩ := h
  refine ⟨ad, cap, h1, h2, h3, h4, fun i hi => ?_⟩
  obtain ⟨b, off, he, hel⟩ := h5 i hi
  exact ⟨b, off, he, hel.kept hk⟩
theorem IsSlice.ext {α : Type} {T : Ty α} {w w' : World} {S : Nat → Prop} {v : Value} {xs : List α} (h : IsSlice T w S v xs) (hB : Below w.heap.size w w') : IsSlice T w' S v xs := h.kept (.of_ext hB)
theorem El.ext {α : Type} {T : Ty α} {w w' : World} {S : Nat → Prop} {b o : Nat} {x : α} (h : El T w S b o x) (hB : Below w.heap.size w w') : El T w' S b o x := h.kept (.of_ext hB)
theorem Blk.ext {w w' : World} {b : Nat} {cs : List Value} {t : TypeId} (h : Blk w b cs t) (hB : Below w.heap.size w w') : Blk w' b cs t := h.below hB h.lt
theorem El.mono {α : Type} {T : Ty α} {w : World} {S S' : Nat → Prop} {b o : Nat} {x : α} (h : El T w S b o x) (hn : ∀ k, S k → k < w.heap.size → S' k) : El T w S' b o x := by
  obtain ⟨hb, hl, cs, h1, h2⟩ := h
  exact ⟨hn _ hb hl, hl, cs, h1, T.mono hn h2⟩
theorem IsSlice.mono {α : Type} {T : Ty α} {w : World} {S S' : Nat → Prop} {v : Value} {xs : List α} (h : IsSlice T w S v xs) (hn : ∀ k, S k → k < w.heap.size → S' k) : IsSlice T w S' v xs := by
  obtain ⟨ad, cap, h1, h2, h3, h4, h5⟩ := h
  refine ⟨ad, cap, h1, h2, h3, h4, fun i hi => ?_⟩
  obtain ⟨b, off, he, hel⟩ := h5 i hi
  exact ⟨b, off, he, hel.mono hn⟩
/-- whatever the reading touches was there -/
theorem IsSlice.old {α : Type} {T : Ty α} {w : World} {S : Nat → Prop} {v : Value} {xs : List α} (h : IsSlice T w S v xs) : IsSlice T w (· < w.heap.size) v xs := h.mono fun _ _ h => h
theorem IsSlice.one {α : Type} {T : Ty α} {w : World} {S : Nat → Prop} {v : Value} {xs : List α} (h : IsSlice T w S v xs) : oneV v = true := by
  obtain ⟨ad, cap, rfl, _⟩ := h; rfl
theorem IsSlice.nil {α : Type} (T : Ty α) (w : World) (S : Nat → Prop) : IsSlice T w S (.slice none 0 0) [] := ⟨none, 0, rfl, Nat.le_refl _, fun _ => rfl, fun _ h => (by cases h), fun i hi => absurd hi (Nat.not_lt_zero i)⟩
def Ty.slice {α : Type} (T : Ty α) : Ty (List α) where
  sz := 1
  R w S cs xs := ∃ v, cs = [v] ∧ IsSlice T w S v xs
  len := by rintro w S cs x ⟨v, rfl, _⟩; rfl
  one := by rintro w S cs x ⟨v, rfl, h⟩ u hu; simp at hu; subst hu; exact h.one
  kept := by rintro w w' S cs x hk ⟨v, rfl, h⟩; exact ⟨v, rfl, h.kept hk⟩
  mono := by rintro w S S' cs x hk ⟨v, rfl, h⟩; exact ⟨v, rfl, h.mono hk⟩

/-! parts of a datum at a place -/
theorem CellsAt.append {w : World} {b o : Nat} {c1 c2 : List Value} : CellsAt w b o (c1 ++ c2) ↔ CellsAt w b o c1 ∧ CellsAt w b (o + c1.length) c2 := by
  constructor
  · intro h
    refine ⟨fun j v hj => h j v (by rw [List.getElem?_append_left (List.getElem?_eq_some_iff.1 hj).1]; exact hj), fun j v hj => ?_⟩
    have := h (c1.length + j) v (by rw [List.getElem?_append_right (by omega)]; simpa using hj)
    rw [show o + c1.length + j = o + (c1.length + j) from by omega]; exact this
  · rintro ⟨h1, h2⟩ j v hj
    rcases Nat.lt_or_ge j c1.length with h | h
    · exact h1 j v (by rw [List.getElem?_append_left h] at hj; exact hj)
    · rw [List.getElem?_append_right h] at hj
      have := h2 (j - c1.length) v hj
      rw [show o + c1.length + (j - c1.length) = o + j from by omega] at this; exact this
theorem El.fst {α β : Type} {A : Ty α} {B : Ty β} {w : World} {n : Nat → Prop} {b o : Nat} {x : α × β} (h : El (A.pair B) w n b o x) : El A w n b o x.1 := by
  obtain ⟨hb, hl, cs, h1, c1, c2, rfl, h2, h3⟩ := h
  exact ⟨hb, hl, c1, (CellsAt.append.1 h1).1, h2⟩
theorem El.snd {α β : Type} {A : Ty α} {B : Ty β} {w : World} {n : Nat → Prop} {b o : Nat} {x : α × β} (h : El (A.pair B) w n b o x) : El B w n b (o + A.sz) x.2 := by
  obtain ⟨hb, hl, cs, h1, c1, c2, rfl, h2, h3⟩ := h
  refine ⟨hb, hl, c2, ?_, h3⟩
  have := (CellsAt.append.1 h1).2
  rw [A.len h2] at this; exact this

/-- the element at an index, or the type's default -/
def nth {α : Type} [Inhabited α] (xs : List α) (i : Nat) : α := xs.getD i default
theorem nth_eq {α : Type} [Inhabited α] {xs : List α} {i : Nat} (h : i < xs.length) : nth xs i = xs[i] := by simp [nth, h]
section
variable {P : Program} {N : Nat} {X : Nat → Prop} {K : Env → World → Prop} {E : Env} {w : World} {t : TypeId} {m : Bool} {rest : List QOp} {sd : Nat} {α : Type} {T : Ty α}

theorem q_lenS {x : Operand} {ts e sz : Nat} {n : Nat → Prop} {v : Value} {xs : List α} [TS : TSlice P ts e sz] (hx : ev E x = some v) (hs : IsSlice T w n v xs) (hd : dOK N (some sd) = true) (h : eseq P N X K rest (Env.set E sd (.int .i64 xs.length)) w) :
    eseq P N X K (⟨none, some sd, .call { callee := .builtin .len, args := #[x], argTypes := #[ts] }, t, m⟩ :: rest) E w := by
  obtain ⟨ad, cap, rfl, _⟩ := hs
  exact q_len hx hd h
theorem q_indexS [Inhabited α] {x y : Operand} {ts e : Nat} {n : Nat → Prop} {v : Value} {xs : List α} {k : IntKind} {i : Int} (TS : TSlice P ts e T.sz) (hx : ev E x = some v) (hs : IsSlice T w n v xs) (hy : ev E y = some (.int k i)) (h0 : 0 ≤ i) (hi : i.toNat < xs.length)
    (hd : dOK N (some sd) = true) (h : ∀ b o, El T w n b o (nth xs i.toNat) → eseq P N X K rest (Env.set E sd (.pointer (some ⟨b, o, none⟩))) w) : eseq P N X K (⟨none, some sd, .indexAddr ts x y, t, m⟩ :: rest) E w := by
  obtain ⟨ad, cap, rfl, _, _, _, hel⟩ := hs
  obtain ⟨b, off, rfl, h1⟩ := hel i.toNat hi
  exact q_index hx hy ⟨h0, by omega⟩ hd (h _ _ (by rw [nth_eq hi]; exact h1))
theorem q_indexSn [Inhabited α] {x y : Operand} {ts e : Nat} {n : Nat → Prop} {v : Value} {xs : List α} {k : IntKind} {i : Nat} (TS : TSlice P ts e T.sz) (hx : ev E x = some v) (hs : IsSlice T w n v xs) (hy : ev E y = some (.int k i)) (hi : i < xs.length)
    (hd : dOK N (some sd) = true) (h : ∀ b o, El T w n b o (nth xs i) → eseq P N X K rest (Env.set E sd (.pointer (some ⟨b, o, none⟩))) w) : eseq P N X K (⟨none, some sd, .indexAddr ts x y, t, m⟩ :: rest) E w :=
  q_indexS (i := (i : Int)) TS hx hs hy (by omega) (by simpa using hi) hd (by simpa using h)
theorem El.intCell {n : Nat → Prop} {b o : Nat} {x : Int} (h : El Ty.int w n b o x) : w.cell? ⟨b, o, none⟩ = some (.int .i64 x) := by
  obtain ⟨_, _, cs, h1, rfl⟩ := h; exact h1 0 _ rfl
theorem El.u8Cell {n : Nat → Prop} {b o : Nat} {x : Int} (h : El Ty.u8 w n b o x) : w.cell? ⟨b, o, none⟩ = some (.int .u8 x) := by
  obtain ⟨_, _, cs, h1, rfl⟩ := h; exact h1 0 _ rfl
theorem El.boolCell {n : Nat → Prop} {b o : Nat} {x : Bool} (h : El Ty.bool w n b o x) : w.cell? ⟨b, o, none⟩ = some (.bool x) := by
  obtain ⟨_, _, cs, h1, rfl⟩ := h; exact h1 0 _ rfl
theorem El.sliceCell {n : Nat → Prop} {b o : Nat} {xs : List α} (h : El T.slice w n b o xs) : ∃ v, w.cell? ⟨b, o, none⟩ = some v ∧ IsSlice T w n v xs := by
  obtain ⟨_, _, cs, h1, v, rfl, hv⟩ := h; exact ⟨v, h1 0 _ rfl, hv⟩
theorem q_loadS {x : Operand} {tt b o : Nat} {n : Nat → Prop} {xs : List α} [TC : TCell P tt] (hx : ev E x = some (.pointer (some ⟨b, o, none⟩))) (hc : El T.slice w n b o xs)
    (hd : dOK N (some sd) = true) (h : ∀ v, IsSlice T w n v xs → eseq P N X K rest (Env.set E sd v) w) (hX : ¬ X b := by first | exact id | assumption | (show ¬ (_ = _); omega) | (intro h; omega)) : eseq P N X K (⟨none, some sd, .load tt x, t, m⟩ :: rest) E w := by
  obtain ⟨v, h1, h2⟩ := hc.sliceCell
  exact q_load hx h1 hd (h v h2) hX
theorem q_allocB {tt : TypeId} {z : List Value} [T : TZero P tt z] (hd : dOK N (some sd) = true)
    (h : ∀ w1 b, w.heap.size ≤ b → Blk w1 b z tt → Below w.heap.size w w1 → eseq P N X K rest (Env.set E sd (.pointer (some ⟨b, 0, none⟩))) w1) : eseq P N X K (⟨none, some sd, .alloc tt, t, m⟩ :: rest) E w :=
  q_alloc hd fun w1 hb hB => h w1 _ (Nat.le_refl _) hb hB
theorem q_boxB {x : Operand} {tt : TypeId} {v : Value} {cs : List Value} (hx : ev E x = some v) (hv : v.cells = cs.toArray) (hd : dOK N (some sd) = true)
    (h : ∀ w1 b, w.heap.size ≤ b → Blk w1 b cs tt → Below w.heap.size w w1 → eseq P N X K rest (Env.set E sd (.pointer (some ⟨b, 0, none⟩))) w1) : eseq P N X K (⟨none, some sd, .box tt x, t, m⟩ :: rest) E w :=
  q_box hx hv hd fun w1 hb hB => h w1 _ (Nat.le_refl _) hb hB
theorem Blk.cellsAt {w : World} {b : Nat} {cs vs : List Value} {t : TypeId} (h : Blk w b cs t) (o n : Nat) (hv : (cs.drop o).take n = vs) : CellsAt w b o vs := fun j v hj => by
  subst hv
  have hjn : j < n := by
    have := (List.getElem?_eq_some_iff.1 hj).1; simp at this; omega
  rw [List.getElem?_take_of_lt hjn, List.getElem?_drop] at hj
  exact h.cell hj
section
variable {x y : Operand} {i j : Bool} {ty ty' : TypeId}
class TBool (P : Program) (t : TypeId) : Prop where
  under : P.underlying t = some .bool
theorem run_eqBn [T : TBool P ty] (d : Nat) (w : World) : (Op.equalIn (d + 1) ty (.bool i) (.bool j)).run P w = .ok (i == j) w := by
  simp [Op.equalIn, run_under T.under]
theorem run_eqB [T : TBool P ty] (w : World) : (Op.equal ty (.bool i) (.bool j)).run P w = .ok (i == j) w := by
  simp only [Op.equal, Op.maxDepth]; exact run_eqBn 9999 w
theorem q_eqlB [T : TBool P ty] (hx : ev E x = some (.bool i)) (hy : ev E y = some (.bool j)) (hd : dOK N (some sd) = true) (h : eseq P N X K rest (Env.set E sd (.bool (i == j))) w) : eseq P N X K (⟨none, some sd, .binOp .eql ty x y ty', t, m⟩ :: rest) E w :=
  q_pure _ rfl hd (fun a ha w' => by simp [execOp, QOp.oper, ha.eval hx, ha.eval hy, eqGuard, binOp, run_eqB]) h
theorem q_neqB [T : TBool P ty] (hx : ev E x = some (.bool i)) (hy : ev E y = some (.bool j)) (hd : dOK N (some sd) = true) (h : eseq P N X K rest (Env.set E sd (.bool (i != j))) w) : eseq P N X K (⟨none, some sd, .binOp .neq ty x y ty', t, m⟩ :: rest) E w :=
  q_pure _ rfl hd (fun a ha w' => by simp [execOp, QOp.oper, ha.eval hx, ha.eval hy, eqGuard, binOp, run_eqB]; cases i <;> cases j <;> rfl) h
end
end

/-! ### && and ||: the two ways meet again -/
theorem Sub.set {E0 E : Env} {d : Nat} {v : Value} (hd : Env.find E0 d = none) (h : Sub E0 E) : Sub E0 ((d, v) :: E) := fun s u hu => by
  rw [Env.find_cons]
  split
  · subst s; rw [hd] at hu; cases hu
  · exact h s u hu
theorem Sub.bool {E : Env} {s : Nat} {b : Bool} (c : Bool) (hs : Env.find E s = some (.bool b)) (hb : b = c) : Sub E ((s, .bool c) :: E) := fun x u hu => by
  rw [Env.find_cons]
  split
  · subst x; rw [hs] at hu; rw [← hb]; exact hu
  · exact hu
theorem seqW_append {P : Program} {X : Nat → Prop} {K : Act → World → Prop} : ∀ (G rest : List QOp) (a : Act) (w : World), seqW P X (fun a' w' => seqW P X K rest a' w') G a w → seqW P X K (G ++ rest) a w
  | [], rest, a, w, h => h
  | q :: G, rest, a, w, h => by
    simp only [List.cons_append, seqW] at h ⊢
    split at h
    · rename_i hw
      rw [if_pos hw]
      split at h
      · rename_i hc
        rw [if_pos hc]
        obtain ⟨v, h1, h2⟩ := h
        exact ⟨v, h1, seqW_append G rest _ _ h2⟩
      · rename_i hc
        rw [if_neg hc]
        split at h
        · rename_i hc1
          rw [if_pos hc1]
          obtain ⟨v, h1, h2⟩ := h
          exact ⟨v, h1, seqW_append G rest _ _ h2⟩
        · rename_i hc1
          rw [if_neg hc1]
          exact Oper.wp_mono (fun a1 w1 ⟨v, e, hB, hs⟩ => ⟨v, e, hB, seqW_append G rest _ _ hs⟩) h
    · rename_i hw
      rw [if_neg hw]
      exact seqW_append G rest _ _ h
theorem eseq_append {P : Program} {N : Nat} {X : Nat → Prop} {K K1 : Env → World → Prop} {E : Env} {w : World} {G rest : List QOp} (h : eseq P N X K1 G E w) (h2 : ∀ E' w', K1 E' w' → eseq P N X K rest E' w') : eseq P N X K (G ++ rest) E w := by
  intro d a ha
  refine seqW_append G rest a _ ?_
  have key : ∀ (G : List QOp) (a : Act) (w : World), seqW P X (fun a' w' => ∃ E' w0 d', w' = w0.atd d' ∧ Has a' N E' ∧ K1 E' w0) G a w → seqW P X (fun a' w' => seqW P X (fun a' w' => ∃ E' w0 d', w' = w0.atd d' ∧ Has a' N E' ∧ K E' w0) rest a' w') G a w := by
    intro G
    induction G with
    | nil =>
      rintro a w ⟨E', w0, d', rfl, hE, hK⟩
      exact h2 E' w0 hK d' a hE
    | cons q G ih =>
      intro a w h
      simp only [seqW] at h ⊢
      split at h
      · rename_i hw
        rw [if_pos hw]
        split at h
        · rename_i hc
          rw [if_pos hc]
          obtain ⟨v, h1, h2⟩ := h
          exact ⟨v, h1, ih _ _ h2⟩
        · rename_i hc
          rw [if_neg hc]
          split at h
          · rename_i hc1
            rw [if_pos hc1]
            obtain ⟨v, h1, h2⟩ := h
            exact ⟨v, h1, ih _ _ h2⟩
          · rename_i hc1
            rw [if_neg hc1]
            exact Oper.wp_mono (fun a1 w1 ⟨v, e, hB, hs⟩ => ⟨v, e, hB, ih _ _ hs⟩) h
      · rename_i hw
        rw [if_neg hw]
        exact ih _ _ h
  exact key G a _ (h d a ha)
/-- what an operand of && or || leaves: all that was known, a Bool, and only new memory -/
def KB (E0 : Env) (w0 : World) (x : Operand) (r : Bool) : Env → World → Prop := fun E w => Below w0.heap.size w0 w ∧ Sub E0 E ∧ ev E x = some (.bool r)
def gT (E : Env) : Option (Nat × Bool) → Prop
  | none => True
  | some (s, b) => Env.find E s = some (.bool b)
theorem g_open {P : Program} {N : Nat} {X : Nat → Prop} {K : Env → World → Prop} {E : Env} {w : World} {g : Option (Nat × Bool)} {dst : Option Nat} {op : Op} {t : TypeId} {m : Bool} {rest : List QOp} (hg : gT E g)
    (h : eseq P N X K (⟨none, dst, op, t, m⟩ :: rest) E w) : eseq P N X K (⟨g, dst, op, t, m⟩ :: rest) E w := by
  cases g with
  | none => exact h
  | some p => obtain ⟨s, b⟩ := p; exact g_run hg h
theorem gT.sub {E E' : Env} {g : Option (Nat × Bool)} (h : gT E g) (hs : Sub E E') : gT E' g := by
  cases g with
  | none => trivial
  | some p => obtain ⟨s, b⟩ := p; exact hs _ _ h
theorem g_and {P : Program} {N : Nat} {X : Nat → Prop} {K : Env → World → Prop} {E : Env} {w : World} {s d : Nat} {b : Bool} {x : Operand} {t : TypeId} {m : Bool} {g : Option (Nat × Bool)} (n : Nat) {qs rest : List QOp} (hq : qs.drop n = ⟨g, some d, .pick (.tmp s) x (.const (.bool false)), t, m⟩ :: rest)
    (hgd : gT E g) (hs : Env.find E s = some (.bool b)) (hd : dOK N (some d) = true)
    (H : ∃ r : Bool, (b = true → eseq P N X (KB E w x r) (qs.take n) ((s, .bool true) :: E) w) ∧ (b = false → eseq P N X (fun E' w' => w' = w ∧ Sub E E') (qs.take n) ((s, .bool false) :: E) w) ∧
      ∀ w', Below w.heap.size w w' → eseq P N X K rest (Env.set E d (.bool (b && r))) w') : eseq P N X K qs E w := by
  obtain ⟨r, ht, hf, h⟩ := H
  rw [← List.take_append_drop n qs, hq]
  cases b with
  | true =>
    have h1 := eseq_append (rest := ⟨g, some d, .pick (.tmp s) x (.const (.bool false)), t, m⟩ :: rest) (ht rfl) (K := K) fun E' w' ⟨hB, hsub, hx⟩ => by
      refine g_open (hgd.sub hsub) (q_pick_true (hsub s _ hs) hx hd ?_)
      intro dd a ha
      exact h w' hB dd a (ha.weaken fun y u hu => by
        rw [Env.find_cons] at hu ⊢
        split at hu
        · rename_i he; rw [if_pos he]; simpa using hu
        · rename_i he; rw [if_neg he]; exact hsub y u hu)
    intro dd a ha
    exact h1 dd a (ha.weaken fun y u hu => by
      rw [Env.find_cons] at hu
      split at hu
      · rename_i he; subst he; rw [hs]; exact hu
      · exact hu)
  | false =>
    have h1 := eseq_append (rest := ⟨g, some d, .pick (.tmp s) x (.const (.bool false)), t, m⟩ :: rest) (hf rfl) (K := K) fun E' w' ⟨hw, hsub⟩ => by
      subst hw
      refine g_open (hgd.sub hsub) (q_pick_false (hsub s _ hs) rfl hd ?_)
      intro dd a ha
      exact h w' (Below.refl _ _) dd a (ha.weaken fun y u hu => by
        rw [Env.find_cons] at hu ⊢
        split at hu
        · rename_i he; rw [if_pos he]; simpa using hu
        · rename_i he; rw [if_neg he]; exact hsub y u hu)
    intro dd a ha
    exact h1 dd a (ha.weaken fun y u hu => by
      rw [Env.find_cons] at hu
      split at hu
      · rename_i he; subst he; rw [hs]; exact hu
      · exact hu)
theorem g_or {P : Program} {N : Nat} {X : Nat → Prop} {K : Env → World → Prop} {E : Env} {w : World} {s d : Nat} {b : Bool} {x : Operand} {t : TypeId} {m : Bool} {g : Option (Nat × Bool)} (n : Nat) {qs rest : List QOp} (hq : qs.drop n = ⟨g, some d, .pick (.tmp s) (.const (.bool true)) x, t, m⟩ :: rest)
    (hgd : gT E g) (hs : Env.find E s = some (.bool b)) (hd : dOK N (some d) = true)
    (H : ∃ r : Bool, (b = true → eseq P N X (fun E' w' => w' = w ∧ Sub E E') (qs.take n) ((s, .bool true) :: E) w) ∧ (b = false → eseq P N X (KB E w x r) (qs.take n) ((s, .bool false) :: E) w) ∧
      ∀ w', Below w.heap.size w w' → eseq P N X K rest (Env.set E d (.bool (b || r))) w') : eseq P N X K qs E w := by
  obtain ⟨r, ht, hf, h⟩ := H
  rw [← List.take_append_drop n qs, hq]
  cases b with
  | false =>
    have h1 := eseq_append (rest := ⟨g, some d, .pick (.tmp s) (.const (.bool true)) x, t, m⟩ :: rest) (hf rfl) (K := K) fun E' w' ⟨hB, hsub, hx⟩ => by
      refine g_open (hgd.sub hsub) (q_pick_false (hsub s _ hs) hx hd ?_)
      intro dd a ha
      exact h w' hB dd a (ha.weaken fun y u hu => by
        rw [Env.find_cons] at hu ⊢
        split at hu
        · rename_i he; rw [if_pos he]; simpa using hu
        · rename_i he; rw [if_neg he]; exact hsub y u hu)
    intro dd a ha
    exact h1 dd a (ha.weaken fun y u hu => by
      rw [Env.find_cons] at hu
      split at hu
      · rename_i he; subst he; rw [hs]; exact hu
      · exact hu)
  | true =>
    have h1 := eseq_append (rest := ⟨g, some d, .pick (.tmp s) (.const (.bool true)) x, t, m⟩ :: rest) (ht rfl) (K := K) fun E' w' ⟨hw, hsub⟩ => by
      subst hw
      refine g_open (hgd.sub hsub) (q_pick_true (hsub s _ hs) rfl hd ?_)
      intro dd a ha
      exact h w' (Below.refl _ _) dd a (ha.weaken fun y u hu => by
        rw [Env.find_cons] at hu ⊢
        split at hu
        · rename_i he; rw [if_pos he]; simpa using hu
        · rename_i he; rw [if_neg he]; exact hsub y u hu)
    intro dd a ha
    exact h1 dd a (ha.weaken fun y u hu => by
      rw [Env.find_cons] at hu
      split at hu
      · rename_i he; subst he; rw [hs]; exact hu
      · exact hu)
theorem g_skipU {P : Program} {N : Nat} {X : Nat → Prop} {K : Env → World → Prop} {E : Env} {w : World} {s : Nat} {b : Bool} {dst : Option Nat} {op : Op} {t : TypeId} {m : Bool} {rest : List QOp} (hs : Env.find E s = some undef) (hd : dOK N dst = true)
    (h : eseq P N X K rest (E.put dst undef) w) : eseq P N X K (⟨some (s, b), dst, op, t, m⟩ :: rest) E w := by
  intro d a ha
  have hw : ¬ QOp.wanted ⟨some (s, b), dst, op, t, m⟩ a = true := by
    simp [QOp.wanted, ha.slot s _ hs, boolOf, undef]
  simp only [seqW, hw]
  exact h d _ (ha.putD hd undef)
end Go.Mine
