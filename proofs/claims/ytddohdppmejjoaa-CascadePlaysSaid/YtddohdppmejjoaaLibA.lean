import Derived.Below
import Derived.Orders
import Derived.WalkKit
import Derived.KernelRfl
set_option linter.unusedVariables false
namespace Go.Mine
open Go.RowKit

/-! ### environments -/
abbrev Env := List (Nat × Value)
def Env.find : Env → Nat → Option Value
  | [], _ => none
  | (k, v) :: E, s => bif Nat.beq k s then some v else Env.find E s

/-- a frame: how many temporaries, and what is deferred -/
structure Fr where
  n : Nat
  ds : List Deferred := []
structure Has (a : Act) (N : Fr) (E : Env) : Prop where
  defers : a.defers = N.ds
  size : a.tmps.size = N.n
  slot : ∀ s v, Env.find E s = some v → a.tmps[s]? = some v

theorem Env.find_cons (k : Nat) (v : Value) (E : Env) (s : Nat) : Env.find ((k, v) :: E) s = if k = s then some v else Env.find E s := by
  simp only [Env.find]
  by_cases h : k = s
  · subst h; simp
  · have : Nat.beq k s = false := by
      cases hb : Nat.beq k s
      · rfl
      · exact absurd (Nat.eq_of_beq_eq_true hb) h
    simp [this, h]

theorem Has.put {a : Act} {N : Fr} {E : Env} (h : Has a N E) {d : Nat} (hd : d < N.n) (v : Value) : Has (a.put (some d) v) N ((d, v) :: E) := by
  refine ⟨h.defers, by simp [Act.put, h.size], fun s u hs => ?_⟩
  rw [Env.find_cons] at hs
  simp only [Act.put]
  by_cases e : d = s
  · subst e
    rw [if_pos rfl] at hs
    rw [Array.getElem?_setIfInBounds_self_of_lt (by rw [h.size]; exact hd)]
    exact hs
  · rw [if_neg e] at hs
    rw [Array.getElem?_setIfInBounds_ne e]
    exact h.slot s u hs


theorem Has.weaken {a : Act} {N : Fr} {E E' : Env} (h : Has a N E) (hs : ∀ s v, Env.find E' s = some v → Env.find E s = some v) : Has a N E' :=
  ⟨h.defers, h.size, fun s v hv => h.slot s v (hs s v hv)⟩

def ev (E : Env) : Operand → Option Value
  | .tmp t => Env.find E t
  | .const v => some v
  | .global g => some (.pointer (some ⟨g, 0, none⟩))
  | .func f => some (.func (.func f) #[] #[])

theorem Has.eval {a : Act} {N : Fr} {E : Env} (h : Has a N E) {x : Operand} {v : Value} (hx : ev E x = some v) : a.eval x = v := by
  cases x with
  | tmp t => simp only [Act.eval]; have := h.slot t v hx; simp [this]
  | const c => simpa [ev, Act.eval] using hx
  | global g => simpa [ev, Act.eval] using hx
  | func f => simpa [ev, Act.eval] using hx

/-! ### worlds up to the count of draws -/
def _root_.Go.World.atd (w : World) (d : Nat) : World := { w with drawn := d }
theorem atd_self (w : World) : w.atd w.drawn = w := rfl
@[simp] theorem atd_heap (w : World) (d : Nat) : (w.atd d).heap = w.heap := rfl
theorem atd_cell (w : World) (d : Nat) (a : Addr) : (w.atd d).cell? a = w.cell? a := rfl

/-! ### code over environments -/
abbrev EPost := Exit → Env → World → Prop
/-- The post of a piece of code, as the base has it: the world up to its count of draws. -/
def lift (N : Fr) (Q : EPost) : Exit → Act → World → Prop := fun e a w => ∃ E w0 d, w = w0.atd d ∧ Has a N E ∧ Q e E w0
def ewp (P : Program) (N : Fr) (c : Code) (Q : EPost) (E : Env) (w : World) : Prop :=
  ∀ d a, Has a N E → c.wp P (lift N Q) a (w.atd d)
def EThen (K : Env → World → Prop) (Q : EPost) : EPost
  | .normal, E, w => K E w
  | e, E, w => Q e E w
def EBlock (id : Nat) (Q : EPost) : EPost
  | .exit id', E, w => bif Nat.beq id' id then Q .normal E w else Q (.exit id') E w
  | e, E, w => Q e E w

section
variable {P : Program} {N : Fr} {Q : EPost} {E : Env} {w : World}

theorem e_weaken {c : Code} {E' : Env} (hs : ∀ s v, Env.find E' s = some v → Env.find E s = some v) (h : ewp P N c Q E' w) : ewp P N c Q E w :=
  fun d a ha => h d a (ha.weaken hs)
theorem e_skip (h : Q .normal E w) : ewp P N .skip Q E w := fun d _ ha => wp_skip ⟨E, w, d, rfl, ha, h⟩
theorem e_ret (h : Q .ret E w) : ewp P N .ret Q E w := fun d _ ha => wp_ret ⟨E, w, d, rfl, ha, h⟩
theorem e_exit {id : Nat} (h : Q (.exit id) E w) : ewp P N (.exit id) Q E w := fun d _ ha => wp_exit ⟨E, w, d, rfl, ha, h⟩

theorem e_seq {x y : Code} (h : ∀ K : Env → World → Prop, (∀ E w, ewp P N y Q E w → K E w) → ewp P N x (EThen K Q) E w) : ewp P N (.seq x y) Q E w := by
  intro d a ha
  refine wp_seq (wp_mono (h (fun E w => ewp P N y Q E w) (fun _ _ h => h) d a ha) ?_)
  rintro e a' w' ⟨E', w0, d0, rfl, hE, hQ⟩
  cases e with
  | normal => exact hQ d0 a' hE
  | _ => exact ⟨E', w0, d0, rfl, hE, hQ⟩

theorem e_cond {c : Operand} {x y : Code} {b : Bool} (hc : ev E c = some (.bool b)) (ht : b = true → ewp P N x Q E w) (hf : b = false → ewp P N y Q E w) :
    ewp P N (.cond c x y) Q E w := by
  intro d a ha
  refine wp_cond (ha.eval hc) ?_
  cases b with
  | true => exact ht rfl d a ha
  | false => exact hf rfl d a ha

theorem e_block {id : Nat} {c : Code} (h : ewp P N c (EBlock id Q) E w) : ewp P N (.block id c) Q E w := by
  intro d a ha
  refine wp_block (wp_mono (h d a ha) ?_)
  rintro e a' w' ⟨E', w0, d0, rfl, hE, hQ⟩
  cases e with
  | exit id' =>
    simp only [Exit.inBlock, EBlock] at *
    by_cases h' : id' = id
    · subst h'
      rw [if_pos rfl]
      simp only [Nat.beq_refl, cond_true] at hQ
      exact ⟨E', w0, d0, rfl, hE, hQ⟩
    · have hb : Nat.beq id' id = false := by
        cases hb : Nat.beq id' id
        · rfl
        · exact absurd (Nat.eq_of_beq_eq_true hb) h'
      rw [if_neg h']
      simp only [hb, cond_false] at hQ
      exact ⟨E', w0, d0, rfl, hE, hQ⟩
  | _ => exact ⟨E', w0, d0, rfl, hE, hQ⟩

/-- what the first environment knows the second knows, too -/
def Sub (E0 E : Env) : Prop := ∀ s v, Env.find E0 s = some v → Env.find E s = some v
theorem Sub.refl (E : Env) : Sub E E := fun _ _ h => h
theorem Sub.nil (E : Env) : Sub [] E := fun _ _ h => by cases h
theorem Sub.cons {k : Nat} {v : Value} {E0 E : Env} (h : Env.find E k = some v) (hs : Sub E0 E) : Sub ((k, v) :: E0) E := fun s u hu => by
  rw [Env.find_cons] at hu
  split at hu
  · subst s; cases hu; exact h
  · exact hs s u hu
theorem e_sub {c : Code} {E0 : Env} (hs : Sub E0 E) (h : ewp P N c Q E0 w) : ewp P N c Q E w := e_weaken hs h

/-- A loop: a relation at the head of every round, with a number that each round lowers. -/
theorem e_loop {c : Code} (I : Nat → Env → World → Prop) (n : Nat) (h0 : ∃ E0, I n E0 w ∧ Sub E0 E)
    (round : ∀ n E w, I n E w → ewp P N c (EThen (fun E' w' => ∃ m E0, m < n ∧ I m E0 w' ∧ Sub E0 E') Q) E w) : ewp P N (.loop c) Q E w := by
  intro d a ha b k cs
  have key : ∀ n, ∀ E w d a, I n E w → Has a N E → ∃ e a' w', lift N Q e a' w' ∧ Arrives P (lone (b.at a (.code c :: .inLoop c :: k)) cs (w.atd d)) b k cs e a' w' := by
    intro n
    induction n using Nat.strongRecOn with
    | _ n ih =>
      intro E w d a hI ha
      obtain ⟨e, a1, w1, hq, harr⟩ := round n E w hI d a ha b (.inLoop c :: k) cs
      obtain ⟨E1, w0, d0, rfl, hE1, hQ⟩ := hq
      cases e with
      | normal =>
        obtain ⟨m, E2, hm, hI1, hs⟩ := hQ
        obtain ⟨e2, a2, w2, hq2, harr2⟩ := ih m hm E2 w0 d0 a1 hI1 (hE1.weaken hs)
        exact ⟨e2, a2, w2, hq2, .of_steps (Steps.trans harr (.one step_inLoop)) harr2⟩
      | exit id => exact ⟨_, a1, _, ⟨E1, w0, d0, rfl, hE1, hQ⟩, .pass (x := .inLoop c) rfl (fun _ _ => .inl (by simp)) harr⟩
      | goto l => exact ⟨_, a1, _, ⟨E1, w0, d0, rfl, hE1, hQ⟩, .pass (x := .inLoop c) rfl (fun _ _ => .inl (by simp)) harr⟩
      | ret => exact ⟨_, a1, _, ⟨E1, w0, d0, rfl, hE1, hQ⟩, .pass (x := .inLoop c) rfl (fun _ _ => .inl (by simp)) harr⟩
      | panic ch => exact ⟨_, a1, _, ⟨E1, w0, d0, rfl, hE1, hQ⟩, .pass (x := .inLoop c) rfl (fun _ _ => .inl (by simp)) harr⟩
      | outgrown => exact ⟨_, a1, _, ⟨E1, w0, d0, rfl, hE1, hQ⟩, .pass (x := .inLoop c) rfl (fun _ _ => .inl (by simp)) harr⟩
  obtain ⟨E0, h0, hs0⟩ := h0
  obtain ⟨e, a', w', hq, harr⟩ := key n E0 w d a h0 (ha.weaken hs0)
  exact ⟨e, a', w', hq, .of_steps (.one step_loop) harr⟩
end
end Go.Mine

namespace Go.Mine
open Go.RowKit

/-! ### a region in one canonical order -/
structure QOp where
  g : Option (Nat × Bool)
  dst : Option Nat
  op : Op
  type : TypeId
  mono : Bool

/-- 0: the value hangs on the operands alone; 1: it reads memory; 2: it may change the world. -/
def cls : Op → Nat
  | .move _ | .assign _ | .pick .. | .nilCheck _ | .binOp .. | .unOp .. | .fieldAddr .. | .field .. | .indexAddr .. | .index .. | .extract .. | .build .. | .slice .. | .convert .. | .makeFunc .. => 0
  | .call { callee := .builtin b, .. } => match b with
    | .len | .cap | .min | .max => 0
    | _ => 2
  | .load .. => 1
  | _ => 2

def QOp.oper (q : QOp) : Oper := { dst := q.dst, op := q.op, type := q.type, pos := "", after := #[], guard := none }

def boolOf : Option Value → Option Bool
  | some (.bool b) => some b
  | _ => none
def QOp.wanted (q : QOp) (a : Act) : Bool :=
  match q.g with
  | none => true
  | some (s, b) => boolOf a.tmps[s]? == some b

/-- but for the blocks of X (and new ones) memory is as it was -/
structure RelX (X : Nat → Prop) (w w' : World) : Prop where
  os : w'.os = w.os
  tape : w'.tape = w.tape
  output : w'.output = w.output
  size : w.heap.size ≤ w'.heap.size
  block : ∀ k, k < w.heap.size → ¬ X k → w'.heap[k]? = w.heap[k]?
theorem RelX.refl (X : Nat → Prop) (w : World) : RelX X w w := ⟨rfl, rfl, rfl, Nat.le_refl _, fun _ _ _ => rfl⟩
theorem RelX.trans {X : Nat → Prop} {a b c : World} (h : RelX X a b) (k : RelX X b c) : RelX X a c :=
  ⟨k.os.trans h.os, k.tape.trans h.tape, k.output.trans h.output, Nat.le_trans h.size k.size, fun i hi hx => (k.block i (Nat.lt_of_lt_of_le hi h.size) hx).trans (h.block i hi hx)⟩
theorem RelX.of_below {X : Nat → Prop} {w w' : World} (h : Below w.heap.size w w') : RelX X w w' := ⟨h.os, h.tape, h.output, h.size, fun k hk _ => h.block k hk⟩

def seqW (P : Program) (X : Nat → Prop) (K : Act → World → Prop) : List QOp → Act → World → Prop
  | [], a, w => K a w
  | q :: rest, a, w =>
    if q.wanted a = true then
      if cls q.op = 0 then ∃ v, (∀ w', (execOp a.eval q.oper).run P w' = .ok (.value v) w') ∧ seqW P X K rest (a.put q.dst v) w
      else if cls q.op = 1 then ∃ v, (∀ w', RelX X w w' → (execOp a.eval q.oper).run P w' = .ok (.value v) w') ∧ seqW P X K rest (a.put q.dst v) w
      else q.oper.wp P a w (fun a' w' => ∃ v, a' = a.put q.dst v ∧ (q.mono = true → RelX X w w') ∧ seqW P X K rest (a.put q.dst v) w') (fun _ _ _ => False)
    else seqW P X K rest (a.put q.dst undef) w

def mkQ (l : List Oper) (m : Bool) (o : Oper) : QOp :=
  ⟨match o.guard with | none => none | some (j, b) => some (((l.getD j default).dst).getD 0, b), o.dst, o.op, o.type, m⟩
def compile (l : List Oper) (ms : List Nat) (ord : List Nat) : List QOp := ord.map fun i => mkQ l (ms.contains i) (l.getD i default)

/-! the static check -/
def subM (x y : Nat) : Bool := Nat.beq (x ||| y) y
theorem subM_spec {x y : Nat} (h : subM x y = true) (k : Nat) (hk : x.testBit k = true) : y.testBit k = true := by
  have e : x ||| y = y := Nat.eq_of_beq_eq_true h
  rw [← e, Nat.testBit_or, hk]; rfl
def predM (o : Oper) : Nat := o.after.toList.foldl (fun m e => bif Region.binds .any e then m ||| 2 ^ e.on else m) 0
def ancM (A : List Nat) (o : Oper) : Nat := o.after.toList.foldl (fun m e => bif Region.binds .any e then m ||| 2 ^ e.on ||| A.getD e.on 0 else m) 0
theorem foldM {f : Edge → Nat} : ∀ (es : List Edge) (m k : Nat),
    (es.foldl (fun m e => bif Region.binds .any e then m ||| f e else m) m).testBit k = true ↔ m.testBit k = true ∨ ∃ e ∈ es, Region.binds .any e = true ∧ (f e).testBit k = true
  | [], m, k => by simp
  | e :: es, m, k => by
    rw [List.foldl_cons, foldM es]
    cases hb : Region.binds .any e
    · simp [hb]
    · simp only [cond_true, Nat.testBit_or, Bool.or_eq_true, List.mem_cons, exists_eq_or_imp, hb, true_and]
      constructor
      · rintro ((h | h) | h)
        · exact .inl h
        · exact .inr (.inl h)
        · exact .inr (.inr h)
      · rintro (h | h | h)
        · exact .inl (.inl h)
        · exact .inl (.inr h)
        · exact .inr h
theorem predM_spec (o : Oper) (k : Nat) : (predM o).testBit k = true ↔ ∃ e ∈ o.after, Region.binds .any e = true ∧ e.on = k := by
  unfold predM
  rw [foldM (f := fun e => 2 ^ e.on)]
  simp [Nat.testBit_two_pow]
theorem ancM_spec (A : List Nat) (o : Oper) (k : Nat) : (ancM A o).testBit k = true ↔ ∃ e ∈ o.after, Region.binds .any e = true ∧ (e.on = k ∨ (A.getD e.on 0).testBit k = true) := by
  unfold ancM
  have := foldM (f := fun e => 2 ^ e.on ||| A.getD e.on 0) o.after.toList 0 k
  simp only [Nat.or_assoc] at *
  rw [this]
  simp [Nat.testBit_or, Nat.testBit_two_pow]

def touches (l : List Oper) (o : Oper) : List Nat :=
  (o.op.operands.toList.filterMap fun | .tmp t => some t | _ => none) ++ (match o.guard with | none => [] | some (j, _) => [((l.getD j default).dst).getD 0])

def chk (l : List Oper) (A ms : List Nat) : (dm em rm : Nat) → List Nat → Bool
  | _, _, _, [] => true
  | dm, em, rm, i :: rest =>
    match l[i]? with
    | none => false
    | some o => subM (predM o) dm && subM em (A.getD i 0) && (!Nat.beq (cls o.op) 2 || ms.contains i || subM rm (A.getD i 0)) &&
        chk l A ms (dm ||| 2 ^ i) (bif Nat.beq (cls o.op) 2 then em ||| 2 ^ i else em) (bif Nat.beq (cls o.op) 1 then rm ||| 2 ^ i else rm) rest

def isBad : Op → Bool
  | .select .. | .defer _ | .go _ => true
  | _ => false

def perOp (l : List Oper) (A : List Nat) (N i : Nat) (o : Oper) : Bool :=
  o.after.toList.all (fun e => !Region.binds .any e || Nat.blt e.on i) && subM (A.getD i 0) (ancM A o) &&
  (match o.dst with | none => true | some d => Nat.blt d N) && !isBad o.op &&
  (match o.guard with | none => true | some (j, _) => ((l[j]?).bind (·.dst)).isSome) &&
  l.zipIdx.all fun (oj, j) => Nat.beq i j || (match oj.dst with
    | none => true
    | some s => (match o.dst with | none => true | some d => !Nat.beq d s) && (!(touches l o).contains s || (A.getD i 0).testBit j || (A.getD j 0).testBit i))

def regOK (l : List Oper) (A ms ord : List Nat) (N : Nat) : Bool :=
  Nat.beq ord.length l.length && decide ord.Nodup && (List.range l.length).all (ord.contains ·) && chk l A ms 0 0 0 ord && l.zipIdx.all fun (o, i) => perOp l A N i o

def anc (A : List Nat) (i k : Nat) : Prop := (A.getD i 0).testBit k = true

structure Static (l : List Oper) (A ms ord : List Nat) (N : Nat) : Prop where
  nodup : ord.Nodup
  cover : ∀ i, i < l.length → i ∈ ord
  lt : ∀ (i : Nat) (o : Oper), l[i]? = some o → ∀ e ∈ o.after, Region.binds .any e = true → e.on < i
  anc : ∀ (i : Nat) (o : Oper), l[i]? = some o → ∀ k, anc A i k → ∃ e ∈ o.after, Region.binds .any e = true ∧ (e.on = k ∨ anc A e.on k)
  dst : ∀ (i : Nat) (o : Oper) (d : Nat), l[i]? = some o → o.dst = some d → d < N
  ok : ∀ (i : Nat) (o : Oper), l[i]? = some o → isBad o.op = false
  guard : ∀ (i : Nat) (o : Oper) (j : Nat) (b : Bool), l[i]? = some o → o.guard = some (j, b) → ∃ (oj : Oper) (s : Nat), l[j]? = some oj ∧ oj.dst = some s
  apart : ∀ (i : Nat) (o : Oper) (j : Nat) (oj : Oper) (s : Nat), l[i]? = some o → l[j]? = some oj → i ≠ j → oj.dst = some s → o.dst ≠ some s ∧ (s ∈ touches l o → Go.Mine.anc A i j ∨ Go.Mine.anc A j i)
  order : ∀ d1 i d2, ord = d1 ++ i :: d2 → ∃ o, l[i]? = some o ∧ (∀ e ∈ o.after, Region.binds .any e = true → e.on ∈ d1) ∧
    (∀ k ok, k ∈ d1 → l[k]? = some ok → cls ok.op = 2 → Go.Mine.anc A i k) ∧
    (cls o.op = 2 → ms.contains i = false → ∀ k ok, k ∈ d1 → l[k]? = some ok → cls ok.op = 1 → Go.Mine.anc A i k)

theorem chk_spec {l : List Oper} {A ms : List Nat} : ∀ (rest : List Nat) (dm em rm : Nat) (D : List Nat), chk l A ms dm em rm rest = true →
    (∀ k, dm.testBit k = true ↔ k ∈ D) → (∀ k, em.testBit k = true ↔ k ∈ D ∧ ∃ o, l[k]? = some o ∧ cls o.op = 2) → (∀ k, rm.testBit k = true ↔ k ∈ D ∧ ∃ o, l[k]? = some o ∧ cls o.op = 1) →
    ∀ d1 i d2, rest = d1 ++ i :: d2 → ∃ o, l[i]? = some o ∧ (∀ e ∈ o.after, Region.binds .any e = true → e.on ∈ D ++ d1) ∧
      (∀ k ok, k ∈ D ++ d1 → l[k]? = some ok → cls ok.op = 2 → anc A i k) ∧
      (cls o.op = 2 → ms.contains i = false → ∀ k ok, k ∈ D ++ d1 → l[k]? = some ok → cls ok.op = 1 → anc A i k) := by
  intro rest
  induction rest with
  | nil => intro _ _ _ _ _ _ _ _ d1 i d2 h; cases d1 <;> cases h
  | cons x rest ih =>
    intro dm em rm D h hd he hr d1 i d2 hs
    rw [chk] at h
    cases hx : l[x]? with
    | none => rw [hx] at h; cases h
    | some o =>
      rw [hx] at h
      simp only [Bool.and_eq_true, Bool.or_eq_true, Bool.not_eq_true'] at h
      obtain ⟨⟨⟨h1, h2⟩, h3⟩, h4⟩ := h
      cases d1 with
      | nil =>
        obtain ⟨rfl, rfl⟩ : x = i ∧ rest = d2 := by simpa using hs
        refine ⟨o, hx, fun e hm hb => ?_, fun k ok hk hok hc => ?_, fun hc hms k ok hk hok hc1 => ?_⟩
        · simpa using (hd e.on).1 (subM_spec h1 _ ((predM_spec o e.on).2 ⟨e, hm, hb, rfl⟩))
        · exact subM_spec h2 _ ((he k).2 ⟨by simpa using hk, ok, hok, hc⟩)
        · rcases h3 with (h3 | h3) | h3
          · rw [hc] at h3; cases h3
          · rw [hms] at h3; cases h3
          · exact subM_spec h3 _ ((hr k).2 ⟨by simpa using hk, ok, hok, hc1⟩)
      | cons y d1 =>
        obtain ⟨rfl, rfl⟩ : x = y ∧ rest = d1 ++ i :: d2 := by simpa using hs
        have := ih _ _ _ (D ++ [x]) h4 (fun k => by
            simp only [Nat.testBit_or, Nat.testBit_two_pow, Bool.or_eq_true, decide_eq_true_eq, List.mem_append, List.mem_singleton, hd k]
            constructor <;> rintro (h | h) <;> first | exact .inl h | exact .inr h.symm) (fun k => ?_) (fun k => ?_) d1 i d2 rfl
        · simpa [List.append_assoc] using this
        · cases hc : Nat.beq (cls o.op) 2
          · have hne : cls o.op ≠ 2 := fun e => by rw [e] at hc; cases hc
            simp only [cond_false, he k, List.mem_append, List.mem_singleton]
            constructor
            · rintro ⟨hk, r⟩; exact ⟨.inl hk, r⟩
            · rintro ⟨hk | rfl, r⟩
              · exact ⟨hk, r⟩
              · obtain ⟨o', ho', hc'⟩ := r; rw [hx] at ho'; cases ho'; exact absurd hc' hne
          · have he2 : cls o.op = 2 := Nat.eq_of_beq_eq_true hc
            simp only [cond_true, Nat.testBit_or, Nat.testBit_two_pow, Bool.or_eq_true, decide_eq_true_eq, he k, List.mem_append, List.mem_singleton]
            constructor
            · rintro (⟨hk, r⟩ | rfl)
              · exact ⟨.inl hk, r⟩
              · exact ⟨.inr rfl, o, hx, he2⟩
            · rintro ⟨hk | rfl, r⟩
              · exact .inl ⟨hk, r⟩
              · exact .inr rfl
        · cases hc : Nat.beq (cls o.op) 1
          · have hne : cls o.op ≠ 1 := fun e => by rw [e] at hc; cases hc
            simp only [cond_false, hr k, List.mem_append, List.mem_singleton]
            constructor
            · rintro ⟨hk, r⟩; exact ⟨.inl hk, r⟩
            · rintro ⟨hk | rfl, r⟩
              · exact ⟨hk, r⟩
              · obtain ⟨o', ho', hc'⟩ := r; rw [hx] at ho'; cases ho'; exact absurd hc' hne
          · have he2 : cls o.op = 1 := Nat.eq_of_beq_eq_true hc
            simp only [cond_true, Nat.testBit_or, Nat.testBit_two_pow, Bool.or_eq_true, decide_eq_true_eq, hr k, List.mem_append, List.mem_singleton]
            constructor
            · rintro (⟨hk, r⟩ | rfl)
              · exact ⟨.inl hk, r⟩
              · exact ⟨.inr rfl, o, hx, he2⟩
            · rintro ⟨hk | rfl, r⟩
              · exact .inl ⟨hk, r⟩
              · exact .inr rfl

theorem mem_zipIdx' {l : List Oper} {o : Oper} {i : Nat} (h : l[i]? = some o) : (o, i) ∈ l.zipIdx := by
  rw [List.mem_zipIdx_iff_getElem?]; exact h

theorem static_of {l : List Oper} {A ms ord : List Nat} {N : Nat} (h : regOK l A ms ord N = true) : Static l A ms ord N := by
  simp only [regOK, Bool.and_eq_true, decide_eq_true_eq] at h
  obtain ⟨⟨⟨⟨_, hnd⟩, hcov⟩, hchk⟩, hper⟩ := h
  have per : ∀ i o, l[i]? = some o → perOp l A N i o = true := fun i o hi => by
    have := List.all_eq_true.1 hper (o, i) (mem_zipIdx' hi)
    simpa using this
  refine ⟨hnd, fun i hi => ?_, fun i o hi e he hb => ?_, fun i o hi k hk => ?_, fun i o d hi hd => ?_, fun i o hi => ?_, fun i o j b hi hg => ?_, fun i o j oj s hi hj hne hs => ?_, fun d1 i d2 hsp => ?_⟩
  · have := List.all_eq_true.1 hcov i (List.mem_range.2 hi); simpa using this
  all_goals try have hp := per i o hi
  all_goals try simp only [perOp, Bool.and_eq_true] at hp
  · have := List.all_eq_true.1 hp.1.1.1.1.1 e (by simpa using he)
    simp only [hb, Bool.not_true, Bool.false_or] at this
    simpa [Nat.blt_eq] using this
  · exact (ancM_spec A o k).1 (subM_spec hp.1.1.1.1.2 k hk)
  · have := hp.1.1.1.2; rw [hd] at this; simpa [Nat.blt_eq] using this
  · simpa using hp.1.1.2
  · have := hp.1.2
    rw [hg] at this
    simp only [Option.isSome_iff_exists] at this
    obtain ⟨s, hs⟩ := this
    cases hj : l[j]? with
    | none => rw [hj] at hs; cases hs
    | some oj => rw [hj] at hs; exact ⟨oj, s, rfl, hs⟩
  · have := List.all_eq_true.1 hp.2 (oj, j) (mem_zipIdx' hj)
    simp only [hs, Bool.or_eq_true, Bool.and_eq_true] at this
    rcases this with this | ⟨h1, h2⟩
    · exact absurd (Nat.eq_of_beq_eq_true this) hne
    · refine ⟨fun hd => ?_, fun hm => ?_⟩
      · rw [hd] at h1; simp at h1
      · rcases h2 with (h2 | h2) | h2
        · simp [hm] at h2
        · exact .inl h2
        · exact .inr h2
  · have := chk_spec ord 0 0 0 [] hchk (by simp) (by simp) (by simp) d1 i d2 hsp
    simpa using this
end Go.Mine

namespace Go.Mine
open Go.RowKit

section
variable {l : List Oper} {A ms ord : List Nat} {N : Nat}

theorem anc_prefix (S : Static l A ms ord N) : ∀ (i : Nat) (d1 d2 : List Nat) (k : Nat), ord = d1 ++ i :: d2 → anc A i k → k ∈ d1 := by
  intro i
  induction i using Nat.strongRecOn with
  | _ i ih =>
    intro d1 d2 k hs hk
    obtain ⟨o, ho, hp, _⟩ := S.order d1 i d2 hs
    obtain ⟨e, he, hb, h⟩ := S.anc i o ho k hk
    have hmem := hp e he hb
    rcases h with h | h
    · exact h ▸ hmem
    · obtain ⟨x, y, hxy⟩ := List.append_of_mem hmem
      have := ih e.on (S.lt i o ho e he hb) x (y ++ i :: d2) k (by rw [hs, hxy]; simp) h
      rw [hxy]; exact List.mem_append_left _ this

/-- a set of operations that holds all that its members wait for -/
def Closed (l : List Oper) (L : Nat → Prop) : Prop := ∀ i o, L i → l[i]? = some o → ∀ e ∈ o.after, Region.binds .any e = true → L e.on

theorem anc_of_preds (S : Static l A ms ord N) {L : Nat → Prop} (hc : Closed l L) : ∀ (i : Nat) (o : Oper), l[i]? = some o → (∀ e ∈ o.after, Region.binds .any e = true → L e.on) → ∀ k, anc A i k → L k := by
  intro i
  induction i using Nat.strongRecOn with
  | _ i ih =>
    intro o ho hp k hk
    obtain ⟨e, he, hb, h⟩ := S.anc i o ho k hk
    have hL := hp e he hb
    rcases h with h | h
    · exact h ▸ hL
    · cases hoe : l[e.on]? with
      | none =>
        exfalso
        have h1 := S.lt i o ho e he hb
        have h2 : i < l.length := (List.getElem?_eq_some_iff.1 ho).1
        rw [List.getElem?_eq_none_iff] at hoe
        omega
      | some oe => exact ih e.on (S.lt i o ho e he hb) oe hoe (hc e.on oe hL hoe) k h

/-- the frame 'a' is 'a0' with the values of the operations of 'D' in their temporaries -/
structure FrameIs (l : List Oper) (N : Nat) (a0 : Act) (val : Nat → Value) (D : Nat → Prop) (a : Act) : Prop where
  defers : a.defers = a0.defers
  size : a.tmps.size = N
  hit : ∀ i o s, l[i]? = some o → o.dst = some s → D i → a.tmps[s]? = some (val i)
  miss : ∀ s, (∀ i o, l[i]? = some o → o.dst = some s → ¬ D i) → a.tmps[s]? = a0.tmps[s]?

theorem FrameIs.congr {a0 a : Act} {val val' : Nat → Value} {D D' : Nat → Prop} (h : FrameIs l N a0 val D a) (hD : ∀ i, D i ↔ D' i) (hv : ∀ i, D i → val' i = val i) : FrameIs l N a0 val' D' a :=
  ⟨h.defers, h.size, fun i o s hi hs hd => by rw [hv i ((hD i).2 hd)]; exact h.hit i o s hi hs ((hD i).2 hd), fun s hn => h.miss s fun i o hi hs hd => hn i o hi hs ((hD i).1 hd)⟩

theorem FrameIs.put (S : Static l A ms ord N) {a0 a : Act} {val : Nat → Value} {D : Nat → Prop} (h : FrameIs l N a0 val D a) {i : Nat} {o : Oper} (hi : l[i]? = some o) (v : Value) (hn : ¬ D i) :
    FrameIs l N a0 (fun k => if k = i then v else val k) (fun k => D k ∨ k = i) (a.put o.dst v) := by
  have hv : ∀ k, D k → (if k = i then v else val k) = val k := fun k hk => if_neg (by rintro rfl; exact hn hk)
  cases hd : o.dst with
  | none =>
    refine ⟨h.defers, h.size, fun k ok s hk hs hD => ?_, fun s hm => h.miss s fun k ok hk hs hD => hm k ok hk hs (.inl hD)⟩
    rcases hD with hD | rfl
    · show a.tmps[s]? = _
      simp only [hv k hD]; exact h.hit k ok s hk hs hD
    · rw [hi] at hk; cases hk; rw [hd] at hs; cases hs
  | some d =>
    have hlt := S.dst i o d hi hd
    refine ⟨h.defers, by simp [Act.put, h.size], fun k ok s hk hs hD => ?_, fun s hm => ?_⟩
    · simp only [Act.put]
      by_cases e : k = i
      · subst e
        rw [hi] at hk; cases hk
        rw [hd] at hs; cases hs
        rw [Array.getElem?_setIfInBounds_self_of_lt (by rw [h.size]; exact hlt)]
        simp
      · have hD' : D k := hD.resolve_right e
        have hne : d ≠ s := fun e' => (S.apart k ok i o d hk hi e hd).1 (e' ▸ hs)
        rw [Array.getElem?_setIfInBounds_ne hne]
        simp only [hv k hD']; exact h.hit k ok s hk hs hD'
    · have hne : d ≠ s := fun e' => hm i o hi (e' ▸ hd) (.inr rfl)
      simp only [Act.put]
      rw [Array.getElem?_setIfInBounds_ne hne]
      exact h.miss s fun k ok hk hs hD => hm k ok hk hs (.inl hD)

/-- two frames agree on all that operation i looks at -/
theorem agree (S : Static l A ms ord N) {a0 a c : Act} {val : Nat → Value} {L : Nat → Prop} (hc : Closed l L) {d1 d2 : List Nat} {i : Nat} (hsp : ord = d1 ++ i :: d2) {o : Oper} (hi : l[i]? = some o)
    (ha : FrameIs l N a0 val L a) (hcf : FrameIs l N a0 val (· ∈ d1) c) (hL : ¬ L i) (hp : ∀ e ∈ o.after, Region.binds .any e = true → L e.on) :
    ∀ s ∈ touches l o, a.tmps[s]? = c.tmps[s]? := by
  intro s hs
  have hnd := S.nodup
  rw [hsp] at hnd
  have hid : i ∉ d1 := fun h => by
    rw [List.nodup_append] at hnd
    exact hnd.2.2 i h i (by simp) rfl
  by_cases hw : ∃ j oj, l[j]? = some oj ∧ oj.dst = some s ∧ j ≠ i
  · obtain ⟨j, oj, hj, hjs, hne⟩ := hw
    -- no other writes s
    have only : ∀ k ok, l[k]? = some ok → ok.dst = some s → k = j := fun k ok hk hks => by
      by_cases e : k = j
      · exact e
      · exact absurd hks (S.apart k ok j oj s hk hj e hjs).1
    rcases (S.apart i o j oj s hi hj (Ne.symm hne) hjs).2 hs with h | h
    · have h1 : L j := anc_of_preds S hc i o hi hp j h
      have h2 : j ∈ d1 := anc_prefix S i d1 d2 j hsp h
      rw [ha.hit j oj s hj hjs h1, hcf.hit j oj s hj hjs h2]
    · have h1 : ¬ L j := fun hLj => hL (anc_of_preds S hc j oj hj (hc j oj hLj hj) i h)
      have h2 : j ∉ d1 := fun hj1 => by
        obtain ⟨x, y, hxy⟩ := List.append_of_mem hj1
        have := anc_prefix S j x (y ++ i :: d2) i (by rw [hsp, hxy]; simp) h
        exact hid (by rw [hxy]; exact List.mem_append_left _ this)
      rw [ha.miss s fun k ok hk hks => (only k ok hk hks) ▸ h1, hcf.miss s fun k ok hk hks => (only k ok hk hks) ▸ h2]
  · have hno : ∀ k ok, l[k]? = some ok → ok.dst = some s → k = i := fun k ok hk hks => by
      by_cases e : k = i
      · exact e
      · exact absurd ⟨k, ok, hk, hks, e⟩ hw
    rw [ha.miss s fun k ok hk hks => (hno k ok hk hks) ▸ hL, hcf.miss s fun k ok hk hks => (hno k ok hk hks) ▸ hid]

theorem getD_of {l : List Oper} {i : Nat} {o : Oper} (h : l[i]? = some o) : l.getD i default = o := by simp [h]

theorem exec_same {o : Oper} (hb : isBad o.op = false) {a c : Act} {m : Bool} (h : ∀ s ∈ touches l o, a.tmps[s]? = c.tmps[s]?) : execOp a.eval o = execOp c.eval (mkQ l m o).oper := by
  have : execOp c.eval (mkQ l m o).oper = execOp c.eval o := rfl
  rw [this]
  refine execOp_congr o (fun cs b e => by rw [e] at hb; cases hb) fun x hx => ?_
  cases x with
  | tmp t =>
    have := h t (List.mem_append_left _ (List.mem_filterMap.2 ⟨.tmp t, by simpa using hx, rfl⟩))
    simp [Act.eval, this]
  | _ => rfl

theorem wanted_same (S : Static l A ms ord N) {i : Nat} {o : Oper} (hi : l[i]? = some o) {a c : Act} {m : Bool} (h : ∀ s ∈ touches l o, a.tmps[s]? = c.tmps[s]?) :
    Region.wanted o (yielded l.toArray a.tmps) = (mkQ l m o).wanted c := by
  unfold Region.wanted QOp.wanted mkQ
  cases hg : o.guard with
  | none => rfl
  | some p =>
    obtain ⟨j, b⟩ := p
    obtain ⟨oj, s, hj, hs⟩ := S.guard i o j b hi hg
    have ht := h s (List.mem_append_right _ (by rw [hg]; simp [hj, hs]))
    have : yielded l.toArray a.tmps j = boolOf c.tmps[s]? := by
      unfold yielded
      simp only [List.getElem?_toArray, hj, Option.bind_some, hs, ht]
      cases c.tmps[s]? with
      | none => rfl
      | some v => cases v <;> rfl
    simp only [this, getD_of hj, hs, Option.getD_some]

/-- what is known between two operations of a real order -/
structure Inv (P : Program) (X : Nat → Prop) (l : List Oper) (ms ord : List Nat) (N : Nat) (K : Act → World → Prop) (a0 : Act) (L : Nat → Prop) (a : Act) (w : World) (done rest : List Nat) (val : Nat → Value) (av : Act) : Prop where
  split : ord = done ++ rest
  sub : ∀ i, L i → i ∈ done
  closed : Closed l L
  effs : ∀ i o, i ∈ done → l[i]? = some o → cls o.op = 2 → L i
  seq : seqW P X K (compile l ms rest) av w
  fa : FrameIs l N a0 val L a
  fv : FrameIs l N a0 val (· ∈ done) av
  quiet : ∀ d1 i d2, done = d1 ++ i :: d2 → ¬ L i → ∃ o c, l[i]? = some o ∧ FrameIs l N a0 val (· ∈ d1) c ∧
    (((mkQ l (ms.contains i) o).wanted c = true ∧ ((cls o.op = 0 ∧ ∀ w', (execOp c.eval o).run P w' = .ok (.value (val i)) w') ∨ (cls o.op = 1 ∧ ∀ w', RelX X w w' → (execOp c.eval o).run P w' = .ok (.value (val i)) w'))) ∨
     ((mkQ l (ms.contains i) o).wanted c = false ∧ val i = undef))

def headEff (l : List Oper) : List Nat → Prop
  | [] => True
  | i :: _ => ∃ o, l[i]? = some o ∧ cls o.op = 2

theorem cls_lt (o : Op) : cls o = 0 ∨ cls o = 1 ∨ cls o = 2 := by
  unfold cls; repeat' split
  all_goals simp

/-- the canonical order goes on to the next operation that may change the world -/
theorem advance (S : Static l A ms ord N) {P : Program} {X : Nat → Prop} {K : Act → World → Prop} {a0 a : Act} {L : Nat → Prop} {w : World} : ∀ (rest done : List Nat) (val : Nat → Value) (av : Act), Inv P X l ms ord N K a0 L a w done rest val av →
    ∃ done' rest' val' av', Inv P X l ms ord N K a0 L a w done' rest' val' av' ∧ headEff l rest' := by
  intro rest
  induction rest with
  | nil => exact fun done val av h => ⟨done, [], val, av, h, trivial⟩
  | cons i rest ih =>
    intro done val av h
    obtain ⟨o, ho, hpre, _, _⟩ := S.order done i rest h.split
    rcases Nat.decEq (cls o.op) 2 with hne | heq
    case isTrue => exact ⟨done, i :: rest, val, av, h, o, ho, heq⟩
    have hnd := S.nodup
    rw [h.split, List.nodup_append] at hnd
    have hid : i ∉ done := fun hm => hnd.2.2 i hm i (by simp) rfl
    have hLi : ¬ L i := fun hL => hid (h.sub i hL)
    have hseq := h.seq
    -- one quiet operation, with its value
    have step : ∀ v, seqW P X K (compile l ms rest) (av.put o.dst v) w →
        (((mkQ l (ms.contains i) o).wanted av = true ∧ ((cls o.op = 0 ∧ ∀ w', (execOp av.eval o).run P w' = .ok (.value v) w') ∨ (cls o.op = 1 ∧ ∀ w', RelX X w w' → (execOp av.eval o).run P w' = .ok (.value v) w'))) ∨
         ((mkQ l (ms.contains i) o).wanted av = false ∧ v = undef)) →
        ∃ done' rest' val' av', Inv P X l ms ord N K a0 L a w done' rest' val' av' ∧ headEff l rest' := by
      intro v hs hv
      have hvn : ∀ k, k ∈ done → (if k = i then v else val k) = val k := fun k hk => if_neg (by rintro rfl; exact hid hk)
      refine ih (done ++ [i]) (fun k => if k = i then v else val k) (av.put o.dst v) ⟨by rw [h.split]; simp, fun k hk => List.mem_append_left _ (h.sub k hk), h.closed, fun k ok hk hok hc => ?_, hs, ?_, ?_, ?_⟩
      · rcases List.mem_append.1 hk with hk | hk
        · exact h.effs k ok hk hok hc
        · have : k = i := by simpa using hk
          subst this; rw [ho] at hok; cases hok; exact absurd hc hne
      · exact h.fa.congr (fun _ => Iff.rfl) fun k hk => hvn k (h.sub k hk)
      · exact (h.fv.put S ho v hid).congr (fun k => by simp) fun _ _ => rfl
      · intro d1 k d2 hk hLk
        rcases List.append_eq_append_iff.1 hk.symm with ⟨as, h1, h2⟩ | ⟨bs, h1, h2⟩
        · -- d1 ++ as = done
          cases as with
          | nil =>
            obtain ⟨rfl, rfl⟩ : k = i ∧ d2 = [] := by simpa using h2
            have hd : d1 = done := by simpa using h1.symm
            subst hd
            exact ⟨o, av, ho, h.fv.congr (fun _ => Iff.rfl) hvn, by simpa using hv⟩
          | cons x as =>
            obtain ⟨rfl, rfl⟩ : k = x ∧ d2 = as ++ [i] := by simpa using h2
            obtain ⟨o', c, ho', hfc, hq⟩ := h.quiet d1 k as h1 hLk
            have hkm : k ∈ done := by rw [h1]; simp
            refine ⟨o', c, ho', hfc.congr (fun _ => Iff.rfl) fun m hm => hvn m (by rw [h1]; exact List.mem_append_left _ hm), ?_⟩
            simp only [hvn k hkm]; exact hq
        · cases bs with
          | nil =>
            obtain ⟨rfl, rfl⟩ : k = i ∧ d2 = [] := by simpa [eq_comm] using h2
            have hd : d1 = done := by simpa using h1
            subst hd
            exact ⟨o, av, ho, h.fv.congr (fun _ => Iff.rfl) hvn, by simpa using hv⟩
          | cons x bs =>
            have := congrArg List.length h2
            simp at this
    simp only [compile, List.map_cons, seqW, getD_of ho] at hseq
    split at hseq
    · rename_i hw
      split at hseq
      · rename_i hc
        obtain ⟨v, hv, hs⟩ := hseq
        exact step v hs (.inl ⟨hw, .inl ⟨hc, hv⟩⟩)
      · split at hseq
        · rename_i hc
          obtain ⟨v, hv, hs⟩ := hseq
          exact step v hs (.inl ⟨hw, .inr ⟨hc, hv⟩⟩)
        · rename_i h0 h1
          rcases cls_lt o.op with h | h | h
          · exact absurd h h0
          · exact absurd h h1
          · exact absurd h hne
    · rename_i hw
      exact step undef hseq (.inr ⟨by simpa using hw, rfl⟩)

theorem first_not {L : Nat → Prop} : ∀ (ord : List Nat), (∃ k ∈ ord, ¬ L k) → ∃ d1 i d2, ord = d1 ++ i :: d2 ∧ (∀ k ∈ d1, L k) ∧ ¬ L i
  | [], h => by obtain ⟨k, hk, _⟩ := h; cases hk
  | x :: ord, h => by
    by_cases hx : L x
    · obtain ⟨k, hk, hn⟩ := h
      have : k ∈ ord := by
        rcases List.mem_cons.1 hk with rfl | hk
        · exact absurd hx hn
        · exact hk
      obtain ⟨d1, i, d2, h1, h2, h3⟩ := first_not ord ⟨k, this, hn⟩
      exact ⟨x :: d1, i, d2, by rw [h1]; rfl, fun k hk => (List.mem_cons.1 hk).elim (fun e => e ▸ hx) (h2 k), h3⟩
    · exact ⟨[], x, ord, rfl, by simp, hx⟩

theorem wp_transfer {P : Program} {o : Oper} {q : QOp} {a c : Act} {w : World} {K : Value → World → Prop} {Q : Exit → Act → World → Prop} (he : execOp a.eval o = execOp c.eval q.oper)
    (h : q.oper.wp P c w (fun a' w' => ∃ v, a' = c.put q.dst v ∧ K v w') (fun _ _ _ => False)) : o.wp P a w (fun a' w' => ∃ u, a' = a.put o.dst u ∧ ∃ v, c.put q.dst u = c.put q.dst v ∧ K v w') Q := by
  unfold Oper.wp at *
  rw [he]
  generalize (execOp c.eval q.oper).run P w = r at *
  cases r with
  | ok n w' =>
    cases n <;> simp only [Oper.upon] at h ⊢
    case value u => obtain ⟨v, hv, hk⟩ := h; exact ⟨u, rfl, v, hv, hk⟩
    case skip => obtain ⟨v, hv, hk⟩ := h; exact ⟨undef, rfl, v, hv, hk⟩
    case defer d =>
      obtain ⟨v, hv, hk⟩ := h
      exfalso
      have := congrArg Act.defers hv
      cases hqd : q.dst <;> simp [Act.put, QOp.oper, hqd] at this
    case enter f args =>
      refine Calls.mono h fun e w'' h' => ?_
      cases e with
      | returned u => obtain ⟨v, hv, hk⟩ := h'; exact ⟨u, rfl, v, hv, hk⟩
      | panicked ch => exact h'.elim
      | outgrown => obtain ⟨_, _, hf⟩ := h'; exact hf.elim
    case row row args =>
      refine Rows.mono h fun u w'' h' => ?_
      obtain ⟨v, hv, hk⟩ := h'; exact ⟨u, rfl, v, hv, hk⟩
  | halt x w' => cases x <;> simp only [Oper.upon] at h

/-- all have come up: the real frame is the canonical one -/
theorem Inv.all (S : Static l A ms ord N) {P : Program} {X : Nat → Prop} {K : Act → World → Prop} {a0 a av : Act} {L : Nat → Prop} {w : World} {done rest : List Nat} {val : Nat → Value} (I : Inv P X l ms ord N K a0 L a w done rest val av)
    (hall : ∀ i, i < l.length → L i) : K a w := by
  have hlt : ∀ i ∈ ord, i < l.length := fun i hi => by
    obtain ⟨x, y, hxy⟩ := List.append_of_mem hi
    obtain ⟨o, ho, _⟩ := S.order x i y hxy
    exact (List.getElem?_eq_some_iff.1 ho).1
  have hrest : rest = [] := by
    cases rest with
    | nil => rfl
    | cons i rest =>
      exfalso
      have hnd := S.nodup
      rw [I.split, List.nodup_append] at hnd
      exact hnd.2.2 i (I.sub i (hall i (hlt i (by rw [I.split]; simp)))) i (by simp) rfl
  subst hrest
  have hK : K av w := I.seq
  have ht : a.tmps = av.tmps := by
    refine Array.ext_getElem? fun s => ?_
    by_cases hw : ∃ (j : Nat) (oj : Oper), l[j]? = some oj ∧ oj.dst = some s
    · obtain ⟨j, oj, hj, hjs⟩ := hw
      have hL := hall j (List.getElem?_eq_some_iff.1 hj).1
      rw [I.fa.hit j oj s hj hjs hL, I.fv.hit j oj s hj hjs (I.sub j hL)]
    · rw [I.fa.miss s fun k ok hk hks => absurd ⟨k, ok, hk, hks⟩ hw, I.fv.miss s fun k ok hk hks => absurd ⟨k, ok, hk, hks⟩ hw]
  have hd : a.defers = av.defers := I.fa.defers.trans I.fv.defers.symm
  obtain ⟨t, d⟩ := a
  obtain ⟨t', d'⟩ := av
  simp only at ht hd
  subst ht; subst hd
  exact hK

theorem region_any (S : Static l A ms ord N) {P : Program} {X : Nat → Prop} {K : Act → World → Prop} {Q : Exit → Act → World → Prop} (hQ : ∀ a w, K a w → Q .normal a w) {a0 : Act} :
    ∀ (fuel : Nat) (listed : Array Bool) (a : Act) (w : World) (U : List Nat), listed.size = l.length → U.Nodup → (∀ i, i ∈ U ↔ i < l.length ∧ listed.getD i false = false) → U.length ≤ fuel →
      (∃ done rest val av, Inv P X l ms ord N K a0 (fun i => listed.getD i false = true) a w done rest val av ∧ headEff l rest) → wpAny P .any l.toArray Q fuel listed a w := by
  intro fuel
  induction fuel with
  | zero =>
    intro listed a w U hsz hnd hU hlen hI
    obtain ⟨done, rest, val, av, I, _⟩ := hI
    have hU0 : U = [] := List.length_eq_zero_iff.1 (by omega)
    have hall : ∀ i, i < l.length → listed.getD i false = true := fun i hi => by
      cases h : listed.getD i false
      · have := (hU i).2 ⟨hi, h⟩; rw [hU0] at this; cases this
      · rfl
    refine ⟨?_, hQ _ _ (I.all S hall)⟩
    refine List.eq_nil_iff_forall_not_mem.2 fun i hi => ?_
    rw [mem_ready] at hi
    obtain ⟨h0, o, ho, _⟩ := hi
    have hlt : i < l.length := by
      have := (Array.getElem?_eq_some_iff.1 ho).1; simpa using this
    have h1 := hall i hlt
    have : i < listed.size := by omega
    simp [Array.getD, this] at h0 h1
    rw [h0] at h1; cases h1
  | succ fuel ih =>
    intro listed a w U hsz hnd hU hlen hI
    obtain ⟨done, rest, val, av, I, hh⟩ := hI
    have hgd : ∀ i, i < l.length → listed.getD i true = listed.getD i false := fun i hi => by
      have : i < listed.size := by omega
      simp [Array.getD, this]
    refine ⟨fun hr => hQ _ _ (I.all S fun i hi => ?_), fun i hi => ?_⟩
    · by_cases hn : ∃ k ∈ ord, ¬ listed.getD k false = true
      · exfalso
        obtain ⟨d1, j, d2, hsp, hd1, hj⟩ := first_not ord hn
        obtain ⟨o, ho, hpre, _⟩ := S.order d1 j d2 hsp
        have hjl : j < l.length := (List.getElem?_eq_some_iff.1 ho).1
        have : j ∈ Region.ready .any l.toArray listed := by
          rw [mem_ready]
          exact ⟨by rw [hgd j hjl]; simpa using hj, o, by simpa using ho, fun e he hb => hd1 _ (hpre e he hb)⟩
        rw [hr] at this; cases this
      · cases h : listed.getD i false
        · exact absurd ⟨i, S.cover i hi, by rw [h]; simp⟩ hn
        · rfl
    · rw [mem_ready] at hi
      obtain ⟨h0, o, ho', hpre⟩ := hi
      have ho : l[i]? = some o := by simpa using ho'
      have hil : i < l.length := (List.getElem?_eq_some_iff.1 ho).1
      have hLi : ¬ listed.getD i false = true := by rw [← hgd i hil, h0]; simp
      have hset : ∀ k, (listed.setIfInBounds i true).getD k false = true ↔ listed.getD k false = true ∨ k = i := fun k => by
        by_cases e : i = k
        · subst e
          have : i < listed.size := by omega
          simp [this]
        · have e' : k ≠ i := fun h => e h.symm
          simp [Array.getElem?_setIfInBounds_ne e, e']
      -- the rest of the way, whatever the step gave
      have next : ∀ (a1 : Act) (w1 : World), (∃ done rest val av, Inv P X l ms ord N K a0 (fun k => listed.getD k false = true ∨ k = i) a1 w1 done rest val av ∧ headEff l rest) →
          wpAny P .any l.toArray Q fuel (listed.setIfInBounds i true) a1 w1 := by
        intro a1 w1 hI1
        have himU : i ∈ U := (hU i).2 ⟨hil, by simpa using hLi⟩
        refine ih _ a1 w1 (U.erase i) (by simpa using hsz) (hnd.erase i) (fun k => ?_) (by rw [List.length_erase_of_mem himU]; omega) ?_
        · rw [hnd.mem_erase_iff, hU k]
          have := hset k
          cases hk : (listed.setIfInBounds i true).getD k false <;> cases hk' : listed.getD k false <;> simp_all
        · obtain ⟨d, r, v, b, hI2, hh2⟩ := hI1
          have hfun : (fun k => (listed.setIfInBounds i true).getD k false = true) = (fun k => listed.getD k false = true ∨ k = i) := funext fun k => propext (hset k)
          rw [hfun]
          exact ⟨d, r, v, b, hI2, hh2⟩
      have hclosed' : Closed l (fun k => listed.getD k false = true ∨ k = i) := by
        rintro k ok (hk | rfl) hok e he hb
        · exact .inl (I.closed k ok hk hok e he hb)
        · rw [ho] at hok; cases hok; exact .inl (hpre e he hb)
      unfold wpOp
      rw [ho']
      by_cases hid : i ∈ done
      · -- a quiet operation that the canonical order has already carried out
        obtain ⟨d1, d2, hsp⟩ := List.append_of_mem hid
        obtain ⟨o1, c, ho1, hfc, hq⟩ := I.quiet d1 i d2 hsp hLi
        rw [ho] at ho1; cases ho1
        have hag := agree S I.closed (by rw [I.split, hsp]; simp : ord = d1 ++ i :: (d2 ++ rest)) ho I.fa hfc hLi hpre
        have hws := wanted_same S (m := ms.contains i) ho hag
        have hex := exec_same (m := ms.contains i) (S.ok i o ho) hag
        have hput : FrameIs l N a0 val (fun k => listed.getD k false = true ∨ k = i) (a.put o.dst (val i)) :=
          (I.fa.put S ho (val i) hLi).congr (fun _ => Iff.rfl) fun k _ => by by_cases e : k = i <;> simp [e]
        have done' : Inv P X l ms ord N K a0 (fun k => listed.getD k false = true ∨ k = i) (a.put o.dst (val i)) w done rest val av :=
          ⟨I.split, fun k hk => hk.elim (I.sub k) (fun e => e ▸ hid), hclosed', fun k ok hk hok hc => .inl (I.effs k ok hk hok hc), I.seq, hput, I.fv, fun x k y hk hn => I.quiet x k y hk fun h => hn (.inl h)⟩
        simp only
        rcases hq with ⟨hw, hrun⟩ | ⟨hw, hv⟩
        · rw [if_pos (hws.trans hw)]
          refine .inl ?_
          have hr : (execOp a.eval o).run P w = .ok (.value (val i)) w := by
            rw [hex]
            rcases hrun with ⟨_, hrun⟩ | ⟨_, hrun⟩
            · exact hrun w
            · exact hrun w (RelX.refl _ _)
          unfold Oper.wp
          rw [hr]
          exact next _ _ ⟨done, rest, val, av, done', hh⟩
        · rw [if_neg (by rw [hws, hw]; simp), ← hv]
          exact next _ _ ⟨done, rest, val, av, done', hh⟩
      · -- the next one that may change the world
        have hir : i ∈ rest := by
          have := S.cover i hil
          rw [I.split] at this
          exact (List.mem_append.1 this).resolve_left hid
        cases rest with
        | nil => cases hir
        | cons j rest =>
          obtain ⟨oj, hoj, hcj⟩ := hh
          have hji : j = i := by
            by_cases e : i = j
            · exact e.symm
            · exfalso
              have him : i ∈ rest := (List.mem_cons.1 hir).resolve_left e
              obtain ⟨x, y, hxy⟩ := List.append_of_mem him
              obtain ⟨o2, ho2, _, heff, _⟩ := S.order (done ++ j :: x) i y (by rw [I.split, hxy]; simp)
              have hanc := heff j oj (by simp) hoj hcj
              have hLj := anc_of_preds S I.closed i o ho hpre j hanc
              have hjd := I.sub j hLj
              have hnd := S.nodup
              rw [I.split, List.nodup_append] at hnd
              exact hnd.2.2 j hjd j (by simp) rfl
          subst hji
          rw [ho] at hoj; cases hoj
          have hag := agree S I.closed I.split ho I.fa I.fv hLi hpre
          have hws := wanted_same S (m := ms.contains j) ho hag
          have hex := exec_same (m := ms.contains j) (S.ok j o ho) hag
          have hseq := I.seq
          simp only [compile, List.map_cons, seqW, getD_of ho] at hseq
          -- the new state, if the world has gone on to w1
          have fin : ∀ u w1, seqW P X K (compile l ms rest) (av.put o.dst u) w1 → (ms.contains j = true → RelX X w w1) →
              wpAny P .any l.toArray Q fuel (listed.setIfInBounds j true) (a.put o.dst u) w1 := by
            intro u w1 hs hB
            refine next _ _ (advance S rest (done ++ [j]) (fun k => if k = j then u else val k) (av.put o.dst u) ⟨by rw [I.split]; simp, ?_, hclosed', ?_, hs, ?_, ?_, ?_⟩)
            · rintro k (hk | rfl)
              · exact List.mem_append_left _ (I.sub k hk)
              · simp
            · intro k ok hk hok hc
              rcases List.mem_append.1 hk with hk | hk
              · exact .inl (I.effs k ok hk hok hc)
              · exact .inr (by simpa using hk)
            · exact I.fa.put S ho u hLi
            · exact (I.fv.put S ho u hid).congr (fun k => by simp) fun _ _ => rfl
            · intro d1 k d2 hk hn
              have hkj : k ≠ j := fun e => hn (.inr e)
              have hLk : ¬ listed.getD k false = true := fun h => hn (.inl h)
              -- k lies in done
              have hkd : ∃ as, done = d1 ++ k :: as := by
                rcases List.append_eq_append_iff.1 hk.symm with ⟨as, h1, h2⟩ | ⟨bs, h1, h2⟩
                · cases as with
                  | nil => exact absurd (by simpa using h2 : k = j ∧ d2 = []).1 hkj
                  | cons x as =>
                    obtain ⟨rfl, _⟩ : k = x ∧ d2 = as ++ [j] := by simpa using h2
                    exact ⟨as, h1⟩
                · cases bs with
                  | nil => exact absurd (by simpa [eq_comm] using h2 : k = j ∧ d2 = []).1 hkj
                  | cons x bs => have := congrArg List.length h2; simp at this
              obtain ⟨as, has⟩ := hkd
              obtain ⟨o', c, ho', hfc, hq⟩ := I.quiet d1 k as has hLk
              have hvn : ∀ m, m ∈ done → (if m = j then u else val m) = val m := fun m hm => if_neg (by rintro rfl; exact hid hm)
              have hkm : k ∈ done := by rw [has]; simp
              refine ⟨o', c, ho', hfc.congr (fun _ => Iff.rfl) fun m hm => hvn m (by rw [has]; exact List.mem_append_left _ hm), ?_⟩
              simp only [hvn k hkm]
              rcases hq with ⟨hw, ⟨hc, hrun⟩ | ⟨hc, hrun⟩⟩ | hq
              · exact .inl ⟨hw, .inl ⟨hc, hrun⟩⟩
              · refine .inl ⟨hw, .inr ⟨hc, fun w' hB' => hrun w' ?_⟩⟩
                have hms : ms.contains j = true := by
                  cases h : ms.contains j
                  · exfalso
                    obtain ⟨o2, ho2, _, _, hmono⟩ := S.order done j rest I.split
                    rw [ho] at ho2; cases ho2
                    have := hmono hcj h k o' hkm ho' hc
                    exact hLk (anc_of_preds S I.closed j o ho hpre k this)
                  · rfl
                have hB := hB hms
                exact hB.trans hB'
              · exact .inr hq
          simp only
          split at hseq
          · rename_i hw
            rw [if_pos (hws.trans hw)]
            refine .inl ?_
            have h0 : ¬ cls (mkQ l (ms.contains j) o).op = 0 := by show ¬ cls o.op = 0; omega
            have h1 : ¬ cls (mkQ l (ms.contains j) o).op = 1 := by show ¬ cls o.op = 1; omega
            rw [if_neg h0, if_neg h1] at hseq
            refine Oper.wp_mono (fun a1 w1 h => ?_) (wp_transfer (Q := Q) hex hseq)
            obtain ⟨u, rfl, v, huv, hB, hs⟩ := h
            refine fin u w1 ?_ hB
            have huv' : av.put o.dst u = av.put o.dst v := huv
            rw [huv']; exact hs
          · rename_i hw
            rw [if_neg (by rw [hws]; exact hw)]
            exact fin undef w hseq fun _ => RelX.refl _ _
end
end Go.Mine

namespace Go.Mine
open Go.RowKit

def eseq (P : Program) (N : Fr) (X : Nat → Prop) (K : Env → World → Prop) (qs : List QOp) (E : Env) (w : World) : Prop :=
  ∀ d a, Has a N E → seqW P X (fun a' w' => ∃ E' w0 d', w' = w0.atd d' ∧ Has a' N E' ∧ K E' w0) qs a (w.atd d)

def guardsOK (l : List Oper) : Bool := l.all fun o => match o.guard with | none => true | some (j, _) => ((l[j]?).bind (·.dst)).isSome

section
variable {P : Program} {N : Fr} {X : Nat → Prop} {Q : EPost} {K : Env → World → Prop} {E : Env} {w : World}

theorem eseq_nil (h : K E w) : eseq P N X K [] E w := fun d _ ha => ⟨E, w, d, rfl, ha, h⟩

/-- a region that draws its order, in one canonical order -/
theorem e_region_draw {id : Nat} {l : List Oper} (hm : P.follows .mixedOrders = true) (X : Nat → Prop) (A ms ord : List Nat) (hok : regOK l A ms ord N.n = true)
    (h : eseq P N X (Q .normal) (compile l ms ord) E w) : ewp P N (.region id l.toArray true) Q E w := by
  intro d a ha
  have S := static_of hok
  refine wp_region_any hm ?_
  refine region_any (X := X) S (K := fun a' w' => ∃ E' w0 d', w' = w0.atd d' ∧ Has a' N E' ∧ Q .normal E' w0) (fun a' w' ⟨E', w0, d', hw, hE, hQ⟩ => ⟨E', w0, d', hw, hE, hQ⟩) (a0 := a) _ _ _ _ (List.range l.length) (by simp) List.nodup_range (fun i => ?_) (by simp) ?_
  · by_cases h : i < l.length <;> simp [Array.getD, h]
  · have hl : ∀ i, ¬ (Array.replicate l.toArray.size false).getD i false = true := fun i => by
      by_cases h : i < l.length <;> simp [Array.getD, h]
    refine advance S ord [] (fun _ => undef) a ⟨rfl, fun i hi => absurd hi (hl i), fun i o hi => absurd hi (hl i), fun i o hi => (by cases hi), h (d + 1) a ha, ?_, ?_, fun d1 i d2 hd => (by cases d1 <;> cases hd)⟩
    · exact ⟨rfl, ha.size, fun i o s _ _ hi => absurd hi (hl i), fun _ _ => rfl⟩
    · exact ⟨rfl, ha.size, fun i o s _ _ hi => (by cases hi), fun _ _ => rfl⟩

theorem wpList_of_seq {l : List Oper} (hg : guardsOK l = true) {Q : Exit → Act → World → Prop} {K : Act → World → Prop} (hQ : ∀ a w, K a w → Q .normal a w) : ∀ (r : List Oper) (a : Act) (w : World), (∀ o ∈ r, o ∈ l) →
    seqW P X K (r.map (mkQ l false)) a w → wpList P l.toArray Q r a w := by
  intro r
  induction r with
  | nil => exact fun a w _ h => hQ _ _ h
  | cons o r ih =>
    intro a w hm h
    have hr : ∀ o' ∈ r, o' ∈ l := fun o' ho' => hm o' (List.mem_cons_of_mem _ ho')
    have hw : Region.wanted o (yielded l.toArray a.tmps) = (mkQ l false o).wanted a := by
      unfold Region.wanted QOp.wanted mkQ
      cases hgd : o.guard with
      | none => rfl
      | some p =>
        obtain ⟨j, b⟩ := p
        have := List.all_eq_true.1 hg o (hm o (by simp))
        rw [hgd] at this
        obtain ⟨s, hs⟩ := Option.isSome_iff_exists.1 this
        cases hj : l[j]? with
        | none => rw [hj] at hs; cases hs
        | some oj =>
          rw [hj] at hs
          have hs' : oj.dst = some s := hs
          have : yielded l.toArray a.tmps j = boolOf a.tmps[s]? := by
            unfold yielded
            simp only [List.getElem?_toArray, hj, Option.bind_some, hs']
            cases a.tmps[s]? with
            | none => rfl
            | some v => cases v <;> rfl
          simp only [this, getD_of hj, hs', Option.getD_some]
    unfold wpList
    simp only [List.map_cons, seqW] at h
    split at h
    · rename_i hw1
      rw [if_pos (hw.trans hw1)]
      refine .inl ?_
      split at h
      · obtain ⟨v, hv, hs⟩ := h
        have hv' : (execOp a.eval o).run P w = .ok (.value v) w := hv w
        unfold Oper.wp; rw [hv']
        exact ih _ _ hr hs
      · split at h
        · obtain ⟨v, hv, hs⟩ := h
          have hv' : (execOp a.eval o).run P w = .ok (.value v) w := hv w (RelX.refl _ _)
          unfold Oper.wp; rw [hv']
          exact ih _ _ hr hs
        · have he : execOp a.eval o = execOp a.eval (mkQ l false o).oper := rfl
          refine Oper.wp_mono (fun a1 w1 h1 => ?_) (wp_transfer (Q := Q) he h)
          obtain ⟨u, rfl, v, huv, _, hs⟩ := h1
          refine ih _ _ hr ?_
          have huv' : a.put o.dst u = a.put o.dst v := huv
          rw [huv']; exact hs
    · rename_i hw1
      rw [if_neg (by rw [hw]; exact hw1)]
      exact ih _ _ hr h

/-- a region in the text's order -/
theorem e_region_text {id : Nat} {l : List Oper} (hok : guardsOK l = true) (h : eseq P N (fun _ => False) (Q .normal) (l.map (mkQ l false)) E w) : ewp P N (.region id l.toArray false) Q E w := by
  intro d a ha
  exact wp_region_lit (wpList_of_seq hok (fun a' w' ⟨E', w0, d', hw, hE, hQ⟩ => ⟨E', w0, d', hw, hE, hQ⟩) l a _ (fun _ h => h) (h d a ha))

/-! ### one operation -/
def Env.put (E : Env) (dst : Option Nat) (v : Value) : Env := match dst with | none => E | some d => (d, v) :: E
def dOK (N : Fr) (dst : Option Nat) : Bool := match dst with | none => true | some d => Nat.blt d N.n
theorem Has.putD {a : Act} {dst : Option Nat} (h : Has a N E) (hd : dOK N dst = true) (v : Value) : Has (a.put dst v) N (E.put dst v) := by
  cases dst with
  | none => exact h
  | some d => exact h.put (by simpa [dOK, Nat.blt_eq] using hd) v

theorem wanted_none (dst : Option Nat) (op : Op) (t : TypeId) (m : Bool) (a : Act) : QOp.wanted ⟨none, dst, op, t, m⟩ a = true := rfl

theorem q_pure {dst : Option Nat} {op : Op} {t : TypeId} {m : Bool} {rest : List QOp} (v : Value) (hc : cls op = 0) (hd : dOK N dst = true)
    (hrun : ∀ a, Has a N E → ∀ w', (execOp a.eval (QOp.oper ⟨none, dst, op, t, m⟩)).run P w' = .ok (.value v) w') (h : eseq P N X K rest (E.put dst v) w) :
    eseq P N X K (⟨none, dst, op, t, m⟩ :: rest) E w := by
  intro d a ha
  simp only [seqW, hc, if_true, wanted_none]
  exact ⟨v, hrun a ha, h d _ (ha.putD hd v)⟩
theorem q_read {dst : Option Nat} {op : Op} {t : TypeId} {m : Bool} {rest : List QOp} (v : Value) (hc : cls op = 1) (hd : dOK N dst = true)
    (hrun : ∀ a, Has a N E → ∀ w', RelX X w w' → (execOp a.eval (QOp.oper ⟨none, dst, op, t, m⟩)).run P w' = .ok (.value v) w') (h : eseq P N X K rest (E.put dst v) w) :
    eseq P N X K (⟨none, dst, op, t, m⟩ :: rest) E w := by
  intro d a ha
  have h0 : ¬ cls op = 0 := by omega
  simp only [seqW, hc, if_true, wanted_none]
  rw [if_neg (by omega)]
  exact ⟨v, fun w' hB => hrun a ha w' ⟨hB.os, hB.tape, hB.output, hB.size, hB.block⟩, h d _ (ha.putD hd v)⟩
theorem q_eff {dst : Option Nat} {op : Op} {t : TypeId} {m : Bool} {rest : List QOp} (hc : cls op = 2)
    (hrun : ∀ a, Has a N E → ∀ d, (QOp.oper ⟨none, dst, op, t, m⟩).wp P a (w.atd d) (fun a' w' => ∃ v w1 d', w' = w1.atd d' ∧ a' = a.put dst v ∧ dOK N dst = true ∧ (m = true → RelX X w w1) ∧ eseq P N X K rest (E.put dst v) w1) (fun _ _ _ => False)) :
    eseq P N X K (⟨none, dst, op, t, m⟩ :: rest) E w := by
  intro d a ha
  have h0 : ¬ cls op = 0 := by omega
  have h1 : ¬ cls op = 1 := by omega
  simp only [seqW, h0, h1, if_true, if_false, wanted_none]
  refine Oper.wp_mono (fun a' w' h => ?_) (hrun a ha d)
  obtain ⟨v, w1, d', rfl, rfl, hd, hB, hs⟩ := h
  exact ⟨v, rfl, fun hm => let hB := hB hm; ⟨hB.os, hB.tape, hB.output, hB.size, hB.block⟩, hs d' _ (ha.putD hd v)⟩

/-! guards -/
theorem g_run {s : Nat} {b : Bool} {dst : Option Nat} {op : Op} {t : TypeId} {m : Bool} {rest : List QOp} (hs : Env.find E s = some (.bool b))
    (h : eseq P N X K (⟨none, dst, op, t, m⟩ :: rest) E w) : eseq P N X K (⟨some (s, b), dst, op, t, m⟩ :: rest) E w := by
  intro d a ha
  have := h d a ha
  have hw : QOp.wanted ⟨some (s, b), dst, op, t, m⟩ a = true := by simp [QOp.wanted, ha.slot s _ hs, boolOf]
  simp only [seqW, wanted_none, if_true] at this
  simp only [seqW, hw, if_true]
  exact this
theorem g_skip {s : Nat} {b b' : Bool} {dst : Option Nat} {op : Op} {t : TypeId} {m : Bool} {rest : List QOp} (hs : Env.find E s = some (.bool b')) (hb : Bool.xor b b' = true) (hd : dOK N dst = true)
    (h : eseq P N X K rest (E.put dst undef) w) : eseq P N X K (⟨some (s, b), dst, op, t, m⟩ :: rest) E w := by
  intro d a ha
  have hw : ¬ QOp.wanted ⟨some (s, b), dst, op, t, m⟩ a = true := by
    simp only [QOp.wanted, ha.slot s _ hs, boolOf]
    cases b <;> cases b' <;> simp_all
  simp only [seqW, hw]
  exact h d _ (ha.putD hd undef)
end
end Go.Mine

namespace Go.Mine
open Go.RowKit
/-! ### a region that draws its order, order by order -/
section
variable {P : Program} {N : Fr} {Q : EPost} {E : Env} {w : World} {l : List Oper}
end
end Go.Mine

namespace Go.Mine
open Go.RowKit

theorem wr64 {n : Int} (h1 : -9223372036854775808 ≤ n) (h2 : n ≤ 9223372036854775807) : IntKind.i64.wrap n = n := IntWalk.i64_in n ⟨h1, h2⟩
/-! ### what is known of the program's types -/
def aggB : TypeDesc → Bool
  | .struct _ => true
  | .array _ _ => true
  | _ => false
theorem ex_of_map {α β : Type} {f : α → β} {o : Option α} {b : β} (h : o.map f = some b) : ∃ a, o = some a ∧ f a = b := by
  cases o with
  | none => cases h
  | some a => exact ⟨a, rfl, by simpa using h⟩
class TSlice (P : Program) (t : TypeId) (e sz : outParam Nat) : Prop where
  under : P.underlying t = some (.slice e)
  size0 : (P.info? e).map TypeInfo.size = some sz
class TCell (P : Program) (t : TypeId) : Prop where
  under0 : (P.underlying t).map aggB = some false
  size0 : (P.info? t).map TypeInfo.size = some 1
class TAgg (P : Program) (t : TypeId) (n : outParam Nat) : Prop where
  under0 : (P.underlying t).map aggB = some true
  size0 : (P.info? t).map TypeInfo.size = some n
def fieldOff (P : Program) (s f : Nat) : Option Nat :=
  match P.underlying s with
  | some (.struct fs) => match fs[f]? with
    | some fd => match P.info? fd.type with
      | some i => if i.size = 0 then none else some fd.offset
      | none => none
    | none => none
  | _ => none
class TField (P : Program) (s f : Nat) (off : outParam Nat) : Prop where
  field0 : fieldOff P s f = some off
class TArr (P : Program) (t : TypeId) (len e sz : outParam Nat) : Prop where
  under : P.underlying t = some (.array len e)
  size0 : (P.info? e).map TypeInfo.size = some sz
theorem TSlice.size {P : Program} {t e sz : Nat} [T : TSlice P t e sz] : ∃ i, P.info? e = some i ∧ i.size = sz := ex_of_map T.size0
theorem TArr.size {P : Program} {t len e sz : Nat} [T : TArr P t len e sz] : ∃ i, P.info? e = some i ∧ i.size = sz := ex_of_map T.size0
theorem TCell.under {P : Program} {t : Nat} [T : TCell P t] : ∃ d, P.underlying t = some d ∧ aggB d = false := ex_of_map T.under0
theorem TCell.size {P : Program} {t : Nat} [T : TCell P t] : ∃ i, P.info? t = some i ∧ i.size = 1 := ex_of_map T.size0
theorem TAgg.under {P : Program} {t n : Nat} [T : TAgg P t n] : ∃ d, P.underlying t = some d ∧ aggB d = true := ex_of_map T.under0
theorem TAgg.size {P : Program} {t n : Nat} [T : TAgg P t n] : ∃ i, P.info? t = some i ∧ i.size = n := ex_of_map T.size0
theorem TField.field {P : Program} {s f off : Nat} [T : TField P s f off] : ∃ fs fd, P.underlying s = some (.struct fs) ∧ fs[f]? = some fd ∧ fd.offset = off ∧ ∃ i, P.info? fd.type = some i ∧ i.size ≠ 0 := by
  have h := T.field0
  unfold fieldOff at h
  split at h
  · rename_i fs hu
    split at h
    · rename_i fd hf
      split at h
      · rename_i i hi
        split at h
        · cases h
        · rename_i hne
          exact ⟨fs, fd, hu, hf, by simpa using h, i, hi, hne⟩
      · cases h
    · cases h
  · cases h
class TFn (P : Program) (f : FuncId) : Prop where
  fn : (P.funcs[f]?).any (fun fn => !(fn.name == "runtime.NumGoroutine") && fn.body.isSome) = true

def ix (off k : Nat) : Nat → Nat
  | 1 => off + k
  | n => off + k * n
theorem ix_eq (off k n : Nat) : ix off k n = off + k * n := by
  unfold ix; split <;> simp
theorem add_mk (b off n : Nat) : (⟨b, off, none⟩ : Addr).add n = ⟨b, off + n, none⟩ := by
  unfold Addr.add; split
  · subst n; rfl
  · rfl

section
abbrev Env.set (E : Env) (d : Nat) (v : Value) : Env := (d, v) :: E
variable {P : Program} {N : Fr} {X : Nat → Prop} {K : Env → World → Prop} {E : Env} {w : World} {dst : Option Nat} {t : TypeId} {m : Bool} {rest : List QOp}

theorem q_move {sd : Nat} {x : Operand} {v : Value} (hx : ev E x = some v) (hd : dOK N (some sd) = true) (h : eseq P N X K rest (Env.set E sd v) w) : eseq P N X K (⟨none, some sd, .move x, t, m⟩ :: rest) E w :=
  q_pure v rfl hd (fun a ha w' => by simp [execOp, QOp.oper, ha.eval hx]) h
theorem q_assign {sd : Nat} {x : Operand} {v : Value} (hx : ev E x = some v) (hd : dOK N (some sd) = true) (h : eseq P N X K rest (Env.set E sd v) w) : eseq P N X K (⟨none, some sd, .assign x, t, m⟩ :: rest) E w :=
  q_pure v rfl hd (fun a ha w' => by simp [execOp, QOp.oper, ha.eval hx]) h
theorem q_pick_true {sd : Nat} {c x y : Operand} {v : Value} (hc : ev E c = some (.bool true)) (hx : ev E x = some v) (hd : dOK N (some sd) = true) (h : eseq P N X K rest (Env.set E sd v) w) : eseq P N X K (⟨none, some sd, .pick c x y, t, m⟩ :: rest) E w :=
  q_pure v rfl hd (fun a ha w' => by simp [execOp, QOp.oper, ha.eval hx, ha.eval hc, asBool]) h
theorem q_pick_false {sd : Nat} {c x y : Operand} {v : Value} (hc : ev E c = some (.bool false)) (hx : ev E y = some v) (hd : dOK N (some sd) = true) (h : eseq P N X K rest (Env.set E sd v) w) : eseq P N X K (⟨none, some sd, .pick c x y, t, m⟩ :: rest) E w :=
  q_pure v rfl hd (fun a ha w' => by simp [execOp, QOp.oper, ha.eval hx, ha.eval hc, asBool]) h
theorem q_nilCheck {sd : Nat} {x : Operand} {ad : Addr} (hx : ev E x = some (.pointer (some ad))) (hd : dOK N (some sd) = true) (h : eseq P N X K rest (Env.set E sd (.pointer (some ad))) w) : eseq P N X K (⟨none, some sd, .nilCheck x, t, m⟩ :: rest) E w :=
  q_pure _ rfl hd (fun a ha w' => by simp [execOp, QOp.oper, ha.eval hx]) h
theorem q_not {sd : Nat} {x : Operand} {b : Bool} {ty : TypeId} (hx : ev E x = some (.bool b)) (hd : dOK N (some sd) = true) (h : eseq P N X K rest (Env.set E sd (.bool !b)) w) : eseq P N X K (⟨none, some sd, .unOp .not ty x, t, m⟩ :: rest) E w :=
  q_pure _ rfl hd (fun a ha w' => by simp [execOp, QOp.oper, ha.eval hx, Op.unary]) h
theorem q_extract {sd : Nat} {x : Operand} {vs : Array Value} {i : Nat} {v : Value} (hx : ev E x = some (.tuple vs)) (hv : vs[i]? = some v) (hd : dOK N (some sd) = true) (h : eseq P N X K rest (Env.set E sd v) w) : eseq P N X K (⟨none, some sd, .extract x i, t, m⟩ :: rest) E w :=
  q_pure _ rfl hd (fun a ha w' => by simp [execOp, QOp.oper, ha.eval hx, Instr.extract, hv]) h

/-! integers -/
section
variable {x y : Operand} {k : IntKind} {i j : Int} {ty ty' : TypeId}
theorem q_rem {sd : Nat} (hx : ev E x = some (.int k i)) (hy : ev E y = some (.int k j)) (hr : j ≠ 0) (hd : dOK N (some sd) = true) (h : eseq P N X K rest (Env.set E sd (.int k (i.tmod j))) w) : eseq P N X K (⟨none, some sd, .binOp .rem ty x y ty', t, m⟩ :: rest) E w :=
  q_pure _ rfl hd (fun a ha w' => by simp [execOp, QOp.oper, ha.eval hx, ha.eval hy, eqGuard, binOp, Op.intDiv, hr]) h
theorem q_eql {sd : Nat} (hx : ev E x = some (.int k i)) (hy : ev E y = some (.int k j)) (hd : dOK N (some sd) = true) (h : eseq P N X K rest (Env.set E sd (.bool (i == j))) w) : eseq P N X K (⟨none, some sd, .binOp .eql ty x y ty', t, m⟩ :: rest) E w :=
  q_pure _ rfl hd (fun a ha w' => by simp [execOp, QOp.oper, ha.eval hx, ha.eval hy, eqGuard, binOp, Op.intCmp]) h
theorem q_neq {sd : Nat} (hx : ev E x = some (.int k i)) (hy : ev E y = some (.int k j)) (hd : dOK N (some sd) = true) (h : eseq P N X K rest (Env.set E sd (.bool (i != j))) w) : eseq P N X K (⟨none, some sd, .binOp .neq ty x y ty', t, m⟩ :: rest) E w :=
  q_pure _ rfl hd (fun a ha w' => by simp [execOp, QOp.oper, ha.eval hx, ha.eval hy, eqGuard, binOp, Op.intCmp]) h
theorem q_lss {sd : Nat} (hx : ev E x = some (.int k i)) (hy : ev E y = some (.int k j)) (hd : dOK N (some sd) = true) (h : eseq P N X K rest (Env.set E sd (.bool (decide (i < j)))) w) : eseq P N X K (⟨none, some sd, .binOp .lss ty x y ty', t, m⟩ :: rest) E w :=
  q_pure _ rfl hd (fun a ha w' => by simp [execOp, QOp.oper, ha.eval hx, ha.eval hy, eqGuard, binOp, Op.intCmp]) h
theorem q_leq {sd : Nat} (hx : ev E x = some (.int k i)) (hy : ev E y = some (.int k j)) (hd : dOK N (some sd) = true) (h : eseq P N X K rest (Env.set E sd (.bool (decide (i ≤ j)))) w) : eseq P N X K (⟨none, some sd, .binOp .leq ty x y ty', t, m⟩ :: rest) E w :=
  q_pure _ rfl hd (fun a ha w' => by simp [execOp, QOp.oper, ha.eval hx, ha.eval hy, eqGuard, binOp, Op.intCmp]) h
theorem q_gtr {sd : Nat} (hx : ev E x = some (.int k i)) (hy : ev E y = some (.int k j)) (hd : dOK N (some sd) = true) (h : eseq P N X K rest (Env.set E sd (.bool (decide (j < i)))) w) : eseq P N X K (⟨none, some sd, .binOp .gtr ty x y ty', t, m⟩ :: rest) E w :=
  q_pure _ rfl hd (fun a ha w' => by simp [execOp, QOp.oper, ha.eval hx, ha.eval hy, eqGuard, binOp, Op.intCmp]) h
theorem q_geq {sd : Nat} (hx : ev E x = some (.int k i)) (hy : ev E y = some (.int k j)) (hd : dOK N (some sd) = true) (h : eseq P N X K rest (Env.set E sd (.bool (decide (j ≤ i)))) w) : eseq P N X K (⟨none, some sd, .binOp .geq ty x y ty', t, m⟩ :: rest) E w :=
  q_pure _ rfl hd (fun a ha w' => by simp [execOp, QOp.oper, ha.eval hx, ha.eval hy, eqGuard, binOp, Op.intCmp]) h
end

/-! addresses -/
theorem run_under {t : TypeId} {d : TypeDesc} (h : P.underlying t = some d) (w : World) : (underlying t).run P w = .ok d w := by simp [underlying, h]
theorem run_size {t : TypeId} {i : TypeInfo} (h : P.info? t = some i) (w : World) : (sizeOf t).run P w = .ok i.size w := by simp [sizeOf, typeInfo, h]

theorem q_len {sd : Nat} {x : Operand} {ts : TypeId} {ad : Option Addr} {n c e sz : Nat} [T : TSlice P ts e sz] (hx : ev E x = some (.slice ad n c)) (hd : dOK N (some sd) = true) (h : eseq P N X K rest (Env.set E sd (.int .i64 n)) w) :
    eseq P N X K (⟨none, some sd, .call { callee := .builtin .len, args := #[x], argTypes := #[ts] }, t, m⟩ :: rest) E w :=
  q_pure _ rfl hd (fun a ha w' => by simp [QOp.oper, BigFrame.execOp_builtin, BigFrame.builtin_len, ha.eval hx, Builtin.len_, run_under T.under, goInt]) h

theorem q_index {sd : Nat} {x y : Operand} {ts : TypeId} {b off n c e sz : Nat} {k : IntKind} {i : Int} [T : TSlice P ts e sz] (hx : ev E x = some (.slice (some ⟨b, off, none⟩) n c)) (hy : ev E y = some (.int k i)) (hi : 0 ≤ i ∧ i < n)
    (hd : dOK N (some sd) = true) (h : eseq P N X K rest (Env.set E sd (.pointer (some ⟨b, ix off i.toNat sz, none⟩))) w) : eseq P N X K (⟨none, some sd, .indexAddr ts x y, t, m⟩ :: rest) E w := by
  obtain ⟨inf, h1, h2⟩ := T.size
  exact q_pure _ rfl hd (fun a ha w' => by simp [execOp, QOp.oper, ha.eval hx, ha.eval hy, Instr.indexAt, asIntOf, run_under T.under, hi, run_size h1, h2, add_mk, ix_eq]) h
theorem q_field {sd : Nat} {x : Operand} {s f b off o : Nat} [T : TField P s f o] (hx : ev E x = some (.pointer (some ⟨b, off, none⟩)))
    (hd : dOK N (some sd) = true) (h : eseq P N X K rest (Env.set E sd (.pointer (some ⟨b, off + o, none⟩))) w) : eseq P N X K (⟨none, some sd, .fieldAddr s x f, t, m⟩ :: rest) E w := by
  obtain ⟨fs, fd, h1, h2, h3, inf, h4, h5⟩ := T.field
  exact q_pure _ rfl hd (fun a ha w' => by simp [execOp, QOp.oper, ha.eval hx, Instr.fieldAt, run_under h1, h2, Instr.sureAddr, fieldPlace, run_size h4, h5, h3, add_mk]) h

/-! memory -/
theorem cell_below {w w' : World} (hB : Below w.heap.size w w') {ad : Addr} {v : Value} (h : w.cell? ad = some v) : w'.cell? ad = some v := by
  rw [hB.cell]; exact h
  unfold World.cell? at h
  cases hh : w.heap[ad.block]? with
  | none => rw [hh] at h; cases h
  | some o => exact (Array.getElem?_eq_some_iff.1 hh).1

theorem cell_relX {X : Nat → Prop} {w w' : World} (hB : RelX X w w') {ad : Addr} {v : Value} (h : w.cell? ad = some v) (hX : ¬ X ad.block) : w'.cell? ad = some v := by
  have hlt : ad.block < w.heap.size := by
    unfold World.cell? at h
    cases hh : w.heap[ad.block]? with
    | none => rw [hh] at h; cases h
    | some o => exact (Array.getElem?_eq_some_iff.1 hh).1
  rw [World.cell?_of_block (w := w) (w' := w') (hB.block _ hlt hX)]; exact h
theorem run_isAgg {t : TypeId} {d : TypeDesc} (h : P.underlying t = some d) (w : World) : (isAgg t).run P w = .ok (aggB d) w := by
  cases d <;> simp [isAgg, run_under h, aggB]
theorem q_load {sd : Nat} {x : Operand} {tt : TypeId} {ad : Addr} {v : Value} [T : TCell P tt] (hx : ev E x = some (.pointer (some ad))) (hc : w.cell? ad = some v)
    (hd : dOK N (some sd) = true) (h : eseq P N X K rest (Env.set E sd v) w) (hX : ¬ X ad.block := by first | exact id | assumption | (show ¬ (_ = _); omega) | (intro h; omega)) : eseq P N X K (⟨none, some sd, .load tt x, t, m⟩ :: rest) E w := by
  obtain ⟨d, h1, h2⟩ := T.under
  refine q_read v rfl hd (fun a ha w' hB => ?_) h
  have hc' := cell_relX hB hc hX
  have hA := run_isAgg h1 w'
  rw [h2] at hA
  simp [execOp, QOp.oper, ha.eval hx, Instr.loadAt, Instr.sureAddr, loadVar, hA, load, Sem.run, hc']

/-- these values lie from the place on -/
def CellsAt (w : World) (b off : Nat) (vs : List Value) : Prop := ∀ j v, vs[j]? = some v → w.cell? ⟨b, off + j, none⟩ = some v

theorem run_loadCellsFrom {b off : Nat} : ∀ (vs : List Value) (i : Nat) (acc : Array Value) (w : World), CellsAt w b (off + i) vs →
    (loadCellsFrom ⟨b, off, none⟩ i vs.length acc).run P w = .ok (acc ++ vs.toArray) w
  | [], i, acc, w, _ => by simp [loadCellsFrom]
  | v :: vs, i, acc, w, h => by
    have h0 : w.cell? ⟨b, off + i, none⟩ = some v := by have := h 0 v rfl; simpa using this
    have h1 : CellsAt w b (off + (i + 1)) vs := fun j u hj => by
      have := h (j + 1) u (by simpa using hj)
      rw [show off + i + (j + 1) = off + (i + 1) + j from by omega] at this; exact this
    have ih := run_loadCellsFrom vs (i + 1) (acc.push v) w h1
    rw [List.length_cons, loadCellsFrom, add_mk]
    simp [load, Sem.run, h0, ih]
theorem q_loadAgg {sd : Nat} {x : Operand} {tt : TypeId} {b off n : Nat} {vs : List Value} [T : TAgg P tt n] (hx : ev E x = some (.pointer (some ⟨b, off, none⟩))) (hc : CellsAt w b off vs) (hn : vs.length = n)
    (hd : dOK N (some sd) = true) (h : eseq P N X K rest (Env.set E sd (.agg vs.toArray)) w) (hX : ¬ X b := by first | exact id | assumption | (show ¬ (_ = _); omega) | (intro h; omega)) : eseq P N X K (⟨none, some sd, .load tt x, t, m⟩ :: rest) E w := by
  obtain ⟨d, h1, h2⟩ := T.under
  obtain ⟨inf, h3, h4⟩ := T.size
  refine q_read _ rfl hd (fun a ha w' hB => ?_) h
  have hc' : CellsAt w' b (off + 0) vs := fun j v hj => cell_relX hB (hc j v hj) hX
  have hA := run_isAgg h1 w'
  rw [h2] at hA
  have hl := run_loadCellsFrom (P := P) vs 0 #[] w' hc'
  rw [hn, ← h4] at hl
  simp [execOp, QOp.oper, ha.eval hx, Instr.loadAt, Instr.sureAddr, loadVar, hA, run_size h3, loadCells, hl]

/-! ### blocks -/
def Blk (w : World) (b : Nat) (cs : List Value) (t : TypeId) : Prop := w.heap[b]? = some (.cells cs.toArray t (0, 0))
/-- but for block b (and new ones) memory is as it was -/
structure Only (w w1 : World) (b : Nat) : Prop where
  os : w1.os = w.os
  tape : w1.tape = w.tape
  output : w1.output = w.output
  size : w.heap.size ≤ w1.heap.size
  block : ∀ k, k < w.heap.size → k ≠ b → w1.heap[k]? = w.heap[k]?

theorem Blk.lt {w : World} {b : Nat} {cs : List Value} {t : TypeId} (h : Blk w b cs t) : b < w.heap.size := (Array.getElem?_eq_some_iff.1 h).1
theorem Blk.cell {w : World} {b : Nat} {cs : List Value} {t : TypeId} (h : Blk w b cs t) {o : Nat} {v : Value} (hv : cs[o]? = some v) : w.cell? ⟨b, o, none⟩ = some v := by
  unfold Blk at h; simp [World.cell?, h, hv]
theorem Blk.cells {w : World} {b : Nat} {cs : List Value} {t : TypeId} (h : Blk w b cs t) : CellsAt w b 0 cs := fun j v hj => by rw [Nat.zero_add]; exact h.cell hj
theorem Blk.below {w w' : World} {n b : Nat} {cs : List Value} {t : TypeId} (h : Blk w b cs t) (hB : Below n w w') (hn : b < n) : Blk w' b cs t := by
  unfold Blk at *; rw [hB.block b hn]; exact h
theorem Blk.only {w w' : World} {n b : Nat} {cs : List Value} {t : TypeId} (h : Blk w b cs t) (hB : Only w w' n) (hn : b ≠ n) : Blk w' b cs t := by
  unfold Blk at *; rw [hB.block b (Array.getElem?_eq_some_iff.1 h).1 hn]; exact h
theorem Below.only {n : Nat} {w0 w w' : World} {b : Nat} (h : Below n w0 w) (ho : Only w w' b) (hn : n ≤ b) (hs : n ≤ w.heap.size) : Below n w0 w' :=
  h.trans ⟨ho.os, ho.tape, ho.output, ho.size, fun k hk => ho.block k (by omega) (by omega)⟩

theorem alloc_below (w : World) (d : Nat) (o : Obj) : Below w.heap.size w ((w.atd d).alloc o) :=
  ⟨rfl, rfl, rfl, by simp, fun k hk => by show (w.heap.push o)[k]? = _; rw [Array.getElem?_push, if_neg (by omega)]⟩
theorem alloc_blk (w : World) (d : Nat) (cs : List Value) (t : TypeId) : Blk ((w.atd d).alloc (.cells cs.toArray t)) w.heap.size cs t := by
  show (w.heap.push _)[w.heap.size]? = _; simp

theorem setCell_only (w : World) (d b o : Nat) (v : Value) : Only w ((w.atd d).setCell ⟨b, o, none⟩ v) b :=
  ⟨rfl, rfl, rfl, by simp [World.setCell], fun k _ hk => by
    simp only [World.setCell, Array.getElem?_modify, atd_heap]; rw [if_neg (by omega)]⟩
theorem setCell_blk {w : World} (d : Nat) {b : Nat} {cs : List Value} {t : TypeId} (h : Blk w b cs t) (o : Nat) (v : Value) : Blk ((w.atd d).setCell ⟨b, o, none⟩ v) b (cs.set o v) t := by
  unfold Blk at *
  simp only [World.setCell, Array.getElem?_modify, atd_heap, if_true, h]
  simp

def oneV : Value → Bool
  | .agg _ => false
  | .tuple _ => false
  | _ => true
theorem cells_one {v : Value} (h : oneV v = true) : v.cells = #[v] := by cases v <;> simp_all [oneV, Value.cells]

theorem run_store1 {w : World} {b o : Nat} {cs : List Value} {t : TypeId} {v : Value} (hb : Blk w b cs t) (ho : o < cs.length) (hv : oneV v = true) : (store ⟨b, o, none⟩ v).run P w = .ok () (w.setCell ⟨b, o, none⟩ v) := by
  have hc : w.cell? ⟨b, o, none⟩ = some cs[o] := hb.cell (by simp [ho])
  have hf : w.frozen? ⟨b, o, none⟩ = false := by unfold Blk at hb; simp [World.frozen?, hb]
  cases v <;> simp_all [oneV, store, Sem.run]

theorem q_store {x y : Operand} {tt : TypeId} {b o : Nat} {cs : List Value} {bt : TypeId} {v : Value} [T : TCell P tt] (hx : ev E x = some (.pointer (some ⟨b, o, none⟩))) (hy : ev E y = some v)
    (hb : Blk w b cs bt) (ho : o < cs.length) (hv : oneV v = true) (hd : dst = none) (hm : m = false)
    (h : ∀ w1, Blk w1 b (cs.set o v) bt → Only w w1 b → eseq P N X K rest E w1) : eseq P N X K (⟨none, dst, .store tt x y, t, m⟩ :: rest) E w := by
  obtain ⟨inf, h3, h4⟩ := T.size
  subst hd; subst hm
  refine q_eff rfl fun a ha d => ?_
  have hb' : Blk (w.atd d) b cs bt := hb
  have hs := run_store1 (P := P) hb' ho hv
  have hrun : (execOp a.eval (QOp.oper ⟨none, none, .store tt x y, t, false⟩)).run P (w.atd d) = .ok .skip ((w.atd d).setCell ⟨b, o, none⟩ v) := by
    simp [execOp, QOp.oper, ha.eval hx, ha.eval hy, Instr.storeAt, Instr.sureAddr, storeVar, run_size h3, h4, cells_one hv, storeCells, add_mk, hs]
  unfold Oper.wp
  rw [hrun]
  refine ⟨undef, (w.atd d).setCell ⟨b, o, none⟩ v, d, rfl, rfl, rfl, (fun h => by cases h), ?_⟩
  exact h _ (setCell_blk d hb o v) (setCell_only w d b o v)

def setN : List Value → Nat → List Value → List Value
  | cs, _, [] => cs
  | cs, o, v :: vs => setN (cs.set o v) (o + 1) vs
theorem run_storeCells {b off : Nat} {t : TypeId} : ∀ (vs : List Value) (i : Nat) (cs : List Value) (w : World), Blk w b cs t → off + i + vs.length ≤ cs.length → (∀ v ∈ vs, oneV v = true) →
    ∃ w1, (storeCells ⟨b, off, none⟩ vs i).run P w = .ok () w1 ∧ Blk w1 b (setN cs (off + i) vs) t ∧ Only w w1 b
  | [], i, cs, w, hb, _, _ => ⟨w, by simp [storeCells], hb, ⟨rfl, rfl, rfl, Nat.le_refl _, fun _ _ _ => rfl⟩⟩
  | v :: vs, i, cs, w, hb, hl, hv => by
    simp only [List.length_cons] at hl
    have hs := run_store1 (P := P) hb (o := off + i) (by omega) (hv v (by simp))
    have hb1 := setCell_blk w.drawn hb (off + i) v
    obtain ⟨w1, h1, h2, h3⟩ := run_storeCells (off := off) vs (i + 1) (cs.set (off + i) v) (w.setCell ⟨b, off + i, none⟩ v) hb1 (by simp; omega) (fun u hu => hv u (by simp [hu]))
    refine ⟨w1, ?_, by rw [show off + (i + 1) = off + i + 1 from by omega] at h2; exact h2, ?_⟩
    · rw [storeCells, add_mk]; simp [hs, h1]
    · have h0 := setCell_only w w.drawn b (off + i) v
      exact ⟨h3.os.trans h0.os, h3.tape.trans h0.tape, h3.output.trans h0.output, Nat.le_trans h0.size h3.size, fun k hk hne => (h3.block k (Nat.lt_of_lt_of_le hk h0.size) hne).trans (h0.block k hk hne)⟩
theorem q_storeAgg {x y : Operand} {tt : TypeId} {b o n : Nat} {cs vs : List Value} {bt : TypeId} [T : TAgg P tt n] (hx : ev E x = some (.pointer (some ⟨b, o, none⟩))) (hy : ev E y = some (.agg vs.toArray))
    (hb : Blk w b cs bt) (hn : vs.length = n) (ho : o + n ≤ cs.length) (hv : ∀ v ∈ vs, oneV v = true) (hd : dst = none) (hm : m = false)
    (h : ∀ w1, Blk w1 b (setN cs o vs) bt → Only w w1 b → eseq P N X K rest E w1) : eseq P N X K (⟨none, dst, .store tt x y, t, m⟩ :: rest) E w := by
  obtain ⟨inf, h3, h4⟩ := T.size
  subst hd; subst hm
  refine q_eff rfl fun a ha d => ?_
  have hb' : Blk (w.atd d) b cs bt := hb
  obtain ⟨w1, hs, hb1, ho1⟩ := run_storeCells (P := P) (off := o) vs 0 cs (w.atd d) hb' (by omega) hv
  have hrun : (execOp a.eval (QOp.oper ⟨none, none, .store tt x y, t, false⟩)).run P (w.atd d) = .ok .skip w1 := by
    simp [execOp, QOp.oper, ha.eval hx, ha.eval hy, Instr.storeAt, Instr.sureAddr, storeVar, run_size h3, h4, Value.cells, hn, hs]
  unfold Oper.wp
  rw [hrun]
  exact ⟨undef, w1, w1.drawn, rfl, rfl, rfl, (fun h => by cases h), h w1 hb1 ⟨ho1.os, ho1.tape, ho1.output, ho1.size, ho1.block⟩⟩

/-! new blocks -/
class TZero (P : Program) (t : TypeId) (z : outParam (List Value)) : Prop where
  zero0 : ((P.info? t).bind TypeInfo.zero).map (fun v => v.cells.toList) = some z
theorem TZero.zero {P : Program} {t : TypeId} {z : List Value} [T : TZero P t z] : ∃ i v, P.info? t = some i ∧ i.zero = some v ∧ v.cells = z.toArray := by
  obtain ⟨v, h1, h2⟩ := ex_of_map T.zero0
  cases hi : P.info? t with
  | none => rw [hi] at h1; cases h1
  | some i => rw [hi] at h1; exact ⟨i, v, rfl, h1, by rw [← h2]⟩
theorem q_alloc {sd : Nat} {tt : TypeId} {z : List Value} [T : TZero P tt z] (hd : dOK N (some sd) = true)
    (h : ∀ w1, Blk w1 w.heap.size z tt → Below w.heap.size w w1 → eseq P N X K rest (Env.set E sd (.pointer (some ⟨w.heap.size, 0, none⟩))) w1) : eseq P N X K (⟨none, some sd, .alloc tt, t, m⟩ :: rest) E w := by
  obtain ⟨inf, v, h1, h2, h3⟩ := T.zero
  refine q_eff rfl fun a ha d => ?_
  have hrun : (execOp a.eval (QOp.oper ⟨none, some sd, .alloc tt, t, m⟩)).run P (w.atd d) = .ok (.value (.pointer (some ⟨w.heap.size, 0, none⟩))) ((w.atd d).alloc (.cells z.toArray tt)) := by
    simp [execOp, QOp.oper, Instr.alloc, zeroValue, typeInfo, h1, h2, newVar, newRow, h3, newObj, Sem.run]
  unfold Oper.wp
  rw [hrun]
  exact ⟨_, _, _, rfl, rfl, hd, fun _ => .of_below (alloc_below w d _), h _ (alloc_blk w d z tt) (alloc_below w d _)⟩
theorem q_box {sd : Nat} {x : Operand} {tt : TypeId} {v : Value} {cs : List Value} (hx : ev E x = some v) (hv : v.cells = cs.toArray) (hd : dOK N (some sd) = true)
    (h : ∀ w1, Blk w1 w.heap.size cs tt → Below w.heap.size w w1 → eseq P N X K rest (Env.set E sd (.pointer (some ⟨w.heap.size, 0, none⟩))) w1) : eseq P N X K (⟨none, some sd, .box tt x, t, m⟩ :: rest) E w := by
  refine q_eff rfl fun a ha d => ?_
  have hrun : (execOp a.eval (QOp.oper ⟨none, some sd, .box tt x, t, m⟩)).run P (w.atd d) = .ok (.value (.pointer (some ⟨w.heap.size, 0, none⟩))) ((w.atd d).alloc (.cells cs.toArray tt)) := by
    simp [execOp, QOp.oper, Instr.box, ha.eval hx, newVar, newRow, hv, newObj, Sem.run]
    rfl
  unfold Oper.wp
  rw [hrun]
  exact ⟨_, _, _, rfl, rfl, hd, fun _ => .of_below (alloc_below w d _), h _ (alloc_blk w d cs tt) (alloc_below w d _)⟩

/-! calls -/
def Gives (P : Program) (f : FuncId) (args : List Value) (w : World) (Φ : Value → World → Prop) : Prop :=
  ∀ d, Calls P f args.toArray (w.atd d) fun e w' => ∃ v w1 d', e = .returned v ∧ w' = w1.atd d' ∧ Φ v w1
def evs (E : Env) : List Operand → Option (List Value)
  | [] => some []
  | x :: xs => match ev E x, evs E xs with
    | some v, some vs => some (v :: vs)
    | _, _ => none
theorem evs_map {a : Act} (ha : Has a N E) : ∀ {xs : List Operand} {vs : List Value}, evs E xs = some vs → xs.map a.eval = vs
  | [], vs, h => by simp [evs] at h; subst h; rfl
  | x :: xs, vs, h => by
    simp only [evs] at h
    cases hx : ev E x with
    | none => rw [hx] at h; cases h
    | some v =>
      cases hxs : evs E xs with
      | none => rw [hx, hxs] at h; cases h
      | some us =>
        rw [hx, hxs] at h
        simp only [Option.some.injEq] at h
        subst h
        simp [ha.eval hx, evs_map ha hxs]
theorem run_callFunc {f : FuncId} [T : TFn P f] (args : Array Value) (w : World) : (callFunc f args).run P w = .ok (.enter f args) w := by
  have h := T.fn
  cases hf : P.funcs[f]? with
  | none => rw [hf] at h; cases h
  | some fn =>
    rw [hf] at h
    simp only [Option.any_some, Bool.and_eq_true, Bool.not_eq_true'] at h
    have hb : fn.body ≠ none := by intro e; rw [e] at h; cases h.2
    have hn : ¬ fn.name = "runtime.NumGoroutine" := by simpa using h.1
    simp [callFunc, hf, hn, hb]
theorem q_callD {f : FuncId} {xs : List Operand} {ts : Array TypeId} {vs : List Value} {Φ : Value → World → Prop} [T : TFn P f] (hx : evs E xs = some vs) (hc : Gives P f vs w Φ) (hd : dOK N dst = true)
    (h : ∀ v w1, Φ v w1 → (m = true → RelX X w w1) ∧ eseq P N X K rest (E.put dst v) w1) : eseq P N X K (⟨none, dst, .call { callee := .value (.func f), args := xs.toArray, argTypes := ts }, t, m⟩ :: rest) E w := by
  refine q_eff rfl fun a ha d => ?_
  have hrun : (execOp a.eval (QOp.oper ⟨none, dst, .call { callee := .value (.func f), args := xs.toArray, argTypes := ts }, t, m⟩)).run P (w.atd d) = .ok (.enter f vs.toArray) (w.atd d) := by
    have := run_callFunc (P := P) (f := f) vs.toArray (w.atd d)
    simp [execOp, QOp.oper, resolve, Act.eval, Deferred.ofValue, invoke]
    rw [show List.map a.eval xs = vs from evs_map ha hx]
    exact this
  unfold Oper.wp
  rw [hrun]
  refine (hc d).mono fun e w' h' => ?_
  obtain ⟨v, w1, d', rfl, rfl, hΦ⟩ := h'
  exact ⟨v, w1, d', rfl, rfl, hd, h v w1 hΦ⟩
theorem q_call {sd : Nat} {f : FuncId} {xs : List Operand} {ts : Array TypeId} {vs : List Value} {Φ : Value → World → Prop} [T : TFn P f] (hx : evs E xs = some vs) (hc : Gives P f vs w Φ) (hd : dOK N (some sd) = true)
    (h : ∀ v w1, Φ v w1 → (m = true → RelX X w w1) ∧ eseq P N X K rest (Env.set E sd v) w1) : eseq P N X K (⟨none, some sd, .call { callee := .value (.func f), args := xs.toArray, argTypes := ts }, t, m⟩ :: rest) E w :=
  q_callD hx hc hd h

/-! the body of a function -/
def Res (P : Program) (fn : Func) (E : Env) (w : World) (v : Value) : Prop := ∀ a N d, Has a N E → (results fn a.tmps).run P (w.atd d) = .ok v (w.atd d)
def QEnd (P : Program) (fn : Func) (Φ : Value → World → Prop) : EPost
  | .normal, E, w => ∃ v, Res P fn E w v ∧ Φ v w
  | .ret, E, w => ∃ v, Res P fn E w v ∧ Φ v w
  | _, _, _ => False
def Env.ofArgs : Nat → List Value → Env
  | _, [] => []
  | i, v :: vs => (i, v) :: Env.ofArgs (i + 1) vs
theorem find_ofArgs : ∀ (vs : List Value) (i s : Nat) (v : Value), Env.find (Env.ofArgs i vs) s = some v → i ≤ s ∧ vs[s - i]? = some v
  | [], i, s, v, h => by cases h
  | u :: vs, i, s, v, h => by
    rw [Env.ofArgs, Env.find_cons] at h
    split at h
    · subst s; simp at h; simp [h]
    · rename_i hne
      obtain ⟨h1, h2⟩ := find_ofArgs vs (i + 1) s v h
      refine ⟨by omega, ?_⟩
      rw [show s - i = (s - (i + 1)) + 1 from by omega]
      simpa using h2
theorem fn_of {f : FuncId} {fn : Func} {c : Code} {args : List Value} {Φ : Value → World → Prop} {M : Nat} (hf : P.funcs[f]? = some fn) (hb : fn.body = some c) (hn : fn.ntmps = M) (hl : args.length ≤ M)
    (h : ewp P ⟨M, []⟩ c (QEnd P fn Φ) (Env.ofArgs 0 args) w) : Gives P f args w Φ := by
  intro d
  refine calls_of_wp hf hb (wp_mono (h d _ ⟨rfl, ?_, fun s v hs => ?_⟩) ?_)
  · simp [hn]; omega
  · obtain ⟨_, h2⟩ := find_ofArgs args 0 s v hs
    have hlt : s < args.length := by
      rcases Nat.lt_or_ge s args.length with h | h
      · exact h
      · simp [List.getElem?_eq_none h] at h2
    simp only [Array.getElem?_append]
    rw [if_pos (by simpa using hlt)]
    simpa using h2
  · rintro e a' w' ⟨E', w0, d0, rfl, hE, hQ⟩
    cases e with
    | normal => obtain ⟨v, hr, hΦ⟩ := hQ; exact ⟨hE.defers, v, hr a' _ d0 hE, v, w0, d0, rfl, rfl, hΦ⟩
    | ret => obtain ⟨v, hr, hΦ⟩ := hQ; exact ⟨hE.defers, v, hr a' _ d0 hE, v, w0, d0, rfl, rfl, hΦ⟩
    | _ => exact hQ.elim
theorem res0 {fn : Func} (h : fn.results = #[]) : Res P fn E w (.tuple #[]) := fun _ _ _ _ => results_none h _ _ _
theorem res1 {fn : Func} {s : Nat} {v : Value} (h : fn.results = #[.tmp s]) (hs : Env.find E s = some v) : Res P fn E w v := fun a N d ha => by
  rw [results_tmp h]; simp [ha.slot s v hs]
end
end Go.Mine

namespace Go.Mine
open Go.RowKit

/-! ### how Go data reads as plain data; S: the blocks that the reading may touch -/
/-- the blocks of S that were there are as they were -/
structure Kept (S : Nat → Prop) (w w' : World) : Prop where
  size : w.heap.size ≤ w'.heap.size
  block : ∀ k, S k → k < w.heap.size → w'.heap[k]? = w.heap[k]?
theorem Kept.of_ext {S : Nat → Prop} {w w' : World} (h : Below w.heap.size w w') : Kept S w w' := ⟨h.size, fun k _ hk => h.block k hk⟩
theorem Kept.of_only {S : Nat → Prop} {b : Nat} {w w' : World} (h : Only w w' b) (hn : ∀ k, S k → k ≠ b) : Kept S w w' := ⟨h.size, fun k hk hs => h.block k hs (hn k hk)⟩
theorem cell_block {w : World} {ad : Addr} {v : Value} (h : w.cell? ad = some v) : ad.block < w.heap.size := by
  unfold World.cell? at h
  cases hh : w.heap[ad.block]? with
  | none => rw [hh] at h; cases h
  | some o => exact (Array.getElem?_eq_some_iff.1 hh).1
theorem CellsAt.kept {S : Nat → Prop} {w w' : World} (hk : Kept S w w') {b off : Nat} {vs : List Value} (hb : S b) (h : CellsAt w b off vs) : CellsAt w' b off vs := fun j v hj => by
  have hc := h j v hj
  have := hk.block b hb (cell_block hc)
  rw [World.cell?_of_block (w := w) (w' := w') this]; exact hc

structure Ty (α : Type) where
  sz : Nat
  R : World → (Nat → Prop) → List Value → α → Prop
  len : ∀ {w S cs x}, R w S cs x → cs.length = sz
  one : ∀ {w S cs x}, R w S cs x → ∀ v ∈ cs, oneV v = true
  kept : ∀ {w w' S cs x}, Kept S w w' → R w S cs x → R w' S cs x
  mono : ∀ {w S S' cs x}, (∀ k, S k → k < w.heap.size → S' k) → R w S cs x → R w S' cs x

def Ty.int : Ty Int where
  sz := 1
  R _ _ cs x := cs = [.int .i64 x]
  len h := by subst h; rfl
  one h v hv := by subst h; simp at hv; subst hv; rfl
  kept _ h := h
  mono _ h := h
def Ty.u8 : Ty Int where
  sz := 1
  R _ _ cs x := cs = [.int .u8 x]
  len h := by subst h; rfl
  one h v hv := by subst h; simp at hv; subst hv; rfl
  kept _ h := h
  mono _ h := h
def Ty.bool : Ty Bool where
  sz := 1
  R _ _ cs x := cs = [.bool x]
  len h := by subst h; rfl
  one h v hv := by subst h; simp at hv; subst hv; rfl
  kept _ h := h
  mono _ h := h
def Ty.pair {α β : Type} (A : Ty α) (B : Ty β) : Ty (α × β) where
  sz := A.sz + B.sz
  R w S cs x := ∃ c1 c2, cs = c1 ++ c2 ∧ A.R w S c1 x.1 ∧ B.R w S c2 x.2
  len := by rintro w S cs x ⟨c1, c2, rfl, h1, h2⟩; simp [A.len h1, B.len h2]
  one := by
    rintro w S cs x ⟨c1, c2, rfl, h1, h2⟩ v hv
    rcases List.mem_append.1 hv with h | h
    · exact A.one h1 v h
    · exact B.one h2 v h
  kept := by rintro w w' S cs x hk ⟨c1, c2, rfl, h1, h2⟩; exact ⟨c1, c2, rfl, A.kept hk h1, B.kept hk h2⟩
  mono := by rintro w S S' cs x hk ⟨c1, c2, rfl, h1, h2⟩; exact ⟨c1, c2, rfl, A.mono hk h1, B.mono hk h2⟩
def Ty.via {α β : Type} (T : Ty α) (f : β → α) : Ty β where
  sz := T.sz
  R w S cs x := T.R w S cs (f x)
  len h := T.len h
  one h := T.one h
  kept hk h := T.kept hk h
  mono hk h := T.mono hk h

/-- a datum lies at a place -/
structure El {α : Type} (T : Ty α) (w : World) (S : Nat → Prop) (b o : Nat) (x : α) : Prop where
  mem : S b
  lt : b < w.heap.size
  cells : ∃ cs, CellsAt w b o cs ∧ T.R w S cs x
/-- a slice value reads as a list -/
def IsSlice {α : Type} (T : Ty α) (w : World) (S : Nat → Prop) (v : Value) (xs : List α) : Prop :=
  ∃ ad cap, v = .slice ad xs.length cap ∧ xs.length ≤ cap ∧ (ad = none → cap = 0) ∧ (∀ a, ad = some a → xs ≠ [] → a.spot = none) ∧ ∀ i (h : i < xs.length), ∃ b off, ad = some ⟨b, off, none⟩ ∧ El T w S b (ix off i T.sz) xs[i]
theorem El.kept {α : Type} {T : Ty α} {w w' : World} {S : Nat → Prop} {b o : Nat} {x : α} (h : El T w S b o x) (hk : Kept S w w') : El T w' S b o x := by
  obtain ⟨hb, hl, cs, h1, h2⟩ := h
  exact ⟨hb, Nat.lt_of_lt_of_le hl hk.size, cs, h1.kept hk hb, T.kept hk h2⟩
theorem IsSlice.kept {α : Type} {T : Ty α} {w w' : World} {S : Nat → Prop} {v : Value} {xs : List α} (h : IsSlice T w S v xs) (hk : Kept S w w') : IsSlice T w' S v xs := by
  obtain ⟨ad, cap, h1, h2, h3, h4, h5⟩ := h
  refine ⟨ad, cap, h1, h2, h3, h4, fun i hi => ?_⟩
  obtain ⟨b, off, he, hel⟩ := h5 i hi
  exact ⟨b, off, he, hel.kept hk⟩
theorem IsSlice.ext {α : Type} {T : Ty α} {w w' : World} {S : Nat → Prop} {v : Value} {xs : List α} (h : IsSlice T w S v xs) (hB : Below w.heap.size w w') : IsSlice T w' S v xs := h.kept (.of_ext hB)
theorem El.ext {α : Type} {T : Ty α} {w w' : World} {S : Nat → Prop} {b o : Nat} {x : α} (h : El T w S b o x) (hB : Below w.heap.size w w') : El T w' S b o x := h.kept (.of_ext hB)
theorem Blk.ext {w w' : World} {b : Nat} {cs : List Value} {t : TypeId} (h : Blk w b cs t) (hB : Below w.heap.size w w') : Blk w' b cs t := h.below hB h.lt
theorem El.mono {α : Type} {T : Ty α} {w : World} {S S' : Nat → Prop} {b o : Nat} {x : α} (h : El T w S b o x) (hn : ∀ k, S k → k < w.heap.size → S' k) : El T w S' b o x := by
  obtain ⟨hb, hl, cs, h1, h2⟩ := h
  exact ⟨hn _ hb hl, hl, cs, h1, T.mono hn h2⟩
theorem IsSlice.mono {α : Type} {T : Ty α} {w : World} {S S' : Nat → Prop} {v : Value} {xs : List α} (h : IsSlice T w S v xs) (hn : ∀ k, S k → k < w.heap.size → S' k) : IsSlice T w S' v xs := by
  obtain ⟨ad, cap, h1, h2, h3, h4, h5⟩ := h
  refine ⟨ad, cap, h1, h2, h3, h4, fun i hi => ?_⟩
  obtain ⟨b, off, he, hel⟩ := h5 i hi
  exact ⟨b, off, he, hel.mono hn⟩
/-- whatever the reading touches was there -/
theorem IsSlice.old {α : Type} {T : Ty α} {w : World} {S : Nat → Prop} {v : Value} {xs : List α} (h : IsSlice T w S v xs) : IsSlice T w (· < w.heap.size) v xs := h.mono fun _ _ h => h
theorem IsSlice.one {α : Type} {T : Ty α} {w : World} {S : Nat → Prop} {v : Value} {xs : List α} (h : IsSlice T w S v xs) : oneV v = true := by
  obtain ⟨ad, cap, rfl, _⟩ := h; rfl
theorem IsSlice.nil {α : Type} (T : Ty α) (w : World) (S : Nat → Prop) : IsSlice T w S (.slice none 0 0) [] := ⟨none, 0, rfl, Nat.le_refl _, fun _ => rfl, fun _ h => (by cases h), fun i hi => absurd hi (Nat.not_lt_zero i)⟩
def Ty.slice {α : Type} (T : Ty α) : Ty (List α) where
  sz := 1
  R w S cs xs := ∃ v, cs = [v] ∧ IsSlice T w S v xs
  len := by rintro w S cs x ⟨v, rfl, _⟩; rfl
  one := by rintro w S cs x ⟨v, rfl, h⟩ u hu; simp at hu; subst hu; exact h.one
  kept := by rintro w w' S cs x hk ⟨v, rfl, h⟩; exact ⟨v, rfl, h.kept hk⟩
  mono := by rintro w S S' cs x hk ⟨v, rfl, h⟩; exact ⟨v, rfl, h.mono hk⟩

/-! parts of a datum at a place -/
theorem CellsAt.append {w : World} {b o : Nat} {c1 c2 : List Value} : CellsAt w b o (c1 ++ c2) ↔ CellsAt w b o c1 ∧ CellsAt w b (o + c1.length) c2 := by
  constructor
  · intro h
    refine ⟨fun j v hj => h j v (by rw [List.getElem?_append_left (List.getElem?_eq_some_iff.1 hj).1]; exact hj), fun j v hj => ?_⟩
    have := h (c1.length + j) v (by rw [List.getElem?_append_right (by omega)]; simpa using hj)
    rw [show o + c1.length + j = o + (c1.length + j) from by omega]; exact this
  · rintro ⟨h1, h2⟩ j v hj
    rcases Nat.lt_or_ge j c1.length with h | h
    · exact h1 j v (by rw [List.getElem?_append_left h] at hj; exact hj)
    · rw [List.getElem?_append_right h] at hj
      have := h2 (j - c1.length) v hj
      rw [show o + c1.length + (j - c1.length) = o + j from by omega] at this; exact this
theorem El.fst {α β : Type} {A : Ty α} {B : Ty β} {w : World} {n : Nat → Prop} {b o : Nat} {x : α × β} (h : El (A.pair B) w n b o x) : El A w n b o x.1 := by
  obtain ⟨hb, hl, cs, h1, c1, c2, rfl, h2, h3⟩ := h
  exact ⟨hb, hl, c1, (CellsAt.append.1 h1).1, h2⟩
theorem El.snd {α β : Type} {A : Ty α} {B : Ty β} {w : World} {n : Nat → Prop} {b o : Nat} {x : α × β} (h : El (A.pair B) w n b o x) : El B w n b (o + A.sz) x.2 := by
  obtain ⟨hb, hl, cs, h1, c1, c2, rfl, h2, h3⟩ := h
  refine ⟨hb, hl, c2, ?_, h3⟩
  have := (CellsAt.append.1 h1).2
  rw [A.len h2] at this; exact this

/-- the element at an index, or the type's default -/
def nth {α : Type} [Inhabited α] (xs : List α) (i : Nat) : α := xs.getD i default
theorem nth_eq {α : Type} [Inhabited α] {xs : List α} {i : Nat} (h : i < xs.length) : nth xs i = xs[i] := by simp [nth, h]
section
variable {P : Program} {N : Fr} {X : Nat → Prop} {K : Env → World → Prop} {E : Env} {w : World} {t : TypeId} {m : Bool} {rest : List QOp} {sd : Nat} {α : Type} {T : Ty α}

theorem q_lenS {x : Operand} {ts e sz : Nat} {n : Nat → Prop} {v : Value} {xs : List α} [TS : TSlice P ts e sz] (hx : ev E x = some v) (hs : IsSlice T w n v xs) (hd : dOK N (some sd) = true) (h : eseq P N X K rest (Env.set E sd (.int .i64 xs.length)) w) :
    eseq P N X K (⟨none, some sd, .call { callee := .builtin .len, args := #[x], argTypes := #[ts] }, t, m⟩ :: rest) E w := by
  obtain ⟨ad, cap, rfl, _⟩ := hs
  exact q_len hx hd h
theorem El.intCell {n : Nat → Prop} {b o : Nat} {x : Int} (h : El Ty.int w n b o x) : w.cell? ⟨b, o, none⟩ = some (.int .i64 x) := by
  obtain ⟨_, _, cs, h1, rfl⟩ := h; exact h1 0 _ rfl
theorem El.u8Cell {n : Nat → Prop} {b o : Nat} {x : Int} (h : El Ty.u8 w n b o x) : w.cell? ⟨b, o, none⟩ = some (.int .u8 x) := by
  obtain ⟨_, _, cs, h1, rfl⟩ := h; exact h1 0 _ rfl
theorem El.boolCell {n : Nat → Prop} {b o : Nat} {x : Bool} (h : El Ty.bool w n b o x) : w.cell? ⟨b, o, none⟩ = some (.bool x) := by
  obtain ⟨_, _, cs, h1, rfl⟩ := h; exact h1 0 _ rfl
theorem El.sliceCell {n : Nat → Prop} {b o : Nat} {xs : List α} (h : El T.slice w n b o xs) : ∃ v, w.cell? ⟨b, o, none⟩ = some v ∧ IsSlice T w n v xs := by
  obtain ⟨_, _, cs, h1, v, rfl, hv⟩ := h; exact ⟨v, h1 0 _ rfl, hv⟩
theorem q_allocB {tt : TypeId} {z : List Value} [T : TZero P tt z] (hd : dOK N (some sd) = true)
    (h : ∀ w1 b, w.heap.size ≤ b → Blk w1 b z tt → Below w.heap.size w w1 → eseq P N X K rest (Env.set E sd (.pointer (some ⟨b, 0, none⟩))) w1) : eseq P N X K (⟨none, some sd, .alloc tt, t, m⟩ :: rest) E w :=
  q_alloc hd fun w1 hb hB => h w1 _ (Nat.le_refl _) hb hB
theorem q_boxB {x : Operand} {tt : TypeId} {v : Value} {cs : List Value} (hx : ev E x = some v) (hv : v.cells = cs.toArray) (hd : dOK N (some sd) = true)
    (h : ∀ w1 b, w.heap.size ≤ b → Blk w1 b cs tt → Below w.heap.size w w1 → eseq P N X K rest (Env.set E sd (.pointer (some ⟨b, 0, none⟩))) w1) : eseq P N X K (⟨none, some sd, .box tt x, t, m⟩ :: rest) E w :=
  q_box hx hv hd fun w1 hb hB => h w1 _ (Nat.le_refl _) hb hB
theorem Blk.cellsAt {w : World} {b : Nat} {cs vs : List Value} {t : TypeId} (h : Blk w b cs t) (o n : Nat) (hv : (cs.drop o).take n = vs) : CellsAt w b o vs := fun j v hj => by
  subst hv
  have hjn : j < n := by
    have := (List.getElem?_eq_some_iff.1 hj).1; simp at this; omega
  rw [List.getElem?_take_of_lt hjn, List.getElem?_drop] at hj
  exact h.cell hj
section
variable {x y : Operand} {i j : Bool} {ty ty' : TypeId}
class TBool (P : Program) (t : TypeId) : Prop where
  under : P.underlying t = some .bool
theorem run_eqBn [T : TBool P ty] (d : Nat) (w : World) : (Op.equalIn (d + 1) ty (.bool i) (.bool j)).run P w = .ok (i == j) w := by
  simp [Op.equalIn, run_under T.under]
theorem run_eqB [T : TBool P ty] (w : World) : (Op.equal ty (.bool i) (.bool j)).run P w = .ok (i == j) w := by
  simp only [Op.equal, Op.maxDepth]; exact run_eqBn 9999 w
theorem q_neqB [T : TBool P ty] (hx : ev E x = some (.bool i)) (hy : ev E y = some (.bool j)) (hd : dOK N (some sd) = true) (h : eseq P N X K rest (Env.set E sd (.bool (i != j))) w) : eseq P N X K (⟨none, some sd, .binOp .neq ty x y ty', t, m⟩ :: rest) E w :=
  q_pure _ rfl hd (fun a ha w' => by simp [execOp, QOp.oper, ha.eval hx, ha.eval hy, eqGuard, binOp, run_eqB]; cases i <;> cases j <;> rfl) h
end
end

/-! ### && and ||: the two ways meet again -/
theorem Sub.set {E0 E : Env} {d : Nat} {v : Value} (hd : Env.find E0 d = none) (h : Sub E0 E) : Sub E0 ((d, v) :: E) := fun s u hu => by
  rw [Env.find_cons]
  split
  · subst s; rw [hd] at hu; cases hu
  · exact h s u hu
theorem Sub.bool {E : Env} {s : Nat} {b : Bool} (c : Bool) (hs : Env.find E s = some (.bool b)) (hb : b = c) : Sub E ((s, .bool c) :: E) := fun x u hu => by
  rw [Env.find_cons]
  split
  · subst x; rw [hs] at hu; rw [← hb]; exact hu
  · exact hu
theorem seqW_append {P : Program} {X : Nat → Prop} {K : Act → World → Prop} : ∀ (G rest : List QOp) (a : Act) (w : World), seqW P X (fun a' w' => seqW P X K rest a' w') G a w → seqW P X K (G ++ rest) a w
  | [], rest, a, w, h => h
  | q :: G, rest, a, w, h => by
    simp only [List.cons_append, seqW] at h ⊢
    split at h
    · rename_i hw
      rw [if_pos hw]
      split at h
      · rename_i hc
        rw [if_pos hc]
        obtain ⟨v, h1, h2⟩ := h
        exact ⟨v, h1, seqW_append G rest _ _ h2⟩
      · rename_i hc
        rw [if_neg hc]
        split at h
        · rename_i hc1
          rw [if_pos hc1]
          obtain ⟨v, h1, h2⟩ := h
          exact ⟨v, h1, seqW_append G rest _ _ h2⟩
        · rename_i hc1
          rw [if_neg hc1]
          exact Oper.wp_mono (fun a1 w1 ⟨v, e, hB, hs⟩ => ⟨v, e, hB, seqW_append G rest _ _ hs⟩) h
    · rename_i hw
      rw [if_neg hw]
      exact seqW_append G rest _ _ h
theorem eseq_append {P : Program} {N : Fr} {X : Nat → Prop} {K K1 : Env → World → Prop} {E : Env} {w : World} {G rest : List QOp} (h : eseq P N X K1 G E w) (h2 : ∀ E' w', K1 E' w' → eseq P N X K rest E' w') : eseq P N X K (G ++ rest) E w := by
  intro d a ha
  refine seqW_append G rest a _ ?_
  have key : ∀ (G : List QOp) (a : Act) (w : World), seqW P X (fun a' w' => ∃ E' w0 d', w' = w0.atd d' ∧ Has a' N E' ∧ K1 E' w0) G a w → seqW P X (fun a' w' => seqW P X (fun a' w' => ∃ E' w0 d', w' = w0.atd d' ∧ Has a' N E' ∧ K E' w0) rest a' w') G a w := by
    intro G
    induction G with
    | nil =>
      rintro a w ⟨E', w0, d', rfl, hE, hK⟩
      exact h2 E' w0 hK d' a hE
    | cons q G ih =>
      intro a w h
      simp only [seqW] at h ⊢
      split at h
      · rename_i hw
        rw [if_pos hw]
        split at h
        · rename_i hc
          rw [if_pos hc]
          obtain ⟨v, h1, h2⟩ := h
          exact ⟨v, h1, ih _ _ h2⟩
        · rename_i hc
          rw [if_neg hc]
          split at h
          · rename_i hc1
            rw [if_pos hc1]
            obtain ⟨v, h1, h2⟩ := h
            exact ⟨v, h1, ih _ _ h2⟩
          · rename_i hc1
            rw [if_neg hc1]
            exact Oper.wp_mono (fun a1 w1 ⟨v, e, hB, hs⟩ => ⟨v, e, hB, ih _ _ hs⟩) h
      · rename_i hw
        rw [if_neg hw]
        exact ih _ _ h
  exact key G a _ (h d a ha)
/-- what an operand of && or || leaves: all that was known, a Bool, and only new memory -/
def KB (E0 : Env) (w0 : World) (x : Operand) (r : Bool) : Env → World → Prop := fun E w => Below w0.heap.size w0 w ∧ Sub E0 E ∧ ev E x = some (.bool r)
def gT (E : Env) : Option (Nat × Bool) → Prop
  | none => True
  | some (s, b) => Env.find E s = some (.bool b)
theorem g_open {P : Program} {N : Fr} {X : Nat → Prop} {K : Env → World → Prop} {E : Env} {w : World} {g : Option (Nat × Bool)} {dst : Option Nat} {op : Op} {t : TypeId} {m : Bool} {rest : List QOp} (hg : gT E g)
    (h : eseq P N X K (⟨none, dst, op, t, m⟩ :: rest) E w) : eseq P N X K (⟨g, dst, op, t, m⟩ :: rest) E w := by
  cases g with
  | none => exact h
  | some p => obtain ⟨s, b⟩ := p; exact g_run hg h
theorem gT.sub {E E' : Env} {g : Option (Nat × Bool)} (h : gT E g) (hs : Sub E E') : gT E' g := by
  cases g with
  | none => trivial
  | some p => obtain ⟨s, b⟩ := p; exact hs _ _ h
theorem g_and {P : Program} {N : Fr} {X : Nat → Prop} {K : Env → World → Prop} {E : Env} {w : World} {s d : Nat} {b : Bool} {x : Operand} {t : TypeId} {m : Bool} {g : Option (Nat × Bool)} (n : Nat) {qs rest : List QOp} (hq : qs.drop n = ⟨g, some d, .pick (.tmp s) x (.const (.bool false)), t, m⟩ :: rest)
    (hgd : gT E g) (hs : Env.find E s = some (.bool b)) (hd : dOK N (some d) = true)
    (H : ∃ r : Bool, (b = true → eseq P N X (KB E w x r) (qs.take n) ((s, .bool true) :: E) w) ∧ (b = false → eseq P N X (fun E' w' => w' = w ∧ Sub E E') (qs.take n) ((s, .bool false) :: E) w) ∧
      ∀ w', Below w.heap.size w w' → eseq P N X K rest (Env.set E d (.bool (b && r))) w') : eseq P N X K qs E w := by
  obtain ⟨r, ht, hf, h⟩ := H
  rw [← List.take_append_drop n qs, hq]
  cases b with
  | true =>
    have h1 := eseq_append (rest := ⟨g, some d, .pick (.tmp s) x (.const (.bool false)), t, m⟩ :: rest) (ht rfl) (K := K) fun E' w' ⟨hB, hsub, hx⟩ => by
      refine g_open (hgd.sub hsub) (q_pick_true (hsub s _ hs) hx hd ?_)
      intro dd a ha
      exact h w' hB dd a (ha.weaken fun y u hu => by
        rw [Env.find_cons] at hu ⊢
        split at hu
        · rename_i he; rw [if_pos he]; simpa using hu
        · rename_i he; rw [if_neg he]; exact hsub y u hu)
    intro dd a ha
    exact h1 dd a (ha.weaken fun y u hu => by
      rw [Env.find_cons] at hu
      split at hu
      · rename_i he; subst he; rw [hs]; exact hu
      · exact hu)
  | false =>
    have h1 := eseq_append (rest := ⟨g, some d, .pick (.tmp s) x (.const (.bool false)), t, m⟩ :: rest) (hf rfl) (K := K) fun E' w' ⟨hw, hsub⟩ => by
      subst hw
      refine g_open (hgd.sub hsub) (q_pick_false (hsub s _ hs) rfl hd ?_)
      intro dd a ha
      exact h w' (Below.refl _ _) dd a (ha.weaken fun y u hu => by
        rw [Env.find_cons] at hu ⊢
        split at hu
        · rename_i he; rw [if_pos he]; simpa using hu
        · rename_i he; rw [if_neg he]; exact hsub y u hu)
    intro dd a ha
    exact h1 dd a (ha.weaken fun y u hu => by
      rw [Env.find_cons] at hu
      split at hu
      · rename_i he; subst he; rw [hs]; exact hu
      · exact hu)
theorem g_or {P : Program} {N : Fr} {X : Nat → Prop} {K : Env → World → Prop} {E : Env} {w : World} {s d : Nat} {b : Bool} {x : Operand} {t : TypeId} {m : Bool} {g : Option (Nat × Bool)} (n : Nat) {qs rest : List QOp} (hq : qs.drop n = ⟨g, some d, .pick (.tmp s) (.const (.bool true)) x, t, m⟩ :: rest)
    (hgd : gT E g) (hs : Env.find E s = some (.bool b)) (hd : dOK N (some d) = true)
    (H : ∃ r : Bool, (b = true → eseq P N X (fun E' w' => w' = w ∧ Sub E E') (qs.take n) ((s, .bool true) :: E) w) ∧ (b = false → eseq P N X (KB E w x r) (qs.take n) ((s, .bool false) :: E) w) ∧
      ∀ w', Below w.heap.size w w' → eseq P N X K rest (Env.set E d (.bool (b || r))) w') : eseq P N X K qs E w := by
  obtain ⟨r, ht, hf, h⟩ := H
  rw [← List.take_append_drop n qs, hq]
  cases b with
  | false =>
    have h1 := eseq_append (rest := ⟨g, some d, .pick (.tmp s) (.const (.bool true)) x, t, m⟩ :: rest) (hf rfl) (K := K) fun E' w' ⟨hB, hsub, hx⟩ => by
      refine g_open (hgd.sub hsub) (q_pick_false (hsub s _ hs) hx hd ?_)
      intro dd a ha
      exact h w' hB dd a (ha.weaken fun y u hu => by
        rw [Env.find_cons] at hu ⊢
        split at hu
        · rename_i he; rw [if_pos he]; simpa using hu
        · rename_i he; rw [if_neg he]; exact hsub y u hu)
    intro dd a ha
    exact h1 dd a (ha.weaken fun y u hu => by
      rw [Env.find_cons] at hu
      split at hu
      · rename_i he; subst he; rw [hs]; exact hu
      · exact hu)
  | true =>
    have h1 := eseq_append (rest := ⟨g, some d, .pick (.tmp s) (.const (.bool true)) x, t, m⟩ :: rest) (ht rfl) (K := K) fun E' w' ⟨hw, hsub⟩ => by
      subst hw
      refine g_open (hgd.sub hsub) (q_pick_true (hsub s _ hs) rfl hd ?_)
      intro dd a ha
      exact h w' (Below.refl _ _) dd a (ha.weaken fun y u hu => by
        rw [Env.find_cons] at hu ⊢
        split at hu
        · rename_i he; rw [if_pos he]; simpa using hu
        · rename_i he; rw [if_neg he]; exact hsub y u hu)
    intro dd a ha
    exact h1 dd a (ha.weaken fun y u hu => by
      rw [Env.find_cons] at hu
      split at hu
      · rename_i he; subst he; rw [hs]; exact hu
      · exact hu)
theorem g_skipU {P : Program} {N : Fr} {X : Nat → Prop} {K : Env → World → Prop} {E : Env} {w : World} {s : Nat} {b : Bool} {dst : Option Nat} {op : Op} {t : TypeId} {m : Bool} {rest : List QOp} (hs : Env.find E s = some undef) (hd : dOK N dst = true)
    (h : eseq P N X K rest (E.put dst undef) w) : eseq P N X K (⟨some (s, b), dst, op, t, m⟩ :: rest) E w := by
  intro d a ha
  have hw : ¬ QOp.wanted ⟨some (s, b), dst, op, t, m⟩ a = true := by
    simp [QOp.wanted, ha.slot s _ hs, boolOf, undef]
  simp only [seqW, hw]
  exact h d _ (ha.putD hd undef)
end Go.Mine
