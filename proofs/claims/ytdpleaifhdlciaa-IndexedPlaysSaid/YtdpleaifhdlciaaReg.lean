import Derived.Test.YtdpleaifhdlciaaBase
namespace Go.Mine
open Go.RowKit

/-! ### a region in one canonical order -/
structure QOp where
  g : Option (Nat × Bool)
  dst : Option Nat
  op : Op
  type : TypeId
  mono : Bool

/-- 0: the value hangs on the operands alone; 1: it reads memory; 2: it may change the world. -/
def cls : Op → Nat
  | .move _ | .assign _ | .pick .. | .nilCheck _ | .binOp .. | .unOp .. | .fieldAddr .. | .field .. | .indexAddr .. | .index .. | .extract .. | .build .. | .slice .. | .convert .. | .makeFunc .. => 0
  | .call { callee := .builtin b, .. } => match b with
    | .len | .cap | .min | .max => 0
    | _ => 2
  | .load .. => 1
  | _ => 2

def QOp.oper (q : QOp) : Oper := { dst := q.dst, op := q.op, type := q.type, pos := "", after := #[], guard := none }

def boolOf : Option Value → Option Bool
  | some (.bool b) => some b
  | _ => none
def QOp.wanted (q : QOp) (a : Act) : Bool :=
  match q.g with
  | none => true
  | some (s, b) => boolOf a.tmps[s]? == some b

/-- but for the blocks of X (and new ones) memory is as it was -/
structure RelX (X : Nat → Prop) (w w' : World) : Prop where
  os : w'.os = w.os
  tape : w'.tape = w.tape
  output : w'.output = w.output
  size : w.heap.size ≤ w'.heap.size
  block : ∀ k, k < w.heap.size → ¬ X k → w'.heap[k]? = w.heap[k]?
theorem RelX.refl (X : Nat → Prop) (w : World) : RelX X w w := ⟨rfl, rfl, rfl, Nat.le_refl _, fun _ _ _ => rfl⟩
theorem RelX.trans {X : Nat → Prop} {a b c : World} (h : RelX X a b) (k : RelX X b c) : RelX X a c :=
  ⟨k.os.trans h.os, k.tape.trans h.tape, k.output.trans h.output, Nat.le_trans h.size k.size, fun i hi hx => (k.block i (Nat.lt_of_lt_of_le hi h.size) hx).trans (h.block i hi hx)⟩
theorem RelX.of_below {X : Nat → Prop} {w w' : World} (h : Below w.heap.size w w') : RelX X w w' := ⟨h.os, h.tape, h.output, h.size, fun k hk _ => h.block k hk⟩

def seqW (P : Program) (X : Nat → Prop) (K : Act → World → Prop) : List QOp → Act → World → Prop
  | [], a, w => K a w
  | q :: rest, a, w =>
    if q.wanted a = true then
      if cls q.op = 0 then ∃ v, (∀ w', (execOp a.eval q.oper).run P w' = .ok (.value v) w') ∧ seqW P X K rest (a.put q.dst v) w
      else if cls q.op = 1 then ∃ v, (∀ w', RelX X w w' → (execOp a.eval q.oper).run P w' = .ok (.value v) w') ∧ seqW P X K rest (a.put q.dst v) w
      else q.oper.wp P a w (fun a' w' => ∃ v, a' = a.put q.dst v ∧ (q.mono = true → RelX X w w') ∧ seqW P X K rest (a.put q.dst v) w') (fun _ _ _ => False)
    else seqW P X K rest (a.put q.dst undef) w

def mkQ (l : List Oper) (m : Bool) (o : Oper) : QOp :=
  ⟨match o.guard with | none => none | some (j, b) => some (((l.getD j default).dst).getD 0, b), o.dst, o.op, o.type, m⟩
def compile (l : List Oper) (ms : List Nat) (ord : List Nat) : List QOp := ord.map fun i => mkQ l (ms.contains i) (l.getD i default)

/-! the static check -/
def subM (x y : Nat) : Bool := Nat.beq (x ||| y) y
theorem subM_spec {x y : Nat} (h : subM x y = true) (k : Nat) (hk : x.testBit k = true) : y.testBit k = true := by
  have e : x ||| y = y := Nat.eq_of_beq_eq_true h
  rw [← e, Nat.testBit_or, hk]; rfl
def predM (o : Oper) : Nat := o.after.toList.foldl (fun m e => bif Region.binds .any e then m ||| 2 ^ e.on else m) 0
def ancM (A : List Nat) (o : Oper) : Nat := o.after.toList.foldl (fun m e => bif Region.binds .any e then m ||| 2 ^ e.on ||| A.getD e.on 0 else m) 0
theorem foldM {f : Edge → Nat} : ∀ (es : List Edge) (m k : Nat),
    (es.foldl (fun m e => bif Region.binds .any e then m ||| f e else m) m).testBit k = true ↔ m.testBit k = true ∨ ∃ e ∈ es, Region.binds .any e = true ∧ (f e).testBit k = true
  | [], m, k => by simp
  | e :: es, m, k => by
    rw [List.foldl_cons, foldM es]
    cases hb : Region.binds .any e
    · simp [hb]
    · simp only [cond_true, Nat.testBit_or, Bool.or_eq_true, List.mem_cons, exists_eq_or_imp, hb, true_and]
      constructor
      · rintro ((h | h) | h)
        · exact .inl h
        · exact .inr (.inl h)
        · exact .inr (.inr h)
      · rintro (h | h | h)
        · exact .inl (.inl h)
        · exact .inl (.inr h)
        · exact .inr h
theorem predM_spec (o : Oper) (k : Nat) : (predM o).testBit k = true ↔ ∃ e ∈ o.after, Region.binds .any e = true ∧ e.on = k := by
  unfold predM
  rw [foldM (f := fun e => 2 ^ e.on)]
  simp [Nat.testBit_two_pow]
theorem ancM_spec (A : List Nat) (o : Oper) (k : Nat) : (ancM A o).testBit k = true ↔ ∃ e ∈ o.after, Region.binds .any e = true ∧ (e.on = k ∨ (A.getD e.on 0).testBit k = true) := by
  unfold ancM
  have := foldM (f := fun e => 2 ^ e.on ||| A.getD e.on 0) o.after.toList 0 k
  simp only [Nat.or_assoc] at *
  rw [this]
  simp [Nat.testBit_or, Nat.testBit_two_pow]

def touches (l : List Oper) (o : Oper) : List Nat :=
  (o.op.operands.toList.filterMap fun | .tmp t => some t | _ => none) ++ (match o.guard with | none => [] | some (j, _) => [((l.getD j default).dst).getD 0])

def chk (l : List Oper) (A ms : List Nat) : (dm em rm : Nat) → List Nat → Bool
  | _, _, _, [] => true
  | dm, em, rm, i :: rest =>
    match l[i]? with
    | none => false
    | some o => subM (predM o) dm && subM em (A.getD i 0) && (!Nat.beq (cls o.op) 2 || ms.contains i || subM rm (A.getD i 0)) &&
        chk l A ms (dm ||| 2 ^ i) (bif Nat.beq (cls o.op) 2 then em ||| 2 ^ i else em) (bif Nat.beq (cls o.op) 1 then rm ||| 2 ^ i else rm) rest

def isBad : Op → Bool
  | .select .. | .defer _ | .go _ => true
  | _ => false

def perOp (l : List Oper) (A : List Nat) (N i : Nat) (o : Oper) : Bool :=
  o.after.toList.all (fun e => !Region.binds .any e || Nat.blt e.on i) && subM (A.getD i 0) (ancM A o) &&
  (match o.dst with | none => true | some d => Nat.blt d N) && !isBad o.op &&
  (match o.guard with | none => true | some (j, _) => ((l[j]?).bind (·.dst)).isSome) &&
  l.zipIdx.all fun (oj, j) => Nat.beq i j || (match oj.dst with
    | none => true
    | some s => (match o.dst with | none => true | some d => !Nat.beq d s) && (!(touches l o).contains s || (A.getD i 0).testBit j || (A.getD j 0).testBit i))

def regOK (l : List Oper) (A ms ord : List Nat) (N : Nat) : Bool :=
  Nat.beq ord.length l.length && decide ord.Nodup && (List.range l.length).all (ord.contains ·) && chk l A ms 0 0 0 ord && l.zipIdx.all fun (o, i) => perOp l A N i o

def anc (A : List Nat) (i k : Nat) : Prop := (A.getD i 0).testBit k = true

structure Static (l : List Oper) (A ms ord : List Nat) (N : Nat) : Prop where
  nodup : ord.Nodup
  cover : ∀ i, i < l.length → i ∈ ord
  lt : ∀ (i : Nat) (o : Oper), l[i]? = some o → ∀ e ∈ o.after, Region.binds .any e = true → e.on < i
  anc : ∀ (i : Nat) (o : Oper), l[i]? = some o → ∀ k, anc A i k → ∃ e ∈ o.after, Region.binds .any e = true ∧ (e.on = k ∨ anc A e.on k)
  dst : ∀ (i : Nat) (o : Oper) (d : Nat), l[i]? = some o → o.dst = some d → d < N
  ok : ∀ (i : Nat) (o : Oper), l[i]? = some o → isBad o.op = false
  guard : ∀ (i : Nat) (o : Oper) (j : Nat) (b : Bool), l[i]? = some o → o.guard = some (j, b) → ∃ (oj : Oper) (s : Nat), l[j]? = some oj ∧ oj.dst = some s
  apart : ∀ (i : Nat) (o : Oper) (j : Nat) (oj : Oper) (s : Nat), l[i]? = some o → l[j]? = some oj → i ≠ j → oj.dst = some s → o.dst ≠ some s ∧ (s ∈ touches l o → Go.Mine.anc A i j ∨ Go.Mine.anc A j i)
  order : ∀ d1 i d2, ord = d1 ++ i :: d2 → ∃ o, l[i]? = some o ∧ (∀ e ∈ o.after, Region.binds .any e = true → e.on ∈ d1) ∧
    (∀ k ok, k ∈ d1 → l[k]? = some ok → cls ok.op = 2 → Go.Mine.anc A i k) ∧
    (cls o.op = 2 → ms.contains i = false → ∀ k ok, k ∈ d1 → l[k]? = some ok → cls ok.op = 1 → Go.Mine.anc A i k)

theorem chk_spec {l : List Oper} {A ms : List Nat} : ∀ (rest : List Nat) (dm em rm : Nat) (D : List Nat), chk l A ms dm em rm rest = true →
    (∀ k, dm.testBit k = true ↔ k ∈ D) → (∀ k, em.testBit k = true ↔ k ∈ D ∧ ∃ o, l[k]? = some o ∧ cls o.op = 2) → (∀ k, rm.testBit k = true ↔ k ∈ D ∧ ∃ o, l[k]? = some o ∧ cls o.op = 1) →
    ∀ d1 i d2, rest = d1 ++ i :: d2 → ∃ o, l[i]? = some o ∧ (∀ e ∈ o.after, Region.binds .any e = true → e.on ∈ D ++ d1) ∧
      (∀ k ok, k ∈ D ++ d1 → l[k]? = some ok → cls ok.op = 2 → anc A i k) ∧
      (cls o.op = 2 → ms.contains i = false → ∀ k ok, k ∈ D ++ d1 → l[k]? = some ok → cls ok.op = 1 → anc A i k) := by
  intro rest
  induction rest with
  | nil => intro _ _ _ _ _ _ _ _ d1 i d2 h; cases d1 <;> cases h
  | cons x rest ih =>
    intro dm em rm D h hd he hr d1 i d2 hs
    rw [chk] at h
    cases hx : l[x]? with
    | none => rw [hx] at h; cases h
    | some o =>
      rw [hx] at h
      simp only [Bool.and_eq_true, Bool.or_eq_true, Bool.not_eq_true'] at h
      obtain ⟨⟨⟨h1, h2⟩, h3⟩, h4⟩ := h
      cases d1 with
      | nil =>
        obtain ⟨rfl, rfl⟩ : x = i ∧ rest = d2 := by simpa using hs
        refine ⟨o, hx, fun e hm hb => ?_, fun k ok hk hok hc => ?_, fun hc hms k ok hk hok hc1 => ?_⟩
        · simpa using (hd e.on).1 (subM_spec h1 _ ((predM_spec o e.on).2 ⟨e, hm, hb, rfl⟩))
        · exact subM_spec h2 _ ((he k).2 ⟨by simpa using hk, ok, hok, hc⟩)
        · rcases h3 with (h3 | h3) | h3
          · rw [hc] at h3; cases h3
          · rw [hms] at h3; cases h3
          · exact subM_spec h3 _ ((hr k).2 ⟨by simpa using hk, ok, hok, hc1⟩)
      | cons y d1 =>
        obtain ⟨rfl, rfl⟩ : x = y ∧ rest = d1 ++ i :: d2 := by simpa using hs
        have := ih _ _ _ (D ++ [x]) h4 (fun k => by
            simp only [Nat.testBit_or, Nat.testBit_two_pow, Bool.or_eq_true, decide_eq_true_eq, List.mem_append, List.mem_singleton, hd k]
            constructor <;> rintro (h | h) <;> first | exact .inl h | exact .inr h.symm) (fun k => ?_) (fun k => ?_) d1 i d2 rfl
        · simpa [List.append_assoc] using this
        · cases hc : Nat.beq (cls o.op) 2
          · have hne : cls o.op ≠ 2 := fun e => by rw [e] at hc; cases hc
            simp only [cond_false, he k, List.mem_append, List.mem_singleton]
            constructor
            · rintro ⟨hk, r⟩; exact ⟨.inl hk, r⟩
            · rintro ⟨hk | rfl, r⟩
              · exact ⟨hk, r⟩
              · obtain ⟨o', ho', hc'⟩ := r; rw [hx] at ho'; cases ho'; exact absurd hc' hne
          · have he2 : cls o.op = 2 := Nat.eq_of_beq_eq_true hc
            simp only [cond_true, Nat.testBit_or, Nat.testBit_two_pow, Bool.or_eq_true, decide_eq_true_eq, he k, List.mem_append, List.mem_singleton]
            constructor
            · rintro (⟨hk, r⟩ | rfl)
              · exact ⟨.inl hk, r⟩
              · exact ⟨.inr rfl, o, hx, he2⟩
            · rintro ⟨hk | rfl, r⟩
              · exact .inl ⟨hk, r⟩
              · exact .inr rfl
        · cases hc : Nat.beq (cls o.op) 1
          · have hne : cls o.op ≠ 1 := fun e => by rw [e] at hc; cases hc
            simp only [cond_false, hr k, List.mem_append, List.mem_singleton]
            constructor
            · rintro ⟨hk, r⟩; exact ⟨.inl hk, r⟩
            · rintro ⟨hk | rfl, r⟩
              · exact ⟨hk, r⟩
              · obtain ⟨o', ho', hc'⟩ := r; rw [hx] at ho'; cases ho'; exact absurd hc' hne
          · have he2 : cls o.op = 1 := Nat.eq_of_beq_eq_true hc
            simp only [cond_true, Nat.testBit_or, Nat.testBit_two_pow, Bool.or_eq_true, decide_eq_true_eq, hr k, List.mem_append, List.mem_singleton]
            constructor
            · rintro (⟨hk, r⟩ | rfl)
              · exact ⟨.inl hk, r⟩
              · exact ⟨.inr rfl, o, hx, he2⟩
            · rintro ⟨hk | rfl, r⟩
              · exact .inl ⟨hk, r⟩
              · exact .inr rfl

theorem mem_zipIdx' {l : List Oper} {o : Oper} {i : Nat} (h : l[i]? = some o) : (o, i) ∈ l.zipIdx := by
  rw [List.mem_zipIdx_iff_getElem?]; exact h

theorem static_of {l : List Oper} {A ms ord : List Nat} {N : Nat} (h : regOK l A ms ord N = true) : Static l A ms ord N := by
  simp only [regOK, Bool.and_eq_true, decide_eq_true_eq] at h
  obtain ⟨⟨⟨⟨_, hnd⟩, hcov⟩, hchk⟩, hper⟩ := h
  have per : ∀ i o, l[i]? = some o → perOp l A N i o = true := fun i o hi => by
    have := List.all_eq_true.1 hper (o, i) (mem_zipIdx' hi)
    simpa using this
  refine ⟨hnd, fun i hi => ?_, fun i o hi e he hb => ?_, fun i o hi k hk => ?_, fun i o d hi hd => ?_, fun i o hi => ?_, fun i o j b hi hg => ?_, fun i o j oj s hi hj hne hs => ?_, fun d1 i d2 hsp => ?_⟩
  · have := List.all_eq_true.1 hcov i (List.mem_range.2 hi); simpa using this
  all_goals try have hp := per i o hi
  all_goals try simp only [perOp, Bool.and_eq_true] at hp
  · have := List.all_eq_true.1 hp.1.1.1.1.1 e (by simpa using he)
    simp only [hb, Bool.not_true, Bool.false_or] at this
    simpa [Nat.blt_eq] using this
  · exact (ancM_spec A o k).1 (subM_spec hp.1.1.1.1.2 k hk)
  · have := hp.1.1.1.2; rw [hd] at this; simpa [Nat.blt_eq] using this
  · simpa using hp.1.1.2
  · have := hp.1.2
    rw [hg] at this
    simp only [Option.isSome_iff_exists] at this
    obtain ⟨s, hs⟩ := this
    cases hj : l[j]? with
    | none => rw [hj] at hs; cases hs
    | some oj => rw [hj] at hs; exact ⟨oj, s, rfl, hs⟩
  · have := List.all_eq_true.1 hp.2 (oj, j) (mem_zipIdx' hj)
    simp only [hs, Bool.or_eq_true, Bool.and_eq_true] at this
    rcases this with this | ⟨h1, h2⟩
    · exact absurd (Nat.eq_of_beq_eq_true this) hne
    · refine ⟨fun hd => ?_, fun hm => ?_⟩
      · rw [hd] at h1; simp at h1
      · rcases h2 with (h2 | h2) | h2
        · simp [hm] at h2
        · exact .inl h2
        · exact .inr h2
  · have := chk_spec ord 0 0 0 [] hchk (by simp) (by simp) (by simp) d1 i d2 hsp
    simpa using this
end Go.Mine
