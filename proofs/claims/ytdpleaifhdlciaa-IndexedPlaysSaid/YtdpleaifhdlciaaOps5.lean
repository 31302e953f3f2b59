import Derived.Test.YtdpleaifhdlciaaOps4
namespace Go.Mine
open Go.RowKit

/-! ### struct values -/
def structPlaces (P : Program) (t : TypeId) : Option (List (Nat × Nat)) :=
  match P.underlying t with
  | some (.struct fs) => fs.toList.mapM fun f => (P.info? f.type).map fun i => (f.offset, i.size)
  | _ => none
class TStruct (P : Program) (t : TypeId) (places : outParam (List (Nat × Nat))) (z : outParam (List Value)) : Prop where
  places0 : structPlaces P t = some places
  zero0 : ((P.info? t).bind TypeInfo.zero).map (fun v => v.cells.toList) = some z
def fillL (places : List (Nat × Nat)) : List Value → List (Nat × List Value) → Option (List Value)
  | cs, [] => some cs
  | cs, (i, c) :: rest => match places[i]? with
    | none => none
    | some (off, size) => bif Nat.beq c.length size && Nat.ble (off + c.length) cs.length then fillL places (setN cs off c) rest else none
inductive Parts (E : Env) : List (Nat × Operand) → List (Nat × Value) → List (Nat × List Value) → Prop
  | nil : Parts E [] [] []
  | cons {i : Nat} {x : Operand} {v : Value} {c : List Value} {ps : List (Nat × Operand)} {vs : List (Nat × Value)} {cs : List (Nat × List Value)} :
      ev E x = some v → v.cells = c.toArray → Parts E ps vs cs → Parts E ((i, x) :: ps) ((i, v) :: vs) ((i, c) :: cs)

theorem length_setN : ∀ (c cs : List Value) (o : Nat), (setN cs o c).length = cs.length
  | [], cs, o => rfl
  | v :: c, cs, o => by rw [setN, length_setN c]; simp
theorem fold_setN (off : Nat) : ∀ (c : List Value) (k : Nat) (A : Array Value), (c.zipIdx k).foldl (fun B p => B.setIfInBounds (off + p.2) p.1) A = (setN A.toList (off + k) c).toArray
  | [], k, A => by simp [setN]
  | v :: c, k, A => by
    rw [List.zipIdx_cons, List.foldl_cons, fold_setN off c (k + 1), setN]
    simp [Nat.add_assoc]
theorem fill_eq {places : List (Nat × Nat)} : ∀ {ps : List (Nat × Operand)} {vs : List (Nat × Value)} {pc : List (Nat × List Value)} {E : Env}, Parts E ps vs pc → ∀ (cs out : List Value), fillL places cs pc = some out →
    Instr.fill (places.toArray[·]?) cs.toArray vs = some out.toArray := by
  intro ps vs pc E h
  induction h with
  | nil => intro cs out h; simp [fillL] at h; subst h; rfl
  | @cons i x v c ps vs pc hx hv _ ih =>
    intro cs out h
    rw [fillL] at h
    cases hp : places[i]? with
    | none => rw [hp] at h; cases h
    | some p =>
      obtain ⟨off, size⟩ := p
      rw [hp] at h
      simp only at h
      cases hc : (Nat.beq c.length size && Nat.ble (off + c.length) cs.length)
      · rw [hc] at h; cases h
      · rw [hc] at h
        simp only [cond_true] at h
        simp only [Bool.and_eq_true] at hc
        have h1 : c.length = size := Nat.eq_of_beq_eq_true hc.1
        have h2 : off + c.length ≤ cs.length := Nat.le_of_ble_eq_true hc.2
        have h3 : v.cells.size = size := by simp [hv, h1]
        have := ih _ _ h
        unfold Instr.fill
        simp only [List.getElem?_toArray, hp, h3]
        have hnot : (decide (size ≠ size) || decide (off + size > cs.toArray.size)) = false := by simp; omega
        have hif : ¬ ((size ≠ size || off + size > cs.toArray.size) = true) := by simp; omega
        simp only [ne_eq, not_true, decide_false, Bool.false_or] at *
        rw [if_neg (by simp; omega)]
        have hf := fold_setN off c 0 cs.toArray
        rw [hv]
        rw [← Array.foldl_toList, Array.toList_zipIdx]
        simp only [Nat.add_zero] at hf
        rw [hf]
        have e1 : (fun x : Nat => places.toArray[x]?) = (fun x : Nat => places[x]?) := by funext x; simp
        rw [e1] at this; exact this
theorem mapM_sem {α β : Type} {P : Program} {f : α → Sem β} {g : α → β} (w : World) : ∀ (l : List α), (∀ x ∈ l, (f x).run P w = .ok (g x) w) → (l.mapM f).run P w = .ok (l.map g) w
  | [], _ => by simp
  | x :: l, h => by
    have h1 := h x (by simp)
    have h2 := mapM_sem w l fun y hy => h y (by simp [hy])
    simp [List.mapM_cons, h1, h2]

section
variable {P : Program} {N : Nat} {X : Nat → Prop} {K : Env → World → Prop} {E : Env} {w : World} {t : TypeId} {m : Bool} {rest : List QOp} {sd : Nat}
theorem places_run {P : Program} : ∀ (l : List Field) (places : List (Nat × Nat)) (w : World), l.mapM (fun f => (P.info? f.type).map fun i => (f.offset, i.size)) = some places → (l.mapM fun f => (Prod.mk f.offset <$> sizeOf f.type : Sem (Nat × Nat))).run P w = .ok places w
  | [], places, w, h => by simp at h; subst h; simp
  | f :: l, places, w, h => by
    rw [List.mapM_cons] at h
    cases hf : P.info? f.type with
    | none => rw [hf] at h; simp at h
    | some i =>
      rw [hf] at h
      simp only [Option.map_some, Option.bind_eq_bind, Option.bind_some] at h
      cases hl : l.mapM (fun f => (P.info? f.type).map fun i => (f.offset, i.size)) with
      | none => rw [hl] at h; simp at h
      | some ps =>
        rw [hl] at h
        simp at h; subst h
        have ih := places_run l ps w hl
        simp only [List.mapM_cons]
        simp [run_size hf, ih]
theorem q_build {tt : TypeId} {places : List (Nat × Nat)} {z cs : List Value} {ps : List (Nat × Operand)} {vs : List (Nat × Value)} {pc : List (Nat × List Value)} [TS : TStruct P tt places z] (hp : Parts E ps vs pc) (hf : fillL places z pc = some cs) (hd : dOK N (some sd) = true)
    (h : eseq P N X K rest (Env.set E sd (.agg cs.toArray)) w) : eseq P N X K (⟨none, some sd, .build tt ps.toArray, t, m⟩ :: rest) E w := by
  have h1 := TS.places0
  unfold structPlaces at h1
  obtain ⟨zv, h5, h6⟩ := ex_of_map TS.zero0
  split at h1
  · rename_i fs hu
    refine q_pure _ rfl hd (fun a ha w' => ?_) h
    have hvs : (ps.map fun (p : Nat × Operand) => (p.1, a.eval p.2)) = vs := by
      clear hf h h1 hu
      induction hp with
      | nil => rfl
      | cons hx _ _ ih => simp [ha.eval hx, ih]
    have hz : ∃ i, P.info? tt = some i ∧ i.zero = some zv := by
      cases hi : P.info? tt with
      | none => rw [hi] at h5; cases h5
      | some i => rw [hi] at h5; exact ⟨i, rfl, h5⟩
    obtain ⟨i, hi, hzz⟩ := hz
    have hfill := fill_eq (places := places) hp z cs hf
    have hzc : zv.cells = z.toArray := by rw [← h6]
    have hpl := places_run (P := P) fs.toList places w' h1
    simp only [execOp, QOp.oper, Instr.build]
    simp [zeroValue, typeInfo, hi, hzz, run_under hu, hzc]
    have hA : (Array.mapM (fun f => (Prod.mk f.offset <$> sizeOf f.type : Sem (Nat × Nat))) fs).run P w' = .ok places.toArray w' := by
      rw [Array.mapM_eq_mapM_toList]
      simp [hpl]
    simp [hA, hvs]
    rw [show (fun x : Nat => places[x]?) = (fun x : Nat => places.toArray[x]?) from by funext x; simp]
    rw [hfill]
    simp
  · cases h1
end
end Go.Mine
