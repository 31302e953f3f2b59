import Derived.Test.YtdpleaifhdlciaaReg2
import Derived.KernelRfl
namespace Go.Mine
open Go.RowKit

def eseq (P : Program) (N : Nat) (X : Nat → Prop) (K : Env → World → Prop) (qs : List QOp) (E : Env) (w : World) : Prop :=
  ∀ d a, Has a N E → seqW P X (fun a' w' => ∃ E' w0 d', w' = w0.atd d' ∧ Has a' N E' ∧ K E' w0) qs a (w.atd d)

def guardsOK (l : List Oper) : Bool := l.all fun o => match o.guard with | none => true | some (j, _) => ((l[j]?).bind (·.dst)).isSome

section
variable {P : Program} {N : Nat} {X : Nat → Prop} {Q : EPost} {K : Env → World → Prop} {E : Env} {w : World}

theorem eseq_nil (h : K E w) : eseq P N X K [] E w := fun d _ ha => ⟨E, w, d, rfl, ha, h⟩

/-- a region that draws its order, in one canonical order -/
theorem e_region_draw {id : Nat} {l : List Oper} (hm : P.follows .mixedOrders = true) (X : Nat → Prop) (A ms ord : List Nat) (hok : regOK l A ms ord N = true)
    (h : eseq P N X (Q .normal) (compile l ms ord) E w) : ewp P N (.region id l.toArray true) Q E w := by
  intro d a ha
  have S := static_of hok
  refine wp_region_any hm ?_
  refine region_any (X := X) S (K := fun a' w' => ∃ E' w0 d', w' = w0.atd d' ∧ Has a' N E' ∧ Q .normal E' w0) (fun a' w' ⟨E', w0, d', hw, hE, hQ⟩ => ⟨E', w0, d', hw, hE, hQ⟩) (a0 := a) _ _ _ _ (List.range l.length) (by simp) List.nodup_range (fun i => ?_) (by simp) ?_
  · by_cases h : i < l.length <;> simp [Array.getD, h]
  · have hl : ∀ i, ¬ (Array.replicate l.toArray.size false).getD i false = true := fun i => by
      by_cases h : i < l.length <;> simp [Array.getD, h]
    refine advance S ord [] (fun _ => undef) a ⟨rfl, fun i hi => absurd hi (hl i), fun i o hi => absurd hi (hl i), fun i o hi => (by cases hi), h (d + 1) a ha, ?_, ?_, fun d1 i d2 hd => (by cases d1 <;> cases hd)⟩
    · exact ⟨rfl, ha.size, fun i o s _ _ hi => absurd hi (hl i), fun _ _ => rfl⟩
    · exact ⟨rfl, ha.size, fun i o s _ _ hi => (by cases hi), fun _ _ => rfl⟩

theorem wpList_of_seq {l : List Oper} (hg : guardsOK l = true) {Q : Exit → Act → World → Prop} {K : Act → World → Prop} (hQ : ∀ a w, K a w → Q .normal a w) : ∀ (r : List Oper) (a : Act) (w : World), (∀ o ∈ r, o ∈ l) →
    seqW P X K (r.map (mkQ l false)) a w → wpList P l.toArray Q r a w := by
  intro r
  induction r with
  | nil => exact fun a w _ h => hQ _ _ h
  | cons o r ih =>
    intro a w hm h
    have hr : ∀ o' ∈ r, o' ∈ l := fun o' ho' => hm o' (List.mem_cons_of_mem _ ho')
    have hw : Region.wanted o (yielded l.toArray a.tmps) = (mkQ l false o).wanted a := by
      unfold Region.wanted QOp.wanted mkQ
      cases hgd : o.guard with
      | none => rfl
      | some p =>
        obtain ⟨j, b⟩ := p
        have := List.all_eq_true.1 hg o (hm o (by simp))
        rw [hgd] at this
        obtain ⟨s, hs⟩ := Option.isSome_iff_exists.1 this
        cases hj : l[j]? with
        | none => rw [hj] at hs; cases hs
        | some oj =>
          rw [hj] at hs
          have hs' : oj.dst = some s := hs
          have : yielded l.toArray a.tmps j = boolOf a.tmps[s]? := by
            unfold yielded
            simp only [List.getElem?_toArray, hj, Option.bind_some, hs']
            cases a.tmps[s]? with
            | none => rfl
            | some v => cases v <;> rfl
          simp only [this, getD_of hj, hs', Option.getD_some]
    unfold wpList
    simp only [List.map_cons, seqW] at h
    split at h
    · rename_i hw1
      rw [if_pos (hw.trans hw1)]
      refine .inl ?_
      split at h
      · obtain ⟨v, hv, hs⟩ := h
        have hv' : (execOp a.eval o).run P w = .ok (.value v) w := hv w
        unfold Oper.wp; rw [hv']
        exact ih _ _ hr hs
      · split at h
        · obtain ⟨v, hv, hs⟩ := h
          have hv' : (execOp a.eval o).run P w = .ok (.value v) w := hv w (RelX.refl _ _)
          unfold Oper.wp; rw [hv']
          exact ih _ _ hr hs
        · have he : execOp a.eval o = execOp a.eval (mkQ l false o).oper := rfl
          refine Oper.wp_mono (fun a1 w1 h1 => ?_) (wp_transfer (Q := Q) he h)
          obtain ⟨u, rfl, v, huv, _, hs⟩ := h1
          refine ih _ _ hr ?_
          have huv' : a.put o.dst u = a.put o.dst v := huv
          rw [huv']; exact hs
    · rename_i hw1
      rw [if_neg (by rw [hw]; exact hw1)]
      exact ih _ _ hr h

/-- a region in the text's order -/
theorem e_region_text {id : Nat} {l : List Oper} (hok : guardsOK l = true) (h : eseq P N (fun _ => False) (Q .normal) (l.map (mkQ l false)) E w) : ewp P N (.region id l.toArray false) Q E w := by
  intro d a ha
  exact wp_region_lit (wpList_of_seq hok (fun a' w' ⟨E', w0, d', hw, hE, hQ⟩ => ⟨E', w0, d', hw, hE, hQ⟩) l a _ (fun _ h => h) (h d a ha))

/-! ### one operation -/
def Env.put (E : Env) (dst : Option Nat) (v : Value) : Env := match dst with | none => E | some d => (d, v) :: E
def dOK (N : Nat) (dst : Option Nat) : Bool := match dst with | none => true | some d => Nat.blt d N
theorem Has.putD {a : Act} {dst : Option Nat} (h : Has a N E) (hd : dOK N dst = true) (v : Value) : Has (a.put dst v) N (E.put dst v) := by
  cases dst with
  | none => exact h
  | some d => exact h.put (by simpa [dOK, Nat.blt_eq] using hd) v

theorem wanted_none (dst : Option Nat) (op : Op) (t : TypeId) (m : Bool) (a : Act) : QOp.wanted ⟨none, dst, op, t, m⟩ a = true := rfl

theorem q_pure {dst : Option Nat} {op : Op} {t : TypeId} {m : Bool} {rest : List QOp} (v : Value) (hc : cls op = 0) (hd : dOK N dst = true)
    (hrun : ∀ a, Has a N E → ∀ w', (execOp a.eval (QOp.oper ⟨none, dst, op, t, m⟩)).run P w' = .ok (.value v) w') (h : eseq P N X K rest (E.put dst v) w) :
    eseq P N X K (⟨none, dst, op, t, m⟩ :: rest) E w := by
  intro d a ha
  simp only [seqW, hc, if_true, wanted_none]
  exact ⟨v, hrun a ha, h d _ (ha.putD hd v)⟩
theorem q_read {dst : Option Nat} {op : Op} {t : TypeId} {m : Bool} {rest : List QOp} (v : Value) (hc : cls op = 1) (hd : dOK N dst = true)
    (hrun : ∀ a, Has a N E → ∀ w', RelX X w w' → (execOp a.eval (QOp.oper ⟨none, dst, op, t, m⟩)).run P w' = .ok (.value v) w') (h : eseq P N X K rest (E.put dst v) w) :
    eseq P N X K (⟨none, dst, op, t, m⟩ :: rest) E w := by
  intro d a ha
  have h0 : ¬ cls op = 0 := by omega
  simp only [seqW, hc, if_true, wanted_none]
  rw [if_neg (by omega)]
  exact ⟨v, fun w' hB => hrun a ha w' ⟨hB.os, hB.tape, hB.output, hB.size, hB.block⟩, h d _ (ha.putD hd v)⟩
theorem q_eff {dst : Option Nat} {op : Op} {t : TypeId} {m : Bool} {rest : List QOp} (hc : cls op = 2)
    (hrun : ∀ a, Has a N E → ∀ d, (QOp.oper ⟨none, dst, op, t, m⟩).wp P a (w.atd d) (fun a' w' => ∃ v w1 d', w' = w1.atd d' ∧ a' = a.put dst v ∧ dOK N dst = true ∧ (m = true → RelX X w w1) ∧ eseq P N X K rest (E.put dst v) w1) (fun _ _ _ => False)) :
    eseq P N X K (⟨none, dst, op, t, m⟩ :: rest) E w := by
  intro d a ha
  have h0 : ¬ cls op = 0 := by omega
  have h1 : ¬ cls op = 1 := by omega
  simp only [seqW, h0, h1, if_true, if_false, wanted_none]
  refine Oper.wp_mono (fun a' w' h => ?_) (hrun a ha d)
  obtain ⟨v, w1, d', rfl, rfl, hd, hB, hs⟩ := h
  exact ⟨v, rfl, fun hm => let hB := hB hm; ⟨hB.os, hB.tape, hB.output, hB.size, hB.block⟩, hs d' _ (ha.putD hd v)⟩

/-! guards -/
theorem g_run {s : Nat} {b : Bool} {dst : Option Nat} {op : Op} {t : TypeId} {m : Bool} {rest : List QOp} (hs : Env.find E s = some (.bool b))
    (h : eseq P N X K (⟨none, dst, op, t, m⟩ :: rest) E w) : eseq P N X K (⟨some (s, b), dst, op, t, m⟩ :: rest) E w := by
  intro d a ha
  have := h d a ha
  have hw : QOp.wanted ⟨some (s, b), dst, op, t, m⟩ a = true := by simp [QOp.wanted, ha.slot s _ hs, boolOf]
  simp only [seqW, wanted_none, if_true] at this
  simp only [seqW, hw, if_true]
  exact this
theorem g_skip {s : Nat} {b b' : Bool} {dst : Option Nat} {op : Op} {t : TypeId} {m : Bool} {rest : List QOp} (hs : Env.find E s = some (.bool b')) (hb : Bool.xor b b' = true) (hd : dOK N dst = true)
    (h : eseq P N X K rest (E.put dst undef) w) : eseq P N X K (⟨some (s, b), dst, op, t, m⟩ :: rest) E w := by
  intro d a ha
  have hw : ¬ QOp.wanted ⟨some (s, b), dst, op, t, m⟩ a = true := by
    simp only [QOp.wanted, ha.slot s _ hs, boolOf]
    cases b <;> cases b' <;> simp_all
  simp only [seqW, hw]
  exact h d _ (ha.putD hd undef)
/-- a Bool that the environment holds, written out in each of the two cases -/
theorem g_split {s : Nat} {b : Bool} {qs : List QOp} (hs : Env.find E s = some (.bool b)) (ht : b = true → eseq P N X K qs ((s, .bool true) :: E) w) (hf : b = false → eseq P N X K qs ((s, .bool false) :: E) w) :
    eseq P N X K qs E w := by
  intro d a ha
  cases b with
  | true => exact ht rfl d a (ha.weaken fun x v hx => by rw [Env.find_cons] at hx; split at hx; · subst s; rw [hs]; exact hx
                                                         · exact hx)
  | false => exact hf rfl d a (ha.weaken fun x v hx => by rw [Env.find_cons] at hx; split at hx; · subst s; rw [hs]; exact hx
                                                          · exact hx)
end
end Go.Mine
