import Derived.Test.YtdpleaifhdlciaaOps
set_option linter.unusedVariables false
namespace Go.Mine
open Go.RowKit
/-! ### a region that draws its order, order by order -/
def eany (P : Program) (N : Nat) (l : List Oper) (Q : EPost) (fuel : Nat) (listed : Array Bool) (E : Env) (w : World) : Prop :=
  ∀ d a, Has a N E → wpAny P .any l.toArray (lift N Q) fuel listed a (w.atd d)
section
variable {P : Program} {N : Nat} {Q : EPost} {E : Env} {w : World} {l : List Oper}
theorem e_region_tree {id : Nat} (hm : P.follows .mixedOrders = true) (n : Nat) (hn : l.length = n) (h : eany P N l Q n (Array.replicate n false) E w) : ewp P N (.region id l.toArray true) Q E w := by
  intro d a ha
  refine wp_region_any hm ?_
  have := h (d + 1) a ha
  subst hn
  have e : l.toArray.size = l.length := by simp
  rw [e]; exact this
theorem eany_sub {E0 : Env} {fuel : Nat} {listed : Array Bool} (hs : Sub E0 E) (h : eany P N l Q fuel listed E0 w) : eany P N l Q fuel listed E w := fun d a ha => h d a (ha.weaken hs)
theorem a_meet {J : Env → World → Prop} {fuel0 : Nat} {listed0 : Array Bool} (fuel : Nat) (listed : Array Bool) (h1 : ∀ E' w', J E' w' → eany P N l Q fuel listed E' w') (h2 : (∀ E' w', J E' w' → eany P N l Q fuel listed E' w') → eany P N l Q fuel0 listed0 E w) : eany P N l Q fuel0 listed0 E w := h2 h1
theorem a_done {fuel : Nat} {listed : Array Bool} (hr : Region.ready .any l.toArray listed = []) (h : Q .normal E w) : eany P N l Q fuel listed E w := fun d a ha => wpAny_done hr ⟨E, w, d, rfl, ha, h⟩ fuel
theorem a_node {fuel : Nat} {listed : Array Bool} (hg : guardsOK l = true) (rs : List Nat) (hr : Region.ready .any l.toArray listed = rs) (hne : rs ≠ [])
    (h : ∀ i ∈ rs, ∃ o, l[i]? = some o ∧ eseq P N (fun _ => False) (fun E' w' => eany P N l Q fuel (listed.setIfInBounds i true) E' w') [mkQ l false o] E w) : eany P N l Q (fuel + 1) listed E w := by
  intro d a ha
  refine wpAny_all hr hne fun i hi => ?_
  obtain ⟨o, ho, hs⟩ := h i hi
  have hs := hs d a ha
  have hK : ∀ a' w', (∃ E' w0 d', w' = w0.atd d' ∧ Has a' N E' ∧ eany P N l Q fuel (listed.setIfInBounds i true) E' w0) → wpAny P .any l.toArray (lift N Q) fuel (listed.setIfInBounds i true) a' w' := by
    rintro a' w' ⟨E', w0, d', rfl, hE, hq⟩; exact hq d' a' hE
  have hw : Region.wanted o (yielded l.toArray a.tmps) = (mkQ l false o).wanted a := by
    unfold Region.wanted QOp.wanted mkQ
    cases hgd : o.guard with
    | none => rfl
    | some p =>
      obtain ⟨j, b⟩ := p
      have := List.all_eq_true.1 hg o (List.mem_of_getElem? ho)
      rw [hgd] at this
      obtain ⟨s, hs⟩ := Option.isSome_iff_exists.1 this
      cases hj : l[j]? with
      | none => rw [hj] at hs; cases hs
      | some oj =>
        rw [hj] at hs
        have hs' : oj.dst = some s := hs
        have : yielded l.toArray a.tmps j = boolOf a.tmps[s]? := by
          unfold yielded
          simp only [List.getElem?_toArray, hj, Option.bind_some, hs']
          cases a.tmps[s]? with
          | none => rfl
          | some v => cases v <;> rfl
        simp only [this, getD_of hj, hs', Option.getD_some]
  unfold wpOp
  simp only [List.getElem?_toArray, ho]
  simp only [seqW] at hs
  split at hs
  · rename_i hw1
    rw [if_pos (hw.trans hw1)]
    refine .inl ?_
    split at hs
    · obtain ⟨v, hv, hs⟩ := hs
      have hv' : (execOp a.eval o).run P (w.atd d) = .ok (.value v) (w.atd d) := hv (w.atd d)
      unfold Oper.wp; rw [hv']
      exact hK _ _ hs
    · split at hs
      · obtain ⟨v, hv, hs⟩ := hs
        have hv' : (execOp a.eval o).run P (w.atd d) = .ok (.value v) (w.atd d) := hv (w.atd d) (RelX.refl _ _)
        unfold Oper.wp; rw [hv']
        exact hK _ _ hs
      · have he : execOp a.eval o = execOp a.eval (mkQ l false o).oper := rfl
        refine Oper.wp_mono (fun a1 w1 h1 => ?_) (wp_transfer (Q := lift N Q) he hs)
        obtain ⟨u, rfl, v, huv, _, hs⟩ := h1
        have huv' : a.put o.dst u = a.put o.dst v := huv
        rw [huv']; exact hK _ _ hs
  · rename_i hw1
    rw [if_neg (by rw [hw]; exact hw1)]
    exact hK _ _ hs
/-- one operation stands next -/
theorem a_one {fuel : Nat} {listed : Array Bool} (hg : guardsOK l = true) (i : Nat) (hr : Region.ready .any l.toArray listed = [i]) {o : Oper} (ho : l[i]? = some o)
    (h : eseq P N (fun _ => False) (fun E' w' => eany P N l Q fuel (listed.setIfInBounds i true) E' w') [mkQ l false o] E w) : eany P N l Q (fuel + 1) listed E w :=
  a_node hg [i] hr (by simp) fun j hj => by simp at hj; subst hj; exact ⟨o, ho, h⟩
/-- one of two operations stands next -/
theorem a_two {fuel : Nat} {listed : Array Bool} (hg : guardsOK l = true) (i j : Nat) (hr : Region.ready .any l.toArray listed = [i, j]) {o o' : Oper} (ho : l[i]? = some o) (ho' : l[j]? = some o')
    (h : eseq P N (fun _ => False) (fun E' w' => eany P N l Q fuel (listed.setIfInBounds i true) E' w') [mkQ l false o] E w) (h' : eseq P N (fun _ => False) (fun E' w' => eany P N l Q fuel (listed.setIfInBounds j true) E' w') [mkQ l false o'] E w) : eany P N l Q (fuel + 1) listed E w :=
  a_node hg [i, j] hr (by simp) fun k hk => by
    simp at hk
    rcases hk with rfl | rfl
    · exact ⟨o, ho, h⟩
    · exact ⟨o', ho', h'⟩
end
end Go.Mine
