import Derived.Test.YtddohdppmejjoaaLibD
import Derived.Shelf.SlSortCmp.NoneTotal
import Derived.Shelf.Spec.SlicesGrow
set_option linter.unusedVariables false
namespace Go.Mine
open Go.RowKit
/-! ### exact worlds: for functions that are handed to the library -/
def dwp (P : Program) (N : Fr) (c : Code) (Q : EPost) (E : Env) (w : World) : Prop := ∀ a, Has a N E → c.wp P (fun e a' w' => ∃ E', Has a' N E' ∧ Q e E' w') a w
def dseq (P : Program) (N : Fr) (X : Nat → Prop) (K : Env → World → Prop) (qs : List QOp) (E : Env) (w : World) : Prop :=
  ∀ a, Has a N E → seqW P X (fun a' w' => ∃ E', Has a' N E' ∧ K E' w') qs a w
section
variable {P : Program} {N : Fr} {X : Nat → Prop} {Q : EPost} {K : Env → World → Prop} {E : Env} {w : World} {t : TypeId} {m : Bool} {rest : List QOp}
theorem d_ret (h : Q .ret E w) : dwp P N .ret Q E w := fun _ ha => wp_ret ⟨E, ha, h⟩
theorem d_seq {x y : Code} (h : ∀ K : Env → World → Prop, (∀ E w, dwp P N y Q E w → K E w) → dwp P N x (EThen K Q) E w) : dwp P N (.seq x y) Q E w := by
  intro a ha
  refine wp_seq (wp_mono (h (fun E w => dwp P N y Q E w) (fun _ _ h => h) a ha) ?_)
  rintro e a' w' ⟨E', hE, hQ⟩
  cases e with
  | normal => exact hQ a' hE
  | _ => exact ⟨E', hE, hQ⟩
theorem d_nil (h : K E w) : dseq P N X K [] E w := fun _ ha => ⟨E, ha, h⟩
theorem d_region_draw {id : Nat} {l : List Oper} (hm : P.follows .mixedOrders = true) (X : Nat → Prop) (A ms ord : List Nat) (hok : regOK l A ms ord N.n = true)
    (h : dseq P N X (Q .normal) (compile l ms ord) E w.drew) : dwp P N (.region id l.toArray true) Q E w := by
  intro a ha
  have S := static_of hok
  refine wp_region_any hm ?_
  refine region_any (X := X) S (K := fun a' w' => ∃ E', Has a' N E' ∧ Q .normal E' w') (fun a' w' h => h) (a0 := a) _ _ _ _ (List.range l.length) (by simp) List.nodup_range (fun i => ?_) (by simp) ?_
  · by_cases h : i < l.length <;> simp [Array.getD, h]
  · have hl : ∀ i, ¬ (Array.replicate l.toArray.size false).getD i false = true := fun i => by
      by_cases h : i < l.length <;> simp [Array.getD, h]
    refine advance S ord [] (fun _ => undef) a ⟨rfl, fun i hi => absurd hi (hl i), fun i o hi => absurd hi (hl i), fun i o hi => (by cases hi), h a ha, ?_, ?_, fun d1 i d2 hd => (by cases d1 <;> cases hd)⟩
    · exact ⟨rfl, ha.size, fun i o s _ _ hi => absurd hi (hl i), fun _ _ => rfl⟩
    · exact ⟨rfl, ha.size, fun i o s _ _ hi => (by cases hi), fun _ _ => rfl⟩
theorem d_region_text {id : Nat} {l : List Oper} (hok : guardsOK l = true) (h : dseq P N (fun _ => False) (Q .normal) (l.map (mkQ l false)) E w) : dwp P N (.region id l.toArray false) Q E w := by
  intro a ha
  exact wp_region_lit (wpList_of_seq hok (fun a' w' h => h) l a _ (fun _ h => h) (h a ha))
theorem d_pure {dst : Option Nat} {op : Op} (v : Value) (hc : cls op = 0) (hd : dOK N dst = true)
    (hrun : ∀ a, Has a N E → ∀ w', (execOp a.eval (QOp.oper ⟨none, dst, op, t, m⟩)).run P w' = .ok (.value v) w') (h : dseq P N X K rest (E.put dst v) w) : dseq P N X K (⟨none, dst, op, t, m⟩ :: rest) E w := by
  intro a ha
  simp only [seqW, hc, if_true, wanted_none]
  exact ⟨v, hrun a ha, h _ (ha.putD hd v)⟩
theorem d_read {dst : Option Nat} {op : Op} (v : Value) (hc : cls op = 1) (hd : dOK N dst = true)
    (hrun : ∀ a, Has a N E → ∀ w', RelX X w w' → (execOp a.eval (QOp.oper ⟨none, dst, op, t, m⟩)).run P w' = .ok (.value v) w') (h : dseq P N X K rest (E.put dst v) w) : dseq P N X K (⟨none, dst, op, t, m⟩ :: rest) E w := by
  intro a ha
  have h0 : ¬ cls op = 0 := by omega
  simp only [seqW, hc, if_true, wanted_none]
  rw [if_neg (by omega)]
  exact ⟨v, fun w' hB => hrun a ha w' hB, h _ (ha.putD hd v)⟩
theorem d_eff {dst : Option Nat} {op : Op} (hc : cls op = 2)
    (hrun : ∀ a, Has a N E → (QOp.oper ⟨none, dst, op, t, m⟩).wp P a w (fun a' w' => ∃ v, a' = a.put dst v ∧ dOK N dst = true ∧ (m = true → RelX X w w') ∧ dseq P N X K rest (E.put dst v) w') (fun _ _ _ => False)) :
    dseq P N X K (⟨none, dst, op, t, m⟩ :: rest) E w := by
  intro a ha
  have h0 : ¬ cls op = 0 := by omega
  have h1 : ¬ cls op = 1 := by omega
  simp only [seqW, h0, h1, if_true, if_false, wanted_none]
  refine Oper.wp_mono (fun a' w' h => ?_) (hrun a ha)
  obtain ⟨v, rfl, hd, hB, hs⟩ := h
  exact ⟨v, rfl, hB, hs _ (ha.putD hd v)⟩
theorem d_assign {sd : Nat} {x : Operand} {v : Value} (hx : ev E x = some v) (hd : dOK N (some sd) = true) (h : dseq P N X K rest (Env.set E sd v) w) : dseq P N X K (⟨none, some sd, .assign x, t, m⟩ :: rest) E w :=
  d_pure v rfl hd (fun a ha w' => by simp [execOp, QOp.oper, ha.eval hx]) h
theorem d_field {sd : Nat} {x : Operand} {s f b off o : Nat} [T : TField P s f o] (hx : ev E x = some (.pointer (some ⟨b, off, none⟩)))
    (hd : dOK N (some sd) = true) (h : dseq P N X K rest (Env.set E sd (.pointer (some ⟨b, off + o, none⟩))) w) : dseq P N X K (⟨none, some sd, .fieldAddr s x f, t, m⟩ :: rest) E w := by
  obtain ⟨fs, fd, h1, h2, h3, inf, h4, h5⟩ := T.field
  exact d_pure _ rfl hd (fun a ha w' => by simp [execOp, QOp.oper, ha.eval hx, Instr.fieldAt, run_under h1, h2, Instr.sureAddr, fieldPlace, run_size h4, h5, h3, add_mk]) h
theorem d_load {sd : Nat} {x : Operand} {tt : TypeId} {ad : Addr} {v : Value} [T : TCell P tt] (hx : ev E x = some (.pointer (some ad))) (hc : w.cell? ad = some v)
    (hd : dOK N (some sd) = true) (h : dseq P N (fun _ => False) K rest (Env.set E sd v) w) : dseq P N (fun _ => False) K (⟨none, some sd, .load tt x, t, m⟩ :: rest) E w := by
  obtain ⟨d, h1, h2⟩ := T.under
  refine d_read v rfl hd (fun a ha w' hB => ?_) h
  have hc' := cell_relX hB hc id
  have hA := run_isAgg h1 w'
  rw [h2] at hA
  simp [execOp, QOp.oper, ha.eval hx, Instr.loadAt, Instr.sureAddr, loadVar, hA, load, Sem.run, hc']
theorem alloc_belowD (w : World) (o : Obj) : Below w.heap.size w (w.alloc o) := alloc_below w w.drawn o
theorem alloc_blkD (w : World) (cs : List Value) (t : TypeId) : Blk (w.alloc (.cells cs.toArray t)) w.heap.size cs t := alloc_blk w w.drawn cs t
theorem d_box {sd : Nat} {x : Operand} {tt : TypeId} {v : Value} {cs : List Value} (hx : ev E x = some v) (hv : v.cells = cs.toArray) (hd : dOK N (some sd) = true)
    (h : dseq P N X K rest (Env.set E sd (.pointer (some ⟨w.heap.size, 0, none⟩))) (w.alloc (.cells cs.toArray tt))) : dseq P N X K (⟨none, some sd, .box tt x, t, m⟩ :: rest) E w := by
  refine d_eff rfl fun a ha => ?_
  have hrun : (execOp a.eval (QOp.oper ⟨none, some sd, .box tt x, t, m⟩)).run P w = .ok (.value (.pointer (some ⟨w.heap.size, 0, none⟩))) (w.alloc (.cells cs.toArray tt)) := by
    simp [execOp, QOp.oper, Instr.box, ha.eval hx, newVar, newRow, hv, newObj, Sem.run]
  unfold Oper.wp
  rw [hrun]
  exact ⟨_, rfl, hd, fun _ => .of_below (alloc_belowD w _), h⟩
theorem d_sliceN {sd : Nat} {ps : List (Nat × Operand)} {vs : List (Nat × Value)} {pc : List (Nat × List Value)} {ts e sz bytes n : Nat} {cs z : List Value} [TS : TSlice P ts e sz] [TE : TElem P e bytes z] (hp : Parts E ps vs pc) (hz0 : Nat.beq z.length sz = true) (hl : fillS sz (zs z n) pc = some cs)
    (h0 : Nat.blt 0 (n * sz) = true) (h24 : Nat.ble (n * sz) 1000 = true) (hd : dOK N (some sd) = true)
    (h : dseq P N X K rest (Env.set E sd (.slice (some ⟨w.heap.size, 0, none⟩) n n)) (w.alloc (.cells cs.toArray e))) : dseq P N X K (⟨none, some sd, .buildSlice ts n ps.toArray, t, m⟩ :: rest) E w := by
  have hz : z.length = sz := Nat.eq_of_beq_eq_true hz0
  obtain ⟨inf, zv, h1, h2, h3, h4⟩ := TE.parts
  obtain ⟨inf', h5, h6⟩ := TS.size
  rw [h1] at h5; cases h5
  have h0' : 0 < n * sz := by simpa [Nat.blt_eq] using h0
  have h24' : n * sz ≤ 1000 := by simpa using h24
  refine d_eff rfl fun a ha => ?_
  have hvs : (ps.map fun (p : Nat × Operand) => (p.1, a.eval p.2)) = vs := by
    clear hl h
    induction hp with
    | nil => rfl
    | cons hx _ _ ih => simp [ha.eval hx, ih]
  have hf := fillS_eq (sz := sz) hp (zs z n) cs hl
  have hzz : (zs z n).toArray = (Array.range (n * inf.size)).map (zv.cells[· % zv.cells.size]!) := by
    have hlen : 0 < z.length := by
      rcases Nat.eq_zero_or_pos z.length with h | h
      · rw [h] at hz; subst hz; simp at h0'
      · exact h
    rw [h6, h4, zs, hz]
    apply Array.ext'
    simp only [Array.toList_map, Array.toList_range]
    apply List.map_congr_left
    intro i _
    have : i % sz < z.length := by rw [hz] at hlen ⊢; exact Nat.mod_lt _ hlen
    simp [hz, List.getD]
    rw [List.getElem?_eq_getElem (by simpa [hz] using this)]; simp
  have hrun : (execOp a.eval (QOp.oper ⟨none, some sd, .buildSlice ts n ps.toArray, t, m⟩)).run P w = .ok (.value (.slice (some ⟨w.heap.size, 0, none⟩) n n)) (w.alloc (.cells cs.toArray e)) := by
    have hb := run_buildSlice (P := P) w ts e n (ps.toArray.map fun (p : Nat × Operand) => (p.1, a.eval p.2)) cs.toArray inf zv TS.under h1 h3 (by rw [h6]; omega) (by rw [h6]; omega) (by
      rw [← hzz, h6]; simp only [List.map_toArray]; rw [hvs]; exact hf)
    simp only [execOp, QOp.oper]
    simp only [Sem.run_bind]
    rw [hb]; rfl
  unfold Oper.wp
  rw [hrun]
  exact ⟨_, rfl, hd, fun _ => .of_below (alloc_belowD w _), h⟩
theorem d_call {sd : Nat} {f : FuncId} {xs : List Operand} {ts : Array TypeId} {vs : List Value} {u : Value} [T : TFn P f] (hx : evs E xs = some vs) (hc : Calls P f vs.toArray w fun e w' => e = .returned u ∧ w' = w) (hd : dOK N (some sd) = true)
    (h : dseq P N X K rest (Env.set E sd u) w) : dseq P N X K (⟨none, some sd, .call { callee := .value (.func f), args := xs.toArray, argTypes := ts }, t, m⟩ :: rest) E w := by
  refine d_eff rfl fun a ha => ?_
  have hrun : (execOp a.eval (QOp.oper ⟨none, some sd, .call { callee := .value (.func f), args := xs.toArray, argTypes := ts }, t, m⟩)).run P w = .ok (.enter f vs.toArray) w := by
    have := run_callFunc (P := P) (f := f) vs.toArray w
    simp [execOp, QOp.oper, resolve, Act.eval, Deferred.ofValue, invoke]
    rw [show List.map a.eval xs = vs from evs_map ha hx]
    exact this
  unfold Oper.wp
  rw [hrun]
  refine hc.mono fun e w' h' => ?_
  obtain ⟨rfl, rfl⟩ := h'
  exact ⟨u, rfl, hd, fun _ => RelX.refl _ _, h⟩
theorem d_fn {f : FuncId} {fn : Func} {c : Code} {args : List Value} {R : Ending → World → Prop} {M : Nat} (hf : P.funcs[f]? = some fn) (hb : fn.body = some c) (hn : fn.ntmps = M) (hl : args.length ≤ M)
    (h : dwp P ⟨M, []⟩ c (fun e E w' => e = .ret ∧ ∃ v, Res P fn E w' v ∧ R (.returned v) w') (Env.ofArgs 0 args) w) : Calls P f args.toArray w R := by
  refine calls_of_wp hf hb (wp_mono (h _ ⟨rfl, ?_, fun s v hs => ?_⟩) ?_)
  · simp [hn]; omega
  · obtain ⟨_, h2⟩ := find_ofArgs args 0 s v hs
    have hlt : s < args.length := by
      rcases Nat.lt_or_ge s args.length with h | h
      · exact h
      · simp [List.getElem?_eq_none h] at h2
    simp only [Array.getElem?_append]
    rw [if_pos (by simpa using hlt)]
    simpa using h2
  · rintro e a' w' ⟨E', hE, rfl, v, hr, hΦ⟩
    exact ⟨hE.defers, v, hr a' _ w'.drawn hE, hΦ⟩
end
/-- only draws and new blocks -/
def Gr (W w : World) : Prop := ∃ q os, w = Sort.grow (W.drewN q) os
theorem Gr.refl (W : World) : Gr W W := ⟨0, #[], by simp [Sort.grow, World.drewN]⟩
theorem Gr.alloc {W w : World} (h : Gr W w) (o : Obj) : Gr W (w.alloc o) := by
  obtain ⟨q, os, rfl⟩ := h
  exact ⟨q, os.push o, by simp [Sort.grow, World.alloc, World.drewN, Array.push_append]⟩
theorem Gr.drew {W w : World} (h : Gr W w) : Gr W w.drew := by
  obtain ⟨q, os, rfl⟩ := h
  exact ⟨q + 1, os, rfl⟩
theorem Gr.below {W w : World} (h : Gr W w) : Below W.heap.size W w := by
  obtain ⟨q, os, rfl⟩ := h
  exact ⟨rfl, rfl, rfl, by simp [Sort.grow, World.drewN], fun k hk => by simp only [Sort.grow, World.drewN]; rw [Array.getElem?_append_left hk]⟩
theorem Gr.trans {W w w' : World} (h : Gr W w) (h' : Gr w w') : Gr W w' := by
  obtain ⟨q, os, rfl⟩ := h
  obtain ⟨q', os', rfl⟩ := h'
  exact ⟨q + q', os ++ os', by simp [Sort.grow, World.drewN, Array.append_assoc, Nat.add_assoc]⟩
section
variable {P : Program} {N : Fr} {X : Nat → Prop} {Q : EPost} {K : Env → World → Prop} {E : Env} {w : World} {t : TypeId} {m : Bool} {rest : List QOp}
end
end Go.Mine

namespace Go.Mine
open Go.RowKit Go.Shelf Go.Lib Go.Proofs
/-! ### slices.SortFunc at structs, by the shelf's contract -/
def sortL {α : Type} [Inhabited α] (cf : α → α → Int) (xs : List α) : List α := (Sort.pdq (ltOf cf) xs.toArray 0 xs.toArray.size (Lib.bitLen xs.toArray.size) true true).toList
section
variable {α : Type} [Inhabited α] {cf : α → α → Int}
theorem pdq_ok (hO : Sort.SWO (ltOf cf)) (xs : List α) : Sort.PermIn 0 xs.toArray.size xs.toArray (Sort.pdq (ltOf cf) xs.toArray 0 xs.toArray.size (Lib.bitLen xs.toArray.size) true true) ∧ Sort.SortedIn (ltOf cf) 0 xs.toArray.size (Sort.pdq (ltOf cf) xs.toArray 0 xs.toArray.size (Lib.bitLen xs.toArray.size) true true) :=
  Sort.pdq_sorts (ltOf cf) hO xs.toArray 0 xs.toArray.size (Lib.bitLen xs.toArray.size) true true (Nat.zero_le _) (Nat.le_refl _) (Or.inl rfl)
theorem sortL_perm (hO : Sort.SWO (ltOf cf)) (xs : List α) : (sortL cf xs).Perm xs := by
  obtain ⟨⟨h1, _, h3⟩, _⟩ := pdq_ok hO xs
  unfold sortL
  generalize Sort.pdq (ltOf cf) xs.toArray 0 xs.toArray.size (Lib.bitLen xs.toArray.size) true true = d at h1 h3
  have e : d.extract 0 xs.toArray.size = d := by rw [← h1]; simp
  rw [e] at h3
  simpa using h3
theorem sortL_length (hO : Sort.SWO (ltOf cf)) (xs : List α) : (sortL cf xs).length = xs.length := (sortL_perm hO xs).length_eq
theorem sortL_sorted (hO : Sort.SWO (ltOf cf)) (xs : List α) : (sortL cf xs).Pairwise fun x y => ltOf cf y x = false := by
  obtain ⟨⟨h1, _, _⟩, h2⟩ := pdq_ok hO xs
  unfold sortL
  generalize Sort.pdq (ltOf cf) xs.toArray 0 xs.toArray.size (Lib.bitLen xs.toArray.size) true true = d at h1 h2
  rw [List.pairwise_iff_getElem]
  intro i j hi hj hij
  have hi' : i < d.size := by simpa using hi
  have hj' : j < d.size := by simpa using hj
  have := h2 i j (Nat.zero_le _) hij (by omega)
  rw [getElem!_pos d j hj', getElem!_pos d i hi'] at this
  simpa using this
end
theorem flatK_get {α : Type} [Inhabited α] {enc : α → List Value} {k : Nat} (hk : ∀ x, (enc x).length = k) (xs : List α) (t : Nat) (ht : t < xs.length * k) : (xs.map enc).flatten[t]? = some ((Sort.flatK enc k xs.toArray)[t]!) := by
  have k0 : 0 < k := by rcases Nat.eq_zero_or_pos k with h | h; subst h; simp at ht; exact h
  have hd : t / k < xs.length := Nat.div_lt_of_lt_mul (by rw [Nat.mul_comm]; exact ht)
  have hm : t % k < k := Nat.mod_lt _ k0
  have e1 : xs.toArray[t / k]! = xs[t / k] := by rw [getElem!_pos _ _ (by simpa using hd)]; simp
  rw [Sort.get_flatK _ _ _ _ (by simpa using ht), e1]
  have hlen := hk xs[t / k]
  have := flatten_get (sz := k) (xs.map enc) (t / k) (t % k) (enc xs[t / k]) ((enc xs[t / k])[t % k]!) (by intro c hc; obtain ⟨x, _, rfl⟩ := List.mem_map.1 hc; exact hk x) (by simp [hd]) (by rw [getElem!_pos _ _ (by omega)]; simp)
  rwa [Nat.div_add_mod'] at this
theorem sortOwn {P : Program} {ρ : Ren} (L : SlLaysF0.n6 P ρ) {α : Type} [Inhabited α] {T : Ty α} {enc : α → List Value} [hE : Enc T enc] (aE : ∀ w, (isAgg (ρ.t 24)).run P w = .ok true w) (zE : ∀ w, (Go.sizeOf (ρ.t 24)).run P w = .ok T.sz w) (hk : ∀ x, (enc x).length = T.sz) (h1 : ∀ x, ∀ v ∈ enc x, v.oneCell' = true)
    {cf : α → α → Int} (hO : Sort.SWO (ltOf cf)) {g : Nat} (eg : ∀ args w, (callFunc g args).run P w = .ok (.enter g args) w)
    (hcmp : ∀ (W : World) (x y : α), Calls P g #[.agg (enc x).toArray, .agg (enc y).toArray] W fun e w' => e = .returned (.int .i64 (cf x y)) ∧ ∃ q os', w' = Sort.grow (W.drewN q) os')
    {F R S : Nat → Prop} {w : World} {e : TypeId} {v : Value} {xs : List α} (hS : Sep F R R w w [HP.own T S e v xs]) (hlen : xs.length < 4611686018427387904) :
    Gives P (ρ.f 6) [v, .func (.func g) #[] #[]] w fun u w1 => ∃ (R1 : Nat → Prop), u = .tuple #[] ∧ Sep F R R1 w w1 [HP.own T S e v (sortL cf xs)] := by
  have hown := hS.own 0 rfl
  intro d
  obtain ⟨cells, hl, hrow, hRx⟩ := hown.row
  have hcl : ∀ c ∈ cells, c.length = T.sz := fun c hc => by
    obtain ⟨q, hq, rfl⟩ := List.getElem_of_mem hc
    exact T.len (hRx q cells[q] (xs[q]'(by omega)) (by simp) (by simp))
  have hcells : cells = xs.map enc := by
    apply List.ext_getElem (by simp [hl])
    intro i h2 h3
    have hi : i < xs.length := by simpa using h3
    have := (hE.R _ _ _ _).1 (hRx i cells[i] xs[i] (by simp) (by simp))
    simpa using this
  rcases hrow.2 with ⟨rfl, h0⟩ | ⟨gb, cap, cur, rfl, h3, h4, h5, h6, h7, h8⟩
  · have hx0 : xs = [] := List.length_eq_zero_iff.1 h0
    subst hx0
    have hs0 : sortL cf ([] : List α) = [] := List.length_eq_zero_iff.1 (by rw [sortL_length hO]; rfl)
    refine (AnyF.slices_SortFunc_none (P := P) (ρ := ρ) L none 0 (.func (.func g) #[] #[]) (w.atd d)).mono fun e' w' h => ?_
    obtain ⟨rfl, rfl⟩ := h
    exact ⟨_, w, d, rfl, rfl, R, rfl, by rw [hs0]; exact hS⟩
  · have h4' : (w.atd d).heap[gb]? = some (.cells cur e (0, 0)) := h4
    have hblk : gb < (w.atd d).heap.size := (Array.getElem?_eq_some_iff.1 h4').1
    have hfl : (xs.map enc).flatten.length = xs.length * T.sz := by rw [← hcells, flat_len _ hcl, hl]
    have hH : Sort.HoldsK enc T.sz (w.atd d) gb 0 xs.toArray := by
      intro j hj
      have hj' : j < xs.length * T.sz := by simpa using hj
      refine ⟨?_, by simp [World.frozen?, h4]⟩
      have h9 := flatK_get hk xs j hj'
      rw [← hcells, ← h8, List.getElem?_take_of_lt hj'] at h9
      simp only [World.cell?, h4', Nat.zero_add, Option.isSome_none, Bool.false_eq_true, if_false]
      rw [← Array.getElem?_toList, h9]; rfl
    have hc := AnyQ.slices_SortFunc_eq L T.sz aE zE enc hk h1 cf hO g #[] gb 0 cap xs.toArray (w.atd d) eg (fun m os dk _ x y => hcmp _ x y) hH hblk (by simpa using hlen)
    rw [show xs.toArray.size = xs.length by simp] at hc
    refine hc.mono fun e' w' h => ?_
    obtain ⟨rfl, n, os, rfl⟩ := h
    have hsl : (sortL cf xs).length = xs.length := sortL_length hO xs
    have hpd : Sort.pdq (ltOf cf) xs.toArray 0 xs.length (Lib.bitLen xs.length) true true = (sortL cf xs).toArray := by unfold sortL; simp
    rw [hpd]
    generalize sortL cf xs = ys at hsl
    have hz : ∀ (k : Nat), k < w.heap.size → (sortWorldK enc T.sz (w.atd d) gb 0 n ys.toArray os).heap[k]? = if k = gb then some (.cells (Sort.putCells id 0 (Sort.flatK enc T.sz ys.toArray) cur) e (0, 0)) else w.heap[k]? := fun k hk2 => by
      unfold sortWorldK
      rw [Sort.heap_grow_old _ _ (by unfold Sort.putRowK; simpa using hk2)]
      unfold Sort.putRowK
      by_cases he : k = gb
      · subst he
        rw [if_pos rfl]
        simp [Sort.putRow, Sort.mapBlock, Sort.ahead, Array.getElem?_modify, h4, Sort.onCells]
      · rw [if_neg he]
        have : gb ≠ k := fun h => he h.symm
        simp [Sort.putRow, Sort.mapBlock, Sort.ahead, Array.getElem?_modify, this]
    have hsize : w.heap.size ≤ (sortWorldK enc T.sz (w.atd d) gb 0 n ys.toArray os).heap.size := by
      unfold sortWorldK Sort.putRowK
      simp [Sort.grow]
    refine ⟨_, sortWorldK enc T.sz (w.atd d) gb 0 n ys.toArray os, _, rfl, (atd_self _).symm, R, rfl, ?_⟩
    have hst : StepF (HP.own T S e (Value.slice (some ⟨gb, 0, none⟩) xs.length cap) xs).foot w (sortWorldK enc T.sz (w.atd d) gb 0 n ys.toArray os) :=
      ⟨rfl, rfl, rfl, hsize, fun k hk2 hn => by rw [hz k hk2, if_neg fun he => hn (by subst he; rfl)]⟩
    have := hS.set 0 rfl hst (c' := HP.own T S e (.slice (some ⟨gb, 0, none⟩) xs.length cap) ys) ?_ (fun k hk => .inl hk) (fun k hk => hS.depR 0 rfl k hk)
    · simpa only [List.set] using this
    · show Own T _ 0 S e _ ys
      have hyl : (ys.map enc).flatten.length = xs.length * T.sz := by rw [flat_len (sz := T.sz) _ (by intro c hc; obtain ⟨x, _, rfl⟩ := List.mem_map.1 hc; exact hk x)]; simp [hsl]
      have hcap : xs.length * T.sz ≤ cap * T.sz := Nat.mul_le_mul_right _ h5
      refine ⟨ys.map enc, by simp, ⟨by rw [hyl, hsl], .inr ⟨gb, cap, _, by rw [hsl], h3, by rw [hz gb hblk, if_pos rfl], by omega, h6, by simp [Sort.putCells, h7], ?_⟩⟩, fun i c x hc hx => ?_⟩
      · rw [hsl]
        apply List.ext_getElem?
        intro j
        by_cases hj : j < xs.length * T.sz
        · rw [List.getElem?_take_of_lt hj, Array.getElem?_toList, flatK_get hk ys j (by rw [hsl]; exact hj)]
          simp only [Sort.putCells, Array.getElem?_mapIdx]
          rw [Array.getElem?_eq_getElem (by omega : j < cur.size)]
          simp [hsl, hj]
        · rw [List.getElem?_take_eq_none (by omega), List.getElem?_eq_none (by omega)]
      · rw [List.getElem?_map] at hc
        rw [hx] at hc
        cases hc
        exact (hE.R _ _ _ _).2 rfl
/-- slices.Grow(nil, n) -/
theorem growNil {P : Program} {ρ : Ren} (L : Lays8.n4 P ρ) {α : Type} (T : Ty α) {ts bytes : Nat} {z : List Value} [TS : TSlice P ts (ρ.t 25) T.sz] [TE : TElem P (ρ.t 25) bytes z] (hz : z.length = T.sz) (hz0 : 0 < T.sz) (hb : bytes ≤ 1000)
    {F R : Nat → Prop} {w : World} (hS : Sep F R R w w []) {n : Int} (h0 : 0 ≤ n) (h1 : n ≤ 100000000000) :
    Gives P (ρ.f 4) [.slice none 0 0, .int .i64 n] w fun u w1 => ∃ (v2 : Value), ∃ (R1 : Nat → Prop), u = v2 ∧ Sep F R R1 w w1 [HP.own T (fun _ => False) (ρ.t 25) v2 []] := by
  obtain ⟨inf, zv, i1, i2, i3, i4⟩ := TE.parts
  obtain ⟨inf', i5, i6⟩ := TS.size
  rw [i1] at i5; cases i5
  obtain ⟨k, rfl⟩ := Int.eq_ofNat_of_zero_le h0
  intro d
  rcases Nat.eq_zero_or_pos k with hk | hk
  · subst hk
    refine (Any8.slices_Grow_room L none 0 0 0 (w.atd d) (Nat.le_refl _) (by omega) (by omega) (by omega)).mono fun e w' h => ?_
    obtain ⟨rfl, rfl⟩ := h
    exact ⟨_, w, d, rfl, rfl, _, R, rfl, hS.nilOwn0 T (ρ.t 25)⟩
  · have hbig : (0 + k) * inf.bytes ≤ 140737488355328 := by
      rw [i2, Nat.zero_add]
      have := Nat.mul_le_mul (show k ≤ 100000000000 by omega) hb
      omega
    have := Any8.slices_Grow_grow L inf zv i1 i3 (by omega) none 0 0 k [] (w.atd d) (Nat.le_refl _) (by omega) hbig (by omega) (by simp) (fun _ => rfl) (fun a h => by cases h)
    refine this.mono fun e w' h => ?_
    obtain ⟨rfl, rfl⟩ := h
    have hge : 0 + k ≤ grownCap (w.atd d) (0 + k) 0 (ρ.t 25) := grownCap_ge _ _ _ _
    have hle : grownCap (w.atd d) (0 + k) 0 (ρ.t 25) ≤ maxLen := grownCap_le_maxLen _ _ _ _ (by unfold maxLen; omega)
    generalize grownCap (w.atd d) (0 + k) 0 (ρ.t 25) = G at hge hle
    have hzc : ∀ m, (Builtin.zeroCells zv.cells m).size = m * T.sz := fun m => by simp [Builtin.zeroCells, i4, hz]
    have hB : Below w.heap.size w ((w.atd d).drew.alloc (.cells (([] : List Value).toArray ++ Builtin.zeroCells zv.cells (0 + k - 0) ++ Builtin.zeroCells zv.cells (G - (0 + k))) (ρ.t 25))) :=
      ⟨rfl, rfl, rfl, by simp [World.drew], fun q hq => by show (w.heap.push _)[q]? = _; rw [Array.getElem?_push, if_neg (by omega)]⟩
    refine ⟨_, _, _, rfl, (atd_self _).symm, _, R, rfl, hS.newOwnS hB (v := .slice (some ⟨w.heap.size, 0, none⟩) 0 G) ?_ (fun q hq => by cases hq; exact Nat.le_refl _) (fun _ h => h.elim)⟩
    refine ⟨[], rfl, ⟨by simp, .inr ⟨w.heap.size, G, ([] : List Value).toArray ++ Builtin.zeroCells zv.cells (0 + k - 0) ++ Builtin.zeroCells zv.cells (G - (0 + k)), rfl, Nat.zero_le _, ?_, Nat.zero_le _, hle, ?_, by simp⟩⟩, fun i c x h => by simp at h⟩
    · show (w.heap.push _)[w.heap.size]? = _; simp
    · refine Nat.le_of_eq (Eq.symm ?_)
      simp only [Array.size_append, hzc, List.size_toArray, List.length_nil]
      rw [Nat.zero_add, ← Nat.add_mul]; congr 1; omega
end Go.Mine
