import Derived.Test.YtddohdppmejjoaaLibD
set_option linter.unusedVariables false
set_option linter.unusedSectionVars false
namespace Go.Mine
open Go.RowKit
/-! ### the beginning of a slice of one's own is one's own -/
def truncV (v : Value) (k : Nat) : Value :=
  match v with
  | .slice ad _ cap => .slice ad k cap
  | v => v
theorem truncV_own {v : Value} {k : Nat} : (truncV v k).ownBlock = v.ownBlock := by
  cases v <;> try rfl
  rename_i ad n cap
  cases ad <;> rfl
section
variable {P : Program} {N : Fr} {X : Nat → Prop} {K : Env → World → Prop} {E : Env} {w : World} {t : TypeId} {m : Bool} {rest : List QOp} {sd : Nat} {α : Type} {T : Ty α}
theorem Own.trunc {lo : Nat} {S : Nat → Prop} {e : TypeId} {v : Value} {xs ys : List α} {j : Int} (h : Own T w lo S e v xs) (hj : takeL xs j = some ys) : Own T w lo S e (truncV v j.toNat) ys := by
  obtain ⟨h0, h1, rfl⟩ := takeL_eq hj
  have hk : j.toNat ≤ xs.length := by omega
  generalize j.toNat = k at hk
  obtain ⟨cells, hl, ⟨hlen, hrow⟩, hRx⟩ := h.row
  have hcl : ∀ c ∈ cells, c.length = T.sz := fun c hc => by
    obtain ⟨q, hq, rfl⟩ := List.getElem_of_mem hc
    exact T.len (hRx q cells[q] (xs[q]'(by omega)) (by simp) (by simp))
  have hlk : (xs.take k).length = k := by simp; omega
  have hfk : (cells.take k).flatten.length = k * T.sz := by rw [flat_len _ fun c hc => hcl c (List.mem_of_mem_take hc), List.length_take, Nat.min_eq_left (by omega)]
  refine ⟨cells.take k, by simp [hl], ?_, fun i c x hc hx => ?_⟩
  · rw [hlk]
    refine ⟨hfk, ?_⟩
    rcases hrow with ⟨rfl, h2⟩ | ⟨g, cap, cur, rfl, h3, h4, h5, h6, h7, h8⟩
    · have : k = 0 := by omega
      subst this
      exact .inl ⟨rfl, rfl⟩
    · refine .inr ⟨g, cap, cur, rfl, h3, h4, by omega, h6, h7, ?_⟩
      rw [flat_take _ _ hcl, ← h8, List.take_take, Nat.min_eq_left (Nat.mul_le_mul_right _ hk)]
  · rw [truncV_own]
    have hi : i < k := by have := (List.getElem?_eq_some_iff.1 hx).1; omega
    rw [List.getElem?_take_of_lt hi] at hc hx
    exact hRx i c x hc hx
theorem q_takeO {x hi : Operand} {ts e e' l0 : Nat} {S : Nat → Prop} {v : Value} {xs ys : List α} {k' : IntKind} {j : Int} (TS : TSlice P ts e T.sz) (hx : ev E x = some v) (hown : Own T w l0 S e' v xs) (hh : ev E hi = some (.int k' j)) (hj : takeL xs j = some ys)
    (hd : dOK N (some sd) = true) (h : eseq P N X K rest (Env.set E sd (truncV v j.toNat)) w) : eseq P N X K (⟨none, some sd, .slice ts x none (some hi) none, t, m⟩ :: rest) E w := by
  obtain ⟨h0, h1, rfl⟩ := takeL_eq hj
  obtain ⟨n, rfl⟩ := Int.eq_ofNat_of_zero_le h0
  obtain ⟨ad, cap, rfl, h2, _⟩ := hown.isSlice
  obtain ⟨inf, h5, h6⟩ := TS.size
  have hn : n ≤ xs.length := by simpa using h1
  refine q_pure _ rfl hd (fun a ha w' => ?_) h
  simp [execOp, QOp.oper, ha.eval hx, ha.eval hh, Instr.sliceAt, Instr.slice, Instr.sliceBounds, run_sliceBound (show n ≤ cap by omega), run_under TS.under, run_size h5, truncV]
  intro _
  obtain ⟨cells, hl, ⟨hlen, hrow⟩, hRx⟩ := hown.row
  rcases hrow with ⟨he, _⟩ | ⟨g, cap', cur, he, _⟩
  · simp only [Value.slice.injEq] at he; rw [he.1]; rfl
  · simp only [Value.slice.injEq] at he; rw [he.1]; rfl
theorem Sep.truncOwn {F R0 R : Nat → Prop} {w0 w : World} {cs : List HP} (h : Sep F R0 R w0 w cs) (i : Nat) {S : Nat → Prop} {e : TypeId} {v : Value} {xs ys : List α} {j : Int} (hi : cs[i]? = some (HP.own T S e v xs)) (hj : takeL xs j = some ys) : Sep F R0 R w0 w (cs.set i (HP.own T S e (truncV v j.toNat) ys)) :=
  h.set i hi (StepF.refl _ _) (c' := HP.own T S e (truncV v j.toNat) ys) ((h.own i hi).trunc hj) (fun k hk => .inl (by have hk' : (truncV v j.toNat).ownBlock = some k := hk; rw [truncV_own] at hk'; exact hk')) (fun k hk => h.depR i hi k hk)
end
end Go.Mine

namespace Go.Mine
open Go.RowKit
/-! ### maps: asked and set, never ranged over -/
def mget {K V : Type} [DecidableEq K] : List (K × V) → K → Option V
  | [], _ => none
  | (k', x) :: l, k => if k' = k then some x else mget l k
def mput {K V : Type} [DecidableEq K] : List (K × V) → K → V → List (K × V)
  | [], k, x => [(k, x)]
  | (k', x') :: l, k, x => if k' = k then (k, x) :: l else (k', x') :: mput l k x
theorem mget_mput {K V : Type} [DecidableEq K] : ∀ {l : List (K × V)} {k j : K} {x : V}, mget (mput l k x) j = if k = j then some x else mget l j
  | [], k, j, x => by simp [mput, mget]
  | (k', x') :: l, k, j, x => by
    unfold mput
    by_cases e : k' = k
    · subst e; simp only [if_true, mget]
      by_cases e2 : k' = j <;> simp [e2]
    · rw [if_neg e]; simp only [mget]
      by_cases e2 : k' = j
      · subst e2; rw [if_pos rfl, if_pos rfl, if_neg (fun h => e h.symm)]
      · rw [if_neg e2, if_neg e2, mget_mput]
theorem mput_length {K V : Type} [DecidableEq K] : ∀ {l : List (K × V)} {k : K} {x : V}, (mput l k x).length ≤ l.length + 1
  | [], k, x => by simp [mput]
  | (k', x') :: l, k, x => by
    unfold mput; split
    · simp
    · simp; exact mput_length
/-- cells as a value -/
def mkV (agg : Bool) (cs : List Value) : Value := match agg, cs with
  | true, cs => .agg cs.toArray
  | false, v :: _ => v
  | false, [] => undef
def VR {V : Type} (T : Ty V) (agg : Bool) (w : World) (S : Nat → Prop) (v : Value) (x : V) : Prop := ∃ cs, T.R w S cs x ∧ v = mkV agg cs
theorem VR.enc {V : Type} {T : Ty V} {enc : V → List Value} [hE : Enc T enc] {agg : Bool} {w : World} {S : Nat → Prop} {v : Value} {x : V} (h : VR T agg w S v x) : v = mkV agg (enc x) := by
  obtain ⟨cs, h1, h2⟩ := h; rw [h2, (hE.R _ _ _ _).1 h1]
theorem VR.ofEnc {V : Type} {T : Ty V} {enc : V → List Value} [hE : Enc T enc] {agg : Bool} {w : World} {S : Nat → Prop} {v : Value} {x : V} (h : v = mkV agg (enc x)) : VR T agg w S v x := ⟨enc x, (hE.R _ _ _ _).2 rfl, h⟩
theorem VR.slice {V : Type} {T : Ty V} {w : World} {S : Nat → Prop} {v : Value} {x : List V} (h : VR (Ty.slice T) false w S v x) : IsSlice T w S v x := by
  obtain ⟨cs, ⟨u, rfl, h1⟩, h2⟩ := h; rw [h2]; exact h1
theorem VR.ofSlice {V : Type} {T : Ty V} {w : World} {S : Nat → Prop} {v : Value} {x : List V} (h : IsSlice T w S v x) : VR (Ty.slice T) false w S v x := ⟨[v], ⟨v, rfl, h⟩, rfl⟩
theorem VR.kept {V : Type} {T : Ty V} {agg : Bool} {w w' : World} {S : Nat → Prop} {v : Value} {x : V} (h : VR T agg w S v x) (hk : Kept S w w') : VR T agg w' S v x := by
  obtain ⟨cs, h1, h2⟩ := h; exact ⟨cs, T.kept hk h1, h2⟩
theorem VR.mono {V : Type} {T : Ty V} {agg : Bool} {w : World} {S S' : Nat → Prop} {v : Value} {x : V} (h : VR T agg w S v x) (hS : ∀ k, S k → k < w.heap.size → S' k) : VR T agg w S' v x := by
  obtain ⟨cs, h1, h2⟩ := h; exact ⟨cs, T.mono hS h1, h2⟩
inductive MRel {K V : Type} (enc : K → Value) (R : Value → V → Prop) : List MapEntry → List (K × V) → Prop
  | nil : MRel enc R [] []
  | cons {e : MapEntry} {es : List MapEntry} {k : K} {x : V} {l : List (K × V)} : e.key = enc k → R e.val x → MRel enc R es l → MRel enc R (e :: es) ((k, x) :: l)
theorem MRel.imp {K V : Type} {enc : K → Value} {R R' : Value → V → Prop} (hR : ∀ v x, R v x → R' v x) {es : List MapEntry} {l : List (K × V)} (h : MRel enc R es l) : MRel enc R' es l := by
  induction h with
  | nil => exact .nil
  | cons h1 h2 _ ih => exact .cons h1 (hR _ _ h2) ih
theorem MRel.snoc {K V : Type} {enc : K → Value} {R : Value → V → Prop} {es : List MapEntry} {l : List (K × V)} (h : MRel enc R es l) {e : MapEntry} {k : K} {x : V} (h1 : e.key = enc k) (h2 : R e.val x) : MRel enc R (es ++ [e]) (l ++ [(k, x)]) := by
  induction h with
  | nil => exact .cons h1 h2 .nil
  | cons a b _ ih => exact .cons a b ih
class TKey (P : Program) (kt : TypeId) {K : Type} [DecidableEq K] (enc : K → Value) : Prop where
  eq : ∀ a b : K, EqV P 10000 kt (enc a) (enc b) (decide (a = b))
  chk : ∀ (e : Bool) (a : K) (w : World), (Instr.checkKey e 10000 kt (enc a)).run P w = .ok () w
  now : ∃ d, P.underlying kt = some d ∧ ∀ a b : K, Instr.sameNow d (enc a) (enc b) = none
  bits : ∀ a : K, Instr.sameBits 10000 (enc a) (enc a) = true
theorem chk2 {P : Program} {n : Nat} {kt : TypeId} {f0 f1 : Field} {xs : Array Value} {v0 v1 : Value} {k0 k1 : IntKind} {e : Bool} {w : World} (hu : P.underlying kt = some (.struct #[f0, f1])) (n0 : (f0.name != "_") = true) (n1 : (f1.name != "_") = true) (h0 : PartV P f0.type xs f0.offset v0) (h1 : PartV P f1.type xs f1.offset v1)
    (u0 : P.underlying f0.type = some (.int k0)) (u1 : P.underlying f1.type = some (.int k1)) : (Instr.checkKey e (n + 2) kt (.agg xs)).run P w = .ok () w := by
  have n0' : f0.name ≠ "_" := by simpa using n0
  have n1' : f1.name ≠ "_" := by simpa using n1
  simp [Instr.checkKey, run_under hu, run_under u0, run_under u1, n0', n1', h0 w, h1 w]
class TMap (P : Program) (t : TypeId) (kt et : outParam TypeId) : Prop where
  under : P.underlying t = some (.map kt et)
class TZV (P : Program) (t : TypeId) (v : outParam Value) : Prop where
  zero : (P.info? t).bind TypeInfo.zero = some v
section
variable {P : Program} {K V : Type} [DecidableEq K] {enc : K → Value} {R : Value → V → Prop} {kt : TypeId} {w : World}
/-- what asking a list of entries says -/
def Asked (P : Program) (kt : TypeId) (enc : K → Value) (R : Value → V → Prop) (w : World) (es : List MapEntry) (l : List (K × V)) (k : K) (r : Option (Nat × Value)) (i : Nat) : Prop :=
  (∃ j v x e, r = some (i + j, v) ∧ mget l k = some x ∧ R v x ∧ es[j]? = some e ∧ e.key = enc k ∧ ∀ v' x' (f : MapEntry → MapEntry), (∀ e, (f e).key = enc k ∧ (f e).val = v') → R v' x' → MRel enc R (es.modify j f) (mput l k x')) ∨
  (r = none ∧ mget l k = none ∧ ∀ e x', e.key = enc k → R e.val x' → MRel enc R (es ++ [e]) (mput l k x'))
theorem asked_find (TK : TKey P kt enc) {es : List MapEntry} {l : List (K × V)} (h : MRel enc R es l) (k : K) : ∀ i, ∃ r, (Instr.findAsking kt (enc k) es i).run P w = .ok r w ∧ Asked P kt enc R w es l k r i := by
  induction h with
  | nil => intro i; exact ⟨none, rfl, .inr ⟨rfl, rfl, fun e x' h1 h2 => .cons h1 h2 .nil⟩⟩
  | @cons e es k' x l h1 h2 h3 ih =>
    intro i
    have he : (Op.equal kt (enc k) e.key).run P w = .ok (decide (k = k')) w := by rw [h1]; exact TK.eq k k' w
    by_cases hk : k = k'
    · subst hk
      refine ⟨some (i, e.val), ?_, .inl ⟨0, e.val, x, e, rfl, by simp [mget], h2, rfl, h1, fun v' x' f hf hR => ?_⟩⟩
      · simp [Instr.findAsking, he]
      · simp only [List.modify, mput, if_true]
        exact .cons (hf e).1 (by rw [(hf e).2]; exact hR) h3
    · obtain ⟨r, hr, hA⟩ := ih (i + 1)
      refine ⟨r, ?_, ?_⟩
      · simp [Instr.findAsking, he, hk, hr]
      · have hk' : ¬ k' = k := fun e => hk e.symm
        rcases hA with ⟨j, v, y, e', rfl, hm, hR, hj, hkey, hput⟩ | ⟨rfl, hm, hput⟩
        · refine .inl ⟨j + 1, v, y, e', by rw [show i + 1 + j = i + (j + 1) by omega], by simp [mget, hk', hm], hR, by simpa using hj, hkey, fun v' x' f hf hR' => ?_⟩
          simp only [List.modify_succ_cons, mput, if_neg hk']
          exact .cons h1 h2 (hput v' x' f hf hR')
        · refine .inr ⟨rfl, by simp [mget, hk', hm], fun e' x' a b => ?_⟩
          simp only [List.cons_append, mput, if_neg hk']
          exact .cons h1 h2 (hput e' x' a b)
theorem asked_key (TK : TKey P kt enc) {es : List MapEntry} {l : List (K × V)} (h : MRel enc R es l) (k : K) : ∃ r, (Instr.findKey kt (enc k) es).run P w = .ok r w ∧ Asked P kt enc R w es l k r 0 := by
  obtain ⟨d, hd, hn⟩ := TK.now
  cases h with
  | nil => exact ⟨none, by simp [Instr.findKey, Instr.findNow, run_under hd], .inr ⟨rfl, rfl, fun e x' h1 h2 => .cons h1 h2 .nil⟩⟩
  | @cons e es k' x l h1 h2 h3 =>
    obtain ⟨r, hr, hA⟩ := asked_find (w := w) TK (MRel.cons h1 h2 h3) k 0
    refine ⟨r, ?_, hA⟩
    have : Instr.findNow d (enc k) (e :: es) 0 = none := by simp [Instr.findNow, h1, hn]
    simp [Instr.findKey, run_under hd, this, hr]
end
/-- a map of one's own -/
def HP.map {K V : Type} (enc : K → Value) (T : Ty V) (agg : Bool) (S : Nat → Prop) (b : Nat) (l : List (K × V)) : HP :=
  ⟨fun k => k = b, S, fun w => ∃ es clock, w.heap[b]? = some (.map es clock) ∧ MRel enc (VR T agg w S) es.toList l, fun {w w'} hk h => by
    obtain ⟨es, clock, h1, h2⟩ := h
    have hb : b < w.heap.size := (Array.getElem?_eq_some_iff.1 h1).1
    exact ⟨es, clock, by rw [hk.block b (.inl rfl) hb]; exact h1, h2.imp fun v x hv => hv.kept ⟨hk.size, fun k hs hl => hk.block k (.inr hs) hl⟩⟩⟩
section
variable {F R0 R : Nat → Prop} {w0 w w' : World} {cs : List HP} {K V : Type} [DecidableEq K] {enc : K → Value} {T : Ty V} {agg : Bool} {S : Nat → Prop}
theorem Sep.mapMono (h : Sep F R0 R w0 w cs) (i : Nat) {b : Nat} {l : List (K × V)} (hi : cs[i]? = some (HP.map enc T agg S b l)) : Sep F R0 R w0 w (cs.set i (HP.map enc T agg R b l)) := by
  obtain ⟨es, clock, h1, h2⟩ := h.get i hi
  exact h.set i hi (StepF.refl _ _) (c' := HP.map enc T agg R b l) ⟨es, clock, h1, h2.imp fun v x hv => hv.mono fun k hk _ => h.depR i hi k hk⟩ (fun k hk => .inl hk) (fun k hk => hk)
theorem Sep.newMap (h : Sep F R0 R w0 w cs) (hB : Below w.heap.size w w') {b : Nat} (hg : w.heap.size ≤ b) (hb : w'.heap[b]? = some (.map #[] 0)) : Sep F R0 R w0 w' (HP.map enc T agg (fun _ => False) b ([] : List (K × V)) :: cs) :=
  h.new hB ⟨#[], 0, hb, .nil⟩ (fun k hk => by have e : k = b := hk; subst e; exact ⟨hg, (Array.getElem?_eq_some_iff.1 hb).1⟩) (fun k hk => hk.elim)
end
section
variable {P : Program} {N : Fr} {X : Nat → Prop} {Kc : Env → World → Prop} {E : Env} {w : World} {t : TypeId} {m : Bool} {rest : List QOp} {sd : Nat} {F R0 R : Nat → Prop} {w0 : World} {cs : List HP} {K V : Type} [DecidableEq K] {enc : K → Value} {T : Ty V} {agg : Bool} {S : Nat → Prop}
theorem q_makeMap {tt : TypeId} (hd : dOK N (some sd) = true) (h : ∀ w1 b, w.heap.size ≤ b → w1.heap[b]? = some (.map #[] 0) → Below w.heap.size w w1 → eseq P N X Kc rest (Env.set E sd (.map (some b))) w1) :
    eseq P N X Kc (⟨none, some sd, .makeMap tt none, t, m⟩ :: rest) E w := by
  refine q_eff rfl fun a ha d => ?_
  have hrun : (execOp a.eval (QOp.oper ⟨none, some sd, .makeMap tt none, t, m⟩)).run P (w.atd d) = .ok (.value (.map (some w.heap.size))) ((w.atd d).alloc (.map #[] 0)) := by
    simp [execOp, QOp.oper, Instr.makeMap, newObj, Sem.run]; rfl
  unfold Oper.wp
  rw [hrun]
  exact ⟨_, _, _, rfl, rfl, hd, fun _ => .of_below (alloc_below w d _), h _ w.heap.size (Nat.le_refl _) (by simp [World.atd, World.alloc]) (alloc_below w d _)⟩
theorem q_lookup {x y : Operand} {tt kt et : TypeId} {b : Nat} {l : List (K × V)} {k : K} {zv : Value} {zx : V} {ok : Bool} [TM : TMap P tt kt et] [TK : TKey P kt enc] [TZ : TZV P et zv] (i : Nat) (hS : Sep F R0 R w0 w cs) (hi : cs[i]? = some (HP.map enc T agg S b l)) (hz : ∀ w S, VR T agg w S zv zx)
    (hx : ev E x = some (.map (some b))) (hy : ev E y = some (enc k)) (hd : dOK N (some sd) = true)
    (h : ∀ v, VR T agg w S v ((mget l k).getD zx) → eseq P N X Kc rest (Env.set E sd (if ok = true then .tuple #[v, .bool (mget l k).isSome] else v)) w) : eseq P N X Kc (⟨none, some sd, .lookup tt x y ok, t, m⟩ :: rest) E w := by
  obtain ⟨es, clock, h1, h2⟩ := hS.get i hi
  refine q_eff rfl fun a ha d => ?_
  obtain ⟨r, hr, hA⟩ := asked_key (P := P) (w := w.atd d) TK h2 k
  have h1' : (w.atd d).heap[b]? = some (.map es clock) := h1
  have hget : (getObj b).run P (w.atd d) = .ok (.map es clock) (w.atd d) := by simp [getObj, Sem.run, h1]
  have hzr : (zeroValue et).run P (w.atd d) = .ok zv (w.atd d) := by
    have := TZ.zero
    cases hi : P.info? et with
    | none => rw [hi] at this; cases this
    | some inf => rw [hi] at this; simp [zeroValue, typeInfo, hi, show inf.zero = some zv from this]
  obtain ⟨v, hv, hrun⟩ : ∃ v, VR T agg w S v ((mget l k).getD zx) ∧ (execOp a.eval (QOp.oper ⟨none, some sd, .lookup tt x y ok, t, m⟩)).run P (w.atd d) = .ok (.value (if ok = true then .tuple #[v, .bool (mget l k).isSome] else v)) (w.atd d) := by
    rcases hA with ⟨j, v, xx, e, rfl, hm, hR, _⟩ | ⟨rfl, hm, _⟩
    · refine ⟨v, by rw [hm]; exact hR, ?_⟩
      simp [execOp, QOp.oper, ha.eval hx, ha.eval hy, Instr.lookup, run_under TM.under, hget, TK.chk, hr, hm]
    · refine ⟨zv, by rw [hm]; exact hz _ _, ?_⟩
      simp [execOp, QOp.oper, ha.eval hx, ha.eval hy, Instr.lookup, run_under TM.under, hget, TK.chk, hr, hm, hzr]
  unfold Oper.wp
  rw [hrun]
  exact ⟨_, w, d, rfl, rfl, hd, fun _ => RelX.refl _ _, h v hv⟩
theorem q_mapUpdate {x y z : Operand} {tt kt et : TypeId} {b : Nat} {l : List (K × V)} {k : K} {v : Value} {xx : V} {dst : Option Nat} [TM : TMap P tt kt et] [TK : TKey P kt enc] (i : Nat) (hS : Sep F R0 R w0 w cs) (hi : cs[i]? = some (HP.map enc T agg S b l))
    (hx : ev E x = some (.map (some b))) (hy : ev E y = some (enc k)) (hz : ev E z = some v) (hv : VR T agg w S v xx) (hd : dst = none) (hm : m = false)
    (h : ∀ w1, Only w w1 b → Sep F R0 R w0 w1 (cs.set i (HP.map enc T agg S b (mput l k xx))) → eseq P N X Kc rest E w1) : eseq P N X Kc (⟨none, dst, .mapUpdate tt x y z, t, m⟩ :: rest) E w := by
  subst hd hm
  obtain ⟨es, clock, h1, h2⟩ := hS.get i hi
  refine q_eff rfl fun a ha d => ?_
  obtain ⟨r, hr, hA⟩ := asked_key (P := P) (w := w.atd d) TK h2 k
  have hget : (getObj b).run P (w.atd d) = .ok (.map es clock) (w.atd d) := by simp [getObj, Sem.run, h1]
  have hset : ∀ o, (setObj b o).run P (w.atd d) = .ok () { (w.atd d) with heap := (w.atd d).heap.setIfInBounds b o } := fun o => by simp [setObj, Sem.run, h1]
  have hb : b < w.heap.size := (Array.getElem?_eq_some_iff.1 h1).1
  obtain ⟨es', clock', hrel, hrun⟩ : ∃ es' clock', MRel enc (VR T agg w S) es'.toList (mput l k xx) ∧ (execOp a.eval (QOp.oper ⟨none, none, .mapUpdate tt x y z, t, false⟩)).run P (w.atd d) = .ok .skip { (w.atd d) with heap := (w.atd d).heap.setIfInBounds b (.map es' clock') } := by
    rcases hA with ⟨j, v0, x0, e, rfl, hm, hR, hj, hkey, hput⟩ | ⟨rfl, hm, hput⟩
    · have hje : es[j]? = some e := by simpa using hj
      refine ⟨es.modify (0 + j) fun e => { e with key := enc k, val := v }, clock, ?_, ?_⟩
      · have := hput v xx (fun e => { e with key := enc k, val := v }) (fun e => ⟨rfl, rfl⟩) hv
        simpa using this
      · simp [execOp, QOp.oper, ha.eval hx, ha.eval hy, ha.eval hz, Instr.mapUpdate, run_under TM.under, hget, hset, TK.chk, hr, hje, hkey, Instr.keyThatStays, TK.bits]
    · refine ⟨es.push { key := enc k, val := v, born := clock }, clock + 1, ?_, ?_⟩
      · have := hput { key := enc k, val := v, born := clock } xx rfl hv
        simpa using this
      · simp [execOp, QOp.oper, ha.eval hx, ha.eval hy, ha.eval hz, Instr.mapUpdate, run_under TM.under, hget, hset, TK.chk, hr]
  unfold Oper.wp
  rw [hrun]
  have hO : Only w { w with heap := w.heap.setIfInBounds b (.map es' clock') } b := ⟨rfl, rfl, rfl, by simp, fun k hk hne => Array.getElem?_setIfInBounds_ne (fun e => hne e.symm)⟩
  have hK : Kept S w { w with heap := w.heap.setIfInBounds b (.map es' clock') } := ⟨hO.size, fun k hk hl => hO.block k hl fun e => (hS.foot _ (List.mem_of_getElem? hi) b rfl).2.2 (by rw [← e]; exact hS.depR i hi k hk)⟩
  refine ⟨undef, { w with heap := w.heap.setIfInBounds b (.map es' clock') }, d, rfl, rfl, rfl, (fun h => by cases h), h _ hO ?_⟩
  exact hS.set i hi (StepF.of_only hO rfl) (c' := HP.map enc T agg S b (mput l k xx)) ⟨es', clock', by simp [hb], hrel.imp fun v x hv => hv.kept hK⟩ (fun k hk => .inl hk) (fun k hk => hS.depR i hi k hk)
theorem q_lookup1 {x y : Operand} {tt kt et : TypeId} {b : Nat} {l : List (K × V)} {k : K} {zv : Value} {zx : V} [TM : TMap P tt kt et] [TK : TKey P kt enc] [TZ : TZV P et zv] (i : Nat) (hS : Sep F R0 R w0 w cs) (hi : cs[i]? = some (HP.map enc T agg S b l)) (hz : ∀ w S, VR T agg w S zv zx)
    (hx : ev E x = some (.map (some b))) (hy : ev E y = some (enc k)) (hd : dOK N (some sd) = true) (h : ∀ v, VR T agg w S v ((mget l k).getD zx) → eseq P N X Kc rest (Env.set E sd v) w) : eseq P N X Kc (⟨none, some sd, .lookup tt x y false, t, m⟩ :: rest) E w :=
  q_lookup (ok := false) i hS hi hz hx hy hd fun v hv => by simpa using h v hv
theorem q_lookup2 {x y : Operand} {tt kt et : TypeId} {b : Nat} {l : List (K × V)} {k : K} {zv : Value} {zx : V} [TM : TMap P tt kt et] [TK : TKey P kt enc] [TZ : TZV P et zv] (i : Nat) (hS : Sep F R0 R w0 w cs) (hi : cs[i]? = some (HP.map enc T agg S b l)) (hz : ∀ w S, VR T agg w S zv zx)
    (hx : ev E x = some (.map (some b))) (hy : ev E y = some (enc k)) (hd : dOK N (some sd) = true) (h : ∀ v, VR T agg w S v ((mget l k).getD zx) → eseq P N X Kc rest (Env.set E sd (.tuple #[v, .bool (mget l k).isSome])) w) : eseq P N X Kc (⟨none, some sd, .lookup tt x y true, t, m⟩ :: rest) E w :=
  q_lookup (ok := true) i hS hi hz hx hy hd fun v hv => by simpa using h v hv
end
/-! ### arrays of numbers as values -/
def lenOk (xs : List Int) (n : Nat) : Option Unit := if xs.length = n then some () else none
theorem lenOk_eq {xs : List Int} {n : Nat} {u : Unit} (h : lenOk xs n = some u) : xs.length = n := by
  unfold lenOk at h; split at h
  · assumption
  · cases h
theorem setN_all : ∀ (vs cs : List Value) (pre : List Value), cs.length = vs.length → setN (pre ++ cs) pre.length vs = pre ++ vs
  | [], cs, pre, h => by have : cs = [] := List.length_eq_zero_iff.1 (by simpa using h); subst this; rfl
  | v :: vs, [], pre, h => by simp at h
  | v :: vs, c :: cs, pre, h => by
    have := setN_all vs cs (pre ++ [v]) (by simpa using h)
    simp only [List.append_assoc, List.singleton_append, List.length_append, List.length_singleton] at this
    simp only [setN]
    rw [List.set_append_right _ _ (Nat.le_refl _)]
    simpa using this
section
variable {P : Program} {N : Fr} {X : Nat → Prop} {Kc : Env → World → Prop} {E : Env} {w : World} {t : TypeId} {m : Bool} {rest : List QOp} {sd : Nat} {dst : Option Nat}
theorem q_loadAV {x : Operand} {tt : TypeId} {b n : Nat} {xs : List Int} {bt : TypeId} {u : Unit} [T : TAgg P tt n] (hx : ev E x = some (.pointer (some ⟨b, 0, none⟩))) (hb : Blk w b (xs.map encI) bt) (hn : lenOk xs n = some u)
    (hd : dOK N (some sd) = true) (h : eseq P N X Kc rest (Env.set E sd (.agg (List.map encI xs).toArray)) w) (hX : ¬ X b := by first | exact id | assumption | (show ¬ (_ = _); omega) | (intro h; omega)) : eseq P N X Kc (⟨none, some sd, .load tt x, t, m⟩ :: rest) E w :=
  q_loadAgg hx (fun j v hj => by have := hb.cell (o := j) hj; simpa using this) (by simpa using lenOk_eq hn) hd h hX
theorem q_storeAV {x y : Operand} {tt : TypeId} {b n : Nat} {xs ys : List Int} {bt : TypeId} {u u' : Unit} [T : TAgg P tt n] (hx : ev E x = some (.pointer (some ⟨b, 0, none⟩))) (hy : ev E y = some (.agg (List.map encI ys).toArray)) (hb : Blk w b (xs.map encI) bt) (hn : lenOk xs n = some u) (hn' : lenOk ys n = some u')
    (hd : dst = none) (hm : m = false) (h : ∀ w1, Blk w1 b (ys.map encI) bt → Only w w1 b → eseq P N X Kc rest E w1) : eseq P N X Kc (⟨none, dst, .store tt x y, t, m⟩ :: rest) E w := by
  have l1 := lenOk_eq hn; have l2 := lenOk_eq hn'
  refine q_storeAgg hx hy hb (by simpa using l2) (by simp [l1]) (fun v hv => by obtain ⟨a, _, rfl⟩ := List.mem_map.1 hv; rfl) hd hm fun w1 h1 h2 => h w1 ?_ h2
  have := setN_all (ys.map encI) (xs.map encI) [] (by simp [l1, l2])
  simp only [List.nil_append, List.length_nil] at this
  rw [this] at h1; exact h1
theorem q_storeAVX {x y : Operand} {tt : TypeId} {b n : Nat} {xs ys : List Int} {bt : TypeId} {u u' : Unit} [T : TAgg P tt n] (hx : ev E x = some (.pointer (some ⟨b, 0, none⟩))) (hy : ev E y = some (.agg (List.map encI ys).toArray)) (hb : Blk w b (xs.map encI) bt) (hn : lenOk xs n = some u) (hn' : lenOk ys n = some u')
    (hd : dst = none) (hX : X b) (h : ∀ w1, Blk w1 b (ys.map encI) bt → Only w w1 b → eseq P N X Kc rest E w1) : eseq P N X Kc (⟨none, dst, .store tt x y, t, m⟩ :: rest) E w := by
  have l1 := lenOk_eq hn; have l2 := lenOk_eq hn'
  refine q_storeAggX hx hy hb (by simpa using l2) (by simp [l1]) (fun v hv => by obtain ⟨a, _, rfl⟩ := List.mem_map.1 hv; rfl) hd hX fun w1 h1 h2 => h w1 ?_ h2
  have := setN_all (ys.map encI) (xs.map encI) [] (by simp [l1, l2])
  simp only [List.nil_append, List.length_nil] at this
  rw [this] at h1; exact h1
theorem resA {fn : Func} {s : Nat} {tt : TypeId} {b n : Nat} {xs : List Int} {bt : TypeId} {u : Unit} [T : TAgg P tt n] (h : fn.results = #[.cell s tt]) (hs : Env.find E s = some (.pointer (some ⟨b, 0, none⟩))) (hb : Blk w b (xs.map encI) bt) (hn : lenOk xs n = some u) : Res P fn E w (.agg (List.map encI xs).toArray) :=
  resC1 h hs (fun j v hj => by have := hb.cell (o := j) hj; simpa using this) (by simpa using lenOk_eq hn)
/-- 'a[:k]' of an array that will not change any more -/
theorem q_sliceArr {x hi : Operand} {ts : TypeId} {b n e : Nat} {k' : IntKind} {j : Int} {xs ys : List Int} {bt : TypeId} {u : Unit} {R : Nat → Prop} [TA : TArr P ts n e 1] (hx : ev E x = some (.pointer (some ⟨b, 0, none⟩))) (hl : Lent w R b (xs.map encI) bt) (hn : lenOk xs n = some u) (hh : ev E hi = some (.int k' j)) (hj : takeL xs j = some ys)
    (hd : dOK N (some sd) = true) (h : ∀ v, IsSlice Ty.int w R v ys → eseq P N X Kc rest (Env.set E sd v) w) : eseq P N X Kc (⟨none, some sd, .slice ts x none (some hi) none, t, m⟩ :: rest) E w := by
  obtain ⟨h0, h1, rfl⟩ := takeL_eq hj
  obtain ⟨k, rfl⟩ := Int.eq_ofNat_of_zero_le h0
  have l1 := lenOk_eq hn
  obtain ⟨inf, h5, h6⟩ := TA.size
  have hk : k ≤ n := by simp at h1; omega
  refine q_pure (.slice (some ⟨b, 0, none⟩) k n) rfl hd (fun a ha w' => ?_) (h _ ?_)
  · simp [execOp, QOp.oper, ha.eval hx, ha.eval hh, Instr.sliceAt, Instr.sureAddr, Instr.sliceBounds, run_sliceBound hk, run_under TA.under, run_size h5, h6, add_mk]
  · have hlen : (xs.take k).length = k := by simp; omega
    refine ⟨some ⟨b, 0, none⟩, n, by rw [Int.toNat_natCast, hlen], by rw [Int.toNat_natCast, hlen]; exact hk, (fun h => by cases h), (fun a ha _ => by cases ha; rfl), fun i hi => ⟨b, 0, rfl, ?_⟩⟩
    rw [Int.toNat_natCast, hlen] at hi
    have hcell : (xs.map encI)[i]? = some (encI (xs[i]'(by omega))) := by simp [(show i < xs.length by omega)]
    refine ⟨hl.mem, hl.blk.lt, [encI (xs[i]'(by omega))], ?_, ?_⟩
    · intro q v hq
      have : q = 0 := by rcases q with _ | q; rfl; simp at hq
      subst this
      simp at hq; subst hq
      rw [ix_eq]
      have := hl.blk.cell hcell
      simpa [show Ty.int.sz = 1 from rfl] using this
    · simp only [Int.toNat_natCast, List.getElem_take]; rfl
end
theorem Sep.relX2 {R R1 : Nat → Prop} {w w' : World} {cs : List HP} {b b' : Nat} {c : List Value} {t : TypeId} {K V : Type} {enc : K → Value} {T : Ty V} {agg : Bool} {S : Nat → Prop} {l : List (K × V)} (h : Sep (feet [HP.blk b c t, HP.map enc T agg S b' l]) R R1 w w' cs) : RelX (fun k => k = b ∨ k = b') w w' :=
  ⟨h.step.os, h.step.tape, h.step.output, h.step.size, fun k hk hn => h.step.same k hk fun ⟨d, hd, hf⟩ => by
    rcases List.mem_cons.1 hd with rfl | hd
    · exact hn (.inl hf)
    · rcases List.mem_cons.1 hd with rfl | hd
      · exact hn (.inr hf)
      · cases hd⟩
end Go.Mine
