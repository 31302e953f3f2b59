/- Functions that defer one closure (which recovers): behind a body that does not panic the closure finds nothing to recover, and changes nothing. -/
import Derived.Recover
import Derived.Laws.ResultCell
import Derived.Test.YtddohdppmejjoaaTypes
set_option linter.unusedSimpArgs false
set_option linter.unusedVariables false
namespace Go.Mine
open Go.RowKit
section
variable {P : Program} {w : World}
/-- what a closure does that finds nothing to recover -/
def Idle (P : Program) (g : FuncId) (n : Nat) : Prop := ∀ (args : Array Value) (w : World), args.size = n → CallsD P g args .returning w fun e u' w' => e = .returned (.tuple #[]) ∧ u' = .returning ∧ w' = w
theorem idle_of {g : FuncId} {gn : Func} {id r t n M : Nat} {X : Code} {ts : Array TypeId} {y1 y2 y3 y4 : TypeId} {p1 p2 : String} {a1 a2 : Array Edge}
    (hf : P.funcs[g]? = some gn)
    (hb : gn.body = some (.seq (.region id #[{ dst := some r, op := .call { callee := .builtin .recover, args := #[], argTypes := ts }, type := y1, pos := p1, after := a1, guard := none }, { dst := some t, op := .binOp .neq y2 (.tmp r) (.const .nilIface) y3, type := y4, pos := p2, after := a2, guard := none }] false) (.cond (.tmp t) X .skip)))
    (hn : gn.ntmps = M) (hr : gn.results = #[]) (h1 : n ≤ r) (h2 : r < M) (h3 : r < t) (h4 : t < M) (hq : ∀ w, (binOp .neq y2 .nilIface .nilIface).run P w = .ok (.bool false) w) : Idle P g n := by
  intro args w hs
  refine callsD_of_wpS hf hb fun c₀ cs hu => ?_
  apply wpS_seq
  apply wpS_region
  have e1 : r < args.size + (M - args.size) := by omega
  have e2 : t < args.size + (M - args.size) := by omega
  simp [wpOpsS, go_sem, recoverD, hu, hn, Exit.thenS, e1, hq, Result.andThen]
  refine wpS_cond (t := false) (by simp [Act.eval, e1, e2]) ?_
  simp only [Bool.false_eq_true, if_false]
  refine wpS_of_wp (wp_skip ?_)
  cases c₀
  simp_all [bodyPostS, results]
theorem fnD_of {f : FuncId} {fn : Func} {x rest : Code} {id t n M : Nat} {g : FuncId} [T : TFn P g] {caps : List Operand} {args : List Value} {Φ : Value → World → Prop} {ts : Array TypeId} {y1 y2 : TypeId} {p1 p2 : String} {a1 a2 : Array Edge}
    (hf : P.funcs[f]? = some fn)
    (hb : fn.body = some (.seq x (.seq (.region id #[{ dst := some t, op := .makeFunc (.func g) #[] caps.toArray, type := y1, pos := p1, after := a1, guard := none }, { dst := none, op := .defer { callee := .value (.tmp t), args := #[], argTypes := ts }, type := y2, pos := p2, after := a2, guard := none }] false) rest)))
    (hn : fn.ntmps = M) (hl : args.length ≤ M) (ht : t < M) (hc : caps.length = n) (hi : Idle P g n)
    (h : ∀ K : Env → World → Prop, (∀ E1 w1, (∃ vs, evs E1 caps = some vs ∧ ewp P ⟨M, [{ target := .fn (.func g) vs.toArray, args := #[] }]⟩ rest (QEnd P fn Φ) ((t, .func (.func g) #[] vs.toArray) :: E1) w1) → K E1 w1) → ewp P ⟨M, []⟩ x (EThen K (fun _ _ _ => False)) (Env.ofArgs 0 args) w) : Gives P f args w Φ := by
  intro d
  refine calls_of_wp_defers hf hb (wp_seq (wp_mono (h _ (fun _ _ h => h) d _ ⟨rfl, ?_, fun s v hs => ?_⟩) ?_))
  · simp [hn]; omega
  · obtain ⟨_, h2⟩ := find_ofArgs args 0 s v hs
    have hlt : s < args.length := by
      rcases Nat.lt_or_ge s args.length with h | h
      · exact h
      · simp [List.getElem?_eq_none h] at h2
    simp only [Array.getElem?_append]
    rw [if_pos (by simpa using hlt)]
    simpa using h2
  · rintro e a' w' ⟨E1, w1, d0, rfl, hE, hQ⟩
    cases e with
    | normal =>
      obtain ⟨vs, hvs, hw⟩ := hQ
      refine wp_seq (wp_region_lit ?_)
      have hev : List.map a'.eval caps = vs := evs_map hE hvs
      have hlen : vs.length = n := by rw [← hev, List.length_map, hc]
      have hp := hE.put ht (.func (.func g) #[] vs.toArray)
      have hrun : ∀ (args : Array Value) (w : World), (callFunc g args).run P w = .ok (.enter g args) w := fun args w => run_callFunc args w
      have e1 : t < a'.tmps.size := by rw [hE.size]; exact ht
      refine wpList_plain rfl fun K hK => ?_
      have r1 : (execOp a'.eval { dst := some t, op := .makeFunc (.func g) #[] caps.toArray, type := y1, pos := p1, after := a1, guard := none }).run P (w1.atd d0) = .ok (.value (.func (.func g) #[] vs.toArray)) (w1.atd d0) := by
        simp [execOp, go_sem, Instr.makeFunc, hev]
      simp only [Oper.wp, r1, Oper.upon]
      refine hK _ _ (wpList_plain rfl fun K2 hK2 => ?_)
      have r2 : (execOp (a'.put (some t) (.func (.func g) #[] vs.toArray)).eval { dst := none, op := .defer { callee := .value (.tmp t), args := #[], argTypes := ts }, type := y2, pos := p2, after := a2, guard := none }).run P (w1.atd d0) = .ok (.defer { target := .fn (.func g) vs.toArray, args := #[] }) (w1.atd d0) := by
        simp [execOp, go_sem, resolve, Act.eval, Act.put, e1, Deferred.ofValue]
      simp only [Oper.wp, r2, Oper.upon]
      refine hK2 _ _ (wpList_nil ?_)
      have hp2 : Has ({ a'.put (some t) (.func (.func g) #[] vs.toArray) with defers := { target := .fn (.func g) vs.toArray, args := #[] } :: (a'.put (some t) (.func (.func g) #[] vs.toArray)).defers }.put none undef) ⟨M, [{ target := .fn (.func g) vs.toArray, args := #[] }]⟩ ((t, .func (.func g) #[] vs.toArray) :: E1) :=
        ⟨by simp [Act.put, hE.defers], hp.size, hp.slot⟩
      refine wp_mono (hw d0 _ hp2) ?_
      have door : ∀ (a2 : Act) (E2 : Env) (w2 : World) (d2 : Nat) (v : Value), Has a2 ⟨M, [{ target := .fn (.func g) vs.toArray, args := #[] }]⟩ E2 → Res P fn E2 w2 v → Φ v w2 → Leaves P fn a2.tmps (fun e w' => ∃ v w0 d', e = .returned v ∧ w' = w0.atd d' ∧ Φ v w0) a2.defers .returning (w2.atd d2) := by
        intro a2 E2 w2 d2 v h2 hr hΦ
        rw [h2.defers]
        refine leaves_cons (f := g) (args := vs.toArray) (by simp) (by simp [invoke, hrun]) ?_
        refine (hi vs.toArray (w2.atd d2) (by simpa using hlen)).mono ?_
        rintro e u' w' ⟨rfl, rfl, rfl⟩
        exact ⟨v, hr a2 _ d2 h2, v, w2, d2, rfl, rfl, hΦ⟩
      rintro e a2 w' ⟨E2, w2, d2, rfl, h2, hQ⟩
      cases e with
      | normal => obtain ⟨v, hr, hΦ⟩ := hQ; exact door a2 E2 w2 d2 v h2 hr hΦ
      | ret => obtain ⟨v, hr, hΦ⟩ := hQ; exact door a2 E2 w2 d2 v h2 hr hΦ
      | _ => exact hQ.elim
    | _ => exact hQ.elim
theorem resCC {P : Program} {E : Env} {w : World} {fn : Func} {s s' : Nat} {tt tt' : TypeId} {b b' n : Nat} {vs : List Value} {v' : Value} [T : TAgg P tt n] [T' : TCell P tt'] (h : fn.results = #[.cell s tt, .cell s' tt']) (hs : Env.find E s = some (.pointer (some ⟨b, 0, none⟩))) (hc : CellsAt w b 0 vs) (hn : vs.length = n) (hs' : Env.find E s' = some (.pointer (some ⟨b', 0, none⟩))) (hc' : CellsAt w b' 0 [v']) :
    Res P fn E w (.tuple #[.agg vs.toArray, v']) := fun a N d ha => by
  obtain ⟨de, h1, h2⟩ := T.under
  obtain ⟨inf, h3, h4⟩ := T.size
  obtain ⟨de', h1', h2'⟩ := T'.under
  have hA := run_isAgg h1 (w.atd d)
  rw [h2] at hA
  have hA' := run_isAgg h1' (w.atd d)
  rw [h2'] at hA'
  have hcc : CellsAt (w.atd d) b (0 + 0) vs := fun j v hj => hc j v hj
  have hl := run_loadCellsFrom (P := P) vs 0 #[] (w.atd d) hcc
  rw [hn, ← h4] at hl
  have hl' : (w.atd d).cell? ⟨b', 0, none⟩ = some v' := by rw [atd_cell]; simpa using hc' 0 v' rfl
  simp [results, h, ha.slot s _ hs, ha.slot s' _ hs', asAddr, loadVar, hA, hA', run_size h3, loadCells, hl, load, Sem.run, hl']
end
end Go.Mine
