import Derived.Test.YtljpjekifbamfaaLibD
set_option linter.unusedVariables false
namespace Go.Mine
open Go.RowKit
/-! ### the beginning of a slice of one's own is one's own -/
def truncV (v : Value) (k : Nat) : Value :=
  match v with
  | .slice ad _ cap => .slice ad k cap
  | v => v
theorem truncV_own {v : Value} {k : Nat} : (truncV v k).ownBlock = v.ownBlock := by
  cases v <;> try rfl
  rename_i ad n cap
  cases ad <;> rfl
section
variable {P : Program} {N : Nat} {X : Nat → Prop} {K : Env → World → Prop} {E : Env} {w : World} {t : TypeId} {m : Bool} {rest : List QOp} {sd : Nat} {α : Type} {T : Ty α}
theorem Own.trunc {lo : Nat} {S : Nat → Prop} {e : TypeId} {v : Value} {xs ys : List α} {j : Int} (h : Own T w lo S e v xs) (hj : takeL xs j = some ys) : Own T w lo S e (truncV v j.toNat) ys := by
  obtain ⟨h0, h1, rfl⟩ := takeL_eq hj
  have hk : j.toNat ≤ xs.length := by omega
  generalize j.toNat = k at hk
  obtain ⟨cells, hl, ⟨hlen, hrow⟩, hRx⟩ := h.row
  have hcl : ∀ c ∈ cells, c.length = T.sz := fun c hc => by
    obtain ⟨q, hq, rfl⟩ := List.getElem_of_mem hc
    exact T.len (hRx q cells[q] (xs[q]'(by omega)) (by simp) (by simp))
  have hlk : (xs.take k).length = k := by simp; omega
  have hfk : (cells.take k).flatten.length = k * T.sz := by rw [flat_len _ fun c hc => hcl c (List.mem_of_mem_take hc), List.length_take, Nat.min_eq_left (by omega)]
  refine ⟨cells.take k, by simp [hl], ?_, fun i c x hc hx => ?_⟩
  · rw [hlk]
    refine ⟨hfk, ?_⟩
    rcases hrow with ⟨rfl, h2⟩ | ⟨g, cap, cur, rfl, h3, h4, h5, h6, h7, h8⟩
    · have : k = 0 := by omega
      subst this
      exact .inl ⟨rfl, rfl⟩
    · refine .inr ⟨g, cap, cur, rfl, h3, h4, by omega, h6, h7, ?_⟩
      rw [flat_take _ _ hcl, ← h8, List.take_take, Nat.min_eq_left (Nat.mul_le_mul_right _ hk)]
  · rw [truncV_own]
    have hi : i < k := by have := (List.getElem?_eq_some_iff.1 hx).1; omega
    rw [List.getElem?_take_of_lt hi] at hc hx
    exact hRx i c x hc hx
theorem q_takeO {x hi : Operand} {ts e e' l0 : Nat} {S : Nat → Prop} {v : Value} {xs ys : List α} {k' : IntKind} {j : Int} (TS : TSlice P ts e T.sz) (hx : ev E x = some v) (hown : Own T w l0 S e' v xs) (hh : ev E hi = some (.int k' j)) (hj : takeL xs j = some ys)
    (hd : dOK N (some sd) = true) (h : eseq P N X K rest (Env.set E sd (truncV v j.toNat)) w) : eseq P N X K (⟨none, some sd, .slice ts x none (some hi) none, t, m⟩ :: rest) E w := by
  obtain ⟨h0, h1, rfl⟩ := takeL_eq hj
  obtain ⟨n, rfl⟩ := Int.eq_ofNat_of_zero_le h0
  obtain ⟨ad, cap, rfl, h2, _⟩ := hown.isSlice
  obtain ⟨inf, h5, h6⟩ := TS.size
  have hn : n ≤ xs.length := by simpa using h1
  refine q_pure _ rfl hd (fun a ha w' => ?_) h
  simp [execOp, QOp.oper, ha.eval hx, ha.eval hh, Instr.sliceAt, Instr.slice, Instr.sliceBounds, run_sliceBound (show n ≤ cap by omega), run_under TS.under, run_size h5, truncV]
  intro _
  obtain ⟨cells, hl, ⟨hlen, hrow⟩, hRx⟩ := hown.row
  rcases hrow with ⟨he, _⟩ | ⟨g, cap', cur, he, _⟩
  · simp only [Value.slice.injEq] at he; rw [he.1]; rfl
  · simp only [Value.slice.injEq] at he; rw [he.1]; rfl
theorem Sep.truncOwn {F R0 R : Nat → Prop} {w0 w : World} {cs : List HP} (h : Sep F R0 R w0 w cs) (i : Nat) {S : Nat → Prop} {e : TypeId} {v : Value} {xs ys : List α} {j : Int} (hi : cs[i]? = some (HP.own T S e v xs)) (hj : takeL xs j = some ys) : Sep F R0 R w0 w (cs.set i (HP.own T S e (truncV v j.toNat) ys)) :=
  h.set i hi (StepF.refl _ _) (c' := HP.own T S e (truncV v j.toNat) ys) ((h.own i hi).trunc hj) (fun k hk => .inl (by have hk' : (truncV v j.toNat).ownBlock = some k := hk; rw [truncV_own] at hk'; exact hk')) (fun k hk => h.depR i hi k hk)
end
end Go.Mine

