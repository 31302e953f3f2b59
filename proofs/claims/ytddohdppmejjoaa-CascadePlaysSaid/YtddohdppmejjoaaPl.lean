/- Plain loops and lists. -/
import Derived.Test.YtddohdppmejjoaaTypes
set_option linter.unusedSimpArgs false
set_option linter.unusedVariables false
namespace Go.Mine
open Go.RowKit
section
variable {α β σ τ : Type}
/-- a loop with an invariant and a measure -/
theorem iter_run {body : σ → Option (σ ⊕ τ)} (P : Nat → σ → Prop) (Q : τ → Prop) (step : ∀ m s, P m s → (∃ s', body s = some (.inl s') ∧ ∃ m', m' < m ∧ P m' s') ∨ ∃ t, body s = some (.inr t) ∧ Q t) :
    ∀ fuel m s, P m s → m < fuel → ∃ t, iter body fuel s = some t ∧ Q t := by
  intro fuel
  induction fuel with
  | zero => intro m s _ h; omega
  | succ n ih =>
    intro m s hp h
    rcases step m s hp with ⟨s', h1, m', h2, h3⟩ | ⟨t, h1, h2⟩
    · obtain ⟨t, h4, h5⟩ := ih m' s' h3 (by omega)
      exact ⟨t, by rw [iter, h1]; exact h4, h5⟩
    · exact ⟨t, by rw [iter, h1]; rfl, h2⟩
/-- a loop over 0 .. n-1 -/
theorem iter_for {body : σ → Option (σ ⊕ τ)} {fuel : Nat} (n : Nat) (P : Nat → σ → Prop) (Q : τ → Prop) (hf : n < fuel) {s0 : σ} (h0 : P 0 s0)
    (step : ∀ k s, k < n → P k s → (∃ s', body s = some (.inl s') ∧ P (k + 1) s') ∨ ∃ t, body s = some (.inr t) ∧ Q t) (last : ∀ s, P n s → ∃ t, body s = some (.inr t) ∧ Q t) : ∃ t, iter body fuel s0 = some t ∧ Q t := by
  refine iter_run (fun m s => ∃ k, m + k = n ∧ P k s) Q ?_ fuel n s0 ⟨0, by omega, h0⟩ hf
  rintro m s ⟨k, hk, hp⟩
  by_cases h : k < n
  · rcases step k s h hp with ⟨s', h1, h2⟩ | h1
    · exact .inl ⟨s', h1, m - 1, by omega, k + 1, by omega, h2⟩
    · exact .inr h1
  · obtain rfl : k = n := by omega
    exact .inr (last s hp)
/-- a loop over 0 .. n-1 that looks for something -/
theorem iter_scan {body : Int → Option (Int ⊕ (Unit ⊕ τ))} {fuel : Nat} (n : Nat) (g : Nat → Option τ) (hf : n < fuel)
    (step : ∀ k, k < n → body (k : Int) = some (match g k with | some t => .inr (.inr t) | none => .inl ((k + 1 : Nat) : Int))) (last : body (n : Int) = some (.inr (.inl ()))) :
    iter body fuel 0 = some (match (List.range n).findSome? g with | some t => .inr t | none => .inl ()) := by
  obtain ⟨t, h1, h2⟩ := iter_for (fuel := fuel) (body := body) n (fun k s => s = (k : Int) ∧ (List.range k).findSome? g = none) (fun t => t = match (List.range n).findSome? g with | some t => .inr t | none => .inl ()) hf (s0 := 0) ⟨rfl, rfl⟩ (by
    rintro k s hk ⟨rfl, hn⟩
    rw [step k hk]
    cases hg : g k with
    | none => exact .inl ⟨_, rfl, rfl, by rw [List.range_succ, List.findSome?_append, hn]; simp [hg]⟩
    | some t =>
      refine .inr ⟨_, rfl, ?_⟩
      have : (List.range n).findSome? g = some t := by
        obtain ⟨j, rfl⟩ : ∃ j, n = (k + 1) + j := ⟨n - (k + 1), by omega⟩
        rw [List.range_add, List.findSome?_append, List.range_succ, List.findSome?_append, hn]; simp [hg]
      rw [this]) (by
    rintro s ⟨rfl, hn⟩
    exact ⟨_, last, by rw [hn]⟩)
  rw [h1, h2]
theorem findSome_none {g : Nat → Option τ} {n : Nat} : (List.range n).findSome? g = none ↔ ∀ k, k < n → g k = none := by simp [List.findSome?_eq_none_iff]
/-- a scan whose answer is a Boolean: is there a bad one? -/
theorem iter_any {body : Int → Option (Int ⊕ (Unit ⊕ Bool))} {fuel : Nat} (n : Nat) (p : Nat → Bool) (b : Bool) (hf : n < fuel)
    (step : ∀ k, k < n → body (k : Int) = some (if p k = true then .inr (.inr b) else .inl ((k + 1 : Nat) : Int))) (last : body (n : Int) = some (.inr (.inl ()))) :
    iter body fuel 0 = some (if (∃ k, k < n ∧ p k = true) then .inr b else .inl ()) := by
  rw [iter_scan n (fun k => if p k = true then some b else none) hf (fun k hk => by rw [step k hk]; cases p k <;> rfl) last]
  split
  · rename_i t h
    obtain ⟨k, hk, he⟩ := List.exists_of_findSome?_eq_some h
    have hp : p k = true ∧ b = t := by
      cases hq : p k <;> simp [hq] at he
      exact ⟨rfl, he⟩
    rw [if_pos ⟨k, by simpa using hk, hp.1⟩, hp.2]
  · rename_i h
    rw [if_neg]
    rintro ⟨k, hk, hp⟩
    have := findSome_none.1 h k hk
    simp [hp] at this
theorem ati_get {xs : List α} {k : Nat} (h : k < xs.length) : ati xs (k : Int) = some xs[k] := by
  unfold ati; rw [if_neg (by omega)]; simp [h]
theorem ati_cast {xs : List α} {k : Nat} : ati xs (k : Int) = xs[k]? := by
  unfold ati; rw [if_neg (by omega)]; simp
theorem ati_int {xs : List α} {i : Int} (h0 : 0 ≤ i) (h : i.toNat < xs.length) : ati xs i = some (xs[i.toNat]'h) := by
  unfold ati; rw [if_neg (by omega)]; simp [h]
theorem seti_int {xs : List α} {i : Int} {x : α} (h0 : 0 ≤ i) (h : i.toNat < xs.length) : seti xs i x = some (xs.set i.toNat x) := by
  unfold seti; rw [if_pos (by omega)]
theorem snoc_ok {xs : List α} {x : α} (h : xs.length < 1000000000) : snoc xs x = some (xs ++ [x]) := by unfold snoc; rw [if_pos h]
theorem catL_ok {xs ys : List α} (h : xs.length + ys.length ≤ 1000000000) : catL xs ys = some (xs ++ ys) := by unfold catL; rw [if_pos h]
theorem mkL_ok {n : Int} {x : α} (h0 : 0 ≤ n) (h : n ≤ 1000000000) : mkL n x = some (List.replicate n.toNat x) := by unfold mkL; rw [if_pos ⟨h0, h⟩]
theorem takeL_ok {xs : List α} {j : Int} (h0 : 0 ≤ j) (h : j ≤ xs.length) : takeL xs j = some (xs.take j.toNat) := by unfold takeL; rw [if_pos ⟨h0, h⟩]
theorem w64_nat {k : Nat} (h : k < 4000000000000000000) : w64 ((k : Int) + 1) = ((k + 1 : Nat) : Int) := by rw [w64_eq (by omega) (by omega)]; rfl
theorem andM_some {b c : Bool} : andM b (some c) = some (b && c) := by cases b <;> rfl
theorem orM_some {b c : Bool} : orM b (some c) = some (b || c) := by cases b <;> rfl
theorem andM_true {m : Option Bool} : andM true m = m := rfl
theorem andM_false {m : Option Bool} : andM false m = some false := rfl
theorem orM_true {m : Option Bool} : orM true m = some true := rfl
theorem orM_false {m : Option Bool} : orM false m = m := rfl
/-- a plain computation that answers, and how -/
def Ok (m : Option α) (Q : α → Prop) : Prop := ∃ a, m = some a ∧ Q a
theorem Ok.ret {a : α} {Q : α → Prop} (h : Q a) : Ok (some a) Q := ⟨a, rfl, h⟩
theorem Ok.bind {m : Option α} {f : α → Option β} {Q : α → Prop} {R : β → Prop} (h : Ok m Q) (h2 : ∀ a, Q a → Ok (f a) R) : Ok (m.bind f) R := by
  obtain ⟨a, rfl, ha⟩ := h; exact h2 a ha
theorem Ok.mono {m : Option α} {Q R : α → Prop} (h : Ok m Q) (h2 : ∀ a, Q a → R a) : Ok m R := by obtain ⟨a, h1, h3⟩ := h; exact ⟨a, h1, h2 a h3⟩
theorem Ok.ite {b : Bool} {x y : Option α} {Q : α → Prop} (h1 : b = true → Ok x Q) (h2 : b = false → Ok y Q) : Ok (if b = true then x else y) Q := by
  cases b
  · exact h2 rfl
  · exact h1 rfl
theorem Ok.iteP {p : Prop} [Decidable p] {x y : Option α} {Q : α → Prop} (h1 : p → Ok x Q) (h2 : ¬ p → Ok y Q) : Ok (if decide p = true then x else y) Q :=
  Ok.ite (fun h => h1 (of_decide_eq_true h)) fun h => h2 (of_decide_eq_false h)
theorem Ok.iteN {a b : Int} {x y : Option α} {Q : α → Prop} (h1 : a ≠ b → Ok x Q) (h2 : a = b → Ok y Q) : Ok (if (a != b) = true then x else y) Q :=
  Ok.ite (fun h => h1 (by simpa using h)) fun h => h2 (by simpa using h)
theorem Ok.at {xs : List α} {i : Int} (h0 : 0 ≤ i) (h : i < xs.length) : Ok (ati xs i) fun a => xs[i.toNat]? = some a :=
  ⟨_, ati_int h0 (by omega), by simp [show i.toNat < xs.length by omega]⟩
theorem Ok.set {xs : List α} {i : Int} {x : α} (h0 : 0 ≤ i) (h : i < xs.length) : Ok (seti xs i x) fun ys => ys = xs.set i.toNat x := ⟨_, seti_int h0 (by omega), rfl⟩
theorem Ok.snoc {xs : List α} {x : α} (h : xs.length < 1000000000) : Ok (Go.Mine.snoc xs x) fun ys => ys = xs ++ [x] := ⟨_, snoc_ok h, rfl⟩
theorem Ok.cat {xs ys : List α} (h : xs.length + ys.length ≤ 1000000000) : Ok (catL xs ys) fun zs => zs = xs ++ ys := ⟨_, catL_ok h, rfl⟩
theorem Ok.mk {n : Int} {x : α} (h0 : 0 ≤ n) (h : n ≤ 1000000000) : Ok (mkL n x) fun ys => ys = List.replicate n.toNat x := ⟨_, mkL_ok h0 h, rfl⟩
theorem Ok.take {xs : List α} {j : Int} (h0 : 0 ≤ j) (h : j ≤ xs.length) : Ok (takeL xs j) fun ys => ys = xs.take j.toNat := ⟨_, takeL_ok h0 h, rfl⟩
theorem Ok.rem {i j : Int} (h : j ≠ 0) : Ok (remI i j) fun k => k = i.tmod j := ⟨_, by unfold remI; rw [if_neg h], rfl⟩
theorem Ok.andM {b : Bool} {m : Option Bool} {Q : Bool → Prop} (h1 : b = true → Ok m Q) (h2 : b = false → Q false) : Ok (Go.Mine.andM b m) Q := by
  cases b
  · exact ⟨false, rfl, h2 rfl⟩
  · exact h1 rfl
theorem Ok.orM {b : Bool} {m : Option Bool} {Q : Bool → Prop} (h1 : b = false → Ok m Q) (h2 : b = true → Q true) : Ok (Go.Mine.orM b m) Q := by
  cases b
  · exact h1 rfl
  · exact ⟨true, rfl, h2 rfl⟩
theorem Ok.run {body : σ → Option (σ ⊕ τ)} {fuel : Nat} (P : Nat → σ → Prop) {Q : τ → Prop} {m : Nat} {s : σ} (h0 : P m s) (hf : m < fuel) (step : ∀ m s, P m s → Ok (body s) fun o => Sum.elim (fun s' => ∃ m', m' < m ∧ P m' s') Q o) : Ok (iter body fuel s) Q :=
  iter_run P Q (fun m s hp => by
    obtain ⟨o, h1, h2⟩ := step m s hp
    cases o with
    | inl s' => exact .inl ⟨s', h1, h2⟩
    | inr t => exact .inr ⟨t, h1, h2⟩) fuel m s h0 hf
/-- a loop over 0 .. n-1 -/
theorem Ok.for_ {body : σ → Option (σ ⊕ τ)} {fuel : Nat} (n : Nat) (P : Nat → σ → Prop) {Q : τ → Prop} {s : σ} (h0 : P 0 s) (hf : n < fuel) (step : ∀ k s, k ≤ n → P k s → Ok (body s) fun o => Sum.elim (fun s' => k < n ∧ P (k + 1) s') Q o) : Ok (iter body fuel s) Q :=
  Ok.run (fun m s => ∃ k, m + k = n ∧ P k s) (m := n) ⟨0, by omega, h0⟩ hf fun m s ⟨k, hk, hp⟩ => (step k s (by omega) hp).mono fun o ho => by
    cases o with
    | inl s' => exact ⟨m - 1, by have := ho.1; omega, k + 1, by have := ho.1; omega, ho.2⟩
    | inr t => exact ho
theorem Ok.eq {m : Option α} {a : α} (h : Ok m fun b => b = a) : m = some a := by obtain ⟨b, h1, rfl⟩ := h; exact h1
theorem getElem?_set' {xs : List α} {k i : Nat} {x : α} (h : k < xs.length) : (xs.set k x)[i]? = if i = k then some x else xs[i]? := by
  rw [List.getElem?_set]
  by_cases e : k = i
  · subst e; simp [h]
  · rw [if_neg e, if_neg fun e2 => e e2.symm]
theorem mem_of_getElem? {xs : List α} {k : Nat} {x : α} (h : xs[k]? = some x) : x ∈ xs := List.mem_of_getElem? h
theorem w64_id {i : Int} (h1 : -9000000000000000000 ≤ i) (h2 : i ≤ 9000000000000000000) : w64 i = i := w64_eq (by omega) (by omega)
end
end Go.Mine
