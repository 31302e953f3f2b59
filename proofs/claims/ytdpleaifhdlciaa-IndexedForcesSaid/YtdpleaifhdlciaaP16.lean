/- Plain functions of chapter 16: what the reference computes of a pattern. -/
import Derived.Test.YtdpleaifhdlciaaData
namespace Go.Mine

instance : Inhabited Arc := ⟨⟨0, 0, 0, 0⟩⟩
structure Pat where
  lens : List Int
  ckpts : List (List Int)
  arcs : List Arc
deriving DecidableEq

/-- every number below n answers yes -/
def allR (n : Nat) (f : Nat → Bool) : Bool := (List.range n).all f
theorem allR_iff {n : Nat} {f : Nat → Bool} : allR n f = true ↔ ∀ i, i < n → f i = true := by simp [allR]
theorem allR_no {n k : Nat} {f : Nat → Bool} (hk : k < n) (h : f k = false) : allR n f = false := by
  cases hh : allR n f
  · rfl
  · rw [allR_iff.1 hh k hk] at h; cases h
theorem allR_yes {n : Nat} {f : Nat → Bool} (h : ∀ i, i < n → f i = true) : allR n f = true := allR_iff.2 h
/-- the first number below n that answers yes, or -1 -/
def findR (n : Nat) (f : Nat → Bool) : Int := match (List.range n).find? f with | some i => i | none => -1
theorem findR_hit {n k : Nat} {f : Nat → Bool} (hk : k < n) (h0 : ∀ i, i < k → f i = false) (h : f k = true) : findR n f = k := by
  have : (List.range n).find? f = some k := by
    rw [List.find?_range_eq_some]
    exact ⟨h, by simpa using hk, fun j hj => by simpa using h0 j hj⟩
  simp [findR, this]
theorem findR_none {n : Nat} {f : Nat → Bool} (h0 : ∀ i, i < n → f i = false) : findR n f = -1 := by
  have : (List.range n).find? f = none := by
    rw [List.find?_eq_none]; intro x hx; simpa using h0 x (by simpa using hx)
  simp [findR, this]
theorem findR_cases (n : Nat) (f : Nat → Bool) : (findR n f = -1 ∧ ∀ i, i < n → f i = false) ∨ ∃ k : Nat, findR n f = k ∧ k < n ∧ f k = true ∧ ∀ i, i < k → f i = false := by
  unfold findR
  cases h : (List.range n).find? f with
  | none => left; exact ⟨rfl, fun i hi => by have := List.find?_eq_none.1 h i (by simpa using hi); simpa using this⟩
  | some k =>
    right
    rw [List.find?_range_eq_some] at h
    exact ⟨k, rfl, by simpa using h.2.1, h.1, fun i hi => by simpa using h.2.2 i hi⟩

def procB (p : Pat) (n : Int) : Bool := decide (0 ≤ n) && decide (n < p.lens.length)
def ckptsB (l : List Int) (len : Int) : Bool := !((l.length : Int) == 0 || (nth l 0 != 0)) && allR l.length fun i => i == 0 || !(decide (nth l i ≤ nth l (i - 1)) || decide (len < nth l i))
def recvE (p : Pat) (q ix : Int) : Int := findR p.arcs.length fun i => decide (0 < ix) && (nth p.arcs i).to == q && (nth p.arcs i).rcv == ix
def canB (p : Pat) (x : List Int) (q : Nat) : Bool :=
  !decide (nth p.lens q ≤ nth x q) && (let n := recvE p q (nth x q + 1); decide (n < 0) || decide ((nth p.arcs n.toNat).ix ≤ nth x (nth p.arcs n.toNat).fr.toNat))
def arcBad (p : Pat) (a : Arc) : Bool :=
  !procB p a.fr || !procB p a.to || a.fr == a.to || decide (a.ix < 0) || decide (nth p.lens a.fr.toNat < a.ix) || decide (a.rcv < 0) || decide (nth p.lens a.to.toNat < a.rcv)
def arcE (p : Pat) (n : Nat) : Int :=
  let a := nth p.arcs n
  if arcBad p a then 3 else if allR n fun i => !(a.rcv != 0 && (nth p.arcs i).to == a.to && (nth p.arcs i).rcv == a.rcv) then 0 else 7
theorem recvE_cases (p : Pat) (q ix : Int) : recvE p q ix = -1 ∨ ∃ k : Nat, recvE p q ix = k ∧ k < p.arcs.length := by
  rcases findR_cases p.arcs.length (fun i => decide (0 < ix) && (nth p.arcs i).to == q && (nth p.arcs i).rcv == ix) with h | ⟨k, h1, h2, _⟩
  · exact .inl h.1
  · exact .inr ⟨k, h1, h2⟩
theorem recvE_lt (p : Pat) (q ix : Int) : recvE p q ix < p.arcs.length ∧ -1 ≤ recvE p q ix := by
  rcases recvE_cases p q ix with h | ⟨k, h, hk⟩ <;> omega
/-- the states of the search for an order -/
inductive Reach (p : Pat) : List Int → Prop
  | zero : Reach p (List.replicate p.lens.length 0)
  | step {x : List Int} {q : Nat} : Reach p x → q < p.lens.length → canB p x q = true → Reach p (x.set q (nth x q + 1))
/-- the search ends with all events listed -/
def Possible (p : Pat) : Prop := ∃ x, Reach p x ∧ (∀ q, q < p.lens.length → canB p x q = false) ∧ ∀ q, q < p.lens.length → nth p.lens q ≤ nth x q
/-- the arcs name processes -/
def arcsIn (p : Pat) : Prop := ∀ i, i < p.arcs.length → procB p (nth p.arcs i).fr = true
/-- sizes that fit -/
structure Pat.Fits (p : Pat) : Prop where
  lens : p.lens.length ≤ 1000000000
  ckpts : p.ckpts.length ≤ 1000000000
  arcs : p.arcs.length ≤ 1000000000
  rows : ∀ l ∈ p.ckpts, l.length ≤ 1000000000
end Go.Mine
