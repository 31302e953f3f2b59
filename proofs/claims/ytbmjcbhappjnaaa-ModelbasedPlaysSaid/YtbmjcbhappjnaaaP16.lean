/- Plain functions of chapter 16: what the reference computes of a pattern. -/
import Derived.Test.YtbmjcbhappjnaaaData
set_option linter.unusedSimpArgs false
namespace Go.Mine

/-- every number below n answers yes -/
def allR (n : Nat) (f : Nat → Bool) : Bool := (List.range n).all f
/-- the first number below n that answers yes, or -1 -/
def findR (n : Nat) (f : Nat → Bool) : Int := match (List.range n).find? f with | some i => i | none => -1

def procB (p : Pat) (n : Int) : Bool := decide (0 ≤ n) && decide (n < p.lens.length)
def ckptsB (l : List Int) (len : Int) : Bool := !((l.length : Int) == 0 || (nth l 0 != 0)) && allR l.length fun i => i == 0 || !(decide (nth l i ≤ nth l (i - 1)) || decide (len < nth l i))
def recvE (p : Pat) (q ix : Int) : Int := findR p.arcs.length fun i => decide (0 < ix) && (nth p.arcs i).to == q && (nth p.arcs i).rcv == ix
def canB (p : Pat) (x : List Int) (q : Nat) : Bool :=
  !decide (nth p.lens q ≤ nth x q) && (let n := recvE p q (nth x q + 1); decide (n < 0) || decide ((nth p.arcs n.toNat).ix ≤ nth x (nth p.arcs n.toNat).fr.toNat))
def arcBad (p : Pat) (a : Arc) : Bool :=
  !procB p a.fr || !procB p a.to || a.fr == a.to || decide (a.ix < 0) || decide (nth p.lens a.fr.toNat < a.ix) || decide (a.rcv < 0) || decide (nth p.lens a.to.toNat < a.rcv)
def arcE16 (p : Pat) (n : Nat) : Int :=
  let a := nth p.arcs n
  if arcBad p a then 3 else if allR n fun i => !(a.rcv != 0 && (nth p.arcs i).to == a.to && (nth p.arcs i).rcv == a.rcv) then 0 else 7
/-- a state of the search for an order that is not the end can go on -/
def Free (p : Pat) : Prop := ∀ x : List Int, x.length = p.lens.length → (∀ q, q < p.lens.length → 0 ≤ nth x q) → (∀ q, q < p.lens.length → nth x q ≤ nth p.lens q) → (∀ q, q < p.lens.length → canB p x q = false) → ∀ q, q < p.lens.length → nth x q = nth p.lens q
/-- a cut: an index for each process -/
structure Cut (p : Pat) (x : List Int) : Prop where
  len : x.length = p.lens.length
  lo : ∀ q, q < p.lens.length → 0 ≤ nth x q
  hi : ∀ q, q < p.lens.length → nth x q ≤ nth p.lens q
theorem sum_le : ∀ {x l : List Int}, x.length = l.length → (∀ q, q < l.length → nth x q ≤ nth l q) → x.sum ≤ l.sum
  | [], [], _, _ => by simp
  | a :: x, b :: l, h, hq => by
    have h1 := hq 0 (by simp)
    have h2 := sum_le (x := x) (l := l) (by simpa using h) fun q hq2 => by simpa [nth] using hq (q + 1) (by simpa using hq2)
    have h3 : a ≤ b := by simpa [nth] using h1
    simp; omega
  | [], b :: l, h, _ => by simp at h
  | a :: x, [], h, _ => by simp at h
theorem nth_set' {α : Type} [Inhabited α] {l : List α} {q i : Nat} {x : α} (h : q < l.length) : nth (l.set q x) i = if i = q then x else nth l i := by
  by_cases hi : i = q
  · subst hi; simp [nth, h]
  · simp [nth, hi, List.getElem?_set_ne (Ne.symm hi)]
theorem Cut.step {p : Pat} {x : List Int} {q : Nat} (h : Cut p x) (hq : q < p.lens.length) (hc : canB p x q = true) : Cut p (x.set q (nth x q + 1)) := by
  have h1 : ¬ nth p.lens q ≤ nth x q := by
    intro h2; rw [canB, decide_eq_true h2] at hc; cases hc
  have hl := h.len
  refine ⟨by simpa using hl, fun i hi => ?_, fun i hi => ?_⟩
  · rw [nth_set' (by omega)]; have := h.lo i hi; have := h.lo q hq; split <;> omega
  · rw [nth_set' (by omega)]; have := h.hi i hi; split
    · subst i; omega
    · omega
theorem Cut.sum {p : Pat} {x : List Int} (h : Cut p x) : x.sum ≤ p.lens.sum := sum_le h.len h.hi
/-- a pattern that the check takes -/
structure Pat.Ok (p : Pat) : Prop where
  procs : p.lens.length ≤ 5
  arcs : p.arcs.length ≤ 256
  rows : p.ckpts.length = p.lens.length
  lens : ∀ q, q < p.lens.length → 0 ≤ nth p.lens q ∧ nth p.lens q ≤ 64
  ckpts : ∀ q, q < p.lens.length → ckptsB (nth p.ckpts q) (nth p.lens q) = true
  short : ∀ q, q < p.lens.length → (nth p.ckpts q).length ≤ 1000000000
  arc : ∀ i, i < p.arcs.length → arcE16 p i = 0
  free : Free p
theorem Pat.Ok.bad {p : Pat} (h : p.Ok) {i : Nat} (hi : i < p.arcs.length) : arcBad p (nth p.arcs i) = false := by
  have := h.arc i hi
  simp only [arcE16] at this
  cases hb : arcBad p (nth p.arcs i)
  · rfl
  · rw [hb] at this; simp at this
end Go.Mine
