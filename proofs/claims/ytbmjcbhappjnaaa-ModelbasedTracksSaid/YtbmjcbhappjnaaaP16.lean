/- What every law's row of this seat needs. -/
import Derived.Test.YtbmjcbhappjnaaaTypes
import Derived.Test.YtbmjcbhappjnaaaRows
import Derived.Test.YtbmjcbhappjnaaaLibD
set_option linter.unusedSimpArgs false
namespace Go.Proofs.Ytbmjcbhappjnaaa
open Go.ChangeShapes Go.WideShapes Go.ChangeAt Go.RowKit Go.Mine
theorem lawOwn : ownKnob Try.prog.godebug = none := by kernel_rfl
theorem lawLaid : laidOutB Try.prog = true := by kernel_rfl
end Go.Proofs.Ytbmjcbhappjnaaa
/- How the arguments of laws read: choices. -/
set_option linter.unusedSimpArgs false
namespace Go.Proofs.Ytbmjcbhappjnaaa
open Go.ChangeShapes Go.WideShapes Go.ChangeAt Go.RowKit Go.Mine
theorem o_u8 : Opens Try.prog 5 Ty.u8 U8 := Opens.u8 Try.underlying5 (by kernel_rfl)
end Go.Proofs.Ytbmjcbhappjnaaa
/- The end of a law's proof (for seats without Opens32). -/
set_option linter.unusedSimpArgs false
namespace Go.Proofs.Ytbmjcbhappjnaaa
open Go.ChangeShapes Go.WideShapes Go.ChangeAt Go.RowKit Go.Mine
theorem lawEnd {f : Nat} {args : List Value} {w : World} (h : Gives Try.prog f args w fun u w1 => ∃ R1 : Nat → Prop, u = .bool true ∧ Sep (fun _ => False) (fun k => k < w.heap.size) R1 w w1 []) : Gives Try.prog f args w fun v w' => v = .bool true ∧ Below w.heap.size w w' :=
  h.mono fun _ _ ⟨_, e, hS⟩ => ⟨e, hS.stepBF⟩
end Go.Proofs.Ytbmjcbhappjnaaa
/- Printed walks: Acdat. -/
set_option linter.unusedVariables false
set_option linter.unusedSimpArgs false
namespace Go.Mine
open Go.RowKit
structure Deed where
  kind : Int
  proc : Int
  other : Int
deriving DecidableEq
instance : Inhabited Deed := ⟨⟨default, default, default⟩⟩
def deedTy : Ty Deed := Ty.via (Ty.pair Ty.int (Ty.pair Ty.int Ty.int)) fun a => (a.kind, a.proc, a.other)
def Deed.cells_ (a : Deed) : List Value := [.int .i64 a.kind, .int .i64 a.proc, .int .i64 a.other]
def Deed.key_ (a : Deed) : Value := .agg (Deed.cells_ a).toArray
structure Arc where
  fr : Int
  ix : Int
  to : Int
  rcv : Int
deriving DecidableEq
instance : Inhabited Arc := ⟨⟨default, default, default, default⟩⟩
def arcTy : Ty Arc := Ty.via (Ty.pair Ty.int (Ty.pair Ty.int (Ty.pair Ty.int Ty.int))) fun a => (a.fr, a.ix, a.to, a.rcv)
theorem Arc_F0 {w : World} {S : Nat → Prop} {b o : Nat} {a : Arc} (h : Elt arcTy w S b o a) : Elt Ty.int w S b (o + 0) a.fr := h.via.fst
theorem Arc_F1 {w : World} {S : Nat → Prop} {b o : Nat} {a : Arc} (h : Elt arcTy w S b o a) : Elt Ty.int w S b (o + 1) a.ix := h.via.snd.fst
theorem Arc_F2 {w : World} {S : Nat → Prop} {b o : Nat} {a : Arc} (h : Elt arcTy w S b o a) : Elt Ty.int w S b (o + 2) a.to := h.via.snd.snd.fst
theorem Arc_F3 {w : World} {S : Nat → Prop} {b o : Nat} {a : Arc} (h : Elt arcTy w S b o a) : Elt Ty.int w S b (o + 3) a.rcv := h.via.snd.snd.snd
theorem Arc_R {w : World} {S : Nat → Prop} {a : Arc} {cs : List Value} (h : arcTy.R w S cs a) : cs = [.int .i64 a.fr, .int .i64 a.ix, .int .i64 a.to, .int .i64 a.rcv] := by
  obtain ⟨_, _, rfl, rfl, ⟨_, _, rfl, rfl, ⟨_, _, rfl, rfl, rfl⟩⟩⟩ := h
  exact rfl
theorem Arc_open {w : World} {S : Nat → Prop} {b o : Nat} {a : Arc} (h : Elt arcTy w S b o a) : CellsAt w b o [.int .i64 a.fr, .int .i64 a.ix, .int .i64 a.to, .int .i64 a.rcv] := by
  obtain ⟨cs, h1, h2⟩ := h.cells
  obtain rfl := Arc_R h2
  exact h1
def Arc.cells_ (a : Arc) : List Value := [.int .i64 a.fr, .int .i64 a.ix, .int .i64 a.to, .int .i64 a.rcv]
def Arc.key_ (a : Arc) : Value := .agg (Arc.cells_ a).toArray
structure Pat where
  lens : (List Int)
  ckpts : (List (List Int))
  arcs : (List Arc)
deriving DecidableEq
structure Hist where
  pat : Pat
  clocks : (List (List Int))
  vecs : (List (List (List Int)))
  forced : (List (List Bool))
deriving DecidableEq
structure Lab where
  inc : Int
  index : Int
deriving DecidableEq
def Lab.cells_ (a : Lab) : List Value := [.int .i64 a.inc, .int .i64 a.index]
def Lab.key_ (a : Lab) : Value := .agg (Lab.cells_ a).toArray
structure Evt where
  kind : Int
  inc : Int
  frm : Int
  sent : Lab
  ord : Int
  value : Int
deriving DecidableEq
def Evt.cells_ (a : Evt) : List Value := [.int .i64 a.kind, .int .i64 a.inc, .int .i64 a.frm, .int .i64 a.sent.inc, .int .i64 a.sent.index, .int .i64 a.ord, .int .i64 a.value]
def Evt.key_ (a : Evt) : Value := .agg (Evt.cells_ a).toArray
structure EndI where
  proc : Int
  inc : Int
  index : Int
deriving DecidableEq
def EndI.cells_ (a : EndI) : List Value := [.int .i64 a.proc, .int .i64 a.inc, .int .i64 a.index]
def EndI.key_ (a : EndI) : Value := .agg (EndI.cells_ a).toArray
structure Pt where
  proc : Int
  index : Int
deriving DecidableEq
instance : Inhabited Pt := ⟨⟨default, default⟩⟩
def ptTy : Ty Pt := Ty.via (Ty.pair Ty.int Ty.int) fun a => (a.proc, a.index)
theorem Pt_R {w : World} {S : Nat → Prop} {a : Pt} {cs : List Value} (h : ptTy.R w S cs a) : cs = [.int .i64 a.proc, .int .i64 a.index] := by
  obtain ⟨_, _, rfl, rfl, rfl⟩ := h
  exact rfl
theorem Pt_open {w : World} {S : Nat → Prop} {b o : Nat} {a : Pt} (h : Elt ptTy w S b o a) : CellsAt w b o [.int .i64 a.proc, .int .i64 a.index] := by
  obtain ⟨cs, h1, h2⟩ := h.cells
  obtain rfl := Pt_R h2
  exact h1
def Pt.cells_ (a : Pt) : List Value := [.int .i64 a.proc, .int .i64 a.index]
def Pt.key_ (a : Pt) : Value := .agg (Pt.cells_ a).toArray
instance : Enc ptTy Pt.cells_ := ⟨fun w S cs a => ⟨fun h => Pt_R h, fun h => by rw [h]; exact ⟨_, _, rfl, rfl, rfl⟩⟩⟩
structure ModelbasedActor where
  vector : (List Int)
  sent : Bool
  active : Bool
deriving DecidableEq
structure ModelbasedLetter where
  arc : Int
  vector : (List Int)
deriving DecidableEq
structure Ref26Flying where
  arc : Int
  vector : (List Int)
deriving DecidableEq
structure Ref26Run where
  h : Hist
  rule : Int
  vectors : (List (List Int))
  sent : (List Bool)
  flight : (List Ref26Flying)
deriving DecidableEq
structure IndexedLetter where
  arc : Int
  clock : Int
deriving DecidableEq
def IndexedLetter.cells_ (a : IndexedLetter) : List Value := [.int .i64 a.arc, .int .i64 a.clock]
def IndexedLetter.key_ (a : IndexedLetter) : Value := .agg (IndexedLetter.cells_ a).toArray
structure IndexedComputation where
  h : Hist
  clocks : (List Int)
  flight : (List IndexedLetter)
deriving DecidableEq
structure MakeCodes where
  list : (List Int)
  at_ : Int
deriving DecidableEq
structure OrphanTracker where
  l : (List (List Evt))
  vectors : (List (List (List Lab)))
  onWay : (List Bool)
deriving DecidableEq
structure Pt2 where
  x0 : Pt
  x1 : Pt
deriving DecidableEq
instance : Inhabited Pt2 := ⟨⟨default, default⟩⟩
def pt2Ty : Ty Pt2 := Ty.via (Ty.pair ptTy ptTy) fun a => (a.x0, a.x1)
theorem Pt2_R {w : World} {S : Nat → Prop} {a : Pt2} {cs : List Value} (h : pt2Ty.R w S cs a) : cs = [.int .i64 a.x0.proc, .int .i64 a.x0.index, .int .i64 a.x1.proc, .int .i64 a.x1.index] := by
  obtain ⟨_, _, rfl, ⟨_, _, rfl, rfl, rfl⟩, ⟨_, _, rfl, rfl, rfl⟩⟩ := h
  exact rfl
theorem Pt2_open {w : World} {S : Nat → Prop} {b o : Nat} {a : Pt2} (h : Elt pt2Ty w S b o a) : CellsAt w b o [.int .i64 a.x0.proc, .int .i64 a.x0.index, .int .i64 a.x1.proc, .int .i64 a.x1.index] := by
  obtain ⟨cs, h1, h2⟩ := h.cells
  obtain rfl := Pt2_R h2
  exact h1
def Pt2.cells_ (a : Pt2) : List Value := [.int .i64 a.x0.proc, .int .i64 a.x0.index, .int .i64 a.x1.proc, .int .i64 a.x1.index]
def Pt2.key_ (a : Pt2) : Value := .agg (Pt2.cells_ a).toArray
instance : Enc pt2Ty Pt2.cells_ := ⟨fun w S cs a => ⟨fun h => Pt2_R h, fun h => by rw [h]; exact ⟨_, _, rfl, ⟨_, _, rfl, rfl, rfl⟩, ⟨_, _, rfl, rfl, rfl⟩⟩⟩⟩
instance : TyZ pt2Ty [.int .i64 0, .int .i64 0, .int .i64 0, .int .i64 0] (⟨(⟨(0 : Int), (0 : Int)⟩ : Pt), (⟨(0 : Int), (0 : Int)⟩ : Pt)⟩ : Pt2) := ⟨fun w S => ⟨_, _, rfl, ⟨_, _, rfl, rfl, rfl⟩, ⟨_, _, rfl, rfl, rfl⟩⟩⟩
end Go.Mine
/- Plain data of the patterns, and how it lies in memory. -/
set_option linter.unusedSimpArgs false
namespace Go.Mine
open Go.RowKit

section
variable {w : World} {S : Nat → Prop} {b o : Nat} {a : Arc}
theorem arcVia (h : El arcTy w S b o a) : El (Ty.int.pair (Ty.int.pair (Ty.int.pair Ty.int))) w S b o (a.fr, a.ix, a.to, a.rcv) := ⟨h.mem, h.lt, h.cells⟩
theorem ArcF2 (h : El arcTy w S b o a) : El Ty.int w S b (o + 2) a.to := (arcVia h).snd.snd.fst
def Arc.cells (a : Arc) : List Value := [.int .i64 a.fr, .int .i64 a.ix, .int .i64 a.to, .int .i64 a.rcv]
theorem arcR {cs : List Value} : arcTy.R w S cs a ↔ cs = a.cells := by
  constructor
  · rintro ⟨c1, c2, rfl, rfl, c3, c4, rfl, rfl, c5, c6, rfl, rfl, rfl⟩; rfl
  · rintro rfl; exact ⟨_, _, rfl, rfl, _, _, rfl, rfl, _, _, rfl, rfl, rfl⟩
end
end Go.Mine
/- The acts of a script, in memory. -/
set_option linter.unusedSimpArgs false
namespace Go.Mine
open Go.RowKit

section
variable {w : World} {S : Nat → Prop} {b o : Nat} {a : Deed}
def Deed.cells (a : Deed) : List Value := [.int .i64 a.kind, .int .i64 a.proc, .int .i64 a.other]
theorem deedR {cs : List Value} : deedTy.R w S cs a ↔ cs = a.cells := by
  constructor
  · rintro ⟨c1, c2, rfl, rfl, c3, c4, rfl, rfl, rfl⟩; rfl
  · rintro rfl; exact ⟨_, _, rfl, rfl, _, _, rfl, rfl, rfl⟩
theorem ActL (h : El deedTy w S b o a) : CellsAt w b o [.int .i64 a.kind, .int .i64 a.proc, .int .i64 a.other] := by
  obtain ⟨cs, h1, h2⟩ := h.cells
  rw [deedR.1 h2] at h1; exact h1
end

end Go.Mine
/- Plain functions of chapter 16: what the reference computes of a pattern. -/
set_option linter.unusedSimpArgs false
namespace Go.Mine

/-- every number below n answers yes -/
def allR (n : Nat) (f : Nat → Bool) : Bool := (List.range n).all f
/-- the first number below n that answers yes, or -1 -/
def findR (n : Nat) (f : Nat → Bool) : Int := match (List.range n).find? f with | some i => i | none => -1

def procB (p : Pat) (n : Int) : Bool := decide (0 ≤ n) && decide (n < p.lens.length)
def ckptsB (l : List Int) (len : Int) : Bool := !((l.length : Int) == 0 || (nth l 0 != 0)) && allR l.length fun i => i == 0 || !(decide (nth l i ≤ nth l (i - 1)) || decide (len < nth l i))
def recvE (p : Pat) (q ix : Int) : Int := findR p.arcs.length fun i => decide (0 < ix) && (nth p.arcs i).to == q && (nth p.arcs i).rcv == ix
def canB (p : Pat) (x : List Int) (q : Nat) : Bool :=
  !decide (nth p.lens q ≤ nth x q) && (let n := recvE p q (nth x q + 1); decide (n < 0) || decide ((nth p.arcs n.toNat).ix ≤ nth x (nth p.arcs n.toNat).fr.toNat))
def arcBad (p : Pat) (a : Arc) : Bool :=
  !procB p a.fr || !procB p a.to || a.fr == a.to || decide (a.ix < 0) || decide (nth p.lens a.fr.toNat < a.ix) || decide (a.rcv < 0) || decide (nth p.lens a.to.toNat < a.rcv)
def arcE16 (p : Pat) (n : Nat) : Int :=
  let a := nth p.arcs n
  if arcBad p a then 3 else if allR n fun i => !(a.rcv != 0 && (nth p.arcs i).to == a.to && (nth p.arcs i).rcv == a.rcv) then 0 else 7
/-- a state of the search for an order that is not the end can go on -/
def Free (p : Pat) : Prop := ∀ x : List Int, x.length = p.lens.length → (∀ q, q < p.lens.length → 0 ≤ nth x q) → (∀ q, q < p.lens.length → nth x q ≤ nth p.lens q) → (∀ q, q < p.lens.length → canB p x q = false) → ∀ q, q < p.lens.length → nth x q = nth p.lens q
/-- a cut: an index for each process -/
structure Cut (p : Pat) (x : List Int) : Prop where
  len : x.length = p.lens.length
  lo : ∀ q, q < p.lens.length → 0 ≤ nth x q
  hi : ∀ q, q < p.lens.length → nth x q ≤ nth p.lens q
theorem sum_le : ∀ {x l : List Int}, x.length = l.length → (∀ q, q < l.length → nth x q ≤ nth l q) → x.sum ≤ l.sum
  | [], [], _, _ => by simp
  | a :: x, b :: l, h, hq => by
    have h1 := hq 0 (by simp)
    have h2 := sum_le (x := x) (l := l) (by simpa using h) fun q hq2 => by simpa [nth] using hq (q + 1) (by simpa using hq2)
    have h3 : a ≤ b := by simpa [nth] using h1
    simp; omega
  | [], b :: l, h, _ => by simp at h
  | a :: x, [], h, _ => by simp at h
theorem nth_set' {α : Type} [Inhabited α] {l : List α} {q i : Nat} {x : α} (h : q < l.length) : nth (l.set q x) i = if i = q then x else nth l i := by
  by_cases hi : i = q
  · subst hi; simp [nth, h]
  · simp [nth, hi, List.getElem?_set_ne (Ne.symm hi)]
theorem Cut.step {p : Pat} {x : List Int} {q : Nat} (h : Cut p x) (hq : q < p.lens.length) (hc : canB p x q = true) : Cut p (x.set q (nth x q + 1)) := by
  have h1 : ¬ nth p.lens q ≤ nth x q := by
    intro h2; rw [canB, decide_eq_true h2] at hc; cases hc
  have hl := h.len
  refine ⟨by simpa using hl, fun i hi => ?_, fun i hi => ?_⟩
  · rw [nth_set' (by omega)]; have := h.lo i hi; have := h.lo q hq; split <;> omega
  · rw [nth_set' (by omega)]; have := h.hi i hi; split
    · subst i; omega
    · omega
theorem Cut.sum {p : Pat} {x : List Int} (h : Cut p x) : x.sum ≤ p.lens.sum := sum_le h.len h.hi
/-- a pattern that the check takes -/
structure Pat.Ok (p : Pat) : Prop where
  procs : p.lens.length ≤ 5
  arcs : p.arcs.length ≤ 256
  rows : p.ckpts.length = p.lens.length
  lens : ∀ q, q < p.lens.length → 0 ≤ nth p.lens q ∧ nth p.lens q ≤ 64
  ckpts : ∀ q, q < p.lens.length → ckptsB (nth p.ckpts q) (nth p.lens q) = true
  short : ∀ q, q < p.lens.length → (nth p.ckpts q).length ≤ 1000000000
  arc : ∀ i, i < p.arcs.length → arcE16 p i = 0
  free : Free p
/-- sizes that fit -/
structure Pat.Fits (p : Pat) : Prop where
  lens : p.lens.length ≤ 1000000000
  ckpts : p.ckpts.length ≤ 1000000000
  arcs : p.arcs.length ≤ 1000000000
  rows : ∀ l ∈ p.ckpts, l.length ≤ 1000000000
end Go.Mine
