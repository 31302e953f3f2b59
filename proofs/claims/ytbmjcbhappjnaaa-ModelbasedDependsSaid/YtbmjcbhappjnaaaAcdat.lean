/- What every law's row of this seat needs. -/
import Derived.Test.YtbmjcbhappjnaaaTypes
import Derived.Test.YtbmjcbhappjnaaaRows
import Derived.Test.YtbmjcbhappjnaaaLibD
set_option linter.unusedSimpArgs false
namespace Go.Proofs.Ytbmjcbhappjnaaa
open Go.ChangeShapes Go.WideShapes Go.ChangeAt Go.RowKit Go.Mine
theorem lawOwn : ownKnob Try.prog.godebug = none := by kernel_rfl
theorem lawLaid : laidOutB Try.prog = true := by kernel_rfl
end Go.Proofs.Ytbmjcbhappjnaaa
/- How the arguments of laws read: choices. -/
set_option linter.unusedSimpArgs false
namespace Go.Proofs.Ytbmjcbhappjnaaa
open Go.ChangeShapes Go.WideShapes Go.ChangeAt Go.RowKit Go.Mine
theorem o_u8 : Opens Try.prog 5 Ty.u8 U8 := Opens.u8 Try.underlying5 (by kernel_rfl)
end Go.Proofs.Ytbmjcbhappjnaaa
/- The end of a law's proof (for seats without Opens32). -/
set_option linter.unusedSimpArgs false
namespace Go.Proofs.Ytbmjcbhappjnaaa
open Go.ChangeShapes Go.WideShapes Go.ChangeAt Go.RowKit Go.Mine
theorem lawEnd {f : Nat} {args : List Value} {w : World} (h : Gives Try.prog f args w fun u w1 => ∃ R1 : Nat → Prop, u = .bool true ∧ Sep (fun _ => False) (fun k => k < w.heap.size) R1 w w1 []) : Gives Try.prog f args w fun v w' => v = .bool true ∧ Below w.heap.size w w' :=
  h.mono fun _ _ ⟨_, e, hS⟩ => ⟨e, hS.stepBF⟩
end Go.Proofs.Ytbmjcbhappjnaaa
/- Printed walks: Acdat. -/
set_option linter.unusedVariables false
set_option linter.unusedSimpArgs false
namespace Go.Mine
open Go.RowKit
structure Deed where
  kind : Int
  proc : Int
  other : Int
deriving DecidableEq
instance : Inhabited Deed := ⟨⟨default, default, default⟩⟩
def deedTy : Ty Deed := Ty.via (Ty.pair Ty.int (Ty.pair Ty.int Ty.int)) fun a => (a.kind, a.proc, a.other)
def Deed.cells_ (a : Deed) : List Value := [.int .i64 a.kind, .int .i64 a.proc, .int .i64 a.other]
def Deed.key_ (a : Deed) : Value := .agg (Deed.cells_ a).toArray
structure Arc where
  fr : Int
  ix : Int
  to : Int
  rcv : Int
deriving DecidableEq
instance : Inhabited Arc := ⟨⟨default, default, default, default⟩⟩
def arcTy : Ty Arc := Ty.via (Ty.pair Ty.int (Ty.pair Ty.int (Ty.pair Ty.int Ty.int))) fun a => (a.fr, a.ix, a.to, a.rcv)
theorem Arc_F0 {w : World} {S : Nat → Prop} {b o : Nat} {a : Arc} (h : Elt arcTy w S b o a) : Elt Ty.int w S b (o + 0) a.fr := h.via.fst
theorem Arc_F1 {w : World} {S : Nat → Prop} {b o : Nat} {a : Arc} (h : Elt arcTy w S b o a) : Elt Ty.int w S b (o + 1) a.ix := h.via.snd.fst
theorem Arc_F2 {w : World} {S : Nat → Prop} {b o : Nat} {a : Arc} (h : Elt arcTy w S b o a) : Elt Ty.int w S b (o + 2) a.to := h.via.snd.snd.fst
theorem Arc_F3 {w : World} {S : Nat → Prop} {b o : Nat} {a : Arc} (h : Elt arcTy w S b o a) : Elt Ty.int w S b (o + 3) a.rcv := h.via.snd.snd.snd
theorem Arc_R {w : World} {S : Nat → Prop} {a : Arc} {cs : List Value} (h : arcTy.R w S cs a) : cs = [.int .i64 a.fr, .int .i64 a.ix, .int .i64 a.to, .int .i64 a.rcv] := by
  obtain ⟨_, _, rfl, rfl, ⟨_, _, rfl, rfl, ⟨_, _, rfl, rfl, rfl⟩⟩⟩ := h
  exact rfl
theorem Arc_open {w : World} {S : Nat → Prop} {b o : Nat} {a : Arc} (h : Elt arcTy w S b o a) : CellsAt w b o [.int .i64 a.fr, .int .i64 a.ix, .int .i64 a.to, .int .i64 a.rcv] := by
  obtain ⟨cs, h1, h2⟩ := h.cells
  obtain rfl := Arc_R h2
  exact h1
def Arc.cells_ (a : Arc) : List Value := [.int .i64 a.fr, .int .i64 a.ix, .int .i64 a.to, .int .i64 a.rcv]
def Arc.key_ (a : Arc) : Value := .agg (Arc.cells_ a).toArray
structure Pat where
  lens : (List Int)
  ckpts : (List (List Int))
  arcs : (List Arc)
deriving DecidableEq
structure Hist where
  pat : Pat
  clocks : (List (List Int))
  vecs : (List (List (List Int)))
  forced : (List (List Bool))
deriving DecidableEq
structure Lab where
  inc : Int
  index : Int
deriving DecidableEq
def Lab.cells_ (a : Lab) : List Value := [.int .i64 a.inc, .int .i64 a.index]
def Lab.key_ (a : Lab) : Value := .agg (Lab.cells_ a).toArray
structure Evt where
  kind : Int
  inc : Int
  frm : Int
  sent : Lab
  ord : Int
  value : Int
deriving DecidableEq
def Evt.cells_ (a : Evt) : List Value := [.int .i64 a.kind, .int .i64 a.inc, .int .i64 a.frm, .int .i64 a.sent.inc, .int .i64 a.sent.index, .int .i64 a.ord, .int .i64 a.value]
def Evt.key_ (a : Evt) : Value := .agg (Evt.cells_ a).toArray
structure EndI where
  proc : Int
  inc : Int
  index : Int
deriving DecidableEq
def EndI.cells_ (a : EndI) : List Value := [.int .i64 a.proc, .int .i64 a.inc, .int .i64 a.index]
def EndI.key_ (a : EndI) : Value := .agg (EndI.cells_ a).toArray
structure Pt where
  proc : Int
  index : Int
deriving DecidableEq
def ptTy : Ty Pt := Ty.via (Ty.pair Ty.int Ty.int) fun a => (a.proc, a.index)
theorem Pt_R {w : World} {S : Nat → Prop} {a : Pt} {cs : List Value} (h : ptTy.R w S cs a) : cs = [.int .i64 a.proc, .int .i64 a.index] := by
  obtain ⟨_, _, rfl, rfl, rfl⟩ := h
  exact rfl
theorem Pt_open {w : World} {S : Nat → Prop} {b o : Nat} {a : Pt} (h : Elt ptTy w S b o a) : CellsAt w b o [.int .i64 a.proc, .int .i64 a.index] := by
  obtain ⟨cs, h1, h2⟩ := h.cells
  obtain rfl := Pt_R h2
  exact h1
def Pt.cells_ (a : Pt) : List Value := [.int .i64 a.proc, .int .i64 a.index]
def Pt.key_ (a : Pt) : Value := .agg (Pt.cells_ a).toArray
instance : Enc ptTy Pt.cells_ := ⟨fun w S cs a => ⟨fun h => Pt_R h, fun h => by rw [h]; exact ⟨_, _, rfl, rfl, rfl⟩⟩⟩
structure ModelbasedActor where
  vector : (List Int)
  sent : Bool
  active : Bool
deriving DecidableEq
structure ModelbasedLetter where
  arc : Int
  vector : (List Int)
deriving DecidableEq
structure Ref26Flying where
  arc : Int
  vector : (List Int)
deriving DecidableEq
structure Ref26Run where
  h : Hist
  rule : Int
  vectors : (List (List Int))
  sent : (List Bool)
  flight : (List Ref26Flying)
deriving DecidableEq
structure IndexedLetter where
  arc : Int
  clock : Int
deriving DecidableEq
def IndexedLetter.cells_ (a : IndexedLetter) : List Value := [.int .i64 a.arc, .int .i64 a.clock]
def IndexedLetter.key_ (a : IndexedLetter) : Value := .agg (IndexedLetter.cells_ a).toArray
structure IndexedComputation where
  h : Hist
  clocks : (List Int)
  flight : (List IndexedLetter)
deriving DecidableEq
structure MakeCodes where
  list : (List Int)
  at_ : Int
deriving DecidableEq
structure OrphanTracker where
  l : (List (List Evt))
  vectors : (List (List (List Lab)))
  onWay : (List Bool)
deriving DecidableEq
structure Pt2 where
  x0 : Pt
  x1 : Pt
deriving DecidableEq
def Pt2.cells_ (a : Pt2) : List Value := [.int .i64 a.x0.proc, .int .i64 a.x0.index, .int .i64 a.x1.proc, .int .i64 a.x1.index]
def Pt2.key_ (a : Pt2) : Value := .agg (Pt2.cells_ a).toArray
end Go.Mine
