/- Printed walks: Acdat. -/
import Derived.Test.YtbmjcbhappjnaaaLibD
set_option linter.unusedVariables false
set_option linter.unusedSimpArgs false
namespace Go.Mine
open Go.RowKit
structure Deed where
  kind : Int
  proc : Int
  other : Int
deriving DecidableEq
instance : Inhabited Deed := ⟨⟨default, default, default⟩⟩
def deedTy : Ty Deed := Ty.via (Ty.pair Ty.int (Ty.pair Ty.int Ty.int)) fun a => (a.kind, a.proc, a.other)
theorem Deed_R {w : World} {S : Nat → Prop} {a : Deed} {cs : List Value} (h : deedTy.R w S cs a) : cs = [.int .i64 a.kind, .int .i64 a.proc, .int .i64 a.other] := by
  obtain ⟨_, _, rfl, rfl, ⟨_, _, rfl, rfl, rfl⟩⟩ := h
  exact rfl
theorem Deed_open {w : World} {S : Nat → Prop} {b o : Nat} {a : Deed} (h : Elt deedTy w S b o a) : CellsAt w b o [.int .i64 a.kind, .int .i64 a.proc, .int .i64 a.other] := by
  obtain ⟨cs, h1, h2⟩ := h.cells
  obtain rfl := Deed_R h2
  exact h1
def Deed.cells_ (a : Deed) : List Value := [.int .i64 a.kind, .int .i64 a.proc, .int .i64 a.other]
structure Arc where
  fr : Int
  ix : Int
  to : Int
  rcv : Int
deriving DecidableEq
instance : Inhabited Arc := ⟨⟨default, default, default, default⟩⟩
def arcTy : Ty Arc := Ty.via (Ty.pair Ty.int (Ty.pair Ty.int (Ty.pair Ty.int Ty.int))) fun a => (a.fr, a.ix, a.to, a.rcv)
theorem Arc_F2 {w : World} {S : Nat → Prop} {b o : Nat} {a : Arc} (h : Elt arcTy w S b o a) : Elt Ty.int w S b (o + 2) a.to := h.via.snd.snd.fst
theorem Arc_R {w : World} {S : Nat → Prop} {a : Arc} {cs : List Value} (h : arcTy.R w S cs a) : cs = [.int .i64 a.fr, .int .i64 a.ix, .int .i64 a.to, .int .i64 a.rcv] := by
  obtain ⟨_, _, rfl, rfl, ⟨_, _, rfl, rfl, ⟨_, _, rfl, rfl, rfl⟩⟩⟩ := h
  exact rfl
theorem Arc_open {w : World} {S : Nat → Prop} {b o : Nat} {a : Arc} (h : Elt arcTy w S b o a) : CellsAt w b o [.int .i64 a.fr, .int .i64 a.ix, .int .i64 a.to, .int .i64 a.rcv] := by
  obtain ⟨cs, h1, h2⟩ := h.cells
  obtain rfl := Arc_R h2
  exact h1
def Arc.cells_ (a : Arc) : List Value := [.int .i64 a.fr, .int .i64 a.ix, .int .i64 a.to, .int .i64 a.rcv]
instance : Enc arcTy Arc.cells_ := ⟨fun w S cs a => ⟨fun h => Arc_R h, fun h => by rw [h]; exact ⟨_, _, rfl, rfl, ⟨_, _, rfl, rfl, ⟨_, _, rfl, rfl, rfl⟩⟩⟩⟩⟩
structure Pat where
  lens : (List Int)
  ckpts : (List (List Int))
  arcs : (List Arc)
deriving DecidableEq
structure Hist where
  pat : Pat
  clocks : (List (List Int))
  vecs : (List (List (List Int)))
  forced : (List (List Bool))
deriving DecidableEq
structure Lab where
  inc : Int
  index : Int
deriving DecidableEq
def Lab.cells_ (a : Lab) : List Value := [.int .i64 a.inc, .int .i64 a.index]
structure Evt where
  kind : Int
  inc : Int
  frm : Int
  sent : Lab
  ord : Int
  value : Int
deriving DecidableEq
def Evt.cells_ (a : Evt) : List Value := [.int .i64 a.kind, .int .i64 a.inc, .int .i64 a.frm, .int .i64 a.sent.inc, .int .i64 a.sent.index, .int .i64 a.ord, .int .i64 a.value]
structure EndI where
  proc : Int
  inc : Int
  index : Int
deriving DecidableEq
def EndI.cells_ (a : EndI) : List Value := [.int .i64 a.proc, .int .i64 a.inc, .int .i64 a.index]
structure Pt where
  proc : Int
  index : Int
deriving DecidableEq
def Pt.cells_ (a : Pt) : List Value := [.int .i64 a.proc, .int .i64 a.index]
structure Ref26Flying where
  arc : Int
  vector : (List Int)
deriving DecidableEq
def ref26FlyingTy : Ty Ref26Flying := Ty.via (Ty.pair Ty.int (Ty.slice Ty.int)) fun a => (a.arc, a.vector)
theorem Ref26Flying_F0 {w : World} {S : Nat → Prop} {b o : Nat} {a : Ref26Flying} (h : Elt ref26FlyingTy w S b o a) : Elt Ty.int w S b (o + 0) a.arc := h.via.fst
theorem Ref26Flying_R {w : World} {S : Nat → Prop} {a : Ref26Flying} {cs : List Value} (h : ref26FlyingTy.R w S cs a) : ∃ v0, cs = [.int .i64 a.arc, v0] ∧ IsSlice Ty.int w S v0 a.vector := by
  obtain ⟨_, _, rfl, rfl, ⟨v0, rfl, fv0⟩⟩ := h
  exact ⟨v0, rfl, fv0⟩
theorem Ref26Flying_open {w : World} {S : Nat → Prop} {b o : Nat} {a : Ref26Flying} (h : Elt ref26FlyingTy w S b o a) : ∃ v0, CellsAt w b o [.int .i64 a.arc, v0] ∧ IsSlice Ty.int w S v0 a.vector := by
  obtain ⟨cs, h1, h2⟩ := h.cells
  obtain ⟨v0, rfl, fv0⟩ := Ref26Flying_R h2
  exact ⟨v0, h1, fv0⟩
structure IndexedLetter where
  arc : Int
  clock : Int
deriving DecidableEq
def IndexedLetter.cells_ (a : IndexedLetter) : List Value := [.int .i64 a.arc, .int .i64 a.clock]
structure Pt2 where
  x0 : Pt
  x1 : Pt
deriving DecidableEq
def Pt2.cells_ (a : Pt2) : List Value := [.int .i64 a.x0.proc, .int .i64 a.x0.index, .int .i64 a.x1.proc, .int .i64 a.x1.index]
end Go.Mine
