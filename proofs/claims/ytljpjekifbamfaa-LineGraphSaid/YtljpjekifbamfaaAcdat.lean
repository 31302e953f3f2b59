/- Printed walks: Acdat. -/
import Derived.Test.YtljpjekifbamfaaLibD
set_option linter.unusedVariables false
set_option linter.unusedSimpArgs false
namespace Go.Mine
open Go.RowKit
structure Arc where
  fr : Int
  ix : Int
  to : Int
  rcv : Int
deriving DecidableEq
instance : Inhabited Arc := ⟨⟨default, default, default, default⟩⟩
def arcTy : Ty Arc := Ty.via (Ty.pair Ty.int (Ty.pair Ty.int (Ty.pair Ty.int Ty.int))) fun a => (a.fr, a.ix, a.to, a.rcv)
theorem Arc_F0 {w : World} {S : Nat → Prop} {b o : Nat} {a : Arc} (h : Elt arcTy w S b o a) : Elt Ty.int w S b (o + 0) a.fr := h.via.fst
theorem Arc_F1 {w : World} {S : Nat → Prop} {b o : Nat} {a : Arc} (h : Elt arcTy w S b o a) : Elt Ty.int w S b (o + 1) a.ix := h.via.snd.fst
theorem Arc_F2 {w : World} {S : Nat → Prop} {b o : Nat} {a : Arc} (h : Elt arcTy w S b o a) : Elt Ty.int w S b (o + 2) a.to := h.via.snd.snd.fst
theorem Arc_F3 {w : World} {S : Nat → Prop} {b o : Nat} {a : Arc} (h : Elt arcTy w S b o a) : Elt Ty.int w S b (o + 3) a.rcv := h.via.snd.snd.snd
theorem Arc_R {w : World} {S : Nat → Prop} {a : Arc} {cs : List Value} (h : arcTy.R w S cs a) : cs = [.int .i64 a.fr, .int .i64 a.ix, .int .i64 a.to, .int .i64 a.rcv] := by
  obtain ⟨_, _, rfl, rfl, ⟨_, _, rfl, rfl, ⟨_, _, rfl, rfl, rfl⟩⟩⟩ := h
  exact rfl
theorem Arc_open {w : World} {S : Nat → Prop} {b o : Nat} {a : Arc} (h : Elt arcTy w S b o a) : CellsAt w b o [.int .i64 a.fr, .int .i64 a.ix, .int .i64 a.to, .int .i64 a.rcv] := by
  obtain ⟨cs, h1, h2⟩ := h.cells
  obtain rfl := Arc_R h2
  exact h1
def Arc.cells_ (a : Arc) : List Value := [.int .i64 a.fr, .int .i64 a.ix, .int .i64 a.to, .int .i64 a.rcv]
instance : Enc arcTy Arc.cells_ := ⟨fun w S cs a => ⟨fun h => Arc_R h, fun h => by rw [h]; exact ⟨_, _, rfl, rfl, ⟨_, _, rfl, rfl, ⟨_, _, rfl, rfl, rfl⟩⟩⟩⟩⟩
instance : TyZ arcTy [.int .i64 0, .int .i64 0, .int .i64 0, .int .i64 0] (⟨(0 : Int), (0 : Int), (0 : Int), (0 : Int)⟩ : Arc) := ⟨fun w S => ⟨_, _, rfl, rfl, ⟨_, _, rfl, rfl, ⟨_, _, rfl, rfl, rfl⟩⟩⟩⟩
structure Pat where
  lens : (List Int)
  ckpts : (List (List Int))
  arcs : (List Arc)
deriving DecidableEq
instance : Inhabited Pat := ⟨⟨default, default, default⟩⟩
def patTy : Ty Pat := Ty.via (Ty.pair (Ty.slice Ty.int) (Ty.pair (Ty.slice (Ty.slice Ty.int)) (Ty.slice arcTy))) fun a => (a.lens, a.ckpts, a.arcs)
theorem Pat_F0 {w : World} {S : Nat → Prop} {b o : Nat} {a : Pat} (h : Elt patTy w S b o a) : Elt (Ty.slice Ty.int) w S b (o + 0) a.lens := h.via.fst
theorem Pat_F1 {w : World} {S : Nat → Prop} {b o : Nat} {a : Pat} (h : Elt patTy w S b o a) : Elt (Ty.slice (Ty.slice Ty.int)) w S b (o + 1) a.ckpts := h.via.snd.fst
theorem Pat_F2 {w : World} {S : Nat → Prop} {b o : Nat} {a : Pat} (h : Elt patTy w S b o a) : Elt (Ty.slice arcTy) w S b (o + 2) a.arcs := h.via.snd.snd
theorem Pat_R {w : World} {S : Nat → Prop} {a : Pat} {cs : List Value} (h : patTy.R w S cs a) : ∃ v0, ∃ v1, ∃ v2, cs = [v0, v1, v2] ∧ IsSlice Ty.int w S v0 a.lens ∧ IsSlice (Ty.slice Ty.int) w S v1 a.ckpts ∧ IsSlice arcTy w S v2 a.arcs := by
  obtain ⟨_, _, rfl, ⟨v0, rfl, fv0⟩, ⟨_, _, rfl, ⟨v1, rfl, fv1⟩, ⟨v2, rfl, fv2⟩⟩⟩ := h
  exact ⟨v0, v1, v2, rfl, fv0, fv1, fv2⟩
theorem Pat_open {w : World} {S : Nat → Prop} {b o : Nat} {a : Pat} (h : Elt patTy w S b o a) : ∃ v0, ∃ v1, ∃ v2, CellsAt w b o [v0, v1, v2] ∧ IsSlice Ty.int w S v0 a.lens ∧ IsSlice (Ty.slice Ty.int) w S v1 a.ckpts ∧ IsSlice arcTy w S v2 a.arcs := by
  obtain ⟨cs, h1, h2⟩ := h.cells
  obtain ⟨v0, v1, v2, rfl, fv0, fv1, fv2⟩ := Pat_R h2
  exact ⟨v0, v1, v2, h1, fv0, fv1, fv2⟩
instance : TyZ patTy [.slice none 0 0, .slice none 0 0, .slice none 0 0] (⟨([] : List Int), ([] : List (List Int)), ([] : List Arc)⟩ : Pat) := ⟨fun w S => ⟨_, _, rfl, ⟨_, rfl, IsSlice.nil _ _ _⟩, ⟨_, _, rfl, ⟨_, rfl, IsSlice.nil _ _ _⟩, ⟨_, rfl, IsSlice.nil _ _ _⟩⟩⟩⟩
structure Pt where
  proc : Int
  index : Int
deriving DecidableEq
instance : Inhabited Pt := ⟨⟨default, default⟩⟩
def ptTy : Ty Pt := Ty.via (Ty.pair Ty.int Ty.int) fun a => (a.proc, a.index)
theorem Pt_F0 {w : World} {S : Nat → Prop} {b o : Nat} {a : Pt} (h : Elt ptTy w S b o a) : Elt Ty.int w S b (o + 0) a.proc := h.via.fst
theorem Pt_F1 {w : World} {S : Nat → Prop} {b o : Nat} {a : Pt} (h : Elt ptTy w S b o a) : Elt Ty.int w S b (o + 1) a.index := h.via.snd
theorem Pt_R {w : World} {S : Nat → Prop} {a : Pt} {cs : List Value} (h : ptTy.R w S cs a) : cs = [.int .i64 a.proc, .int .i64 a.index] := by
  obtain ⟨_, _, rfl, rfl, rfl⟩ := h
  exact rfl
theorem Pt_open {w : World} {S : Nat → Prop} {b o : Nat} {a : Pt} (h : Elt ptTy w S b o a) : CellsAt w b o [.int .i64 a.proc, .int .i64 a.index] := by
  obtain ⟨cs, h1, h2⟩ := h.cells
  obtain rfl := Pt_R h2
  exact h1
def Pt.cells_ (a : Pt) : List Value := [.int .i64 a.proc, .int .i64 a.index]
instance : Enc ptTy Pt.cells_ := ⟨fun w S cs a => ⟨fun h => Pt_R h, fun h => by rw [h]; exact ⟨_, _, rfl, rfl, rfl⟩⟩⟩
instance : TyZ ptTy [.int .i64 0, .int .i64 0] (⟨(0 : Int), (0 : Int)⟩ : Pt) := ⟨fun w S => ⟨_, _, rfl, rfl, rfl⟩⟩
structure Pt2 where
  x0 : Pt
  x1 : Pt
deriving DecidableEq
instance : Inhabited Pt2 := ⟨⟨default, default⟩⟩
def pt2Ty : Ty Pt2 := Ty.via (Ty.pair ptTy ptTy) fun a => (a.x0, a.x1)
theorem Pt2_F0 {w : World} {S : Nat → Prop} {b o : Nat} {a : Pt2} (h : Elt pt2Ty w S b o a) : Elt ptTy w S b (o + 0) a.x0 := h.via.fst
theorem Pt2_F1 {w : World} {S : Nat → Prop} {b o : Nat} {a : Pt2} (h : Elt pt2Ty w S b o a) : Elt ptTy w S b (o + 2) a.x1 := h.via.snd
theorem Pt2_R {w : World} {S : Nat → Prop} {a : Pt2} {cs : List Value} (h : pt2Ty.R w S cs a) : cs = [.int .i64 a.x0.proc, .int .i64 a.x0.index, .int .i64 a.x1.proc, .int .i64 a.x1.index] := by
  obtain ⟨_, _, rfl, ⟨_, _, rfl, rfl, rfl⟩, ⟨_, _, rfl, rfl, rfl⟩⟩ := h
  exact rfl
theorem Pt2_open {w : World} {S : Nat → Prop} {b o : Nat} {a : Pt2} (h : Elt pt2Ty w S b o a) : CellsAt w b o [.int .i64 a.x0.proc, .int .i64 a.x0.index, .int .i64 a.x1.proc, .int .i64 a.x1.index] := by
  obtain ⟨cs, h1, h2⟩ := h.cells
  obtain rfl := Pt2_R h2
  exact h1
def Pt2.cells_ (a : Pt2) : List Value := [.int .i64 a.x0.proc, .int .i64 a.x0.index, .int .i64 a.x1.proc, .int .i64 a.x1.index]
instance : Enc pt2Ty Pt2.cells_ := ⟨fun w S cs a => ⟨fun h => Pt2_R h, fun h => by rw [h]; exact ⟨_, _, rfl, ⟨_, _, rfl, rfl, rfl⟩, ⟨_, _, rfl, rfl, rfl⟩⟩⟩⟩
instance : TyZ pt2Ty [.int .i64 0, .int .i64 0, .int .i64 0, .int .i64 0] (⟨(⟨(0 : Int), (0 : Int)⟩ : Pt), (⟨(0 : Int), (0 : Int)⟩ : Pt)⟩ : Pt2) := ⟨fun w S => ⟨_, _, rfl, ⟨_, _, rfl, rfl, rfl⟩, ⟨_, _, rfl, rfl, rfl⟩⟩⟩
structure MakeCodes where
  list : (List Int)
  at_ : Int
deriving DecidableEq
instance : Inhabited MakeCodes := ⟨⟨default, default⟩⟩
def makeCodesTy : Ty MakeCodes := Ty.via (Ty.pair (Ty.slice Ty.u8) Ty.int) fun a => (a.list, a.at_)
theorem MakeCodes_F0 {w : World} {S : Nat → Prop} {b o : Nat} {a : MakeCodes} (h : Elt makeCodesTy w S b o a) : Elt (Ty.slice Ty.u8) w S b (o + 0) a.list := h.via.fst
theorem MakeCodes_F1 {w : World} {S : Nat → Prop} {b o : Nat} {a : MakeCodes} (h : Elt makeCodesTy w S b o a) : Elt Ty.int w S b (o + 1) a.at_ := h.via.snd
theorem MakeCodes_R {w : World} {S : Nat → Prop} {a : MakeCodes} {cs : List Value} (h : makeCodesTy.R w S cs a) : ∃ v0, cs = [v0, .int .i64 a.at_] ∧ IsSlice Ty.u8 w S v0 a.list := by
  obtain ⟨_, _, rfl, ⟨v0, rfl, fv0⟩, rfl⟩ := h
  exact ⟨v0, rfl, fv0⟩
theorem MakeCodes_open {w : World} {S : Nat → Prop} {b o : Nat} {a : MakeCodes} (h : Elt makeCodesTy w S b o a) : ∃ v0, CellsAt w b o [v0, .int .i64 a.at_] ∧ IsSlice Ty.u8 w S v0 a.list := by
  obtain ⟨cs, h1, h2⟩ := h.cells
  obtain ⟨v0, rfl, fv0⟩ := MakeCodes_R h2
  exact ⟨v0, h1, fv0⟩
instance : TyZ makeCodesTy [.slice none 0 0, .int .i64 0] (⟨([] : List Int), (0 : Int)⟩ : MakeCodes) := ⟨fun w S => ⟨_, _, rfl, ⟨_, rfl, IsSlice.nil _ _ _⟩, rfl⟩⟩
end Go.Mine
