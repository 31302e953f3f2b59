/- Printed walks: Acdat. -/
import Derived.Test.YtddohdppmejjoaaLibD
set_option linter.unusedVariables false
set_option linter.unusedSimpArgs false
namespace Go.Mine
open Go.RowKit
structure Lab where
  inc : Int
  index : Int
deriving DecidableEq
def labTy : Ty Lab := Ty.via (Ty.pair Ty.int Ty.int) fun a => (a.inc, a.index)
theorem Lab_R {w : World} {S : Nat → Prop} {a : Lab} {cs : List Value} (h : labTy.R w S cs a) : cs = [.int .i64 a.inc, .int .i64 a.index] := by
  obtain ⟨_, _, rfl, rfl, rfl⟩ := h
  exact rfl
theorem Lab_open {w : World} {S : Nat → Prop} {b o : Nat} {a : Lab} (h : Elt labTy w S b o a) : CellsAt w b o [.int .i64 a.inc, .int .i64 a.index] := by
  obtain ⟨cs, h1, h2⟩ := h.cells
  obtain rfl := Lab_R h2
  exact h1
def Lab.cells_ (a : Lab) : List Value := [.int .i64 a.inc, .int .i64 a.index]
structure Evt where
  kind : Int
  inc : Int
  frm : Int
  sent : Lab
  ord : Int
  value : Int
deriving DecidableEq
def evtTy : Ty Evt := Ty.via (Ty.pair Ty.int (Ty.pair Ty.int (Ty.pair Ty.int (Ty.pair labTy (Ty.pair Ty.int Ty.int))))) fun a => (a.kind, a.inc, a.frm, a.sent, a.ord, a.value)
theorem Evt_F0 {w : World} {S : Nat → Prop} {b o : Nat} {a : Evt} (h : Elt evtTy w S b o a) : Elt Ty.int w S b (o + 0) a.kind := h.via.fst
theorem Evt_F2 {w : World} {S : Nat → Prop} {b o : Nat} {a : Evt} (h : Elt evtTy w S b o a) : Elt Ty.int w S b (o + 2) a.frm := h.via.snd.snd.fst
theorem Evt_F3 {w : World} {S : Nat → Prop} {b o : Nat} {a : Evt} (h : Elt evtTy w S b o a) : Elt labTy w S b (o + 3) a.sent := h.via.snd.snd.snd.fst
theorem Evt_R {w : World} {S : Nat → Prop} {a : Evt} {cs : List Value} (h : evtTy.R w S cs a) : cs = [.int .i64 a.kind, .int .i64 a.inc, .int .i64 a.frm, .int .i64 a.sent.inc, .int .i64 a.sent.index, .int .i64 a.ord, .int .i64 a.value] := by
  obtain ⟨_, _, rfl, rfl, ⟨_, _, rfl, rfl, ⟨_, _, rfl, rfl, ⟨_, _, rfl, ⟨_, _, rfl, rfl, rfl⟩, ⟨_, _, rfl, rfl, rfl⟩⟩⟩⟩⟩ := h
  exact rfl
theorem Evt_open {w : World} {S : Nat → Prop} {b o : Nat} {a : Evt} (h : Elt evtTy w S b o a) : CellsAt w b o [.int .i64 a.kind, .int .i64 a.inc, .int .i64 a.frm, .int .i64 a.sent.inc, .int .i64 a.sent.index, .int .i64 a.ord, .int .i64 a.value] := by
  obtain ⟨cs, h1, h2⟩ := h.cells
  obtain rfl := Evt_R h2
  exact h1
def Evt.cells_ (a : Evt) : List Value := [.int .i64 a.kind, .int .i64 a.inc, .int .i64 a.frm, .int .i64 a.sent.inc, .int .i64 a.sent.index, .int .i64 a.ord, .int .i64 a.value]
instance : Enc evtTy Evt.cells_ := ⟨fun w S cs a => ⟨fun h => Evt_R h, fun h => by rw [h]; exact ⟨_, _, rfl, rfl, ⟨_, _, rfl, rfl, ⟨_, _, rfl, rfl, ⟨_, _, rfl, ⟨_, _, rfl, rfl, rfl⟩, ⟨_, _, rfl, rfl, rfl⟩⟩⟩⟩⟩⟩⟩
structure EndI where
  proc : Int
  inc : Int
  index : Int
deriving DecidableEq
instance : Inhabited EndI := ⟨⟨default, default, default⟩⟩
def endITy : Ty EndI := Ty.via (Ty.pair Ty.int (Ty.pair Ty.int Ty.int)) fun a => (a.proc, a.inc, a.index)
theorem EndI_F0 {w : World} {S : Nat → Prop} {b o : Nat} {a : EndI} (h : Elt endITy w S b o a) : Elt Ty.int w S b (o + 0) a.proc := h.via.fst
theorem EndI_F1 {w : World} {S : Nat → Prop} {b o : Nat} {a : EndI} (h : Elt endITy w S b o a) : Elt Ty.int w S b (o + 1) a.inc := h.via.snd.fst
theorem EndI_F2 {w : World} {S : Nat → Prop} {b o : Nat} {a : EndI} (h : Elt endITy w S b o a) : Elt Ty.int w S b (o + 2) a.index := h.via.snd.snd
theorem EndI_R {w : World} {S : Nat → Prop} {a : EndI} {cs : List Value} (h : endITy.R w S cs a) : cs = [.int .i64 a.proc, .int .i64 a.inc, .int .i64 a.index] := by
  obtain ⟨_, _, rfl, rfl, ⟨_, _, rfl, rfl, rfl⟩⟩ := h
  exact rfl
theorem EndI_open {w : World} {S : Nat → Prop} {b o : Nat} {a : EndI} (h : Elt endITy w S b o a) : CellsAt w b o [.int .i64 a.proc, .int .i64 a.inc, .int .i64 a.index] := by
  obtain ⟨cs, h1, h2⟩ := h.cells
  obtain rfl := EndI_R h2
  exact h1
def EndI.cells_ (a : EndI) : List Value := [.int .i64 a.proc, .int .i64 a.inc, .int .i64 a.index]
instance : Enc endITy EndI.cells_ := ⟨fun w S cs a => ⟨fun h => EndI_R h, fun h => by rw [h]; exact ⟨_, _, rfl, rfl, ⟨_, _, rfl, rfl, rfl⟩⟩⟩⟩
structure Branch where
  inc : Int
  events : (List Evt)
  stable : Int
  ends : (List EndI)
deriving DecidableEq
def branchTy : Ty Branch := Ty.via (Ty.pair Ty.int (Ty.pair (Ty.slice evtTy) (Ty.pair Ty.int (Ty.slice endITy)))) fun a => (a.inc, a.events, a.stable, a.ends)
theorem Branch_F0 {w : World} {S : Nat → Prop} {b o : Nat} {a : Branch} (h : Elt branchTy w S b o a) : Elt Ty.int w S b (o + 0) a.inc := h.via.fst
theorem Branch_F1 {w : World} {S : Nat → Prop} {b o : Nat} {a : Branch} (h : Elt branchTy w S b o a) : Elt (Ty.slice evtTy) w S b (o + 1) a.events := h.via.snd.fst
theorem Branch_F2 {w : World} {S : Nat → Prop} {b o : Nat} {a : Branch} (h : Elt branchTy w S b o a) : Elt Ty.int w S b (o + 2) a.stable := h.via.snd.snd.fst
theorem Branch_F3 {w : World} {S : Nat → Prop} {b o : Nat} {a : Branch} (h : Elt branchTy w S b o a) : Elt (Ty.slice endITy) w S b (o + 3) a.ends := h.via.snd.snd.snd
theorem Branch_R {w : World} {S : Nat → Prop} {a : Branch} {cs : List Value} (h : branchTy.R w S cs a) : ∃ v0, ∃ v1, cs = [.int .i64 a.inc, v0, .int .i64 a.stable, v1] ∧ IsSlice evtTy w S v0 a.events ∧ IsSlice endITy w S v1 a.ends := by
  obtain ⟨_, _, rfl, rfl, ⟨_, _, rfl, ⟨v0, rfl, fv0⟩, ⟨_, _, rfl, rfl, ⟨v1, rfl, fv1⟩⟩⟩⟩ := h
  exact ⟨v0, v1, rfl, fv0, fv1⟩
theorem Branch_open {w : World} {S : Nat → Prop} {b o : Nat} {a : Branch} (h : Elt branchTy w S b o a) : ∃ v0, ∃ v1, CellsAt w b o [.int .i64 a.inc, v0, .int .i64 a.stable, v1] ∧ IsSlice evtTy w S v0 a.events ∧ IsSlice endITy w S v1 a.ends := by
  obtain ⟨cs, h1, h2⟩ := h.cells
  obtain ⟨v0, v1, rfl, fv0, fv1⟩ := Branch_R h2
  exact ⟨v0, v1, h1, fv0, fv1⟩
instance : TyZ branchTy [.int .i64 0, .slice none 0 0, .int .i64 0, .slice none 0 0] (⟨(0 : Int), ([] : List Evt), (0 : Int), ([] : List EndI)⟩ : Branch) := ⟨fun w S => ⟨_, _, rfl, rfl, ⟨_, _, rfl, ⟨_, rfl, IsSlice.nil _ _ _⟩, ⟨_, _, rfl, rfl, ⟨_, rfl, IsSlice.nil _ _ _⟩⟩⟩⟩⟩
structure Letter where
  frm : Int
  to : Int
  news : Bool
  sent : Lab
  end_ : EndI
deriving DecidableEq
def letterTy : Ty Letter := Ty.via (Ty.pair Ty.int (Ty.pair Ty.int (Ty.pair Ty.bool (Ty.pair labTy endITy)))) fun a => (a.frm, a.to, a.news, a.sent, a.end_)
theorem Letter_F1 {w : World} {S : Nat → Prop} {b o : Nat} {a : Letter} (h : Elt letterTy w S b o a) : Elt Ty.int w S b (o + 1) a.to := h.via.snd.fst
theorem Letter_F2 {w : World} {S : Nat → Prop} {b o : Nat} {a : Letter} (h : Elt letterTy w S b o a) : Elt Ty.bool w S b (o + 2) a.news := h.via.snd.snd.fst
theorem Letter_R {w : World} {S : Nat → Prop} {a : Letter} {cs : List Value} (h : letterTy.R w S cs a) : cs = [.int .i64 a.frm, .int .i64 a.to, .bool a.news, .int .i64 a.sent.inc, .int .i64 a.sent.index, .int .i64 a.end_.proc, .int .i64 a.end_.inc, .int .i64 a.end_.index] := by
  obtain ⟨_, _, rfl, rfl, ⟨_, _, rfl, rfl, ⟨_, _, rfl, rfl, ⟨_, _, rfl, ⟨_, _, rfl, rfl, rfl⟩, ⟨_, _, rfl, rfl, ⟨_, _, rfl, rfl, rfl⟩⟩⟩⟩⟩⟩ := h
  exact rfl
theorem Letter_open {w : World} {S : Nat → Prop} {b o : Nat} {a : Letter} (h : Elt letterTy w S b o a) : CellsAt w b o [.int .i64 a.frm, .int .i64 a.to, .bool a.news, .int .i64 a.sent.inc, .int .i64 a.sent.index, .int .i64 a.end_.proc, .int .i64 a.end_.inc, .int .i64 a.end_.index] := by
  obtain ⟨cs, h1, h2⟩ := h.cells
  obtain rfl := Letter_R h2
  exact h1
def Letter.cells_ (a : Letter) : List Value := [.int .i64 a.frm, .int .i64 a.to, .bool a.news, .int .i64 a.sent.inc, .int .i64 a.sent.index, .int .i64 a.end_.proc, .int .i64 a.end_.inc, .int .i64 a.end_.index]
instance : Enc letterTy Letter.cells_ := ⟨fun w S cs a => ⟨fun h => Letter_R h, fun h => by rw [h]; exact ⟨_, _, rfl, rfl, ⟨_, _, rfl, rfl, ⟨_, _, rfl, rfl, ⟨_, _, rfl, ⟨_, _, rfl, rfl, rfl⟩, ⟨_, _, rfl, rfl, ⟨_, _, rfl, rfl, rfl⟩⟩⟩⟩⟩⟩⟩⟩
structure Cascade where
  branches : (List Branch)
  flight : (List Letter)
deriving DecidableEq
structure Shock where
  kind : Int
  proc : Int
  other : Int
deriving DecidableEq
def shockTy : Ty Shock := Ty.via (Ty.pair Ty.int (Ty.pair Ty.int Ty.int)) fun a => (a.kind, a.proc, a.other)
theorem Shock_R {w : World} {S : Nat → Prop} {a : Shock} {cs : List Value} (h : shockTy.R w S cs a) : cs = [.int .i64 a.kind, .int .i64 a.proc, .int .i64 a.other] := by
  obtain ⟨_, _, rfl, rfl, ⟨_, _, rfl, rfl, rfl⟩⟩ := h
  exact rfl
theorem Shock_open {w : World} {S : Nat → Prop} {b o : Nat} {a : Shock} (h : Elt shockTy w S b o a) : CellsAt w b o [.int .i64 a.kind, .int .i64 a.proc, .int .i64 a.other] := by
  obtain ⟨cs, h1, h2⟩ := h.cells
  obtain rfl := Shock_R h2
  exact h1
def Shock.cells_ (a : Shock) : List Value := [.int .i64 a.kind, .int .i64 a.proc, .int .i64 a.other]
structure CascadeMachine where
  cascade : Cascade
deriving DecidableEq
end Go.Mine
