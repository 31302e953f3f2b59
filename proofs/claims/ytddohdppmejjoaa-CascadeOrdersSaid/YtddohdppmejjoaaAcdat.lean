/- Printed walks: Acdat. -/
import Derived.Test.YtddohdppmejjoaaLibD
set_option linter.unusedVariables false
set_option linter.unusedSimpArgs false
namespace Go.Mine
open Go.RowKit
structure Lab where
  inc : Int
  index : Int
deriving DecidableEq
instance : Inhabited Lab := ⟨⟨default, default⟩⟩
def labTy : Ty Lab := Ty.via (Ty.pair Ty.int Ty.int) fun a => (a.inc, a.index)
theorem Lab_F0 {w : World} {S : Nat → Prop} {b o : Nat} {a : Lab} (h : Elt labTy w S b o a) : Elt Ty.int w S b (o + 0) a.inc := h.via.fst
theorem Lab_F1 {w : World} {S : Nat → Prop} {b o : Nat} {a : Lab} (h : Elt labTy w S b o a) : Elt Ty.int w S b (o + 1) a.index := h.via.snd
theorem Lab_R {w : World} {S : Nat → Prop} {a : Lab} {cs : List Value} (h : labTy.R w S cs a) : cs = [.int .i64 a.inc, .int .i64 a.index] := by
  obtain ⟨_, _, rfl, rfl, rfl⟩ := h
  exact rfl
theorem Lab_open {w : World} {S : Nat → Prop} {b o : Nat} {a : Lab} (h : Elt labTy w S b o a) : CellsAt w b o [.int .i64 a.inc, .int .i64 a.index] := by
  obtain ⟨cs, h1, h2⟩ := h.cells
  obtain rfl := Lab_R h2
  exact h1
def Lab.cells_ (a : Lab) : List Value := [.int .i64 a.inc, .int .i64 a.index]
def Lab.key_ (a : Lab) : Value := .agg (Lab.cells_ a).toArray
instance : Enc labTy Lab.cells_ := ⟨fun w S cs a => ⟨fun h => Lab_R h, fun h => by rw [h]; exact ⟨_, _, rfl, rfl, rfl⟩⟩⟩
instance : TyZ labTy [.int .i64 0, .int .i64 0] (⟨(0 : Int), (0 : Int)⟩ : Lab) := ⟨fun w S => ⟨_, _, rfl, rfl, rfl⟩⟩
structure Evt where
  kind : Int
  inc : Int
  frm : Int
  sent : Lab
  ord : Int
  value : Int
deriving DecidableEq
instance : Inhabited Evt := ⟨⟨default, default, default, default, default, default⟩⟩
def evtTy : Ty Evt := Ty.via (Ty.pair Ty.int (Ty.pair Ty.int (Ty.pair Ty.int (Ty.pair labTy (Ty.pair Ty.int Ty.int))))) fun a => (a.kind, a.inc, a.frm, a.sent, a.ord, a.value)
theorem Evt_F0 {w : World} {S : Nat → Prop} {b o : Nat} {a : Evt} (h : Elt evtTy w S b o a) : Elt Ty.int w S b (o + 0) a.kind := h.via.fst
theorem Evt_F1 {w : World} {S : Nat → Prop} {b o : Nat} {a : Evt} (h : Elt evtTy w S b o a) : Elt Ty.int w S b (o + 1) a.inc := h.via.snd.fst
theorem Evt_F2 {w : World} {S : Nat → Prop} {b o : Nat} {a : Evt} (h : Elt evtTy w S b o a) : Elt Ty.int w S b (o + 2) a.frm := h.via.snd.snd.fst
theorem Evt_F3 {w : World} {S : Nat → Prop} {b o : Nat} {a : Evt} (h : Elt evtTy w S b o a) : Elt labTy w S b (o + 3) a.sent := h.via.snd.snd.snd.fst
theorem Evt_F4 {w : World} {S : Nat → Prop} {b o : Nat} {a : Evt} (h : Elt evtTy w S b o a) : Elt Ty.int w S b (o + 5) a.ord := h.via.snd.snd.snd.snd.fst
theorem Evt_F5 {w : World} {S : Nat → Prop} {b o : Nat} {a : Evt} (h : Elt evtTy w S b o a) : Elt Ty.int w S b (o + 6) a.value := h.via.snd.snd.snd.snd.snd
theorem Evt_R {w : World} {S : Nat → Prop} {a : Evt} {cs : List Value} (h : evtTy.R w S cs a) : cs = [.int .i64 a.kind, .int .i64 a.inc, .int .i64 a.frm, .int .i64 a.sent.inc, .int .i64 a.sent.index, .int .i64 a.ord, .int .i64 a.value] := by
  obtain ⟨_, _, rfl, rfl, ⟨_, _, rfl, rfl, ⟨_, _, rfl, rfl, ⟨_, _, rfl, ⟨_, _, rfl, rfl, rfl⟩, ⟨_, _, rfl, rfl, rfl⟩⟩⟩⟩⟩ := h
  exact rfl
theorem Evt_open {w : World} {S : Nat → Prop} {b o : Nat} {a : Evt} (h : Elt evtTy w S b o a) : CellsAt w b o [.int .i64 a.kind, .int .i64 a.inc, .int .i64 a.frm, .int .i64 a.sent.inc, .int .i64 a.sent.index, .int .i64 a.ord, .int .i64 a.value] := by
  obtain ⟨cs, h1, h2⟩ := h.cells
  obtain rfl := Evt_R h2
  exact h1
def Evt.cells_ (a : Evt) : List Value := [.int .i64 a.kind, .int .i64 a.inc, .int .i64 a.frm, .int .i64 a.sent.inc, .int .i64 a.sent.index, .int .i64 a.ord, .int .i64 a.value]
def Evt.key_ (a : Evt) : Value := .agg (Evt.cells_ a).toArray
instance : Enc evtTy Evt.cells_ := ⟨fun w S cs a => ⟨fun h => Evt_R h, fun h => by rw [h]; exact ⟨_, _, rfl, rfl, ⟨_, _, rfl, rfl, ⟨_, _, rfl, rfl, ⟨_, _, rfl, ⟨_, _, rfl, rfl, rfl⟩, ⟨_, _, rfl, rfl, rfl⟩⟩⟩⟩⟩⟩⟩
instance : TyZ evtTy [.int .i64 0, .int .i64 0, .int .i64 0, .int .i64 0, .int .i64 0, .int .i64 0, .int .i64 0] (⟨(0 : Int), (0 : Int), (0 : Int), (⟨(0 : Int), (0 : Int)⟩ : Lab), (0 : Int), (0 : Int)⟩ : Evt) := ⟨fun w S => ⟨_, _, rfl, rfl, ⟨_, _, rfl, rfl, ⟨_, _, rfl, rfl, ⟨_, _, rfl, ⟨_, _, rfl, rfl, rfl⟩, ⟨_, _, rfl, rfl, rfl⟩⟩⟩⟩⟩⟩
structure EndI where
  proc : Int
  inc : Int
  index : Int
deriving DecidableEq
instance : Inhabited EndI := ⟨⟨default, default, default⟩⟩
def endITy : Ty EndI := Ty.via (Ty.pair Ty.int (Ty.pair Ty.int Ty.int)) fun a => (a.proc, a.inc, a.index)
theorem EndI_F0 {w : World} {S : Nat → Prop} {b o : Nat} {a : EndI} (h : Elt endITy w S b o a) : Elt Ty.int w S b (o + 0) a.proc := h.via.fst
theorem EndI_F1 {w : World} {S : Nat → Prop} {b o : Nat} {a : EndI} (h : Elt endITy w S b o a) : Elt Ty.int w S b (o + 1) a.inc := h.via.snd.fst
theorem EndI_F2 {w : World} {S : Nat → Prop} {b o : Nat} {a : EndI} (h : Elt endITy w S b o a) : Elt Ty.int w S b (o + 2) a.index := h.via.snd.snd
theorem EndI_R {w : World} {S : Nat → Prop} {a : EndI} {cs : List Value} (h : endITy.R w S cs a) : cs = [.int .i64 a.proc, .int .i64 a.inc, .int .i64 a.index] := by
  obtain ⟨_, _, rfl, rfl, ⟨_, _, rfl, rfl, rfl⟩⟩ := h
  exact rfl
theorem EndI_open {w : World} {S : Nat → Prop} {b o : Nat} {a : EndI} (h : Elt endITy w S b o a) : CellsAt w b o [.int .i64 a.proc, .int .i64 a.inc, .int .i64 a.index] := by
  obtain ⟨cs, h1, h2⟩ := h.cells
  obtain rfl := EndI_R h2
  exact h1
def EndI.cells_ (a : EndI) : List Value := [.int .i64 a.proc, .int .i64 a.inc, .int .i64 a.index]
def EndI.key_ (a : EndI) : Value := .agg (EndI.cells_ a).toArray
instance : Enc endITy EndI.cells_ := ⟨fun w S cs a => ⟨fun h => EndI_R h, fun h => by rw [h]; exact ⟨_, _, rfl, rfl, ⟨_, _, rfl, rfl, rfl⟩⟩⟩⟩
instance : TyZ endITy [.int .i64 0, .int .i64 0, .int .i64 0] (⟨(0 : Int), (0 : Int), (0 : Int)⟩ : EndI) := ⟨fun w S => ⟨_, _, rfl, rfl, ⟨_, _, rfl, rfl, rfl⟩⟩⟩
structure Branch where
  inc : Int
  events : (List Evt)
  stable : Int
  ends : (List EndI)
deriving DecidableEq
instance : Inhabited Branch := ⟨⟨default, default, default, default⟩⟩
def branchTy : Ty Branch := Ty.via (Ty.pair Ty.int (Ty.pair (Ty.slice evtTy) (Ty.pair Ty.int (Ty.slice endITy)))) fun a => (a.inc, a.events, a.stable, a.ends)
theorem Branch_F0 {w : World} {S : Nat → Prop} {b o : Nat} {a : Branch} (h : Elt branchTy w S b o a) : Elt Ty.int w S b (o + 0) a.inc := h.via.fst
theorem Branch_F1 {w : World} {S : Nat → Prop} {b o : Nat} {a : Branch} (h : Elt branchTy w S b o a) : Elt (Ty.slice evtTy) w S b (o + 1) a.events := h.via.snd.fst
theorem Branch_F2 {w : World} {S : Nat → Prop} {b o : Nat} {a : Branch} (h : Elt branchTy w S b o a) : Elt Ty.int w S b (o + 2) a.stable := h.via.snd.snd.fst
theorem Branch_F3 {w : World} {S : Nat → Prop} {b o : Nat} {a : Branch} (h : Elt branchTy w S b o a) : Elt (Ty.slice endITy) w S b (o + 3) a.ends := h.via.snd.snd.snd
theorem Branch_R {w : World} {S : Nat → Prop} {a : Branch} {cs : List Value} (h : branchTy.R w S cs a) : ∃ v0, ∃ v1, cs = [.int .i64 a.inc, v0, .int .i64 a.stable, v1] ∧ IsSlice evtTy w S v0 a.events ∧ IsSlice endITy w S v1 a.ends := by
  obtain ⟨_, _, rfl, rfl, ⟨_, _, rfl, ⟨v0, rfl, fv0⟩, ⟨_, _, rfl, rfl, ⟨v1, rfl, fv1⟩⟩⟩⟩ := h
  exact ⟨v0, v1, rfl, fv0, fv1⟩
theorem Branch_open {w : World} {S : Nat → Prop} {b o : Nat} {a : Branch} (h : Elt branchTy w S b o a) : ∃ v0, ∃ v1, CellsAt w b o [.int .i64 a.inc, v0, .int .i64 a.stable, v1] ∧ IsSlice evtTy w S v0 a.events ∧ IsSlice endITy w S v1 a.ends := by
  obtain ⟨cs, h1, h2⟩ := h.cells
  obtain ⟨v0, v1, rfl, fv0, fv1⟩ := Branch_R h2
  exact ⟨v0, v1, h1, fv0, fv1⟩
instance : TyZ branchTy [.int .i64 0, .slice none 0 0, .int .i64 0, .slice none 0 0] (⟨(0 : Int), ([] : List Evt), (0 : Int), ([] : List EndI)⟩ : Branch) := ⟨fun w S => ⟨_, _, rfl, rfl, ⟨_, _, rfl, ⟨_, rfl, IsSlice.nil _ _ _⟩, ⟨_, _, rfl, rfl, ⟨_, rfl, IsSlice.nil _ _ _⟩⟩⟩⟩⟩
structure Letter where
  frm : Int
  to : Int
  news : Bool
  sent : Lab
  end_ : EndI
deriving DecidableEq
instance : Inhabited Letter := ⟨⟨default, default, default, default, default⟩⟩
def letterTy : Ty Letter := Ty.via (Ty.pair Ty.int (Ty.pair Ty.int (Ty.pair Ty.bool (Ty.pair labTy endITy)))) fun a => (a.frm, a.to, a.news, a.sent, a.end_)
theorem Letter_F0 {w : World} {S : Nat → Prop} {b o : Nat} {a : Letter} (h : Elt letterTy w S b o a) : Elt Ty.int w S b (o + 0) a.frm := h.via.fst
theorem Letter_F1 {w : World} {S : Nat → Prop} {b o : Nat} {a : Letter} (h : Elt letterTy w S b o a) : Elt Ty.int w S b (o + 1) a.to := h.via.snd.fst
theorem Letter_F2 {w : World} {S : Nat → Prop} {b o : Nat} {a : Letter} (h : Elt letterTy w S b o a) : Elt Ty.bool w S b (o + 2) a.news := h.via.snd.snd.fst
theorem Letter_F3 {w : World} {S : Nat → Prop} {b o : Nat} {a : Letter} (h : Elt letterTy w S b o a) : Elt labTy w S b (o + 3) a.sent := h.via.snd.snd.snd.fst
theorem Letter_F4 {w : World} {S : Nat → Prop} {b o : Nat} {a : Letter} (h : Elt letterTy w S b o a) : Elt endITy w S b (o + 5) a.end_ := h.via.snd.snd.snd.snd
theorem Letter_R {w : World} {S : Nat → Prop} {a : Letter} {cs : List Value} (h : letterTy.R w S cs a) : cs = [.int .i64 a.frm, .int .i64 a.to, .bool a.news, .int .i64 a.sent.inc, .int .i64 a.sent.index, .int .i64 a.end_.proc, .int .i64 a.end_.inc, .int .i64 a.end_.index] := by
  obtain ⟨_, _, rfl, rfl, ⟨_, _, rfl, rfl, ⟨_, _, rfl, rfl, ⟨_, _, rfl, ⟨_, _, rfl, rfl, rfl⟩, ⟨_, _, rfl, rfl, ⟨_, _, rfl, rfl, rfl⟩⟩⟩⟩⟩⟩ := h
  exact rfl
theorem Letter_open {w : World} {S : Nat → Prop} {b o : Nat} {a : Letter} (h : Elt letterTy w S b o a) : CellsAt w b o [.int .i64 a.frm, .int .i64 a.to, .bool a.news, .int .i64 a.sent.inc, .int .i64 a.sent.index, .int .i64 a.end_.proc, .int .i64 a.end_.inc, .int .i64 a.end_.index] := by
  obtain ⟨cs, h1, h2⟩ := h.cells
  obtain rfl := Letter_R h2
  exact h1
def Letter.cells_ (a : Letter) : List Value := [.int .i64 a.frm, .int .i64 a.to, .bool a.news, .int .i64 a.sent.inc, .int .i64 a.sent.index, .int .i64 a.end_.proc, .int .i64 a.end_.inc, .int .i64 a.end_.index]
def Letter.key_ (a : Letter) : Value := .agg (Letter.cells_ a).toArray
instance : Enc letterTy Letter.cells_ := ⟨fun w S cs a => ⟨fun h => Letter_R h, fun h => by rw [h]; exact ⟨_, _, rfl, rfl, ⟨_, _, rfl, rfl, ⟨_, _, rfl, rfl, ⟨_, _, rfl, ⟨_, _, rfl, rfl, rfl⟩, ⟨_, _, rfl, rfl, ⟨_, _, rfl, rfl, rfl⟩⟩⟩⟩⟩⟩⟩⟩
instance : TyZ letterTy [.int .i64 0, .int .i64 0, .bool false, .int .i64 0, .int .i64 0, .int .i64 0, .int .i64 0, .int .i64 0] (⟨(0 : Int), (0 : Int), false, (⟨(0 : Int), (0 : Int)⟩ : Lab), (⟨(0 : Int), (0 : Int), (0 : Int)⟩ : EndI)⟩ : Letter) := ⟨fun w S => ⟨_, _, rfl, rfl, ⟨_, _, rfl, rfl, ⟨_, _, rfl, rfl, ⟨_, _, rfl, ⟨_, _, rfl, rfl, rfl⟩, ⟨_, _, rfl, rfl, ⟨_, _, rfl, rfl, rfl⟩⟩⟩⟩⟩⟩⟩
structure Cascade where
  branches : (List Branch)
  flight : (List Letter)
deriving DecidableEq
instance : Inhabited Cascade := ⟨⟨default, default⟩⟩
def cascadeTy : Ty Cascade := Ty.via (Ty.pair (Ty.slice branchTy) (Ty.slice letterTy)) fun a => (a.branches, a.flight)
theorem Cascade_F0 {w : World} {S : Nat → Prop} {b o : Nat} {a : Cascade} (h : Elt cascadeTy w S b o a) : Elt (Ty.slice branchTy) w S b (o + 0) a.branches := h.via.fst
theorem Cascade_F1 {w : World} {S : Nat → Prop} {b o : Nat} {a : Cascade} (h : Elt cascadeTy w S b o a) : Elt (Ty.slice letterTy) w S b (o + 1) a.flight := h.via.snd
theorem Cascade_R {w : World} {S : Nat → Prop} {a : Cascade} {cs : List Value} (h : cascadeTy.R w S cs a) : ∃ v0, ∃ v1, cs = [v0, v1] ∧ IsSlice branchTy w S v0 a.branches ∧ IsSlice letterTy w S v1 a.flight := by
  obtain ⟨_, _, rfl, ⟨v0, rfl, fv0⟩, ⟨v1, rfl, fv1⟩⟩ := h
  exact ⟨v0, v1, rfl, fv0, fv1⟩
theorem Cascade_open {w : World} {S : Nat → Prop} {b o : Nat} {a : Cascade} (h : Elt cascadeTy w S b o a) : ∃ v0, ∃ v1, CellsAt w b o [v0, v1] ∧ IsSlice branchTy w S v0 a.branches ∧ IsSlice letterTy w S v1 a.flight := by
  obtain ⟨cs, h1, h2⟩ := h.cells
  obtain ⟨v0, v1, rfl, fv0, fv1⟩ := Cascade_R h2
  exact ⟨v0, v1, h1, fv0, fv1⟩
instance : TyZ cascadeTy [.slice none 0 0, .slice none 0 0] (⟨([] : List Branch), ([] : List Letter)⟩ : Cascade) := ⟨fun w S => ⟨_, _, rfl, ⟨_, rfl, IsSlice.nil _ _ _⟩, ⟨_, rfl, IsSlice.nil _ _ _⟩⟩⟩
structure Shock where
  kind : Int
  proc : Int
  other : Int
deriving DecidableEq
instance : Inhabited Shock := ⟨⟨default, default, default⟩⟩
def shockTy : Ty Shock := Ty.via (Ty.pair Ty.int (Ty.pair Ty.int Ty.int)) fun a => (a.kind, a.proc, a.other)
theorem Shock_F0 {w : World} {S : Nat → Prop} {b o : Nat} {a : Shock} (h : Elt shockTy w S b o a) : Elt Ty.int w S b (o + 0) a.kind := h.via.fst
theorem Shock_F1 {w : World} {S : Nat → Prop} {b o : Nat} {a : Shock} (h : Elt shockTy w S b o a) : Elt Ty.int w S b (o + 1) a.proc := h.via.snd.fst
theorem Shock_F2 {w : World} {S : Nat → Prop} {b o : Nat} {a : Shock} (h : Elt shockTy w S b o a) : Elt Ty.int w S b (o + 2) a.other := h.via.snd.snd
theorem Shock_R {w : World} {S : Nat → Prop} {a : Shock} {cs : List Value} (h : shockTy.R w S cs a) : cs = [.int .i64 a.kind, .int .i64 a.proc, .int .i64 a.other] := by
  obtain ⟨_, _, rfl, rfl, ⟨_, _, rfl, rfl, rfl⟩⟩ := h
  exact rfl
theorem Shock_open {w : World} {S : Nat → Prop} {b o : Nat} {a : Shock} (h : Elt shockTy w S b o a) : CellsAt w b o [.int .i64 a.kind, .int .i64 a.proc, .int .i64 a.other] := by
  obtain ⟨cs, h1, h2⟩ := h.cells
  obtain rfl := Shock_R h2
  exact h1
def Shock.cells_ (a : Shock) : List Value := [.int .i64 a.kind, .int .i64 a.proc, .int .i64 a.other]
def Shock.key_ (a : Shock) : Value := .agg (Shock.cells_ a).toArray
instance : Enc shockTy Shock.cells_ := ⟨fun w S cs a => ⟨fun h => Shock_R h, fun h => by rw [h]; exact ⟨_, _, rfl, rfl, ⟨_, _, rfl, rfl, rfl⟩⟩⟩⟩
instance : TyZ shockTy [.int .i64 0, .int .i64 0, .int .i64 0] (⟨(0 : Int), (0 : Int), (0 : Int)⟩ : Shock) := ⟨fun w S => ⟨_, _, rfl, rfl, ⟨_, _, rfl, rfl, rfl⟩⟩⟩
structure CascadeMachine where
  cascade : Cascade
deriving DecidableEq
instance : Inhabited CascadeMachine := ⟨⟨default⟩⟩
def cascadeMachineTy : Ty CascadeMachine := Ty.via cascadeTy fun a => (a.cascade)
theorem CascadeMachine_F0 {w : World} {S : Nat → Prop} {b o : Nat} {a : CascadeMachine} (h : Elt cascadeMachineTy w S b o a) : Elt cascadeTy w S b (o + 0) a.cascade := h.via
theorem CascadeMachine_R {w : World} {S : Nat → Prop} {a : CascadeMachine} {cs : List Value} (h : cascadeMachineTy.R w S cs a) : ∃ v0, ∃ v1, cs = [v0, v1] ∧ IsSlice branchTy w S v0 a.cascade.branches ∧ IsSlice letterTy w S v1 a.cascade.flight := by
  obtain ⟨_, _, rfl, ⟨v0, rfl, fv0⟩, ⟨v1, rfl, fv1⟩⟩ := h
  exact ⟨v0, v1, rfl, fv0, fv1⟩
theorem CascadeMachine_open {w : World} {S : Nat → Prop} {b o : Nat} {a : CascadeMachine} (h : Elt cascadeMachineTy w S b o a) : ∃ v0, ∃ v1, CellsAt w b o [v0, v1] ∧ IsSlice branchTy w S v0 a.cascade.branches ∧ IsSlice letterTy w S v1 a.cascade.flight := by
  obtain ⟨cs, h1, h2⟩ := h.cells
  obtain ⟨v0, v1, rfl, fv0, fv1⟩ := CascadeMachine_R h2
  exact ⟨v0, v1, h1, fv0, fv1⟩
instance : TyZ cascadeMachineTy [.slice none 0 0, .slice none 0 0] (⟨(⟨([] : List Branch), ([] : List Letter)⟩ : Cascade)⟩ : CascadeMachine) := ⟨fun w S => ⟨_, _, rfl, ⟨_, rfl, IsSlice.nil _ _ _⟩, ⟨_, rfl, IsSlice.nil _ _ _⟩⟩⟩
structure MakeCodes where
  list : (List Int)
  at_ : Int
deriving DecidableEq
instance : Inhabited MakeCodes := ⟨⟨default, default⟩⟩
def makeCodesTy : Ty MakeCodes := Ty.via (Ty.pair (Ty.slice Ty.u8) Ty.int) fun a => (a.list, a.at_)
theorem MakeCodes_F0 {w : World} {S : Nat → Prop} {b o : Nat} {a : MakeCodes} (h : Elt makeCodesTy w S b o a) : Elt (Ty.slice Ty.u8) w S b (o + 0) a.list := h.via.fst
theorem MakeCodes_F1 {w : World} {S : Nat → Prop} {b o : Nat} {a : MakeCodes} (h : Elt makeCodesTy w S b o a) : Elt Ty.int w S b (o + 1) a.at_ := h.via.snd
theorem MakeCodes_R {w : World} {S : Nat → Prop} {a : MakeCodes} {cs : List Value} (h : makeCodesTy.R w S cs a) : ∃ v0, cs = [v0, .int .i64 a.at_] ∧ IsSlice Ty.u8 w S v0 a.list := by
  obtain ⟨_, _, rfl, ⟨v0, rfl, fv0⟩, rfl⟩ := h
  exact ⟨v0, rfl, fv0⟩
theorem MakeCodes_open {w : World} {S : Nat → Prop} {b o : Nat} {a : MakeCodes} (h : Elt makeCodesTy w S b o a) : ∃ v0, CellsAt w b o [v0, .int .i64 a.at_] ∧ IsSlice Ty.u8 w S v0 a.list := by
  obtain ⟨cs, h1, h2⟩ := h.cells
  obtain ⟨v0, rfl, fv0⟩ := MakeCodes_R h2
  exact ⟨v0, h1, fv0⟩
instance : TyZ makeCodesTy [.slice none 0 0, .int .i64 0] (⟨([] : List Int), (0 : Int)⟩ : MakeCodes) := ⟨fun w S => ⟨_, _, rfl, ⟨_, rfl, IsSlice.nil _ _ _⟩, rfl⟩⟩
end Go.Mine
