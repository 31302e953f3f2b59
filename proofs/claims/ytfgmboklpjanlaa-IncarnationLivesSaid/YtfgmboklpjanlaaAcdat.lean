/- Printed walks: Acdat. -/
import Derived.Test.YtfgmboklpjanlaaLibD
set_option linter.unusedVariables false
set_option linter.unusedSimpArgs false
namespace Go.Mine
open Go.RowKit
structure EndI where
  proc : Int
  inc : Int
  index : Int
deriving DecidableEq
instance : Inhabited EndI := ⟨⟨default, default, default⟩⟩
def endITy : Ty EndI := Ty.via (Ty.pair Ty.int (Ty.pair Ty.int Ty.int)) fun a => (a.proc, a.inc, a.index)
theorem EndI_F0 {w : World} {S : Nat → Prop} {b o : Nat} {a : EndI} (h : Elt endITy w S b o a) : Elt Ty.int w S b (o + 0) a.proc := h.via.fst
theorem EndI_F1 {w : World} {S : Nat → Prop} {b o : Nat} {a : EndI} (h : Elt endITy w S b o a) : Elt Ty.int w S b (o + 1) a.inc := h.via.snd.fst
theorem EndI_F2 {w : World} {S : Nat → Prop} {b o : Nat} {a : EndI} (h : Elt endITy w S b o a) : Elt Ty.int w S b (o + 2) a.index := h.via.snd.snd
theorem EndI_R {w : World} {S : Nat → Prop} {a : EndI} {cs : List Value} (h : endITy.R w S cs a) : cs = [.int .i64 a.proc, .int .i64 a.inc, .int .i64 a.index] := by
  obtain ⟨_, _, rfl, rfl, ⟨_, _, rfl, rfl, rfl⟩⟩ := h
  exact rfl
theorem EndI_open {w : World} {S : Nat → Prop} {b o : Nat} {a : EndI} (h : Elt endITy w S b o a) : CellsAt w b o [.int .i64 a.proc, .int .i64 a.inc, .int .i64 a.index] := by
  obtain ⟨cs, h1, h2⟩ := h.cells
  obtain rfl := EndI_R h2
  exact h1
def EndI.cells_ (a : EndI) : List Value := [.int .i64 a.proc, .int .i64 a.inc, .int .i64 a.index]
instance : Enc endITy EndI.cells_ := ⟨fun w S cs a => ⟨fun h => EndI_R h, fun h => by rw [h]; exact ⟨_, _, rfl, rfl, ⟨_, _, rfl, rfl, rfl⟩⟩⟩⟩
instance : TyZ endITy [.int .i64 0, .int .i64 0, .int .i64 0] (⟨(0 : Int), (0 : Int), (0 : Int)⟩ : EndI) := ⟨fun w S => ⟨_, _, rfl, rfl, ⟨_, _, rfl, rfl, rfl⟩⟩⟩
structure Lab where
  inc : Int
  index : Int
deriving DecidableEq
instance : Inhabited Lab := ⟨⟨default, default⟩⟩
def labTy : Ty Lab := Ty.via (Ty.pair Ty.int Ty.int) fun a => (a.inc, a.index)
theorem Lab_F0 {w : World} {S : Nat → Prop} {b o : Nat} {a : Lab} (h : Elt labTy w S b o a) : Elt Ty.int w S b (o + 0) a.inc := h.via.fst
theorem Lab_F1 {w : World} {S : Nat → Prop} {b o : Nat} {a : Lab} (h : Elt labTy w S b o a) : Elt Ty.int w S b (o + 1) a.index := h.via.snd
theorem Lab_R {w : World} {S : Nat → Prop} {a : Lab} {cs : List Value} (h : labTy.R w S cs a) : cs = [.int .i64 a.inc, .int .i64 a.index] := by
  obtain ⟨_, _, rfl, rfl, rfl⟩ := h
  exact rfl
theorem Lab_open {w : World} {S : Nat → Prop} {b o : Nat} {a : Lab} (h : Elt labTy w S b o a) : CellsAt w b o [.int .i64 a.inc, .int .i64 a.index] := by
  obtain ⟨cs, h1, h2⟩ := h.cells
  obtain rfl := Lab_R h2
  exact h1
def Lab.cells_ (a : Lab) : List Value := [.int .i64 a.inc, .int .i64 a.index]
instance : Enc labTy Lab.cells_ := ⟨fun w S cs a => ⟨fun h => Lab_R h, fun h => by rw [h]; exact ⟨_, _, rfl, rfl, rfl⟩⟩⟩
instance : TyZ labTy [.int .i64 0, .int .i64 0] (⟨(0 : Int), (0 : Int)⟩ : Lab) := ⟨fun w S => ⟨_, _, rfl, rfl, rfl⟩⟩
structure Evt where
  kind : Int
  inc : Int
  frm : Int
  sent : Lab
  ord : Int
  value : Int
deriving DecidableEq
instance : Inhabited Evt := ⟨⟨default, default, default, default, default, default⟩⟩
def evtTy : Ty Evt := Ty.via (Ty.pair Ty.int (Ty.pair Ty.int (Ty.pair Ty.int (Ty.pair labTy (Ty.pair Ty.int Ty.int))))) fun a => (a.kind, a.inc, a.frm, a.sent, a.ord, a.value)
theorem Evt_F0 {w : World} {S : Nat → Prop} {b o : Nat} {a : Evt} (h : Elt evtTy w S b o a) : Elt Ty.int w S b (o + 0) a.kind := h.via.fst
theorem Evt_F1 {w : World} {S : Nat → Prop} {b o : Nat} {a : Evt} (h : Elt evtTy w S b o a) : Elt Ty.int w S b (o + 1) a.inc := h.via.snd.fst
theorem Evt_F2 {w : World} {S : Nat → Prop} {b o : Nat} {a : Evt} (h : Elt evtTy w S b o a) : Elt Ty.int w S b (o + 2) a.frm := h.via.snd.snd.fst
theorem Evt_F3 {w : World} {S : Nat → Prop} {b o : Nat} {a : Evt} (h : Elt evtTy w S b o a) : Elt labTy w S b (o + 3) a.sent := h.via.snd.snd.snd.fst
theorem Evt_F4 {w : World} {S : Nat → Prop} {b o : Nat} {a : Evt} (h : Elt evtTy w S b o a) : Elt Ty.int w S b (o + 5) a.ord := h.via.snd.snd.snd.snd.fst
theorem Evt_F5 {w : World} {S : Nat → Prop} {b o : Nat} {a : Evt} (h : Elt evtTy w S b o a) : Elt Ty.int w S b (o + 6) a.value := h.via.snd.snd.snd.snd.snd
theorem Evt_R {w : World} {S : Nat → Prop} {a : Evt} {cs : List Value} (h : evtTy.R w S cs a) : cs = [.int .i64 a.kind, .int .i64 a.inc, .int .i64 a.frm, .int .i64 a.sent.inc, .int .i64 a.sent.index, .int .i64 a.ord, .int .i64 a.value] := by
  obtain ⟨_, _, rfl, rfl, ⟨_, _, rfl, rfl, ⟨_, _, rfl, rfl, ⟨_, _, rfl, ⟨_, _, rfl, rfl, rfl⟩, ⟨_, _, rfl, rfl, rfl⟩⟩⟩⟩⟩ := h
  exact rfl
theorem Evt_open {w : World} {S : Nat → Prop} {b o : Nat} {a : Evt} (h : Elt evtTy w S b o a) : CellsAt w b o [.int .i64 a.kind, .int .i64 a.inc, .int .i64 a.frm, .int .i64 a.sent.inc, .int .i64 a.sent.index, .int .i64 a.ord, .int .i64 a.value] := by
  obtain ⟨cs, h1, h2⟩ := h.cells
  obtain rfl := Evt_R h2
  exact h1
def Evt.cells_ (a : Evt) : List Value := [.int .i64 a.kind, .int .i64 a.inc, .int .i64 a.frm, .int .i64 a.sent.inc, .int .i64 a.sent.index, .int .i64 a.ord, .int .i64 a.value]
instance : Enc evtTy Evt.cells_ := ⟨fun w S cs a => ⟨fun h => Evt_R h, fun h => by rw [h]; exact ⟨_, _, rfl, rfl, ⟨_, _, rfl, rfl, ⟨_, _, rfl, rfl, ⟨_, _, rfl, ⟨_, _, rfl, rfl, rfl⟩, ⟨_, _, rfl, rfl, rfl⟩⟩⟩⟩⟩⟩⟩
instance : TyZ evtTy [.int .i64 0, .int .i64 0, .int .i64 0, .int .i64 0, .int .i64 0, .int .i64 0, .int .i64 0] (⟨(0 : Int), (0 : Int), (0 : Int), (⟨(0 : Int), (0 : Int)⟩ : Lab), (0 : Int), (0 : Int)⟩ : Evt) := ⟨fun w S => ⟨_, _, rfl, rfl, ⟨_, _, rfl, rfl, ⟨_, _, rfl, rfl, ⟨_, _, rfl, ⟨_, _, rfl, rfl, rfl⟩, ⟨_, _, rfl, rfl, rfl⟩⟩⟩⟩⟩⟩
structure Det where
  proc : Int
  index : Int
  event : Evt
deriving DecidableEq
instance : Inhabited Det := ⟨⟨default, default, default⟩⟩
def detTy : Ty Det := Ty.via (Ty.pair Ty.int (Ty.pair Ty.int evtTy)) fun a => (a.proc, a.index, a.event)
theorem Det_F0 {w : World} {S : Nat → Prop} {b o : Nat} {a : Det} (h : Elt detTy w S b o a) : Elt Ty.int w S b (o + 0) a.proc := h.via.fst
theorem Det_F1 {w : World} {S : Nat → Prop} {b o : Nat} {a : Det} (h : Elt detTy w S b o a) : Elt Ty.int w S b (o + 1) a.index := h.via.snd.fst
theorem Det_F2 {w : World} {S : Nat → Prop} {b o : Nat} {a : Det} (h : Elt detTy w S b o a) : Elt evtTy w S b (o + 2) a.event := h.via.snd.snd
theorem Det_R {w : World} {S : Nat → Prop} {a : Det} {cs : List Value} (h : detTy.R w S cs a) : cs = [.int .i64 a.proc, .int .i64 a.index, .int .i64 a.event.kind, .int .i64 a.event.inc, .int .i64 a.event.frm, .int .i64 a.event.sent.inc, .int .i64 a.event.sent.index, .int .i64 a.event.ord, .int .i64 a.event.value] := by
  obtain ⟨_, _, rfl, rfl, ⟨_, _, rfl, rfl, ⟨_, _, rfl, rfl, ⟨_, _, rfl, rfl, ⟨_, _, rfl, rfl, ⟨_, _, rfl, ⟨_, _, rfl, rfl, rfl⟩, ⟨_, _, rfl, rfl, rfl⟩⟩⟩⟩⟩⟩⟩ := h
  exact rfl
theorem Det_open {w : World} {S : Nat → Prop} {b o : Nat} {a : Det} (h : Elt detTy w S b o a) : CellsAt w b o [.int .i64 a.proc, .int .i64 a.index, .int .i64 a.event.kind, .int .i64 a.event.inc, .int .i64 a.event.frm, .int .i64 a.event.sent.inc, .int .i64 a.event.sent.index, .int .i64 a.event.ord, .int .i64 a.event.value] := by
  obtain ⟨cs, h1, h2⟩ := h.cells
  obtain rfl := Det_R h2
  exact h1
def Det.cells_ (a : Det) : List Value := [.int .i64 a.proc, .int .i64 a.index, .int .i64 a.event.kind, .int .i64 a.event.inc, .int .i64 a.event.frm, .int .i64 a.event.sent.inc, .int .i64 a.event.sent.index, .int .i64 a.event.ord, .int .i64 a.event.value]
instance : Enc detTy Det.cells_ := ⟨fun w S cs a => ⟨fun h => Det_R h, fun h => by rw [h]; exact ⟨_, _, rfl, rfl, ⟨_, _, rfl, rfl, ⟨_, _, rfl, rfl, ⟨_, _, rfl, rfl, ⟨_, _, rfl, rfl, ⟨_, _, rfl, ⟨_, _, rfl, rfl, rfl⟩, ⟨_, _, rfl, rfl, rfl⟩⟩⟩⟩⟩⟩⟩⟩⟩
instance : TyZ detTy [.int .i64 0, .int .i64 0, .int .i64 0, .int .i64 0, .int .i64 0, .int .i64 0, .int .i64 0, .int .i64 0, .int .i64 0] (⟨(0 : Int), (0 : Int), (⟨(0 : Int), (0 : Int), (0 : Int), (⟨(0 : Int), (0 : Int)⟩ : Lab), (0 : Int), (0 : Int)⟩ : Evt)⟩ : Det) := ⟨fun w S => ⟨_, _, rfl, rfl, ⟨_, _, rfl, rfl, ⟨_, _, rfl, rfl, ⟨_, _, rfl, rfl, ⟨_, _, rfl, rfl, ⟨_, _, rfl, ⟨_, _, rfl, rfl, rfl⟩, ⟨_, _, rfl, rfl, rfl⟩⟩⟩⟩⟩⟩⟩⟩
structure Known where
  det : Det
  holders : Int
deriving DecidableEq
instance : Inhabited Known := ⟨⟨default, default⟩⟩
def knownTy : Ty Known := Ty.via (Ty.pair detTy Ty.u32) fun a => (a.det, a.holders)
theorem Known_F0 {w : World} {S : Nat → Prop} {b o : Nat} {a : Known} (h : Elt knownTy w S b o a) : Elt detTy w S b (o + 0) a.det := h.via.fst
theorem Known_F1 {w : World} {S : Nat → Prop} {b o : Nat} {a : Known} (h : Elt knownTy w S b o a) : Elt Ty.u32 w S b (o + 9) a.holders := h.via.snd
theorem Known_R {w : World} {S : Nat → Prop} {a : Known} {cs : List Value} (h : knownTy.R w S cs a) : cs = [.int .i64 a.det.proc, .int .i64 a.det.index, .int .i64 a.det.event.kind, .int .i64 a.det.event.inc, .int .i64 a.det.event.frm, .int .i64 a.det.event.sent.inc, .int .i64 a.det.event.sent.index, .int .i64 a.det.event.ord, .int .i64 a.det.event.value, .int .u32 a.holders] := by
  obtain ⟨_, _, rfl, ⟨_, _, rfl, rfl, ⟨_, _, rfl, rfl, ⟨_, _, rfl, rfl, ⟨_, _, rfl, rfl, ⟨_, _, rfl, rfl, ⟨_, _, rfl, ⟨_, _, rfl, rfl, rfl⟩, ⟨_, _, rfl, rfl, rfl⟩⟩⟩⟩⟩⟩⟩, rfl⟩ := h
  exact rfl
theorem Known_open {w : World} {S : Nat → Prop} {b o : Nat} {a : Known} (h : Elt knownTy w S b o a) : CellsAt w b o [.int .i64 a.det.proc, .int .i64 a.det.index, .int .i64 a.det.event.kind, .int .i64 a.det.event.inc, .int .i64 a.det.event.frm, .int .i64 a.det.event.sent.inc, .int .i64 a.det.event.sent.index, .int .i64 a.det.event.ord, .int .i64 a.det.event.value, .int .u32 a.holders] := by
  obtain ⟨cs, h1, h2⟩ := h.cells
  obtain rfl := Known_R h2
  exact h1
def Known.cells_ (a : Known) : List Value := [.int .i64 a.det.proc, .int .i64 a.det.index, .int .i64 a.det.event.kind, .int .i64 a.det.event.inc, .int .i64 a.det.event.frm, .int .i64 a.det.event.sent.inc, .int .i64 a.det.event.sent.index, .int .i64 a.det.event.ord, .int .i64 a.det.event.value, .int .u32 a.holders]
instance : Enc knownTy Known.cells_ := ⟨fun w S cs a => ⟨fun h => Known_R h, fun h => by rw [h]; exact ⟨_, _, rfl, ⟨_, _, rfl, rfl, ⟨_, _, rfl, rfl, ⟨_, _, rfl, rfl, ⟨_, _, rfl, rfl, ⟨_, _, rfl, rfl, ⟨_, _, rfl, ⟨_, _, rfl, rfl, rfl⟩, ⟨_, _, rfl, rfl, rfl⟩⟩⟩⟩⟩⟩⟩, rfl⟩⟩⟩
instance : TyZ knownTy [.int .i64 0, .int .i64 0, .int .i64 0, .int .i64 0, .int .i64 0, .int .i64 0, .int .i64 0, .int .i64 0, .int .i64 0, .int .u32 0] (⟨(⟨(0 : Int), (0 : Int), (⟨(0 : Int), (0 : Int), (0 : Int), (⟨(0 : Int), (0 : Int)⟩ : Lab), (0 : Int), (0 : Int)⟩ : Evt)⟩ : Det), (0 : Int)⟩ : Known) := ⟨fun w S => ⟨_, _, rfl, ⟨_, _, rfl, rfl, ⟨_, _, rfl, rfl, ⟨_, _, rfl, rfl, ⟨_, _, rfl, rfl, ⟨_, _, rfl, rfl, ⟨_, _, rfl, ⟨_, _, rfl, rfl, rfl⟩, ⟨_, _, rfl, rfl, rfl⟩⟩⟩⟩⟩⟩⟩, rfl⟩⟩
structure Msg where
  frm : Int
  to : Int
  sent : Lab
  ord : Int
  value : Int
  clock : Int
  vector : (List Int)
  known : (List Known)
deriving DecidableEq
instance : Inhabited Msg := ⟨⟨default, default, default, default, default, default, default, default⟩⟩
def msgTy : Ty Msg := Ty.via (Ty.pair Ty.int (Ty.pair Ty.int (Ty.pair labTy (Ty.pair Ty.int (Ty.pair Ty.int (Ty.pair Ty.int (Ty.pair (Ty.slice Ty.int) (Ty.slice knownTy)))))))) fun a => (a.frm, a.to, a.sent, a.ord, a.value, a.clock, a.vector, a.known)
theorem Msg_F0 {w : World} {S : Nat → Prop} {b o : Nat} {a : Msg} (h : Elt msgTy w S b o a) : Elt Ty.int w S b (o + 0) a.frm := h.via.fst
theorem Msg_F1 {w : World} {S : Nat → Prop} {b o : Nat} {a : Msg} (h : Elt msgTy w S b o a) : Elt Ty.int w S b (o + 1) a.to := h.via.snd.fst
theorem Msg_F2 {w : World} {S : Nat → Prop} {b o : Nat} {a : Msg} (h : Elt msgTy w S b o a) : Elt labTy w S b (o + 2) a.sent := h.via.snd.snd.fst
theorem Msg_F3 {w : World} {S : Nat → Prop} {b o : Nat} {a : Msg} (h : Elt msgTy w S b o a) : Elt Ty.int w S b (o + 4) a.ord := h.via.snd.snd.snd.fst
theorem Msg_F4 {w : World} {S : Nat → Prop} {b o : Nat} {a : Msg} (h : Elt msgTy w S b o a) : Elt Ty.int w S b (o + 5) a.value := h.via.snd.snd.snd.snd.fst
theorem Msg_F5 {w : World} {S : Nat → Prop} {b o : Nat} {a : Msg} (h : Elt msgTy w S b o a) : Elt Ty.int w S b (o + 6) a.clock := h.via.snd.snd.snd.snd.snd.fst
theorem Msg_F6 {w : World} {S : Nat → Prop} {b o : Nat} {a : Msg} (h : Elt msgTy w S b o a) : Elt (Ty.slice Ty.int) w S b (o + 7) a.vector := h.via.snd.snd.snd.snd.snd.snd.fst
theorem Msg_F7 {w : World} {S : Nat → Prop} {b o : Nat} {a : Msg} (h : Elt msgTy w S b o a) : Elt (Ty.slice knownTy) w S b (o + 8) a.known := h.via.snd.snd.snd.snd.snd.snd.snd
theorem Msg_R {w : World} {S : Nat → Prop} {a : Msg} {cs : List Value} (h : msgTy.R w S cs a) : ∃ v0, ∃ v1, cs = [.int .i64 a.frm, .int .i64 a.to, .int .i64 a.sent.inc, .int .i64 a.sent.index, .int .i64 a.ord, .int .i64 a.value, .int .i64 a.clock, v0, v1] ∧ IsSlice Ty.int w S v0 a.vector ∧ IsSlice knownTy w S v1 a.known := by
  obtain ⟨_, _, rfl, rfl, ⟨_, _, rfl, rfl, ⟨_, _, rfl, ⟨_, _, rfl, rfl, rfl⟩, ⟨_, _, rfl, rfl, ⟨_, _, rfl, rfl, ⟨_, _, rfl, rfl, ⟨_, _, rfl, ⟨v0, rfl, fv0⟩, ⟨v1, rfl, fv1⟩⟩⟩⟩⟩⟩⟩⟩ := h
  exact ⟨v0, v1, rfl, fv0, fv1⟩
theorem Msg_open {w : World} {S : Nat → Prop} {b o : Nat} {a : Msg} (h : Elt msgTy w S b o a) : ∃ v0, ∃ v1, CellsAt w b o [.int .i64 a.frm, .int .i64 a.to, .int .i64 a.sent.inc, .int .i64 a.sent.index, .int .i64 a.ord, .int .i64 a.value, .int .i64 a.clock, v0, v1] ∧ IsSlice Ty.int w S v0 a.vector ∧ IsSlice knownTy w S v1 a.known := by
  obtain ⟨cs, h1, h2⟩ := h.cells
  obtain ⟨v0, v1, rfl, fv0, fv1⟩ := Msg_R h2
  exact ⟨v0, v1, h1, fv0, fv1⟩
instance : TyZ msgTy [.int .i64 0, .int .i64 0, .int .i64 0, .int .i64 0, .int .i64 0, .int .i64 0, .int .i64 0, .slice none 0 0, .slice none 0 0] (⟨(0 : Int), (0 : Int), (⟨(0 : Int), (0 : Int)⟩ : Lab), (0 : Int), (0 : Int), (0 : Int), ([] : List Int), ([] : List Known)⟩ : Msg) := ⟨fun w S => ⟨_, _, rfl, rfl, ⟨_, _, rfl, rfl, ⟨_, _, rfl, ⟨_, _, rfl, rfl, rfl⟩, ⟨_, _, rfl, rfl, ⟨_, _, rfl, rfl, ⟨_, _, rfl, rfl, ⟨_, _, rfl, ⟨_, rfl, IsSlice.nil _ _ _⟩, ⟨_, rfl, IsSlice.nil _ _ _⟩⟩⟩⟩⟩⟩⟩⟩⟩
structure MakeCodes where
  list : (List Int)
  at_ : Int
deriving DecidableEq
instance : Inhabited MakeCodes := ⟨⟨default, default⟩⟩
def makeCodesTy : Ty MakeCodes := Ty.via (Ty.pair (Ty.slice Ty.u8) Ty.int) fun a => (a.list, a.at_)
theorem MakeCodes_F0 {w : World} {S : Nat → Prop} {b o : Nat} {a : MakeCodes} (h : Elt makeCodesTy w S b o a) : Elt (Ty.slice Ty.u8) w S b (o + 0) a.list := h.via.fst
theorem MakeCodes_F1 {w : World} {S : Nat → Prop} {b o : Nat} {a : MakeCodes} (h : Elt makeCodesTy w S b o a) : Elt Ty.int w S b (o + 1) a.at_ := h.via.snd
theorem MakeCodes_R {w : World} {S : Nat → Prop} {a : MakeCodes} {cs : List Value} (h : makeCodesTy.R w S cs a) : ∃ v0, cs = [v0, .int .i64 a.at_] ∧ IsSlice Ty.u8 w S v0 a.list := by
  obtain ⟨_, _, rfl, ⟨v0, rfl, fv0⟩, rfl⟩ := h
  exact ⟨v0, rfl, fv0⟩
theorem MakeCodes_open {w : World} {S : Nat → Prop} {b o : Nat} {a : MakeCodes} (h : Elt makeCodesTy w S b o a) : ∃ v0, CellsAt w b o [v0, .int .i64 a.at_] ∧ IsSlice Ty.u8 w S v0 a.list := by
  obtain ⟨cs, h1, h2⟩ := h.cells
  obtain ⟨v0, rfl, fv0⟩ := MakeCodes_R h2
  exact ⟨v0, h1, fv0⟩
instance : TyZ makeCodesTy [.slice none 0 0, .int .i64 0] (⟨([] : List Int), (0 : Int)⟩ : MakeCodes) := ⟨fun w S => ⟨_, _, rfl, ⟨_, rfl, IsSlice.nil _ _ _⟩, rfl⟩⟩
end Go.Mine
