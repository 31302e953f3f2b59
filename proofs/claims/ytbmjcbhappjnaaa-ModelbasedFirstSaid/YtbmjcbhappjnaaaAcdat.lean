/- Printed walks: Acdat. -/
import Derived.Test.YtbmjcbhappjnaaaLibD
set_option linter.unusedVariables false
set_option linter.unusedSimpArgs false
namespace Go.Mine
open Go.RowKit
structure Deed where
  kind : Int
  proc : Int
  other : Int
deriving DecidableEq
instance : Inhabited Deed := ⟨⟨default, default, default⟩⟩
def deedTy : Ty Deed := Ty.via (Ty.pair Ty.int (Ty.pair Ty.int Ty.int)) fun a => (a.kind, a.proc, a.other)
theorem Deed_F0 {w : World} {S : Nat → Prop} {b o : Nat} {a : Deed} (h : Elt deedTy w S b o a) : Elt Ty.int w S b (o + 0) a.kind := h.via.fst
theorem Deed_F1 {w : World} {S : Nat → Prop} {b o : Nat} {a : Deed} (h : Elt deedTy w S b o a) : Elt Ty.int w S b (o + 1) a.proc := h.via.snd.fst
theorem Deed_F2 {w : World} {S : Nat → Prop} {b o : Nat} {a : Deed} (h : Elt deedTy w S b o a) : Elt Ty.int w S b (o + 2) a.other := h.via.snd.snd
theorem Deed_R {w : World} {S : Nat → Prop} {a : Deed} {cs : List Value} (h : deedTy.R w S cs a) : cs = [.int .i64 a.kind, .int .i64 a.proc, .int .i64 a.other] := by
  obtain ⟨_, _, rfl, rfl, ⟨_, _, rfl, rfl, rfl⟩⟩ := h
  exact rfl
theorem Deed_open {w : World} {S : Nat → Prop} {b o : Nat} {a : Deed} (h : Elt deedTy w S b o a) : CellsAt w b o [.int .i64 a.kind, .int .i64 a.proc, .int .i64 a.other] := by
  obtain ⟨cs, h1, h2⟩ := h.cells
  obtain rfl := Deed_R h2
  exact h1
def Deed.cells_ (a : Deed) : List Value := [.int .i64 a.kind, .int .i64 a.proc, .int .i64 a.other]
def Deed.key_ (a : Deed) : Value := .agg (Deed.cells_ a).toArray
instance : Enc deedTy Deed.cells_ := ⟨fun w S cs a => ⟨fun h => Deed_R h, fun h => by rw [h]; exact ⟨_, _, rfl, rfl, ⟨_, _, rfl, rfl, rfl⟩⟩⟩⟩
instance : TyZ deedTy [.int .i64 0, .int .i64 0, .int .i64 0] (⟨(0 : Int), (0 : Int), (0 : Int)⟩ : Deed) := ⟨fun w S => ⟨_, _, rfl, rfl, ⟨_, _, rfl, rfl, rfl⟩⟩⟩
structure Arc where
  fr : Int
  ix : Int
  to : Int
  rcv : Int
deriving DecidableEq
instance : Inhabited Arc := ⟨⟨default, default, default, default⟩⟩
def arcTy : Ty Arc := Ty.via (Ty.pair Ty.int (Ty.pair Ty.int (Ty.pair Ty.int Ty.int))) fun a => (a.fr, a.ix, a.to, a.rcv)
theorem Arc_F0 {w : World} {S : Nat → Prop} {b o : Nat} {a : Arc} (h : Elt arcTy w S b o a) : Elt Ty.int w S b (o + 0) a.fr := h.via.fst
theorem Arc_F1 {w : World} {S : Nat → Prop} {b o : Nat} {a : Arc} (h : Elt arcTy w S b o a) : Elt Ty.int w S b (o + 1) a.ix := h.via.snd.fst
theorem Arc_F2 {w : World} {S : Nat → Prop} {b o : Nat} {a : Arc} (h : Elt arcTy w S b o a) : Elt Ty.int w S b (o + 2) a.to := h.via.snd.snd.fst
theorem Arc_F3 {w : World} {S : Nat → Prop} {b o : Nat} {a : Arc} (h : Elt arcTy w S b o a) : Elt Ty.int w S b (o + 3) a.rcv := h.via.snd.snd.snd
theorem Arc_R {w : World} {S : Nat → Prop} {a : Arc} {cs : List Value} (h : arcTy.R w S cs a) : cs = [.int .i64 a.fr, .int .i64 a.ix, .int .i64 a.to, .int .i64 a.rcv] := by
  obtain ⟨_, _, rfl, rfl, ⟨_, _, rfl, rfl, ⟨_, _, rfl, rfl, rfl⟩⟩⟩ := h
  exact rfl
theorem Arc_open {w : World} {S : Nat → Prop} {b o : Nat} {a : Arc} (h : Elt arcTy w S b o a) : CellsAt w b o [.int .i64 a.fr, .int .i64 a.ix, .int .i64 a.to, .int .i64 a.rcv] := by
  obtain ⟨cs, h1, h2⟩ := h.cells
  obtain rfl := Arc_R h2
  exact h1
def Arc.cells_ (a : Arc) : List Value := [.int .i64 a.fr, .int .i64 a.ix, .int .i64 a.to, .int .i64 a.rcv]
def Arc.key_ (a : Arc) : Value := .agg (Arc.cells_ a).toArray
instance : Enc arcTy Arc.cells_ := ⟨fun w S cs a => ⟨fun h => Arc_R h, fun h => by rw [h]; exact ⟨_, _, rfl, rfl, ⟨_, _, rfl, rfl, ⟨_, _, rfl, rfl, rfl⟩⟩⟩⟩⟩
instance : TyZ arcTy [.int .i64 0, .int .i64 0, .int .i64 0, .int .i64 0] (⟨(0 : Int), (0 : Int), (0 : Int), (0 : Int)⟩ : Arc) := ⟨fun w S => ⟨_, _, rfl, rfl, ⟨_, _, rfl, rfl, ⟨_, _, rfl, rfl, rfl⟩⟩⟩⟩
structure Pat where
  lens : (List Int)
  ckpts : (List (List Int))
  arcs : (List Arc)
deriving DecidableEq
instance : Inhabited Pat := ⟨⟨default, default, default⟩⟩
def patTy : Ty Pat := Ty.via (Ty.pair (Ty.slice Ty.int) (Ty.pair (Ty.slice (Ty.slice Ty.int)) (Ty.slice arcTy))) fun a => (a.lens, a.ckpts, a.arcs)
theorem Pat_F0 {w : World} {S : Nat → Prop} {b o : Nat} {a : Pat} (h : Elt patTy w S b o a) : Elt (Ty.slice Ty.int) w S b (o + 0) a.lens := h.via.fst
theorem Pat_F1 {w : World} {S : Nat → Prop} {b o : Nat} {a : Pat} (h : Elt patTy w S b o a) : Elt (Ty.slice (Ty.slice Ty.int)) w S b (o + 1) a.ckpts := h.via.snd.fst
theorem Pat_F2 {w : World} {S : Nat → Prop} {b o : Nat} {a : Pat} (h : Elt patTy w S b o a) : Elt (Ty.slice arcTy) w S b (o + 2) a.arcs := h.via.snd.snd
theorem Pat_R {w : World} {S : Nat → Prop} {a : Pat} {cs : List Value} (h : patTy.R w S cs a) : ∃ v0, ∃ v1, ∃ v2, cs = [v0, v1, v2] ∧ IsSlice Ty.int w S v0 a.lens ∧ IsSlice (Ty.slice Ty.int) w S v1 a.ckpts ∧ IsSlice arcTy w S v2 a.arcs := by
  obtain ⟨_, _, rfl, ⟨v0, rfl, fv0⟩, ⟨_, _, rfl, ⟨v1, rfl, fv1⟩, ⟨v2, rfl, fv2⟩⟩⟩ := h
  exact ⟨v0, v1, v2, rfl, fv0, fv1, fv2⟩
theorem Pat_open {w : World} {S : Nat → Prop} {b o : Nat} {a : Pat} (h : Elt patTy w S b o a) : ∃ v0, ∃ v1, ∃ v2, CellsAt w b o [v0, v1, v2] ∧ IsSlice Ty.int w S v0 a.lens ∧ IsSlice (Ty.slice Ty.int) w S v1 a.ckpts ∧ IsSlice arcTy w S v2 a.arcs := by
  obtain ⟨cs, h1, h2⟩ := h.cells
  obtain ⟨v0, v1, v2, rfl, fv0, fv1, fv2⟩ := Pat_R h2
  exact ⟨v0, v1, v2, h1, fv0, fv1, fv2⟩
instance : TyZ patTy [.slice none 0 0, .slice none 0 0, .slice none 0 0] (⟨([] : List Int), ([] : List (List Int)), ([] : List Arc)⟩ : Pat) := ⟨fun w S => ⟨_, _, rfl, ⟨_, rfl, IsSlice.nil _ _ _⟩, ⟨_, _, rfl, ⟨_, rfl, IsSlice.nil _ _ _⟩, ⟨_, rfl, IsSlice.nil _ _ _⟩⟩⟩⟩
structure Hist where
  pat : Pat
  clocks : (List (List Int))
  vecs : (List (List (List Int)))
  forced : (List (List Bool))
deriving DecidableEq
instance : Inhabited Hist := ⟨⟨default, default, default, default⟩⟩
def histTy : Ty Hist := Ty.via (Ty.pair patTy (Ty.pair (Ty.slice (Ty.slice Ty.int)) (Ty.pair (Ty.slice (Ty.slice (Ty.slice Ty.int))) (Ty.slice (Ty.slice Ty.bool))))) fun a => (a.pat, a.clocks, a.vecs, a.forced)
theorem Hist_F0 {w : World} {S : Nat → Prop} {b o : Nat} {a : Hist} (h : Elt histTy w S b o a) : Elt patTy w S b (o + 0) a.pat := h.via.fst
theorem Hist_F1 {w : World} {S : Nat → Prop} {b o : Nat} {a : Hist} (h : Elt histTy w S b o a) : Elt (Ty.slice (Ty.slice Ty.int)) w S b (o + 3) a.clocks := h.via.snd.fst
theorem Hist_F2 {w : World} {S : Nat → Prop} {b o : Nat} {a : Hist} (h : Elt histTy w S b o a) : Elt (Ty.slice (Ty.slice (Ty.slice Ty.int))) w S b (o + 4) a.vecs := h.via.snd.snd.fst
theorem Hist_F3 {w : World} {S : Nat → Prop} {b o : Nat} {a : Hist} (h : Elt histTy w S b o a) : Elt (Ty.slice (Ty.slice Ty.bool)) w S b (o + 5) a.forced := h.via.snd.snd.snd
theorem Hist_R {w : World} {S : Nat → Prop} {a : Hist} {cs : List Value} (h : histTy.R w S cs a) : ∃ v0, ∃ v1, ∃ v2, ∃ v3, ∃ v4, ∃ v5, cs = [v0, v1, v2, v3, v4, v5] ∧ IsSlice Ty.int w S v0 a.pat.lens ∧ IsSlice (Ty.slice Ty.int) w S v1 a.pat.ckpts ∧ IsSlice arcTy w S v2 a.pat.arcs ∧ IsSlice (Ty.slice Ty.int) w S v3 a.clocks ∧ IsSlice (Ty.slice (Ty.slice Ty.int)) w S v4 a.vecs ∧ IsSlice (Ty.slice Ty.bool) w S v5 a.forced := by
  obtain ⟨_, _, rfl, ⟨_, _, rfl, ⟨v0, rfl, fv0⟩, ⟨_, _, rfl, ⟨v1, rfl, fv1⟩, ⟨v2, rfl, fv2⟩⟩⟩, ⟨_, _, rfl, ⟨v3, rfl, fv3⟩, ⟨_, _, rfl, ⟨v4, rfl, fv4⟩, ⟨v5, rfl, fv5⟩⟩⟩⟩ := h
  exact ⟨v0, v1, v2, v3, v4, v5, rfl, fv0, fv1, fv2, fv3, fv4, fv5⟩
theorem Hist_open {w : World} {S : Nat → Prop} {b o : Nat} {a : Hist} (h : Elt histTy w S b o a) : ∃ v0, ∃ v1, ∃ v2, ∃ v3, ∃ v4, ∃ v5, CellsAt w b o [v0, v1, v2, v3, v4, v5] ∧ IsSlice Ty.int w S v0 a.pat.lens ∧ IsSlice (Ty.slice Ty.int) w S v1 a.pat.ckpts ∧ IsSlice arcTy w S v2 a.pat.arcs ∧ IsSlice (Ty.slice Ty.int) w S v3 a.clocks ∧ IsSlice (Ty.slice (Ty.slice Ty.int)) w S v4 a.vecs ∧ IsSlice (Ty.slice Ty.bool) w S v5 a.forced := by
  obtain ⟨cs, h1, h2⟩ := h.cells
  obtain ⟨v0, v1, v2, v3, v4, v5, rfl, fv0, fv1, fv2, fv3, fv4, fv5⟩ := Hist_R h2
  exact ⟨v0, v1, v2, v3, v4, v5, h1, fv0, fv1, fv2, fv3, fv4, fv5⟩
instance : TyZ histTy [.slice none 0 0, .slice none 0 0, .slice none 0 0, .slice none 0 0, .slice none 0 0, .slice none 0 0] (⟨(⟨([] : List Int), ([] : List (List Int)), ([] : List Arc)⟩ : Pat), ([] : List (List Int)), ([] : List (List (List Int))), ([] : List (List Bool))⟩ : Hist) := ⟨fun w S => ⟨_, _, rfl, ⟨_, _, rfl, ⟨_, rfl, IsSlice.nil _ _ _⟩, ⟨_, _, rfl, ⟨_, rfl, IsSlice.nil _ _ _⟩, ⟨_, rfl, IsSlice.nil _ _ _⟩⟩⟩, ⟨_, _, rfl, ⟨_, rfl, IsSlice.nil _ _ _⟩, ⟨_, _, rfl, ⟨_, rfl, IsSlice.nil _ _ _⟩, ⟨_, rfl, IsSlice.nil _ _ _⟩⟩⟩⟩⟩
structure Lab where
  inc : Int
  index : Int
deriving DecidableEq
instance : Inhabited Lab := ⟨⟨default, default⟩⟩
def labTy : Ty Lab := Ty.via (Ty.pair Ty.int Ty.int) fun a => (a.inc, a.index)
theorem Lab_F0 {w : World} {S : Nat → Prop} {b o : Nat} {a : Lab} (h : Elt labTy w S b o a) : Elt Ty.int w S b (o + 0) a.inc := h.via.fst
theorem Lab_F1 {w : World} {S : Nat → Prop} {b o : Nat} {a : Lab} (h : Elt labTy w S b o a) : Elt Ty.int w S b (o + 1) a.index := h.via.snd
theorem Lab_R {w : World} {S : Nat → Prop} {a : Lab} {cs : List Value} (h : labTy.R w S cs a) : cs = [.int .i64 a.inc, .int .i64 a.index] := by
  obtain ⟨_, _, rfl, rfl, rfl⟩ := h
  exact rfl
theorem Lab_open {w : World} {S : Nat → Prop} {b o : Nat} {a : Lab} (h : Elt labTy w S b o a) : CellsAt w b o [.int .i64 a.inc, .int .i64 a.index] := by
  obtain ⟨cs, h1, h2⟩ := h.cells
  obtain rfl := Lab_R h2
  exact h1
def Lab.cells_ (a : Lab) : List Value := [.int .i64 a.inc, .int .i64 a.index]
def Lab.key_ (a : Lab) : Value := .agg (Lab.cells_ a).toArray
instance : Enc labTy Lab.cells_ := ⟨fun w S cs a => ⟨fun h => Lab_R h, fun h => by rw [h]; exact ⟨_, _, rfl, rfl, rfl⟩⟩⟩
instance : TyZ labTy [.int .i64 0, .int .i64 0] (⟨(0 : Int), (0 : Int)⟩ : Lab) := ⟨fun w S => ⟨_, _, rfl, rfl, rfl⟩⟩
structure Evt where
  kind : Int
  inc : Int
  frm : Int
  sent : Lab
  ord : Int
  value : Int
deriving DecidableEq
instance : Inhabited Evt := ⟨⟨default, default, default, default, default, default⟩⟩
def evtTy : Ty Evt := Ty.via (Ty.pair Ty.int (Ty.pair Ty.int (Ty.pair Ty.int (Ty.pair labTy (Ty.pair Ty.int Ty.int))))) fun a => (a.kind, a.inc, a.frm, a.sent, a.ord, a.value)
theorem Evt_F0 {w : World} {S : Nat → Prop} {b o : Nat} {a : Evt} (h : Elt evtTy w S b o a) : Elt Ty.int w S b (o + 0) a.kind := h.via.fst
theorem Evt_F1 {w : World} {S : Nat → Prop} {b o : Nat} {a : Evt} (h : Elt evtTy w S b o a) : Elt Ty.int w S b (o + 1) a.inc := h.via.snd.fst
theorem Evt_F2 {w : World} {S : Nat → Prop} {b o : Nat} {a : Evt} (h : Elt evtTy w S b o a) : Elt Ty.int w S b (o + 2) a.frm := h.via.snd.snd.fst
theorem Evt_F3 {w : World} {S : Nat → Prop} {b o : Nat} {a : Evt} (h : Elt evtTy w S b o a) : Elt labTy w S b (o + 3) a.sent := h.via.snd.snd.snd.fst
theorem Evt_F4 {w : World} {S : Nat → Prop} {b o : Nat} {a : Evt} (h : Elt evtTy w S b o a) : Elt Ty.int w S b (o + 5) a.ord := h.via.snd.snd.snd.snd.fst
theorem Evt_F5 {w : World} {S : Nat → Prop} {b o : Nat} {a : Evt} (h : Elt evtTy w S b o a) : Elt Ty.int w S b (o + 6) a.value := h.via.snd.snd.snd.snd.snd
theorem Evt_R {w : World} {S : Nat → Prop} {a : Evt} {cs : List Value} (h : evtTy.R w S cs a) : cs = [.int .i64 a.kind, .int .i64 a.inc, .int .i64 a.frm, .int .i64 a.sent.inc, .int .i64 a.sent.index, .int .i64 a.ord, .int .i64 a.value] := by
  obtain ⟨_, _, rfl, rfl, ⟨_, _, rfl, rfl, ⟨_, _, rfl, rfl, ⟨_, _, rfl, ⟨_, _, rfl, rfl, rfl⟩, ⟨_, _, rfl, rfl, rfl⟩⟩⟩⟩⟩ := h
  exact rfl
theorem Evt_open {w : World} {S : Nat → Prop} {b o : Nat} {a : Evt} (h : Elt evtTy w S b o a) : CellsAt w b o [.int .i64 a.kind, .int .i64 a.inc, .int .i64 a.frm, .int .i64 a.sent.inc, .int .i64 a.sent.index, .int .i64 a.ord, .int .i64 a.value] := by
  obtain ⟨cs, h1, h2⟩ := h.cells
  obtain rfl := Evt_R h2
  exact h1
def Evt.cells_ (a : Evt) : List Value := [.int .i64 a.kind, .int .i64 a.inc, .int .i64 a.frm, .int .i64 a.sent.inc, .int .i64 a.sent.index, .int .i64 a.ord, .int .i64 a.value]
def Evt.key_ (a : Evt) : Value := .agg (Evt.cells_ a).toArray
instance : Enc evtTy Evt.cells_ := ⟨fun w S cs a => ⟨fun h => Evt_R h, fun h => by rw [h]; exact ⟨_, _, rfl, rfl, ⟨_, _, rfl, rfl, ⟨_, _, rfl, rfl, ⟨_, _, rfl, ⟨_, _, rfl, rfl, rfl⟩, ⟨_, _, rfl, rfl, rfl⟩⟩⟩⟩⟩⟩⟩
instance : TyZ evtTy [.int .i64 0, .int .i64 0, .int .i64 0, .int .i64 0, .int .i64 0, .int .i64 0, .int .i64 0] (⟨(0 : Int), (0 : Int), (0 : Int), (⟨(0 : Int), (0 : Int)⟩ : Lab), (0 : Int), (0 : Int)⟩ : Evt) := ⟨fun w S => ⟨_, _, rfl, rfl, ⟨_, _, rfl, rfl, ⟨_, _, rfl, rfl, ⟨_, _, rfl, ⟨_, _, rfl, rfl, rfl⟩, ⟨_, _, rfl, rfl, rfl⟩⟩⟩⟩⟩⟩
structure EndI where
  proc : Int
  inc : Int
  index : Int
deriving DecidableEq
instance : Inhabited EndI := ⟨⟨default, default, default⟩⟩
def endITy : Ty EndI := Ty.via (Ty.pair Ty.int (Ty.pair Ty.int Ty.int)) fun a => (a.proc, a.inc, a.index)
theorem EndI_F0 {w : World} {S : Nat → Prop} {b o : Nat} {a : EndI} (h : Elt endITy w S b o a) : Elt Ty.int w S b (o + 0) a.proc := h.via.fst
theorem EndI_F1 {w : World} {S : Nat → Prop} {b o : Nat} {a : EndI} (h : Elt endITy w S b o a) : Elt Ty.int w S b (o + 1) a.inc := h.via.snd.fst
theorem EndI_F2 {w : World} {S : Nat → Prop} {b o : Nat} {a : EndI} (h : Elt endITy w S b o a) : Elt Ty.int w S b (o + 2) a.index := h.via.snd.snd
theorem EndI_R {w : World} {S : Nat → Prop} {a : EndI} {cs : List Value} (h : endITy.R w S cs a) : cs = [.int .i64 a.proc, .int .i64 a.inc, .int .i64 a.index] := by
  obtain ⟨_, _, rfl, rfl, ⟨_, _, rfl, rfl, rfl⟩⟩ := h
  exact rfl
theorem EndI_open {w : World} {S : Nat → Prop} {b o : Nat} {a : EndI} (h : Elt endITy w S b o a) : CellsAt w b o [.int .i64 a.proc, .int .i64 a.inc, .int .i64 a.index] := by
  obtain ⟨cs, h1, h2⟩ := h.cells
  obtain rfl := EndI_R h2
  exact h1
def EndI.cells_ (a : EndI) : List Value := [.int .i64 a.proc, .int .i64 a.inc, .int .i64 a.index]
def EndI.key_ (a : EndI) : Value := .agg (EndI.cells_ a).toArray
instance : Enc endITy EndI.cells_ := ⟨fun w S cs a => ⟨fun h => EndI_R h, fun h => by rw [h]; exact ⟨_, _, rfl, rfl, ⟨_, _, rfl, rfl, rfl⟩⟩⟩⟩
instance : TyZ endITy [.int .i64 0, .int .i64 0, .int .i64 0] (⟨(0 : Int), (0 : Int), (0 : Int)⟩ : EndI) := ⟨fun w S => ⟨_, _, rfl, rfl, ⟨_, _, rfl, rfl, rfl⟩⟩⟩
structure Pt where
  proc : Int
  index : Int
deriving DecidableEq
instance : Inhabited Pt := ⟨⟨default, default⟩⟩
def ptTy : Ty Pt := Ty.via (Ty.pair Ty.int Ty.int) fun a => (a.proc, a.index)
theorem Pt_F0 {w : World} {S : Nat → Prop} {b o : Nat} {a : Pt} (h : Elt ptTy w S b o a) : Elt Ty.int w S b (o + 0) a.proc := h.via.fst
theorem Pt_F1 {w : World} {S : Nat → Prop} {b o : Nat} {a : Pt} (h : Elt ptTy w S b o a) : Elt Ty.int w S b (o + 1) a.index := h.via.snd
theorem Pt_R {w : World} {S : Nat → Prop} {a : Pt} {cs : List Value} (h : ptTy.R w S cs a) : cs = [.int .i64 a.proc, .int .i64 a.index] := by
  obtain ⟨_, _, rfl, rfl, rfl⟩ := h
  exact rfl
theorem Pt_open {w : World} {S : Nat → Prop} {b o : Nat} {a : Pt} (h : Elt ptTy w S b o a) : CellsAt w b o [.int .i64 a.proc, .int .i64 a.index] := by
  obtain ⟨cs, h1, h2⟩ := h.cells
  obtain rfl := Pt_R h2
  exact h1
def Pt.cells_ (a : Pt) : List Value := [.int .i64 a.proc, .int .i64 a.index]
def Pt.key_ (a : Pt) : Value := .agg (Pt.cells_ a).toArray
instance : Enc ptTy Pt.cells_ := ⟨fun w S cs a => ⟨fun h => Pt_R h, fun h => by rw [h]; exact ⟨_, _, rfl, rfl, rfl⟩⟩⟩
instance : TyZ ptTy [.int .i64 0, .int .i64 0] (⟨(0 : Int), (0 : Int)⟩ : Pt) := ⟨fun w S => ⟨_, _, rfl, rfl, rfl⟩⟩
structure ModelbasedActor where
  vector : (List Int)
  sent : Bool
  active : Bool
deriving DecidableEq
instance : Inhabited ModelbasedActor := ⟨⟨default, default, default⟩⟩
def modelbasedActorTy : Ty ModelbasedActor := Ty.via (Ty.pair (Ty.slice Ty.int) (Ty.pair Ty.bool Ty.bool)) fun a => (a.vector, a.sent, a.active)
theorem ModelbasedActor_F0 {w : World} {S : Nat → Prop} {b o : Nat} {a : ModelbasedActor} (h : Elt modelbasedActorTy w S b o a) : Elt (Ty.slice Ty.int) w S b (o + 0) a.vector := h.via.fst
theorem ModelbasedActor_F1 {w : World} {S : Nat → Prop} {b o : Nat} {a : ModelbasedActor} (h : Elt modelbasedActorTy w S b o a) : Elt Ty.bool w S b (o + 1) a.sent := h.via.snd.fst
theorem ModelbasedActor_F2 {w : World} {S : Nat → Prop} {b o : Nat} {a : ModelbasedActor} (h : Elt modelbasedActorTy w S b o a) : Elt Ty.bool w S b (o + 2) a.active := h.via.snd.snd
theorem ModelbasedActor_R {w : World} {S : Nat → Prop} {a : ModelbasedActor} {cs : List Value} (h : modelbasedActorTy.R w S cs a) : ∃ v0, cs = [v0, .bool a.sent, .bool a.active] ∧ IsSlice Ty.int w S v0 a.vector := by
  obtain ⟨_, _, rfl, ⟨v0, rfl, fv0⟩, ⟨_, _, rfl, rfl, rfl⟩⟩ := h
  exact ⟨v0, rfl, fv0⟩
theorem ModelbasedActor_open {w : World} {S : Nat → Prop} {b o : Nat} {a : ModelbasedActor} (h : Elt modelbasedActorTy w S b o a) : ∃ v0, CellsAt w b o [v0, .bool a.sent, .bool a.active] ∧ IsSlice Ty.int w S v0 a.vector := by
  obtain ⟨cs, h1, h2⟩ := h.cells
  obtain ⟨v0, rfl, fv0⟩ := ModelbasedActor_R h2
  exact ⟨v0, h1, fv0⟩
instance : TyZ modelbasedActorTy [.slice none 0 0, .bool false, .bool false] (⟨([] : List Int), false, false⟩ : ModelbasedActor) := ⟨fun w S => ⟨_, _, rfl, ⟨_, rfl, IsSlice.nil _ _ _⟩, ⟨_, _, rfl, rfl, rfl⟩⟩⟩
structure ModelbasedLetter where
  arc : Int
  vector : (List Int)
deriving DecidableEq
instance : Inhabited ModelbasedLetter := ⟨⟨default, default⟩⟩
def modelbasedLetterTy : Ty ModelbasedLetter := Ty.via (Ty.pair Ty.int (Ty.slice Ty.int)) fun a => (a.arc, a.vector)
theorem ModelbasedLetter_F0 {w : World} {S : Nat → Prop} {b o : Nat} {a : ModelbasedLetter} (h : Elt modelbasedLetterTy w S b o a) : Elt Ty.int w S b (o + 0) a.arc := h.via.fst
theorem ModelbasedLetter_F1 {w : World} {S : Nat → Prop} {b o : Nat} {a : ModelbasedLetter} (h : Elt modelbasedLetterTy w S b o a) : Elt (Ty.slice Ty.int) w S b (o + 1) a.vector := h.via.snd
theorem ModelbasedLetter_R {w : World} {S : Nat → Prop} {a : ModelbasedLetter} {cs : List Value} (h : modelbasedLetterTy.R w S cs a) : ∃ v0, cs = [.int .i64 a.arc, v0] ∧ IsSlice Ty.int w S v0 a.vector := by
  obtain ⟨_, _, rfl, rfl, ⟨v0, rfl, fv0⟩⟩ := h
  exact ⟨v0, rfl, fv0⟩
theorem ModelbasedLetter_open {w : World} {S : Nat → Prop} {b o : Nat} {a : ModelbasedLetter} (h : Elt modelbasedLetterTy w S b o a) : ∃ v0, CellsAt w b o [.int .i64 a.arc, v0] ∧ IsSlice Ty.int w S v0 a.vector := by
  obtain ⟨cs, h1, h2⟩ := h.cells
  obtain ⟨v0, rfl, fv0⟩ := ModelbasedLetter_R h2
  exact ⟨v0, h1, fv0⟩
instance : TyZ modelbasedLetterTy [.int .i64 0, .slice none 0 0] (⟨(0 : Int), ([] : List Int)⟩ : ModelbasedLetter) := ⟨fun w S => ⟨_, _, rfl, rfl, ⟨_, rfl, IsSlice.nil _ _ _⟩⟩⟩
structure Ref26Flying where
  arc : Int
  vector : (List Int)
deriving DecidableEq
instance : Inhabited Ref26Flying := ⟨⟨default, default⟩⟩
def ref26FlyingTy : Ty Ref26Flying := Ty.via (Ty.pair Ty.int (Ty.slice Ty.int)) fun a => (a.arc, a.vector)
theorem Ref26Flying_F0 {w : World} {S : Nat → Prop} {b o : Nat} {a : Ref26Flying} (h : Elt ref26FlyingTy w S b o a) : Elt Ty.int w S b (o + 0) a.arc := h.via.fst
theorem Ref26Flying_F1 {w : World} {S : Nat → Prop} {b o : Nat} {a : Ref26Flying} (h : Elt ref26FlyingTy w S b o a) : Elt (Ty.slice Ty.int) w S b (o + 1) a.vector := h.via.snd
theorem Ref26Flying_R {w : World} {S : Nat → Prop} {a : Ref26Flying} {cs : List Value} (h : ref26FlyingTy.R w S cs a) : ∃ v0, cs = [.int .i64 a.arc, v0] ∧ IsSlice Ty.int w S v0 a.vector := by
  obtain ⟨_, _, rfl, rfl, ⟨v0, rfl, fv0⟩⟩ := h
  exact ⟨v0, rfl, fv0⟩
theorem Ref26Flying_open {w : World} {S : Nat → Prop} {b o : Nat} {a : Ref26Flying} (h : Elt ref26FlyingTy w S b o a) : ∃ v0, CellsAt w b o [.int .i64 a.arc, v0] ∧ IsSlice Ty.int w S v0 a.vector := by
  obtain ⟨cs, h1, h2⟩ := h.cells
  obtain ⟨v0, rfl, fv0⟩ := Ref26Flying_R h2
  exact ⟨v0, h1, fv0⟩
instance : TyZ ref26FlyingTy [.int .i64 0, .slice none 0 0] (⟨(0 : Int), ([] : List Int)⟩ : Ref26Flying) := ⟨fun w S => ⟨_, _, rfl, rfl, ⟨_, rfl, IsSlice.nil _ _ _⟩⟩⟩
structure Ref26Run where
  h : Hist
  rule : Int
  vectors : (List (List Int))
  sent : (List Bool)
  flight : (List Ref26Flying)
deriving DecidableEq
instance : Inhabited Ref26Run := ⟨⟨default, default, default, default, default⟩⟩
def ref26RunTy : Ty Ref26Run := Ty.via (Ty.pair histTy (Ty.pair Ty.int (Ty.pair (Ty.slice (Ty.slice Ty.int)) (Ty.pair (Ty.slice Ty.bool) (Ty.slice ref26FlyingTy))))) fun a => (a.h, a.rule, a.vectors, a.sent, a.flight)
theorem Ref26Run_F0 {w : World} {S : Nat → Prop} {b o : Nat} {a : Ref26Run} (h : Elt ref26RunTy w S b o a) : Elt histTy w S b (o + 0) a.h := h.via.fst
theorem Ref26Run_F1 {w : World} {S : Nat → Prop} {b o : Nat} {a : Ref26Run} (h : Elt ref26RunTy w S b o a) : Elt Ty.int w S b (o + 6) a.rule := h.via.snd.fst
theorem Ref26Run_F2 {w : World} {S : Nat → Prop} {b o : Nat} {a : Ref26Run} (h : Elt ref26RunTy w S b o a) : Elt (Ty.slice (Ty.slice Ty.int)) w S b (o + 7) a.vectors := h.via.snd.snd.fst
theorem Ref26Run_F3 {w : World} {S : Nat → Prop} {b o : Nat} {a : Ref26Run} (h : Elt ref26RunTy w S b o a) : Elt (Ty.slice Ty.bool) w S b (o + 8) a.sent := h.via.snd.snd.snd.fst
theorem Ref26Run_F4 {w : World} {S : Nat → Prop} {b o : Nat} {a : Ref26Run} (h : Elt ref26RunTy w S b o a) : Elt (Ty.slice ref26FlyingTy) w S b (o + 9) a.flight := h.via.snd.snd.snd.snd
theorem Ref26Run_R {w : World} {S : Nat → Prop} {a : Ref26Run} {cs : List Value} (h : ref26RunTy.R w S cs a) : ∃ v0, ∃ v1, ∃ v2, ∃ v3, ∃ v4, ∃ v5, ∃ v6, ∃ v7, ∃ v8, cs = [v0, v1, v2, v3, v4, v5, .int .i64 a.rule, v6, v7, v8] ∧ IsSlice Ty.int w S v0 a.h.pat.lens ∧ IsSlice (Ty.slice Ty.int) w S v1 a.h.pat.ckpts ∧ IsSlice arcTy w S v2 a.h.pat.arcs ∧ IsSlice (Ty.slice Ty.int) w S v3 a.h.clocks ∧ IsSlice (Ty.slice (Ty.slice Ty.int)) w S v4 a.h.vecs ∧ IsSlice (Ty.slice Ty.bool) w S v5 a.h.forced ∧ IsSlice (Ty.slice Ty.int) w S v6 a.vectors ∧ IsSlice Ty.bool w S v7 a.sent ∧ IsSlice ref26FlyingTy w S v8 a.flight := by
  obtain ⟨_, _, rfl, ⟨_, _, rfl, ⟨_, _, rfl, ⟨v0, rfl, fv0⟩, ⟨_, _, rfl, ⟨v1, rfl, fv1⟩, ⟨v2, rfl, fv2⟩⟩⟩, ⟨_, _, rfl, ⟨v3, rfl, fv3⟩, ⟨_, _, rfl, ⟨v4, rfl, fv4⟩, ⟨v5, rfl, fv5⟩⟩⟩⟩, ⟨_, _, rfl, rfl, ⟨_, _, rfl, ⟨v6, rfl, fv6⟩, ⟨_, _, rfl, ⟨v7, rfl, fv7⟩, ⟨v8, rfl, fv8⟩⟩⟩⟩⟩ := h
  exact ⟨v0, v1, v2, v3, v4, v5, v6, v7, v8, rfl, fv0, fv1, fv2, fv3, fv4, fv5, fv6, fv7, fv8⟩
theorem Ref26Run_open {w : World} {S : Nat → Prop} {b o : Nat} {a : Ref26Run} (h : Elt ref26RunTy w S b o a) : ∃ v0, ∃ v1, ∃ v2, ∃ v3, ∃ v4, ∃ v5, ∃ v6, ∃ v7, ∃ v8, CellsAt w b o [v0, v1, v2, v3, v4, v5, .int .i64 a.rule, v6, v7, v8] ∧ IsSlice Ty.int w S v0 a.h.pat.lens ∧ IsSlice (Ty.slice Ty.int) w S v1 a.h.pat.ckpts ∧ IsSlice arcTy w S v2 a.h.pat.arcs ∧ IsSlice (Ty.slice Ty.int) w S v3 a.h.clocks ∧ IsSlice (Ty.slice (Ty.slice Ty.int)) w S v4 a.h.vecs ∧ IsSlice (Ty.slice Ty.bool) w S v5 a.h.forced ∧ IsSlice (Ty.slice Ty.int) w S v6 a.vectors ∧ IsSlice Ty.bool w S v7 a.sent ∧ IsSlice ref26FlyingTy w S v8 a.flight := by
  obtain ⟨cs, h1, h2⟩ := h.cells
  obtain ⟨v0, v1, v2, v3, v4, v5, v6, v7, v8, rfl, fv0, fv1, fv2, fv3, fv4, fv5, fv6, fv7, fv8⟩ := Ref26Run_R h2
  exact ⟨v0, v1, v2, v3, v4, v5, v6, v7, v8, h1, fv0, fv1, fv2, fv3, fv4, fv5, fv6, fv7, fv8⟩
instance : TyZ ref26RunTy [.slice none 0 0, .slice none 0 0, .slice none 0 0, .slice none 0 0, .slice none 0 0, .slice none 0 0, .int .i64 0, .slice none 0 0, .slice none 0 0, .slice none 0 0] (⟨(⟨(⟨([] : List Int), ([] : List (List Int)), ([] : List Arc)⟩ : Pat), ([] : List (List Int)), ([] : List (List (List Int))), ([] : List (List Bool))⟩ : Hist), (0 : Int), ([] : List (List Int)), ([] : List Bool), ([] : List Ref26Flying)⟩ : Ref26Run) := ⟨fun w S => ⟨_, _, rfl, ⟨_, _, rfl, ⟨_, _, rfl, ⟨_, rfl, IsSlice.nil _ _ _⟩, ⟨_, _, rfl, ⟨_, rfl, IsSlice.nil _ _ _⟩, ⟨_, rfl, IsSlice.nil _ _ _⟩⟩⟩, ⟨_, _, rfl, ⟨_, rfl, IsSlice.nil _ _ _⟩, ⟨_, _, rfl, ⟨_, rfl, IsSlice.nil _ _ _⟩, ⟨_, rfl, IsSlice.nil _ _ _⟩⟩⟩⟩, ⟨_, _, rfl, rfl, ⟨_, _, rfl, ⟨_, rfl, IsSlice.nil _ _ _⟩, ⟨_, _, rfl, ⟨_, rfl, IsSlice.nil _ _ _⟩, ⟨_, rfl, IsSlice.nil _ _ _⟩⟩⟩⟩⟩⟩
structure IndexedLetter where
  arc : Int
  clock : Int
deriving DecidableEq
instance : Inhabited IndexedLetter := ⟨⟨default, default⟩⟩
def indexedLetterTy : Ty IndexedLetter := Ty.via (Ty.pair Ty.int Ty.int) fun a => (a.arc, a.clock)
theorem IndexedLetter_F0 {w : World} {S : Nat → Prop} {b o : Nat} {a : IndexedLetter} (h : Elt indexedLetterTy w S b o a) : Elt Ty.int w S b (o + 0) a.arc := h.via.fst
theorem IndexedLetter_F1 {w : World} {S : Nat → Prop} {b o : Nat} {a : IndexedLetter} (h : Elt indexedLetterTy w S b o a) : Elt Ty.int w S b (o + 1) a.clock := h.via.snd
theorem IndexedLetter_R {w : World} {S : Nat → Prop} {a : IndexedLetter} {cs : List Value} (h : indexedLetterTy.R w S cs a) : cs = [.int .i64 a.arc, .int .i64 a.clock] := by
  obtain ⟨_, _, rfl, rfl, rfl⟩ := h
  exact rfl
theorem IndexedLetter_open {w : World} {S : Nat → Prop} {b o : Nat} {a : IndexedLetter} (h : Elt indexedLetterTy w S b o a) : CellsAt w b o [.int .i64 a.arc, .int .i64 a.clock] := by
  obtain ⟨cs, h1, h2⟩ := h.cells
  obtain rfl := IndexedLetter_R h2
  exact h1
def IndexedLetter.cells_ (a : IndexedLetter) : List Value := [.int .i64 a.arc, .int .i64 a.clock]
def IndexedLetter.key_ (a : IndexedLetter) : Value := .agg (IndexedLetter.cells_ a).toArray
instance : Enc indexedLetterTy IndexedLetter.cells_ := ⟨fun w S cs a => ⟨fun h => IndexedLetter_R h, fun h => by rw [h]; exact ⟨_, _, rfl, rfl, rfl⟩⟩⟩
instance : TyZ indexedLetterTy [.int .i64 0, .int .i64 0] (⟨(0 : Int), (0 : Int)⟩ : IndexedLetter) := ⟨fun w S => ⟨_, _, rfl, rfl, rfl⟩⟩
structure IndexedComputation where
  h : Hist
  clocks : (List Int)
  flight : (List IndexedLetter)
deriving DecidableEq
instance : Inhabited IndexedComputation := ⟨⟨default, default, default⟩⟩
def indexedComputationTy : Ty IndexedComputation := Ty.via (Ty.pair histTy (Ty.pair (Ty.slice Ty.int) (Ty.slice indexedLetterTy))) fun a => (a.h, a.clocks, a.flight)
theorem IndexedComputation_F0 {w : World} {S : Nat → Prop} {b o : Nat} {a : IndexedComputation} (h : Elt indexedComputationTy w S b o a) : Elt histTy w S b (o + 0) a.h := h.via.fst
theorem IndexedComputation_F1 {w : World} {S : Nat → Prop} {b o : Nat} {a : IndexedComputation} (h : Elt indexedComputationTy w S b o a) : Elt (Ty.slice Ty.int) w S b (o + 6) a.clocks := h.via.snd.fst
theorem IndexedComputation_F2 {w : World} {S : Nat → Prop} {b o : Nat} {a : IndexedComputation} (h : Elt indexedComputationTy w S b o a) : Elt (Ty.slice indexedLetterTy) w S b (o + 7) a.flight := h.via.snd.snd
theorem IndexedComputation_R {w : World} {S : Nat → Prop} {a : IndexedComputation} {cs : List Value} (h : indexedComputationTy.R w S cs a) : ∃ v0, ∃ v1, ∃ v2, ∃ v3, ∃ v4, ∃ v5, ∃ v6, ∃ v7, cs = [v0, v1, v2, v3, v4, v5, v6, v7] ∧ IsSlice Ty.int w S v0 a.h.pat.lens ∧ IsSlice (Ty.slice Ty.int) w S v1 a.h.pat.ckpts ∧ IsSlice arcTy w S v2 a.h.pat.arcs ∧ IsSlice (Ty.slice Ty.int) w S v3 a.h.clocks ∧ IsSlice (Ty.slice (Ty.slice Ty.int)) w S v4 a.h.vecs ∧ IsSlice (Ty.slice Ty.bool) w S v5 a.h.forced ∧ IsSlice Ty.int w S v6 a.clocks ∧ IsSlice indexedLetterTy w S v7 a.flight := by
  obtain ⟨_, _, rfl, ⟨_, _, rfl, ⟨_, _, rfl, ⟨v0, rfl, fv0⟩, ⟨_, _, rfl, ⟨v1, rfl, fv1⟩, ⟨v2, rfl, fv2⟩⟩⟩, ⟨_, _, rfl, ⟨v3, rfl, fv3⟩, ⟨_, _, rfl, ⟨v4, rfl, fv4⟩, ⟨v5, rfl, fv5⟩⟩⟩⟩, ⟨_, _, rfl, ⟨v6, rfl, fv6⟩, ⟨v7, rfl, fv7⟩⟩⟩ := h
  exact ⟨v0, v1, v2, v3, v4, v5, v6, v7, rfl, fv0, fv1, fv2, fv3, fv4, fv5, fv6, fv7⟩
theorem IndexedComputation_open {w : World} {S : Nat → Prop} {b o : Nat} {a : IndexedComputation} (h : Elt indexedComputationTy w S b o a) : ∃ v0, ∃ v1, ∃ v2, ∃ v3, ∃ v4, ∃ v5, ∃ v6, ∃ v7, CellsAt w b o [v0, v1, v2, v3, v4, v5, v6, v7] ∧ IsSlice Ty.int w S v0 a.h.pat.lens ∧ IsSlice (Ty.slice Ty.int) w S v1 a.h.pat.ckpts ∧ IsSlice arcTy w S v2 a.h.pat.arcs ∧ IsSlice (Ty.slice Ty.int) w S v3 a.h.clocks ∧ IsSlice (Ty.slice (Ty.slice Ty.int)) w S v4 a.h.vecs ∧ IsSlice (Ty.slice Ty.bool) w S v5 a.h.forced ∧ IsSlice Ty.int w S v6 a.clocks ∧ IsSlice indexedLetterTy w S v7 a.flight := by
  obtain ⟨cs, h1, h2⟩ := h.cells
  obtain ⟨v0, v1, v2, v3, v4, v5, v6, v7, rfl, fv0, fv1, fv2, fv3, fv4, fv5, fv6, fv7⟩ := IndexedComputation_R h2
  exact ⟨v0, v1, v2, v3, v4, v5, v6, v7, h1, fv0, fv1, fv2, fv3, fv4, fv5, fv6, fv7⟩
instance : TyZ indexedComputationTy [.slice none 0 0, .slice none 0 0, .slice none 0 0, .slice none 0 0, .slice none 0 0, .slice none 0 0, .slice none 0 0, .slice none 0 0] (⟨(⟨(⟨([] : List Int), ([] : List (List Int)), ([] : List Arc)⟩ : Pat), ([] : List (List Int)), ([] : List (List (List Int))), ([] : List (List Bool))⟩ : Hist), ([] : List Int), ([] : List IndexedLetter)⟩ : IndexedComputation) := ⟨fun w S => ⟨_, _, rfl, ⟨_, _, rfl, ⟨_, _, rfl, ⟨_, rfl, IsSlice.nil _ _ _⟩, ⟨_, _, rfl, ⟨_, rfl, IsSlice.nil _ _ _⟩, ⟨_, rfl, IsSlice.nil _ _ _⟩⟩⟩, ⟨_, _, rfl, ⟨_, rfl, IsSlice.nil _ _ _⟩, ⟨_, _, rfl, ⟨_, rfl, IsSlice.nil _ _ _⟩, ⟨_, rfl, IsSlice.nil _ _ _⟩⟩⟩⟩, ⟨_, _, rfl, ⟨_, rfl, IsSlice.nil _ _ _⟩, ⟨_, rfl, IsSlice.nil _ _ _⟩⟩⟩⟩
structure MakeCodes where
  list : (List Int)
  at_ : Int
deriving DecidableEq
instance : Inhabited MakeCodes := ⟨⟨default, default⟩⟩
def makeCodesTy : Ty MakeCodes := Ty.via (Ty.pair (Ty.slice Ty.u8) Ty.int) fun a => (a.list, a.at_)
theorem MakeCodes_F0 {w : World} {S : Nat → Prop} {b o : Nat} {a : MakeCodes} (h : Elt makeCodesTy w S b o a) : Elt (Ty.slice Ty.u8) w S b (o + 0) a.list := h.via.fst
theorem MakeCodes_F1 {w : World} {S : Nat → Prop} {b o : Nat} {a : MakeCodes} (h : Elt makeCodesTy w S b o a) : Elt Ty.int w S b (o + 1) a.at_ := h.via.snd
theorem MakeCodes_R {w : World} {S : Nat → Prop} {a : MakeCodes} {cs : List Value} (h : makeCodesTy.R w S cs a) : ∃ v0, cs = [v0, .int .i64 a.at_] ∧ IsSlice Ty.u8 w S v0 a.list := by
  obtain ⟨_, _, rfl, ⟨v0, rfl, fv0⟩, rfl⟩ := h
  exact ⟨v0, rfl, fv0⟩
theorem MakeCodes_open {w : World} {S : Nat → Prop} {b o : Nat} {a : MakeCodes} (h : Elt makeCodesTy w S b o a) : ∃ v0, CellsAt w b o [v0, .int .i64 a.at_] ∧ IsSlice Ty.u8 w S v0 a.list := by
  obtain ⟨cs, h1, h2⟩ := h.cells
  obtain ⟨v0, rfl, fv0⟩ := MakeCodes_R h2
  exact ⟨v0, h1, fv0⟩
instance : TyZ makeCodesTy [.slice none 0 0, .int .i64 0] (⟨([] : List Int), (0 : Int)⟩ : MakeCodes) := ⟨fun w S => ⟨_, _, rfl, ⟨_, rfl, IsSlice.nil _ _ _⟩, rfl⟩⟩
structure OrphanTracker where
  l : (List (List Evt))
  vectors : (List (List (List Lab)))
  onWay : (List Bool)
deriving DecidableEq
instance : Inhabited OrphanTracker := ⟨⟨default, default, default⟩⟩
def orphanTrackerTy : Ty OrphanTracker := Ty.via (Ty.pair (Ty.slice (Ty.slice evtTy)) (Ty.pair (Ty.slice (Ty.slice (Ty.slice labTy))) (Ty.slice Ty.bool))) fun a => (a.l, a.vectors, a.onWay)
theorem OrphanTracker_F0 {w : World} {S : Nat → Prop} {b o : Nat} {a : OrphanTracker} (h : Elt orphanTrackerTy w S b o a) : Elt (Ty.slice (Ty.slice evtTy)) w S b (o + 0) a.l := h.via.fst
theorem OrphanTracker_F1 {w : World} {S : Nat → Prop} {b o : Nat} {a : OrphanTracker} (h : Elt orphanTrackerTy w S b o a) : Elt (Ty.slice (Ty.slice (Ty.slice labTy))) w S b (o + 1) a.vectors := h.via.snd.fst
theorem OrphanTracker_F2 {w : World} {S : Nat → Prop} {b o : Nat} {a : OrphanTracker} (h : Elt orphanTrackerTy w S b o a) : Elt (Ty.slice Ty.bool) w S b (o + 2) a.onWay := h.via.snd.snd
theorem OrphanTracker_R {w : World} {S : Nat → Prop} {a : OrphanTracker} {cs : List Value} (h : orphanTrackerTy.R w S cs a) : ∃ v0, ∃ v1, ∃ v2, cs = [v0, v1, v2] ∧ IsSlice (Ty.slice evtTy) w S v0 a.l ∧ IsSlice (Ty.slice (Ty.slice labTy)) w S v1 a.vectors ∧ IsSlice Ty.bool w S v2 a.onWay := by
  obtain ⟨_, _, rfl, ⟨v0, rfl, fv0⟩, ⟨_, _, rfl, ⟨v1, rfl, fv1⟩, ⟨v2, rfl, fv2⟩⟩⟩ := h
  exact ⟨v0, v1, v2, rfl, fv0, fv1, fv2⟩
theorem OrphanTracker_open {w : World} {S : Nat → Prop} {b o : Nat} {a : OrphanTracker} (h : Elt orphanTrackerTy w S b o a) : ∃ v0, ∃ v1, ∃ v2, CellsAt w b o [v0, v1, v2] ∧ IsSlice (Ty.slice evtTy) w S v0 a.l ∧ IsSlice (Ty.slice (Ty.slice labTy)) w S v1 a.vectors ∧ IsSlice Ty.bool w S v2 a.onWay := by
  obtain ⟨cs, h1, h2⟩ := h.cells
  obtain ⟨v0, v1, v2, rfl, fv0, fv1, fv2⟩ := OrphanTracker_R h2
  exact ⟨v0, v1, v2, h1, fv0, fv1, fv2⟩
instance : TyZ orphanTrackerTy [.slice none 0 0, .slice none 0 0, .slice none 0 0] (⟨([] : List (List Evt)), ([] : List (List (List Lab))), ([] : List Bool)⟩ : OrphanTracker) := ⟨fun w S => ⟨_, _, rfl, ⟨_, rfl, IsSlice.nil _ _ _⟩, ⟨_, _, rfl, ⟨_, rfl, IsSlice.nil _ _ _⟩, ⟨_, rfl, IsSlice.nil _ _ _⟩⟩⟩⟩
structure Pt2 where
  x0 : Pt
  x1 : Pt
deriving DecidableEq
instance : Inhabited Pt2 := ⟨⟨default, default⟩⟩
def pt2Ty : Ty Pt2 := Ty.via (Ty.pair ptTy ptTy) fun a => (a.x0, a.x1)
theorem Pt2_F0 {w : World} {S : Nat → Prop} {b o : Nat} {a : Pt2} (h : Elt pt2Ty w S b o a) : Elt ptTy w S b (o + 0) a.x0 := h.via.fst
theorem Pt2_F1 {w : World} {S : Nat → Prop} {b o : Nat} {a : Pt2} (h : Elt pt2Ty w S b o a) : Elt ptTy w S b (o + 2) a.x1 := h.via.snd
theorem Pt2_R {w : World} {S : Nat → Prop} {a : Pt2} {cs : List Value} (h : pt2Ty.R w S cs a) : cs = [.int .i64 a.x0.proc, .int .i64 a.x0.index, .int .i64 a.x1.proc, .int .i64 a.x1.index] := by
  obtain ⟨_, _, rfl, ⟨_, _, rfl, rfl, rfl⟩, ⟨_, _, rfl, rfl, rfl⟩⟩ := h
  exact rfl
theorem Pt2_open {w : World} {S : Nat → Prop} {b o : Nat} {a : Pt2} (h : Elt pt2Ty w S b o a) : CellsAt w b o [.int .i64 a.x0.proc, .int .i64 a.x0.index, .int .i64 a.x1.proc, .int .i64 a.x1.index] := by
  obtain ⟨cs, h1, h2⟩ := h.cells
  obtain rfl := Pt2_R h2
  exact h1
def Pt2.cells_ (a : Pt2) : List Value := [.int .i64 a.x0.proc, .int .i64 a.x0.index, .int .i64 a.x1.proc, .int .i64 a.x1.index]
def Pt2.key_ (a : Pt2) : Value := .agg (Pt2.cells_ a).toArray
instance : Enc pt2Ty Pt2.cells_ := ⟨fun w S cs a => ⟨fun h => Pt2_R h, fun h => by rw [h]; exact ⟨_, _, rfl, ⟨_, _, rfl, rfl, rfl⟩, ⟨_, _, rfl, rfl, rfl⟩⟩⟩⟩
instance : TyZ pt2Ty [.int .i64 0, .int .i64 0, .int .i64 0, .int .i64 0] (⟨(⟨(0 : Int), (0 : Int)⟩ : Pt), (⟨(0 : Int), (0 : Int)⟩ : Pt)⟩ : Pt2) := ⟨fun w S => ⟨_, _, rfl, ⟨_, _, rfl, rfl, rfl⟩, ⟨_, _, rfl, rfl, rfl⟩⟩⟩
end Go.Mine
