/- The computation of chapter 26 in memory; its checkpoint. -/
import Derived.Test.YtbmjcbhappjnaaaC26
set_option linter.unusedSimpArgs false
set_option linter.unusedVariables false
namespace Go.Mine
open Go.RowKit
structure ActorC where
  vec : Cell
  sent : Bool
  act : Bool
instance : Inhabited ActorC := ⟨⟨default, false, false⟩⟩
def actorTy : Ty ActorC := (Ty.cell.pair (Ty.bool.pair Ty.bool)).via fun a => (a.vec, a.sent, a.act)
def ActorC.cells (a : ActorC) : List Value := [a.vec.v, .bool a.sent, .bool a.act]
structure NoteC where
  arc : Int
  vec : Cell
instance : Inhabited NoteC := ⟨⟨0, default⟩⟩
def noteTy : Ty NoteC := (Ty.int.pair Ty.cell).via fun a => (a.arc, a.vec)
def NoteC.cells (a : NoteC) : List Value := [.int .i64 a.arc, a.vec.v]
section
variable {w : World} {S : Nat → Prop} {b o : Nat}
theorem actorR {cs : List Value} {a : ActorC} : actorTy.R w S cs a ↔ cs = a.cells := by
  constructor
  · rintro ⟨c1, c2, rfl, rfl, c3, c4, rfl, rfl, rfl⟩; rfl
  · rintro rfl; exact ⟨_, _, rfl, rfl, _, _, rfl, rfl, rfl⟩
theorem noteR {cs : List Value} {a : NoteC} : noteTy.R w S cs a ↔ cs = a.cells := by
  constructor
  · rintro ⟨c1, c2, rfl, rfl, rfl⟩; rfl
  · rintro rfl; exact ⟨_, _, rfl, rfl, rfl⟩
theorem letterL {a : NoteC} (h : El noteTy w S b o a) : CellsAt w b o [.int .i64 a.arc, a.vec.v] := by
  obtain ⟨cs, h1, h2⟩ := h.cells
  rw [noteR.1 h2] at h1; exact h1
end
instance : Enc arcTy Arc.cells := ⟨fun _ _ _ _ => arcR⟩
instance : Enc actorTy ActorC.cells := ⟨fun _ _ _ _ => actorR⟩
/-- the places of the parts -/
structure CN where
  B : Nat
  gL : Nat
  gC : Nat
  gV : Nat
  gF : Nat
  gP : Nat
  capC : Nat
  capV : Nat
  capF : Nat
  vsC : List Value
  vsV : List Value
  vsF : List Value
  jC : List Value
  jV : List Value
  jF : List Value
  vA : Value
  vG : Value
  vc : List (List Cell)
  ac : List ActorC
  fl : List NoteC
/-- what the cells mean -/
structure Held (w : World) (R : Nat → Prop) (n : Nat) (x : CN) (c : C26) : Prop where
  caps : n ≤ x.capC ∧ n ≤ x.capV ∧ n ≤ x.capF
  vlen : x.vc.length = n
  vecs : ∀ q, q < n → Vecs w R (nth x.vc q) (nth c.vecs q)
  alen : x.ac.length = n
  vec : ∀ q, q < n → IsSlice Ty.int w R (nth x.ac q).vec.v (nth c.now q)
  sent : ∀ q, q < n → (nth x.ac q).sent = nth c.sent q
  act : ∀ q, q < n → (nth x.ac q).act = nth c.act q
  flen : x.fl.length = c.fly.length
  arc : ∀ i, i < c.fly.length → (nth x.fl i).arc = (nth c.fly i).arc
  note : ∀ i, i < c.fly.length → IsSlice Ty.int w R (nth x.fl i).vec.v (nth c.fly i).vec
section
variable {w w' : World} {R R' : Nat → Prop} {n : Nat} {x : CN} {c : C26}
theorem Held.kept (h : Held w R n x c) (hk : Kept R w w') : Held w' R n x c :=
  { h with vecs := fun q hq => (h.vecs q hq).kept hk, vec := fun q hq => (h.vec q hq).kept hk, note := fun i hi => (h.note i hi).kept hk }
theorem Held.ext (h : Held w R n x c) (hB : Below w.heap.size w w') : Held w' R n x c :=
  { h with vecs := fun q hq => (h.vecs q hq).ext hB, vec := fun q hq => (h.vec q hq).ext hB, note := fun i hi => (h.note i hi).ext hB }
theorem Held.mono (h : Held w R n x c) (hn : ∀ k, R k → k < w.heap.size → R' k) : Held w R' n x c :=
  { h with vecs := fun q hq => (h.vecs q hq).mono hn, vec := fun q hq => (h.vec q hq).mono hn, note := fun i hi => (h.note i hi).mono hn }
end
end Go.Mine
namespace Go.Proofs.Ytbmjcbhappjnaaa
open Go.RowKit Go.Mine
attribute [local irreducible] eseq ewp
def compParts (n : Nat) (rule : Int) (x : CN) (c : C26) : List HP :=
  [HP.blk x.B [.slice (some ⟨x.gL, 0, none⟩) n n, .slice (some ⟨x.gC, 0, none⟩) n x.capC, x.vA, .slice none 0 0, .slice (some ⟨x.gV, 0, none⟩) n x.capV, .slice (some ⟨x.gF, 0, none⟩) n x.capF, .slice (some ⟨x.gP, 0, none⟩) n n, x.vG, .func (.func (condF rule)) #[] #[]] 95,
   HP.blk x.gL (c.lens.map encI) 3,
   HP.blk x.gC (x.vsC ++ x.jC) 27, HP.fam Ty.int 3 x.vsC c.ckpts,
   HP.own arcTy (fun _ => False) 107 x.vA c.arcs,
   HP.blk x.gV (x.vsV ++ x.jV) 28, HP.fam Ty.cell 27 x.vsV x.vc,
   HP.blk x.gF (x.vsF ++ x.jF) 99, HP.fam Ty.bool 4 x.vsF c.forced,
   HP.own actorTy (fun _ => False) 89 (.slice (some ⟨x.gP, 0, none⟩) n n) x.ac,
   HP.own noteTy (fun _ => False) 150 x.vG x.fl]
variable {w : World} {F R : Nat → Prop} {n r m : Nat} {rule : Int} {x : CN} {c : C26}

theorem process26 (h : Sep F R R w w (compParts n rule x c)) (hn : n ≤ 100) (q : Int) :
    Gives Try.prog 46 [.pointer (some ⟨x.B, 0, none⟩), .int .i64 q] w fun v w' => v = .bool (decide (0 ≤ q) && decide (q < n)) ∧ Below w.heap.size w w' := by
  have hS := h
  simp only [compParts] at hS
  have hB0 := hS.blk 0 rfl
  refine fn_of Try.func46 rfl Try.ntmps46 (Nat.le_of_ble_eq_true rfl) ?_
  have hT := Below.refl w.heap.size w
  refine e_seq fun K hK => ?_
  refine e_region_text rfl ?_
  refine q_assign rfl rfl ?_
  refine eseq_nil ?_
  refine hK _ _ ?_; clear hK
  refine e_seq fun K hK => ?_
  refine e_region_text rfl ?_
  refine q_move rfl rfl ?_
  refine q_geq rfl rfl rfl ?_
  refine q_move rfl rfl ?_
  refine g_and 7 rfl trivial rfl rfl ?_; apply Exists.intro; refine ⟨fun hg => ?_, fun hg => ?_, fun wm1 hBm1 => ?_⟩
  · have hg0 := hg
    have hTm1 := Below.refl (World.heap w).size w
    try simp at hg
    refine g_run rfl ?_; refine q_move rfl rfl ?_
    refine g_run rfl ?_; refine q_move rfl rfl ?_
    refine g_run rfl ?_; refine q_nilCheck rfl rfl ?_
    refine g_run rfl ?_; refine q_field rfl rfl ?_
    refine g_run rfl ?_; refine q_load rfl (Blk.cell hB0 rfl) rfl ?_
    refine g_run rfl ?_; refine q_len rfl rfl ?_
    refine g_run rfl ?_; refine q_lss rfl rfl rfl ?_
    exact eseq_nil ⟨hTm1, Sub.set rfl (Sub.set rfl (Sub.set rfl (Sub.set rfl (Sub.set rfl (Sub.set rfl (Sub.set rfl (Sub.bool true rfl hg0))))))), rfl⟩
  · have hg0 := hg
    refine g_skip rfl rfl rfl ?_
    refine g_skip rfl rfl rfl ?_
    refine g_skip rfl rfl rfl ?_
    refine g_skip rfl rfl rfl ?_
    refine g_skip rfl rfl rfl ?_
    refine g_skip rfl rfl rfl ?_
    refine g_skip rfl rfl rfl ?_
    exact eseq_nil ⟨rfl, Sub.set rfl (Sub.set rfl (Sub.set rfl (Sub.set rfl (Sub.set rfl (Sub.set rfl (Sub.set rfl (Sub.bool false rfl hg0)))))))⟩
  replace hB0 := hB0.ext hBm1
  replace hT := hT.trans (Below.mono hBm1 hT.size)
  refine q_assign rfl rfl ?_
  refine eseq_nil ?_
  refine hK _ _ ?_; clear hK
  refine e_ret ?_
  exact ⟨_, res1 rfl rfl, rfl, hT⟩
theorem full26 (h : Sep F R R w w (compParts n rule x c)) (hi : c.Inv n r m) (hn : n ≤ 100) (q : Int) (hq : 0 ≤ q ∧ q < n) :
    Gives Try.prog 88 [.pointer (some ⟨x.B, 0, none⟩), .int .i64 q] w fun v w' => v = .bool (decide (64 ≤ nth c.lens q.toNat)) ∧ Below w.heap.size w w' := by
  have hS := h
  simp only [compParts] at hS
  have g1 := hi.lens
  refine fn_of Try.func88 rfl Try.ntmps88 (Nat.le_of_ble_eq_true rfl) ?_
  have hT := Below.refl w.heap.size w
  refine e_seq fun K hK => ?_
  refine e_region_text rfl ?_
  refine q_assign rfl rfl ?_
  refine eseq_nil ?_
  refine hK _ _ ?_; clear hK
  refine e_seq fun K hK => ?_
  refine e_region_text rfl ?_
  refine q_move rfl rfl ?_
  refine q_nilCheck rfl rfl ?_
  refine q_field rfl rfl ?_
  refine q_field rfl rfl ?_
  refine q_field rfl rfl ?_
  refine q_load rfl (Blk.cell (hS.blk 0 rfl) rfl) rfl ?_
  refine q_move rfl rfl ?_
  first | refine q_indexn rfl rfl (by omega) rfl ?_ | refine q_index rfl rfl ⟨by omega, by omega⟩ rfl ?_
  refine q_load rfl (Blk.intAt (hS.blk 1 rfl) (by first | omega | (simp; omega))) rfl ?_
  refine q_geq rfl rfl rfl ?_
  refine q_assign rfl rfl ?_
  refine eseq_nil ?_
  refine hK _ _ ?_; clear hK
  refine e_ret ?_
  exact ⟨_, res1 rfl rfl, rfl, Below.refl _ _⟩
theorem event26 (h : Sep F R R w w (compParts n rule x c)) (hH : Held w R n x c) (hi : c.Inv n r m) (hn : n ≤ 100) (q : Nat) (hq : q < n) :
    Gives Try.prog 89 [.pointer (some ⟨x.B, 0, none⟩), .int .i64 q] w fun v w' => v = .int .i64 (nth c.lens q + 1) ∧ Sep F R R w w' (compParts n rule { x with ac := x.ac.set q { nth x.ac q with act := true } } { c with lens := c.lens.set q (nth c.lens q + 1), act := c.act.set q true }) ∧
      Held w' R n { x with ac := x.ac.set q { nth x.ac q with act := true } } { c with lens := c.lens.set q (nth c.lens q + 1), act := c.act.set q true } ∧ StepF (fun k => k = x.gP ∨ k = x.gL) w w' := by
  have hS := h
  simp only [compParts] at hS
  have g1 := hi.lens; have g7 := hi.act; have gl := hi.low q hq; have ga := hH.alen
  refine fn_of Try.func89 rfl Try.ntmps89 (Nat.le_of_ble_eq_true rfl) ?_
  have hT := Below.refl w.heap.size w
  refine e_seq fun K hK => ?_
  refine e_region_text rfl ?_
  refine q_assign rfl rfl ?_
  refine eseq_nil ?_
  refine hK _ _ ?_; clear hK
  refine e_seq fun K hK => ?_
  refine e_region_text rfl ?_
  refine q_move rfl rfl ?_
  refine q_nilCheck rfl rfl ?_
  refine q_field rfl rfl ?_
  refine q_load rfl (Blk.cell (hS.blk 0 rfl) rfl) rfl ?_
  refine q_move rfl rfl ?_
  first | refine q_indexn rfl rfl (by omega) rfl ?_ | refine q_index rfl rfl ⟨by omega, by omega⟩ rfl ?_
  refine q_field rfl rfl ?_
  refine q_storeOwn rfl rfl (hS.own 9 rfl) (by first | omega | (simp; omega)) rfl rfl rfl (fun _ h => h.elim) ({ nth x.ac q with act := true }) rfl fun w1 hw1 hO1 => ?_
  have hk1 := hS.keptOwnO 9 rfl hO1
  replace hH := hH.kept hk1
  replace hS := hS.putOwn 9 rfl hw1 hO1; simp only [List.set] at hS
  refine eseq_nil ?_
  refine hK _ _ ?_; clear hK
  refine e_seq fun K hK => ?_
  refine e_region_text rfl ?_
  refine q_move rfl rfl ?_
  refine q_nilCheck rfl rfl ?_
  refine q_field rfl rfl ?_
  refine q_field rfl rfl ?_
  refine q_field rfl rfl ?_
  refine q_load rfl (Blk.cell (hS.blk 0 rfl) rfl) rfl ?_
  refine q_move rfl rfl ?_
  first | refine q_indexn rfl rfl (by omega) rfl ?_ | refine q_index rfl rfl ⟨by omega, by omega⟩ rfl ?_
  refine q_load rfl (Blk.intAt (hS.blk 1 rfl) (by first | omega | (simp; omega))) rfl ?_
  refine q_add rfl rfl (wr64 (by omega) (by omega)) rfl ?_
  first | refine q_indexn rfl rfl (by omega) rfl ?_ | refine q_index rfl rfl ⟨by omega, by omega⟩ rfl ?_
  refine q_storeIx rfl rfl (hS.blk 1 rfl) (by first | omega | (simp; omega)) rfl fun w2 hb2 hO2 => ?_
  have hk2 := hS.keptBlk 1 rfl hO2
  replace hH := hH.kept hk2
  replace hS := hS.setBlk 1 rfl hb2 hO2; simp only [List.set] at hS
  refine eseq_nil ?_
  refine hK _ _ ?_; clear hK
  refine e_seq fun K hK => ?_
  refine e_region_text rfl ?_
  refine q_move rfl rfl ?_
  refine q_nilCheck rfl rfl ?_
  refine q_field rfl rfl ?_
  refine q_field rfl rfl ?_
  refine q_field rfl rfl ?_
  refine q_load rfl (Blk.cell (hS.blk 0 rfl) rfl) rfl ?_
  refine q_move rfl rfl ?_
  first | refine q_indexn rfl rfl (by omega) rfl ?_ | refine q_index rfl rfl ⟨by omega, by omega⟩ rfl ?_
  refine q_load rfl (Blk.intAt (hS.blk 1 rfl) (by first | omega | (simp; omega))) rfl ?_
  refine q_assign rfl rfl ?_
  refine eseq_nil ?_
  refine hK _ _ ?_; clear hK
  refine e_ret ?_
  rw [nth_setC (by omega), if_pos rfl]
  refine ⟨_, res1 rfl rfl, rfl, hS, ?_, (StepF.of_only hO1 (F := fun k => k = x.gP ∨ k = x.gL) (.inl rfl)).trans (StepF.of_only hO2 (F := fun k => k = x.gP ∨ k = x.gL) (.inr rfl)) fun i h _ => h⟩
  exact { hH with
    alen := by simpa using ga
    vec := fun i hi2 => by
      have := hH.vec i hi2
      simp only
      rw [nth_setC (by omega)]
      split
      · subst i; exact this
      · exact this
    sent := fun i hi2 => by
      have := hH.sent i hi2
      simp only
      rw [nth_setC (by omega)]
      split
      · subst i; exact this
      · exact this
    act := fun i hi2 => by
      have := hH.act i hi2
      simp only
      rw [nth_setC (by omega), nth_setC (by omega)]
      split
      · rfl
      · exact this }
end Go.Proofs.Ytbmjcbhappjnaaa
