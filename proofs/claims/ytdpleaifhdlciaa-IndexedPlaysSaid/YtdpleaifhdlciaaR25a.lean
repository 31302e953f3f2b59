/- The reference's computation of chapter 25 in memory; its checkpoint. -/
import Derived.Test.YtdpleaifhdlciaaDeeds
set_option linter.unusedSimpArgs false
set_option linter.unusedVariables false
namespace Go.Mine
open Go.RowKit
instance : Enc arcTy Arc.cells := ⟨fun _ _ _ _ => arcR⟩
instance : Enc letterTy Letter.cells := ⟨fun _ _ _ _ => letterR⟩
/-- the places of the parts -/
structure RN where
  B : Nat
  gL : Nat
  gC : Nat
  gK : Nat
  gF : Nat
  gT : Nat
  capC : Nat
  capK : Nat
  capF : Nat
  vsC : List Value
  vsK : List Value
  vsF : List Value
  jC : List Value
  jK : List Value
  jF : List Value
  vA : Value
  vG : Value
def runParts (n : Nat) (x : RN) (c : Comp) : List HP :=
  [HP.blk x.B [.slice (some ⟨x.gL, 0, none⟩) n n, .slice (some ⟨x.gC, 0, none⟩) n x.capC, x.vA, .slice (some ⟨x.gK, 0, none⟩) n x.capK, .slice none 0 0, .slice (some ⟨x.gF, 0, none⟩) n x.capF, .slice (some ⟨x.gT, 0, none⟩) n n, x.vG] 78,
   HP.blk x.gL (c.lens.map encI) 3,
   HP.blk x.gC (x.vsC ++ x.jC) 28, HP.fam Ty.int 3 x.vsC c.ckpts,
   HP.own arcTy (fun _ => False) 46 x.vA c.arcs,
   HP.blk x.gK (x.vsK ++ x.jK) 28, HP.fam Ty.int 3 x.vsK c.clocks,
   HP.blk x.gF (x.vsF ++ x.jF) 43, HP.fam Ty.bool 4 x.vsF c.forced,
   HP.blk x.gT (c.now.map encI) 3,
   HP.own letterTy (fun _ => False) 98 x.vG c.fly]
end Go.Mine
namespace Go.Proofs.Ytdpleaifhdlciaa
open Go.RowKit Go.Mine
attribute [local irreducible] eseq ewp
variable {w : World} {F R : Nat → Prop} {n : Nat} {x : RN} {c : Comp}

theorem ckptR25 (h : Sep F R R w w (runParts n x c)) (hg : c.Good n) (q : Nat) (hq : q < n) (f : Bool) (hcap : n ≤ x.capC ∧ n ≤ x.capK ∧ n ≤ x.capF) :
    Gives Try.prog 55 [.pointer (some ⟨x.B, 0, none⟩), .int .i64 q, .bool f] w fun v w' => v = .tuple #[] ∧ ∃ x', x'.B = x.B ∧ (n ≤ x'.capC ∧ n ≤ x'.capK ∧ n ≤ x'.capF) ∧ Sep F R R w w' (runParts n x' (c.checkpoint q f)) := by
  have hS := h
  simp only [runParts] at hS
  have g1 := hg.lens; have g2 := hg.ckpts; have g3 := hg.clocks; have g4 := hg.forced; have g5 := hg.now
  obtain ⟨hq1, hq2, hq3, hq4⟩ := hg.rows q hq
  have l2 := hS.famLen 3 rfl; have l3 := hS.famLen 6 rfl; have l4 := hS.famLen 8 rfl
  refine fn_of Try.func55 rfl Try.ntmps55 (Nat.le_of_ble_eq_true rfl) ?_
  have hT := Below.refl w.heap.size w
  have hix : (((nth c.ckpts q).length : Int) - 1).toNat = (nth c.ckpts q).length - 1 := by omega
  refine e_seq fun K hK => ?_
  refine e_region_text rfl ?_
  refine q_move rfl rfl ?_
  refine q_nilCheck rfl rfl ?_
  refine q_field rfl rfl ?_
  refine q_field rfl rfl ?_
  refine q_assign rfl rfl ?_
  refine eseq_nil ?_
  refine hK _ _ ?_; clear hK
  refine e_seq fun K hK => ?_
  refine e_region_text rfl ?_
  refine q_move rfl rfl ?_
  refine q_nilCheck rfl rfl ?_
  refine q_field rfl rfl ?_
  refine q_load rfl (Blk.cell (hS.blk 0 rfl) rfl) rfl ?_
  refine q_move rfl rfl ?_
  first | refine q_indexn rfl rfl (by omega) rfl ?_ | refine q_index rfl rfl ⟨by omega, by omega⟩ rfl ?_
  refine q_load rfl (Blk.rowAt (hS.blk 2 rfl) (by omega)) rfl ?_
  refine q_lenS rfl (hS.famReads 3 rfl q (by omega)) rfl ?_
  refine q_sub rfl rfl (wr64 (by omega) (by omega)) rfl ?_
  refine q_assign rfl rfl ?_
  refine eseq_nil ?_
  refine hK _ _ ?_; clear hK
  refine e_seq fun K hK => ?_
  refine e_seq fun K hK => ?_
  refine e_region_draw mixed (fun _ => False) [0, 1, 3, 7, 0, 31, 63, 0, 255, 511, 0, 1024, 3072, 7168, 0, 31744, 64512, 131071] [] [0, 1, 2, 3, 4, 5, 6, 7, 8, 9, 10, 11, 12, 13, 14, 15, 16, 17] (by kernel_rfl) ?_
  refine q_move rfl rfl ?_
  refine q_nilCheck rfl rfl ?_
  refine q_field rfl rfl ?_
  refine q_load rfl (Blk.cell (hS.blk 0 rfl) rfl) rfl ?_
  refine q_move rfl rfl ?_
  first | refine q_indexn rfl rfl (by omega) rfl ?_ | refine q_index rfl rfl ⟨by omega, by omega⟩ rfl ?_
  refine q_load rfl (Blk.rowAt (hS.blk 2 rfl) (by omega)) rfl ?_
  refine q_move rfl rfl ?_
  first | refine q_indexSn (by infer_instance) rfl (hS.famReads 3 rfl q (by omega)) rfl (by first | omega | decide) rfl fun b29 o29 f29 => ?_ | refine q_indexS (by infer_instance) rfl (hS.famReads 3 rfl q (by omega)) rfl (by first | omega | decide) (by first | omega | decide) rfl fun b29 o29 f29 => ?_
  refine q_load rfl (El.intCell f29) rfl ?_
  refine q_move rfl rfl ?_
  refine q_nilCheck rfl rfl ?_
  refine q_field rfl rfl ?_
  refine q_load rfl (Blk.cell (hS.blk 0 rfl) rfl) rfl ?_
  refine q_move rfl rfl ?_
  first | refine q_indexn rfl rfl (by omega) rfl ?_ | refine q_index rfl rfl ⟨by omega, by omega⟩ rfl ?_
  refine q_load rfl (Blk.intAt (hS.blk 1 rfl) (by first | omega | (simp; omega))) rfl ?_
  refine q_eql rfl rfl rfl ?_
  refine eseq_nil ?_
  refine hK _ _ ?_; clear hK
  refine e_cond rfl (fun hb1 => ?_) (fun hb1 => ?_)
  · skip
    rw [hix] at hb1
    have hcond : nth (nth c.ckpts q) ((nth c.ckpts q).length - 1) = nth c.lens q := by simpa using hb1
    obtain ⟨gr, cr, cur, hur, hbr, hcl⟩ := (hS.famOwn 6 rfl q (by omega)).form (by omega)
    refine e_seq fun K hK => ?_
    refine e_region_draw mixed (fun _ => False) [0, 1, 3, 7, 15, 0, 63, 127, 0, 0, 512, 1536, 3584, 0, 15872, 32256, 65535, 131071] [] [0, 1, 2, 3, 4, 5, 6, 7, 8, 9, 10, 11, 12, 13, 14, 15, 16, 17] (by kernel_rfl) ?_
    refine q_move rfl rfl ?_
    refine q_nilCheck rfl rfl ?_
    refine q_field rfl rfl ?_
    refine q_field rfl rfl ?_
    refine q_load rfl (Blk.cell (hS.blk 0 rfl) rfl) rfl ?_
    refine q_move rfl rfl ?_
    first | refine q_indexn rfl rfl (by omega) rfl ?_ | refine q_index rfl rfl ⟨by omega, by omega⟩ rfl ?_
    refine q_load rfl (Blk.rowAt (hS.blk 5 rfl) (by omega)) rfl ?_
    rw [hur]
    refine q_move rfl rfl ?_
    refine q_move rfl rfl ?_
    refine q_nilCheck rfl rfl ?_
    refine q_field rfl rfl ?_
    refine q_load rfl (Blk.cell (hS.blk 0 rfl) rfl) rfl ?_
    refine q_move rfl rfl ?_
    first | refine q_indexn rfl rfl (by omega) rfl ?_ | refine q_index rfl rfl ⟨by omega, by omega⟩ rfl ?_
    refine q_load rfl (Blk.intAt (hS.blk 9 rfl) (by first | omega | (simp; omega))) rfl ?_
    first | refine q_indexn rfl rfl (by omega) rfl ?_ | refine q_index rfl rfl ⟨by omega, by omega⟩ rfl ?_
    rw [hix]
    have how := hS.famOwn 6 rfl q (by omega)
    rw [hur] at how
    refine q_storeOwn (j := 0) rfl rfl how (by omega) rfl rfl rfl (fun _ h => h.elim) (nth c.now q) rfl fun w1 hw1 hO1 => ?_
    replace hS := hS.famCell 6 rfl q (by omega) hur hw1 hO1; simp only [List.set] at hS
    refine eseq_nil ?_
    refine hK _ _ ?_; clear hK
    refine e_ret ?_
    refine ⟨_, res0 rfl, rfl, x, rfl, hcap, ?_⟩
    rw [Comp.checkpoint, if_pos hcond]
    exact hS
  · skip
    rw [hix] at hb1
    have hcond : ¬ nth (nth c.ckpts q) ((nth c.ckpts q).length - 1) = nth c.lens q := by simpa using hb1
    have n1 := hS.famNot 3 0 rfl rfl (by decide) q (by omega)
    have n2 := hS.famNot 3 1 rfl rfl (by decide) q (by omega)
    have n3 := hS.famNot 3 2 rfl rfl (by decide) q (by omega)
    have m1 := hS.famNot 6 0 rfl rfl (by decide) q (by omega)
    have m2 := hS.famNot 6 9 rfl rfl (by decide) q (by omega)
    have m3 := hS.famNot 6 5 rfl rfl (by decide) q (by omega)
    have k1 := hS.famNot 8 0 rfl rfl (by decide) q (by omega)
    have k3 := hS.famNot 8 7 rfl rfl (by decide) q (by omega)
    refine e_skip ?_
    refine hK _ _ ?_; clear hK
    refine e_seq fun K hK => ?_
    refine e_region_draw mixed (fun k => (nth x.vsC q).ownBlock = some k) [0, 1, 3, 7, 0, 0, 32, 96, 224, 0, 992, 2016, 0, 4096, 12288, 28672, 0, 126976, 258048, 520192, 1048544, 2097151, 4194303] [19, 20] [0, 1, 2, 3, 4, 5, 6, 7, 8, 9, 10, 11, 12, 13, 14, 15, 16, 17, 18, 19, 20, 21, 22] (by kernel_rfl) ?_
    refine q_move rfl rfl ?_
    refine q_nilCheck rfl rfl ?_
    refine q_field rfl rfl ?_
    refine q_load rfl (Blk.cell (hS.blk 0 rfl) rfl) rfl ?_
    refine q_move rfl rfl ?_
    refine q_move rfl rfl ?_
    refine q_nilCheck rfl rfl ?_
    refine q_field rfl rfl ?_
    refine q_load rfl (Blk.cell (hS.blk 0 rfl) rfl) rfl ?_
    refine q_move rfl rfl ?_
    first | refine q_indexn rfl rfl (by omega) rfl ?_ | refine q_index rfl rfl ⟨by omega, by omega⟩ rfl ?_
    refine q_load rfl (Blk.rowAt (hS.blk 2 rfl) (by omega)) rfl ?_
    refine q_move rfl rfl ?_
    refine q_nilCheck rfl rfl ?_
    refine q_field rfl rfl ?_
    refine q_load rfl (Blk.cell (hS.blk 0 rfl) rfl) rfl ?_
    refine q_move rfl rfl ?_
    first | refine q_indexn rfl rfl (by omega) rfl ?_ | refine q_index rfl rfl ⟨by omega, by omega⟩ rfl ?_
    refine q_load rfl (Blk.intAt (hS.blk 1 rfl) (by first | omega | (simp; omega))) rfl ?_
    refine q_slice1 rfl rfl rfl rfl rfl rfl fun w1 bl1 hg1 hb1 hB1 => ?_
    replace hS := hS.below hB1
    refine q_append1 (u := (nth c.lens q)) rfl rfl rfl rfl (hS.famOwn 3 rfl q (by omega)) rfl hb1 (rfl) (by omega) (Nat.zero_le _) rfl (fun _ k hk => hk) fun v76 w2 hw2 hgr2 hnw2 => ?_
    have hk2 := hS.famKept 3 rfl q (by omega) hgr2
    replace hS := hS.famSet 3 rfl q (by omega) hw2 hgr2 hnw2; simp only [List.set] at hS
    first | refine q_indexn rfl rfl (by omega) rfl ?_ | refine q_index rfl rfl ⟨by omega, by omega⟩ rfl ?_
    refine q_storeRow rfl rfl (hS.blk 2 rfl) (by first | omega | (simp; omega)) hw2.one rfl fun w3 hb3 hO3 => ?_
    have hk3 := hS.keptBlk 2 rfl hO3
    replace hS := hS.setBlk 2 rfl hb3 hO3; simp only [List.set] at hS
    refine eseq_nil ?_
    refine hK _ _ ?_; clear hK
    refine e_seq fun K hK => ?_
    refine e_region_draw mixed (fun k => (nth x.vsK q).ownBlock = some k) [0, 1, 3, 7, 15, 0, 0, 64, 192, 448, 960, 0, 4032, 8128, 0, 16384, 49152, 114688, 0, 507904, 1032192, 2080768, 4194240, 8388607, 16777215] [21, 22] [0, 1, 2, 3, 4, 5, 6, 7, 8, 9, 10, 11, 12, 13, 14, 15, 16, 17, 18, 19, 20, 21, 22, 23, 24] (by kernel_rfl) ?_
    refine q_move rfl rfl ?_
    refine q_nilCheck rfl rfl ?_
    refine q_field rfl rfl ?_
    refine q_field rfl rfl ?_
    refine q_load rfl (Blk.cell (hS.blk 0 rfl) rfl) rfl ?_
    refine q_move rfl rfl ?_
    refine q_move rfl rfl ?_
    refine q_nilCheck rfl rfl ?_
    refine q_field rfl rfl ?_
    refine q_field rfl rfl ?_
    refine q_load rfl (Blk.cell (hS.blk 0 rfl) rfl) rfl ?_
    refine q_move rfl rfl ?_
    first | refine q_indexn rfl rfl (by omega) rfl ?_ | refine q_index rfl rfl ⟨by omega, by omega⟩ rfl ?_
    refine q_load rfl (Blk.rowAt (hS.blk 5 rfl) (by omega)) rfl ?_
    refine q_move rfl rfl ?_
    refine q_nilCheck rfl rfl ?_
    refine q_field rfl rfl ?_
    refine q_load rfl (Blk.cell (hS.blk 0 rfl) rfl) rfl ?_
    refine q_move rfl rfl ?_
    first | refine q_indexn rfl rfl (by omega) rfl ?_ | refine q_index rfl rfl ⟨by omega, by omega⟩ rfl ?_
    refine q_load rfl (Blk.intAt (hS.blk 9 rfl) (by first | omega | (simp; omega))) rfl ?_
    refine q_slice1 rfl rfl rfl rfl rfl rfl fun w4 bl4 hg4 hb4 hB4 => ?_
    replace hS := hS.below hB4
    refine q_append1 (u := (nth c.now q)) rfl rfl rfl rfl (hS.famOwn 6 rfl q (by omega)) rfl hb4 (rfl) (by omega) (Nat.zero_le _) rfl (fun _ k hk => hk) fun v100 w5 hw5 hgr5 hnw5 => ?_
    have hk5 := hS.famKept 6 rfl q (by omega) hgr5
    replace hS := hS.famSet 6 rfl q (by omega) hw5 hgr5 hnw5; simp only [List.set] at hS
    first | refine q_indexn rfl rfl (by omega) rfl ?_ | refine q_index rfl rfl ⟨by omega, by omega⟩ rfl ?_
    refine q_storeRow rfl rfl (hS.blk 5 rfl) (by first | omega | (simp; omega)) hw5.one rfl fun w6 hb6 hO6 => ?_
    have hk6 := hS.keptBlk 5 rfl hO6
    replace hS := hS.setBlk 5 rfl hb6 hO6; simp only [List.set] at hS
    refine eseq_nil ?_
    refine hK _ _ ?_; clear hK
    refine e_region_draw mixed (fun k => (nth x.vsF q).ownBlock = some k) [0, 1, 3, 7, 15, 0, 0, 64, 192, 448, 960, 0, 4032, 8128, 0, 16384, 65472, 131071, 262143] [15, 16] [0, 1, 2, 3, 4, 5, 6, 7, 8, 9, 10, 11, 12, 13, 14, 15, 16, 17, 18] (by kernel_rfl) ?_
    refine q_move rfl rfl ?_
    refine q_nilCheck rfl rfl ?_
    refine q_field rfl rfl ?_
    refine q_field rfl rfl ?_
    refine q_load rfl (Blk.cell (hS.blk 0 rfl) rfl) rfl ?_
    refine q_move rfl rfl ?_
    refine q_move rfl rfl ?_
    refine q_nilCheck rfl rfl ?_
    refine q_field rfl rfl ?_
    refine q_field rfl rfl ?_
    refine q_load rfl (Blk.cell (hS.blk 0 rfl) rfl) rfl ?_
    refine q_move rfl rfl ?_
    first | refine q_indexn rfl rfl (by omega) rfl ?_ | refine q_index rfl rfl ⟨by omega, by omega⟩ rfl ?_
    refine q_load rfl (Blk.rowAt (hS.blk 7 rfl) (by omega)) rfl ?_
    refine q_move rfl rfl ?_
    refine q_slice1 rfl rfl rfl rfl rfl rfl fun w7 bl7 hg7 hb7 hB7 => ?_
    replace hS := hS.below hB7
    refine q_append1 (u := f) rfl rfl rfl rfl (hS.famOwn 8 rfl q (by omega)) rfl hb7 (rfl) (by omega) (Nat.zero_le _) rfl (fun _ k hk => hk) fun v118 w8 hw8 hgr8 hnw8 => ?_
    have hk8 := hS.famKept 8 rfl q (by omega) hgr8
    replace hS := hS.famSet 8 rfl q (by omega) hw8 hgr8 hnw8; simp only [List.set] at hS
    first | refine q_indexn rfl rfl (by omega) rfl ?_ | refine q_index rfl rfl ⟨by omega, by omega⟩ rfl ?_
    refine q_storeRow rfl rfl (hS.blk 7 rfl) (by first | omega | (simp; omega)) hw8.one rfl fun w9 hb9 hO9 => ?_
    have hk9 := hS.keptBlk 7 rfl hO9
    replace hS := hS.setBlk 7 rfl hb9 hO9; simp only [List.set] at hS
    refine eseq_nil ?_
    refine ⟨_, res0 rfl, rfl, { x with vsC := x.vsC.set q v76, vsK := x.vsK.set q v100, vsF := x.vsF.set q v118 }, rfl, hcap, ?_⟩
    rw [Comp.checkpoint, if_neg hcond]
    exact hS
end Go.Proofs.Ytdpleaifhdlciaa
