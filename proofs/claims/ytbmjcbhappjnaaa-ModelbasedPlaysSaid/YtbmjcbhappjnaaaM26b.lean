/- The checkpoint of the computation of chapter 26. -/
import Derived.Test.YtbmjcbhappjnaaaM26a
set_option linter.unusedSimpArgs false
set_option linter.unusedVariables false
namespace Go.Mine
open Go.RowKit
theorem Sep.famNotO {F R0 R : Nat → Prop} {w0 w : World} {cs : List HP} {α β : Type} {T : Ty α} {T' : Ty β} {S S' : Nat → Prop} {e e' : TypeId} {vs : List Value} {xss : List (List α)} {ys : List β} {g k cap : Nat} (h : Sep F R0 R w0 w cs) (i j : Nat) (hi : cs[i]? = some (HP.famS T S e vs xss)) (hj : cs[j]? = some (HP.own T' S' e' (.slice (some ⟨g, 0, none⟩) k cap) ys)) (hne : i ≠ j) (q : Nat) (hq : q < xss.length) : ¬ (nth vs q).ownBlock = some g := fun he =>
  h.apart i j hi hj hne g ⟨q, nth vs q, some_nth (by rw [h.famLen i hi]; exact hq), he⟩ rfl
theorem feet_nil {w w' : World} (h : StepF (feet []) w w') : Below w.heap.size w w' := (h.mono fun k ⟨c, hc, _⟩ => (by cases hc)).below
end Go.Mine
namespace Go.Proofs.Ytbmjcbhappjnaaa
open Go.RowKit Go.Mine
attribute [local irreducible] eseq ewp nth
variable {w : World} {F R : Nat → Prop} {n r m : Nat} {rule : Int} {x : CN} {c : C26}
def CompTo (F R : Nat → Prop) (n : Nat) (rule : Int) (x : CN) (w w' : World) (c : C26) : Prop := ∃ R1 x', x'.B = x.B ∧ x'.gP = x.gP ∧ Sep F R R1 w w' (compParts n rule x' c) ∧ Held w' R1 n x' c

theorem checkpoint26 (h : Sep F R R w w (compParts n rule x c)) (hH : Held w R n x c) (hi : c.Inv n r m) (hr : r ≤ 100000) (hm : m ≤ 100000) (hn : n ≤ 100) (q : Nat) (hq : q < n) (f : Bool) :
    Gives Try.prog 47 [.pointer (some ⟨x.B, 0, none⟩), .int .i64 q, .bool f] w fun v w' => v = .tuple #[] ∧ CompTo F R n rule x w w' (c.checkpoint q f) := by
  have hS := h
  simp only [compParts] at hS
  have g1 := Nat.le_of_eq hi.lens.symm; have g2 := Nat.le_of_eq hi.ckpts.symm; have g3 := Nat.le_of_eq hi.vecs.symm; have g4 := Nat.le_of_eq hi.forced.symm; have g5 := Nat.le_of_eq hi.now.symm; have g6 := Nat.le_of_eq hi.sent.symm; have g7 := Nat.le_of_eq hi.act.symm; have gl := hi.low q hq; have ga := Nat.le_of_eq hH.alen.symm; have gv := Nat.le_of_eq hH.vlen.symm
  have l2 := Nat.le_of_eq (hS.famLen 3 rfl).symm; have l3 := Nat.le_of_eq (hS.famLen 6 rfl).symm; have l4 := Nat.le_of_eq (hS.famLen 8 rfl).symm
  obtain ⟨hq1, hq2, hq3, hq4⟩ := hi.rows q hq
  obtain ⟨hv1, hv2⟩ := hi.vec q hq
  have hq5 := Nat.le_of_eq hq3; have hq6 := Nat.le_of_eq hq4; clear hq3 hq4
  have hvq := hv2 q hq
  have hvl := (hH.vecs q hq).len
  have n1 := hS.famNot 3 0 rfl rfl (by decide) q (by omega)
  have n2 := hS.famNot 3 1 rfl rfl (by decide) q (by omega)
  have n3 := hS.famNot 3 2 rfl rfl (by decide) q (by omega)
  have m1 := hS.famNot 6 0 rfl rfl (by decide) q (by omega)
  have m2 := hS.famNot 6 5 rfl rfl (by decide) q (by omega)
  have m3 := hS.famNotO 6 9 rfl rfl (by decide) q (by omega)
  have k1 := hS.famNot 8 0 rfl rfl (by decide) q (by omega)
  have k3 := hS.famNot 8 7 rfl rfl (by decide) q (by omega)
  refine fn_of Try.func47 rfl Try.ntmps47 (Nat.le_of_ble_eq_true rfl) ?_
  have hT := Below.refl w.heap.size w
  refine e_seq fun K hK => ?_
  refine e_region_text rfl ?_
  refine q_move rfl rfl ?_
  refine q_nilCheck rfl rfl ?_
  refine q_field rfl rfl ?_
  refine q_load rfl (Blk.cell (hS.blk 0 rfl) rfl) rfl ?_
  refine q_move rfl rfl ?_
  first | refine q_indexn rfl rfl (by omega) rfl ?_ | refine q_index rfl rfl ⟨by omega, by omega⟩ rfl ?_
  refine q_assign rfl rfl ?_
  refine eseq_nil ?_
  refine hK _ _ ?_; clear hK
  refine e_seq fun K hK => ?_
  refine e_region_draw mixed (fun k => (nth x.vsC q).ownBlock = some k) [0, 1, 3, 7, 15, 31, 0, 0, 128, 384, 896, 1920, 3968, 0, 16256, 32640, 0, 65536, 196608, 458752, 983040, 2031616, 0, 8323072, 16711680, 33488896, 67108736, 134217727, 268435455] [25, 26] [0, 1, 2, 3, 4, 5, 6, 7, 8, 9, 10, 11, 12, 13, 14, 15, 16, 17, 18, 19, 20, 21, 22, 23, 24, 25, 26, 27, 28] (by kernel_rfl) ?_
  refine q_move rfl rfl ?_
  refine q_nilCheck rfl rfl ?_
  refine q_field rfl rfl ?_
  refine q_field rfl rfl ?_
  refine q_field rfl rfl ?_
  refine q_load rfl (Blk.cell (hS.blk 0 rfl) rfl) rfl ?_
  refine q_move rfl rfl ?_
  refine q_move rfl rfl ?_
  refine q_nilCheck rfl rfl ?_
  refine q_field rfl rfl ?_
  refine q_field rfl rfl ?_
  refine q_field rfl rfl ?_
  refine q_load rfl (Blk.cell (hS.blk 0 rfl) rfl) rfl ?_
  refine q_move rfl rfl ?_
  first | refine q_indexn rfl rfl (by omega) rfl ?_ | refine q_index rfl rfl ⟨by omega, by omega⟩ rfl ?_
  refine q_load rfl (Blk.rowAt (hS.blk 2 rfl) (by omega)) rfl ?_
  refine q_move rfl rfl ?_
  refine q_nilCheck rfl rfl ?_
  refine q_field rfl rfl ?_
  refine q_field rfl rfl ?_
  refine q_field rfl rfl ?_
  refine q_load rfl (Blk.cell (hS.blk 0 rfl) rfl) rfl ?_
  refine q_move rfl rfl ?_
  first | refine q_indexn rfl rfl (by omega) rfl ?_ | refine q_index rfl rfl ⟨by omega, by omega⟩ rfl ?_
  refine q_load rfl (Blk.intAt (hS.blk 1 rfl) (by first | omega | (simp; omega))) rfl ?_
  refine q_slice1 rfl rfl rfl rfl rfl rfl fun w1 bl1 hg1 hb1 hB1 => ?_
  replace hH := hH.ext hB1
  replace hS := hS.below hB1
  refine q_append1 (u := (nth c.lens q)) rfl rfl rfl rfl (hS.famOwn 3 rfl q (by omega)) rfl hb1 (rfl) (by omega) (Nat.zero_le _) rfl (fun _ k hk => hk) fun v39 w2 hw2 hgr2 hnw2 => ?_
  have hk2 := hS.famKept 3 rfl q (by omega) hgr2
  replace hH := hH.kept hk2
  replace hS := hS.famSet 3 rfl q (by omega) hw2 hgr2 hnw2; simp only [List.set] at hS
  first | refine q_indexn rfl rfl (by omega) rfl ?_ | refine q_index rfl rfl ⟨by omega, by omega⟩ rfl ?_
  refine q_storeRow rfl rfl (hS.blk 2 rfl) (by first | omega | (simp; omega)) hw2.one rfl fun w3 hb3 hO3 => ?_
  have hk3 := hS.keptBlk 2 rfl hO3
  replace hH := hH.kept hk3
  replace hS := hS.setBlk 2 rfl hb3 hO3; simp only [List.set] at hS
  refine eseq_nil ?_
  refine hK _ _ ?_; clear hK
  refine e_seq fun K hK => ?_
  refine e_region_draw mixed (fun k => (nth x.vsV q).ownBlock = some k) [0, 1, 3, 7, 15, 0, 0, 64, 192, 448, 960, 0, 4032, 8128, 0, 16384, 49152, 114688, 245760, 507904, 1048512, 2097151, 4194303] [18, 19, 20] [0, 1, 2, 3, 4, 5, 6, 7, 8, 9, 10, 11, 12, 13, 14, 15, 16, 17, 18, 19, 20, 21, 22] (by kernel_rfl) ?_
  refine q_move rfl rfl ?_
  refine q_nilCheck rfl rfl ?_
  refine q_field rfl rfl ?_
  refine q_field rfl rfl ?_
  refine q_load rfl (Blk.cell (hS.blk 0 rfl) rfl) rfl ?_
  refine q_move rfl rfl ?_
  refine q_move rfl rfl ?_
  refine q_nilCheck rfl rfl ?_
  refine q_field rfl rfl ?_
  refine q_field rfl rfl ?_
  refine q_load rfl (Blk.cell (hS.blk 0 rfl) rfl) rfl ?_
  refine q_move rfl rfl ?_
  first | refine q_indexn rfl rfl (by omega) rfl ?_ | refine q_index rfl rfl ⟨by omega, by omega⟩ rfl ?_
  refine q_load rfl (Blk.rowAt (hS.blk 5 rfl) (by omega)) rfl ?_
  refine q_move rfl rfl ?_
  refine q_nilCheck rfl rfl ?_
  refine q_field rfl rfl ?_
  refine q_load rfl (Own.cellAt (hS.own 9 rfl) _ 0 (by first | omega | (simp; omega)) rfl) rfl ?_
  refine q_call rfl (clone26 (Sep.enter (As := []) hS) (hH.vec q hq) (by omega)) rfl ?_
  rintro v59 wc hC; refine ⟨fun _ => .of_below (feet_nil hC.step), ?_⟩
  have hkc := hC.keptR (Sep.offFeet (As := []) hS)
  replace hH := hH.kept hkc
  replace hS := Sep.leave (As := []) hS hC
  simp only [List.cons_append, List.nil_append] at hS
  have ho := hS.own 0 rfl
  obtain ⟨R1, hS, hm1, hf1⟩ := hS.freezeO 0 rfl; simp only [List.eraseIdx] at hS
  replace hH := hH.mono fun k hk _ => hm1 k hk
  have hw1 : IsSlice Ty.int wc R1 v59 (nth c.now q) := (Own.reads ho).mono fun k hk _ => hk.elim (fun h => h.elim) (fun h => hf1 k h)
  refine q_slice1 rfl (cells_one hw1.one) rfl rfl rfl rfl fun w4 bl4 hg4 hb4 hB4 => ?_
  replace hH := hH.ext hB4
  replace hw1 := hw1.ext hB4
  replace hS := hS.below hB4
  refine q_append1 (u := (⟨v59, hw1.one⟩ : Cell)) rfl rfl rfl rfl (hS.famOwn 6 rfl q (by omega)) rfl hb4 (rfl) (by omega) (Nat.zero_le _) rfl (fun _ k hk => hk) fun v61 w5 hw5 hgr5 hnw5 => ?_
  have hk5 := hS.famKept 6 rfl q (by omega) hgr5
  replace hH := hH.kept hk5
  replace hw1 := hw1.kept hk5
  replace hS := hS.famSet 6 rfl q (by omega) hw5 hgr5 hnw5; simp only [List.set] at hS
  first | refine q_indexn rfl rfl (by omega) rfl ?_ | refine q_index rfl rfl ⟨by omega, by omega⟩ rfl ?_
  refine q_storeRow rfl rfl (hS.blk 5 rfl) (by first | omega | (simp; omega)) hw5.one rfl fun w6 hb6 hO6 => ?_
  have hk6 := hS.keptBlk 5 rfl hO6
  replace hH := hH.kept hk6
  replace hw1 := hw1.kept hk6
  replace hS := hS.setBlk 5 rfl hb6 hO6; simp only [List.set] at hS
  refine eseq_nil ?_
  refine hK _ _ ?_; clear hK
  refine e_seq fun K hK => ?_
  refine e_region_draw mixed (fun k => (nth x.vsF q).ownBlock = some k) [0, 1, 3, 7, 15, 0, 0, 64, 192, 448, 960, 0, 4032, 8128, 0, 16384, 65472, 131071, 262143] [15, 16] [0, 1, 2, 3, 4, 5, 6, 7, 8, 9, 10, 11, 12, 13, 14, 15, 16, 17, 18] (by kernel_rfl) ?_
  refine q_move rfl rfl ?_
  refine q_nilCheck rfl rfl ?_
  refine q_field rfl rfl ?_
  refine q_field rfl rfl ?_
  refine q_load rfl (Blk.cell (hS.blk 0 rfl) rfl) rfl ?_
  refine q_move rfl rfl ?_
  refine q_move rfl rfl ?_
  refine q_nilCheck rfl rfl ?_
  refine q_field rfl rfl ?_
  refine q_field rfl rfl ?_
  refine q_load rfl (Blk.cell (hS.blk 0 rfl) rfl) rfl ?_
  refine q_move rfl rfl ?_
  first | refine q_indexn rfl rfl (by omega) rfl ?_ | refine q_index rfl rfl ⟨by omega, by omega⟩ rfl ?_
  refine q_load rfl (Blk.rowAt (hS.blk 7 rfl) (by omega)) rfl ?_
  refine q_move rfl rfl ?_
  refine q_slice1 rfl rfl rfl rfl rfl rfl fun w7 bl7 hg7 hb7 hB7 => ?_
  replace hH := hH.ext hB7
  replace hw1 := hw1.ext hB7
  replace hS := hS.below hB7
  refine q_append1 (u := f) rfl rfl rfl rfl (hS.famOwn 8 rfl q (by omega)) rfl hb7 (rfl) (by omega) (Nat.zero_le _) rfl (fun _ k hk => hk) fun v79 w8 hw8 hgr8 hnw8 => ?_
  have hk8 := hS.famKept 8 rfl q (by omega) hgr8
  replace hH := hH.kept hk8
  replace hw1 := hw1.kept hk8
  replace hS := hS.famSet 8 rfl q (by omega) hw8 hgr8 hnw8; simp only [List.set] at hS
  first | refine q_indexn rfl rfl (by omega) rfl ?_ | refine q_index rfl rfl ⟨by omega, by omega⟩ rfl ?_
  refine q_storeRow rfl rfl (hS.blk 7 rfl) (by first | omega | (simp; omega)) hw8.one rfl fun w9 hb9 hO9 => ?_
  have hk9 := hS.keptBlk 7 rfl hO9
  replace hH := hH.kept hk9
  replace hw1 := hw1.kept hk9
  replace hS := hS.setBlk 7 rfl hb9 hO9; simp only [List.set] at hS
  refine eseq_nil ?_
  refine hK _ _ ?_; clear hK
  refine e_seq fun K hK => ?_
  refine e_region_text rfl ?_
  refine q_move rfl rfl ?_
  refine q_move rfl rfl ?_
  refine q_nilCheck rfl rfl ?_
  refine q_field rfl rfl ?_
  refine q_load rfl (Own.cellAt (hS.own 9 rfl) _ 0 (by first | omega | (simp; omega)) rfl) rfl ?_
  refine q_call rfl (clone26 (Sep.enter (As := []) hS) (hH.vec q hq) (by omega)) rfl ?_
  rintro v86 wd hD; refine ⟨fun _ => .of_below (feet_nil hD.step), ?_⟩
  have hkd := hD.keptR (Sep.offFeet (As := []) hS)
  replace hH := hH.kept hkd
  replace hw1 := hw1.kept hkd
  replace hS := Sep.leave (As := []) hS hD
  simp only [List.cons_append, List.nil_append] at hS
  obtain ⟨g, cap, cur, hv, -, -⟩ := (hS.own 0 rfl).form (by omega)
  subst hv
  refine q_nilCheck rfl rfl ?_
  refine q_field rfl rfl ?_
  refine q_storeOwn rfl rfl (hS.own 10 rfl) (by first | omega | (simp; omega)) rfl (hS.own 0 rfl).one rfl (fun _ h => h.elim) ({ nth x.ac q with vec := ⟨.slice (some ⟨g, 0, none⟩) (nth c.now q).length cap, rfl⟩ }) rfl fun w10 hw10 hO10 => ?_
  have hk10 := hS.keptOwnO 10 rfl hO10
  replace hH := hH.kept hk10
  replace hw1 := hw1.kept hk10
  replace hS := hS.putOwn 10 rfl hw10 hO10; simp only [List.set] at hS
  refine eseq_nil ?_
  refine hK _ _ ?_; clear hK
  refine e_seq fun K hK => ?_
  refine e_region_text rfl ?_
  refine q_move rfl rfl ?_
  refine q_nilCheck rfl rfl ?_
  refine q_field rfl rfl ?_
  refine q_load rfl (Own.cellAt (hS.own 10 rfl) _ 0 (by first | omega | (simp; omega)) rfl) rfl ?_
  have e1 : nth (x.ac.set q { nth x.ac q with vec := ⟨.slice (some ⟨g, 0, none⟩) (nth c.now q).length cap, rfl⟩ }) q = { nth x.ac q with vec := ⟨.slice (some ⟨g, 0, none⟩) (nth c.now q).length cap, rfl⟩ } := by rw [nth_setC (by omega), if_pos rfl]
  rw [e1]
  refine q_move rfl rfl ?_
  first | refine q_indexn rfl rfl (by omega) rfl ?_ | refine q_index rfl rfl ⟨by omega, by omega⟩ rfl ?_
  refine q_load rfl (Own.cellAt (hS.own 0 rfl) q 0 (by omega) rfl) rfl ?_
  refine q_add rfl rfl (wr64 (by omega) (by omega)) rfl ?_
  first | refine q_indexn rfl rfl (by omega) rfl ?_ | refine q_index rfl rfl ⟨by omega, by omega⟩ rfl ?_
  refine q_storeOwn (i := q) (j := 0) rfl rfl (hS.own 0 rfl) (by omega) rfl rfl rfl (fun _ h => h.elim) (nth (nth c.now q) q + 1) rfl fun ws hws hOs => ?_
  have hks := hS.keptOwnO 0 rfl hOs
  replace hH := hH.kept hks
  replace hw1 := hw1.kept hks
  replace hS := hS.putOwn 0 rfl hws hOs; simp only [List.set] at hS
  have ho2 := hS.own 0 rfl
  obtain ⟨R2, hS, hm2, hf2⟩ := hS.freezeO 0 rfl; simp only [List.eraseIdx] at hS
  replace hH := hH.mono fun k hk _ => hm2 k hk
  replace hw1 := hw1.mono fun k hk _ => hm2 k hk
  have hw2 : IsSlice Ty.int ws R2 (.slice (some ⟨g, 0, none⟩) (nth c.now q).length cap) (bumpV (nth c.now q) q) := (Own.reads ho2).mono fun k hk _ => hk.elim (fun h => h.elim) (fun h => hf2 k h)
  obtain ⟨ac1, hac1⟩ : ∃ l, l = x.ac.set q { nth x.ac q with vec := ⟨.slice (some ⟨g, 0, none⟩) (nth c.now q).length cap, rfl⟩ } := ⟨_, rfl⟩
  rw [← hac1] at hS e1
  have hal0 : ac1.length = n := by rw [hac1]; simpa using hH.alen
  have hal1 := Nat.le_of_eq hal0.symm
  refine eseq_nil ?_
  refine hK _ _ ?_; clear hK
  refine e_region_text rfl ?_
  refine q_move rfl rfl ?_
  refine q_move rfl rfl ?_
  refine q_nilCheck rfl rfl ?_
  refine q_field rfl rfl ?_
  refine q_storeOwn rfl rfl (hS.own 9 rfl) (by first | omega | (simp; omega)) rfl rfl rfl (fun _ h => h.elim) ({ nth ac1 q with sent := false }) rfl fun w11 hw11 hO11 => ?_
  have hk11 := hS.keptOwnO 9 rfl hO11
  replace hH := hH.kept hk11
  replace hw1 := hw1.kept hk11
  replace hw2 := hw2.kept hk11
  replace hS := hS.putOwn 9 rfl hw11 hO11; simp only [List.set] at hS
  refine q_nilCheck rfl rfl ?_
  refine q_field rfl rfl ?_
  refine q_storeOwn rfl rfl (hS.own 9 rfl) (by first | omega | (simp; omega)) rfl rfl rfl (fun _ h => h.elim) ({ nth (ac1.set q { nth ac1 q with sent := false }) q with act := false }) rfl fun w12 hw12 hO12 => ?_
  have hk12 := hS.keptOwnO 9 rfl hO12
  replace hH := hH.kept hk12
  replace hw1 := hw1.kept hk12
  replace hw2 := hw2.kept hk12
  replace hS := hS.putOwn 9 rfl hw12 hO12; simp only [List.set] at hS
  refine eseq_nil ?_
  have hac : ∀ i, i < n → nth ((ac1.set q { nth ac1 q with sent := false }).set q { nth (ac1.set q { nth ac1 q with sent := false }) q with act := false }) i = if i = q then ⟨⟨.slice (some ⟨g, 0, none⟩) (nth c.now q).length cap, rfl⟩, false, false⟩ else nth x.ac i := fun i hi2 => by
    rw [nth_setC (by simp; omega), nth_setC (by omega), if_pos rfl, e1]
    split
    · rfl
    · rename_i hne
      rw [nth_setC (by omega), if_neg hne, hac1, nth_setC (by omega), if_neg hne]
  refine ⟨_, res0 rfl, rfl, R2, { x with vsC := x.vsC.set q v39, vsV := x.vsV.set q v61, vsF := x.vsF.set q v79, vc := x.vc.set q (nth x.vc q ++ [⟨v59, hw1.one⟩]), ac := (ac1.set q { nth ac1 q with sent := false }).set q { nth (ac1.set q { nth ac1 q with sent := false }) q with act := false } }, rfl, rfl, hS, ?_⟩
  exact { hH with
    vlen := by simpa using hH.vlen
    vecs := fun i hi2 => by
      have := hH.vecs i hi2
      simp only [C26.checkpoint]
      rw [nth_setC (by omega), nth_setC (by omega)]
      split
      · subst i; exact this.push hw1
      · exact this
    alen := by simpa using hal0
    vec := fun i hi2 => by
      have := hH.vec i hi2
      simp only [C26.checkpoint]
      rw [hac i hi2, nth_setC (by omega)]
      split
      · exact hw2
      · exact this
    sent := fun i hi2 => by
      have := hH.sent i hi2
      simp only [C26.checkpoint]
      rw [hac i hi2, nth_setC (by omega)]
      split
      · rfl
      · exact this
    act := fun i hi2 => by
      have := hH.act i hi2
      simp only [C26.checkpoint]
      rw [hac i hi2, nth_setC (by omega)]
      split
      · rfl
      · exact this }
end Go.Proofs.Ytbmjcbhappjnaaa
