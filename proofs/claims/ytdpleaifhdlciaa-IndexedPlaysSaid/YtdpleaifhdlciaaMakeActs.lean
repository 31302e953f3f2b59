/- The drawn acts. -/
import Derived.Test.YtdpleaifhdlciaaMake
import Derived.Test.YtdpleaifhdlciaaActs
set_option linter.unusedSimpArgs false
set_option linter.unusedVariables false
namespace Go.Mine
open Go.RowKit
/-- one drawn act; and the choices that are left -/
def actE (n : Int) (cs : List Int) : Deed × List Int :=
  if nx 16 cs < 6 then (⟨1, nx n cs.tail, (nx n cs.tail + 1 + nx (max (n - 1) 1) cs.tail.tail) % n⟩, cs.tail.tail.tail)
  else if nx 16 cs < 12 then (⟨2, 0, nx 3 cs.tail.tail⟩, cs.tail.tail.tail)
  else if nx 16 cs < 15 then (⟨3, nx n cs.tail, 0⟩, cs.tail.tail)
  else (⟨(intE cs.tail.tail).1, (intE (intE cs.tail.tail).2).1, (intE (intE (intE cs.tail.tail).2).2).1⟩, (intE (intE (intE cs.tail.tail).2).2).2)
def actsE (n : Int) : Nat → List Int → List Deed × List Int
  | 0, cs => ([], cs)
  | m + 1, cs => if cs.isEmpty then ([], cs) else ((actE n cs).1 :: (actsE n m (actE n cs).2).1, (actsE n m (actE n cs).2).2)
theorem actsE_len (n : Int) : ∀ (m : Nat) (cs : List Int), (actsE n m cs).1.length ≤ m
  | 0, cs => by simp [actsE]
  | m + 1, cs => by
    rw [actsE]; split
    · simp
    · simpa using actsE_len n m _
theorem actsE_step {n : Int} {m : Nat} {cs cx cy : List Int} {acc : List Deed} {x : Deed} (hlt : acc.length < m) (hx : cx.isEmpty = false) (h1 : acc ++ (actsE n (m - acc.length) cx).1 = (actsE n m cs).1) (h2 : (actsE n (m - acc.length) cx).2 = (actsE n m cs).2) (he : actE n cx = (x, cy)) :
    (acc ++ [x]) ++ (actsE n (m - (acc ++ [x]).length) cy).1 = (actsE n m cs).1 ∧ (actsE n (m - (acc ++ [x]).length) cy).2 = (actsE n m cs).2 := by
  obtain ⟨j, hj⟩ : ∃ j, m - acc.length = j + 1 := ⟨m - acc.length - 1, by omega⟩
  have hj2 : m - (acc ++ [x]).length = j := by simp; omega
  rw [hj, actsE, hx, he] at h1 h2
  rw [hj2]
  exact ⟨by simpa using h1, by simpa using h2⟩
end Go.Mine
namespace Go.Proofs.Ytdpleaifhdlciaa
open Go.RowKit Go.Mine
attribute [local irreducible] eseq ewp
variable {w : World} {F R S : Nat → Prop} {B : Nat} {cs : List Int}

theorem acts (h : Sep F R R w w [HP.codes S B cs]) (n : Int) (hn : 1 ≤ n) (hn2 : n ≤ 1000) (most : Nat) (hm : most ≤ 1000) :
    Gives Try.prog 31 [.pointer (some ⟨B, 0, none⟩), .int .i64 n, .int .i64 most] w fun v w' => ∃ R1, Sep F R R1 w w' [HP.codes S B (actsE n most cs).2] ∧ IsSlice deedTy w' R1 v (actsE n most cs).1 := by
  have hS := h
  refine fn_of Try.func31 rfl Try.ntmps31 (Nat.le_of_ble_eq_true rfl) ?_
  have hT := Below.refl w.heap.size w
  refine e_seq fun K hK => ?_
  refine e_region_text rfl ?_
  refine q_assign rfl rfl ?_
  refine eseq_nil ?_
  refine hK _ _ ?_; clear hK
  refine e_seq fun K hK => ?_
  refine e_region_text rfl ?_
  refine q_assign rfl rfl ?_
  refine eseq_nil ?_
  refine hK _ _ ?_; clear hK
  refine e_seq fun K hK => ?_
  refine e_block ?_
  replace hS := hS.nilOwn deedTy 49
  refine e_loop (fun m E wx => ∃ (Rx : Nat → Prop) (acc : List Deed) (cx : List Int) (v : Value), Sep F R Rx w wx [HP.own deedTy R 49 v acc, HP.codes S B cx] ∧ acc.length ≤ most ∧ m = most - acc.length ∧
    (acc ++ (actsE n (most - acc.length) cx).1 = (actsE n most cs).1 ∧ (actsE n (most - acc.length) cx).2 = (actsE n most cs).2) ∧ E = [(0, .pointer (some ⟨B, 0, none⟩)), (1, .int .i64 n), (2, .int .i64 most), (7, v)]) most
    ⟨_, ⟨R, [], cs, _, hS, by simp, by simp, ⟨by simp, by simp⟩, rfl⟩, Sub.cons rfl (Sub.cons rfl (Sub.cons rfl (Sub.cons rfl (Sub.nil _))))⟩ ?_
  clear hS
  rintro m E wx ⟨Rx, acc, cx, v, hS, hal, rfl, ⟨he1, he2⟩, rfl⟩
  refine e_seq fun K hK => ?_
  refine e_seq fun K hK => ?_
  refine e_region_text rfl ?_
  refine q_move rfl rfl ?_
  refine q_lenS rfl (hS.isl 0 rfl) rfl ?_
  refine q_move rfl rfl ?_
  refine q_lss rfl rfl rfl ?_
  refine q_move rfl rfl ?_
  refine g_and 2 rfl trivial rfl rfl ?_; apply Exists.intro; refine ⟨fun hg => ?_, fun hg => ?_, fun wm1 hBm1 => ?_⟩
  · have hg0 := hg
    have hTm1 := Below.refl (World.heap wx).size wx
    try simp at hg
    refine g_run rfl ?_; refine q_move rfl rfl ?_
    refine g_run rfl ?_; refine q_call rfl (left (Sep.enter (As := [_]) (hS.front 1 rfl))) rfl ?_
    rintro _ w2 ⟨rfl, hB2⟩; refine ⟨fun _ => .of_below hB2, ?_⟩
    replace hS := hS.below hB2
    replace hTm1 := hTm1.trans (Below.mono hB2 hTm1.size)
    exact eseq_nil ⟨hTm1, Sub.set rfl (Sub.set rfl (Sub.bool true rfl hg0)), rfl⟩
  · have hg0 := hg
    refine g_skip rfl rfl rfl ?_
    refine g_skip rfl rfl rfl ?_
    exact eseq_nil ⟨rfl, Sub.set rfl (Sub.set rfl (Sub.bool false rfl hg0))⟩
  replace hS := hS.below hBm1
  refine eseq_nil ?_
  refine hK _ _ ?_; clear hK
  refine e_cond rfl (fun hc => ?_) (fun hc => ?_)
  · skip
    have hlt : acc.length < most ∧ cx.isEmpty = false := by simpa using hc
    have hr0 := nx_range (n := 16) (cs := cx) (by decide)
    have hr1 := nx_range (n := n) (cs := cx.tail) (by omega)
    refine e_skip ?_
    refine hK _ _ ?_; clear hK
    refine e_block ?_
    refine e_seq fun K hK => ?_
    refine e_region_text rfl ?_
    refine q_move rfl rfl ?_
    replace hS := hS.front 1 rfl; simp only [List.eraseIdx] at hS
    refine q_call rfl (next (Sep.enter (As := [_]) hS) 16 (by decide) (by decide)) rfl ?_
    rintro _ w3 ⟨rfl, hC3⟩
    refine ⟨(fun h => by cases h), ?_⟩
    have hk3 := hC3.keptR (Sep.offFeet (As := [_]) hS)
    replace hS := Sep.leave (As := [_]) hS hC3; simp only [List.cons_append, List.nil_append] at hS
    refine q_assign rfl rfl ?_
    refine eseq_nil ?_
    refine hK _ _ ?_; clear hK
    refine e_seq fun K hK => ?_
    refine e_region_text rfl ?_
    refine q_move rfl rfl ?_
    refine q_move rfl rfl ?_
    refine q_call rfl (next (Sep.enter (As := [_]) hS) n (by omega) (by omega)) rfl ?_
    rintro _ w4 ⟨rfl, hC4⟩
    refine ⟨(fun h => by cases h), ?_⟩
    have hk4 := hC4.keptR (Sep.offFeet (As := [_]) hS)
    replace hS := Sep.leave (As := [_]) hS hC4; simp only [List.cons_append, List.nil_append] at hS
    refine q_assign rfl rfl ?_
    refine eseq_nil ?_
    refine hK _ _ ?_; clear hK
    refine e_block ?_
    refine e_seq fun K hK => ?_
    refine e_region_text rfl ?_
    refine q_move rfl rfl ?_
    refine q_lss rfl rfl rfl ?_
    refine q_assign rfl rfl ?_
    refine eseq_nil ?_
    refine hK _ _ ?_; clear hK
    refine e_cond rfl (fun h6 => ?_) (fun h6 => ?_)
    · skip
      have h6' : nx 16 cx < 6 := by simpa using h6
      have hr2 := nx_range (n := max (n - 1) 1) (cs := cx.tail.tail) (by omega)
      refine e_region_text rfl ?_
      refine q_move rfl rfl ?_
      refine q_move rfl rfl ?_
      refine q_move rfl rfl ?_
      refine q_add rfl rfl (wr64 (by omega) (by omega)) rfl ?_
      refine q_move rfl rfl ?_
      refine q_move rfl rfl ?_
      refine q_sub rfl rfl (wr64 (by omega) (by omega)) rfl ?_
      refine q_max rfl rfl rfl ?_
      refine q_call rfl (next (Sep.enter (As := [_]) hS) (max (n - 1) 1) (by omega) (by omega)) rfl ?_
      rintro _ w5 ⟨rfl, hC5⟩
      refine ⟨(fun h => by cases h), ?_⟩
      have hk5 := hC5.keptR (Sep.offFeet (As := [_]) hS)
      replace hS := Sep.leave (As := [_]) hS hC5; simp only [List.cons_append, List.nil_append] at hS
      refine q_add rfl rfl (wr64 (by omega) (by omega)) rfl ?_
      refine q_move rfl rfl ?_
      refine q_rem rfl rfl (by omega) rfl ?_
      refine q_build (Parts.cons rfl rfl (Parts.cons rfl rfl (Parts.cons rfl rfl Parts.nil))) rfl rfl ?_
      refine q_slice1 rfl rfl rfl rfl rfl rfl fun w6 bl6 hg6 hb6 hB6 => ?_
      replace hS := hS.below hB6
      refine q_append1 (u := (⟨1, nx n cx.tail, (nx n cx.tail + 1 + nx (max (n - 1) 1) cx.tail.tail).tmod n⟩ : Deed)) rfl rfl rfl rfl (hS.own 1 rfl) rfl hb6 (deedR.2 rfl) (by omega) (Nat.zero_le _) rfl (fun h => by cases h) fun v50 w7 hw7 hgr7 hnw7 => ?_
      have hk7 := hS.keptOwn 1 rfl hgr7
      replace hS := hS.setOwn 1 rfl hw7 hgr7 hnw7; simp only [List.set] at hS
      refine q_assign rfl rfl ?_
      refine eseq_nil ?_
      replace hS := hS.front 1 rfl; simp only [List.eraseIdx] at hS
      have hst := actsE_step (n := n) (cy := cx.tail.tail.tail) (x := ⟨1, nx n cx.tail, (nx n cx.tail + 1 + nx (max (n - 1) 1) cx.tail.tail).tmod n⟩) hlt.1 hlt.2 he1 he2 (by rw [actE, if_pos h6', Int.tmod_eq_emod_of_nonneg (by omega)])
      exact ⟨_, _, by simp; omega, ⟨_, _, _, _, hS, by simp; omega, rfl, hst, rfl⟩, Sub.cons rfl (Sub.cons rfl (Sub.cons rfl (Sub.cons rfl (Sub.nil _))))⟩
    · skip
      have h6' : ¬ nx 16 cx < 6 := by simpa using h6
      refine e_seq fun K hK => ?_
      refine e_region_text rfl ?_
      refine q_move rfl rfl ?_
      refine q_lss rfl rfl rfl ?_
      refine q_assign rfl rfl ?_
      refine eseq_nil ?_
      refine hK _ _ ?_; clear hK
      refine e_cond rfl (fun h12 => ?_) (fun h12 => ?_)
      · skip
        have h12' : nx 16 cx < 12 := by simpa using h12
        refine e_region_text rfl ?_
        refine q_move rfl rfl ?_
        refine q_move rfl rfl ?_
        refine q_call rfl (next (Sep.enter (As := [_]) hS) 3 (by decide) (by decide)) rfl ?_
        rintro _ w8 ⟨rfl, hC8⟩
        refine ⟨(fun h => by cases h), ?_⟩
        have hk8 := hC8.keptR (Sep.offFeet (As := [_]) hS)
        replace hS := Sep.leave (As := [_]) hS hC8; simp only [List.cons_append, List.nil_append] at hS
        refine q_build (Parts.cons rfl rfl (Parts.cons rfl rfl Parts.nil)) rfl rfl ?_
        refine q_slice1 rfl rfl rfl rfl rfl rfl fun w9 bl9 hg9 hb9 hB9 => ?_
        replace hS := hS.below hB9
        refine q_append1 (u := (⟨2, 0, nx 3 cx.tail.tail⟩ : Deed)) rfl rfl rfl rfl (hS.own 1 rfl) rfl hb9 (deedR.2 rfl) (by omega) (Nat.zero_le _) rfl (fun h => by cases h) fun v59 w10 hw10 hgr10 hnw10 => ?_
        have hk10 := hS.keptOwn 1 rfl hgr10
        replace hS := hS.setOwn 1 rfl hw10 hgr10 hnw10; simp only [List.set] at hS
        refine q_assign rfl rfl ?_
        refine eseq_nil ?_
        replace hS := hS.front 1 rfl; simp only [List.eraseIdx] at hS
        have hst := actsE_step (n := n) (cy := cx.tail.tail.tail) (x := ⟨2, 0, nx 3 cx.tail.tail⟩) hlt.1 hlt.2 he1 he2 (by rw [actE, if_neg h6', if_pos h12'])
        exact ⟨_, _, by simp; omega, ⟨_, _, _, _, hS, by simp; omega, rfl, hst, rfl⟩, Sub.cons rfl (Sub.cons rfl (Sub.cons rfl (Sub.cons rfl (Sub.nil _))))⟩
      · skip
        have h12' : ¬ nx 16 cx < 12 := by simpa using h12
        refine e_seq fun K hK => ?_
        refine e_region_text rfl ?_
        refine q_move rfl rfl ?_
        refine q_lss rfl rfl rfl ?_
        refine q_assign rfl rfl ?_
        refine eseq_nil ?_
        refine hK _ _ ?_; clear hK
        refine e_cond rfl (fun h15 => ?_) (fun h15 => ?_)
        · skip
          have h15' : nx 16 cx < 15 := by simpa using h15
          refine e_region_text rfl ?_
          refine q_move rfl rfl ?_
          refine q_move rfl rfl ?_
          refine q_build (Parts.cons rfl rfl (Parts.cons rfl rfl Parts.nil)) rfl rfl ?_
          refine q_slice1 rfl rfl rfl rfl rfl rfl fun w11 bl11 hg11 hb11 hB11 => ?_
          replace hS := hS.below hB11
          refine q_append1 (u := (⟨3, nx n cx.tail, 0⟩ : Deed)) rfl rfl rfl rfl (hS.own 1 rfl) rfl hb11 (deedR.2 rfl) (by omega) (Nat.zero_le _) rfl (fun h => by cases h) fun v67 w12 hw12 hgr12 hnw12 => ?_
          have hk12 := hS.keptOwn 1 rfl hgr12
          replace hS := hS.setOwn 1 rfl hw12 hgr12 hnw12; simp only [List.set] at hS
          refine q_assign rfl rfl ?_
          refine eseq_nil ?_
          replace hS := hS.front 1 rfl; simp only [List.eraseIdx] at hS
          have hst := actsE_step (n := n) (cy := cx.tail.tail) (x := ⟨3, nx n cx.tail, 0⟩) hlt.1 hlt.2 he1 he2 (by rw [actE, if_neg h6', if_neg h12', if_pos h15'])
          exact ⟨_, _, by simp; omega, ⟨_, _, _, _, hS, by simp; omega, rfl, hst, rfl⟩, Sub.cons rfl (Sub.cons rfl (Sub.cons rfl (Sub.cons rfl (Sub.nil _))))⟩
        · skip
          have h15' : ¬ nx 16 cx < 15 := by simpa using h15
          refine e_region_text rfl ?_
          refine q_move rfl rfl ?_
          refine q_move rfl rfl ?_
          refine q_call rfl (intM (Sep.enter (As := [_]) hS)) rfl ?_
          rintro _ w13 ⟨rfl, R13, hC13⟩
          refine ⟨(fun h => by cases h), ?_⟩
          have hk13 := hC13.keptR (Sep.offFeet (As := [_]) hS)
          replace hS := Sep.leave (As := [_]) hS hC13; simp only [List.cons_append, List.nil_append] at hS
          refine q_move rfl rfl ?_
          refine q_call rfl (intM (Sep.enter (As := [_]) hS)) rfl ?_
          rintro _ w14 ⟨rfl, R14, hC14⟩
          refine ⟨(fun h => by cases h), ?_⟩
          have hk14 := hC14.keptR (Sep.offFeet (As := [_]) hS)
          replace hS := Sep.leave (As := [_]) hS hC14; simp only [List.cons_append, List.nil_append] at hS
          refine q_move rfl rfl ?_
          refine q_call rfl (intM (Sep.enter (As := [_]) hS)) rfl ?_
          rintro _ w15 ⟨rfl, R15, hC15⟩
          refine ⟨(fun h => by cases h), ?_⟩
          have hk15 := hC15.keptR (Sep.offFeet (As := [_]) hS)
          replace hS := Sep.leave (As := [_]) hS hC15; simp only [List.cons_append, List.nil_append] at hS
          refine q_build (Parts.cons rfl rfl (Parts.cons rfl rfl (Parts.cons rfl rfl Parts.nil))) rfl rfl ?_
          refine q_slice1 rfl rfl rfl rfl rfl rfl fun w16 bl16 hg16 hb16 hB16 => ?_
          replace hS := hS.below hB16
          refine q_append1 (u := (⟨(intE cx.tail.tail).1, (intE (intE cx.tail.tail).2).1, (intE (intE (intE cx.tail.tail).2).2).1⟩ : Deed)) rfl rfl rfl rfl (hS.own 1 rfl) rfl hb16 (deedR.2 rfl) (by omega) (Nat.zero_le _) rfl (fun h => by cases h) fun v32 w17 hw17 hgr17 hnw17 => ?_
          have hk17 := hS.keptOwn 1 rfl hgr17
          replace hS := hS.setOwn 1 rfl hw17 hgr17 hnw17; simp only [List.set] at hS
          refine q_assign rfl rfl ?_
          refine eseq_nil ?_
          replace hS := hS.front 1 rfl; simp only [List.eraseIdx] at hS
          have hst := actsE_step (n := n) hlt.1 hlt.2 he1 he2 (by rw [actE, if_neg h6', if_neg h12', if_neg h15'])
          exact ⟨_, _, by simp; omega, ⟨_, _, _, _, hS, by simp; omega, rfl, hst, rfl⟩, Sub.cons rfl (Sub.cons rfl (Sub.cons rfl (Sub.cons rfl (Sub.nil _))))⟩
  · skip
    have hend : (actsE n (most - acc.length) cx) = ([], cx) := by
      by_cases hl : acc.length < most
      · have hx : cx.isEmpty = true := by simpa [hl] using hc
        obtain ⟨j, hj⟩ : ∃ j, most - acc.length = j + 1 := ⟨most - acc.length - 1, by omega⟩
        rw [hj, actsE, if_pos hx]
      · rw [show most - acc.length = 0 by omega, actsE]
    rw [hend] at he1 he2
    refine e_exit ?_
    clear hK
    refine hK _ _ ?_; clear hK
    refine e_seq fun K hK => ?_
    refine e_region_text rfl ?_
    refine q_move rfl rfl ?_
    refine q_assign rfl rfl ?_
    refine eseq_nil ?_
    refine hK _ _ ?_; clear hK
    refine e_ret ?_
    replace hS := hS.front 1 rfl; simp only [List.eraseIdx] at hS
    replace hS := hS.front 1 rfl; simp only [List.eraseIdx] at hS
    have hf := hS.isl 0 rfl
    obtain ⟨R9, hS9, hm9, hn9⟩ := hS.freezeO 0 rfl
    refine ⟨_, res1 rfl rfl, R9, by rw [← he2]; exact hS9, ?_⟩
    rw [← he1, List.append_nil]
    exact hf.mono fun k hk _ => hk.elim (hm9 k) (hn9 k)
end Go.Proofs.Ytdpleaifhdlciaa
