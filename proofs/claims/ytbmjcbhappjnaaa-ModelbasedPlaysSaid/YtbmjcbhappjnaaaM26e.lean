/- The receiving of the computation of chapter 26. -/
import Derived.Test.YtbmjcbhappjnaaaM26d
set_option linter.unusedSimpArgs false
set_option linter.unusedVariables false
namespace Go.Proofs.Ytbmjcbhappjnaaa
open Go.RowKit Go.Mine
attribute [local irreducible] eseq ewp nth
variable {w : World} {F R : Nat → Prop} {n r m : Nat} {rule : Int} {x : CN} {c : C26}
theorem nth_cut {α : Type} [Inhabited α] {l : List α} {p : Nat} (hp : p ≤ l.length) (i : Nat) : nth (l.take p ++ l.drop (p + 1)) i = nth l (if i < p then i else i + 1) := by
  unfold nth
  by_cases hi : i < p
  · rw [if_pos hi]; simp [List.getElem?_append_left (show i < (l.take p).length by simp; omega), hi]
  · rw [if_neg hi]; simp [List.getElem?_append_right (show (l.take p).length ≤ i by simp; omega), List.getElem?_drop, show min p l.length = p by omega, show p + 1 + (i - p) = i + 1 by omega]
theorem Held.took {pl : Nat} (h : Held w R n x c) (hp : pl < c.fly.length) (vG : Value) : Held w R n { x with vG := vG, fl := x.fl.take pl ++ x.fl.drop (pl + 1) } (c.took pl) := by
  have hl := h.flen
  have hb : ∀ i, i < (c.took pl).fly.length → (if i < pl then i else i + 1) < c.fly.length := fun i hi => by
    simp [C26.took] at hi
    split <;> omega
  refine { h with flen := ?_, arc := fun i hi => ?_, note := fun i hi => ?_ }
  · simp [C26.took, hl]
  · have := h.arc _ (hb i hi)
    simp only [C26.took]
    rw [nth_cut (by omega), nth_cut (by omega)]; exact this
  · have := h.note _ (hb i hi)
    simp only [C26.took]
    rw [nth_cut (by omega), nth_cut (by omega)]; exact this

/-- what is behind the possible checkpoint: the vector is merged -/
def mergedX (x : CN) (q : Nat) (u : Cell) (vA : Value) : CN := { x with ac := x.ac.set q { nth x.ac q with vec := u }, vA := vA }
def mergedC (c : C26) (q : Nat) (v : List Int) : C26 := { c with now := c.now.set q (mergeV (nth c.now q) v) }
theorem mergedH {q : Nat} {u : Cell} {v : List Int} (h : Held w R n x c) (hl : n ≤ c.now.length) (hu : IsSlice Ty.int w R u.v (mergeV (nth c.now q) v)) (vA : Value) (hq : q < n) : Held w R n (mergedX x q u vA) (mergedC c q v) := by
  have ga := Nat.le_of_eq h.alen.symm
  exact { h with
    alen := by simpa [mergedX] using h.alen
    vec := fun i hi => by
      have := h.vec i hi
      simp only [mergedX, mergedC]
      rw [nth_setC (by omega), nth_setC (by omega)]
      split
      · exact hu
      · exact this
    sent := fun i hi => by
      have := h.sent i hi
      simp only [mergedX, mergedC]
      rw [nth_setC (by omega)]
      split
      · subst i; exact this
      · exact this
    act := fun i hi => by
      have := h.act i hi
      simp only [mergedX, mergedC]
      rw [nth_setC (by omega)]
      split
      · subst i; exact this
      · exact this }
theorem mergedI {q : Nat} {v : List Int} (h : c.Inv n r m) (hq : q < n) (hv : VecOk n (m + 1) v) : (mergedC c q v).Inv n r m := by
  have g := h.now
  exact { h with
    now := by simpa [mergedC] using g
    vec := fun i hi => by
      simp only [mergedC]
      rw [nth_setC (by omega)]
      split
      · exact (h.vec q hq).merge hv
      · exact h.vec i hi }

theorem receive26 (h : Sep F R R w w (compParts n rule x c)) (hH : Held w R n x c) (hi : c.Inv n r m) (hr : r ≤ 10000) (hm : m ≤ 10000) (hn : n ≤ 100) (pl : Int) :
    Gives Try.prog 45 [.pointer (some ⟨x.B, 0, none⟩), .int .i64 pl] w fun v w' => v = .tuple #[] ∧ CompTo F R n rule x w w' (c.receive rule pl) := by
  have hS := h
  simp only [compParts] at hS
  have hfl := hi.fly; have hal := hi.arcs
  have hfl2 := hH.flen
  have ga := Nat.le_of_eq hH.alen.symm
  refine fn_of Try.func45 rfl Try.ntmps45 (Nat.le_of_ble_eq_true rfl) ?_
  have hT := Below.refl w.heap.size w
  refine e_seq fun K hK => ?_
  refine e_seq fun K hK => ?_
  refine e_region_text rfl ?_
  refine q_move rfl rfl ?_
  refine q_lss rfl rfl rfl ?_
  refine q_move rfl rfl ?_
  refine g_or 7 rfl trivial rfl rfl ?_; apply Exists.intro; refine ⟨fun hg => ?_, fun hg => ?_, fun wm1 hBm1 => ?_⟩
  · have hg0 := hg
    refine g_skip rfl rfl rfl ?_
    refine g_skip rfl rfl rfl ?_
    refine g_skip rfl rfl rfl ?_
    refine g_skip rfl rfl rfl ?_
    refine g_skip rfl rfl rfl ?_
    refine g_skip rfl rfl rfl ?_
    refine g_skip rfl rfl rfl ?_
    exact eseq_nil ⟨rfl, Sub.set rfl (Sub.set rfl (Sub.set rfl (Sub.set rfl (Sub.set rfl (Sub.set rfl (Sub.set rfl (Sub.bool true rfl hg0)))))))⟩
  · have hg0 := hg
    have hTm1 := Below.refl (World.heap w).size w
    try simp at hg
    refine g_run rfl ?_; refine q_move rfl rfl ?_
    refine g_run rfl ?_; refine q_move rfl rfl ?_
    refine g_run rfl ?_; refine q_nilCheck rfl rfl ?_
    refine g_run rfl ?_; refine q_field rfl rfl ?_
    refine g_run rfl ?_; refine q_load rfl (Blk.cell (hS.blk 0 rfl) rfl) rfl ?_
    refine g_run rfl ?_; refine q_lenS rfl (hS.isl 10 rfl) rfl ?_
    refine g_run rfl ?_; refine q_geq rfl rfl rfl ?_
    exact eseq_nil ⟨hTm1, Sub.set rfl (Sub.set rfl (Sub.set rfl (Sub.set rfl (Sub.set rfl (Sub.set rfl (Sub.set rfl (Sub.bool false rfl hg0))))))), rfl⟩
  replace hH := hH.ext hBm1
  replace hS := hS.below hBm1
  refine eseq_nil ?_
  refine hK _ _ ?_; clear hK
  refine e_cond rfl (fun hcond => ?_) (fun hcond => ?_)
  · skip
    refine e_ret ?_
    refine ⟨_, res0 rfl, rfl, R, x, rfl, rfl, ?_⟩
    have e : c.receive rule pl = c := by
      rw [C26.receive, if_pos]
      rw [← hfl2]; exact hcond
    rw [e]
    exact ⟨hS, hH⟩
  have hc1 : 0 ≤ pl ∧ pl < c.fly.length := by simp at hcond; omega
  clear hcond
  obtain ⟨p, rfl⟩ := Int.eq_ofNat_of_zero_le hc1.1
  have hp : p < c.fly.length := by omega
  obtain ⟨t1, t2, t3⟩ := hi.letters _ (nth_mem hp)
  obtain ⟨t5, t6⟩ := hi.tos _ (nth_mem (show (nth c.fly p).arc.toNat < c.arcs.length by omega))
  have harc := hH.arc p hp
  obtain ⟨ar, har⟩ := Int.eq_ofNat_of_zero_le t1
  rw [har, Int.toNat_natCast] at t5 t6
  obtain ⟨q, hqq⟩ := Int.eq_ofNat_of_zero_le t5
  have hq : q < n := by omega
  have hrec : c.receive rule p = if 64 ≤ nth c.lens q then c else ((c.took p).raised rule q (nth c.fly p).vec).got q ar (nth c.fly p).vec := by
    rw [C26.receive, if_neg (by simp; omega)]
    simp only [Int.toNat_natCast, har, hqq]
  obtain ⟨nc, hnc⟩ : ∃ u, u = nth x.fl p := ⟨_, rfl⟩
  have hnote := hH.note p hp
  rw [← hnc] at hnote
  rw [← hnc] at harc
  refine e_skip ?_
  refine hK _ _ ?_; clear hK
  refine e_seq fun K hK => ?_
  refine e_region_text rfl ?_
  refine q_move rfl rfl ?_
  refine q_nilCheck rfl rfl ?_
  refine q_field rfl rfl ?_
  refine q_load rfl (Blk.cell (hS.blk 0 rfl) rfl) rfl ?_
  refine q_move rfl rfl ?_
  first | refine q_indexSn (by infer_instance) rfl (hS.isl 10 rfl) rfl (by first | omega | decide) rfl fun b23 o23 f23 => ?_ | refine q_indexS (by infer_instance) rfl (hS.isl 10 rfl) rfl (by first | omega | decide) (by first | omega | decide) rfl fun b23 o23 f23 => ?_
  refine q_loadAgg rfl (letterL f23) rfl rfl ?_
  rw [← hnc]
  refine q_allocB rfl fun w2 bl2 hg2 hb2 hB2 => ?_
  replace hH := hH.ext hB2
  replace hnote := hnote.ext hB2
  replace hS := hS.newBlk hB2 hg2 hb2
  refine q_storeAgg rfl rfl (hS.blk 0 rfl) rfl (Nat.le_of_ble_eq_true rfl) (all_cons rfl (all_cons nc.vec.one (all_nil))) rfl rfl fun w3 hb3 hO3 => ?_
  simp only [setN, List.take, List.drop, List.set] at hb3
  have hk3 := hS.keptBlk 0 rfl hO3
  replace hH := hH.kept hk3
  replace hnote := hnote.kept hk3
  replace hS := hS.setBlk 0 rfl hb3 hO3; simp only [List.set] at hS
  refine eseq_nil ?_
  refine hK _ _ ?_; clear hK
  refine e_seq fun K hK => ?_
  refine e_region_draw mixed (fun _ => False) [0, 1, 3, 7, 15, 31, 0, 64, 255, 511, 1023, 2047] [] [0, 1, 2, 3, 4, 5, 6, 7, 8, 9, 10, 11] (by kernel_rfl) ?_
  refine q_move rfl rfl ?_
  refine q_nilCheck rfl rfl ?_
  refine q_field rfl rfl ?_
  refine q_field rfl rfl ?_
  refine q_field rfl rfl ?_
  refine q_load rfl (Blk.cell (hS.blk 1 rfl) rfl) rfl ?_
  refine q_field rfl rfl ?_
  refine q_load rfl (Blk.cell (hS.blk 0 rfl) rfl) rfl ?_
  rw [harc, har]
  have har2 : ar < c.arcs.length := by omega
  first | refine q_indexSn (by infer_instance) rfl (hS.isl 5 rfl) rfl (by first | omega | decide) rfl fun b33 o33 f33 => ?_ | refine q_indexS (by infer_instance) rfl (hS.isl 5 rfl) rfl (by first | omega | decide) (by first | omega | decide) rfl fun b33 o33 f33 => ?_
  refine q_field rfl rfl ?_
  have f34 := ArcF2 f33
  refine q_load rfl (El.intCell f34) rfl ?_
  rw [hqq]
  refine q_assign rfl rfl ?_
  refine eseq_nil ?_
  refine hK _ _ ?_; clear hK
  refine e_seq fun K hK => ?_
  refine e_seq fun K hK => ?_
  refine e_region_text rfl ?_
  refine q_move rfl rfl ?_
  refine q_move rfl rfl ?_
  refine q_call rfl (full26 (x := x) (c := c) (Sep.enter (As := compParts n rule x c) (Ds := [_]) (hS.order [1, 2, 3, 4, 5, 6, 7, 8, 9, 10, 11, 0] 12 rfl (by decide))) hi hn q ⟨by omega, by omega⟩) rfl ?_
  rintro _ w4 ⟨rfl, hB4⟩; refine ⟨fun _ => .of_below hB4, ?_⟩
  replace hH := hH.ext hB4
  replace hnote := hnote.ext hB4
  replace hS := hS.below hB4
  refine eseq_nil ?_
  refine hK _ _ ?_; clear hK
  refine e_cond rfl (fun h64 => ?_) (fun h64 => ?_)
  · skip
    refine e_ret ?_
    refine ⟨_, res0 rfl, rfl, R, x, rfl, rfl, ?_⟩
    rw [hrec, if_pos (by simpa using h64)]
    exact ⟨hS.tail, hH⟩
  have h64' : ¬ 64 ≤ nth c.lens q := by simpa using h64
  rw [if_neg h64'] at hrec
  clear h64
  refine e_skip ?_
  refine hK _ _ ?_; clear hK
  refine e_seq fun K hK => ?_
  refine e_region_text rfl ?_
  refine q_move rfl rfl ?_
  refine q_move rfl rfl ?_
  refine q_nilCheck rfl rfl ?_
  refine q_field rfl rfl ?_
  refine q_load rfl (Blk.cell (hS.blk 1 rfl) rfl) rfl ?_
  refine q_move rfl rfl ?_
  refine q_move rfl rfl ?_
  refine q_add rfl rfl (wr64 (by omega) (by omega)) rfl ?_
  refine q_call rfl (delete26 (hS.own 11 rfl) p (by omega) (by omega)) rfl ?_
  rintro v47 wd ⟨hod, hgd, hbd⟩; refine ⟨(fun h => by cases h), ?_⟩
  have hkd := hS.keptF 11 rfl (StepF.of_grown hgd fun k hk => hk)
  replace hH := hH.kept hkd
  replace hnote := hnote.kept hkd
  replace hS := hS.set 11 rfl (c' := HP.own noteTy (fun _ => False) 150 v47 (x.fl.take p ++ x.fl.drop (p + 1))) (StepF.of_grown hgd fun k hk => hk) hod (fun k hk => .inl (by have h9 : v47.ownBlock = some k := hk; rw [hbd] at h9; exact h9)) (fun k h => h.elim); simp only [List.set] at hS
  replace hH := Held.took hH hp v47
  refine q_nilCheck rfl rfl ?_
  refine q_field rfl rfl ?_
  refine q_store rfl rfl (hS.blk 1 rfl) (Nat.le_of_ble_eq_true rfl) (hS.own 11 rfl).one rfl rfl fun w5 hb5 hO5 => ?_
  have hk5 := hS.keptBlk 1 rfl hO5
  replace hH := hH.kept hk5
  replace hnote := hnote.kept hk5
  replace hS := hS.setBlk 1 rfl hb5 hO5; simp only [List.set] at hS
  refine eseq_nil ?_
  refine hK _ _ ?_; clear hK
  refine e_seq fun K hK => ?_
  refine e_region_text rfl ?_
  refine q_move rfl rfl ?_
  refine q_nilCheck rfl rfl ?_
  refine q_field rfl rfl ?_
  refine q_load rfl (Blk.cell (hS.blk 1 rfl) rfl) rfl ?_
  refine q_move rfl rfl ?_
  first | refine q_indexn rfl rfl (by omega) rfl ?_ | refine q_index rfl rfl ⟨by omega, by omega⟩ rfl ?_
  refine q_assign rfl rfl ?_
  refine eseq_nil ?_
  refine hK _ _ ?_; clear hK
  refine e_seq fun K hK => ?_
  refine e_seq fun K hK => ?_
  refine e_region_draw mixed (fun _ => False) [0, 1, 3, 7, 0, 16, 48, 112, 0, 256, 0, 1024, 3072, 7168, 0, 16384, 49152, 114688, 262143] [] [0, 1, 2, 3, 4, 5, 6, 7, 8, 9, 10, 11, 12, 13, 14, 15, 16, 17, 18] (by kernel_rfl) ?_
  refine q_move rfl rfl ?_
  refine q_nilCheck rfl rfl ?_
  refine q_field rfl rfl ?_
  refine q_load rfl (Blk.cell (hS.blk 1 rfl) rfl) rfl ?_
  refine q_move rfl rfl ?_
  refine q_nilCheck rfl rfl ?_
  refine q_field rfl rfl ?_
  refine q_load rfl (Own.cellAt (hS.own 10 rfl) _ 0 (by first | omega | (simp; omega)) rfl) rfl ?_
  refine q_field rfl rfl ?_
  refine q_load rfl (Blk.cell (hS.blk 0 rfl) rfl) rfl ?_
  refine q_move rfl rfl ?_
  refine q_nilCheck rfl rfl ?_
  refine q_field rfl rfl ?_
  refine q_load rfl (Own.cellAt (hS.own 10 rfl) _ 1 (by first | omega | (simp; omega)) rfl) rfl ?_
  refine q_move rfl rfl ?_
  refine q_nilCheck rfl rfl ?_
  refine q_field rfl rfl ?_
  refine q_load rfl (Own.cellAt (hS.own 10 rfl) _ 2 (by first | omega | (simp; omega)) rfl) rfl ?_
  refine q_callV rfl rfl (cond26 (hH.vec q hq) hnote (by rw [show (c.took p).now = c.now from rfl, (hi.vec q hq).1]; omega) (by rw [t3.1]; omega) rule _ _) rfl ?_
  rintro _ wf ⟨rfl, hBf⟩; refine ⟨fun _ => .of_below hBf, ?_⟩
  replace hH := hH.ext hBf
  replace hnote := hnote.ext hBf
  replace hS := hS.below hBf
  have hsn := hH.sent q hq
  have hsa := hH.act q hq
  simp only at hsn hsa
  rw [hsn, hsa]
  have hi1 := hi.took (pl := p)
  have hS2 := hS.order [1, 2, 3, 4, 5, 6, 7, 8, 9, 10, 11, 0] 12 rfl (by decide)
  simp only [List.map_cons, List.map_nil, List.getD_cons_zero, List.getD_cons_succ] at hS2
  have hS3 : Sep F R R w wf (compParts n rule { x with vG := v47, fl := x.fl.take p ++ x.fl.drop (p + 1) } (c.took p) ++ [HP.blk bl2 [.int .i64 nc.arc, nc.vec.v] 150]) := hS2
  clear hS hS2
  refine eseq_nil ?_
  refine hK _ _ ?_; clear hK
  refine e_cond rfl (fun hfo => ?_) (fun hfo => ?_)
  · skip
    have hfo' : forcesV rule (nth c.now q) (nth c.fly p).vec (nth c.sent q) (nth c.act q) = true := hfo
    refine e_region_text rfl ?_
    refine q_move rfl rfl ?_
    refine q_move rfl rfl ?_
    refine q_call rfl (checkpoint26 (x := { x with vG := v47, fl := x.fl.take p ++ x.fl.drop (p + 1) }) (Sep.enter hS3) hH hi1 (by omega) (by omega) hn q hq true) rfl ?_
    clear hH
    rintro _ wy ⟨rfl, Ry, x2, hB2, hP2, hC, hH⟩; refine ⟨(fun h => by cases h), ?_⟩
    have hky := hC.keptR (Sep.offFeet hS3)
    replace hnote := (hnote.kept hky).mono fun k hk _ => hC.ro0 k hk
    have hS := Sep.leave hS3 hC
    have hz := hi1.checkpoint (f := true) hq
    replace hB2 : x2.B = x.B := hB2
    replace hP2 : x2.gP = x.gP := hP2
    obtain ⟨c2, hc2⟩ : ∃ y, y = (c.took p).checkpoint q true := ⟨_, rfl⟩
    rw [← hc2] at hS hH hz
    have er : (c.took p).raised rule q (nth c.fly p).vec = c2 := by rw [hc2, C26.raised]; exact if_pos hfo'
    have e1 : c2.lens = c.lens := by rw [hc2]; rfl
    have e2 : c2.arcs = c.arcs := by rw [hc2]; rfl
    rw [er] at hrec
    rw [← e1] at h64'
    have har3 : ar < c2.arcs.length := by rw [e2]; exact har2
    simp only [compParts, List.cons_append, List.nil_append] at hS
    obtain ⟨gA, capA, curA, hvA, hbA, hlA⟩ := (hS.own 4 rfl).form (by omega)
    rw [hvA] at hS
    rw [← hB2, ← hP2]
    have ga2 := Nat.le_of_eq hH.alen.symm
    have hvl := (hz.vec q hq).1
    refine eseq_nil ?_
    refine hK _ _ ?_; clear hK
    refine e_seq fun K hK => ?_
    refine e_region_draw mixed (fun _ => False) [0, 0, 2, 6, 14, 0, 32, 126, 255, 511, 1023] [] [0, 1, 2, 3, 4, 5, 6, 7, 8, 9, 10] (by kernel_rfl) ?_
    refine q_move rfl rfl ?_
    refine q_move rfl rfl ?_
    refine q_nilCheck rfl rfl ?_
    refine q_field rfl rfl ?_
    refine q_load rfl (Own.cellAt (hS.own 9 rfl) _ 0 (by first | omega | (simp; omega)) rfl) rfl ?_
    refine q_field rfl rfl ?_
    refine q_load rfl (Blk.cell (hS.blk 11 rfl) rfl) rfl ?_
    refine q_call rfl (merge26 (Sep.enter (As := []) hS) (hH.vec q hq) hnote (by omega) (by rw [t3.1]; omega)) rfl ?_
    rintro v85 wm hM; refine ⟨(fun h => by cases h), ?_⟩
    have hkm := hM.keptR (Sep.offFeet (As := []) hS)
    replace hH := hH.kept hkm
    replace hnote := hnote.kept hkm
    replace hS := Sep.leave (As := []) hS hM
    simp only [List.cons_append, List.nil_append] at hS
    have ho := hS.own 0 rfl
    obtain ⟨R3, hS, hm3, hf3⟩ := hS.freezeO 0 rfl; simp only [List.eraseIdx] at hS
    replace hH := hH.mono fun k hk _ => hm3 k hk
    replace hnote := hnote.mono fun k hk _ => hm3 k hk
    have hw3 : IsSlice Ty.int wm R3 v85 (mergeV (nth c2.now q) (nth c.fly p).vec) := (Own.reads ho).mono fun k hk _ => hk.elim (fun h => h.elim) (fun h => hf3 k h)
    refine q_nilCheck rfl rfl ?_
    refine q_field rfl rfl ?_
    have nB : ¬ (x2.B = x2.gP ∨ x2.B = x2.gL) := fun e => e.elim (fun e => hS.apart 0 9 rfl rfl (by decide) x2.B rfl (congrArg some e.symm)) (fun e => hS.apart 0 1 rfl rfl (by decide) x2.B rfl e)
    have nY : ¬ (bl2 = x2.gP ∨ bl2 = x2.gL) := fun e => e.elim (fun e => hS.apart 11 9 rfl rfl (by decide) bl2 rfl (congrArg some e.symm)) (fun e => hS.apart 11 1 rfl rfl (by decide) bl2 rfl e)
    refine q_storeOwn rfl rfl (hS.own 9 rfl) (by first | omega | (simp; omega)) rfl hw3.one rfl (fun _ h => h.elim) ({ nth x2.ac q with vec := ⟨v85, hw3.one⟩ }) rfl fun w6 hw6 hO6 => ?_
    have hk6 := hS.keptOwnO 9 rfl hO6
    replace hH := hH.kept hk6
    replace hnote := hnote.kept hk6
    replace hw3 := hw3.kept hk6
    replace hS := hS.putOwn 9 rfl hw6 hO6; simp only [List.set] at hS
    refine eseq_nil ?_
    refine hK _ _ ?_; clear hK
    refine e_region_draw mixed (fun k => k = x2.gP ∨ k = x2.gL) [0, 1, 3, 7, 15, 31, 0, 64, 0, 0, 768, 2047, 4095, 8191] [10] [0, 1, 2, 3, 4, 5, 6, 7, 8, 9, 10, 11, 12, 13] (by kernel_rfl) ?_
    refine q_move rfl rfl ?_
    refine q_nilCheck rfl rfl ?_
    refine q_field rfl rfl ?_
    refine q_field rfl rfl ?_
    refine q_field rfl rfl ?_
    refine q_load rfl (Blk.cell (hS.blk 0 rfl) rfl) rfl ?_
    refine q_field rfl rfl ?_
    refine q_load rfl (Blk.cell (hS.blk 11 rfl) rfl) rfl ?_
    rw [harc, har]
    refine q_move rfl rfl ?_
    refine q_move rfl rfl ?_
    have hS5 : Sep F R R3 w _ (compParts n rule (mergedX x2 q ⟨v85, hw3.one⟩ (.slice (some ⟨gA, 0, none⟩) c2.arcs.length capA)) (mergedC c2 q (nth c.fly p).vec) ++ [HP.blk bl2 [.int .i64 nc.arc, nc.vec.v] 150]) := hS
    have hH3 := mergedH (u := ⟨v85, hw3.one⟩) hH (Nat.le_of_eq hz.now.symm) hw3 (.slice (some ⟨gA, 0, none⟩) c2.arcs.length capA) hq
    have hi3 := mergedI (v := (nth c.fly p).vec) hz hq (t3.mono (by omega))
    refine q_call rfl (event26 (x := mergedX x2 q ⟨v85, hw3.one⟩ (.slice (some ⟨gA, 0, none⟩) c2.arcs.length capA)) (c := mergedC c2 q (nth c.fly p).vec) (Sep.enter hS5) hH3 hi3 hn q hq) rfl ?_
    rintro _ we ⟨rfl, hE, hH4, hst⟩; refine ⟨fun _ => ⟨hst.os, hst.tape, hst.output, hst.size, hst.same⟩, ?_⟩
    clear hS
    have hS := Sep.leave hS5 hE
    simp only [compParts, mergedX, mergedC, List.cons_append, List.nil_append] at hS
    clear hH hH3
    first | refine q_indexn rfl rfl (by omega) rfl ?_ | refine q_index rfl rfl ⟨by omega, by omega⟩ rfl ?_
    refine q_field rfl rfl ?_
    refine q_storeOwn rfl rfl (hS.own 4 rfl) (by first | omega | (simp; omega)) rfl rfl rfl (fun _ h => h.elim) ({ nth c2.arcs ar with rcv := nth c2.lens q + 1 }) rfl fun w7 hw7 hO7 => ?_
    have hk7 := hS.keptOwnO 4 rfl hO7
    replace hH4 := hH4.kept hk7
    replace hS := hS.putOwn 4 rfl hw7 hO7; simp only [List.set] at hS
    refine eseq_nil ?_
    have hS9 := hS.erase 11 rfl
    simp only [List.eraseIdx] at hS9
    rw [hrec]
    exact ⟨_, res0 rfl, rfl, R3, { mergedX x2 q ⟨v85, hw3.one⟩ (.slice (some ⟨gA, 0, none⟩) c2.arcs.length capA) with ac := (x2.ac.set q { nth x2.ac q with vec := ⟨v85, hw3.one⟩ }).set q { nth (x2.ac.set q { nth x2.ac q with vec := ⟨v85, hw3.one⟩ }) q with act := true } }, hB2, hP2, hS9, { caps := hH4.caps, vlen := hH4.vlen, vecs := hH4.vecs, alen := hH4.alen, vec := hH4.vec, sent := hH4.sent, act := hH4.act, flen := hH4.flen, arc := hH4.arc, note := hH4.note }⟩
  · skip
    have hfo' : ¬ forcesV rule (nth c.now q) (nth c.fly p).vec (nth c.sent q) (nth c.act q) = true := by have h9 : forcesV rule (nth c.now q) (nth c.fly p).vec (nth c.sent q) (nth c.act q) = false := hfo; rw [h9]; decide
    have hz := hi1.mono (Nat.le_succ r) (Nat.le_succ m)
    obtain ⟨x2, hx2⟩ : ∃ y : CN, y = { x with vG := v47, fl := x.fl.take p ++ x.fl.drop (p + 1) } := ⟨_, rfl⟩
    have hS := hS3
    rw [← hx2] at hS hH
    have hB2 : x2.B = x.B := by rw [hx2]
    have hP2 : x2.gP = x.gP := by rw [hx2]
    obtain ⟨c2, hc2⟩ : ∃ y, y = c.took p := ⟨_, rfl⟩
    rw [← hc2] at hS hH hz
    have er : (c.took p).raised rule q (nth c.fly p).vec = c2 := by rw [hc2, C26.raised]; exact if_neg hfo'
    have e1 : c2.lens = c.lens := by rw [hc2]; rfl
    have e2 : c2.arcs = c.arcs := by rw [hc2]; rfl
    rw [er] at hrec
    rw [← e1] at h64'
    have har3 : ar < c2.arcs.length := by rw [e2]; exact har2
    simp only [compParts, List.cons_append, List.nil_append] at hS
    obtain ⟨gA, capA, curA, hvA, hbA, hlA⟩ := (hS.own 4 rfl).form (by omega)
    rw [hvA] at hS
    rw [← hB2, ← hP2]
    have ga2 := Nat.le_of_eq hH.alen.symm
    have hvl := (hz.vec q hq).1
    refine e_skip ?_
    refine hK _ _ ?_; clear hK
    refine e_seq fun K hK => ?_
    refine e_region_draw mixed (fun _ => False) [0, 0, 2, 6, 14, 0, 32, 126, 255, 511, 1023] [] [0, 1, 2, 3, 4, 5, 6, 7, 8, 9, 10] (by kernel_rfl) ?_
    refine q_move rfl rfl ?_
    refine q_move rfl rfl ?_
    refine q_nilCheck rfl rfl ?_
    refine q_field rfl rfl ?_
    refine q_load rfl (Own.cellAt (hS.own 9 rfl) _ 0 (by first | omega | (simp; omega)) rfl) rfl ?_
    refine q_field rfl rfl ?_
    refine q_load rfl (Blk.cell (hS.blk 11 rfl) rfl) rfl ?_
    refine q_call rfl (merge26 (Sep.enter (As := []) hS) (hH.vec q hq) hnote (by omega) (by rw [t3.1]; omega)) rfl ?_
    rintro v85 wm hM; refine ⟨(fun h => by cases h), ?_⟩
    have hkm := hM.keptR (Sep.offFeet (As := []) hS)
    replace hH := hH.kept hkm
    replace hnote := hnote.kept hkm
    replace hS := Sep.leave (As := []) hS hM
    simp only [List.cons_append, List.nil_append] at hS
    have ho := hS.own 0 rfl
    obtain ⟨R3, hS, hm3, hf3⟩ := hS.freezeO 0 rfl; simp only [List.eraseIdx] at hS
    replace hH := hH.mono fun k hk _ => hm3 k hk
    replace hnote := hnote.mono fun k hk _ => hm3 k hk
    have hw3 : IsSlice Ty.int wm R3 v85 (mergeV (nth c2.now q) (nth c.fly p).vec) := (Own.reads ho).mono fun k hk _ => hk.elim (fun h => h.elim) (fun h => hf3 k h)
    refine q_nilCheck rfl rfl ?_
    refine q_field rfl rfl ?_
    have nB : ¬ (x2.B = x2.gP ∨ x2.B = x2.gL) := fun e => e.elim (fun e => hS.apart 0 9 rfl rfl (by decide) x2.B rfl (congrArg some e.symm)) (fun e => hS.apart 0 1 rfl rfl (by decide) x2.B rfl e)
    have nY : ¬ (bl2 = x2.gP ∨ bl2 = x2.gL) := fun e => e.elim (fun e => hS.apart 11 9 rfl rfl (by decide) bl2 rfl (congrArg some e.symm)) (fun e => hS.apart 11 1 rfl rfl (by decide) bl2 rfl e)
    refine q_storeOwn rfl rfl (hS.own 9 rfl) (by first | omega | (simp; omega)) rfl hw3.one rfl (fun _ h => h.elim) ({ nth x2.ac q with vec := ⟨v85, hw3.one⟩ }) rfl fun w8 hw8 hO8 => ?_
    have hk8 := hS.keptOwnO 9 rfl hO8
    replace hH := hH.kept hk8
    replace hnote := hnote.kept hk8
    replace hw3 := hw3.kept hk8
    replace hS := hS.putOwn 9 rfl hw8 hO8; simp only [List.set] at hS
    refine eseq_nil ?_
    refine hK _ _ ?_; clear hK
    refine e_region_draw mixed (fun k => k = x2.gP ∨ k = x2.gL) [0, 1, 3, 7, 15, 31, 0, 64, 0, 0, 768, 2047, 4095, 8191] [10] [0, 1, 2, 3, 4, 5, 6, 7, 8, 9, 10, 11, 12, 13] (by kernel_rfl) ?_
    refine q_move rfl rfl ?_
    refine q_nilCheck rfl rfl ?_
    refine q_field rfl rfl ?_
    refine q_field rfl rfl ?_
    refine q_field rfl rfl ?_
    refine q_load rfl (Blk.cell (hS.blk 0 rfl) rfl) rfl ?_
    refine q_field rfl rfl ?_
    refine q_load rfl (Blk.cell (hS.blk 11 rfl) rfl) rfl ?_
    rw [harc, har]
    refine q_move rfl rfl ?_
    refine q_move rfl rfl ?_
    have hS5 : Sep F R R3 w _ (compParts n rule (mergedX x2 q ⟨v85, hw3.one⟩ (.slice (some ⟨gA, 0, none⟩) c2.arcs.length capA)) (mergedC c2 q (nth c.fly p).vec) ++ [HP.blk bl2 [.int .i64 nc.arc, nc.vec.v] 150]) := hS
    have hH3 := mergedH (u := ⟨v85, hw3.one⟩) hH (Nat.le_of_eq hz.now.symm) hw3 (.slice (some ⟨gA, 0, none⟩) c2.arcs.length capA) hq
    have hi3 := mergedI (v := (nth c.fly p).vec) hz hq (t3.mono (by omega))
    refine q_call rfl (event26 (x := mergedX x2 q ⟨v85, hw3.one⟩ (.slice (some ⟨gA, 0, none⟩) c2.arcs.length capA)) (c := mergedC c2 q (nth c.fly p).vec) (Sep.enter hS5) hH3 hi3 hn q hq) rfl ?_
    rintro _ we ⟨rfl, hE, hH4, hst⟩; refine ⟨fun _ => ⟨hst.os, hst.tape, hst.output, hst.size, hst.same⟩, ?_⟩
    clear hS
    have hS := Sep.leave hS5 hE
    simp only [compParts, mergedX, mergedC, List.cons_append, List.nil_append] at hS
    clear hH hH3
    first | refine q_indexn rfl rfl (by omega) rfl ?_ | refine q_index rfl rfl ⟨by omega, by omega⟩ rfl ?_
    refine q_field rfl rfl ?_
    refine q_storeOwn rfl rfl (hS.own 4 rfl) (by first | omega | (simp; omega)) rfl rfl rfl (fun _ h => h.elim) ({ nth c2.arcs ar with rcv := nth c2.lens q + 1 }) rfl fun w9 hw9 hO9 => ?_
    have hk9 := hS.keptOwnO 4 rfl hO9
    replace hH4 := hH4.kept hk9
    replace hS := hS.putOwn 4 rfl hw9 hO9; simp only [List.set] at hS
    refine eseq_nil ?_
    have hS9 := hS.erase 11 rfl
    simp only [List.eraseIdx] at hS9
    rw [hrec]
    exact ⟨_, res0 rfl, rfl, R3, { mergedX x2 q ⟨v85, hw3.one⟩ (.slice (some ⟨gA, 0, none⟩) c2.arcs.length capA) with ac := (x2.ac.set q { nth x2.ac q with vec := ⟨v85, hw3.one⟩ }).set q { nth (x2.ac.set q { nth x2.ac q with vec := ⟨v85, hw3.one⟩ }) q with act := true } }, hB2, hP2, hS9, { caps := hH4.caps, vlen := hH4.vlen, vecs := hH4.vecs, alen := hH4.alen, vec := hH4.vec, sent := hH4.sent, act := hH4.act, flen := hH4.flen, arc := hH4.arc, note := hH4.note }⟩
end Go.Proofs.Ytbmjcbhappjnaaa
