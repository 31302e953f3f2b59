/- slices.Delete of one element, on a slice of the caller's own. -/
import Derived.Test.YtbmjcbhappjnaaaM26c
set_option linter.unusedSimpArgs false
set_option linter.unusedVariables false
namespace Go.Mine
open Go.RowKit
theorem Blk.inj {w : World} {b : Nat} {cs cs' : List Value} {t t' : TypeId} (h : Blk w b cs t) (h' : Blk w b cs' t') : cs = cs' ∧ t = t' := by
  unfold Blk at *; rw [h] at h'; simpa using h'
end Go.Mine
namespace Go.Proofs.Ytbmjcbhappjnaaa
open Go.RowKit Go.Mine
attribute [local irreducible] eseq ewp
variable {w : World}

theorem delete26 {v : Value} {xs : List NoteC} (h : Own noteTy w 0 (fun _ => False) 150 v xs) (i : Nat) (hi : i < xs.length) (hl : xs.length ≤ 1000000) :
    Gives Try.prog 91 [v, .int .i64 i, .int .i64 ((i : Int) + 1)] w fun v' w' => Own noteTy w' 0 (fun _ => False) 150 v' (xs.take i ++ xs.drop (i + 1)) ∧ w.grownBy w' v.ownBlock ∧ v'.ownBlock = v.ownBlock := by
  obtain ⟨g, cap, cur, rfl, hb, hcur⟩ := h.form (by omega)
  have hS := h.isSlice
  have hcap : xs.length ≤ cap := by
    obtain ⟨ad, c, he, hc, _⟩ := hS; simp at he; omega
  have e1 : ((i : Int) + 1) = ((i + 1 : Nat) : Int) := by omega
  rw [e1]
  refine fn_of Try.func91 rfl Try.ntmps91 (Nat.le_of_ble_eq_true rfl) ?_
  have hT := Below.refl w.heap.size w
  clear hT
  refine e_seq fun K hK => ?_
  refine e_region_text rfl ?_
  refine q_assign rfl rfl ?_
  refine eseq_nil ?_
  refine hK _ _ ?_; clear hK
  refine e_seq fun K hK => ?_
  refine e_region_text rfl ?_
  refine q_move rfl rfl ?_
  refine q_move rfl rfl ?_
  refine q_move rfl rfl ?_
  refine q_move rfl rfl ?_
  refine q_lenS rfl hS rfl ?_
  refine q_slice3 (i := i) (j := i + 1) (mm := xs.length) rfl rfl rfl rfl (by omega) (by omega) hcap rfl fun v13 => ?_
  refine eseq_nil ?_
  refine hK _ _ ?_; clear hK
  refine e_seq fun K hK => ?_
  refine e_seq fun K hK => ?_
  refine e_region_text rfl ?_
  refine q_move rfl rfl ?_
  refine q_move rfl rfl ?_
  refine q_eql rfl rfl rfl ?_
  refine eseq_nil ?_
  refine hK _ _ ?_; clear hK
  refine e_cond rfl (fun hb1 => ?_) (fun hb1 => ?_)
  · skip
    exfalso; simp at hb1; omega
  refine e_skip ?_
  refine hK _ _ ?_; clear hK
  refine e_seq fun K hK => ?_
  refine e_region_text rfl ?_
  refine q_move rfl rfl ?_
  refine q_lenS rfl hS rfl ?_
  refine q_assign rfl rfl ?_
  refine eseq_nil ?_
  refine hK _ _ ?_; clear hK
  refine e_seq fun K hK => ?_
  refine e_region_draw mixed (fun _ => False) [0, 0, 3, 0, 0, 24, 63, 127] [] [0, 1, 2, 3, 4, 5, 6, 7] (by kernel_rfl) ?_
  refine q_move rfl rfl ?_
  refine q_move rfl rfl ?_
  refine q_sliceHx rfl rfl (by omega) rfl ?_
  refine q_move rfl rfl ?_
  refine q_move rfl rfl ?_
  refine q_sliceL (by infer_instance) rfl hS rfl (by omega) rfl fun v25 hS25 => ?_
  have hp := h.firstPart i (by omega)
  have hti : (xs.take i).length = i := by simp; omega
  have hdl : (xs.drop (i + 1)).length = xs.length - (i + 1) := by simp
  refine q_appendS (T := noteTy) rfl rfl rfl rfl hp rfl hS25 (fun c u hr => noteR.2 (noteR.1 hr)) (by omega) (Nat.zero_le _) rfl (fun h => by cases h) fun v26 w1 hown hg hnr => ?_
  have hv26 := hnr.fits g i cap rfl (by omega)
  rw [hti, hdl, show i + (xs.length - (i + 1)) = xs.length - 1 from by omega] at hv26
  subst hv26
  obtain ⟨_, _, cur1, hb1', hcl1⟩ := hown.blk
  refine q_assign rfl rfl ?_
  refine eseq_nil ?_
  refine hK _ _ ?_; clear hK
  refine e_seq fun K hK => ?_
  refine e_region_text rfl ?_
  refine q_move rfl rfl ?_
  refine q_move rfl rfl ?_
  refine q_len rfl rfl ?_
  refine q_move rfl rfl ?_
  refine q_sliceCap rfl rfl rfl (by omega) hcap rfl ?_
  refine q_clear rfl (by omega) hb1' (by simp [oneV]) (by simp [noteTy, Ty.via, Ty.pair, Ty.int, Ty.cell] at hcl1; simp; omega) rfl fun w2 zs hO2 hb2 => ?_
  refine eseq_nil ?_
  refine hK _ _ ?_; clear hK
  refine e_seq fun K hK => ?_
  refine e_region_text rfl ?_
  refine q_move rfl rfl ?_
  refine q_assign rfl rfl ?_
  refine eseq_nil ?_
  refine hK _ _ ?_; clear hK
  refine e_ret ?_
  refine ⟨_, res1 rfl rfl, hown.tail hO2 (fun _ h => h.elim) ((xs.length - 1) * 2) zs (by rw [List.length_append, hti, hdl]; show (i + (xs.length - (i + 1))) * 2 ≤ _; omega) (fun cs tt hcs => by obtain ⟨rfl, rfl⟩ := Blk.inj hcs hb1'; exact hb2), ?_, rfl⟩
  exact ⟨hO2.os.trans hg.os, hO2.tape.trans hg.tape, hO2.output.trans hg.output, Nat.le_trans hg.size hO2.size, fun k hk hne => (hO2.block k (Nat.lt_of_lt_of_le hk hg.size) (by rintro rfl; exact hne rfl)).trans (hg.block k hk hne)⟩
end Go.Proofs.Ytbmjcbhappjnaaa
