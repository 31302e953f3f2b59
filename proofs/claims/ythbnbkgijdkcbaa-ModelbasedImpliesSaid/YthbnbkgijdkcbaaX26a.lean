/- The walks of ModelbasedMerges, ModelbasedForces, ModelbasedImplies. -/
import Derived.Test.YthbnbkgijdkcbaaA26
import Derived.Test.YthbnbkgijdkcbaaV26b
import Derived.Test.YthbnbkgijdkcbaaMake
set_option linter.unusedSimpArgs false
set_option linter.unusedVariables false
namespace Go.Mine
open Go.RowKit
theorem Gives.mono {P : Program} {f : FuncId} {args : List Value} {w : World} {Φ Ψ : Value → World → Prop} (h : Gives P f args w Φ) (hm : ∀ v w', Φ v w' → Ψ v w') : Gives P f args w Ψ := fun d => (h d).mono fun e w' ⟨v, w1, d', h1, h2, h3⟩ => ⟨v, w1, d', h1, h2, hm v w1 h3⟩
theorem q_min3 {P : Program} {N : Nat} {X : Nat → Prop} {K : Env → World → Prop} {E : Env} {w : World} {t : TypeId} {m : Bool} {rest : List QOp} {sd : Nat} {x y z : Operand} {k k' k'' : IntKind} {i j l : Int} {ts : Array TypeId} (hx : ev E x = some (.int k i)) (hy : ev E y = some (.int k' j)) (hz : ev E z = some (.int k'' l)) (hd : dOK N (some sd) = true) (h : eseq P N X K rest (Env.set E sd (.int k (min (min i j) l))) w) :
    eseq P N X K (⟨none, some sd, .call { callee := .builtin .min, args := #[x, y, z], argTypes := ts }, t, m⟩ :: rest) E w :=
  q_pure _ rfl hd (fun a ha w' => by
    have e : (if j < i then j else i) = min i j := by simp only [Int.min_def]; split <;> split <;> omega
    have e2 : (if l < min i j then l else min i j) = min (min i j) l := by simp only [Int.min_def]; split <;> split <;> omega
    simp [execOp, QOp.oper, resolve, invoke, builtin, ha.eval hx, ha.eval hy, ha.eval hz, Builtin.min_, Builtin.min2, e, e2]) h
theorem mergeV_comm {a b : List Int} (h : a.length = b.length) : mergeV a b = mergeV b a := by
  refine ext_nth (by rw [mergeV_length, mergeV_length, h]) fun i hi => ?_
  rw [mergeV_length] at hi
  rw [nth_mergeV hi, nth_mergeV (by omega), if_pos (by omega), if_pos hi, Int.max_comm]
theorem mergeV_assoc {a b c : List Int} (h : a.length = b.length) (h2 : b.length = c.length) : mergeV (mergeV a b) c = mergeV a (mergeV b c) := by
  refine ext_nth (by simp only [mergeV_length]) fun i hi => ?_
  simp only [mergeV_length] at hi
  rw [nth_mergeV (by rw [mergeV_length]; exact hi), nth_mergeV hi, nth_mergeV hi, nth_mergeV (by omega), mergeV_length, if_pos (by omega), if_pos (by omega), if_pos (by omega), if_pos (by omega), Int.max_assoc]
end Go.Mine
namespace Go.Proofs.Ythbnbkgijdkcbaa
open Go.RowKit Go.Mine
attribute [local irreducible] eseq ewp
variable {w : World} {S1 S2 S3 : Nat → Prop} {v1 v2 v3 : Value} {a b c : List Int}
theorem Sep.made {w w' : World} {v : Value} {e : TypeId} {xs : List Int} (h : Sep (fun _ => False) (fun k => k < w.heap.size) (fun k => k < w.heap.size) w w' [HP.own Ty.int (fun _ => False) e v xs]) : IsSlice Ty.int w' (· < w'.heap.size) v xs ∧ Below w.heap.size w w' := ⟨(h.isl 0 rfl).old, h.step.below⟩
theorem merge26n (h1 : IsSlice Ty.int w S1 v1 a) (h2 : IsSlice Ty.int w S2 v2 b) (hl : a.length ≤ 1000000) (hl2 : b.length ≤ 1000000) :
    Gives Try.prog 12 [v1, v2] w fun v w' => IsSlice Ty.int w' (· < w'.heap.size) v (mergeV a b) ∧ Below w.heap.size w w' :=
  Gives.mono (merge26 (Sep.start w) h1.old h2.old hl hl2) fun v w' h => Sep.made h
theorem mergeR26n (h1 : IsSlice Ty.int w S1 v1 a) (h2 : IsSlice Ty.int w S2 v2 b) (hl : a.length ≤ 1000000) (hl2 : b.length ≤ 1000000) :
    Gives Try.prog 14 [v1, v2] w fun v w' => IsSlice Ty.int w' (· < w'.heap.size) v (mergeV a b) ∧ Below w.heap.size w w' :=
  Gives.mono (mergeR26 (Sep.start w) h1.old h2.old hl hl2) fun v w' h => Sep.made h

theorem merges_walk (h1 : IsSlice Ty.int w S1 v1 a) (h2 : IsSlice Ty.int w S2 v2 b) (h3 : IsSlice Ty.int w S3 v3 c) :
    Gives Try.prog 3 [v1, v2, v3] w fun v w' => v = .bool true ∧ Below w.heap.size w w' := by
  refine fn_of Try.func3 rfl Try.ntmps3 (Nat.le_of_ble_eq_true rfl) ?_
  have hT := Below.refl w.heap.size w
  refine e_seq fun K hK => ?_
  refine e_region_text rfl ?_
  refine q_assign rfl rfl ?_
  refine eseq_nil ?_
  refine hK _ _ ?_; clear hK
  refine e_seq fun K hK => ?_
  refine e_seq fun K hK => ?_
  refine e_region_text rfl ?_
  refine q_call rfl (awake26) rfl ?_
  rintro _ w1 ⟨rfl, hB1⟩; refine ⟨fun _ => .of_below hB1, ?_⟩
  replace h1 := h1.ext hB1
  replace h2 := h2.ext hB1
  replace h3 := h3.ext hB1
  replace hT := hT.trans (Below.mono hB1 hT.size)
  refine q_not rfl rfl ?_
  refine q_move rfl rfl ?_
  refine g_or 3 rfl trivial rfl rfl ?_; apply Exists.intro; refine ⟨fun hg => ?_, fun hg => ?_, fun wm2 hBm2 => ?_⟩
  · have hg0 := hg
    refine g_skip rfl rfl rfl ?_
    refine g_skip rfl rfl rfl ?_
    refine g_skip rfl rfl rfl ?_
    exact eseq_nil ⟨rfl, Sub.set rfl (Sub.set rfl (Sub.set rfl (Sub.bool true rfl hg0)))⟩
  · have hg0 := hg
    have hTm2 := Below.refl (World.heap w1).size w1
    try simp at hg
    refine g_run rfl ?_; refine q_move rfl rfl ?_
    refine g_run rfl ?_; refine q_lenS rfl h1 rfl ?_
    refine g_run rfl ?_; refine q_gtr rfl rfl rfl ?_
    exact eseq_nil ⟨hTm2, Sub.set rfl (Sub.set rfl (Sub.set rfl (Sub.bool false rfl hg0))), rfl⟩
  replace h1 := h1.ext hBm2
  replace h2 := h2.ext hBm2
  replace h3 := h3.ext hBm2
  replace hT := hT.trans (Below.mono hBm2 hT.size)
  refine q_move rfl rfl ?_
  refine g_or 3 rfl trivial rfl rfl ?_; apply Exists.intro; refine ⟨fun hg => ?_, fun hg => ?_, fun wm3 hBm3 => ?_⟩
  · have hg0 := hg
    refine g_skip rfl rfl rfl ?_
    refine g_skip rfl rfl rfl ?_
    refine g_skip rfl rfl rfl ?_
    exact eseq_nil ⟨rfl, Sub.set rfl (Sub.set rfl (Sub.set rfl (Sub.bool true rfl hg0)))⟩
  · have hg0 := hg
    have hTm3 := Below.refl (World.heap wm2).size wm2
    try simp at hg
    refine g_run rfl ?_; refine q_move rfl rfl ?_
    refine g_run rfl ?_; refine q_lenS rfl h2 rfl ?_
    refine g_run rfl ?_; refine q_gtr rfl rfl rfl ?_
    exact eseq_nil ⟨hTm3, Sub.set rfl (Sub.set rfl (Sub.set rfl (Sub.bool false rfl hg0))), rfl⟩
  replace h1 := h1.ext hBm3
  replace h2 := h2.ext hBm3
  replace h3 := h3.ext hBm3
  replace hT := hT.trans (Below.mono hBm3 hT.size)
  refine q_move rfl rfl ?_
  refine g_or 3 rfl trivial rfl rfl ?_; apply Exists.intro; refine ⟨fun hg => ?_, fun hg => ?_, fun wm4 hBm4 => ?_⟩
  · have hg0 := hg
    refine g_skip rfl rfl rfl ?_
    refine g_skip rfl rfl rfl ?_
    refine g_skip rfl rfl rfl ?_
    exact eseq_nil ⟨rfl, Sub.set rfl (Sub.set rfl (Sub.set rfl (Sub.bool true rfl hg0)))⟩
  · have hg0 := hg
    have hTm4 := Below.refl (World.heap wm3).size wm3
    try simp at hg
    refine g_run rfl ?_; refine q_move rfl rfl ?_
    refine g_run rfl ?_; refine q_lenS rfl h3 rfl ?_
    refine g_run rfl ?_; refine q_gtr rfl rfl rfl ?_
    exact eseq_nil ⟨hTm4, Sub.set rfl (Sub.set rfl (Sub.set rfl (Sub.bool false rfl hg0))), rfl⟩
  replace h1 := h1.ext hBm4
  replace h2 := h2.ext hBm4
  replace h3 := h3.ext hBm4
  replace hT := hT.trans (Below.mono hBm4 hT.size)
  refine eseq_nil ?_
  refine hK _ _ ?_; clear hK
  refine e_cond rfl (fun hc => ?_) (fun hc => ?_)
  · skip
    refine e_seq fun K hK => ?_
    refine e_region_text rfl ?_
    refine q_move rfl rfl ?_
    refine q_lenS rfl h1 rfl ?_
    refine q_gtr rfl rfl rfl ?_
    refine q_move rfl rfl ?_
    refine g_or 3 rfl trivial rfl rfl ?_; apply Exists.intro; refine ⟨fun hg => ?_, fun hg => ?_, fun wm5 hBm5 => ?_⟩
    · have hg0 := hg
      refine g_skip rfl rfl rfl ?_
      refine g_skip rfl rfl rfl ?_
      refine g_skip rfl rfl rfl ?_
      exact eseq_nil ⟨rfl, Sub.set rfl (Sub.set rfl (Sub.set rfl (Sub.bool true rfl hg0)))⟩
    · have hg0 := hg
      have hTm5 := Below.refl (World.heap wm4).size wm4
      try simp at hg
      refine g_run rfl ?_; refine q_move rfl rfl ?_
      refine g_run rfl ?_; refine q_lenS rfl h2 rfl ?_
      refine g_run rfl ?_; refine q_gtr rfl rfl rfl ?_
      exact eseq_nil ⟨hTm5, Sub.set rfl (Sub.set rfl (Sub.set rfl (Sub.bool false rfl hg0))), rfl⟩
    replace h1 := h1.ext hBm5
    replace h2 := h2.ext hBm5
    replace h3 := h3.ext hBm5
    replace hT := hT.trans (Below.mono hBm5 hT.size)
    refine q_move rfl rfl ?_
    refine g_or 3 rfl trivial rfl rfl ?_; apply Exists.intro; refine ⟨fun hg => ?_, fun hg => ?_, fun wm6 hBm6 => ?_⟩
    · have hg0 := hg
      refine g_skip rfl rfl rfl ?_
      refine g_skip rfl rfl rfl ?_
      refine g_skip rfl rfl rfl ?_
      exact eseq_nil ⟨rfl, Sub.set rfl (Sub.set rfl (Sub.set rfl (Sub.bool true rfl hg0)))⟩
    · have hg0 := hg
      have hTm6 := Below.refl (World.heap wm5).size wm5
      try simp at hg
      refine g_run rfl ?_; refine q_move rfl rfl ?_
      refine g_run rfl ?_; refine q_lenS rfl h3 rfl ?_
      refine g_run rfl ?_; refine q_gtr rfl rfl rfl ?_
      exact eseq_nil ⟨hTm6, Sub.set rfl (Sub.set rfl (Sub.set rfl (Sub.bool false rfl hg0))), rfl⟩
    replace h1 := h1.ext hBm6
    replace h2 := h2.ext hBm6
    replace h3 := h3.ext hBm6
    replace hT := hT.trans (Below.mono hBm6 hT.size)
    refine q_assign rfl rfl ?_
    refine eseq_nil ?_
    refine hK _ _ ?_; clear hK
    refine e_ret ?_
    exact ⟨_, res1 rfl rfl, by simpa using hc, hT⟩
  have hlen : a.length ≤ 40 ∧ b.length ≤ 40 ∧ c.length ≤ 40 := by simp at hc; omega
  refine e_skip ?_
  refine hK _ _ ?_; clear hK
  refine e_seq fun K hK => ?_
  refine e_region_text rfl ?_
  refine q_move rfl rfl ?_
  refine q_move rfl rfl ?_
  refine q_call rfl (merge26n h1 h2 (by omega) (by omega)) rfl ?_
  rintro v44 w7 ⟨f44, hB7⟩; refine ⟨fun _ => .of_below hB7, ?_⟩
  replace h1 := h1.ext hB7
  replace h2 := h2.ext hB7
  replace h3 := h3.ext hB7
  replace hT := hT.trans (Below.mono hB7 hT.size)
  refine q_assign rfl rfl ?_
  refine eseq_nil ?_
  refine hK _ _ ?_; clear hK
  refine e_seq fun K hK => ?_
  refine e_seq fun K hK => ?_
  refine e_region_text rfl ?_
  refine q_move rfl rfl ?_
  refine q_move rfl rfl ?_
  refine q_move rfl rfl ?_
  refine q_call rfl (mergeR26n h1 h2 (by omega) (by omega)) rfl ?_
  rintro v48 w8 ⟨f48, hB8⟩; refine ⟨fun _ => .of_below hB8, ?_⟩
  replace h1 := h1.ext hB8
  replace h2 := h2.ext hB8
  replace h3 := h3.ext hB8
  replace f44 := f44.ext hB8
  replace hT := hT.trans (Below.mono hB8 hT.size)
  refine q_call rfl (sameInts f44 f48 (by rw [mergeV_length]; omega)) rfl ?_
  rintro _ w9 ⟨rfl, hB9⟩; refine ⟨fun _ => .of_below hB9, ?_⟩
  replace h1 := h1.ext hB9
  replace h2 := h2.ext hB9
  replace h3 := h3.ext hB9
  replace f44 := f44.ext hB9
  replace f48 := f48.ext hB9
  replace hT := hT.trans (Below.mono hB9 hT.size)
  refine q_not rfl rfl ?_
  refine eseq_nil ?_
  refine hK _ _ ?_; clear hK
  refine e_cond rfl (fun hc2 => ?_) (fun hc2 => ?_)
  · skip
    simp at hc2
  refine e_skip ?_
  refine hK _ _ ?_; clear hK
  refine e_seq fun K hK => ?_
  refine e_region_text rfl ?_
  refine q_move rfl rfl ?_
  refine q_lenS rfl h1 rfl ?_
  refine q_move rfl rfl ?_
  refine q_lenS rfl h2 rfl ?_
  refine q_move rfl rfl ?_
  refine q_lenS rfl h3 rfl ?_
  obtain ⟨k, hk⟩ : ∃ k : Nat, k = min (min a.length b.length) c.length := ⟨_, rfl⟩
  refine q_min3 rfl rfl rfl rfl ?_
  rw [show min (min (a.length : Int) b.length) c.length = (k : Int) by omega]
  refine q_assign rfl rfl ?_
  refine eseq_nil ?_
  refine hK _ _ ?_; clear hK
  refine e_seq fun K hK => ?_
  refine e_region_draw mixed (fun _ => False) [0, 0, 3, 0, 0, 24, 0, 0, 192, 7, 575, 2047] [] [0, 1, 2, 3, 4, 5, 6, 7, 8, 9, 10, 11] (by kernel_rfl) ?_
  refine q_move rfl rfl ?_
  refine q_move rfl rfl ?_
  refine q_sliceH (by infer_instance) rfl h1 rfl (by first | omega | (simp; omega)) rfl fun v60 f60 => ?_
  refine q_move rfl rfl ?_
  refine q_move rfl rfl ?_
  refine q_sliceH (by infer_instance) rfl h2 rfl (by first | omega | (simp; omega)) rfl fun v63 f63 => ?_
  refine q_move rfl rfl ?_
  refine q_move rfl rfl ?_
  refine q_sliceH (by infer_instance) rfl h3 rfl (by first | omega | (simp; omega)) rfl fun v66 f66 => ?_
  refine q_assign rfl rfl ?_
  refine q_assign rfl rfl ?_
  refine q_assign rfl rfl ?_
  have ha : (a.take k).length = k := by simp; omega
  have hb : (b.take k).length = k := by simp; omega
  have hc0 : (c.take k).length = k := by simp; omega
  refine eseq_nil ?_
  refine hK _ _ ?_; clear hK
  refine e_seq fun K hK => ?_
  refine e_region_text rfl ?_
  refine q_move rfl rfl ?_
  refine q_move rfl rfl ?_
  refine q_call rfl (merge26n f60 f63 (by omega) (by omega)) rfl ?_
  rintro v69 w10 ⟨f69, hB10⟩; refine ⟨fun _ => .of_below hB10, ?_⟩
  replace h1 := h1.ext hB10
  replace h2 := h2.ext hB10
  replace h3 := h3.ext hB10
  replace f44 := f44.ext hB10
  replace f48 := f48.ext hB10
  replace f60 := f60.ext hB10
  replace f63 := f63.ext hB10
  replace f66 := f66.ext hB10
  replace hT := hT.trans (Below.mono hB10 hT.size)
  refine q_move rfl rfl ?_
  refine q_move rfl rfl ?_
  refine q_call rfl (merge26n f63 f60 (by omega) (by omega)) rfl ?_
  rintro v72 w11 ⟨f72, hB11⟩; refine ⟨fun _ => .of_below hB11, ?_⟩
  replace h1 := h1.ext hB11
  replace h2 := h2.ext hB11
  replace h3 := h3.ext hB11
  replace f44 := f44.ext hB11
  replace f48 := f48.ext hB11
  replace f60 := f60.ext hB11
  replace f63 := f63.ext hB11
  replace f66 := f66.ext hB11
  replace f69 := f69.ext hB11
  replace hT := hT.trans (Below.mono hB11 hT.size)
  refine q_call rfl (sameInts f69 f72 (by rw [mergeV_length]; omega)) rfl ?_
  rintro _ w12 ⟨rfl, hB12⟩; refine ⟨fun _ => .of_below hB12, ?_⟩
  replace h1 := h1.ext hB12
  replace h2 := h2.ext hB12
  replace h3 := h3.ext hB12
  replace f44 := f44.ext hB12
  replace f48 := f48.ext hB12
  replace f60 := f60.ext hB12
  replace f63 := f63.ext hB12
  replace f66 := f66.ext hB12
  replace f69 := f69.ext hB12
  replace f72 := f72.ext hB12
  replace hT := hT.trans (Below.mono hB12 hT.size)
  refine q_move rfl rfl ?_
  refine g_and 11 rfl trivial rfl rfl ?_; apply Exists.intro; refine ⟨fun hg => ?_, fun hg => ?_, fun wm13 hBm13 => ?_⟩
  · have hg0 := hg
    have hTm13 := Below.refl (World.heap w12).size w12
    try simp at hg
    refine g_run rfl ?_; refine q_move rfl rfl ?_
    refine g_run rfl ?_; refine q_move rfl rfl ?_
    refine g_run rfl ?_; refine q_call rfl (merge26n f60 f63 (by omega) (by omega)) rfl ?_
    rintro v77 w14 ⟨f77, hB14⟩; refine ⟨fun _ => .of_below hB14, ?_⟩
    replace h1 := h1.ext hB14
    replace h2 := h2.ext hB14
    replace h3 := h3.ext hB14
    replace f44 := f44.ext hB14
    replace f48 := f48.ext hB14
    replace f60 := f60.ext hB14
    replace f63 := f63.ext hB14
    replace f66 := f66.ext hB14
    replace f69 := f69.ext hB14
    replace f72 := f72.ext hB14
    replace hT := hT.trans (Below.mono hB14 hT.size)
    replace hTm13 := hTm13.trans (Below.mono hB14 hTm13.size)
    refine g_run rfl ?_; refine q_move rfl rfl ?_
    refine g_run rfl ?_; refine q_call rfl (merge26n f77 f66 (by rw [mergeV_length]; omega) (by omega)) rfl ?_
    rintro v79 w15 ⟨f79, hB15⟩; refine ⟨fun _ => .of_below hB15, ?_⟩
    replace h1 := h1.ext hB15
    replace h2 := h2.ext hB15
    replace h3 := h3.ext hB15
    replace f44 := f44.ext hB15
    replace f48 := f48.ext hB15
    replace f60 := f60.ext hB15
    replace f63 := f63.ext hB15
    replace f66 := f66.ext hB15
    replace f69 := f69.ext hB15
    replace f72 := f72.ext hB15
    replace f77 := f77.ext hB15
    replace hT := hT.trans (Below.mono hB15 hT.size)
    replace hTm13 := hTm13.trans (Below.mono hB15 hTm13.size)
    refine g_run rfl ?_; refine q_move rfl rfl ?_
    refine g_run rfl ?_; refine q_move rfl rfl ?_
    refine g_run rfl ?_; refine q_move rfl rfl ?_
    refine g_run rfl ?_; refine q_call rfl (merge26n f63 f66 (by omega) (by omega)) rfl ?_
    rintro v83 w16 ⟨f83, hB16⟩; refine ⟨fun _ => .of_below hB16, ?_⟩
    replace h1 := h1.ext hB16
    replace h2 := h2.ext hB16
    replace h3 := h3.ext hB16
    replace f44 := f44.ext hB16
    replace f48 := f48.ext hB16
    replace f60 := f60.ext hB16
    replace f63 := f63.ext hB16
    replace f66 := f66.ext hB16
    replace f69 := f69.ext hB16
    replace f72 := f72.ext hB16
    replace f77 := f77.ext hB16
    replace f79 := f79.ext hB16
    replace hT := hT.trans (Below.mono hB16 hT.size)
    replace hTm13 := hTm13.trans (Below.mono hB16 hTm13.size)
    refine g_run rfl ?_; refine q_call rfl (merge26n f60 f83 (by omega) (by rw [mergeV_length]; omega)) rfl ?_
    rintro v84 w17 ⟨f84, hB17⟩; refine ⟨fun _ => .of_below hB17, ?_⟩
    replace h1 := h1.ext hB17
    replace h2 := h2.ext hB17
    replace h3 := h3.ext hB17
    replace f44 := f44.ext hB17
    replace f48 := f48.ext hB17
    replace f60 := f60.ext hB17
    replace f63 := f63.ext hB17
    replace f66 := f66.ext hB17
    replace f69 := f69.ext hB17
    replace f72 := f72.ext hB17
    replace f77 := f77.ext hB17
    replace f79 := f79.ext hB17
    replace f83 := f83.ext hB17
    replace hT := hT.trans (Below.mono hB17 hT.size)
    replace hTm13 := hTm13.trans (Below.mono hB17 hTm13.size)
    refine g_run rfl ?_; refine q_call rfl (sameInts f79 f84 (by rw [mergeV_length, mergeV_length]; omega)) rfl ?_
    rintro _ w18 ⟨rfl, hB18⟩; refine ⟨fun _ => .of_below hB18, ?_⟩
    replace h1 := h1.ext hB18
    replace h2 := h2.ext hB18
    replace h3 := h3.ext hB18
    replace f44 := f44.ext hB18
    replace f48 := f48.ext hB18
    replace f60 := f60.ext hB18
    replace f63 := f63.ext hB18
    replace f66 := f66.ext hB18
    replace f69 := f69.ext hB18
    replace f72 := f72.ext hB18
    replace f77 := f77.ext hB18
    replace f79 := f79.ext hB18
    replace f83 := f83.ext hB18
    replace f84 := f84.ext hB18
    replace hT := hT.trans (Below.mono hB18 hT.size)
    replace hTm13 := hTm13.trans (Below.mono hB18 hTm13.size)
    exact eseq_nil ⟨hTm13, Sub.set rfl (Sub.set rfl (Sub.set rfl (Sub.set rfl (Sub.set rfl (Sub.set rfl (Sub.set rfl (Sub.set rfl (Sub.set rfl (Sub.set rfl (Sub.set rfl (Sub.bool true rfl hg0))))))))))), rfl⟩
  · have hg0 := hg
    refine g_skip rfl rfl rfl ?_
    refine g_skip rfl rfl rfl ?_
    refine g_skip rfl rfl rfl ?_
    refine g_skip rfl rfl rfl ?_
    refine g_skip rfl rfl rfl ?_
    refine g_skip rfl rfl rfl ?_
    refine g_skip rfl rfl rfl ?_
    refine g_skip rfl rfl rfl ?_
    refine g_skip rfl rfl rfl ?_
    refine g_skip rfl rfl rfl ?_
    refine g_skip rfl rfl rfl ?_
    exact eseq_nil ⟨rfl, Sub.set rfl (Sub.set rfl (Sub.set rfl (Sub.set rfl (Sub.set rfl (Sub.set rfl (Sub.set rfl (Sub.set rfl (Sub.set rfl (Sub.set rfl (Sub.set rfl (Sub.bool false rfl hg0)))))))))))⟩
  replace h1 := h1.ext hBm13
  replace h2 := h2.ext hBm13
  replace h3 := h3.ext hBm13
  replace f44 := f44.ext hBm13
  replace f48 := f48.ext hBm13
  replace f60 := f60.ext hBm13
  replace f63 := f63.ext hBm13
  replace f66 := f66.ext hBm13
  replace f69 := f69.ext hBm13
  replace f72 := f72.ext hBm13
  replace hT := hT.trans (Below.mono hBm13 hT.size)
  refine q_assign rfl rfl ?_
  refine eseq_nil ?_
  refine hK _ _ ?_; clear hK
  refine e_ret ?_
  exact ⟨_, res1 rfl rfl, by simp [mergeV_comm (show (a.take k).length = (b.take k).length by omega), ← mergeV_assoc (show (a.take k).length = (b.take k).length by omega) (show (b.take k).length = (c.take k).length by omega)], hT⟩

theorem forces_walk (h1 : IsSlice Ty.int w S1 v1 a) (h2 : IsSlice Ty.int w S2 v2 b) (rule : Int) (hr : I64 rule) (s t : Bool) :
    Gives Try.prog 6 [.int .i64 rule, v1, v2, .bool s, .bool t] w fun v w' => v = .bool true ∧ Below w.heap.size w w' := by
  refine fn_of Try.func6 rfl Try.ntmps6 (Nat.le_of_ble_eq_true rfl) ?_
  have hT := Below.refl w.heap.size w
  refine e_seq fun K hK => ?_
  refine e_region_text rfl ?_
  refine q_assign rfl rfl ?_
  refine eseq_nil ?_
  refine hK _ _ ?_; clear hK
  refine e_seq fun K hK => ?_
  refine e_seq fun K hK => ?_
  refine e_region_text rfl ?_
  refine q_call rfl (awake26) rfl ?_
  rintro _ w1 ⟨rfl, hB1⟩; refine ⟨fun _ => .of_below hB1, ?_⟩
  replace h1 := h1.ext hB1
  replace h2 := h2.ext hB1
  replace hT := hT.trans (Below.mono hB1 hT.size)
  refine q_not rfl rfl ?_
  refine q_move rfl rfl ?_
  refine g_or 3 rfl trivial rfl rfl ?_; apply Exists.intro; refine ⟨fun hg => ?_, fun hg => ?_, fun wm2 hBm2 => ?_⟩
  · have hg0 := hg
    refine g_skip rfl rfl rfl ?_
    refine g_skip rfl rfl rfl ?_
    refine g_skip rfl rfl rfl ?_
    exact eseq_nil ⟨rfl, Sub.set rfl (Sub.set rfl (Sub.set rfl (Sub.bool true rfl hg0)))⟩
  · have hg0 := hg
    have hTm2 := Below.refl (World.heap w1).size w1
    try simp at hg
    refine g_run rfl ?_; refine q_move rfl rfl ?_
    refine g_run rfl ?_; refine q_lenS rfl h1 rfl ?_
    refine g_run rfl ?_; refine q_gtr rfl rfl rfl ?_
    exact eseq_nil ⟨hTm2, Sub.set rfl (Sub.set rfl (Sub.set rfl (Sub.bool false rfl hg0))), rfl⟩
  replace h1 := h1.ext hBm2
  replace h2 := h2.ext hBm2
  replace hT := hT.trans (Below.mono hBm2 hT.size)
  refine q_move rfl rfl ?_
  refine g_or 3 rfl trivial rfl rfl ?_; apply Exists.intro; refine ⟨fun hg => ?_, fun hg => ?_, fun wm3 hBm3 => ?_⟩
  · have hg0 := hg
    refine g_skip rfl rfl rfl ?_
    refine g_skip rfl rfl rfl ?_
    refine g_skip rfl rfl rfl ?_
    exact eseq_nil ⟨rfl, Sub.set rfl (Sub.set rfl (Sub.set rfl (Sub.bool true rfl hg0)))⟩
  · have hg0 := hg
    have hTm3 := Below.refl (World.heap wm2).size wm2
    try simp at hg
    refine g_run rfl ?_; refine q_move rfl rfl ?_
    refine g_run rfl ?_; refine q_lenS rfl h2 rfl ?_
    refine g_run rfl ?_; refine q_gtr rfl rfl rfl ?_
    exact eseq_nil ⟨hTm3, Sub.set rfl (Sub.set rfl (Sub.set rfl (Sub.bool false rfl hg0))), rfl⟩
  replace h1 := h1.ext hBm3
  replace h2 := h2.ext hBm3
  replace hT := hT.trans (Below.mono hBm3 hT.size)
  refine eseq_nil ?_
  refine hK _ _ ?_; clear hK
  refine e_cond rfl (fun hc => ?_) (fun hc => ?_)
  · skip
    refine e_seq fun K hK => ?_
    refine e_region_text rfl ?_
    refine q_move rfl rfl ?_
    refine q_lenS rfl h1 rfl ?_
    refine q_gtr rfl rfl rfl ?_
    refine q_move rfl rfl ?_
    refine g_or 3 rfl trivial rfl rfl ?_; apply Exists.intro; refine ⟨fun hg => ?_, fun hg => ?_, fun wm4 hBm4 => ?_⟩
    · have hg0 := hg
      refine g_skip rfl rfl rfl ?_
      refine g_skip rfl rfl rfl ?_
      refine g_skip rfl rfl rfl ?_
      exact eseq_nil ⟨rfl, Sub.set rfl (Sub.set rfl (Sub.set rfl (Sub.bool true rfl hg0)))⟩
    · have hg0 := hg
      have hTm4 := Below.refl (World.heap wm3).size wm3
      try simp at hg
      refine g_run rfl ?_; refine q_move rfl rfl ?_
      refine g_run rfl ?_; refine q_lenS rfl h2 rfl ?_
      refine g_run rfl ?_; refine q_gtr rfl rfl rfl ?_
      exact eseq_nil ⟨hTm4, Sub.set rfl (Sub.set rfl (Sub.set rfl (Sub.bool false rfl hg0))), rfl⟩
    replace h1 := h1.ext hBm4
    replace h2 := h2.ext hBm4
    replace hT := hT.trans (Below.mono hBm4 hT.size)
    refine q_assign rfl rfl ?_
    refine eseq_nil ?_
    refine hK _ _ ?_; clear hK
    refine e_ret ?_
    exact ⟨_, res1 rfl rfl, by simpa using hc, hT⟩
  have hlen : a.length ≤ 40 ∧ b.length ≤ 40 := by simp at hc; omega
  refine e_skip ?_
  refine hK _ _ ?_; clear hK
  refine e_seq fun K hK => ?_
  refine e_region_text rfl ?_
  refine q_move rfl rfl ?_
  refine q_call rfl (modm rule 6 hr (by decide) (by decide)) rfl ?_
  rintro _ w5 ⟨rfl, hB5⟩; refine ⟨fun _ => .of_below hB5, ?_⟩
  replace h1 := h1.ext hB5
  replace h2 := h2.ext hB5
  replace hT := hT.trans (Below.mono hB5 hT.size)
  refine q_assign rfl rfl ?_
  refine eseq_nil ?_
  refine hK _ _ ?_; clear hK
  refine e_seq fun K hK => ?_
  refine e_region_text rfl ?_
  refine q_move rfl rfl ?_
  refine q_move rfl rfl ?_
  refine q_move rfl rfl ?_
  refine q_move rfl rfl ?_
  refine q_move rfl rfl ?_
  refine q_call rfl (forces26 h1 h2 (by omega) (by omega) rule s t) rfl ?_
  rintro _ w6 ⟨rfl, hB6⟩; refine ⟨fun _ => .of_below hB6, ?_⟩
  replace h1 := h1.ext hB6
  replace h2 := h2.ext hB6
  replace hT := hT.trans (Below.mono hB6 hT.size)
  refine q_move rfl rfl ?_
  refine q_move rfl rfl ?_
  refine q_move rfl rfl ?_
  refine q_move rfl rfl ?_
  refine q_move rfl rfl ?_
  refine q_call rfl (forcesR26 h1 h2 (by omega) (by omega) rule s t) rfl ?_
  rintro _ w7 ⟨rfl, hB7⟩; refine ⟨fun _ => .of_below hB7, ?_⟩
  replace h1 := h1.ext hB7
  replace h2 := h2.ext hB7
  replace hT := hT.trans (Below.mono hB7 hT.size)
  refine q_eqlB rfl rfl rfl ?_
  refine q_move rfl rfl ?_
  refine g_and 13 rfl trivial rfl rfl ?_; apply Exists.intro; refine ⟨fun hg => ?_, fun hg => ?_, fun wm8 hBm8 => ?_⟩
  · have hg0 := hg
    have hTm8 := Below.refl (World.heap w7).size w7
    try simp at hg
    refine g_run rfl ?_; refine q_move rfl rfl ?_
    refine g_run rfl ?_; refine q_move rfl rfl ?_
    refine g_run rfl ?_; refine q_move rfl rfl ?_
    refine g_run rfl ?_; refine q_move rfl rfl ?_
    refine g_run rfl ?_; refine q_move rfl rfl ?_
    refine g_run rfl ?_; refine q_call rfl (forces26 h1 h2 (by omega) (by omega) (rule % 6) s t) rfl ?_
    rintro _ w9 ⟨rfl, hB9⟩; refine ⟨fun _ => .of_below hB9, ?_⟩
    replace h1 := h1.ext hB9
    replace h2 := h2.ext hB9
    replace hT := hT.trans (Below.mono hB9 hT.size)
    replace hTm8 := hTm8.trans (Below.mono hB9 hTm8.size)
    refine g_run rfl ?_; refine q_move rfl rfl ?_
    refine g_run rfl ?_; refine q_move rfl rfl ?_
    refine g_run rfl ?_; refine q_move rfl rfl ?_
    refine g_run rfl ?_; refine q_move rfl rfl ?_
    refine g_run rfl ?_; refine q_move rfl rfl ?_
    refine g_run rfl ?_; refine q_call rfl (forcesR26 h1 h2 (by omega) (by omega) (rule % 6) s t) rfl ?_
    rintro _ w10 ⟨rfl, hB10⟩; refine ⟨fun _ => .of_below hB10, ?_⟩
    replace h1 := h1.ext hB10
    replace h2 := h2.ext hB10
    replace hT := hT.trans (Below.mono hB10 hT.size)
    replace hTm8 := hTm8.trans (Below.mono hB10 hTm8.size)
    refine g_run rfl ?_; refine q_eqlB rfl rfl rfl ?_
    exact eseq_nil ⟨hTm8, Sub.set rfl (Sub.set rfl (Sub.set rfl (Sub.set rfl (Sub.set rfl (Sub.set rfl (Sub.set rfl (Sub.set rfl (Sub.set rfl (Sub.set rfl (Sub.set rfl (Sub.set rfl (Sub.set rfl (Sub.bool true rfl hg0))))))))))))), rfl⟩
  · have hg0 := hg
    refine g_skip rfl rfl rfl ?_
    refine g_skip rfl rfl rfl ?_
    refine g_skip rfl rfl rfl ?_
    refine g_skip rfl rfl rfl ?_
    refine g_skip rfl rfl rfl ?_
    refine g_skip rfl rfl rfl ?_
    refine g_skip rfl rfl rfl ?_
    refine g_skip rfl rfl rfl ?_
    refine g_skip rfl rfl rfl ?_
    refine g_skip rfl rfl rfl ?_
    refine g_skip rfl rfl rfl ?_
    refine g_skip rfl rfl rfl ?_
    refine g_skip rfl rfl rfl ?_
    exact eseq_nil ⟨rfl, Sub.set rfl (Sub.set rfl (Sub.set rfl (Sub.set rfl (Sub.set rfl (Sub.set rfl (Sub.set rfl (Sub.set rfl (Sub.set rfl (Sub.set rfl (Sub.set rfl (Sub.set rfl (Sub.set rfl (Sub.bool false rfl hg0)))))))))))))⟩
  replace h1 := h1.ext hBm8
  replace h2 := h2.ext hBm8
  replace hT := hT.trans (Below.mono hBm8 hT.size)
  refine q_assign rfl rfl ?_
  refine eseq_nil ?_
  refine hK _ _ ?_; clear hK
  refine e_ret ?_
  exact ⟨_, res1 rfl rfl, by simp, hT⟩

theorem implies_walk (h1 : IsSlice Ty.int w S1 v1 a) (h2 : IsSlice Ty.int w S2 v2 b) (s t : Bool) :
    Gives Try.prog 7 [v1, v2, .bool s, .bool t] w fun v w' => v = .bool true ∧ Below w.heap.size w w' := by
  refine fn_of Try.func7 rfl Try.ntmps7 (Nat.le_of_ble_eq_true rfl) ?_
  have hT := Below.refl w.heap.size w
  refine e_seq fun K hK => ?_
  refine e_region_text rfl ?_
  refine q_assign rfl rfl ?_
  refine eseq_nil ?_
  refine hK _ _ ?_; clear hK
  refine e_seq fun K hK => ?_
  refine e_seq fun K hK => ?_
  refine e_region_text rfl ?_
  refine q_call rfl (awake26) rfl ?_
  rintro _ w1 ⟨rfl, hB1⟩; refine ⟨fun _ => .of_below hB1, ?_⟩
  replace h1 := h1.ext hB1
  replace h2 := h2.ext hB1
  replace hT := hT.trans (Below.mono hB1 hT.size)
  refine q_not rfl rfl ?_
  refine q_move rfl rfl ?_
  refine g_or 3 rfl trivial rfl rfl ?_; apply Exists.intro; refine ⟨fun hg => ?_, fun hg => ?_, fun wm2 hBm2 => ?_⟩
  · have hg0 := hg
    refine g_skip rfl rfl rfl ?_
    refine g_skip rfl rfl rfl ?_
    refine g_skip rfl rfl rfl ?_
    exact eseq_nil ⟨rfl, Sub.set rfl (Sub.set rfl (Sub.set rfl (Sub.bool true rfl hg0)))⟩
  · have hg0 := hg
    have hTm2 := Below.refl (World.heap w1).size w1
    try simp at hg
    refine g_run rfl ?_; refine q_move rfl rfl ?_
    refine g_run rfl ?_; refine q_lenS rfl h1 rfl ?_
    refine g_run rfl ?_; refine q_gtr rfl rfl rfl ?_
    exact eseq_nil ⟨hTm2, Sub.set rfl (Sub.set rfl (Sub.set rfl (Sub.bool false rfl hg0))), rfl⟩
  replace h1 := h1.ext hBm2
  replace h2 := h2.ext hBm2
  replace hT := hT.trans (Below.mono hBm2 hT.size)
  refine q_move rfl rfl ?_
  refine g_or 3 rfl trivial rfl rfl ?_; apply Exists.intro; refine ⟨fun hg => ?_, fun hg => ?_, fun wm3 hBm3 => ?_⟩
  · have hg0 := hg
    refine g_skip rfl rfl rfl ?_
    refine g_skip rfl rfl rfl ?_
    refine g_skip rfl rfl rfl ?_
    exact eseq_nil ⟨rfl, Sub.set rfl (Sub.set rfl (Sub.set rfl (Sub.bool true rfl hg0)))⟩
  · have hg0 := hg
    have hTm3 := Below.refl (World.heap wm2).size wm2
    try simp at hg
    refine g_run rfl ?_; refine q_move rfl rfl ?_
    refine g_run rfl ?_; refine q_lenS rfl h2 rfl ?_
    refine g_run rfl ?_; refine q_gtr rfl rfl rfl ?_
    exact eseq_nil ⟨hTm3, Sub.set rfl (Sub.set rfl (Sub.set rfl (Sub.bool false rfl hg0))), rfl⟩
  replace h1 := h1.ext hBm3
  replace h2 := h2.ext hBm3
  replace hT := hT.trans (Below.mono hBm3 hT.size)
  refine eseq_nil ?_
  refine hK _ _ ?_; clear hK
  refine e_cond rfl (fun hc => ?_) (fun hc => ?_)
  · skip
    refine e_seq fun K hK => ?_
    refine e_region_text rfl ?_
    refine q_move rfl rfl ?_
    refine q_lenS rfl h1 rfl ?_
    refine q_gtr rfl rfl rfl ?_
    refine q_move rfl rfl ?_
    refine g_or 3 rfl trivial rfl rfl ?_; apply Exists.intro; refine ⟨fun hg => ?_, fun hg => ?_, fun wm4 hBm4 => ?_⟩
    · have hg0 := hg
      refine g_skip rfl rfl rfl ?_
      refine g_skip rfl rfl rfl ?_
      refine g_skip rfl rfl rfl ?_
      exact eseq_nil ⟨rfl, Sub.set rfl (Sub.set rfl (Sub.set rfl (Sub.bool true rfl hg0)))⟩
    · have hg0 := hg
      have hTm4 := Below.refl (World.heap wm3).size wm3
      try simp at hg
      refine g_run rfl ?_; refine q_move rfl rfl ?_
      refine g_run rfl ?_; refine q_lenS rfl h2 rfl ?_
      refine g_run rfl ?_; refine q_gtr rfl rfl rfl ?_
      exact eseq_nil ⟨hTm4, Sub.set rfl (Sub.set rfl (Sub.set rfl (Sub.bool false rfl hg0))), rfl⟩
    replace h1 := h1.ext hBm4
    replace h2 := h2.ext hBm4
    replace hT := hT.trans (Below.mono hBm4 hT.size)
    refine q_assign rfl rfl ?_
    refine eseq_nil ?_
    refine hK _ _ ?_; clear hK
    refine e_ret ?_
    exact ⟨_, res1 rfl rfl, by simpa using hc, hT⟩
  have hlen : a.length ≤ 40 ∧ b.length ≤ 40 := by simp at hc; omega
  refine e_skip ?_
  refine hK _ _ ?_; clear hK
  refine e_seq fun K hK => ?_
  refine e_region_text rfl ?_
  refine q_move rfl rfl ?_
  refine q_move rfl rfl ?_
  refine g_or 1 rfl trivial rfl rfl ?_; apply Exists.intro; refine ⟨fun hg => ?_, fun hg => ?_, fun wm5 hBm5 => ?_⟩
  · have hg0 := hg
    refine g_skip rfl rfl rfl ?_
    exact eseq_nil ⟨rfl, Sub.set rfl (Sub.bool true rfl hg0)⟩
  · have hg0 := hg
    have hTm5 := Below.refl (World.heap wm3).size wm3
    try simp at hg
    refine g_run rfl ?_; refine q_move rfl rfl ?_
    exact eseq_nil ⟨hTm5, Sub.set rfl (Sub.bool false rfl hg0), rfl⟩
  replace h1 := h1.ext hBm5
  replace h2 := h2.ext hBm5
  replace hT := hT.trans (Below.mono hBm5 hT.size)
  refine q_assign rfl rfl ?_
  refine eseq_nil ?_
  refine hK _ _ ?_; clear hK
  refine e_seq fun K hK => ?_
  refine e_region_text rfl ?_
  refine q_move rfl rfl ?_
  refine q_move rfl rfl ?_
  refine q_move rfl rfl ?_
  refine q_move rfl rfl ?_
  refine q_call rfl (forces26 h1 h2 (by omega) (by omega) 1 s (t || s)) rfl ?_
  rintro _ w6 ⟨rfl, hB6⟩; refine ⟨fun _ => .of_below hB6, ?_⟩
  replace h1 := h1.ext hB6
  replace h2 := h2.ext hB6
  replace hT := hT.trans (Below.mono hB6 hT.size)
  refine q_assign rfl rfl ?_
  refine eseq_nil ?_
  refine hK _ _ ?_; clear hK
  refine e_seq fun K hK => ?_
  refine e_region_text rfl ?_
  refine q_move rfl rfl ?_
  refine q_move rfl rfl ?_
  refine q_move rfl rfl ?_
  refine q_move rfl rfl ?_
  refine q_call rfl (forces26 h1 h2 (by omega) (by omega) 2 s (t || s)) rfl ?_
  rintro _ w7 ⟨rfl, hB7⟩; refine ⟨fun _ => .of_below hB7, ?_⟩
  replace h1 := h1.ext hB7
  replace h2 := h2.ext hB7
  replace hT := hT.trans (Below.mono hB7 hT.size)
  refine q_assign rfl rfl ?_
  refine eseq_nil ?_
  refine hK _ _ ?_; clear hK
  refine e_seq fun K hK => ?_
  refine e_region_text rfl ?_
  refine q_move rfl rfl ?_
  refine q_move rfl rfl ?_
  refine q_move rfl rfl ?_
  refine q_move rfl rfl ?_
  refine q_call rfl (forces26 h1 h2 (by omega) (by omega) 3 s (t || s)) rfl ?_
  rintro _ w8 ⟨rfl, hB8⟩; refine ⟨fun _ => .of_below hB8, ?_⟩
  replace h1 := h1.ext hB8
  replace h2 := h2.ext hB8
  replace hT := hT.trans (Below.mono hB8 hT.size)
  refine q_assign rfl rfl ?_
  refine eseq_nil ?_
  refine hK _ _ ?_; clear hK
  refine e_seq fun K hK => ?_
  refine e_region_text rfl ?_
  refine q_move rfl rfl ?_
  refine q_move rfl rfl ?_
  refine q_move rfl rfl ?_
  refine q_move rfl rfl ?_
  refine q_call rfl (forces26 h1 h2 (by omega) (by omega) 4 s (t || s)) rfl ?_
  rintro _ w9 ⟨rfl, hB9⟩; refine ⟨fun _ => .of_below hB9, ?_⟩
  replace h1 := h1.ext hB9
  replace h2 := h2.ext hB9
  replace hT := hT.trans (Below.mono hB9 hT.size)
  refine q_assign rfl rfl ?_
  refine eseq_nil ?_
  refine hK _ _ ?_; clear hK
  refine e_seq fun K hK => ?_
  refine e_region_text rfl ?_
  refine q_move rfl rfl ?_
  refine q_not rfl rfl ?_
  refine q_move rfl rfl ?_
  refine g_or 4 rfl trivial rfl rfl ?_; apply Exists.intro; refine ⟨fun hg => ?_, fun hg => ?_, fun wm10 hBm10 => ?_⟩
  · have hg0 := hg
    refine g_skip rfl rfl rfl ?_
    refine g_skip rfl rfl rfl ?_
    refine g_skipU rfl rfl ?_
    refine g_skip rfl rfl rfl ?_
    exact eseq_nil ⟨rfl, Sub.set rfl (Sub.set rfl (Sub.set rfl (Sub.set rfl (Sub.bool true rfl hg0))))⟩
  · have hg0 := hg
    have hTm10 := Below.refl (World.heap w9).size w9
    try simp at hg
    refine g_run rfl ?_; refine q_move rfl rfl ?_
    refine g_run rfl ?_; refine q_move rfl rfl ?_
    refine g_and 1 rfl rfl rfl rfl ?_; apply Exists.intro; refine ⟨fun hg => ?_, fun hg => ?_, fun wm11 hBm11 => ?_⟩
    · have hg0 := hg
      have hTm11 := Below.refl (World.heap w9).size w9
      try simp at hg
      refine g_run rfl ?_; refine q_move rfl rfl ?_
      exact eseq_nil ⟨hTm11, Sub.set rfl (Sub.bool true rfl hg0), rfl⟩
    · have hg0 := hg
      refine g_skip rfl rfl rfl ?_
      exact eseq_nil ⟨rfl, Sub.set rfl (Sub.bool false rfl hg0)⟩
    replace h1 := h1.ext hBm11
    replace h2 := h2.ext hBm11
    replace hT := hT.trans (Below.mono hBm11 hT.size)
    replace hTm10 := hTm10.trans (Below.mono hBm11 hTm10.size)
    exact eseq_nil ⟨hTm10, Sub.set rfl (Sub.set rfl (Sub.set rfl (Sub.bool false rfl hg0))), rfl⟩
  replace h1 := h1.ext hBm10
  replace h2 := h2.ext hBm10
  replace hT := hT.trans (Below.mono hBm10 hT.size)
  refine q_move rfl rfl ?_
  refine g_and 9 rfl trivial rfl rfl ?_; apply Exists.intro; refine ⟨fun hg => ?_, fun hg => ?_, fun wm12 hBm12 => ?_⟩
  · have hg0 := hg
    have hTm12 := Below.refl (World.heap wm10).size wm10
    try simp at hg
    refine g_run rfl ?_; refine q_move rfl rfl ?_
    refine g_run rfl ?_; refine q_not rfl rfl ?_
    refine g_run rfl ?_; refine q_move rfl rfl ?_
    refine g_and 2 rfl rfl rfl rfl ?_; apply Exists.intro; refine ⟨fun hg => ?_, fun hg => ?_, fun wm13 hBm13 => ?_⟩
    · have hg0 := hg
      have hTm13 := Below.refl (World.heap wm10).size wm10
      try simp at hg
      refine g_run rfl ?_; refine q_move rfl rfl ?_
      refine g_run rfl ?_; refine q_not rfl rfl ?_
      exact eseq_nil ⟨hTm13, Sub.set rfl (Sub.set rfl (Sub.bool true rfl hg0)), rfl⟩
    · have hg0 := hg
      refine g_skip rfl rfl rfl ?_
      refine g_skip rfl rfl rfl ?_
      exact eseq_nil ⟨rfl, Sub.set rfl (Sub.set rfl (Sub.bool false rfl hg0))⟩
    replace h1 := h1.ext hBm13
    replace h2 := h2.ext hBm13
    replace hT := hT.trans (Below.mono hBm13 hT.size)
    replace hTm12 := hTm12.trans (Below.mono hBm13 hTm12.size)
    refine g_run rfl ?_; refine q_move rfl rfl ?_
    refine g_or 1 rfl rfl rfl rfl ?_; apply Exists.intro; refine ⟨fun hg => ?_, fun hg => ?_, fun wm14 hBm14 => ?_⟩
    · have hg0 := hg
      refine g_skip rfl rfl rfl ?_
      exact eseq_nil ⟨rfl, Sub.set rfl (Sub.bool true rfl hg0)⟩
    · have hg0 := hg
      have hTm14 := Below.refl (World.heap wm13).size wm13
      try simp at hg
      refine g_run rfl ?_; refine q_move rfl rfl ?_
      exact eseq_nil ⟨hTm14, Sub.set rfl (Sub.bool false rfl hg0), rfl⟩
    replace h1 := h1.ext hBm14
    replace h2 := h2.ext hBm14
    replace hT := hT.trans (Below.mono hBm14 hT.size)
    replace hTm12 := hTm12.trans (Below.mono hBm14 hTm12.size)
    exact eseq_nil ⟨hTm12, Sub.set rfl (Sub.set rfl (Sub.set rfl (Sub.set rfl (Sub.set rfl (Sub.set rfl (Sub.bool true rfl hg0)))))), rfl⟩
  · have hg0 := hg
    refine g_skip rfl rfl rfl ?_
    refine g_skip rfl rfl rfl ?_
    refine g_skip rfl rfl rfl ?_
    refine g_skipU rfl rfl ?_
    refine g_skipU rfl rfl ?_
    refine g_skip rfl rfl rfl ?_
    refine g_skip rfl rfl rfl ?_
    refine g_skipU rfl rfl ?_
    refine g_skip rfl rfl rfl ?_
    exact eseq_nil ⟨rfl, Sub.set rfl (Sub.set rfl (Sub.set rfl (Sub.set rfl (Sub.set rfl (Sub.set rfl (Sub.set rfl (Sub.set rfl (Sub.set rfl (Sub.bool false rfl hg0)))))))))⟩
  replace h1 := h1.ext hBm12
  replace h2 := h2.ext hBm12
  replace hT := hT.trans (Below.mono hBm12 hT.size)
  refine q_assign rfl rfl ?_
  refine eseq_nil ?_
  refine hK _ _ ?_; clear hK
  refine e_ret ?_
  exact ⟨_, res1 rfl rfl, by simp [forcesV]; cases s <;> cases t <;> cases newV a b <;> simp, hT⟩
end Go.Proofs.Ythbnbkgijdkcbaa
