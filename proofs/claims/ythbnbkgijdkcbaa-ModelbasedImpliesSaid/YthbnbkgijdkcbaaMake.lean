/- The choices of the drawn inputs: Codes, New, Left, Next, Mod, Int. -/
import Derived.Test.YthbnbkgijdkcbaaData
set_option linter.unusedSimpArgs false
set_option linter.unusedVariables false
namespace Go.Mine
open Go.RowKit
def CodesIn (S : Nat → Prop) (B : Nat) (cs : List Int) (w : World) : Prop :=
  ∃ vl l, ∃ i : Nat, Blk w B [vl, .int .i64 i] 100 ∧ IsSlice Ty.u8 w S vl l ∧ i ≤ l.length ∧ l.length ≤ 1000000 ∧ cs = l.drop i ∧ ∀ c ∈ l, U8 c
def HP.codes (S : Nat → Prop) (B : Nat) (cs : List Int) : HP := ⟨fun k => k = B, S, CodesIn S B cs, fun {w w'} hk h => by
  obtain ⟨vl, l, i, hb, hl, h1⟩ := h
  refine ⟨vl, l, i, ?_, hl.kept ⟨hk.size, fun k hs hlt => hk.block k (.inr hs) hlt⟩, h1⟩
  unfold Blk at *; rw [hk.block B (.inl rfl) (Array.getElem?_eq_some_iff.1 hb).1]; exact hb⟩
/-- the number that the next choice makes -/
def nx (n : Int) (cs : List Int) : Int := cs.headD 0 % n
theorem nx_range {n : Int} {cs : List Int} (h : 0 < n) : 0 ≤ nx n cs ∧ nx n cs < n := ⟨Int.emod_nonneg _ (by omega), Int.emod_lt_of_pos _ h⟩
def greats : List Int := [9223372036854775807, -9223372036854775808, 2147483648, -1, 63, 64, -65, 127, 128, 1099511627776]
/-- a number, now and then a great one; and the choices that are left -/
def intE (cs : List Int) : Int × List Int := if nx 6 cs = 5 then (nth greats (nx 10 cs.tail).toNat, cs.tail.tail) else (nx 12 cs.tail - 2, cs.tail.tail)
end Go.Mine
namespace Go.Proofs.Ythbnbkgijdkcbaa
open Go.RowKit Go.Mine
attribute [local irreducible] eseq ewp
variable {w : World} {F R S : Nat → Prop} {B : Nat} {cs : List Int}

theorem left (h : Sep F R R w w [HP.codes S B cs]) : Gives Try.prog 53 [.pointer (some ⟨B, 0, none⟩)] w fun v w' => v = .bool (!cs.isEmpty) ∧ Below w.heap.size w w' := by
  obtain ⟨vl, l, i, hb, hl, hi, hm, hcs, hu⟩ := h.get 0 rfl
  refine fn_of Try.func53 rfl Try.ntmps53 (Nat.le_of_ble_eq_true rfl) ?_
  have hT := Below.refl w.heap.size w
  refine e_seq fun K hK => ?_
  refine e_region_text rfl ?_
  refine q_assign rfl rfl ?_
  refine eseq_nil ?_
  refine hK _ _ ?_; clear hK
  refine e_seq fun K hK => ?_
  refine e_region_draw mixed (fun _ => False) [0, 1, 3, 7, 0, 16, 48, 112, 240, 511, 1023] [] [0, 1, 2, 3, 4, 5, 6, 7, 8, 9, 10] (by kernel_rfl) ?_
  refine q_move rfl rfl ?_
  refine q_nilCheck rfl rfl ?_
  refine q_field rfl rfl ?_
  refine q_load rfl (Blk.cell hb rfl) rfl ?_
  refine q_move rfl rfl ?_
  refine q_nilCheck rfl rfl ?_
  refine q_field rfl rfl ?_
  refine q_load rfl (Blk.cell hb rfl) rfl ?_
  refine q_lenS rfl hl rfl ?_
  refine q_lss rfl rfl rfl ?_
  refine q_assign rfl rfl ?_
  refine eseq_nil ?_
  refine hK _ _ ?_; clear hK
  refine e_ret ?_
  exact ⟨_, res1 rfl rfl, by
    rw [hcs]
    rcases Nat.lt_or_ge i l.length with h1 | h1
    · have : l.drop i ≠ [] := by intro h2; have := congrArg List.length h2; simp at this; omega
      simp [h1, this]
    · simp [List.drop_eq_nil_of_le h1]; omega, hT⟩

theorem next (h : Sep F R R w w [HP.codes S B cs]) (n : Int) (hn : 0 < n) (hn2 : n ≤ 1000000) : Gives Try.prog 31 [.pointer (some ⟨B, 0, none⟩), .int .i64 n] w fun v w' => v = .int .i64 (nx n cs) ∧ Sep F R R w w' [HP.codes S B cs.tail] := by
  obtain ⟨vl, l, i, hb, hl, hi, hm, hcs, hu⟩ := h.get 0 rfl
  have hSB : ∀ k, S k → k ≠ B := fun k hk he => h.off 0 rfl k (h.depR 0 rfl k hk) he
  refine fn_of Try.func31 rfl Try.ntmps31 (Nat.le_of_ble_eq_true rfl) ?_
  have hT := Below.refl w.heap.size w
  refine e_seq fun K hK => ?_
  refine e_region_text rfl ?_
  refine q_assign rfl rfl ?_
  refine eseq_nil ?_
  refine hK _ _ ?_; clear hK
  refine e_seq fun K hK => ?_
  refine e_seq fun K hK => ?_
  refine e_region_text rfl ?_
  refine q_move rfl rfl ?_
  refine q_call rfl (left h) rfl ?_
  rintro _ w1 ⟨rfl, hB1⟩; refine ⟨fun _ => .of_below hB1, ?_⟩
  replace hl := hl.ext hB1
  replace hb := hb.ext hB1
  replace hT := hT.trans (Below.mono hB1 hT.size)
  refine q_not rfl rfl ?_
  refine eseq_nil ?_
  refine hK _ _ ?_; clear hK
  refine e_cond rfl (fun hc => ?_) (fun hc => ?_)
  · skip
    refine e_seq fun K hK => ?_
    refine e_region_text rfl ?_
    refine q_assign rfl rfl ?_
    refine eseq_nil ?_
    refine hK _ _ ?_; clear hK
    refine e_ret ?_
    have hcs0 : cs = [] := by simpa using hc
    refine ⟨_, res1 rfl rfl, ?_, ?_⟩
    · rw [hcs0]; simp [nx]
    · rw [hcs0] at h ⊢; exact h.below hT
  have hne : cs ≠ [] := by simpa using hc
  have hlt : i < l.length := by
    rcases Nat.lt_or_ge i l.length with h1 | h1
    · exact h1
    · exact absurd (hcs.trans (List.drop_eq_nil_of_le h1)) hne
  have hii : (((i : Int) + 1) - 1).toNat = i := by omega
  have hul := hu (nth l (((i : Int) + 1) - 1).toNat) (by rw [hii, nth_eq hlt]; simp)
  have hul2 : nth l i = cs.headD 0 := by rw [hcs, nth_eq hlt]; simp [hlt]
  obtain ⟨hu0, hu1⟩ := hul
  have hTm := hT
  refine e_skip ?_
  refine hK _ _ ?_; clear hK
  refine e_seq fun K hK => ?_
  refine e_region_text rfl ?_
  refine q_move rfl rfl ?_
  refine q_nilCheck rfl rfl ?_
  refine q_field rfl rfl ?_
  refine q_load rfl (Blk.cell hb rfl) rfl ?_
  refine q_add rfl rfl (wr64 (by omega) (by omega)) rfl ?_
  refine q_nilCheck rfl rfl ?_
  refine q_field rfl rfl ?_
  refine q_store rfl rfl hb (Nat.le_of_ble_eq_true rfl) rfl rfl rfl fun w2 hb2 hO2 => ?_
  simp only [List.set] at hb2
  replace hl := hl.kept (.of_only hO2 hSB)
  refine eseq_nil ?_
  refine hK _ _ ?_; clear hK
  refine e_seq fun K hK => ?_
  refine e_region_draw mixed (fun _ => False) [0, 1, 3, 7, 0, 16, 48, 112, 240, 511, 1023, 2047, 0, 8191, 16383] [] [0, 1, 2, 3, 4, 5, 6, 7, 8, 9, 10, 11, 12, 13, 14] (by kernel_rfl) ?_
  refine q_move rfl rfl ?_
  refine q_nilCheck rfl rfl ?_
  refine q_field rfl rfl ?_
  refine q_load rfl (Blk.cell hb2 rfl) rfl ?_
  refine q_move rfl rfl ?_
  refine q_nilCheck rfl rfl ?_
  refine q_field rfl rfl ?_
  refine q_load rfl (Blk.cell hb2 rfl) rfl ?_
  refine q_sub rfl rfl (wr64 (by omega) (by omega)) rfl ?_
  first | refine q_indexSn (by infer_instance) rfl hl rfl (by first | omega | decide) rfl fun b24 o24 f24 => ?_ | refine q_indexS (by infer_instance) rfl hl rfl (by first | omega | decide) (by first | omega | decide) rfl fun b24 o24 f24 => ?_
  refine q_load rfl (El.u8Cell f24) rfl ?_
  refine q_conv rfl (wr64 (by omega) (by omega)) rfl ?_
  refine q_move rfl rfl ?_
  refine q_rem rfl rfl (by omega) rfl ?_
  refine q_assign rfl rfl ?_
  refine eseq_nil ?_
  refine hK _ _ ?_; clear hK
  refine e_ret ?_
  refine ⟨_, res1 rfl rfl, ?_, ?_⟩
  · rw [hii, hul2, nx, Int.tmod_eq_emod_of_nonneg (by rw [← hul2]; rw [hii] at hu0; exact hu0)]
  · refine (h.below hTm).set 0 rfl (c' := HP.codes S B cs.tail) (StepF.of_only hO2 rfl) ⟨vl, l, i + 1, hb2, hl, by omega, hm, ?_, hu⟩ (fun k hk => .inl hk) (fun k hk => h.depR 0 rfl k hk)
    rw [hcs, List.tail_drop]

theorem new {v : Value} {l : List Int} (hl : IsSlice Ty.u8 w S v l) (hm : l.length ≤ 9223372036854775807) (hu : ∀ c ∈ l, U8 c) (most : Nat) (h1 : most ≤ 1000000) :
    Gives Try.prog 30 [v, .int .i64 most] w fun u w' => ∃ B, u = .pointer (some ⟨B, 0, none⟩) ∧ w.heap.size ≤ B ∧ CodesIn S B (l.take most) w' ∧ Below w.heap.size w w' := by
  refine fn_of Try.func30 rfl Try.ntmps30 (Nat.le_of_ble_eq_true rfl) ?_
  have hT := Below.refl w.heap.size w
  refine e_seq fun K hK => ?_
  refine e_region_text rfl ?_
  refine q_assign rfl rfl ?_
  refine eseq_nil ?_
  refine hK _ _ ?_; clear hK
  refine e_seq fun K hK => ?_
  refine e_seq fun K hK => ?_
  refine e_region_text rfl ?_
  refine q_move rfl rfl ?_
  refine q_lenS rfl hl rfl ?_
  refine q_move rfl rfl ?_
  refine q_gtr rfl rfl rfl ?_
  refine eseq_nil ?_
  refine hK _ _ ?_; clear hK
  refine e_cond rfl (fun hc => ?_) (fun hc => ?_)
  · skip
    have hlt : most < l.length := by simp at hc; omega
    refine e_region_text rfl ?_
    refine q_move rfl rfl ?_
    refine q_move rfl rfl ?_
    refine q_sliceH (by infer_instance) rfl hl rfl (by first | omega | (simp; omega)) rfl fun v11 f11 => ?_
    refine q_assign rfl rfl ?_
    refine eseq_nil ?_
    refine hK _ _ ?_; clear hK
    refine e_seq fun K hK => ?_
    refine e_region_text rfl ?_
    refine q_move rfl rfl ?_
    refine q_build (Parts.cons rfl (cells_one f11.one) Parts.nil) rfl rfl ?_
    refine q_boxB rfl rfl rfl fun w1 bl1 hg1 hb1 hB1 => ?_
    have hz1hT := Nat.le_trans hT.size hg1
    replace hl := hl.ext hB1
    replace f11 := f11.ext hB1
    replace hT := hT.trans (Below.mono hB1 hT.size)
    refine q_assign rfl rfl ?_
    refine eseq_nil ?_
    refine hK _ _ ?_; clear hK
    refine e_ret ?_
    exact ⟨_, res1 rfl rfl, _, rfl, hg1, ⟨_, _, 0, hb1, f11, by omega, by simp; omega, rfl, fun c hc => hu c (List.mem_of_mem_take hc)⟩, hT⟩
  have hge : l.length ≤ most := by simp at hc; omega
  refine e_skip ?_
  refine hK _ _ ?_; clear hK
  refine e_seq fun K hK => ?_
  refine e_region_text rfl ?_
  refine q_move rfl rfl ?_
  refine q_build (Parts.cons rfl (cells_one hl.one) Parts.nil) rfl rfl ?_
  refine q_boxB rfl rfl rfl fun w2 bl2 hg2 hb2 hB2 => ?_
  have hz2hT := Nat.le_trans hT.size hg2
  replace hl := hl.ext hB2
  replace hT := hT.trans (Below.mono hB2 hT.size)
  refine q_assign rfl rfl ?_
  refine eseq_nil ?_
  refine hK _ _ ?_; clear hK
  refine e_ret ?_
  exact ⟨_, res1 rfl rfl, _, rfl, hg2, ⟨_, _, 0, hb2, hl, by omega, by omega, by rw [List.take_of_length_le hge]; rfl, hu⟩, hT⟩

theorem modm (x n : Int) (hx : I64 x) (hn : 0 < n) (hn2 : n ≤ 1000000) : Gives Try.prog 22 [.int .i64 x, .int .i64 n] w fun v w' => v = .int .i64 (x % n) ∧ Below w.heap.size w w' := by
  have e1 : x % n = if x.tmod n < 0 then x.tmod n + n else x.tmod n := by
    have h1 := Int.tmod_eq_emod (a := x) (b := n)
    have h2 := Int.emod_nonneg x (show n ≠ 0 by omega)
    have h3 := Int.emod_lt_of_pos x hn
    have h4 : (n.natAbs : Int) = n := by omega
    by_cases hc : 0 ≤ x ∨ n ∣ x
    · rw [if_pos hc] at h1; rw [if_neg (by omega)]; omega
    · rw [if_neg hc] at h1
      have : x % n ≠ 0 := fun h => hc (.inr (Int.dvd_of_emod_eq_zero h))
      rw [if_pos (by omega)]; omega
  have hb : -1000000 < x.tmod n ∧ x.tmod n < 1000000 := by
    have h1 := Int.tmod_lt_of_pos x hn
    have h2 := Int.lt_tmod_of_pos x hn
    omega
  refine fn_of Try.func22 rfl Try.ntmps22 (Nat.le_of_ble_eq_true rfl) ?_
  have hT := Below.refl w.heap.size w
  refine e_seq fun K hK => ?_
  refine e_region_text rfl ?_
  refine q_assign rfl rfl ?_
  refine eseq_nil ?_
  refine hK _ _ ?_; clear hK
  refine e_seq fun K hK => ?_
  refine e_region_text rfl ?_
  refine q_move rfl rfl ?_
  refine q_move rfl rfl ?_
  refine q_rem rfl rfl (by omega) rfl ?_
  refine q_assign rfl rfl ?_
  refine eseq_nil ?_
  refine hK _ _ ?_; clear hK
  refine e_seq fun K hK => ?_
  refine e_seq fun K hK => ?_
  refine e_region_text rfl ?_
  refine q_move rfl rfl ?_
  refine q_lss rfl rfl rfl ?_
  refine eseq_nil ?_
  refine hK _ _ ?_; clear hK
  refine e_cond rfl (fun hc => ?_) (fun hc => ?_)
  · skip
    refine e_region_text rfl ?_
    refine q_move rfl rfl ?_
    refine q_move rfl rfl ?_
    refine q_add rfl rfl (wr64 (by omega) (by omega)) rfl ?_
    refine q_assign rfl rfl ?_
    refine eseq_nil ?_
    refine hK _ _ ?_; clear hK
    refine e_seq fun K hK => ?_
    refine e_region_text rfl ?_
    refine q_move rfl rfl ?_
    refine q_assign rfl rfl ?_
    refine eseq_nil ?_
    refine hK _ _ ?_; clear hK
    refine e_ret ?_
    exact ⟨_, res1 rfl rfl, by rw [e1, if_pos (by simpa using hc)], hT⟩
  refine e_skip ?_
  refine hK _ _ ?_; clear hK
  refine e_seq fun K hK => ?_
  refine e_region_text rfl ?_
  refine q_move rfl rfl ?_
  refine q_assign rfl rfl ?_
  refine eseq_nil ?_
  refine hK _ _ ?_; clear hK
  refine e_ret ?_
  exact ⟨_, res1 rfl rfl, by rw [e1, if_neg (by simpa using hc)], hT⟩

theorem intM (h : Sep F R R w w [HP.codes S B cs]) : Gives Try.prog 54 [.pointer (some ⟨B, 0, none⟩)] w fun v w' => v = .int .i64 (intE cs).1 ∧ ∃ R1, Sep F R R1 w w' [HP.codes S B (intE cs).2] := by
  have hS := h
  refine fn_of Try.func54 rfl Try.ntmps54 (Nat.le_of_ble_eq_true rfl) ?_
  have hT := Below.refl w.heap.size w
  refine e_seq fun K hK => ?_
  refine e_region_text rfl ?_
  refine q_assign rfl rfl ?_
  refine eseq_nil ?_
  refine hK _ _ ?_; clear hK
  refine e_seq fun K hK => ?_
  refine e_region_text rfl ?_
  refine q_sliceN (Parts.cons rfl rfl (Parts.cons rfl rfl (Parts.cons rfl rfl (Parts.cons rfl rfl (Parts.cons rfl rfl (Parts.cons rfl rfl (Parts.cons rfl rfl (Parts.cons rfl rfl (Parts.cons rfl rfl (Parts.cons rfl rfl Parts.nil)))))))))) rfl rfl rfl rfl rfl fun w1 bl1 hg1 hb1 hB1 => ?_
  obtain ⟨R1, hS, hm1, hn1⟩ := hS.growO hB1
  have f4 := (Blk.lits intR' hb1 greats rfl (by decide)).mono (S' := R1) fun k (hk : bl1 = k) _ => by subst hk; exact hn1 _ hg1 hb1.lt
  refine q_assign rfl rfl ?_
  refine eseq_nil ?_
  refine hK _ _ ?_; clear hK
  refine e_seq fun K hK => ?_
  refine e_seq fun K hK => ?_
  refine e_region_text rfl ?_
  refine q_move rfl rfl ?_
  refine q_call rfl (next (Sep.enter (As := [_]) hS) 6 (by omega) (by omega)) rfl ?_
  rintro _ w2 ⟨rfl, hC2⟩
  refine ⟨(fun h => by cases h), ?_⟩
  have hk2 := hC2.keptR (Sep.offFeet (As := [_]) hS)
  replace f4 := f4.kept hk2
  replace hS := Sep.leave (As := [_]) hS hC2; simp only [List.cons_append, List.nil_append] at hS
  refine q_eql rfl rfl rfl ?_
  refine eseq_nil ?_
  refine hK _ _ ?_; clear hK
  refine e_cond rfl (fun hc => ?_) (fun hc => ?_)
  · skip
    have h5 : nx 6 cs = 5 := by simpa using hc
    have hr := nx_range (cs := cs.tail) (show (0 : Int) < greats.length by decide)
    refine e_seq fun K hK => ?_
    refine e_region_text rfl ?_
    refine q_move rfl rfl ?_
    refine q_move rfl rfl ?_
    refine q_move rfl rfl ?_
    refine q_lenS rfl f4 rfl ?_
    refine q_call rfl (next (Sep.enter (As := [_]) hS) greats.length (by decide) (by decide)) rfl ?_
    rintro _ w3 ⟨rfl, hC3⟩
    refine ⟨(fun h => by cases h), ?_⟩
    have hk3 := hC3.keptR (Sep.offFeet (As := [_]) hS)
    replace f4 := f4.kept hk3
    replace hS := Sep.leave (As := [_]) hS hC3; simp only [List.cons_append, List.nil_append] at hS
    first | refine q_indexSn (by infer_instance) rfl f4 rfl (by first | omega | decide) rfl fun b13 o13 f13 => ?_ | refine q_indexS (by infer_instance) rfl f4 rfl (by first | omega | decide) (by first | omega | decide) rfl fun b13 o13 f13 => ?_
    refine q_load rfl (El.intCell f13) rfl ?_
    refine q_assign rfl rfl ?_
    refine eseq_nil ?_
    refine hK _ _ ?_; clear hK
    refine e_ret ?_
    exact ⟨_, res1 rfl rfl, by rw [intE, if_pos h5]; rfl, R1, by rw [intE, if_pos h5]; exact hS⟩
  have h5 : ¬ nx 6 cs = 5 := by simpa using hc
  have hr := nx_range (n := 12) (cs := cs.tail) (by decide)
  refine e_skip ?_
  refine hK _ _ ?_; clear hK
  refine e_seq fun K hK => ?_
  refine e_region_text rfl ?_
  refine q_move rfl rfl ?_
  refine q_call rfl (next (Sep.enter (As := [_]) hS) 12 (by decide) (by decide)) rfl ?_
  rintro _ w4 ⟨rfl, hC4⟩
  refine ⟨(fun h => by cases h), ?_⟩
  have hk4 := hC4.keptR (Sep.offFeet (As := [_]) hS)
  replace f4 := f4.kept hk4
  replace hS := Sep.leave (As := [_]) hS hC4; simp only [List.cons_append, List.nil_append] at hS
  refine q_sub rfl rfl (wr64 (by omega) (by omega)) rfl ?_
  refine q_assign rfl rfl ?_
  refine eseq_nil ?_
  refine hK _ _ ?_; clear hK
  refine e_ret ?_
  exact ⟨_, res1 rfl rfl, by rw [intE, if_neg h5], R1, by rw [intE, if_neg h5]; exact hS⟩
end Go.Proofs.Ythbnbkgijdkcbaa
