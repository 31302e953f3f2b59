/- The drawing of chapter 25. -/
import Derived.Test.YtdpleaifhdlciaaMakeActs
set_option linter.unusedSimpArgs false
set_option linter.unusedVariables false
namespace Go.Mine
def draw25 (l : List Int) : Int × List Deed := (2 + nx 3 (l.take 200), (actsE (2 + nx 3 (l.take 200)) 60 (l.take 200).tail).1)
theorem draw25_n (l : List Int) : 2 ≤ (draw25 l).1 ∧ (draw25 l).1 ≤ 4 := by
  have := nx_range (n := 3) (cs := l.take 200) (by decide); simp only [draw25]; omega
theorem draw25_len (l : List Int) : (draw25 l).2.length ≤ 60 := actsE_len _ _ _
end Go.Mine
namespace Go.Proofs.Ytdpleaifhdlciaa
open Go.RowKit Go.Mine
attribute [local irreducible] eseq ewp
variable {w : World} {F R : Nat → Prop}

theorem drawW25 {v : Value} {l : List Int} (h : Sep F R R w w []) (hl : IsSlice Ty.u8 w R v l) (hm : l.length ≤ 9223372036854775807) (hu : ∀ c ∈ l, U8 c) :
    Gives Try.prog 13 [v] w fun u w' => ∃ va R1, u = .tuple #[.int .i64 (draw25 l).1, va] ∧ Sep F R R1 w w' [] ∧ IsSlice deedTy w' R1 va (draw25 l).2 := by
  have hS := h
  have hr := nx_range (n := 3) (cs := l.take 200) (by decide)
  refine fn_of Try.func13 rfl Try.ntmps13 (Nat.le_of_ble_eq_true rfl) ?_
  have hT := Below.refl w.heap.size w
  refine e_seq fun K hK => ?_
  refine e_region_text rfl ?_
  refine q_assign rfl rfl ?_
  refine q_assign rfl rfl ?_
  refine eseq_nil ?_
  refine hK _ _ ?_; clear hK
  refine e_seq fun K hK => ?_
  refine e_region_text rfl ?_
  refine q_move rfl rfl ?_
  refine q_call rfl (new hl hm hu 200 (by decide)) rfl ?_
  rintro _ w1 ⟨B, rfl, hg1, hc1, hB1⟩; refine ⟨(fun h => by cases h), ?_⟩
  replace hS := hS.new (c := HP.codes _ B (l.take 200)) hB1 hc1 (fun k hk => by have e : k = B := hk; subst e; obtain ⟨_, _, _, hb, _⟩ := hc1; exact ⟨hg1, hb.lt⟩) (fun k hk => hk)
  refine q_assign rfl rfl ?_
  refine eseq_nil ?_
  refine hK _ _ ?_; clear hK
  refine e_seq fun K hK => ?_
  refine e_region_text rfl ?_
  refine q_move rfl rfl ?_
  refine q_call rfl (next (Sep.enter (As := [_]) hS) 3 (by decide) (by decide)) rfl ?_
  rintro _ w1 ⟨rfl, hC1⟩
  refine ⟨(fun h => by cases h), ?_⟩
  have hk1 := hC1.keptR (Sep.offFeet (As := [_]) hS)
  replace hS := Sep.leave (As := [_]) hS hC1; simp only [List.cons_append, List.nil_append] at hS
  refine q_add rfl rfl (wr64 (by omega) (by omega)) rfl ?_
  refine q_assign rfl rfl ?_
  refine eseq_nil ?_
  refine hK _ _ ?_; clear hK
  refine e_seq fun K hK => ?_
  refine e_region_text rfl ?_
  refine q_move rfl rfl ?_
  refine q_move rfl rfl ?_
  refine q_move rfl rfl ?_
  refine q_call rfl (acts (Sep.enter (As := [_]) hS) (2 + nx 3 (l.take 200)) (by omega) (by omega) 60 (by decide)) rfl ?_
  rintro v14 w2 ⟨R2, hC2, f14⟩
  refine ⟨(fun h => by cases h), ?_⟩
  have hk2 := hC2.keptR (Sep.offFeet (As := [_]) hS)
  replace hS := Sep.leave (As := [_]) hS hC2; simp only [List.cons_append, List.nil_append] at hS
  refine q_assign rfl rfl ?_
  refine q_assign rfl rfl ?_
  refine eseq_nil ?_
  refine hK _ _ ?_; clear hK
  refine e_ret ?_
  exact ⟨_, res2 rfl rfl rfl, _, _, rfl, hS.tail, f14⟩
end Go.Proofs.Ytdpleaifhdlciaa
