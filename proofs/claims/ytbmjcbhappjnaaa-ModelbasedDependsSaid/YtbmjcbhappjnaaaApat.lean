/- Printed walks: Apat. -/
import Derived.Test.YtbmjcbhappjnaaaAmk
set_option linter.unusedVariables false
set_option linter.unusedSimpArgs false
namespace Go.Mine
open Go.RowKit
def ref16_proc (fuel : Nat) (a0 : Pat) (a1 : Int) : Option (Bool) :=
  (andM (decide (0 ≤ a1)) (some (decide (a1 < (a0.lens.length : Int))))).bind fun x19 => some x19
end Go.Mine
namespace Go.Proofs.Ytbmjcbhappjnaaa
open Go.RowKit Go.Mine
attribute [local irreducible] eseq ewp iter
theorem ref16_proc_w {F R : Nat → Prop} {w : World} {fuel : Nat} {a0 : Pat} {a1 : Int} {v1 : Value} {v2 : Value} {v3 : Value} {r : (Bool)} (hS : Sep F R R w w []) (f1 : IsSlice Ty.int w R v1 a0.lens) (f2 : IsSlice (Ty.slice Ty.int) w R v2 a0.ckpts) (f3 : IsSlice arcTy w R v3 a0.arcs) (h : ref16_proc fuel a0 a1 = some r) :
    Gives Try.prog 128 [.agg #[v1, v2, v3], .int .i64 a1] w fun u w1 => ∃ (R1 : Nat → Prop), u = .bool r ∧ Sep F R R1 w w1 [] := by
  refine fn_of Try.func128 rfl Try.ntmps128 (Nat.le_of_ble_eq_true rfl) ?_
  unfold ref16_proc at h
  refine e_seq fun K12 hK12 => ?_
  refine e_region_text rfl ?_
  refine q_boxB rfl rfl rfl fun w13 bl13 hg13 hb13 hB13 => ?_
  replace f1 := f1.ext hB13
  replace f2 := f2.ext hB13
  replace f3 := f3.ext hB13
  replace hS := hS.newBlk hB13 hg13 hb13
  refine q_assign rfl rfl ?_
  refine eseq_nil ?_
  refine hK12 _ _ ?_
  refine e_seq fun K15 hK15 => ?_
  refine e_region_text rfl ?_
  refine q_move rfl rfl ?_
  refine q_geq rfl rfl rfl ?_
  refine q_move rfl rfl ?_
  obtain ⟨x19, hx18, h⟩ := Option.of_bind h
  refine g_andM 5 hx18 rfl trivial rfl rfl ?_ ?_ ?_
  · intro hg18 hx18
    clear h
    have hT18 := Below.refl (World.heap w13).size w13
    refine g_run rfl ?_; refine q_move rfl rfl ?_
    refine g_run rfl ?_; refine q_field rfl rfl ?_
    refine g_run rfl ?_; refine q_load rfl (Blk.cell (hS.blk 0 rfl) rfl) rfl ?_
    refine g_run rfl ?_; refine q_lenS rfl f1 rfl ?_
    refine g_run rfl ?_; refine q_lss rfl rfl rfl ?_
    cases hx18
    exact eseq_nil ⟨hT18, Sub.set rfl (Sub.set rfl (Sub.set rfl (Sub.set rfl (Sub.set rfl (Sub.bool true rfl hg18))))), rfl⟩
  · intro hg18
    refine g_skip rfl rfl rfl ?_
    refine g_skip rfl rfl rfl ?_
    refine g_skip rfl rfl rfl ?_
    refine g_skip rfl rfl rfl ?_
    refine g_skip rfl rfl rfl ?_
    exact eseq_nil ⟨rfl, Sub.set rfl (Sub.set rfl (Sub.set rfl (Sub.set rfl (Sub.set rfl (Sub.bool false rfl hg18)))))⟩
  intro wm18 hBm18; clear hx18
  replace hS := hS.below hBm18
  refine q_assign rfl rfl ?_
  refine eseq_nil ?_
  refine hK15 _ _ ?_
  refine e_ret ?_
  obtain rfl := Option.some.inj h
  exact ⟨_, res1 rfl rfl, _, rfl, (hS.pickB [] 1 rfl rfl)⟩
end Go.Proofs.Ytbmjcbhappjnaaa
