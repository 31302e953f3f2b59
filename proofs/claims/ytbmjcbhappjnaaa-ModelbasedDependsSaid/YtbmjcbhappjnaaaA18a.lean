/- Printed walks: A18a. -/
import Derived.Test.YtbmjcbhappjnaaaA16
set_option linter.unusedVariables false
set_option linter.unusedSimpArgs false
namespace Go.Mine
open Go.RowKit
def Clone_Int (fuel : Nat) (a0 : List Int) : Option (List Int) := catL [] a0
end Go.Mine
namespace Go.Proofs.Ytbmjcbhappjnaaa
open Go.RowKit Go.Mine
attribute [local irreducible] eseq ewp iter
theorem Clone_Int_w {F R : Nat → Prop} {w : World} {fuel : Nat} {a0 : List Int} {v1 : Value} {r : List Int} (hS : Sep F R R w w []) (f1 : IsSlice Ty.int w R v1 a0) (h : Clone_Int fuel a0 = some r) :
    Gives Try.prog 90 [v1] w fun u w1 => ∃ (v2 : Value), ∃ (R1 : Nat → Prop), u = v2 ∧ Sep F R R1 w w1 [HP.own Ty.int (fun _ => False) 3 v2 r] := by
  unfold Clone_Int at h
  have hx0 := f1
  obtain ⟨ad, c, rfl, hc0, hnil, -, -⟩ := hx0
  refine fn_of Try.func90 rfl Try.ntmps90 (Nat.le_of_ble_eq_true rfl) ?_
  refine e_seq fun K hK => ?_
  refine e_region_text rfl ?_
  refine q_assign rfl rfl ?_
  refine eseq_nil ?_
  refine hK _ _ ?_; clear hK
  refine e_seq fun K hK => ?_
  refine e_seq fun K hK => ?_
  refine e_region_text rfl ?_
  refine q_move rfl rfl ?_
  refine q_eqlNil rfl rfl rfl ?_
  refine eseq_nil ?_
  refine hK _ _ ?_; clear hK
  refine e_cond rfl (fun hb => ?_) (fun hb => ?_)
  · have e1 : ad = none := by simpa using hb
    have e2 := hnil e1
    have e3 : a0 = [] := List.eq_nil_of_length_eq_zero (by omega)
    subst e3
    obtain rfl := (catL_eq h).2
    refine e_seq fun K hK => ?_
    refine e_region_text rfl ?_
    refine q_assign rfl rfl ?_
    refine eseq_nil ?_
    refine hK _ _ ?_; clear hK
    refine e_ret ?_
    exact ⟨_, res1 rfl rfl, _, R, rfl, hS.nilOwn0 Ty.int 3⟩
  refine e_skip ?_
  refine hK _ _ ?_; clear hK
  refine e_seq fun K hK => ?_
  refine e_region_text rfl ?_
  refine q_slice0 rfl fun wz bz hgz hbz hBz => ?_
  replace f1 := f1.ext hBz
  replace hS := hS.newOwnS hBz (Own.empty Ty.int (S := (fun _ => False)) hbz (Nat.zero_le _)) (fun k hk => by cases hk; exact hgz) (fun _ h => h.elim)
  refine q_move rfl rfl ?_
  refine q_catE (T := Ty.int) rfl rfl rfl rfl (hS.own 0 rfl) rfl f1 h (Nat.zero_le _) rfl (fun h => by cases h) fun v7 w1 hw1 hgr1 hnw1 => ?_
  replace hS := hS.setOwn 0 rfl hw1 hgr1 hnw1; simp only [List.set] at hS
  refine q_assign rfl rfl ?_
  refine eseq_nil ?_
  refine hK _ _ ?_; clear hK
  refine e_ret ?_
  exact ⟨_, res1 rfl rfl, _, R, rfl, hS⟩
end Go.Proofs.Ytbmjcbhappjnaaa
