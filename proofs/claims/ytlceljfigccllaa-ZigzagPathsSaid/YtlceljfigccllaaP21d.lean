/- Zigzag paths, plain: the example of the chapter. -/
import Derived.Test.YtlceljfigccllaaA21m
import Derived.Test.YtlceljfigccllaaP21c
import Derived.Test.YtlceljfigccllaaPpatD
set_option linter.unusedSimpArgs false
set_option linter.unusedVariables false
namespace Go.Mine
open Go.RowKit
def uslP : Pat := ⟨[2, 3], [[0], [0, 1]], [⟨0, 1, 1, 1⟩, ⟨1, 2, 0, 2⟩]⟩
theorem usl_g : PatG 2 40 uslP := (PatD.of (ρ := [[0, 1, 4], [0, 2, 3, 4]]) (by kernel_rfl)).g
/-- a list that holds all that a search meets -/
def closB (p : Pat) (a : Pt) (S : List Pt) : Bool :=
  p.arcs.all fun r => (r.rcv == 0) || ((!(decide (r.fr = a.proc) && decide (a.index < (ivl (ckR p r.fr) r.ix : Int))) || S.contains (arcE p r).x1) && S.all fun y => !(decide (r.fr = y.proc) && decide (y.index ≤ (ivl (ckR p r.fr) r.ix : Int))) || S.contains (arcE p r).x1)
theorem ZA.inS {p : Pat} {a y : Pt} {S : List Pt} (h : closB p a S = true) (hz : ZA p a y) : y ∈ S := by
  unfold closB at h
  rw [List.all_eq_true] at h
  induction hz with
  | @first r h1 h2 h3 h4 =>
    have := h r h1
    simp only [Bool.or_eq_true, Bool.and_eq_true, beq_iff_eq] at this
    rcases this with h5 | ⟨h5, _⟩
    · exact absurd h5 h2
    · rw [decide_eq_true h3, decide_eq_true h4] at h5; simpa using h5
  | @next y r _ h1 h2 h3 h4 ih =>
    have := h r h1
    simp only [Bool.or_eq_true, Bool.and_eq_true, beq_iff_eq] at this
    rcases this with h5 | ⟨_, h5⟩
    · exact absurd h5 h2
    · have h6 := List.all_eq_true.1 h5 y ih
      rw [decide_eq_true h3, decide_eq_true h4] at h6; simpa using h6
theorem usl_cyc : zpath uslP ⟨1, 1⟩ ⟨1, 1⟩ := by
  have h1 : ZA uslP ⟨1, 1⟩ (arcE uslP ⟨1, 2, 0, 2⟩).x1 := .first (by simp [uslP]) (by decide) rfl (by decide)
  have h2 : ZA uslP ⟨1, 1⟩ (arcE uslP ⟨0, 1, 1, 1⟩).x1 := .next h1 (by simp [uslP]) (by decide) rfl (by decide)
  exact ⟨_, h2, rfl, by decide⟩
theorem not_cyc {p : Pat} {a : Pt} (S : List Pt) (h : closB p a S = true) (h2 : (S.all fun y => !(decide (y.proc = a.proc) && decide (y.index ≤ a.index))) = true) : zpB p a a = false := by
  rcases Bool.eq_false_or_eq_true (zpB p a a) with h5 | h5
  · obtain ⟨y, h6, h7, h8⟩ := zpB_iff.1 h5
    have := List.all_eq_true.1 h2 y (h6.inS h)
    simp [h7, h8] at this
  · exact h5
theorem usl_all : allL 2 uslP = [⟨0, 0⟩, ⟨0, 1⟩, ⟨1, 0⟩, ⟨1, 1⟩, ⟨1, 2⟩] := rfl
theorem usl_usl : uslL 2 uslP = [⟨1, 1⟩] := by
  have e1 := not_cyc (p := uslP) (a := ⟨0, 0⟩) [⟨1, 1⟩, ⟨0, 1⟩] (by kernel_rfl) (by kernel_rfl)
  have e2 := not_cyc (p := uslP) (a := ⟨0, 1⟩) [] (by kernel_rfl) (by kernel_rfl)
  have e3 := not_cyc (p := uslP) (a := ⟨1, 0⟩) [⟨1, 1⟩, ⟨0, 1⟩] (by kernel_rfl) (by kernel_rfl)
  have e4 := zpB_iff.2 usl_cyc
  have e5 := not_cyc (p := uslP) (a := ⟨1, 2⟩) [] (by kernel_rfl) (by kernel_rfl)
  unfold uslL
  rw [usl_all]
  simp only [List.filter_cons, e1, e2, e3, e4, e5, List.filter_nil]
  rfl
theorem awake21 : law21_awake 10000000 = some true := by
  have hv : VN 2 uslP ⟨1, 1⟩ := ⟨by decide, by decide, by decide, by decide⟩
  unfold law21_awake
  rw [show law21_useless 10000000 = some uslP from rfl, Option.bind_some, useless_g usl_g (by omega) (by omega), usl_usl]
  simp only [Option.bind_some]
  obtain ⟨b, hb, hb2⟩ := trackable_g usl_g (by omega) (by omega)
  have hbf : b = false := by
    rcases Bool.eq_false_or_eq_true b with h5 | h5
    · have := hb2.1 h5 ⟨1, 1⟩ ⟨1, 1⟩ hv hv usl_cyc
      have h6 := dv_self usl_g (by omega) (by omega) (q := 1) (by omega) (y := 1) (by decide)
      simp only at this
      have e : dv uslP ⟨1, 1⟩ 1 = dv uslP ⟨((1 : Nat) : Int), ((1 : Nat) : Int)⟩ ((1 : Nat) : Int) := rfl
      omega
    · exact h5
  subst hbf
  rw [hb, show ati ([⟨1, 1⟩] : List Pt) 0 = some ⟨1, 1⟩ from rfl]
  simp only [Option.bind_some]
  rw [path_g usl_g (by omega) (by omega) hv hv, zpB_iff.2 usl_cyc]
  rfl
end Go.Mine
