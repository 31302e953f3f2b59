/- Choices, plain. -/
import Derived.Test.YtddohdppmejjoaaAmk
import Derived.Test.YtddohdppmejjoaaPl
set_option linter.unusedSimpArgs false
set_option linter.unusedVariables false
namespace Go.Mine
open Go.RowKit
/-- choices that can be drawn -/
structure COk (c : List Int) (i : Int) : Prop where
  lo : 0 ≤ i
  hi : i ≤ c.length
  len : c.length ≤ 1000000
  u8 : ∀ x ∈ c, U8 x
theorem next_ok {fuel : Nat} {c : List Int} {i n : Int} (h : COk c i) (hn : 0 < n) : ∃ x j, make_Codes_Next fuel n c i = some (x, j) ∧ 0 ≤ x ∧ x < n ∧ COk c j ∧ i ≤ j := by
  obtain ⟨h0, h1, h2, h3⟩ := h
  unfold make_Codes_Next make_Codes_Left
  by_cases hl : i < c.length
  · have e1 : w64 (i + 1) = i + 1 := w64_eq (by omega) (by omega)
    have e2 : w64 (i + 1 - 1) = i := by rw [w64_eq (by omega) (by omega)]; omega
    have e3 : ati c i = some (c[i.toNat]'(by omega)) := ati_int h0 (by omega)
    have hu := h3 (c[i.toNat]'(by omega)) (List.getElem_mem _)
    have e4 : w64 (c[i.toNat]'(by omega)) = c[i.toNat]'(by omega) := w64_eq (by have := hu.1; omega) (by have := hu.2; omega)
    have e5 : remI (c[i.toNat]'(by omega)) n = some ((c[i.toNat]'(by omega)).tmod n) := by unfold remI; rw [if_neg (by omega)]
    refine ⟨(c[i.toNat]'(by omega)).tmod n, i + 1, ?_, ?_, ?_, ⟨by omega, by omega, h2, h3⟩, by omega⟩
    · simp only [Option.bind_some, hl, decide_true, Bool.not_true, Bool.false_eq_true, if_false, e1, e2, e3, e4, e5]
    · exact Int.tmod_nonneg _ hu.1
    · exact Int.tmod_lt_of_pos _ hn
  · exact ⟨0, i, by simp [hl], by omega, hn, ⟨h0, h1, h2, h3⟩, by omega⟩
theorem new_ok {fuel : Nat} {c : List Int} {n : Int} (h0 : 0 ≤ n) (h1 : n ≤ 1000000) (h : ∀ x ∈ c, U8 x) : ∃ d, make_New fuel c n = some (d, 0) ∧ COk d 0 := by
  unfold make_New make_New_J1
  by_cases hl : n < c.length
  · refine ⟨c.take n.toNat, ?_, by omega, by simp, by simp; omega, fun x hx => h x (List.mem_of_mem_take hx)⟩
    simp only [hl, decide_true, if_true, takeL_ok h0 (by omega : n ≤ c.length), Option.bind_some]
  · exact ⟨c, by simp [hl], by omega, by simp, by omega, h⟩
theorem Ok.next {fuel : Nat} {c : List Int} {i n : Int} (h : COk c i) (hn : 0 < n) : Ok (make_Codes_Next fuel n c i) fun r => 0 ≤ r.1 ∧ r.1 < n ∧ COk c r.2 ∧ i ≤ r.2 := by
  obtain ⟨x, j, h1, h2⟩ := next_ok (fuel := fuel) h hn
  exact ⟨_, h1, h2⟩
theorem Ok.new {fuel : Nat} {c : List Int} {n : Int} (h0 : 0 ≤ n) (h1 : n ≤ 1000000) (h : ∀ x ∈ c, U8 x) : Ok (make_New fuel c n) fun r => COk r.1 r.2 := by
  obtain ⟨d, h2, h3⟩ := new_ok (fuel := fuel) h0 h1 h
  exact ⟨_, h2, h3⟩
end Go.Mine
