/- Plain: the model-based protocol: drawn plays. -/
import Derived.Test.YtbmjcbhappjnaaaA26d
import Derived.Test.YtbmjcbhappjnaaaPmd
import Derived.Test.YtbmjcbhappjnaaaPacts
import Derived.Test.YtbmjcbhappjnaaaP16c
import Derived.Test.YtbmjcbhappjnaaaP23
set_option linter.unusedSimpArgs false
set_option linter.unusedVariables false
namespace Go.Mine
open Go.RowKit
theorem draw_mb {a0 : List Int} (h : ∀ x ∈ a0, U8 x) : Ok (law26_draw 10000000 a0) fun r => ∃ n : Nat, r.1 = n ∧ 2 ≤ n ∧ n ≤ 4 ∧ (1 ≤ r.2.1 ∧ r.2.1 ≤ 4) ∧ r.2.2.length ≤ 50 := by
  unfold law26_draw
  refine (Ok.new (by omega) (by omega) h).bind fun c hc => (Ok.next hc (by omega)).bind fun a ⟨a0, a1, ha, _⟩ => (Ok.next ha (by omega)).bind fun b ⟨b0, b1, hb, _⟩ => ?_
  obtain ⟨n, hn⟩ := Int.eq_ofNat_of_zero_le (show 0 ≤ 2 + a.1 by omega)
  rw [w64_id (by omega) (by omega), hn, w64_id (by omega) (by omega)]
  exact (acts_o (m := 50) hb (by omega) (by omega) (by omega) (by omega)).bind fun l ⟨hl, _⟩ => Ok.ret ⟨n, rfl, by omega, by omega, by simp only; omega, hl⟩
theorem awake26i : ∀ k, law26_awake (k + 1000) = some true := fun k => by kernel_rfl
section
variable {n m W : Nat} {c : C26} {κ : Int → Int → List Int} (h : MbI n m W c κ)
include h
end
end Go.Mine
