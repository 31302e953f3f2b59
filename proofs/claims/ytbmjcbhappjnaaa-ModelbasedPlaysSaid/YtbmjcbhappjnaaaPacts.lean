/- Plain: drawn acts. -/
import Derived.Test.YtbmjcbhappjnaaaAacts
import Derived.Test.YtbmjcbhappjnaaaPmk
set_option linter.unusedSimpArgs false
set_option linter.unusedVariables false
namespace Go.Mine
open Go.RowKit
theorem int_o {fuel : Nat} {c : List Int} {i : Int} (h : COk c i) : Ok (make_Codes_Int fuel c i) fun r => COk c r.2 := by
  unfold make_Codes_Int
  refine Ok.bind (Ok.next h (by omega)) fun ⟨x1, j1⟩ ⟨a0, a1, h2, _⟩ => ?_
  simp only at h2 ⊢
  refine Ok.ite (fun _ => ?_) (fun _ => ?_)
  · refine Ok.bind (Ok.next h2 (by simp)) fun ⟨x2, j2⟩ ⟨b0, b1, h3, _⟩ => ?_
    simp only at b0 b1 h3 ⊢
    exact Ok.bind (Ok.at b0 b1) fun _ _ => Ok.ret h3
  · exact Ok.bind (Ok.next h2 (by omega)) fun ⟨x2, j2⟩ ⟨b0, b1, h3, _⟩ => Ok.ret h3
theorem acts_o {fuel : Nat} {c : List Int} {i : Int} {n : Nat} {m : Nat} (h : COk c i) (hn : 1 ≤ n) (hn2 : n ≤ 100) (hm : m ≤ 1000) (hf : 1000000 < fuel) : Ok (make_Codes_Acts fuel n m c i) fun r => r.1.length ≤ m ∧ COk c r.2 := by
  unfold make_Codes_Acts
  refine Ok.bind (Q := fun s => s.2.length ≤ m ∧ COk c s.1) (Ok.run (fun k s => COk c s.1 ∧ s.2.length + k = m) (m := m) ⟨h, by simp⟩ (by omega) ?_) fun s hs => Ok.ret hs
  rintro k ⟨j, l⟩ ⟨hc, hl⟩
  simp only at hc hl
  simp only [make_Codes_Acts_B1]
  refine Ok.bind (Q := fun b => b = true → l.length < m) ?_ fun b hb => Ok.ite (fun hb1 => ?_) fun hb1 => Ok.ret ⟨by simp only; omega, hc⟩
  · refine Ok.andM (fun h1 => ?_) (fun h1 => by simp)
    refine Ok.bind (Q := fun _ => True) ?_ fun b _ => Ok.ret fun _ => by simpa using h1
    unfold make_Codes_Left
    exact ⟨_, rfl, trivial⟩
  have hlm := hb hb1
  refine (Ok.next hc (by omega)).bind fun a ⟨a0, a1, ha, _⟩ => (Ok.next ha (by omega)).bind fun b ⟨b0, b1, hb2, _⟩ => ?_
  refine Ok.iteP (fun _ => ?_) fun _ => Ok.iteP (fun _ => ?_) fun _ => Ok.iteP (fun _ => ?_) fun _ => ?_
  · refine (Ok.next hb2 (by omega)).bind fun d ⟨d0, d1, hd, _⟩ => (Ok.rem (by omega)).bind fun e he => (Ok.snoc (by omega)).bind fun l' hl' => ?_
    subst hl'
    exact Ok.ret ⟨k - 1, by omega, hd, by simp; omega⟩
  · refine (Ok.next hb2 (by omega)).bind fun d ⟨d0, d1, hd, _⟩ => (Ok.snoc (by omega)).bind fun l' hl' => ?_
    subst hl'
    exact Ok.ret ⟨k - 1, by omega, hd, by simp; omega⟩
  · refine (Ok.snoc (by omega)).bind fun l' hl' => ?_
    subst hl'
    exact Ok.ret ⟨k - 1, by omega, hb2, by simp; omega⟩
  · refine (int_o hb2).bind fun d hd => (int_o hd).bind fun e he => (int_o he).bind fun f hf => (Ok.snoc (by omega)).bind fun l' hl' => ?_
    subst hl'
    exact Ok.ret ⟨k - 1, by omega, hf, by simp; omega⟩
end Go.Mine
