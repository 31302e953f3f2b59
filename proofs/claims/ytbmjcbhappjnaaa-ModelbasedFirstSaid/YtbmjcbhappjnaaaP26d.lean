/- Plain: the model-based protocol: drawn plays. -/
import Derived.Test.YtbmjcbhappjnaaaA26d
import Derived.Test.YtbmjcbhappjnaaaPmd
import Derived.Test.YtbmjcbhappjnaaaPacts
import Derived.Test.YtbmjcbhappjnaaaP16c
import Derived.Test.YtbmjcbhappjnaaaP23
set_option linter.unusedSimpArgs false
set_option linter.unusedVariables false
namespace Go.Mine
open Go.RowKit
theorem draw_mb {a0 : List Int} (h : ∀ x ∈ a0, U8 x) : Ok (law26_draw 10000000 a0) fun r => ∃ n : Nat, r.1 = n ∧ 2 ≤ n ∧ n ≤ 4 ∧ (1 ≤ r.2.1 ∧ r.2.1 ≤ 4) ∧ r.2.2.length ≤ 50 := by
  unfold law26_draw
  refine (Ok.new (by omega) (by omega) h).bind fun c hc => (Ok.next hc (by omega)).bind fun a ⟨a0, a1, ha, _⟩ => (Ok.next ha (by omega)).bind fun b ⟨b0, b1, hb, _⟩ => ?_
  obtain ⟨n, hn⟩ := Int.eq_ofNat_of_zero_le (show 0 ≤ 2 + a.1 by omega)
  rw [w64_id (by omega) (by omega), hn, w64_id (by omega) (by omega)]
  exact (acts_o (m := 50) hb (by omega) (by omega) (by omega) (by omega)).bind fun l ⟨hl, _⟩ => Ok.ret ⟨n, rfl, by omega, by omega, by simp only; omega, hl⟩
theorem awake26i : ∀ k, law26_awake (k + 1000) = some true := fun k => by kernel_rfl
theorem play_mb {fuel n : Nat} {rule : Int} {l : List Deed} (h1 : 1 ≤ n) (h5 : n ≤ 5) (hr : 1 ≤ rule ∧ rule ≤ 4) (hl : l.length ≤ 200) : modelbased_Play fuel n rule l = some ((C26.run n rule l).hist.hist, 0) := by
  unfold modelbased_Play
  rw [if_pos (by omega), play26E, if_neg (by simp; omega), if_neg (by omega)]; simp
section
variable {n m W : Nat} {c : C26} {κ : Int → Int → List Int} (h : MbI n m W c κ)
include h
theorem MbI.patG (hm : m ≤ 64) (hW : W ≤ 64) : PatG n 64 ⟨c.lens, c.ckpts, c.arcs⟩ := h.pat.g hm hW
theorem sound_mb (hm : m ≤ 64) (hW : W ≤ 64) (hn : n ≤ 5) : law26_sound 10000000 c.hist.hist n = some true := by
  have hl := h.pat.len; have hk := h.pat.ck; have hvl := h.vl; have hfl := h.fl
  simp only at hl hk
  unfold law26_sound
  simp only [C26.hist, HistV.hist]
  rw [orM_some, Option.bind_some, orM_some, Option.bind_some, orM_some, Option.bind_some, if_neg (by simp; omega)]
  refine Ok.eq (Ok.bind (Q := fun t => t = .inl ()) (Ok.for_ n (fun k s => s = (k : Int)) rfl (by omega) ?_) fun t ht => ?_)
  · rintro k s hk2 rfl
    simp only [law26_sound_B1]
    refine Ok.iteP (fun hlt => ?_) fun hlt => Ok.ret rfl
    have hkn : k < n := by omega
    have hr := h.rows k hkn
    rw [ati_rw (xs := c.vecs) (by omega), Option.bind_some, ati_rw (xs := c.ckpts) (by omega), Option.bind_some, ati_rw (xs := c.forced) (by omega)]
    simp only [Option.bind_some]
    rw [orM_some, Option.bind_some, if_neg (by simp; omega)]
    exact Ok.ret ⟨hkn, w64_nat (by omega)⟩
  · subst ht
    simp only [Sum.elim_inl, law26_sound_K1]
    rw [check16_g (h.patG hm hW) hn (by omega), Option.bind_some]
    exact Ok.ret rfl
end
end Go.Mine
