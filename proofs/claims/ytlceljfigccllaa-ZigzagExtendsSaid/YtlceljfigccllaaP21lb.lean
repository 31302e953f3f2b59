/- ZigzagExtends, plain. -/
import Derived.Test.YtlceljfigccllaaA21lb
import Derived.Test.YtlceljfigccllaaP21k
import Derived.Test.YtlceljfigccllaaP21x
set_option linter.unusedSimpArgs false
set_option linter.unusedVariables false
namespace Go.Mine
open Go.RowKit
theorem sameI {fuel : Nat} {x : List Int} (hl : x.length ≤ 1000) (hf : 1000000 < fuel) : ref03_SameInts fuel x x = some true := by
  unfold ref03_SameInts
  rw [if_neg (by simp)]
  refine Ok.eq ?_
  refine Ok.bind (Q := fun t => t = .inl ()) (Ok.for_ x.length (fun k s => s = (k : Int)) rfl (by omega) ?_) fun t ht => by subst ht; exact Ok.ret rfl
  rintro k s hk rfl
  unfold ref03_SameInts_B1
  refine Ok.iteP (fun hkl => ?_) (fun _ => Ok.ret rfl)
  rw [ati_nI (by omega) (by omega)]
  simp only [Option.bind_some]
  rw [if_neg (by simp)]
  exact Ok.ret ⟨by omega, w64_nat (by omega)⟩
theorem zigzagExtends {a0 a1 : List Int} {a2 : Int} (h0 : ∀ x ∈ a0, U8 x) (h1 : ∀ x ∈ a1, U8 x) (h2 : U8 a2) : law21_ZigzagExtends 10000000 a0 a1 a2 = some true := by
  have u0 := h2.1; have u1 := h2.2
  unfold law21_ZigzagExtends
  rw [awake21, Option.bind_some]
  simp only [Bool.not_true, Bool.false_eq_true, if_false]
  refine Ok.eq ?_
  refine (Ok.new (by omega) (by omega) h0).bind fun r hr => (pattern_g hr (m := 20) (by omega) (by omega)).bind fun P ⟨n, hn2, hn4, hp, _⟩ => ?_
  simp only [show (⟨P.1.lens, P.1.ckpts, P.1.arcs⟩ : Pat) = P.1 from rfl]
  refine (Ok.new (by omega) (by omega) h1).bind fun r2 hr2 => (ckpts_g hp (by omega) (by omega) hr2).bind fun L hL => ?_
  have hLl := hL.len; have hlen := hp.len; have hk := hp.ck
  have key : ∀ l : List Pt, (∀ x ∈ l, VN n P.1 x) → l.length ≤ 1000 → Ok (law21_ZigzagExtends_J1 10000000 P l) fun b => b = true := fun l hl hll => by
    simp only [law21_ZigzagExtends_J1, show (⟨P.1.lens, P.1.ckpts, P.1.arcs⟩ : Pat) = P.1 from rfl]
    refine (extension_g hp (by omega) (by omega) hl hll).bind fun x hx => (rextension_g hp (by omega) (by omega) hl hll).bind fun y hy => ?_
    obtain rfl := hx.uniq hy
    rw [sameI (by have := hx.len; omega) (by omega)]
    simp only [Option.bind_some, beq_self_eq_true, andM_true]
    refine Ok.bind (Q := fun b => b = true) ?_ fun b hb => by subst hb; exact Ok.ret rfl
    refine (extendable_g hp (by omega) (by omega) hl hll).bind fun b hb => (rextendable_g hp (by omega) (by omega) hl hll).bind fun c hc => Ok.ret ?_
    have : b = c := by rw [Bool.eq_iff_iff, hb, hc]
    rw [this]; simp
  obtain ⟨v, hv, hv'⟩ := Ok.rem (i := a2) (j := 4) (by omega)
  rw [hv, Option.bind_some, andM_some, Option.bind_some]
  refine Ok.ite (fun hc => ?_) (fun hc => key _ hL.vn (by omega))
  simp only [Bool.and_eq_true, decide_eq_true_eq] at hc
  have hpos : 0 < L.1.length := by omega
  have hv0 := hL.vn L.1[0] (List.getElem_mem _)
  have p1 := hv0.p1
  have hw := hp.ckW (L.1[0]).proc
  rw [show ((0 : Int)) = ((0 : Nat) : Int) from rfl, ati_get hpos]
  simp only [Option.bind_some]
  rw [ati_ck hv0.p0 (by omega), Option.bind_some, w64_id (i := a2) (by omega) (by omega), w64_id (by omega) (by omega)]
  refine (Ok.rem (by omega)).bind fun i hi => ?_
  have hi0 : 0 ≤ i := by rw [hi]; exact Int.tmod_nonneg _ u0
  have hi1 : i < ((ckR P.1 (L.1[0]).proc).length : Int) + 1 := by rw [hi]; exact Int.tmod_lt_of_pos _ (by omega)
  refine (Ok.snoc (by omega)).bind fun l hl => ?_
  subst hl
  refine key _ (fun x hx => ?_) (by simp; omega)
  rcases List.mem_append.1 hx with h5 | h5
  · exact hL.vn x h5
  · simp at h5; subst h5
    exact ⟨hv0.p0, hv0.p1, hi0, by simp only; omega⟩
end Go.Mine
