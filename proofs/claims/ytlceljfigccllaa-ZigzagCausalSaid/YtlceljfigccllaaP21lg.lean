/- ZigzagCausal, plain. -/
import Derived.Test.YtlceljfigccllaaA21lg
import Derived.Test.YtlceljfigccllaaP21n
set_option linter.unusedSimpArgs false
set_option linter.unusedVariables false
namespace Go.Mine
open Go.RowKit
/-- what happened before is a Z-path, but on one process -/
theorem hb_za {p : Pat} {s j q k : Int} {i : Int} (hi : i < (ivl (ckR p s) j : Int)) (hb : Hb p.arcs s j q k) : (s = q ∧ j ≤ k) ∨ ∃ y, ZA p ⟨s, i⟩ y ∧ y.proc = q ∧ y.index ≤ (ivl (ckR p q) k : Int) := by
  induction hb with
  | same h1 => exact .inl ⟨rfl, h1⟩
  | @arc a k ha hr hrk _ ih =>
    have hm : (ivl (ckR p a.to) a.rcv : Int) ≤ (ivl (ckR p a.to) k : Int) := by have := ivl_mono (r := ckR p a.to) hrk; omega
    rcases ih with ⟨e, h1⟩ | ⟨y, h1, h2, h3⟩
    · refine .inr ⟨_, .first ha hr e.symm ?_, rfl, hm⟩
      have := ivl_mono (r := ckR p s) h1
      rw [← e]; simp only; omega
    · exact .inr ⟨_, .next h1 ha hr h2.symm h3, rfl, hm⟩
theorem dep_za {n B : Nat} {p : Pat} (h : PatG n B p) (hn : n ≤ 5) (hB : B ≤ 64) {a b : Pt} (ha : VN n p a) (hb : VN n p b) (hne : a.proc ≠ b.proc) (hd : a.index < (dv p b a.proc : Int)) : zpath p a b := by
  have hr := cidx_rng h hb.p0 hb.p1 hb.i0
  obtain ⟨s, hs⟩ := Int.eq_ofNat_of_zero_le ha.p0
  have hsn : s < n := by have := ha.p1; omega
  obtain ⟨_, hc⟩ := clk_s h hn hB hb.p0 hb.p1 hr.1 hr.2
  obtain ⟨c1, c2, c3⟩ := hc.2 s hsn
  unfold dv at hd
  rw [hs] at hd
  have h1 : 1 ≤ nI (clk p b.proc (cidx p b.proc b.index)) s := by
    rcases Int.lt_or_le (nI (clk p b.proc (cidx p b.proc b.index)) s) 1 with h5 | h5
    · exfalso
      have e : nI (clk p b.proc (cidx p b.proc b.index)) s = 0 := by omega
      rw [e] at hd
      have hcg := h.ckI (q := (s : Int)) (by omega) (by omega)
      have : ivl (ckR p s) 0 = 0 := by
        unfold ivl; rw [List.countP_eq_zero]
        intro y hy; have := hcg.nonneg y hy; simp; omega
      have := ha.i0; omega
    · exact h5
  rcases hb_za hd (c3 h1) with ⟨e, _⟩ | ⟨y, h2, h3, h4⟩
  · exact absurd (hs.trans e) hne
  · refine ⟨y, ?_, h3, ?_⟩
    · rw [← hs] at h2; exact h2
    · obtain ⟨m, hm⟩ := Int.eq_ofNat_of_zero_le hb.i0
      have := (ivl_cidx h hb.p0 hb.p1 (y := m) (by have := hb.i1; omega) hr.2).2 (by rw [hm]; exact Int.le_refl _)
      omega
theorem zigzagCausal {a0 : List Int} (h0 : ∀ x ∈ a0, U8 x) : law21_ZigzagCausal 10000000 a0 = some true := by
  unfold law21_ZigzagCausal
  rw [awake21, Option.bind_some]
  simp only [Bool.not_true, Bool.false_eq_true, if_false]
  refine Ok.eq ?_
  refine (Ok.new (by omega) (by omega) h0).bind fun r hr => (pattern_g hr (m := 12) (by omega) (by omega)).bind fun P ⟨n, hn2, hn4, hp, _⟩ => ?_
  simp only [show (⟨P.1.lens, P.1.ckpts, P.1.arcs⟩ : Pat) = P.1 from rfl]
  have hal := allL_len hp (by omega) n
  rw [rall_g hp (by omega) (by omega), Option.bind_some]
  generalize hA : allL n P.1 = A at *
  have hAv : ∀ x ∈ A, VN n P.1 x := fun x hx => mem_allL.1 (by rw [hA]; exact hx)
  refine Ok.bind (Q := fun t => t = .inl ()) (Ok.for_ A.length (fun k s => s = (k : Int)) rfl (by omega) ?_) fun t ht => by subst ht; exact Ok.ret rfl
  rintro k s hk rfl
  unfold law21_ZigzagCausal_B1
  refine Ok.iteP (fun hkl => ?_) (fun _ => Ok.ret rfl)
  have hkl' : k < A.length := by omega
  have hv := hAv A[k] (List.getElem_mem _)
  refine Ok.bind (Q := fun t => t = .inl ()) (Ok.for_ A.length (fun k s => s = (k : Int)) rfl (by omega) ?_) fun t ht => by subst ht; exact Ok.ret ⟨hkl', w64_nat (by omega)⟩
  rintro j s hj rfl
  unfold law21_ZigzagCausal_B2
  refine Ok.iteP (fun hjl => ?_) (fun _ => Ok.ret rfl)
  have hjl' : j < A.length := by omega
  have hvj := hAv A[j] (List.getElem_mem _)
  simp only [show (⟨P.1.lens, P.1.ckpts, P.1.arcs⟩ : Pat) = P.1 from rfl]
  rw [ati_get hkl', ati_get hjl']
  simp only [Option.bind_some]
  rw [Depends_g hp (by omega) (by omega) hv hvj, Option.bind_some, andM_some, Option.bind_some, path_g hp (by omega) (by omega) hv hvj, Option.bind_some, andM_some, Option.bind_some, if_neg ?_]
  · exact Ok.ret ⟨hjl', w64_nat (by omega)⟩
  · simp only [Bool.and_eq_true, bne_iff_ne, ne_eq, decide_eq_true_eq, Bool.not_eq_true', not_and, Bool.not_eq_false]
    rintro ⟨h5, h6⟩
    exact zpB_iff.2 (dep_za hp (by omega) (by omega) hv hvj h5 h6)
end Go.Mine
