/- Chapter 32, plain: OrphanLattice, the law. -/
import Derived.Test.YtbmjcbhappjnaaaP32x
set_option linter.unusedSimpArgs false
set_option linter.unusedVariables false
namespace Go.Mine
open Go.RowKit
theorem reduce_q {fuel n B : Nat} {p : Pat} (h : p.arcs.length ≤ 1000000) (hf : 1000000 < fuel) (hp : PatG n B p) : Ok (ref16_Reduce fuel p) fun p' => PatG n B p' ∧ ∀ a ∈ p'.arcs, a.rcv ≠ 0 := by
  unfold ref16_Reduce
  refine Ok.bind (Ok.for_ p.arcs.length (fun k s => s.2 = (k : Int) ∧ s.1.Sublist (p.arcs.take k) ∧ ∀ a ∈ s.1, a.rcv ≠ 0) (Q := fun t => t.Sublist p.arcs ∧ ∀ a ∈ t, a.rcv ≠ 0) ⟨rfl, by simp, by simp⟩ (by omega) ?_) fun t ht => Ok.ret ⟨?_, ht.2⟩
  · rintro k ⟨l, i⟩ hk ⟨h1, h2, h3⟩
    simp only at h1 h2 h3
    subst h1
    simp only [ref16_Reduce_B1]
    have hle := h2.length_le
    rw [List.length_take] at hle
    have hup : (p.arcs.take k).Sublist (p.arcs.take (k + 1)) := by rw [List.take_add_one]; exact List.sublist_append_left _ _
    refine Ok.iteP (fun hlt => ?_) fun _ => Ok.ret ⟨h2.trans (List.take_sublist _ _), h3⟩
    refine (Ok.at (by omega) (by omega)).bind fun a ha => Ok.iteN (fun hr => ?_) fun _ => Ok.ret ⟨by omega, by rw [w64_nat (by omega)], h2.trans hup, h3⟩
    refine (Ok.at (by omega) (by omega)).bind fun a2 ha2 => ?_
    obtain rfl : a = a2 := by rw [ha] at ha2; exact Option.some.inj ha2
    rw [Int.toNat_natCast] at ha
    refine (Ok.snoc (by omega)).bind fun l2 hl2 => Ok.ret ⟨by omega, by rw [w64_nat (by omega)], ?_, fun b hb => ?_⟩
    · simp only; rw [hl2, List.take_add_one, ha]; exact h2.append (List.Sublist.refl _)
    · simp only at hb; rw [hl2] at hb
      rcases List.mem_append.1 hb with h5 | h5
      · exact h3 b h5
      · obtain rfl : b = a := by simpa using h5
        exact hr
  · obtain ⟨ρ, hr⟩ := hp.rank
    exact ⟨hp.len, hp.ck, hp.rng, hp.row, hp.wid, fun a ha => hp.arc a (ht.1.subset ha), by have := ht.1.length_le; have := hp.al; simp only; omega, hp.uniq.sublist ht.1, ρ, hr.top, hr.up, fun a ha => hr.arc a (ht.1.subset ha)⟩
theorem lineages_g {fuel : Nat} {c : List Int} {i : Int} {m : Nat} (h : COk c i) (hm : m ≤ 1000) (hf : 1000000 < fuel) : Ok (make_Codes_Lineages fuel m c i) fun r => ∃ n : Nat, 2 ≤ n ∧ n ≤ 4 ∧ PatG n m r.2.1 ∧ LOK n r.2.1 r.1 ∧ COk c r.2.2 := by
  unfold make_Codes_Lineages
  refine (pattern_g h hm hf).bind fun r ⟨n, n1, n2, hp, hc⟩ => ?_
  refine (reduce_q (by have := hp.al; omega) hf hp).bind fun p ⟨hp', hg⟩ => ?_
  have hl := hp'.len
  refine (Ok.mk (by omega) (by omega)).bind fun x hx => ?_
  refine Ok.bind (Ok.for_ p.lens.length (fun k s => COk c s.1 ∧ s.2.1.length = p.lens.length ∧ (∀ j : Nat, j < k → 0 < nI s.2.1 j) ∧ s.2.2 = (k : Int)) (Q := fun t => COk c t.1 ∧ t.2.length = p.lens.length ∧ ∀ x ∈ t.2, 0 < x) ⟨hc, by rw [hx]; simp, by omega, rfl⟩ (by omega) ?_) fun t ⟨t1, t2, t3⟩ => ?_
  · rintro k ⟨i1, l, q⟩ hk ⟨h1, h2, h3, h4⟩
    simp only at h1 h2 h3 h4
    subst h4
    simp only [make_Codes_Lineages_B6]
    refine Ok.iteP (fun hlt => ?_) fun hlt => Ok.ret ⟨h1, h2, fun x hx => ?_⟩
    · refine (next_o h1 (by omega)).bind fun y ⟨y0, y1, hy⟩ => (Ok.at (by omega) (by omega)).bind fun z hz => (Ok.set (by omega) (by omega)).bind fun l2 e2 => Ok.ret ⟨by omega, hy, by simp only; rw [e2]; simp [h2], fun j hj => ?_, w64_nat (by omega)⟩
      simp only; rw [e2, nI_set (by omega) (by omega) (by omega)]
      split
      · rw [w64_id (by omega) (by omega)]; omega
      · exact h3 j (by omega)
    · obtain ⟨j, hj, e⟩ := List.getElem_of_mem hx
      have := h3 j (by simp only at hj; omega)
      simp only at hj e
      simp [nI, hj, e] at this
      exact this
  · simp only [make_Codes_Lineages_K1]
    refine (Ok.mk (by omega) (by omega)).bind fun y hy => ?_
    rw [Int.toNat_natCast] at hy
    subst hy
    have hr : ∀ x ∈ p.lens, 0 ≤ x ∧ x ≤ (m : Int) := hp'.rng
    refine (lin_build2 t1 (by omega) hr (by omega) (by omega) hf).bind fun u ⟨u1, u2, u3⟩ => ?_
    simp only [make_Codes_Lineages_K2]
    refine (lin_rise2 u1 u2 u3 t2 t3 (by omega) hr (by omega) (by omega) hf).bind fun v ⟨v1, v2, v3⟩ => ?_
    simp only [make_Codes_Lineages_K3]
    refine (lin_arcs2 v1 v2 v3 (fun a ha => ⟨hp'.arc a ha, hg a ha⟩) hl (by omega) hr (by omega) (by have := hp'.al; omega) hf).bind fun w ⟨w1, w2⟩ => ?_
    exact Ok.ret ⟨n, n1, n2, hp', w2.lok hp' hg, w1⟩
def joinL (x y : List Int) : List Int := List.zipWith max x y
theorem joinL_len {x y : List Int} (h : x.length = y.length) : (joinL x y).length = x.length := by simp [joinL]; omega
theorem joinL_nI {x y : List Int} (h : x.length = y.length) {q : Nat} (hq : q < x.length) : nI (joinL x y) q = max (nI x q) (nI y q) := by
  rw [nI_get (by rw [joinL_len h]; exact hq), nI_get hq, nI_get (by omega)]; simp [joinL]
theorem Cons.join {n : Nat} {lens : List Int} {arcs : List Arc} {x y : List Int} (ha : ∀ a ∈ arcs, ArcG n lens a) (hx : x.length = n) (hy : y.length = n) (h1 : Cons arcs x) (h2 : Cons arcs y) : Cons arcs (joinL x y) := by
  intro a h
  have a1 := (ha a h).fr; have a2 := (ha a h).to
  obtain ⟨f, hf⟩ := Int.eq_ofNat_of_zero_le a1.1
  obtain ⟨t, ht⟩ := Int.eq_ofNat_of_zero_le a2.1
  have e1 := orph_not.1 (h1 a h); have e2 := orph_not.1 (h2 a h)
  have hfn : f < n := by omega
  have htn : t < n := by omega
  rw [orph_not]
  rw [hf, ht] at e1 e2 ⊢
  rw [joinL_nI (by omega) (by omega), joinL_nI (by omega) (by omega)]
  omega
end Go.Mine
