/- Chapter 32, plain: OrphanLattice, the law itself. -/
import Derived.Test.YtghjjkdfjmnfeaaP32y
set_option linter.unusedSimpArgs false
set_option linter.unusedVariables false
namespace Go.Mine
open Go.RowKit
theorem clower_g {fuel n B : Nat} {p : Pat} {x : List Int} (h : PatG n B p) (hn : n ≤ 5) (hB : B ≤ 64) (hf : 1000000 < fuel) (hx : CutG n p.lens x) : Ok (cut_Lower fuel p x) fun y => CutG n p.lens y ∧ Cons p.arcs y ∧ Le y x ∧ ∀ z, CutG n p.lens z → Cons p.arcs z → Le z x → Le z y := by
  have hal := h.al; have hxl := hx.len
  unfold cut_Lower
  rw [show (⟨p.lens, p.ckpts, p.arcs⟩ : Pat) = p from rfl, fits_g h hn hB hf hx, Option.bind_some, if_neg (by simp)]
  unfold Clone_Int
  rw [catL_ok (by simp; omega), Option.bind_some, List.nil_append]
  have hsum : sumN x ≤ 1000 := by
    have := sumN_le (y := x) (B := 64) fun j hj => by have := hx.rng j (by omega); have := h.nI_rng j; omega
    rw [hxl] at this
    have : n * 64 ≤ 5 * 64 := Nat.mul_le_mul_right _ hn
    omega
  refine Ok.bind (Ok.run (m := sumN x) (fun m y => sumN y = m ∧ CutG n p.lens y ∧ Le y x ∧ ∀ z, CutG n p.lens z → Cons p.arcs z → Le z x → Le z y) (Q := fun y => CutG n p.lens y ∧ Cons p.arcs y ∧ Le y x ∧ ∀ z, CutG n p.lens z → Cons p.arcs z → Le z x → Le z y) ⟨rfl, hx, fun q hq => Int.le_refl _, fun z _ _ hz => hz⟩ (by omega) ?_) fun y hy => Ok.ret hy
  rintro m y ⟨rfl, hy, hyx, hmax⟩
  have hyl := hy.len
  unfold cut_Lower_B1
  refine Ok.bind (Q := fun t => match t with | .inl y' => ∃ a ∈ p.arcs, orph a y = true ∧ y' = y.set a.to.toNat (a.rcv - 1) | .inr _ => Cons p.arcs y) (Ok.for_ p.arcs.length (fun k s => s = (k : Int) ∧ ∀ b ∈ p.arcs.take k, orph b y = false) ⟨rfl, by simp⟩ (by omega) ?_) ?_
  · rintro k s hk ⟨rfl, h1⟩
    unfold cut_Lower_B2
    refine Ok.iteP (fun hkl => ?_) (fun hkl => Ok.ret ?_)
    · refine (Ok.at (by omega) hkl).bind fun a h2 => ?_
      rw [Int.toNat_natCast] at h2
      have hm := List.mem_of_getElem? h2
      have g := h.arc a hm
      have g1 := g.to; have g2 := g.rcv; have g3 := h.nI_rng a.to
      rw [show (⟨a.fr, a.ix, a.to, a.rcv⟩ : Arc) = a from rfl, orphan_g g hyl, Option.bind_some]
      refine Ok.ite (fun ho => ?_) (fun ho => Ok.ret ⟨by omega, w64_nat (by omega), fun b hb => ?_⟩)
      · rw [ati_nI g1.1 (by omega), Option.bind_some, w64_id (by omega) (by omega)]
        exact (Ok.set g1.1 (by omega)).bind fun z hz => Ok.ret ⟨a, hm, ho, hz⟩
      · rcases mem_take_succ'.1 hb with h6 | h6
        · exact h1 b h6
        · rw [h2] at h6; cases h6; exact ho
    · have e : k = p.arcs.length := by omega
      subst e
      rw [List.take_length] at h1
      exact h1
  · rintro (y' | u) ht
    · obtain ⟨a, hm, ho, rfl⟩ := ht
      obtain ⟨o1, o2, o3⟩ := orph_iff.1 ho
      have g := h.arc a hm
      have g1 := g.to; have g2 := g.rcv; have g0 := g.fr
      have hset : ∀ q : Nat, nI (y.set a.to.toNat (a.rcv - 1)) q = if (q : Int) = a.to then a.rcv - 1 else nI y q := fun q => nI_set g1.1 (by omega) (by omega)
      have et : ((a.to.toNat : Nat) : Int) = a.to := by omega
      simp only [Sum.elim_inl, cut_Lower_K1]
      refine Ok.ret ⟨_, ?_, rfl, ⟨by simp [hyl], fun q hq => ?_⟩, fun q hq => ?_, fun z hz hc hzx q hq => ?_⟩
      · have := sumN_set (y := y) (q := a.to.toNat) (k := (a.rcv - 1).toNat) (by omega) (by rw [et]; omega)
        rw [show (((a.rcv - 1).toNat : Nat) : Int) = a.rcv - 1 by omega] at this
        exact this
      · rw [hset]; have := hy.rng q hq
        split
        · rename_i e; rw [e]; omega
        · exact this
      · rw [hset]; have := hyx q (by simpa using hq)
        split
        · rename_i e; rw [e] at this ⊢; omega
        · exact this
      · rw [hset]
        have hzy := hmax z hz hc hzx
        have hzl := hz.len
        split
        · rename_i e
          have h7 := orph_not.1 (hc a hm)
          have h8 := hzy a.fr.toNat (by omega)
          rw [Int.toNat_of_nonneg g0.1] at h8
          rw [e]; omega
        · exact hzy q hq
    · exact Ok.ret ⟨hy, ht, hyx, hmax⟩
theorem lattice_ok {a0 : List Int} (h0 : ∀ x ∈ a0, U8 x) : law32_OrphanLattice 10000000 a0 = some true := by
  unfold law32_OrphanLattice
  rw [show law32_awake 10000000 = some true from awake32f 9999000, Option.bind_some]
  simp only [Bool.not_true, Bool.false_eq_true, if_false]
  refine Ok.eq ?_
  refine (Ok.new (by omega) (by omega) h0).bind fun c hc => (lineages_g hc (m := 30) (by omega) (by omega)).bind fun r ⟨n, n1, n2, hp, hk, hc2⟩ => ?_
  have hl := hp.len
  have hrg : ∀ x ∈ r.2.1.lens, 0 ≤ x ∧ x ≤ (30 : Int) := fun x hx => by have := hp.rng x hx; omega
  have hs : Small r.1 := hk.lin.small (B := 30) (by omega) hrg (by omega) (by omega)
  have hll := hk.ll
  simp only [show (⟨r.2.1.lens, r.2.1.ckpts, r.2.1.arcs⟩ : Pat) = r.2.1 from rfl]
  have toC : ∀ x : List Int, (x.length = r.2.1.lens.length ∧ ∀ j : Nat, j < r.2.1.lens.length → 0 ≤ nI x j ∧ nI x j ≤ nI r.2.1.lens j) → CutG n r.2.1.lens x := fun x hx => ⟨by omega, fun q hq => hx.2 q (by omega)⟩
  refine (cut_o hc2 (by omega) hrg (by omega) (by omega) (by omega)).bind fun x1 hx1 => ?_
  have hx1l := hx1.1
  refine (lower_o hs (by omega) (by omega)).bind fun y1 hy1 => (cut_o hx1.2.2 (by omega) hrg (by omega) (by omega) (by omega)).bind fun x2 hx2 => ?_
  have hx2l := hx2.1
  refine (lower_o hs (by omega) (by omega)).bind fun y2 hy2 => (cut_o hx2.2.2 (by omega) hrg (by omega) (by omega) (by omega)).bind fun z hz => ?_
  have hzc := toC z.1 ⟨hz.1, hz.2.1⟩
  have hzl := hzc.len
  have c1 := (consP_iff hk hp.arc).1 hy1.cons
  have c2 := (consP_iff hk hp.arc).1 hy2.cons
  have l1 := c1.1.len; have l2 := c2.1.len
  have hfull : ConsP r.1 (fullC r.1) := (consP_iff hk hp.arc).2 (by rw [hk.full]; exact ⟨⟨hl, fun q hq => ⟨(hp.nI_rng q).1, Int.le_refl _⟩⟩, fun a ha => orph_not.2 (by have := (hp.arc a ha).ix; omega)⟩)
  have hpat := hk.pat hp n2
  refine (opat_o hs (by omega)).bind fun q hq => ?_
  rcases hq with ⟨_, rfl⟩ | ⟨hno, _⟩
  · rw [hll]
    simp only [Bool.not_true, orM_false]
    rw [check_g hpat (by omega) (by omega) (by omega), meet_g (by omega) (by omega) (by omega), join_g (by omega) (by omega) (by omega)]
    simp only [Option.bind_some]
    have hmeet : ConsP r.1 (meetL y1 y2) := (consP_iff hk hp.arc).2 ⟨⟨by rw [meetL_len (by omega)]; exact l1, fun q hq => by rw [meetL_nI (by omega) (by omega)]; have := c1.1.rng q hq; have := c2.1.rng q hq; omega⟩, c1.2.meet hp.arc l1 l2 c2.2⟩
    have hjoin : ConsP r.1 (joinL y1 y2) := (consP_iff hk hp.arc).2 ⟨⟨by rw [joinL_len (by omega)]; exact l1, fun q hq => by rw [joinL_nI (by omega) (by omega)]; have := c1.1.rng q hq; have := c2.1.rng q hq; omega⟩, c1.2.join hp.arc l1 l2 c2.2⟩
    refine Ok.bind (Q := fun b => b = false) (Ok.orM (fun _ => (cons_o hs (by omega)).bind fun b hb => Ok.ret (by rw [hb.2 hmeet]; rfl)) (fun e => by simp at e)) fun b hb => ?_
    subst hb
    refine Ok.bind (Q := fun b => b = false) (Ok.orM (fun _ => (cons_o hs (by omega)).bind fun b hb => Ok.ret (by rw [hb.2 hjoin]; rfl)) (fun e => by simp at e)) fun b hb => ?_
    subst hb
    simp only [Bool.false_eq_true, if_false]
    have hzc' : CutG n (⟨fullC r.1, r.2.1.ckpts, arcL r.1 n⟩ : Pat).lens z.1 := by simp only; rw [hk.full]; exact hzc
    refine (cons_o hs (by omega)).bind fun b hb => ?_
    rw [cons_g hpat (by omega) (by omega) (by omega) hzc', Option.bind_some]
    have hbe : b = consB (arcL r.1 n) z.1 := by
      rw [Bool.eq_iff_iff, hb, consB_iff, hk.cons hp.arc, consP_iff hk hp.arc]
      exact ⟨fun h => h.2, fun h => ⟨hzc, h⟩⟩
    rw [← hbe]
    simp only [beq_self_eq_true, andM_true]
    refine Ok.bind (Q := fun b => b = true) ?_ fun b hb => Ok.ret hb
    refine (lower_o hs (by omega) (by omega)).bind fun u hu => (clower_g hpat (by omega) (by omega) (by omega) hzc').bind fun v hv => ?_
    have huv : u = v := by
      refine hu.unique ?_
      obtain ⟨v1, v2, v3, v4⟩ := hv
      simp only at v1 v2 v4
      rw [hk.full] at v1 v4
      have hclamp : ∀ j, j < r.1.length → clampI r.1 z.1 j = nI z.1 j := fun j hj => by
        have := hzc.rng j (by omega); have := hk.row (q := j) (by omega)
        unfold clampI; rw [if_pos (by omega)]; omega
      refine ⟨(consP_iff hk hp.arc).2 ⟨v1, (hk.cons hp.arc).1 v2⟩, fun j hj => ?_, fun w hw hle j hj => ?_⟩
      · rw [hclamp j hj]; exact v3 j (by have := v1.len; omega)
      · have hw' := (consP_iff hk hp.arc).1 hw
        exact v4 w hw'.1 ((hk.cons hp.arc).2 hw'.2) (fun q hq => by have := hw'.1.len; have := hle q (by omega); rw [hclamp q (by omega)] at this; exact this) j (by have := hw'.1.len; omega)
    subst huv
    have := hv.1.len
    rw [sameints_o (by omega) (by omega)]
    exact Ok.ret (by simp)
  · exact absurd hfull hno
end Go.Mine
