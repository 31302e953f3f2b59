/- Zigzag paths, plain: the reference's paths. -/
import Derived.Test.YtlceljfigccllaaA21p
import Derived.Test.YtlceljfigccllaaP21d
set_option linter.unusedSimpArgs false
set_option linter.unusedVariables false
namespace Go.Mine
open Go.RowKit
/-- the messages that a Z-path can begin with lead to these -/
def FirS (p : Pat) (a : Pt) (F : List Pt) : Prop := ∀ x, x ∈ F ↔ ∃ r ∈ p.arcs, r.rcv ≠ 0 ∧ r.fr = a.proc ∧ a.index < (ivl (ckR p r.fr) r.ix : Int) ∧ x = (arcE p r).x1
theorem Rch.climb {n B : Nat} {p : Pat} {F : List Pt} {y x : Pt} (hy : VN n p y) (hx : VN n p x) (hr : Rch n p F y) (hp : y.proc = x.proc) (hi : y.index ≤ x.index) : Rch n p F x := by
  obtain ⟨y1, y2⟩ := y; obtain ⟨x1, x2⟩ := x
  simp only at hp hi
  subst hp
  have p0 := hy.p0; have p1 := hy.p1; have i0 := hy.i0; have i1 := hx.i1
  simp only at p0 p1 i0 i1
  obtain ⟨q, rfl⟩ := Int.eq_ofNat_of_zero_le p0
  obtain ⟨i, rfl⟩ := Int.eq_ofNat_of_zero_le i0
  obtain ⟨d, hd⟩ := Int.eq_ofNat_of_zero_le (show 0 ≤ x2 - i by omega)
  have := Rch.up (by omega) hr d (by omega)
  rw [show x2 = ((i + d : Nat) : Int) by omega]; exact this
theorem arc_vn {n B : Nat} {p : Pat} (h : PatG n B p) {r : Arc} (hr : r ∈ p.arcs) (hc : r.rcv ≠ 0) : VN n p (arcE p r).x0 ∧ VN n p (arcE p r).x1 := IsEdge.vn h (.inr ⟨r, hr, hc, rfl⟩)
theorem za_rch {n B : Nat} {p : Pat} (h : PatG n B p) (hB : B ≤ 64) {a : Pt} {F : List Pt} (hF : FirS p a F) {y : Pt} (hz : ZA p a y) : Rch n p F y := by
  induction hz with
  | @first r h1 h2 h3 h4 => exact .start ((hF _).2 ⟨r, h1, h2, h3, h4, rfl⟩)
  | @next y r hy h1 h2 h3 h4 ih =>
    have hv := hy.vx h hB
    refine .step (e := arcE p r) (ih.climb (B := B) ⟨hv.1.1, hv.1.2.1, hv.1.2.2.1, hv.2.2⟩ (arc_vn h h1 h2).1 h3.symm h4) (.inr ⟨r, h1, h2, rfl⟩)
theorem rch_za {n : Nat} {p : Pat} {a : Pt} {F : List Pt} (hF : FirS p a F) {x : Pt} (hr : Rch n p F x) : ∃ y, ZA p a y ∧ y.proc = x.proc ∧ y.index ≤ x.index := by
  induction hr with
  | start hx =>
    obtain ⟨r, h1, h2, h3, h4, rfl⟩ := (hF _).1 hx
    exact ⟨_, .first h1 h2 h3 h4, rfl, Int.le_refl _⟩
  | @step e _ he ih =>
    obtain ⟨y, h1, h2, h3⟩ := ih
    rcases he with ⟨q, j, _, _, rfl⟩ | ⟨r, g1, g2, rfl⟩
    · simp only [chE] at h2 h3 ⊢
      exact ⟨y, h1, h2, by omega⟩
    · exact ⟨_, .next h1 g1 g2 h2.symm h3, rfl, Int.le_refl _⟩
theorem rpath_g {n B : Nat} {p : Pat} (h : PatG n B p) (hn : n ≤ 5) (hB : B ≤ 64) {a b : Pt} (ha : VN n p a) (hb : VN n p b) : ref21_Path 10000000 p a b = some (zpB p a b) := by
  have hal := h.al; have hk := h.ck
  have hiv : ∀ q k : Int, 0 ≤ q → q < n → ref16_Interval 10000000 p q k = some (ivl (ckR p q) k : Int) := fun q k q0 q1 => rinterval_g q0 (by omega) (by have := h.ckW q; omega) (by omega)
  unfold ref21_Path
  refine Ok.eq (Ok.bind (Q := fun F => FirS p a F ∧ F.length ≤ 1000) (Ok.for_ p.arcs.length (fun k s => s.2 = (k : Int) ∧ s.1.length ≤ k ∧ ∀ x, x ∈ s.1 ↔ ∃ r ∈ p.arcs.take k, r.rcv ≠ 0 ∧ r.fr = a.proc ∧ a.index < (ivl (ckR p r.fr) r.ix : Int) ∧ x = (arcE p r).x1) ⟨rfl, by simp, by simp⟩ (by omega) ?_) fun F ⟨hF, hFl⟩ => ?_)
  · rintro k ⟨F, i⟩ hk2 ⟨hi, hFl, hF⟩
    simp only at hi hFl hF
    subst hi
    simp only [ref21_Path_B2, show (⟨p.lens, p.ckpts, p.arcs⟩ : Pat) = p from rfl]
    refine Ok.iteP (fun hkl => ?_) (fun hkl => Ok.ret ⟨?_, by omega⟩)
    · have hkl' : k < p.arcs.length := by omega
      have hag := h.arc p.arcs[k] (List.getElem_mem _)
      have hmem : ∀ e, e ∈ p.arcs.take (k + 1) ↔ e ∈ p.arcs.take k ∨ e = p.arcs[k] := fun e => by rw [mem_take_succ', List.getElem?_eq_getElem hkl', Option.some.injEq, eq_comm (a := p.arcs[k])]
      rw [ati_get hkl', Option.bind_some, andM_some, Option.bind_some, hiv _ _ hag.fr.1 hag.fr.2, Option.bind_some, andM_some, Option.bind_some]
      refine Ok.ite (fun hc => ?_) (fun hc => Ok.ret ⟨hkl', w64_nat (by omega), by simp only; omega, fun x => ?_⟩)
      · rw [hiv _ _ hag.to.1 hag.to.2, Option.bind_some]
        refine (Ok.snoc (by omega)).bind fun F' hF' => Ok.ret ⟨hkl', w64_nat (by omega), by simp [hF']; omega, fun x => ?_⟩
        simp at hc
        simp only [hF']
        rw [List.mem_append, List.mem_singleton, hF x]
        constructor
        · rintro (⟨r, h1, h2⟩ | rfl)
          · exact ⟨r, (hmem r).2 (.inl h1), h2⟩
          · exact ⟨_, (hmem _).2 (.inr rfl), by omega, hc.1.2, hc.2, rfl⟩
        · rintro ⟨r, h1, h2, h3, h4, h5⟩
          rcases (hmem r).1 h1 with h6 | rfl
          · exact .inl ⟨r, h6, h2, h3, h4, h5⟩
          · exact .inr h5
      · simp only
        rw [hF x]
        constructor
        · rintro ⟨r, h1, h2⟩; exact ⟨r, (hmem r).2 (.inl h1), h2⟩
        · rintro ⟨r, h1, h2, h3, h4, h5⟩
          rcases (hmem r).1 h1 with h6 | rfl
          · exact ⟨r, h6, h2, h3, h4, h5⟩
          · exfalso
            have := hag.rcv.1
            simp [show 0 < (p.arcs[k]).rcv by omega, h3] at hc
            rw [h3] at h4; omega
    · rw [show k = p.arcs.length by omega, List.take_length] at hF; exact hF
  · unfold ref21_Path_K1
    rw [show (⟨p.lens, p.ckpts, p.arcs⟩ : Pat) = p from rfl]
    refine (rreach_g h hn hB (by omega) (fun x hx => ?_) hFl).bind fun m ⟨hs, hm⟩ => ?_
    · obtain ⟨r, h1, h2, _, _, rfl⟩ := (hF x).1 hx
      exact (arc_vn h h1 h2).2
    · -- the last message of a Z-path
      have hlast : zpath p a b ↔ ∃ r ∈ p.arcs, r.rcv ≠ 0 ∧ r.to = b.proc ∧ (ivl (ckR p r.to) r.rcv : Int) ≤ b.index ∧ ((r.fr = a.proc ∧ a.index < (ivl (ckR p r.fr) r.ix : Int)) ∨ bm m (arcE p r).x0 = true) := by
        constructor
        · rintro ⟨y, hy, hyp, hyi⟩
          cases hy with
          | @first r h1 h2 h3 h4 => exact ⟨r, h1, h2, hyp, hyi, .inl ⟨h3, h4⟩⟩
          | @next y r hy h1 h2 h3 h4 =>
            have hv := hy.vx h hB
            exact ⟨r, h1, h2, hyp, hyi, .inr ((hm _ (arc_vn h h1 h2).1).2 ((za_rch h hB hF hy).climb (B := B) ⟨hv.1.1, hv.1.2.1, hv.1.2.2.1, hv.2.2⟩ (arc_vn h h1 h2).1 h3.symm h4))⟩
        · rintro ⟨r, h1, h2, h3, h4, ⟨h5, h6⟩ | h5⟩
          · exact ⟨_, .first h1 h2 h5 h6, h3, h4⟩
          · obtain ⟨y, g1, g2, g3⟩ := rch_za hF ((hm _ (arc_vn h h1 h2).1).1 h5)
            exact ⟨_, .next g1 h1 h2 g2.symm g3, h3, h4⟩
      refine Ok.bind (Q := fun t => match t with | .inl _ => ¬ zpath p a b | .inr c => c = true ∧ zpath p a b) (Ok.for_ p.arcs.length (fun k s => s = (k : Int) ∧ ∀ r ∈ p.arcs.take k, ¬ (r.rcv ≠ 0 ∧ r.to = b.proc ∧ (ivl (ckR p r.to) r.rcv : Int) ≤ b.index ∧ ((r.fr = a.proc ∧ a.index < (ivl (ckR p r.fr) r.ix : Int)) ∨ bm m (arcE p r).x0 = true))) ⟨rfl, by simp⟩ (by omega) ?_) ?_
      · rintro k s hk2 ⟨rfl, h1⟩
        simp only [ref21_Path_B1, show (⟨p.lens, p.ckpts, p.arcs⟩ : Pat) = p from rfl]
        refine Ok.iteP (fun hkl => ?_) (fun hkl => Ok.ret ?_)
        · have hkl' : k < p.arcs.length := by omega
          have hin : p.arcs[k] ∈ p.arcs := List.getElem_mem _
          have hag := h.arc p.arcs[k] hin
          have hnext : ¬ ((p.arcs[k]).rcv ≠ 0 ∧ (p.arcs[k]).to = b.proc ∧ (ivl (ckR p (p.arcs[k]).to) (p.arcs[k]).rcv : Int) ≤ b.index ∧ (((p.arcs[k]).fr = a.proc ∧ a.index < (ivl (ckR p (p.arcs[k]).fr) (p.arcs[k]).ix : Int)) ∨ bm m (arcE p p.arcs[k]).x0 = true)) → ∀ r ∈ p.arcs.take (k + 1), ¬ (r.rcv ≠ 0 ∧ r.to = b.proc ∧ (ivl (ckR p r.to) r.rcv : Int) ≤ b.index ∧ ((r.fr = a.proc ∧ a.index < (ivl (ckR p r.fr) r.ix : Int)) ∨ bm m (arcE p r).x0 = true)) := fun hno r hr => by
            rw [mem_take_succ', List.getElem?_eq_getElem hkl', Option.some.injEq] at hr
            rcases hr with h5 | rfl
            · exact h1 r h5
            · exact hno
          rw [ati_get hkl', Option.bind_some, orM_some, Option.bind_some, hiv _ _ hag.to.1 hag.to.2, Option.bind_some, orM_some, Option.bind_some]
          refine Ok.ite (fun hc => Ok.ret ⟨hkl', w64_nat (by omega), hnext ?_⟩) (fun hc => ?_)
          · simp at hc
            rintro ⟨g1, g2, g3, _⟩
            rcases hc with (h5 | h5) | h5
            · exact g1 h5
            · exact h5 g2
            · omega
          · simp at hc
            have hvn := (arc_vn h hin hc.1.1).1
            have e1 : ati m (p.arcs[k]).fr = some (rw2 m (p.arcs[k]).fr) := VN.at1 hvn hs
            have e2 : ati (rw2 m (p.arcs[k]).fr) (ivl (ckR p (p.arcs[k]).fr) (p.arcs[k]).ix : Int) = some (bm m (arcE p p.arcs[k]).x0) := VN.at2 hvn hs
            rw [hiv _ _ hag.fr.1 hag.fr.2, Option.bind_some, andM_some, Option.bind_some, e1, Option.bind_some, e2, Option.bind_some, orM_some, Option.bind_some]
            refine Ok.ite (fun hd => Ok.ret ⟨rfl, hlast.2 ⟨_, hin, hc.1.1, hc.1.2, hc.2, ?_⟩⟩) (fun hd => Ok.ret ⟨hkl', w64_nat (by omega), hnext ?_⟩)
            · simpa using hd
            · rintro ⟨_, _, _, h5⟩
              have hd' : ¬ ((((p.arcs[k]).fr == a.proc) && decide (a.index < (ivl (ckR p (p.arcs[k]).fr) (p.arcs[k]).ix : Int))) || bm m (arcE p p.arcs[k]).x0) = true := by rw [hd]; simp
              exact hd' (by simpa using h5)
        · rw [show k = p.arcs.length by omega, List.take_length] at h1
          show ¬ zpath p a b
          rw [hlast]
          rintro ⟨r, h5, h6⟩; exact h1 r h5 h6
      · rintro (u | c) ht
        · refine Ok.ret ?_
          rcases Bool.eq_false_or_eq_true (zpB p a b) with h5 | h5
          · exact absurd (zpB_iff.1 h5) ht
          · exact h5.symm
        · exact Ok.ret (ht.1.trans (zpB_iff.2 ht.2).symm)
end Go.Mine
