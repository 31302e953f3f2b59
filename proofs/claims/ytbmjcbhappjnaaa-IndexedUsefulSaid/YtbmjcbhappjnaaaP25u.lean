/- Plain: IndexedUseful, the law. -/
import Derived.Test.YtbmjcbhappjnaaaA25e
import Derived.Test.YtbmjcbhappjnaaaP25l
import Derived.Test.YtbmjcbhappjnaaaP21c
set_option linter.unusedSimpArgs false
set_option linter.unusedVariables false
namespace Go.Mine
open Go.RowKit
/-- the clock of an interval -/
def cli (K : List (List Int)) (y : Pt) : Int := nI (rwL K y.proc) (y.index - 1)
theorem IxI.cli_mono {n m W : Nat} {p : Pat} {K : List (List Int)} {f : List (List Bool)} {t : List Int} {g : List IndexedLetter} (h : IxI n m W p K f t g) {q : Nat} (hq : q < n) {i j : Int} (hi : 1 ≤ i) (hij : i ≤ j) (hj : j ≤ (ckR p q).length) :
    cli K ⟨q, i⟩ ≤ cli K ⟨q, j⟩ ∧ (i < j → cli K ⟨q, i⟩ < cli K ⟨q, j⟩) := by
  have hr := h.row q hq
  have hl := hr.cl
  obtain ⟨a, rfl⟩ := Int.eq_ofNat_of_zero_le (show 0 ≤ i by omega)
  obtain ⟨b, rfl⟩ := Int.eq_ofNat_of_zero_le (show 0 ≤ j by omega)
  have e : ∀ c : Nat, 1 ≤ c → c ≤ (ckR p q).length → ∃ h : c - 1 < (rwL K q).length, cli K ⟨q, (c : Int)⟩ = (rwL K q)[c - 1] := fun c h1 h2 => ⟨by omega, by
    unfold cli
    simp only
    rw [show (c : Int) - 1 = ((c - 1 : Nat) : Int) by omega]
    exact nI_get (by omega)⟩
  obtain ⟨x1, x2⟩ := e a (by omega) (by omega)
  obtain ⟨y1, y2⟩ := e b (by omega) (by omega)
  rw [x2, y2]
  rcases Nat.lt_or_ge a b with h5 | h5
  · have := List.pairwise_iff_getElem.1 hr.asc (a - 1) (b - 1) x1 y1 (by omega)
    omega
  · have : a = b := by omega
    subst this
    exact ⟨Int.le_refl _, fun h => by omega⟩
theorem IxI.za {n m W : Nat} {p : Pat} {K : List (List Int)} {f : List (List Bool)} {t : List Int} {g : List IndexedLetter} (h : IxI n m W p K f t g) {a : Pt} (ha : VN n p a) {y : Pt} (hz : ZA p a y) :
    (0 ≤ y.proc ∧ y.proc < n) ∧ 1 ≤ y.index ∧ y.index ≤ (ckR p y.proc).length ∧ (a.index < (ckR p a.proc).length → cli K ⟨a.proc, a.index + 1⟩ ≤ cli K y) := by
  have step : ∀ {r : Arc}, r ∈ p.arcs → r.rcv ≠ 0 → (0 ≤ r.to ∧ r.to < n) ∧ 1 ≤ (ivl (ckR p r.to) r.rcv : Int) ∧ (ivl (ckR p r.to) r.rcv : Int) ≤ (ckR p r.to).length ∧
      (0 ≤ r.fr ∧ r.fr < n) ∧ 1 ≤ (ivl (ckR p r.fr) r.ix : Int) ∧ (ivl (ckR p r.fr) r.ix : Int) ≤ (ckR p r.fr).length ∧ cli K ⟨r.fr, (ivl (ckR p r.fr) r.ix : Int)⟩ ≤ cli K (arcE p r).x1 := fun {r} hr h0 => by
    have hg := h.pat.arc r hr
    have h1 := (h.pat.ckI hg.to.1 hg.to.2).ivl_pos (k := r.rcv) (by have := hg.rcv.1; omega)
    have h2 := (h.pat.ckI hg.fr.1 hg.fr.2).ivl_pos (h.pos r hr)
    have h3 := @ivl_le (ckR p r.to) r.rcv; have h4 := @ivl_le (ckR p r.fr) r.ix
    exact ⟨hg.to, by omega, by omega, hg.fr, by omega, by omega, h.arc r hr h0⟩
  induction hz with
  | @first r hr h0 hf hlt =>
    obtain ⟨s1, s2, s3, s4, s5, s6, s7⟩ := step hr h0
    refine ⟨s1, s2, s3, fun hal => Int.le_trans ?_ s7⟩
    obtain ⟨q, hq⟩ := Int.eq_ofNat_of_zero_le s4.1
    rw [← hf, hq] at hal
    rw [← hf, hq]
    rw [hq] at s6 hlt
    have ha0 := ha.i0
    exact (h.cli_mono (by omega) (by omega) (by omega) s6).1
  | @next y r hz hr h0 hf hle ih =>
    obtain ⟨y1, y2, y3, y4⟩ := ih
    obtain ⟨s1, s2, s3, s4, s5, s6, s7⟩ := step hr h0
    refine ⟨s1, s2, s3, fun hal => Int.le_trans (y4 hal) (Int.le_trans ?_ s7)⟩
    obtain ⟨q, hq⟩ := Int.eq_ofNat_of_zero_le s4.1
    obtain ⟨y5, y6⟩ := y
    simp only at hf hle y2 y3 ⊢
    subst hf
    rw [hq] at hle s6 ⊢
    exact (h.cli_mono (by omega) y2 hle s6).1
theorem IxI.useless {n m W : Nat} {p : Pat} {K : List (List Int)} {f : List (List Bool)} {t : List Int} {g : List IndexedLetter} (h : IxI n m W p K f t g) : uslL n p = [] := by
  unfold uslL
  rw [List.filter_eq_nil_iff]
  intro x hx hz
  have hv := mem_allL.1 hx
  obtain ⟨y, hy, hp, hi⟩ := zpB_iff.1 hz
  obtain ⟨h1, h2, h3, h4⟩ := h.za hv hy
  have p0 := hv.p0; have p1 := hv.p1; have i1 := hv.i1
  obtain ⟨q, hq⟩ := Int.eq_ofNat_of_zero_le p0
  obtain ⟨x1, x2⟩ := x
  obtain ⟨y1, y2⟩ := y
  simp only at *
  subst hp; subst hq
  rcases Int.lt_or_le x2 ((ckR p (q : Int)).length : Int) with h5 | h5
  · have := h4 h5
    have := (h.cli_mono (q := q) (by omega) h2 (show y2 ≤ x2 + 1 by omega) (by omega)).2 (by omega)
    omega
  · -- the virtual checkpoint at the end: nothing is sent behind it
    exfalso
    have key : ∀ z : Pt, ZA p ⟨(q : Int), x2⟩ z → False := fun z hz => by
      induction hz with
      | @first r hr h0 hf hlt =>
        simp only at hf hlt
        have := @ivl_le (ckR p r.fr) r.ix
        rw [hf] at hlt this
        omega
      | next _ _ _ _ _ ih => exact ih
    exact key _ hy
theorem indexedUseful {a0 : List Int} (h0 : ∀ x ∈ a0, U8 x) : law25_IndexedUseful 10000000 a0 = some true := by
  unfold law25_IndexedUseful
  rw [show law25_awake 10000000 = some true from awake25i 9999000, Option.bind_some]
  simp only [Bool.not_true, Bool.false_eq_true, if_false]
  refine Ok.eq ((draw_ix h0).bind fun r ⟨n, hn, n2, n4, hl⟩ => ?_)
  rw [hn]
  refine (play_ix (n := n) (l := r.2) (by omega) (by omega) (by omega)).bind fun s ⟨s1, s2, t, g, hI⟩ => ?_
  have hn5 : n ≤ 5 := by omega
  have hm : r.2.length ≤ 64 := by omega
  have hG := hI.patG hm hm
  rw [s1, show ((0 : Int) == 0) = true from rfl, andM_true, sound_ix hI hm hm hn5, Option.bind_some, Option.bind_some, andM_true]
  rw [show (⟨s.1.pat.lens, s.1.pat.ckpts, s.1.pat.arcs⟩ : Pat) = s.1.pat from rfl, useless_g hG hn5 (by omega), hI.useless, Option.bind_some, Option.bind_some]
  exact Ok.ret rfl
end Go.Mine
