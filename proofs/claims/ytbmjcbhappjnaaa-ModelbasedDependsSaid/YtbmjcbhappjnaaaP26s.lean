/- Plain: ModelbasedDepends, the law. -/
import Derived.Test.YtbmjcbhappjnaaaA26s
import Derived.Test.YtbmjcbhappjnaaaP26d
import Derived.Test.YtbmjcbhappjnaaaP19
set_option linter.unusedSimpArgs false
set_option linter.unusedVariables false
namespace Go.Mine
open Go.RowKit
theorem MbI.clk_eq {n m W : Nat} {c : C26} {κ : Int → Int → List Int} (h : MbI n m W c κ) (hm : m ≤ 64) (hW : W ≤ 64) (hn : n ≤ 5) {q : Nat} (hq : q < n) {k : Int} (h0 : 0 ≤ k) (h1 : k ≤ nI c.lens q) : Go.Mine.clk ⟨c.lens, c.ckpts, c.arcs⟩ q k = κ q k :=
  ((clk_s (h.patG hm hW) hn (by omega) (by omega) (by omega) h0 h1).2).uniq (h.clk q hq k h0 h1)
theorem MbI.dv_eq {n m W : Nat} {c : C26} {κ : Int → Int → List Int} (h : MbI n m W c κ) (hm : m ≤ 64) (hW : W ≤ 64) (hn : n ≤ 5) {q : Nat} (hq : q < n) {i : Int} (hi : 0 ≤ i) {s : Nat} : (dv ⟨c.lens, c.ckpts, c.arcs⟩ ⟨q, i⟩ s : Int) = dep κ c.ckpts q (cidx ⟨c.lens, c.ckpts, c.arcs⟩ q i) s := by
  have hc := cidx_rng (h.patG hm hW) (q := (q : Int)) (i := i) (by omega) (by omega) hi
  unfold dv dep
  simp only
  rw [h.clk_eq hm hW hn hq hc.1 hc.2]; rfl
theorem mbDepends {a0 : List Int} (h0 : ∀ x ∈ a0, U8 x) : law26_ModelbasedDepends 10000000 a0 = some true := by
  unfold law26_ModelbasedDepends
  rw [show law26_awake 10000000 = some true from awake26i 9999000, Option.bind_some]
  simp only [Bool.not_true, Bool.false_eq_true, if_false]
  refine Ok.eq ((draw_mb h0).bind fun r ⟨n, hn, n2, n4, hr, hl⟩ => ?_)
  rw [hn, play_mb (by omega) (by omega) hr (by omega), Option.bind_some]
  obtain ⟨κ, h⟩ := MbI.run (n := n) hr r.2.2
  generalize C26.run n r.2.1 r.2.2 = c at h
  have hm : r.2.2.length ≤ 64 := by omega
  have hn5 : n ≤ 5 := by omega
  have hG := h.patG hm hm
  have hvl := h.vl; have hck := h.pat.ck
  simp only at hck
  rw [show ((0 : Int) != 0) = false from rfl, orM_false, show (⟨(⟨c.hist.hist.pat.lens, c.hist.hist.pat.ckpts, c.hist.hist.pat.arcs⟩ : Pat), c.hist.hist.clocks, c.hist.hist.vecs, c.hist.hist.forced⟩ : Hist) = c.hist.hist from rfl, sound_mb h hm hm hn5, Option.bind_some, Option.bind_some]
  simp only [Bool.not_true, Bool.false_eq_true, if_false]
  refine Ok.bind (Q := fun t => t = .inl ()) (Ok.for_ n (fun k s => s = (k : Int)) rfl (by omega) ?_) fun t ht => by subst ht; exact Ok.ret rfl
  rintro q s hq rfl
  simp only [law26_ModelbasedDepends_B1]
  rw [hn]
  refine Ok.iteP (fun hlt => ?_) fun hlt => Ok.ret rfl
  have hqn : q < n := by omega
  have hrow := h.rows q hqn
  have hw := hG.ckW (q : Int)
  have hcr : ckR ⟨c.lens, c.ckpts, c.arcs⟩ (q : Int) = rwL c.ckpts q := rfl
  rw [hcr] at hw
  refine Ok.bind (Q := fun t => t = .inl ()) (Ok.for_ (rwL c.vecs q).length (fun k s => s = (k : Int)) rfl (by omega) ?_) fun t ht => by subst ht; exact Ok.ret ⟨hqn, w64_nat (by omega)⟩
  rintro j s hj rfl
  simp only [law26_ModelbasedDepends_B2, C26.hist, HistV.hist]
  rw [ati_rw (xs := c.vecs) (by omega), Option.bind_some]
  refine Ok.iteP (fun hjl => ?_) fun hjl => Ok.ret rfl
  have hjn : j < (rwL c.vecs q).length := by omega
  rw [Option.bind_some, ati_get hjn, Option.bind_some]
  have hvn : VN n ⟨c.lens, c.ckpts, c.arcs⟩ ⟨(q : Int), (j : Int)⟩ := ⟨by simp only; omega, by simp only; omega, by simp only; omega, by simp only; rw [hcr]; omega⟩
  have hv := h.vec q hqn j _ (List.getElem?_eq_getElem hjn)
  have hdl : (dvL n ⟨c.lens, c.ckpts, c.arcs⟩ ⟨(q : Int), (j : Int)⟩).length = n := by simp [dvL]
  have he : (rwL c.vecs q)[j] = dvL n ⟨c.lens, c.ckpts, c.arcs⟩ ⟨(q : Int), (j : Int)⟩ := list_ext_nI (by rw [hv.1, hdl]) fun s hs => by
    rw [hv.1] at hs
    rw [hv.2 s hs]
    have : nI (dvL n ⟨c.lens, c.ckpts, c.arcs⟩ ⟨(q : Int), (j : Int)⟩) s = (dv ⟨c.lens, c.ckpts, c.arcs⟩ ⟨(q : Int), (j : Int)⟩ s : Int) := nI_map hs
    rw [this, h.dv_eq hm hm hn5 hqn (by omega), cidx, if_pos (by rw [hcr]; omega)]; rfl
  have hck2 := Ckpt_g hG hn5 (by omega) hvn
  simp only at hck2
  rw [hck2, Option.bind_some, he, sameints_o (by omega) (by omega), Option.bind_some]
  simp only [decide_true, Bool.not_true, Bool.false_eq_true, if_false]
  exact Ok.ret ⟨hjn, w64_nat (by omega)⟩
end Go.Mine
