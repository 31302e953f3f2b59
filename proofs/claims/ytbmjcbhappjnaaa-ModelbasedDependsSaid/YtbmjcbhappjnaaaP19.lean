/- Dependency vectors, plain. -/
import Derived.Test.YtbmjcbhappjnaaaA19
import Derived.Test.YtbmjcbhappjnaaaP17a
import Derived.Test.YtbmjcbhappjnaaaP20c
set_option linter.unusedSimpArgs false
set_option linter.unusedVariables false
namespace Go.Mine
open Go.RowKit
def clk (p : Pat) (q k : Int) : List Int := (causal_Clock 10000000 p q k).getD []
def cidx (p : Pat) (q i : Int) : Int := if i < ((ckR p q).length : Int) then nI (ckR p q) i else nI p.lens q
def dv (p : Pat) (x : Pt) (s : Int) : Nat := ivl (ckR p s) (nI (clk p x.proc (cidx p x.proc x.index)) s)
def dvL (n : Nat) (p : Pat) (x : Pt) : List Int := (List.range n).map fun (s : Nat) => (dv p x s : Int)
theorem nI_map {n : Nat} {g : Nat → Int} {s : Nat} (h : s < n) : nI ((List.range n).map g) s = g s := by simp [nI, h]
theorem lenOk_ok {x : List Int} (hx : x.length = 5) : lenOk x 5 = some () := by unfold lenOk; rw [if_pos hx]
section
variable {n B : Nat} {p : Pat} (h : PatG n B p) (hn : n ≤ 5) (hB : B ≤ 64)
include h
theorem cidx_rng {q i : Int} (h0 : 0 ≤ q) (h1 : q < n) (hi : 0 ≤ i) : 0 ≤ cidx p q i ∧ cidx p q i ≤ nI p.lens q := by
  have hc := h.ckI h0 h1
  unfold cidx
  split
  · rename_i hl
    obtain ⟨k, rfl⟩ := Int.eq_ofNat_of_zero_le hi
    rw [nI_get (by omega)]
    exact ⟨hc.nonneg _ (List.getElem_mem _), hc.le _ (List.getElem_mem _)⟩
  · exact ⟨(h.nI_rng q).1, Int.le_refl _⟩
include hn hB
theorem clk_s {q k : Int} (h0 : 0 ≤ q) (h1 : q < n) (hk : 0 ≤ k) (hkl : k ≤ nI p.lens q) : causal_Clock 10000000 p q k = some (clk p q k) ∧ ClkS n p.arcs q k (clk p q k) := by
  obtain ⟨c, h2, h3⟩ := Clock_g (fuel := 10000000) h hn hB (by omega) h0 h1 hk hkl
  have e : clk p q k = c := by unfold clk; rw [h2]; rfl
  rw [e]; exact ⟨h2, h3⟩
omit hn hB in
theorem index_g {fuel : Nat} {q i : Int} (h0 : 0 ≤ q) (h1 : q < n) (hi : 0 ≤ i) : depend_Index fuel p q i = some (cidx p q i) := by
  have hc := h.ck; have hl := h.len
  unfold depend_Index cidx
  rw [orM_some, Option.bind_some, orM_some, Option.bind_some, orM_some, Option.bind_some, if_neg (by simp; omega), ati_ck h0 (by omega), Option.bind_some]
  by_cases hk : i < ((ckR p q).length : Int)
  · rw [if_pos (by simpa using hk), if_pos hk, Option.bind_some, ati_nI hi hk]; rfl
  · rw [if_neg (by simpa using hk), if_neg hk, ati_nI h0 (by omega)]; rfl
theorem exists_g {x : Pt} (hx : VN n p x) : depend_exists 10000000 p x = some true := by
  have hc := h.ck; have hl := h.len
  have p0 := hx.p0; have p1 := hx.p1; have i0 := hx.i0; have i1 := hx.i1
  unfold depend_exists
  rw [show (⟨p.lens, p.ckpts, p.arcs⟩ : Pat) = p from rfl, check_g h hn hB (by omega), Option.bind_some, orM_some, Option.bind_some, orM_some, Option.bind_some, if_neg (by simp; omega), ati_ck p0 (by omega), Option.bind_some, andM_some, Option.bind_some]
  congr 1; simp; omega
theorem intervals_g {q k : Int} (h0 : 0 ≤ q) (h1 : q < n) (hk : 0 ≤ k) (hkl : k ≤ nI p.lens q) : Ok (depend_intervals 10000000 p q k) fun v => v.length = 5 ∧ ∀ s : Nat, s < n → nI v s = (ivl (ckR p s) (nI (clk p q k) s) : Int) := by
  have hc := h.ck
  obtain ⟨e1, hclk⟩ := clk_s h hn hB h0 h1 hk hkl
  have hcl := hclk.1
  unfold depend_intervals
  rw [show (⟨p.lens, p.ckpts, p.arcs⟩ : Pat) = p from rfl, e1, Option.bind_some]
  refine Ok.bind (Q := fun v => v.length = 5 ∧ ∀ s : Nat, s < n → nI v s = (ivl (ckR p s) (nI (clk p q k) s) : Int)) (Ok.for_ n (fun i s => s.2 = (i : Int) ∧ s.1.length = 5 ∧ ∀ s' : Nat, s' < i → nI s.1 s' = (ivl (ckR p s') (nI (clk p q k) s') : Int)) ⟨rfl, by simp, fun s hs => by omega⟩ (by omega) ?_) fun t ⟨t1, t2⟩ => ?_
  · rintro i ⟨v, i'⟩ hi ⟨e, hv, hs⟩
    simp only at e hv hs
    subst e
    simp only [depend_intervals_B1]
    refine Ok.iteP (fun hil => ?_) (fun hil => Ok.ret ⟨hv, fun s hs' => hs s (by omega)⟩)
    have hw := h.ckW i
    rw [ati_nI (by omega) (by omega), Option.bind_some, show (⟨p.lens, p.ckpts, p.arcs⟩ : Pat) = p from rfl, interval_g (by omega) (by omega) (by omega) (by omega), Option.bind_some, bnd_ok (by omega) (by omega), Option.bind_some, Int.toNat_natCast, ix_eq]
    refine (Ok.set (by omega) (by omega)).bind fun v2 hv2 => Ok.ret ⟨by omega, w64_nat (by omega), ?_⟩
    subst hv2
    refine ⟨by simp [hv], fun s' hs' => ?_⟩
    simp only
    have := nI_set (xs := v) (i := ((0 + i * 1 : Nat) : Int)) (j := (s' : Int)) (x := (ivl (ckR p i) (nI (clk p q k) i) : Int)) (by omega) (by omega) (by omega)
    rw [this]
    split
    · rename_i e; have : s' = i := by omega
      subst this; rfl
    · exact hs s' (by omega)
  · unfold depend_intervals_K1
    have e5 : lenOk t 5 = some () := by unfold lenOk; rw [if_pos t1]
    have e6 : lenOk (List.replicate 5 (0 : Int)) 5 = some () := by unfold lenOk; rw [if_pos (by simp)]
    rw [e5, Option.bind_some, e6, Option.bind_some, Option.bind_some]
    exact Ok.ret ⟨t1, t2⟩
theorem Ckpt_g {x : Pt} (hx : VN n p x) : depend_Ckpt 10000000 p x.proc x.index = some (dvL n p x) := by
  have hl := h.len
  have hr := cidx_rng h hx.p0 hx.p1 hx.i0
  have hv0 : VN n p ⟨x.proc, 0⟩ := ⟨hx.p0, hx.p1, by simp, by simp⟩
  unfold depend_Ckpt
  rw [show (⟨p.lens, p.ckpts, p.arcs⟩ : Pat) = p from rfl, exists_g h hn hB (x := ⟨x.proc, x.index⟩) hx, Option.bind_some]
  simp only [Bool.not_true, Bool.false_eq_true, if_false]
  rw [index_g h hx.p0 hx.p1 hx.i0, Option.bind_some]
  unfold depend_Vector
  rw [show (⟨p.lens, p.ckpts, p.arcs⟩ : Pat) = p from rfl, exists_g h hn hB hv0, Option.bind_some, orM_some, Option.bind_some, ati_nI hx.p0 (by have := hx.p1; omega), Option.bind_some, orM_some, Option.bind_some, if_neg (by simp; omega)]
  refine Ok.eq ?_
  refine Ok.bind (Q := fun r => r = dvL n p x) ?_ fun r hr => by subst hr; exact Ok.ret rfl
  refine (intervals_g h hn hB hx.p0 hx.p1 hr.1 hr.2).bind fun v ⟨v1, v2⟩ => ?_
  rw [lenOk_ok (by simp), Option.bind_some, lenOk_ok v1, Option.bind_some, Option.bind_some, hl]
  refine (Ok.take (by omega) (by omega)).bind fun w hw => ?_
  unfold Clone_Int
  refine (Ok.cat (by subst hw; simp; omega)).bind fun u hu => Ok.ret ?_
  subst hu hw
  show List.take (n : Int).toNat v = dvL n p x
  rw [Int.toNat_natCast]
  refine list_ext_nI (by simp [dvL]; omega) fun s hs => ?_
  have hsn : s < n := by simp at hs; omega
  rw [dvL, nI_map hsn]
  have := v2 s hsn
  unfold nI at this ⊢
  rw [Int.toNat_natCast, List.getElem?_take_of_lt hsn]
  rw [Int.toNat_natCast] at this
  exact this
end
end Go.Mine
