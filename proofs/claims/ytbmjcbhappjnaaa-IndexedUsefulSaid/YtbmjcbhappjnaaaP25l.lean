/- Plain: IndexedLines, the law. -/
import Derived.Test.YtbmjcbhappjnaaaA25d
import Derived.Test.YtbmjcbhappjnaaaPiy
import Derived.Test.YtbmjcbhappjnaaaPacts
import Derived.Test.YtbmjcbhappjnaaaP16c
import Derived.Test.YtbmjcbhappjnaaaP23
set_option linter.unusedSimpArgs false
set_option linter.unusedVariables false
namespace Go.Mine
open Go.RowKit
theorem draw_ix {a0 : List Int} (h : ∀ x ∈ a0, U8 x) : Ok (law25_draw 10000000 a0) fun r => ∃ n : Nat, r.1 = n ∧ 2 ≤ n ∧ n ≤ 4 ∧ r.2.length ≤ 60 := by
  unfold law25_draw
  refine (Ok.new (by omega) (by omega) h).bind fun c hc => (Ok.next hc (by omega)).bind fun a ⟨a0, a1, ha, _⟩ => ?_
  obtain ⟨n, hn⟩ := Int.eq_ofNat_of_zero_le (show 0 ≤ 2 + a.1 by omega)
  rw [w64_id (by omega) (by omega), hn]
  exact (acts_o (m := 60) ha (by omega) (by omega) (by omega) (by omega)).bind fun l ⟨hl, _⟩ => Ok.ret ⟨n, rfl, by omega, by omega, hl⟩
theorem awake25i : ∀ k, law25_awake (k + 1000) = some true := fun k => by kernel_rfl
section
variable {n m W : Nat} {p : Pat} {K : List (List Int)} {f : List (List Bool)} {t : List Int} {g : List IndexedLetter} (h : IxI n m W p K f t g)
include h
theorem IxI.patG (hm : m ≤ 64) (hW : W ≤ 64) : PatG n 64 p := h.pat.g hm hW
theorem sound_ix (hm : m ≤ 64) (hW : W ≤ 64) (hn : n ≤ 5) {V : List (List (List Int))} : law25_sound 10000000 ⟨⟨p.lens, p.ckpts, p.arcs⟩, K, V, f⟩ n = some true := by
  have hl := h.pat.len; have hk := h.pat.ck; have hkl := h.kl; have hfl := h.fl
  unfold law25_sound
  simp only
  rw [orM_some, Option.bind_some, orM_some, Option.bind_some, orM_some, Option.bind_some, if_neg (by simp; omega)]
  refine Ok.eq (Ok.bind (Q := fun t => t = .inl ()) (Ok.for_ n (fun k s => s = (k : Int)) rfl (by omega) ?_) fun t ht => ?_)
  · rintro k s hk2 rfl
    simp only [law25_sound_B1]
    refine Ok.iteP (fun hlt => ?_) fun hlt => Ok.ret rfl
    have hkn : k < n := by omega
    have hr := h.row k hkn
    have h1 := hr.cl; have h2 := hr.fl
    rw [ati_rw (xs := K) (by omega), Option.bind_some, show ati p.ckpts (k : Int) = some (ckR p k) from ati_rw (by omega), Option.bind_some, ati_rw (xs := f) (by omega)]
    simp only [Option.bind_some]
    rw [orM_some, Option.bind_some, if_neg (by simp; omega)]
    exact Ok.ret ⟨hkn, w64_nat (by omega)⟩
  · subst ht
    simp only [Sum.elim_inl, law25_sound_K1]
    rw [show (⟨p.lens, p.ckpts, p.arcs⟩ : Pat) = p from rfl, check16_g (h.patG hm hW) hn (by omega), Option.bind_some]
    exact Ok.ret rfl
/-- the place of a clock in a row -/
def lnX (r c : List Int) (x k : Int) : Int := if ivl c k < r.length then nI r (ivl c k) else x
def lnL (n : Nat) (p : Pat) (K : List (List Int)) (k : Int) : List Int := (List.range n).map fun (q : Nat) => lnX (ckR p q) (rwL K q) (nI p.lens q) k
omit h in
theorem lnL_len {k : Int} : (lnL n p K k).length = n := by simp [lnL]
omit h in
theorem lnL_nI {k : Int} {q : Nat} (hq : q < n) : nI (lnL n p K k) q = lnX (ckR p q) (rwL K q) (nI p.lens q) k := by simp [lnL, nI, hq]
omit h in
theorem lnL_snoc {k : Int} {q : Nat} : lnL (q + 1) p K k = lnL q p K k ++ [lnX (ckR p q) (rwL K q) (nI p.lens q) k] := by simp [lnL, List.range_succ]
omit h in
theorem index_ix {c : List Int} {k : Int} (hc : c.Pairwise (· < ·)) (hl : c.length ≤ 1000) : Ok (IndexLine 10000000 c k) fun r => (ivl c k < c.length ∧ r = (ivl c k : Int)) ∨ (ivl c k = c.length ∧ r = -1) := by
  unfold IndexLine
  refine Ok.bind (Q := fun t => match t with | .inl _ => ivl c k = c.length | .inr r => ivl c k < c.length ∧ r = (ivl c k : Int)) (Ok.for_ c.length (fun i s => s = (i : Int) ∧ i ≤ ivl c k) ⟨rfl, by omega⟩ (by omega) ?_) fun t ht => ?_
  · rintro i s hi ⟨rfl, hle⟩
    unfold IndexLine_B1 indexed_Line_1
    refine Ok.iteP (fun hlt => ?_) fun hlt => Ok.ret (by have := @ivl_le c k; show ivl c k = c.length; omega)
    have hic : i < c.length := by omega
    rw [ati_get hic, Option.bind_some, Option.bind_some]
    have hx := ivl_lt hc (k := k) hic
    refine Ok.iteP (fun hg => Ok.ret ?_) fun hg => Ok.ret ⟨hic, w64_nat (by omega), by have := hx.1 (by omega); omega⟩
    have : ¬ i < ivl c k := fun e => by have := hx.2 e; omega
    show ivl c k < c.length ∧ (i : Int) = (ivl c k : Int)
    omega
  · cases t with
    | inl u => exact Ok.ret (.inr ⟨ht, rfl⟩)
    | inr r => exact Ok.ret (.inl ht)
theorem line_ix {V : List (List (List Int))} {k : Int} (hW : W ≤ 64) (hn : n ≤ 5) : indexed_Line 10000000 ⟨⟨p.lens, p.ckpts, p.arcs⟩, K, V, f⟩ k = some (lnL n p K k) := by
  have hl := h.pat.len; have hk := h.pat.ck; have hkl := h.kl
  unfold indexed_Line
  refine Ok.eq (Ok.bind (Q := fun s => s = lnL n p K k) (Ok.for_ n (fun q s => s = (lnL q p K k, (q : Int))) (by simp [lnL]) (by omega) ?_) fun s hs => by subst hs; exact Ok.ret rfl)
  rintro q s hq rfl
  simp only [indexed_Line_B1]
  refine Ok.iteP (fun hlt => ?_) fun hlt => Ok.ret (by rw [show q = n by omega]; rfl)
  have hqn : q < n := by omega
  have hr := h.row q hqn
  have h1 := hr.cl
  have hw := h.pat.ckW (q : Int)
  have fin : ∀ x, x = lnX (ckR p q) (rwL K q) (nI p.lens q) k → Ok (indexed_Line_J1 10000000 (lnL q p K k) (q : Int) x) fun o => Sum.elim (fun s' => q < n ∧ s' = (lnL (q + 1) p K k, ((q + 1 : Nat) : Int))) (fun s => s = lnL n p K k) o := fun x hx => by
    subst hx
    unfold indexed_Line_J1
    refine (Ok.snoc (by rw [lnL_len]; omega)).bind fun l hl => ?_
    subst hl
    exact Ok.ret ⟨hqn, by rw [lnL_snoc, w64_nat (by omega)]⟩
  rw [ati_nI (by omega) (by omega), Option.bind_some, andM_some, Option.bind_some, if_pos (by simp; omega), ati_rw (xs := K) (by omega), Option.bind_some]
  refine (index_ix hr.asc (by omega)).bind fun r hr2 => ?_
  rw [show ati p.ckpts (q : Int) = some (ckR p q) from ati_rw (by omega)]
  simp only [Option.bind_some]
  rw [andM_some, Option.bind_some]
  rcases hr2 with ⟨g1, rfl⟩ | ⟨g1, rfl⟩
  · rw [if_pos (by simp; omega), ati_nI (by omega) (by omega), Option.bind_some]
    exact fin _ (by rw [lnX, if_pos (by omega)])
  · rw [if_neg (by simp)]
    exact fin _ (by rw [lnX, if_neg (by omega)])
theorem rline_ix {V : List (List (List Int))} {k : Int} (hW : W ≤ 64) (hn : n ≤ 5) : ref25_Line 10000000 ⟨⟨p.lens, p.ckpts, p.arcs⟩, K, V, f⟩ k = some (lnL n p K k) := by
  have hl := h.pat.len; have hk := h.pat.ck; have hkl := h.kl
  unfold ref25_Line
  refine Ok.eq (Ok.bind (Q := fun s => s = lnL n p K k) (Ok.for_ n (fun q s => s = (lnL q p K k, (q : Int))) (by simp [lnL]) (by omega) ?_) fun s hs => by subst hs; exact Ok.ret rfl)
  rintro q s hq rfl
  simp only [ref25_Line_B1]
  refine Ok.iteP (fun hlt => ?_) fun hlt => Ok.ret (by rw [show q = n by omega]; rfl)
  have hqn : q < n := by omega
  have hr := h.row q hqn
  have h1 := hr.cl
  have hw := h.pat.ckW (q : Int)
  rw [ati_nI (by omega) (by omega), Option.bind_some, ati_rw (xs := K) (by omega), Option.bind_some, w64_id (by omega) (by omega)]
  refine Ok.bind (Q := fun x => x = lnX (ckR p q) (rwL K q) (nI p.lens q) k) (Ok.run (fun d s => s.2 = (d : Int) - 1 ∧ d ≤ (rwL K q).length ∧ s.1 = if max d (ivl (rwL K q) k) < (ckR p q).length then nI (ckR p q) (max d (ivl (rwL K q) k) : Nat) else nI p.lens q) (m := (rwL K q).length) ⟨rfl, by omega, ?_⟩ (by omega) ?_) fun x hx => ?_
  · rw [if_neg (by omega)]
  · rintro d ⟨x, j⟩ ⟨hj, hd, hx⟩
    simp only at hj hx
    subst hj
    simp only [ref25_Line_B2]
    refine Ok.iteP (fun h0 => ?_) fun h0 => Ok.ret ?_
    · obtain ⟨e, rfl⟩ : ∃ e, d = e + 1 := ⟨d - 1, by omega⟩
      rw [ati_rw (xs := K) (by omega), Option.bind_some, show ((e + 1 : Nat) : Int) - 1 = (e : Int) by omega, ati_get (xs := rwL K q) (by omega), Option.bind_some]
      have hv := ivl_lt hr.asc (k := k) (i := e) (by omega)
      refine Ok.iteP (fun hg => ?_) fun hg => ?_
      · rw [show ati p.ckpts (q : Int) = some (ckR p q) from ati_rw (by omega), Option.bind_some, ati_nI (by omega) (by omega), Option.bind_some]
        have : ¬ e < ivl (rwL K q) k := fun e2 => by have := hv.2 e2; omega
        refine Ok.ret ⟨e, by omega, w64_id (by omega) (by omega), by omega, ?_⟩
        rw [show max e (ivl (rwL K q) k) = e by omega, if_pos (by omega)]
      · have : e < ivl (rwL K q) k := hv.1 (by omega)
        refine Ok.ret ⟨e, by omega, w64_id (by omega) (by omega), by omega, ?_⟩
        rw [hx, show max (e + 1) (ivl (rwL K q) k) = max e (ivl (rwL K q) k) by omega]
    · have : d = 0 := by omega
      subst this
      show x = _
      rw [hx, Nat.zero_max]; rfl
  · subst hx
    simp only [ref25_Line_K2]
    refine (Ok.snoc (by rw [lnL_len]; omega)).bind fun l hl => ?_
    subst hl
    exact Ok.ret ⟨hqn, by rw [lnL_snoc, w64_nat (by omega)]⟩
theorem lnL_cut {k : Int} : CutG n p.lens (lnL n p K k) := by
  refine ⟨lnL_len, fun q hq => ?_⟩
  have hC := h.pat.ckI (q := (q : Int)) (by omega) (by omega)
  have hrg := h.pat.nI_rng q
  rw [lnL_nI hq, lnX]
  split
  · rename_i e
    have : nI (ckR p q) (ivl (rwL K q) k) ∈ ckR p q := by
      unfold nI; rw [List.getElem?_eq_getElem (by simpa using e)]; exact List.getElem_mem _
    exact ⟨hC.nonneg _ this, hC.le _ this⟩
  · omega
theorem lnL_cons {k : Int} : Cons p.arcs (lnL n p K k) := fun a ha => orph_not.2 fun ⟨g1, g2, g3⟩ => by
  have hag := h.pat.arc a ha
  obtain ⟨u, hu⟩ := Int.eq_ofNat_of_zero_le hag.fr.1
  obtain ⟨v, hv⟩ := Int.eq_ofNat_of_zero_le hag.to.1
  have hun : u < n := by have := hag.fr.2; omega
  have hvn : v < n := by have := hag.to.2; omega
  have hle := h.arc a ha g1
  have hp := h.pos a ha
  have hix := hag.ix.2; have hrc := hag.rcv
  rw [hu] at g3 hle hix; rw [hv] at g2 hle hrc
  have hCu := h.pat.ckI (q := (u : Int)) (by omega) (by omega)
  have hCv := h.pat.ckI (q := (v : Int)) (by omega) (by omega)
  have hru := h.row u hun; have hrv := h.row v hvn
  have lu := hru.cl; have lv := hrv.cl
  rw [lnL_nI hun, lnX] at g3; rw [lnL_nI hvn, lnX] at g2
  -- the sender's line is a checkpoint ahead of the sending
  have iu := hCu.ivl_pos hp; have iu2 := @ivl_le (ckR p u) a.ix
  have iv := hCv.ivl_pos (k := a.rcv) (by omega); have iv2 := @ivl_le (ckR p v) a.rcv
  split at g3
  · rename_i e
    have e1 : ivl (rwL K u) k < ivl (ckR p u) a.ix := (ivl_lt hCu.asc (k := a.ix) e).1 (by rw [nI_get e] at g3; exact g3)
    have e2 : ¬ icl (ckR p u) (rwL K u) a.ix < k := fun hlt => by
      have hi : ivl (ckR p u) a.ix - 1 < (rwL K u).length := by omega
      have := (ivl_lt hru.asc (k := k) hi).1 (by
        have : icl (ckR p u) (rwL K u) a.ix = (rwL K u)[ivl (ckR p u) a.ix - 1] := by
          unfold icl; rw [show ((ivl (ckR p u) a.ix : Int) - 1) = ((ivl (ckR p u) a.ix - 1 : Nat) : Int) by omega]; exact nI_get hi
        omega)
      omega
    have hi : ivl (ckR p v) a.rcv - 1 < (rwL K v).length := by omega
    have e3 : icl (ckR p v) (rwL K v) a.rcv = (rwL K v)[ivl (ckR p v) a.rcv - 1] := by
      unfold icl; rw [show ((ivl (ckR p v) a.rcv : Int) - 1) = ((ivl (ckR p v) a.rcv - 1 : Nat) : Int) by omega]; exact nI_get hi
    have e4 : ¬ ivl (ckR p v) a.rcv - 1 < ivl (rwL K v) k := fun hlt => by
      have := (ivl_lt hrv.asc (k := k) hi).2 hlt; omega
    rw [if_pos (by omega)] at g2
    have e5 : ivl (rwL K v) k < (ckR p v).length := by omega
    have := (ivl_lt hCv.asc (k := a.rcv) e5).2 (by omega)
    rw [nI_get e5] at g2
    omega
  · omega
end
theorem indexedLines {a0 : List Int} {a1 : Int} (h0 : ∀ x ∈ a0, U8 x) : law25_IndexedLines 10000000 a0 a1 = some true := by
  unfold law25_IndexedLines
  rw [show law25_awake 10000000 = some true from awake25i 9999000, Option.bind_some]
  simp only [Bool.not_true, Bool.false_eq_true, if_false]
  refine Ok.eq ((draw_ix h0).bind fun r ⟨n, hn, n2, n4, hl⟩ => ?_)
  rw [hn]
  refine (play_ix (n := n) (l := r.2) (by omega) (by omega) (by omega)).bind fun s ⟨s1, s2, t, g, hI⟩ => ?_
  have hn5 : n ≤ 5 := by omega
  have hm : r.2.length ≤ 64 := by omega
  have hG := hI.patG hm hm
  have hln : ∀ k, (lnL n s.1.pat s.1.clocks k).length = n := fun k => lnL_len
  rw [s1, show ((0 : Int) != 0) = false from rfl, orM_false, sound_ix hI hm hm hn5, Option.bind_some, Option.bind_some]
  simp only [Bool.not_true, Bool.false_eq_true, if_false]
  refine Ok.bind (Q := fun t => t = .inl ()) (Ok.for_ 22 (fun k s => s = (k : Int) - 1) rfl (by omega) ?_) fun t ht => ?_
  · rintro k z hk rfl
    simp only [law25_IndexedLines_B1]
    refine Ok.iteP (fun hlt => ?_) fun hlt => Ok.ret rfl
    rw [line_ix hI hm hn5, Option.bind_some, rline_ix hI hm hn5, Option.bind_some, sameints_o (by rw [hln]; omega) (by rw [hln]; omega), Option.bind_some]
    simp only [decide_true, Bool.not_true, orM_false]
    rw [show (⟨s.1.pat.lens, s.1.pat.ckpts, s.1.pat.arcs⟩ : Pat) = s.1.pat from rfl, valid_g hG.len (by omega) (by omega) (lnL_cut hI), Option.bind_some, Option.bind_some]
    simp only [Bool.not_true, orM_false]
    rw [cons_g hG hn5 (by omega) (by omega) (lnL_cut hI), consB_iff.2 (lnL_cons hI), Option.bind_some, Option.bind_some]
    simp only [Bool.not_true, Bool.false_eq_true, if_false]
    exact Ok.ret ⟨by omega, by rw [w64_id (by omega) (by omega)]; omega⟩
  · subst ht
    simp only [Sum.elim_inl, law25_IndexedLines_K1]
    rw [line_ix hI hm hn5, Option.bind_some, rline_ix hI hm hn5, Option.bind_some, sameints_o (by rw [hln]; omega) (by rw [hln]; omega), Option.bind_some]
    exact Ok.ret (by simp)
end Go.Mine
