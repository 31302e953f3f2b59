/- Recovery lines, plain: failures and safe cuts; LineFails and LineMeets. -/
import Derived.Test.YtljpjekifbamfaaP22f
set_option linter.unusedSimpArgs false
set_option linter.unusedVariables false
set_option linter.unusedSectionVars false
namespace Go.Mine
open Go.RowKit
def alRow (r : List Int) (l : Int) (b : Bool) : List Int := if (!b && !decide (l ∈ r)) = true then r ++ [l] else r
def alG (p : Pat) (f : List Int) (q : Nat) : List Int := alRow (rwI p.ckpts q) (nI p.lens q) (decide ((q : Int) ∈ f))
def allowL (p : Pat) (f : List Int) : List (List Int) := (List.range p.lens.length).map (alG p f)
theorem rwI_allowL {p : Pat} {f : List Int} {q : Nat} (h : q < p.lens.length) : rwI (allowL p f) q = alG p f q := by
  unfold rwI allowL; rw [Int.toNat_natCast]; simp [h]
theorem PatG.ckG {n B : Nat} {p : Pat} (h : PatG n B p) {q : Nat} (hq : q < n) : CkG (rwI p.ckpts q) (nI p.lens q) := by
  have h1 := h.len; have h2 := h.ck
  refine h.row q _ _ ?_ (nI_get? (by omega))
  unfold rwI; rw [Int.toNat_natCast]; simp [(show q < p.ckpts.length by omega)]
theorem PatG.ckw {n B : Nat} {p : Pat} (h : PatG n B p) {q : Nat} (hq : q < n) : (rwI p.ckpts q).length ≤ B + 1 := by
  have h2 := h.ck
  refine h.wid _ ?_
  unfold rwI; rw [Int.toNat_natCast]; simp [(show q < p.ckpts.length by omega)]
theorem last_iff {r : List Int} {x y : Int} (h : CkG r x) (hy : r[r.length - 1]? = some y) : y = x ↔ x ∈ r := by
  constructor
  · rintro rfl; exact List.mem_of_getElem? hy
  · intro hm
    have h1 := h.last hy x hm
    have h2 := h.le y (List.mem_of_getElem? hy)
    omega
theorem take_map_range {α : Type} {g : Nat → α} {n k : Nat} (h : k ≤ n) : ((List.range n).map g).take k = (List.range k).map g := by
  rw [← List.map_take, List.take_range, Nat.min_eq_left h]
section
variable {n B : Nat} {p : Pat} (hp : PatG n B p) (hn : n ≤ 5) (hB : B ≤ 64)
include hp hn hB
theorem allow_ag {f : List Int} : AG n p.lens (allowL p f) := by
  have hl := hp.len
  refine ⟨by simp [allowL, hl], fun q hq y hy => ?_, fun q hq => ?_⟩
  · rw [rwI_allowL (by omega)] at hy
    unfold alG alRow at hy
    have hc := hp.ckG hq
    have hr := hp.nI_rng q
    split at hy
    · rcases List.mem_append.1 hy with h | h
      · exact ⟨hc.nonneg y h, hc.le y h⟩
      · simp at h; omega
    · exact ⟨hc.nonneg y hy, hc.le y hy⟩
  · rw [rwI_allowL (by omega)]
    have := hp.ckw hq
    unfold alG alRow
    split
    · simp; omega
    · omega
theorem allow_l {fuel : Nat} {f : List Int} (hf : 1000000 < fuel) (hfl : f.length ≤ 1000) : line_Allowed fuel p f = some (allowL p f) := by
  have hl := hp.len; have hk := hp.ck
  unfold line_Allowed
  rw [show (⟨p.lens, p.ckpts, p.arcs⟩ : Pat) = p from rfl, check_g hp hn hB hf, Option.bind_some, if_neg (by simp), hk, mkL_nat (by omega), Option.bind_some]
  refine Ok.eq ?_
  refine Ok.bind (Q := fun t => t = allowL p f) (Ok.for_ n (fun k s => s.2 = (k : Int) ∧ s.1.length = n ∧ ∀ q : Nat, q < k → rwI s.1 q = alG p f q) ⟨rfl, by simp, fun q hq => by omega⟩ (by omega) ?_) fun t ht => by subst ht; exact Ok.ret rfl
  rintro k ⟨C, i⟩ hkn ⟨hi, h1, h2⟩
  simp only at hi h1 h2
  subst hi
  simp only [line_Allowed_B1]
  refine Ok.iteP (fun hlt => ?_) (fun hlt => Ok.ret ?_)
  · have hkn' : k < n := by omega
    have hc := hp.ckG hkn'
    have hw := hp.ckw hkn'
    have hr := hp.nI_rng k
    have hpos := hc.pos
    rw [ati_rw (by omega) (by omega), Option.bind_some]
    simp only [Clone_Int]
    refine (Ok.cat (by simp; omega)).bind fun z hz => ?_
    rw [List.nil_append] at hz
    subst hz
    refine (Ok.at (by omega) (by omega)).bind fun _ _ => (Ok.set (by omega) (by omega)).bind fun D hD => ?_
    subst hD
    rw [ati_nI (by omega) (by omega), Option.bind_some, contains_g hfl hf, Option.bind_some]
    have hrw : ∀ (E : List (List Int)) (z : List Int), E.length = n → ∀ q : Nat, rwI (E.set (k : Int).toNat z) q = if (q : Int) = k then z else rwI E q := fun E z hE q => by
      unfold rwI
      rw [getElem?_set' (by omega)]
      by_cases e : (q : Int) = k
      · rw [if_pos e, if_pos (by omega)]; rfl
      · rw [if_neg e, if_neg (by omega)]
    refine Ok.bind (Q := fun b => b = (!decide ((k : Int) ∈ f) && !decide (nI p.lens k ∈ rwI p.ckpts k))) (Ok.andM (fun e => ?_) (fun e => by rw [e]; rfl)) fun b hb => ?_
    · rw [w64_id (by omega) (by omega)]
      refine (Ok.at (by omega) (by omega)).bind fun y hy => Ok.ret ?_
      have hy' : (rwI p.ckpts k)[(rwI p.ckpts k).length - 1]? = some y := by rw [← hy]; congr 1; omega
      have := last_iff hc hy'
      rw [e, Bool.true_and, Bool.eq_iff_iff]
      simp [this]
    · subst hb
      have hal : alG p f k = if (!decide ((k : Int) ∈ f) && !decide (nI p.lens k ∈ rwI p.ckpts k)) = true then rwI p.ckpts k ++ [nI p.lens k] else rwI p.ckpts k := rfl
      have step : ∀ E : List (List Int), E.length = n → rwI E k = alG p f k → (∀ q : Nat, q ≠ k → rwI E q = rwI C q) → (E.length = n ∧ ∀ q : Nat, q < k + 1 → rwI E q = alG p f q) := fun E e1 e2 e3 => ⟨e1, fun q hq => by
        by_cases e : q = k
        · subst e; exact e2
        · rw [e3 q e]; exact h2 q (by omega)⟩
      refine Ok.ite (fun e => ?_) (fun e => Ok.ret ⟨by omega, w64_nat (by omega), step _ (by simp [h1]) ?_ fun q hq => ?_⟩)
      · rw [ati_rw (by omega) (by simp; omega), Option.bind_some]
        have e5 : rwI (C.set (k : Int).toNat (rwI p.ckpts k)) k = rwI p.ckpts k := by rw [hrw C _ h1]; simp
        rw [e5]
        refine (Ok.snoc (by omega)).bind fun z hz => (Ok.set (by omega) (by simp; omega)).bind fun E hE => ?_
        subst hE
        refine (Ok.at (by omega) (by simp; omega)).bind fun _ _ => Ok.ret ⟨by omega, w64_nat (by omega), step _ (by simp [h1]) ?_ fun q hq => ?_⟩
        · rw [hrw _ _ (by simp [h1]), if_pos rfl, hal, if_pos e, hz]
        · rw [hrw _ _ (by simp [h1]), if_neg (by omega), hrw _ _ h1, if_neg (by omega)]
      · rw [hrw _ _ h1, if_pos rfl, hal, if_neg (by simp [e])]
      · rw [hrw _ _ h1, if_neg (by omega)]
  · have e : k = n := by omega
    subst e
    refine List.ext_getElem (by simp [allowL, h1, hl]) fun q a b => ?_
    have := h2 q (by omega)
    unfold rwI at this
    rw [Int.toNat_natCast] at this
    simp [a] at this
    simp [this, allowL]
theorem zero_all {f : List Int} : AllC n (allowL p f) (List.replicate n 0) := by
  have hl := hp.len
  refine ⟨by simp, fun q hq => ?_⟩
  rw [rwI_allowL (by omega), show nI (List.replicate n 0) q = 0 by simp [nI, hq]]
  have h0 : (0 : Int) ∈ rwI p.ckpts q := List.mem_of_getElem? (hp.ckG hq).zero
  unfold alG alRow
  split
  · exact List.mem_append.2 (.inl h0)
  · exact h0
theorem zero_cons : Cons p.arcs (List.replicate n 0) := by
  intro a ha
  have h1 := (hp.arc a ha).to; have h2 := (hp.arc a ha).rcv
  rw [orph_not]
  have : nI (List.replicate n 0) a.to = 0 := by
    unfold nI; simp [(show a.to.toNat < n by omega)]
  rw [this]
  omega
end
def fcut (p : Pat) (f : List Int) : List Int := (line_Failure 10000000 p f).getD []
section
variable {n B : Nat} {p : Pat} (hp : PatG n B p) (hn : n ≤ 5) (hB : B ≤ 64)
include hp hn hB
theorem lens_cut : CutG n p.lens p.lens := ⟨hp.len, fun q hq => ⟨(hp.nI_rng q).1, Int.le_refl _⟩⟩
theorem lens_cons : Cons p.arcs p.lens := by
  intro a ha
  have := (hp.arc a ha).ix
  rw [orph_not]; omega
def safeF (p : Pat) (k : Int) : List Int := if setsI (p.lens.length : Int) k = [] then List.replicate p.lens.length 0 else (setsI (p.lens.length : Int) k).foldl (fun x s => meetL x (fcut p s)) p.lens
theorem set_len {k : Int} {s : List Int} (hs : s ∈ setsI (n : Int) k) : s.length ≤ 1000 := by
  unfold setsI at hs
  split at hs
  · simp at hs
  · obtain ⟨⟨j, _, rfl⟩, _⟩ := setsB_mem.1 hs
    have := bitsL_len (n := (n : Int).toNat) (m := j); omega
theorem setsI_len {k : Int} : (setsI (n : Int) k).length ≤ 1000 := by
  unfold setsI
  split
  · simp
  · have := setsB_len (n := (n : Int).toNat) (m := 2 ^ (n : Int).toNat) (k := k); have := pow_le (n : Int).toNat (by omega); unfold setsL; omega
end
end Go.Mine
