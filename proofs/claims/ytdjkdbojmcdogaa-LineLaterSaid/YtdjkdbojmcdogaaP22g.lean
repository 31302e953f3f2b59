/- Recovery lines, plain: failures and safe cuts; LineFails and LineMeets. -/
import Derived.Test.YtdjkdbojmcdogaaP22f
set_option linter.unusedSimpArgs false
set_option linter.unusedVariables false
set_option linter.unusedSectionVars false
namespace Go.Mine
open Go.RowKit
def alRow (r : List Int) (l : Int) (b : Bool) : List Int := if (!b && !decide (l ∈ r)) = true then r ++ [l] else r
def alG (p : Pat) (f : List Int) (q : Nat) : List Int := alRow (rwI p.ckpts q) (nI p.lens q) (decide ((q : Int) ∈ f))
def allowL (p : Pat) (f : List Int) : List (List Int) := (List.range p.lens.length).map (alG p f)
theorem rwI_allowL {p : Pat} {f : List Int} {q : Nat} (h : q < p.lens.length) : rwI (allowL p f) q = alG p f q := by
  unfold rwI allowL; rw [Int.toNat_natCast]; simp [h]
theorem PatG.ckG {n B : Nat} {p : Pat} (h : PatG n B p) {q : Nat} (hq : q < n) : CkG (rwI p.ckpts q) (nI p.lens q) := by
  have h1 := h.len; have h2 := h.ck
  refine h.row q _ _ ?_ (nI_get? (by omega))
  unfold rwI; rw [Int.toNat_natCast]; simp [(show q < p.ckpts.length by omega)]
theorem PatG.ckw {n B : Nat} {p : Pat} (h : PatG n B p) {q : Nat} (hq : q < n) : (rwI p.ckpts q).length ≤ B + 1 := by
  have h2 := h.ck
  refine h.wid _ ?_
  unfold rwI; rw [Int.toNat_natCast]; simp [(show q < p.ckpts.length by omega)]
theorem last_iff {r : List Int} {x y : Int} (h : CkG r x) (hy : r[r.length - 1]? = some y) : y = x ↔ x ∈ r := by
  constructor
  · rintro rfl; exact List.mem_of_getElem? hy
  · intro hm
    have h1 := h.last hy x hm
    have h2 := h.le y (List.mem_of_getElem? hy)
    omega
theorem take_map_range {α : Type} {g : Nat → α} {n k : Nat} (h : k ≤ n) : ((List.range n).map g).take k = (List.range k).map g := by
  rw [← List.map_take, List.take_range, Nat.min_eq_left h]
section
variable {n B : Nat} {p : Pat} (hp : PatG n B p) (hn : n ≤ 5) (hB : B ≤ 64)
include hp hn hB
theorem allow_ag {f : List Int} : AG n p.lens (allowL p f) := by
  have hl := hp.len
  refine ⟨by simp [allowL, hl], fun q hq y hy => ?_, fun q hq => ?_⟩
  · rw [rwI_allowL (by omega)] at hy
    unfold alG alRow at hy
    have hc := hp.ckG hq
    have hr := hp.nI_rng q
    split at hy
    · rcases List.mem_append.1 hy with h | h
      · exact ⟨hc.nonneg y h, hc.le y h⟩
      · simp at h; omega
    · exact ⟨hc.nonneg y hy, hc.le y hy⟩
  · rw [rwI_allowL (by omega)]
    have := hp.ckw hq
    unfold alG alRow
    split
    · simp; omega
    · omega
theorem allow_l {fuel : Nat} {f : List Int} (hf : 1000000 < fuel) (hfl : f.length ≤ 1000) : line_Allowed fuel p f = some (allowL p f) := by
  have hl := hp.len; have hk := hp.ck
  unfold line_Allowed
  rw [show (⟨p.lens, p.ckpts, p.arcs⟩ : Pat) = p from rfl, check_g hp hn hB hf, Option.bind_some, if_neg (by simp), hk, mkL_nat (by omega), Option.bind_some]
  refine Ok.eq ?_
  refine Ok.bind (Q := fun t => t = allowL p f) (Ok.for_ n (fun k s => s.2 = (k : Int) ∧ s.1.length = n ∧ ∀ q : Nat, q < k → rwI s.1 q = alG p f q) ⟨rfl, by simp, fun q hq => by omega⟩ (by omega) ?_) fun t ht => by subst ht; exact Ok.ret rfl
  rintro k ⟨C, i⟩ hkn ⟨hi, h1, h2⟩
  simp only at hi h1 h2
  subst hi
  simp only [line_Allowed_B1]
  refine Ok.iteP (fun hlt => ?_) (fun hlt => Ok.ret ?_)
  · have hkn' : k < n := by omega
    have hc := hp.ckG hkn'
    have hw := hp.ckw hkn'
    have hr := hp.nI_rng k
    have hpos := hc.pos
    rw [ati_rw (by omega) (by omega), Option.bind_some]
    simp only [Clone_Int]
    refine (Ok.cat (by simp; omega)).bind fun z hz => ?_
    rw [List.nil_append] at hz
    subst hz
    refine (Ok.at (by omega) (by omega)).bind fun _ _ => (Ok.set (by omega) (by omega)).bind fun D hD => ?_
    subst hD
    rw [ati_nI (by omega) (by omega), Option.bind_some, contains_g hfl hf, Option.bind_some]
    have hrw : ∀ (E : List (List Int)) (z : List Int), E.length = n → ∀ q : Nat, rwI (E.set (k : Int).toNat z) q = if (q : Int) = k then z else rwI E q := fun E z hE q => by
      unfold rwI
      rw [getElem?_set' (by omega)]
      by_cases e : (q : Int) = k
      · rw [if_pos e, if_pos (by omega)]; rfl
      · rw [if_neg e, if_neg (by omega)]
    refine Ok.bind (Q := fun b => b = (!decide ((k : Int) ∈ f) && !decide (nI p.lens k ∈ rwI p.ckpts k))) (Ok.andM (fun e => ?_) (fun e => by rw [e]; rfl)) fun b hb => ?_
    · rw [w64_id (by omega) (by omega)]
      refine (Ok.at (by omega) (by omega)).bind fun y hy => Ok.ret ?_
      have hy' : (rwI p.ckpts k)[(rwI p.ckpts k).length - 1]? = some y := by rw [← hy]; congr 1; omega
      have := last_iff hc hy'
      rw [e, Bool.true_and, Bool.eq_iff_iff]
      simp [this]
    · subst hb
      have hal : alG p f k = if (!decide ((k : Int) ∈ f) && !decide (nI p.lens k ∈ rwI p.ckpts k)) = true then rwI p.ckpts k ++ [nI p.lens k] else rwI p.ckpts k := rfl
      have step : ∀ E : List (List Int), E.length = n → rwI E k = alG p f k → (∀ q : Nat, q ≠ k → rwI E q = rwI C q) → (E.length = n ∧ ∀ q : Nat, q < k + 1 → rwI E q = alG p f q) := fun E e1 e2 e3 => ⟨e1, fun q hq => by
        by_cases e : q = k
        · subst e; exact e2
        · rw [e3 q e]; exact h2 q (by omega)⟩
      refine Ok.ite (fun e => ?_) (fun e => Ok.ret ⟨by omega, w64_nat (by omega), step _ (by simp [h1]) ?_ fun q hq => ?_⟩)
      · rw [ati_rw (by omega) (by simp; omega), Option.bind_some]
        have e5 : rwI (C.set (k : Int).toNat (rwI p.ckpts k)) k = rwI p.ckpts k := by rw [hrw C _ h1]; simp
        rw [e5]
        refine (Ok.snoc (by omega)).bind fun z hz => (Ok.set (by omega) (by simp; omega)).bind fun E hE => ?_
        subst hE
        refine (Ok.at (by omega) (by simp; omega)).bind fun _ _ => Ok.ret ⟨by omega, w64_nat (by omega), step _ (by simp [h1]) ?_ fun q hq => ?_⟩
        · rw [hrw _ _ (by simp [h1]), if_pos rfl, hal, if_pos e, hz]
        · rw [hrw _ _ (by simp [h1]), if_neg (by omega), hrw _ _ h1, if_neg (by omega)]
      · rw [hrw _ _ h1, if_pos rfl, hal, if_neg (by simp [e])]
      · rw [hrw _ _ h1, if_neg (by omega)]
  · have e : k = n := by omega
    subst e
    refine List.ext_getElem (by simp [allowL, h1, hl]) fun q a b => ?_
    have := h2 q (by omega)
    unfold rwI at this
    rw [Int.toNat_natCast] at this
    simp [a] at this
    simp [this, allowL]
theorem allow_r {fuel : Nat} {f : List Int} (hf : 1000000 < fuel) (hfl : f.length ≤ 1000) : ref22_Allowed fuel p f = some (allowL p f) := by
  have hl := hp.len; have hk := hp.ck
  unfold ref22_Allowed
  refine Ok.eq ?_
  refine Ok.bind (Q := fun t => t = allowL p f) (Ok.for_ n (fun k s => s.2 = (k : Int) ∧ s.1 = (List.range k).map (alG p f)) ⟨rfl, rfl⟩ (by omega) ?_) fun t ht => by subst ht; exact Ok.ret rfl
  rintro k ⟨C, i⟩ hkn ⟨hi, h1⟩
  simp only at hi h1
  subst hi h1
  simp only [ref22_Allowed_B1]
  refine Ok.iteP (fun hlt => ?_) (fun hlt => Ok.ret (by rw [show k = p.lens.length by omega]; rfl))
  have hkn' : k < n := by omega
  have hw := hp.ckw hkn'
  rw [ati_rw (by omega) (by omega), Option.bind_some]
  refine (Ok.cat (by simp; omega)).bind fun z hz => ?_
  rw [List.nil_append] at hz
  subst hz
  rw [rin_g hfl hf, Option.bind_some, ati_nI (by omega) (by omega)]
  simp only [Option.bind_some]
  rw [rin_g (by omega) hf]
  simp only [Option.bind_some, andM_some]
  have hal : alG p f k = if (!decide ((k : Int) ∈ f) && !decide (nI p.lens k ∈ rwI p.ckpts k)) = true then rwI p.ckpts k ++ [nI p.lens k] else rwI p.ckpts k := rfl
  have fin : ∀ z, z = alG p f k → Ok (ref22_Allowed_J1 fuel ((List.range k).map (alG p f)) (k : Int) z) fun o => Sum.elim (fun s' => k < n ∧ s'.2 = ((k + 1 : Nat) : Int) ∧ s'.1 = (List.range (k + 1)).map (alG p f)) (fun t => t = allowL p f) o := fun z hz => by
    unfold ref22_Allowed_J1
    refine (Ok.snoc (by simp; omega)).bind fun E hE => Ok.ret ⟨by omega, w64_nat (by omega), ?_⟩
    rw [hE, hz, List.range_succ, List.map_append]; rfl
  refine Ok.ite (fun e => ?_) (fun e => fin _ (by rw [hal, if_neg (by simp [e])]))
  exact (Ok.snoc (by omega)).bind fun z hz => fin _ (by rw [hal, if_pos e, hz])
theorem zero_all {f : List Int} : AllC n (allowL p f) (List.replicate n 0) := by
  have hl := hp.len
  refine ⟨by simp, fun q hq => ?_⟩
  rw [rwI_allowL (by omega), show nI (List.replicate n 0) q = 0 by simp [nI, hq]]
  have h0 : (0 : Int) ∈ rwI p.ckpts q := List.mem_of_getElem? (hp.ckG hq).zero
  unfold alG alRow
  split
  · exact List.mem_append.2 (.inl h0)
  · exact h0
theorem zero_cons : Cons p.arcs (List.replicate n 0) := by
  intro a ha
  have h1 := (hp.arc a ha).to; have h2 := (hp.arc a ha).rcv
  rw [orph_not]
  have : nI (List.replicate n 0) a.to = 0 := by
    unfold nI; simp [(show a.to.toNat < n by omega)]
  rw [this]
  omega
/-- the cut of a failure -/
theorem fail_ex (f : List Int) (hfl : f.length ≤ 1000) : ∃ x, line_Failure 10000000 p f = some x ∧ ref22_Failure 10000000 p f = some x ∧ GSpec n p.arcs (allowL p f) (x, true) := by
  obtain ⟨r, h1, h2, h3⟩ := ggreatest (fuel := 10000000) hp hn hB (by omega) (allow_ag hp hn hB (f := f))
  have hr : r.2 = true := by
    rcases h3 with h | ⟨_, h⟩
    · exact h.1
    · exact absurd (zero_cons hp hn hB) (h _ (zero_all hp hn hB))
  refine ⟨r.1, ?_, ?_, ?_⟩
  · unfold line_Failure
    rw [show (⟨p.lens, p.ckpts, p.arcs⟩ : Pat) = p from rfl, allow_l hp hn hB (by omega) hfl, Option.bind_some, h1]; rfl
  · unfold ref22_Failure
    rw [show (⟨p.lens, p.ckpts, p.arcs⟩ : Pat) = p from rfl, allow_r hp hn hB (by omega) hfl, Option.bind_some, h2]; rfl
  · rw [← hr]; exact h3
end
def fcut (p : Pat) (f : List Int) : List Int := (line_Failure 10000000 p f).getD []
section
variable {n B : Nat} {p : Pat} (hp : PatG n B p) (hn : n ≤ 5) (hB : B ≤ 64)
include hp hn hB
theorem fail_g (f : List Int) (hfl : f.length ≤ 1000) : line_Failure 10000000 p f = some (fcut p f) ∧ ref22_Failure 10000000 p f = some (fcut p f) ∧ AllC n (allowL p f) (fcut p f) ∧ Cons p.arcs (fcut p f) ∧ ∀ z, AllC n (allowL p f) z → Cons p.arcs z → Le z (fcut p f) := by
  obtain ⟨x, h1, h2, h3⟩ := fail_ex hp hn hB f hfl
  have e : fcut p f = x := by unfold fcut; rw [h1]; rfl
  rw [e]
  rcases h3 with ⟨_, h⟩ | ⟨h, _⟩
  · exact ⟨h1, h2, h⟩
  · cases h
theorem lens_cut : CutG n p.lens p.lens := ⟨hp.len, fun q hq => ⟨(hp.nI_rng q).1, Int.le_refl _⟩⟩
theorem lens_cons : Cons p.arcs p.lens := by
  intro a ha
  have := (hp.arc a ha).ix
  rw [orph_not]; omega
def safeF (p : Pat) (k : Int) : List Int := if setsI (p.lens.length : Int) k = [] then List.replicate p.lens.length 0 else (setsI (p.lens.length : Int) k).foldl (fun x s => meetL x (fcut p s)) p.lens
theorem set_len {k : Int} {s : List Int} (hs : s ∈ setsI (n : Int) k) : s.length ≤ 1000 := by
  unfold setsI at hs
  split at hs
  · simp at hs
  · obtain ⟨⟨j, _, rfl⟩, _⟩ := setsB_mem.1 hs
    have := bitsL_len (n := (n : Int).toNat) (m := j); omega
theorem setsI_len {k : Int} : (setsI (n : Int) k).length ≤ 1000 := by
  unfold setsI
  split
  · simp
  · have := setsB_len (n := (n : Int).toNat) (m := 2 ^ (n : Int).toNat) (k := k); have := pow_le (n : Int).toNat (by omega); unfold setsL; omega
theorem fold_len {l : List (List Int)} : ∀ {x : List Int}, x.length = n → (∀ s ∈ l, s.length ≤ 1000) → (l.foldl (fun x s => meetL x (fcut p s)) x).length = n := by
  induction l with
  | nil => intro x hx _; exact hx
  | cons s l ih =>
    intro x hx hs
    have := (fail_g hp hn hB s (hs s (by simp))).2.2.1.1
    exact ih (by rw [meetL_len (by omega)]; exact hx) fun s' h' => hs s' (by simp [h'])
theorem safe_g {k : Int} : line_Safe 10000000 p k = some (safeF p k) ∧ ref22_Safe 10000000 p k = some (safeF p k) := by
  have hl := hp.len
  have hs := setsI_l (n := (n : Int)) (k := k) (by omega)
  have hsl := setsI_len hp hn hB (k := k)
  have hall : ∀ s ∈ setsI (n : Int) k, s.length ≤ 1000 := fun s h => set_len hp hn hB h
  generalize hS : setsI (n : Int) k = S at *
  have hF : safeF p k = if S = [] then List.replicate n 0 else S.foldl (fun x s => meetL x (fcut p s)) p.lens := by unfold safeF; rw [hl, hS]
  have htl : ∀ j, ((S.take j).foldl (fun x s => meetL x (fcut p s)) p.lens).length = n := fun j => fold_len hp hn hB hl fun s h => hall s (List.mem_of_mem_take h)
  have hsucc : ∀ (j : Nat) (s : List Int), S[j]? = some s → (S.take (j + 1)).foldl (fun x s => meetL x (fcut p s)) p.lens = meetL ((S.take j).foldl (fun x s => meetL x (fcut p s)) p.lens) (fcut p s) := fun j s h => by
    rw [List.take_add_one, h, List.foldl_append]; rfl
  constructor
  · unfold line_Safe
    rw [show (⟨p.lens, p.ckpts, p.arcs⟩ : Pat) = p from rfl, check_g hp hn hB (by omega), Option.bind_some, if_neg (by simp), hl, hs.1, Option.bind_some, hF]
    by_cases e : S = []
    · subst e
      rw [if_pos (by simp), if_pos rfl, mkL_nat (by omega)]; rfl
    · rw [if_neg (by simpa using e), if_neg e]
      unfold Clone_Int
      rw [catL_ok (by simp; omega), Option.bind_some, List.nil_append]
      refine Ok.eq ?_
      refine Ok.bind (Q := fun t => t = S.foldl (fun x s => meetL x (fcut p s)) p.lens) (Ok.for_ S.length (fun j s => s.2 = (j : Int) ∧ s.1 = (S.take j).foldl (fun x s => meetL x (fcut p s)) p.lens) ⟨rfl, rfl⟩ (by omega) ?_) fun t ht => by subst ht; exact Ok.ret rfl
      rintro j ⟨x, i⟩ hj ⟨hi, hx⟩
      simp only at hi hx
      subst hi hx
      simp only [line_Safe_B1]
      refine Ok.iteP (fun hlt => ?_) (fun hlt => Ok.ret (by simp only [Sum.elim_inr]; rw [List.take_of_length_le (by omega)]))
      refine (Ok.at (by omega) hlt).bind fun s h => ?_
      rw [Int.toNat_natCast] at h
      have hf := fail_g hp hn hB s (hall s (List.mem_of_getElem? h))
      rw [show (⟨p.lens, p.ckpts, p.arcs⟩ : Pat) = p from rfl, hf.1, Option.bind_some, meet_g (by rw [htl, hf.2.2.1.1]) (by rw [htl]; omega) (by omega), Option.bind_some]
      exact Ok.ret ⟨by omega, w64_nat (by omega), (hsucc j s h).symm⟩
  · unfold ref22_Safe
    rw [hl, hs.2, Option.bind_some, hF]
    by_cases e : S = []
    · subst e
      rw [if_pos (by simp), if_pos rfl, mkL_nat (by omega)]; rfl
    · rw [if_neg (by simpa using e), if_neg e]
      rw [catL_ok (by simp; omega), Option.bind_some, List.nil_append]
      refine Ok.eq ?_
      refine Ok.bind (Q := fun t => t = S.foldl (fun x s => meetL x (fcut p s)) p.lens) (Ok.for_ S.length (fun j s => s.2 = (j : Int) ∧ s.1 = (S.take j).foldl (fun x s => meetL x (fcut p s)) p.lens) ⟨rfl, rfl⟩ (by omega) ?_) fun t ht => by subst ht; exact Ok.ret rfl
      rintro j ⟨x, i⟩ hj ⟨hi, hx⟩
      simp only at hi hx
      subst hi hx
      simp only [ref22_Safe_B1]
      refine Ok.iteP (fun hlt => ?_) (fun hlt => Ok.ret (by simp only [Sum.elim_inr]; rw [List.take_of_length_le (by omega)]))
      refine (Ok.at (by omega) hlt).bind fun s h => ?_
      rw [Int.toNat_natCast] at h
      have hf := fail_g hp hn hB s (hall s (List.mem_of_getElem? h))
      rw [show (⟨p.lens, p.ckpts, p.arcs⟩ : Pat) = p from rfl, hf.2.1, Option.bind_some, rmeet_g (by rw [htl, hf.2.2.1.1]) (by rw [htl]; omega) (by omega), Option.bind_some]
      exact Ok.ret ⟨by omega, w64_nat (by omega), (hsucc j s h).symm⟩
theorem safe_len {k : Int} : (safeF p k).length = n := by
  have hl := hp.len
  unfold safeF
  split
  · simp [hl]
  · exact fold_len hp hn hB hl fun s h => set_len hp hn hB (by rw [← hl]; exact h)
end
theorem lineFails {a0 a1 : List Int} {a2 : Int} (h0 : ∀ x ∈ a0, U8 x) (h1 : ∀ x ∈ a1, U8 x) : law22_LineFails 10000000 a0 a1 a2 = some true := by
  unfold law22_LineFails
  rw [awake22, Option.bind_some]
  simp only [Bool.not_true, Bool.false_eq_true, if_false]
  refine Ok.eq ?_
  refine (Ok.new (by omega) (by omega) h0).bind fun r hr => (pattern_g hr (m := 20) (by omega) (by omega)).bind fun P ⟨n, hn2, hn4, hp, _⟩ => ?_
  have hl := hp.len
  refine (Ok.new (by omega) (by omega) h1).bind fun r2 hr2 => ?_
  simp only [show (⟨P.1.lens, P.1.ckpts, P.1.arcs⟩ : Pat) = P.1 from rfl]
  rw [hl]
  refine (procs_g (n := n) (by omega) (by omega) hr2).bind fun f ⟨hf, hfl⟩ => (mod_g (by omega) (by omega)).bind fun md hmd => ?_
  have hn5 : n ≤ 5 := by omega
  have hB : 20 ≤ 64 := by omega
  have hfc := fail_g hp hn5 hB f.1 (by omega)
  have hsl : ∀ k, (safeF P.1 k).length = n := fun k => safe_len hp hn5 hB
  have hA := allow_ag hp hn5 hB (f := f.1)
  rw [allow_l hp hn5 hB (by omega) (by omega), allow_r hp hn5 hB (by omega) (by omega), hfc.1, hfc.2.1, (safe_g hp hn5 hB).1, (safe_g hp hn5 hB).2, (safe_g hp hn5 hB).1, (safe_g hp hn5 hB).2]
  simp only [Option.bind_some]
  rw [sameLists_refl (by have := hA.len; omega) (fun r hr => ?_) (by omega)]
  · simp only [Option.bind_some, andM_true]
    rw [sameInts_refl (by have := hfc.2.2.1.1; omega) (by omega)]
    simp only [Option.bind_some, andM_true]
    rw [sameInts_refl (by rw [hsl]; omega) (by omega)]
    simp only [Option.bind_some, andM_true]
    rw [sameInts_refl (by rw [hsl]; omega) (by omega)]
    exact Ok.ret rfl
  · obtain ⟨q, hq, rfl⟩ := List.getElem_of_mem hr
    have := hA.wid q (by have := hA.len; omega)
    unfold rwI at this
    rw [Int.toNat_natCast] at this
    simpa [hq] using this
end Go.Mine
