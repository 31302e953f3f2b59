/- Recovery lines, plain: LineMeets. -/
import Derived.Test.YtdjkdbojmcdogaaP22g
set_option linter.unusedSimpArgs false
set_option linter.unusedVariables false
set_option linter.unusedSectionVars false
namespace Go.Mine
open Go.RowKit
theorem mem_alG {p : Pat} {f : List Int} {q : Nat} {y : Int} : y ∈ alG p f q ↔ y ∈ rwI p.ckpts q ∨ (y = nI p.lens q ∧ (q : Int) ∉ f) := by
  unfold alG alRow
  by_cases h1 : (q : Int) ∈ f
  · simp [h1]
  · by_cases h2 : nI p.lens q ∈ rwI p.ckpts q
    · simp [h1, h2]; intro e; subst e; exact h2
    · simp [h1, h2]
theorem Le.refl (x : List Int) : Le x x := fun _ _ => Int.le_refl _
theorem le_meet {n : Nat} {x y z : List Int} (hx : x.length = n) (hy : y.length = n) (hz : z.length = n) : Le z (meetL x y) ↔ Le z x ∧ Le z y := by
  constructor
  · intro h
    refine ⟨fun q hq => ?_, fun q hq => ?_⟩ <;> have := h q hq <;> rw [meetL_nI (by omega) (by omega)] at this <;> omega
  · rintro ⟨h1, h2⟩ q hq
    rw [meetL_nI (by omega) (by omega)]
    have := h1 q hq; have := h2 q hq; omega
section
variable {n B : Nat} {p : Pat} (hp : PatG n B p) (hn : n ≤ 5) (hB : B ≤ 64)
include hp hn hB
theorem allC_iff {f z : List Int} : AllC n (allowL p f) z ↔ z.length = n ∧ ∀ q : Nat, q < n → nI z q ∈ rwI p.ckpts q ∨ (nI z q = nI p.lens q ∧ (q : Int) ∉ f) := by
  have hl := hp.len
  refine and_congr_right fun _ => forall_congr' fun q => forall_congr' fun hq => ?_
  rw [rwI_allowL (by omega), mem_alG]
theorem fcut_mono {f g : List Int} (hf : f.length ≤ 1000) (hg : g.length ≤ 1000) (h : ∀ q : Nat, q < n → (q : Int) ∈ g → (q : Int) ∈ f) : Le (fcut p f) (fcut p g) := by
  have h1 := fail_g hp hn hB f hf
  have h2 := fail_g hp hn hB g hg
  refine h2.2.2.2.2 _ ?_ h1.2.2.2.1
  have := (allC_iff hp hn hB).1 h1.2.2.1
  refine (allC_iff hp hn hB).2 ⟨this.1, fun q hq => ?_⟩
  rcases this.2 q hq with h5 | ⟨h5, h6⟩
  · exact .inl h5
  · exact .inr ⟨h5, fun h7 => h6 (h q hq h7)⟩
theorem fcut_len {f : List Int} (hf : f.length ≤ 1000) : (fcut p f).length = n := (fail_g hp hn hB f hf).2.2.1.1
theorem fcut_rng {f : List Int} (hf : f.length ≤ 1000) {q : Nat} (hq : q < n) : 0 ≤ nI (fcut p f) q ∧ nI (fcut p f) q ≤ nI p.lens q :=
  (allow_ag hp hn hB (f := f)).rng q hq _ ((fail_g hp hn hB f hf).2.2.1.2 q hq)
theorem fcut_nil : fcut p [] = p.lens := by
  have h := fail_g hp hn hB [] (by simp)
  have hl := hp.len
  refine Le.antisymm (n := n) h.2.2.1.1 hl (fun q hq => (fcut_rng hp hn hB (by simp) (by rw [h.2.2.1.1] at hq; exact hq)).2) (h.2.2.2.2 _ ?_ (lens_cons hp hn hB))
  exact (allC_iff hp hn hB).2 ⟨hl, fun q hq => .inr ⟨rfl, by simp⟩⟩
end
structure MI (n : Nat) (p : Pat) (f : List Int) (k : Nat) (M : List Int) : Prop where
  len : M.length = n
  con : Cons p.arcs M
  mem : ∀ q : Nat, q < n → nI M q ∈ rwI p.ckpts q ∨ nI M q = nI p.lens q
  le : ∀ q : Nat, q < k → (q : Int) ∈ f → Le M (fcut p [(q : Int)])
  max : ∀ z : List Int, z.length = n → Le z p.lens → (∀ q : Nat, q < k → (q : Int) ∈ f → Le z (fcut p [(q : Int)])) → Le z M
section
variable {n B : Nat} {p : Pat} (hp : PatG n B p) (hn : n ≤ 5) (hB : B ≤ 64)
include hp hn hB
theorem MI.init {f : List Int} : MI n p f 0 p.lens := ⟨hp.len, lens_cons hp hn hB, fun q hq => .inr rfl, fun q hq => by omega, fun z _ h _ => h⟩
theorem MI.no {f M : List Int} {k : Nat} (h : MI n p f k M) (hk : (k : Int) ∉ f) : MI n p f (k + 1) M := by
  refine ⟨h.len, h.con, h.mem, fun q hq hm => ?_, fun z z1 z2 z3 => h.max z z1 z2 fun q hq => z3 q (by omega)⟩
  rcases Nat.lt_succ_iff_lt_or_eq.1 hq with h9 | rfl
  · exact h.le q h9 hm
  · exact absurd hm hk
theorem MI.yes {f M : List Int} {k : Nat} (h : MI n p f k M) (hk : (k : Int) ∈ f) : MI n p f (k + 1) (meetL M (fcut p [(k : Int)])) := by
  have hF := fail_g hp hn hB [(k : Int)] (by simp)
  have hFl := hF.2.2.1.1
  have hl := h.len
  have ha := (allC_iff hp hn hB).1 hF.2.2.1
  have hml : (meetL M (fcut p [(k : Int)])).length = n := by rw [meetL_len (by omega)]; exact hl
  have hle := (le_meet hl hFl hml).1 (Le.refl _)
  refine ⟨hml, h.con.meet hp.arc hl hFl hF.2.2.2.1, fun q hq => ?_, fun q hq hm => ?_, fun z z1 z2 z3 => (le_meet hl hFl z1).2 ⟨h.max z z1 z2 fun q hq => z3 q (by omega), z3 k (by omega) hk⟩⟩
  · rw [meetL_nI (by omega) (by omega)]
    rcases Int.le_total (nI M q) (nI (fcut p [(k : Int)]) q) with h5 | h5
    · rw [Int.min_eq_left h5]; exact h.mem q hq
    · rw [Int.min_eq_right h5]; rcases ha.2 q hq with h6 | h6
      · exact .inl h6
      · exact .inr h6.1
  · rcases Nat.lt_succ_iff_lt_or_eq.1 hq with h9 | rfl
    · intro j hj
      have := hle.1 j hj; have := h.le q h9 hm j (by omega); omega
    · exact hle.2
theorem MI.fin {f M : List Int} (h : MI n p f n M) (hf : f.length ≤ 1000) : fcut p f = M := by
  have hF := fail_g hp hn hB f hf
  have hl := h.len
  refine Le.antisymm (n := n) hF.2.2.1.1 hl (h.max _ hF.2.2.1.1 (fun q hq => (fcut_rng hp hn hB hf (by have := hF.2.2.1.1; omega)).2) fun q hq hm => fcut_mono hp hn hB hf (by simp) fun j _ hj => ?_) (hF.2.2.2.2 M ?_ h.con)
  · simp at hj; rw [show (j : Int) = (q : Int) by omega]; exact hm
  · refine (allC_iff hp hn hB).2 ⟨hl, fun q hq => ?_⟩
    rcases h.mem q hq with h5 | h5
    · exact .inl h5
    · by_cases hm : (q : Int) ∈ f
      · refine .inl ?_
        have h6 := h.le q hq hm q (by omega)
        have h7 := (fcut_rng hp hn hB (f := [(q : Int)]) (by simp) hq).2
        have h8 := (allC_iff hp hn hB).1 (fail_g hp hn hB [(q : Int)] (by simp)).2.2.1
        rcases h8.2 q hq with h9 | h9
        · rw [show nI M q = nI (fcut p [(q : Int)]) q by omega]; exact h9
        · exact absurd (by simp) h9.2
      · exact .inr ⟨h5, hm⟩
theorem le_fold {l : List (List Int)} : ∀ {x z : List Int}, x.length = n → z.length = n → (∀ s ∈ l, s.length ≤ 1000) → (Le z (l.foldl (fun x s => meetL x (fcut p s)) x) ↔ Le z x ∧ ∀ s ∈ l, Le z (fcut p s)) := by
  induction l with
  | nil => intro x z _ _ _; simp
  | cons s l ih =>
    intro x z hx hz hs
    have hsl := fcut_len hp hn hB (hs s (by simp))
    rw [List.foldl_cons, ih (by rw [meetL_len (by omega)]; exact hx) hz fun s' h' => hs s' (by simp [h']), le_meet hx hsl hz]
    simp [and_assoc]
theorem sets_ne {k : Int} (hk : 0 ≤ k) : [] ∈ setsI (n : Int) k := by
  unfold setsI
  rw [if_neg (by omega)]
  refine setsB_mem.2 ⟨⟨0, Nat.pow_pos (by omega), by simp [bitsL]⟩, by simpa using hk⟩
theorem sets_one {k : Int} (hk : 1 ≤ k) {q : Nat} (hq : q < n) : [(q : Int)] ∈ setsI (n : Int) k := by
  have key : ∀ n : Nat, n < 9 → ∀ q : Nat, q < n → 2 ^ q < 2 ^ n ∧ bitsL n (2 ^ q) = [(q : Int)] := by decide +kernel
  unfold setsI
  rw [if_neg (by omega), Int.toNat_natCast]
  have := key n (by omega) q hq
  exact setsB_mem.2 ⟨⟨2 ^ q, this⟩, by simpa using hk⟩
theorem safe_le {k : Int} (hk : 0 ≤ k) {z : List Int} (hz : z.length = n) : Le z (safeF p k) ↔ Le z p.lens ∧ ∀ s ∈ setsI (n : Int) k, Le z (fcut p s) := by
  have hl := hp.len
  have hne := sets_ne hp hn hB hk
  unfold safeF
  rw [hl, if_neg (fun e => by rw [e] at hne; simp at hne)]
  exact le_fold hp hn hB hl hz fun s h => set_len hp hn hB h
theorem safe_zero : safeF p 0 = p.lens := by
  have hl := hp.len
  have hs := safe_len hp hn hB (k := 0)
  refine Le.antisymm hs hl ((safe_le hp hn hB (by omega) hs).1 (Le.refl _)).1 ((safe_le hp hn hB (by omega) hl).2 ⟨Le.refl _, fun s h => ?_⟩)
  unfold setsI at h
  rw [if_neg (by omega)] at h
  have h2 := (setsB_mem.1 h).2
  have : s = [] := List.eq_nil_of_length_eq_zero (by omega)
  rw [this, fcut_nil hp hn hB]; exact Le.refl _
theorem safe_all {k : Int} (hk : 1 ≤ k) {f M : List Int} (hf : f.length ≤ 1000) (hall : ∀ q : Nat, q < n → (q : Int) ∈ f) (h : MI n p f n M) : safeF p k = M := by
  have hs := safe_len hp hn hB (k := k)
  have hsl := (safe_le hp hn hB (by omega) hs).1 (Le.refl _)
  have hm := h.len
  have hfin := h.fin hp hn hB hf
  refine Le.antisymm hs hm (h.max _ hs hsl.1 fun q hq _ => hsl.2 _ (sets_one hp hn hB hk hq)) ((safe_le hp hn hB (by omega) hm).2 ⟨?_, fun s hsm => ?_⟩)
  · rw [← hfin]; exact fun q hq => (fcut_rng hp hn hB hf (by rw [fcut_len hp hn hB hf] at hq; exact hq)).2
  · rw [← hfin]; exact fcut_mono hp hn hB hf (set_len hp hn hB hsm) fun q hq _ => hall q hq
end
theorem lineMeets {a0 a1 : List Int} {a2 : Int} (h0 : ∀ x ∈ a0, U8 x) (h1 : ∀ x ∈ a1, U8 x) (h2 : U8 a2) : law22_LineMeets 10000000 a0 a1 a2 = some true := by
  unfold law22_LineMeets
  rw [awake22, Option.bind_some]
  simp only [Bool.not_true, Bool.false_eq_true, if_false]
  refine Ok.eq ?_
  refine (Ok.new (by omega) (by omega) h0).bind fun r hr => (pattern_g hr (m := 20) (by omega) (by omega)).bind fun P ⟨n, hn2, hn4, hp, _⟩ => ?_
  have hl := hp.len
  refine (Ok.new (by omega) (by omega) h1).bind fun r2 hr2 => ?_
  rw [hl]
  refine (procs_g (n := n) (by omega) (by omega) hr2).bind fun f ⟨hf, hfl⟩ => ?_
  have hn5 : n ≤ 5 := by omega
  have hB : 20 ≤ 64 := by omega
  have hal : ∀ q : Nat, q < n → (q : Int) ∈ (List.range n).map Int.ofNat := fun q hq => List.mem_map.2 ⟨q, by simp [hq], rfl⟩
  have hall : ((List.range n).map Int.ofNat).length ≤ 1000 := by simp; omega
  generalize (List.range n).map Int.ofNat = allP at hal hall
  refine Ok.bind (Q := fun t => MI n P.1 f.1 n t.1 ∧ MI n P.1 allP n t.2) (Ok.for_ n (fun k s => s.2.2 = (k : Int) ∧ MI n P.1 f.1 k s.1 ∧ MI n P.1 allP k s.2.1) ⟨rfl, MI.init hp hn5 hB, MI.init hp hn5 hB⟩ (by omega) ?_) ?_
  · rintro k ⟨x, y, i⟩ hk ⟨hi, hx, hy⟩
    simp only at hi hx hy
    subst hi
    simp only [law22_LineMeets_B1, law22_LineMeets_J1]
    rw [show (⟨P.1.lens, P.1.ckpts, P.1.arcs⟩ : Pat) = P.1 from rfl]
    refine Ok.iteP (fun hlt => ?_) (fun hlt => Ok.ret (by rw [show k = n by omega] at hx hy; exact ⟨hx, hy⟩))
    have hF := fail_g hp hn5 hB [(k : Int)] (by simp)
    have hFl := hF.2.2.1.1; have hxl := hx.len; have hyl := hy.len
    rw [hF.1, Option.bind_some, in_g (by omega) (by omega), Option.bind_some, meet_g (by omega) (by omega) (by omega), meet_g (by omega) (by omega) (by omega)]
    simp only [Option.bind_some]
    refine Ok.iteP (fun hc => Ok.ret ⟨by omega, w64_nat (by omega), hx.yes hp hn5 hB hc, hy.yes hp hn5 hB (hal k (by omega))⟩) (fun hc => Ok.ret ⟨by omega, w64_nat (by omega), hx.no hp hn5 hB hc, hy.yes hp hn5 hB (hal k (by omega))⟩)
  · rintro ⟨x, y⟩ ⟨hx, hy⟩
    simp only at hx hy
    simp only [law22_LineMeets_K1]
    rw [show (⟨P.1.lens, P.1.ckpts, P.1.arcs⟩ : Pat) = P.1 from rfl]
    have hxl := hx.len; have hyl := hy.len
    have ha := h2.1; have hb := h2.2
    rw [w64_id (i := a2) (by omega) (by omega)]
    refine (Ok.rem (by omega)).bind fun m hm => ?_
    have m0 : 0 ≤ m := by rw [hm]; exact Int.tmod_nonneg _ (by omega)
    have m1 : m < 4 := by rw [hm]; exact Int.tmod_lt_of_pos _ (by omega)
    rw [w64_id (by omega) (by omega), (fail_g hp hn5 hB f.1 (by omega)).1, hx.fin hp hn5 hB (by omega), (safe_g hp hn5 hB).1, safe_all hp hn5 hB (by omega) hall hal hy, (safe_g hp hn5 hB).1, safe_zero hp hn5 hB]
    simp only [Option.bind_some]
    rw [sameInts_refl (by omega) (by omega), sameInts_refl (by omega) (by omega), sameInts_refl (by omega) (by omega)]
    exact Ok.ret rfl
end Go.Mine
