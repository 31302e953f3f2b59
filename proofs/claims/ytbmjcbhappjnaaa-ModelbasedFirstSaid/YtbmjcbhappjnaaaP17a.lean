/- Happened-before and clocks, plain. -/
import Derived.Test.YtbmjcbhappjnaaaA17
import Derived.Test.YtbmjcbhappjnaaaPchk
import Derived.Test.YtbmjcbhappjnaaaP18a
set_option linter.unusedSimpArgs false
set_option linter.unusedVariables false
namespace Go.Mine
open Go.RowKit
/-- index j of process s lies in the past of index k of process q -/
inductive Hb (arcs : List Arc) (s j : Int) : Int → Int → Prop
  | same {k : Int} : j ≤ k → Hb arcs s j s k
  | arc {a : Arc} {k : Int} : a ∈ arcs → a.rcv ≠ 0 → a.rcv ≤ k → Hb arcs s j a.fr a.ix → Hb arcs s j a.to k
theorem Hb.mono {arcs : List Arc} {s j q k : Int} (h : Hb arcs s j q k) {k' : Int} (hk : k ≤ k') : Hb arcs s j q k' := by
  cases h with
  | same h1 => exact .same (Int.le_trans h1 hk)
  | arc h1 h2 h3 h4 => exact .arc h1 h2 (Int.le_trans h3 hk) h4
theorem Hb.le {arcs : List Arc} {s j j' q k : Int} (h : Hb arcs s j q k) (hj : j' ≤ j) : Hb arcs s j' q k := by
  induction h with
  | same h1 => exact .same (Int.le_trans hj h1)
  | arc h1 h2 h3 _ ih => exact .arc h1 h2 h3 ih
theorem Hb.zero {n B : Nat} {p : Pat} (h : PatG n B p) {s j q : Int} (hb : Hb p.arcs s j q 0) : j ≤ 0 := by
  cases hb with
  | same h5 => exact h5
  | arc b1 b2 b3 b4 => have := (h.arc _ b1).rcv.1; omega
/-- the rank of an index -/
def rkI (ρ : Int → Int → Nat) (q k : Int) : Nat := if k = 0 then 0 else ρ q k + 1
section
variable {n B : Nat} {p : Pat} (h : PatG n B p) {ρ : Int → Int → Nat} (hρ : RankG n B p.lens p.arcs ρ)
include hρ
theorem rho_mono {q k : Int} (h0 : 0 ≤ q) (h1 : q < n) (hk : 1 ≤ k) : ∀ d : Nat, k + d ≤ nI p.lens q → ρ q k + d ≤ ρ q (k + d)
  | 0, _ => by simp
  | d + 1, hd => by
    have := rho_mono h0 h1 hk d (by omega)
    have h2 := hρ.up q (k + d) h0 h1 (by omega) (by omega)
    rw [show k + ((d + 1 : Nat) : Int) = k + d + 1 by omega]; omega
include h
theorem Hb.rank {s j q k : Int} (hb : Hb p.arcs s j q k) (hj : 1 ≤ j) (hs0 : 0 ≤ s) (hs1 : s < n) (hk : k ≤ nI p.lens q) : ρ s j ≤ ρ q k ∧ j ≤ nI p.lens s := by
  have key : ∀ (q : Int) (i k : Int), 0 ≤ q → q < n → 1 ≤ i → i ≤ k → k ≤ nI p.lens q → ρ q i ≤ ρ q k := fun q i k h0 h1 hi hik hk => by
    obtain ⟨d, hd⟩ := Int.eq_ofNat_of_zero_le (show 0 ≤ k - i by omega)
    have := rho_mono hρ h0 h1 hi d (by omega)
    rw [show i + (d : Int) = k by omega] at this; omega
  induction hb with
  | same h1 => exact ⟨key s j _ hs0 hs1 hj h1 hk, by omega⟩
  | @arc a k ha h2 h3 hb' ih =>
    have hag := h.arc a ha
    obtain ⟨i1, i2⟩ := ih hag.ix.2
    have hix : a.ix ≠ 0 := fun e => by
      rw [e] at hb'
      have := hb'.zero h; omega
    have := hρ.arc a ha h2 hix
    have h6 := key a.to a.rcv k hag.to.1 hag.to.2 (by have := hag.rcv.1; omega) h3 hk
    exact ⟨by omega, i2⟩
theorem Hb.self {q j k : Int} (hb : Hb p.arcs q j q k) (hj : 1 ≤ j) (h0 : 0 ≤ q) (h1 : q < n) (hk : k ≤ nI p.lens q) (hk1 : 0 ≤ k) : j ≤ k := by
  rcases Int.lt_or_le k j with hlt | hle
  · exfalso
    obtain ⟨r1, r2⟩ := hb.rank h hρ hj h0 h1 hk
    rcases Int.lt_or_le 0 k with hp | hp
    · obtain ⟨d, hd⟩ := Int.eq_ofNat_of_zero_le (show 0 ≤ j - k by omega)
      have := rho_mono hρ h0 h1 (show 1 ≤ k by omega) d (by omega)
      rw [show k + (d : Int) = j by omega] at this
      omega
    · have : k = 0 := by omega
      subst this
      cases hb with
      | same h5 => omega
      | arc b1 b2 b3 b4 => have := (h.arc _ b1).rcv.1; omega
  · exact hle
end
/-- a clock -/
def ClkS (n : Nat) (arcs : List Arc) (q k : Int) (c : List Int) : Prop := c.length = n ∧ ∀ s : Nat, s < n → 0 ≤ nI c s ∧ (∀ j : Int, 1 ≤ j → Hb arcs s j q k → j ≤ nI c s) ∧ (1 ≤ nI c s → Hb arcs s (nI c s) q k)
theorem ClkS.uniq {n : Nat} {arcs : List Arc} {q k : Int} {c d : List Int} (h : ClkS n arcs q k c) (h' : ClkS n arcs q k d) : c = d := by
  refine list_ext_nI (by rw [h.1, h'.1]) fun s hs => ?_
  obtain ⟨a1, a2, a3⟩ := h.2 s (by rw [h.1] at hs; exact hs)
  obtain ⟨b1, b2, b3⟩ := h'.2 s (by rw [h.1] at hs; exact hs)
  rcases Int.lt_trichotomy (nI c s) (nI d s) with hlt | he | hlt
  · have := a2 _ (by omega) (b3 (by omega)); omega
  · exact he
  · have := b2 _ (by omega) (a3 (by omega)); omega
theorem ClkS.zero {n B : Nat} {p : Pat} (h : PatG n B p) {q : Int} : ClkS n p.arcs q 0 (List.replicate n 0) := by
  refine ⟨by simp, fun s hs => ?_⟩
  have : nI (List.replicate n (0 : Int)) s = 0 := by simp [nI, hs]
  rw [this]
  exact ⟨Int.le_refl _, fun j hj hb => hb.zero h, fun h => by omega⟩
/-- the clock of an event: that of the one before it, and that of the message -/
theorem ClkS.step {n B : Nat} {p : Pat} (h : PatG n B p) {q k : Int} (h0 : 0 ≤ q) (h1 : q < n) (hk : 1 ≤ k) (hkl : k ≤ nI p.lens q) {c1 c2 c : List Int} (g1 : ClkS n p.arcs q (k - 1) c1)
    (g2 : (∃ a ∈ p.arcs, a.rcv ≠ 0 ∧ a.to = q ∧ a.rcv = k ∧ ClkS n p.arcs a.fr a.ix c2) ∨ ((∀ a ∈ p.arcs, a.rcv ≠ 0 → ¬ (a.to = q ∧ a.rcv = k)) ∧ ∀ s : Nat, s < n → nI c2 s = 0))
    (hl : c.length = n) (hc : ∀ s : Nat, s < n → nI c s = if (s : Int) = q then k else max (nI c1 s) (nI c2 s)) : ClkS n p.arcs q k c := by
  obtain ⟨ρ, hρ⟩ := h.rank
  refine ⟨hl, fun s hs => ?_⟩
  rw [hc s hs]
  by_cases e : (s : Int) = q
  · rw [if_pos e]
    subst e
    exact ⟨by omega, fun j hj hb => hb.self h hρ hj h0 h1 hkl (by omega), fun _ => .same (Int.le_refl _)⟩
  · rw [if_neg e]
    obtain ⟨a1, a2, a3⟩ := g1.2 s hs
    refine ⟨by omega, fun j hj hb => ?_, fun hm => ?_⟩
    · cases hb with
      | same _ => exact absurd rfl e
      | @arc a _ ha hr hrk hb' =>
        rcases Int.lt_or_le a.rcv k with hlt | hge
        · have := a2 j hj (.arc ha hr (by omega) hb'); omega
        · rcases g2 with ⟨b, hb1, hb2, hb3, hb4, hb5⟩ | ⟨hn, _⟩
          · have hab : a = b := by
              have huq := h.uniq
              obtain ⟨i, hi, hie⟩ := List.getElem_of_mem ha
              obtain ⟨i', hi', hie'⟩ := List.getElem_of_mem hb1
              rcases Nat.lt_trichotomy i i' with h5 | h5 | h5
              · exfalso
                have := List.pairwise_iff_getElem.1 huq i i' hi hi' h5
                rw [hie, hie'] at this
                exact this hr ⟨hb3.symm, by omega⟩
              · subst h5; rw [← hie, ← hie']
              · exfalso
                have := List.pairwise_iff_getElem.1 huq i' i hi' hi h5
                rw [hie, hie'] at this
                exact this hb2 ⟨hb3, by omega⟩
            subst hab
            have := (hb5.2 s hs).2.1 j hj hb'; omega
          · exact absurd ⟨rfl, by omega⟩ (hn a ha hr)
    · rcases Int.le_total (nI c1 s) (nI c2 s) with hle | hle
      · rw [Int.max_eq_right hle] at hm ⊢
        rcases g2 with ⟨b, hb1, hb2, hb3, hb4, hb5⟩ | ⟨_, hz⟩
        · have := (hb5.2 s hs).2.2 hm
          rw [← hb3]
          exact .arc hb1 hb2 (by omega) this
        · rw [hz s hs] at hm; omega
      · rw [Int.max_eq_left hle] at hm ⊢
        exact (a3 hm).mono (by omega)
/-! the code's clocks -/
def SrcS (arcs : List Arc) (m : List (Pt × Pt)) : Prop := ∀ (q k : Int), (∃ a ∈ arcs, a.rcv ≠ 0 ∧ a.to = q ∧ a.rcv = k ∧ mget m ⟨q, k⟩ = some ⟨a.fr, a.ix⟩) ∨ ((∀ a ∈ arcs, a.rcv ≠ 0 → ¬ (a.to = q ∧ a.rcv = k)) ∧ mget m ⟨q, k⟩ = none)
theorem newHistory_g {fuel n B : Nat} {p : Pat} (h : PatG n B p) (hB : B ≤ 64) (hf : 1000000 < fuel) : Ok (causal_newHistory fuel p) fun r => r.1 = p.lens ∧ SrcS p.arcs r.2.1 ∧ r.2.2 = [] := by
  have hal := h.al
  unfold causal_newHistory
  refine Ok.bind (Q := SrcS p.arcs) (Ok.for_ p.arcs.length (fun k s => s.2 = (k : Int) ∧ SrcS (p.arcs.take k) s.1) ⟨rfl, fun q k => .inr ⟨by simp, rfl⟩⟩ (by omega) ?_) fun t ht => Ok.ret ⟨rfl, ht, rfl⟩
  rintro k ⟨m, i⟩ hk ⟨hi, hm⟩
  simp only at hi hm
  subst hi
  simp only [causal_newHistory_B1]
  refine Ok.iteP (fun hkl => ?_) (fun hkl => Ok.ret ?_)
  · have hkl' : k < p.arcs.length := by omega
    have hmem : ∀ a, a ∈ p.arcs.take (k + 1) ↔ a ∈ p.arcs.take k ∨ a = p.arcs[k] := fun a => by rw [mem_take_succ', List.getElem?_eq_getElem hkl', Option.some.injEq, eq_comm (a := p.arcs[k])]
    rw [ati_get hkl', Option.bind_some]
    refine Ok.iteN (fun hr => ?_) (fun hr => Ok.ret ⟨by omega, w64_nat (by omega), fun q k' => ?_⟩)
    · rw [Option.bind_some]
      refine Ok.ret ⟨by omega, w64_nat (by omega), fun q k' => ?_⟩
      simp only
      rw [mget_mput]
      by_cases e : (⟨p.arcs[k].to, p.arcs[k].rcv⟩ : Pt) = ⟨q, k'⟩
      · rw [if_pos e]
        simp only [Pt.mk.injEq] at e
        exact .inl ⟨p.arcs[k], (hmem _).2 (.inr rfl), hr, e.1, e.2, rfl⟩
      · rw [if_neg e]
        simp only [Pt.mk.injEq] at e
        rcases hm q k' with ⟨a, a1, a2⟩ | ⟨a1, a2⟩
        · exact .inl ⟨a, (hmem _).2 (.inl a1), a2⟩
        · refine .inr ⟨fun a ha hra => ?_, a2⟩
          rcases (hmem a).1 ha with h5 | rfl
          · exact a1 a h5 hra
          · exact e
    · simp only
      rcases hm q k' with ⟨a, a1, a2⟩ | ⟨a1, a2⟩
      · exact .inl ⟨a, (hmem _).2 (.inl a1), a2⟩
      · refine .inr ⟨fun a ha hra => ?_, a2⟩
        rcases (hmem a).1 ha with h5 | rfl
        · exact a1 a h5 hra
        · exact absurd hr hra
  · have e : k = p.arcs.length := by omega
    subst e
    rw [List.take_length] at hm; exact hm
theorem raise_g {fuel : Nat} {c d : List Int} (hl : c.length = d.length) (hw : c.length ≤ 1000) (hf : 1000000 < fuel) : Ok (causal_raise fuel d c) fun r => r.length = c.length ∧ ∀ s : Nat, s < c.length → nI r s = max (nI c s) (nI d s) := by
  unfold causal_raise
  refine Ok.bind (Q := fun r => r.length = c.length ∧ ∀ s : Nat, s < c.length → nI r s = max (nI c s) (nI d s)) (Ok.for_ c.length (fun k s => s.2 = (k : Int) ∧ s.1.length = c.length ∧ (∀ i : Nat, i < k → nI s.1 i = max (nI c i) (nI d i)) ∧ ∀ i : Nat, k ≤ i → i < c.length → nI s.1 i = nI c i) ⟨rfl, rfl, fun i hi => by omega, fun i _ _ => rfl⟩ (by omega) ?_) fun t ht => Ok.ret ht
  rintro k ⟨x, i⟩ hk ⟨hi, hxl, h1, h2⟩
  simp only at hi hxl h1 h2
  subst hi
  simp only [causal_raise_B1]
  refine Ok.iteP (fun hkl => ?_) (fun hkl => Ok.ret ⟨hxl, fun s hs => h1 s (by omega)⟩)
  rw [ati_nI (by omega) (by omega), Option.bind_some, ati_nI (by omega) (by omega), Option.bind_some, Option.bind_some]
  refine (Ok.set (by omega) (by omega)).bind fun y hy => Ok.ret ⟨by omega, w64_nat (by omega), ?_⟩
  rw [Int.toNat_natCast] at hy
  subst hy
  have hset : ∀ q : Nat, nI (x.set k (max (nI x k) (nI d k))) q = if (q : Int) = k then max (nI x k) (nI d k) else nI x q := fun q => by
    have := nI_set (xs := x) (i := (k : Int)) (j := (q : Int)) (x := max (nI x k) (nI d k)) (by omega) (by omega) (by omega)
    simpa using this
  refine ⟨by simp [hxl], fun i hi => ?_, fun i hi1 hi2 => ?_⟩
  · simp only; rw [hset i]
    split
    · rename_i e; have : i = k := by omega
      subst this; rw [h2 i (Nat.le_refl _) (by omega)]
    · exact h1 i (by omega)
  · simp only; rw [hset i, if_neg (by omega)]; exact h2 i (by omega) hi2
/-- the clocks that are known -/
def MemoS (n : Nat) (arcs : List Arc) (m : List (Pt × List Int)) : Prop := ∀ (q k : Int) (c : List Int), mget m ⟨q, k⟩ = some c → ClkS n arcs q k c
theorem clock_g {fuel n B : Nat} {p : Pat} (h : PatG n B p) (hn : n ≤ 5) (hB : B ≤ 64) (hf : 1000000 < fuel) {ρ : Int → Int → Nat} (hρ : RankG n B p.lens p.arcs ρ) {src : List (Pt × Pt)} (hsrc : SrcS p.arcs src) :
    ∀ (r d : Nat) (q k : Int) (m : List (Pt × List Int)), r < d → rkI ρ q k ≤ r → 0 ≤ q → q < n → 0 ≤ k → k ≤ nI p.lens q → MemoS n p.arcs m →
      Ok (causal_history_clock_R fuel d ⟨q, k⟩ p.lens src m) fun t => ClkS n p.arcs q k t.1 ∧ t.2.1 = src ∧ MemoS n p.arcs t.2.2 := by
  intro r
  induction r using Nat.strongRecOn with
  | ind r ih =>
    intro d q k m hd hr h0 h1 hk hkl hm
    obtain ⟨d, rfl⟩ : ∃ e, d = e + 1 := ⟨d - 1, by omega⟩
    have hl := h.len
    unfold causal_history_clock_R causal_history_clock_F
    rw [Option.bind_some]
    refine Ok.ite (fun hs => Ok.ret ⟨?_, rfl, hm⟩) fun hs => ?_
    · obtain ⟨c, hc⟩ := Option.isSome_iff_exists.1 hs
      simp only [hc, Option.getD_some]
      exact hm q k c hc
    · rw [mkL_nat (by omega), Option.bind_some, hl]
      -- what is done at the end
      have fin : ∀ (m2 : List (Pt × List Int)) (c : List Int), MemoS n p.arcs m2 → c.length = n → (∀ c', c'.length = n → (∀ s : Nat, s < n → nI c' s = if (s : Int) = q then k else nI c s) → ClkS n p.arcs q k c') →
          Ok (causal_history_clock_J1 fuel (causal_history_clock_R fuel d) ⟨q, k⟩ src m2 c) fun t => ClkS n p.arcs q k t.1 ∧ t.2.1 = src ∧ MemoS n p.arcs t.2.2 := fun m2 c hm2 hcl hcs => by
        unfold causal_history_clock_J1
        refine (Ok.at h0 (by omega)).bind fun _ _ => (Ok.set h0 (by omega)).bind fun c' hc' => ?_
        rw [Option.bind_some]
        have hck : ClkS n p.arcs q k c' := hcs c' (by rw [hc']; simp [hcl]) fun s hs => by
          rw [hc', nI_set h0 (by omega) (by omega)]
        refine Ok.ret ⟨hck, rfl, fun q' k' c2 hc2 => ?_⟩
        simp only at hc2
        rw [mget_mput] at hc2
        split at hc2
        · rename_i e; simp only [Pt.mk.injEq] at e; cases hc2; rw [← e.1, ← e.2]; exact hck
        · exact hm2 q' k' c2 hc2
      refine Ok.iteP (fun hp => ?_) (fun hp => ?_)
      · simp only at hp
        have hrk1 : rkI ρ q (k - 1) < rkI ρ q k := by
          unfold rkI
          rw [if_neg (show ¬ k = 0 by omega)]
          split
          · omega
          · have := hρ.up q (k - 1) h0 h1 (by omega) (by omega)
            rw [show k - 1 + 1 = k by omega] at this; omega
        have hkb := (h.nI_rng q).2
        rw [show w64 ((⟨q, k⟩ : Pt).index - 1) = k - 1 from w64_id (show _ ≤ k - 1 by omega) (show k - 1 ≤ _ by omega)]
        refine (ih (rkI ρ q (k - 1)) (by omega) d q (k - 1) m (by omega) (Nat.le_refl _) h0 h1 (by omega) (by omega) hm).bind fun t ⟨t1, t2, t3⟩ => ?_
        have htl := t1.1
        rw [show copyM (List.replicate n (0 : Int)) t.1 = some t.1 from by
          unfold copyM; congr 1; unfold copyL
          rw [List.take_of_length_le (by simp [htl]), List.drop_eq_nil_of_le (by simp [htl]), List.append_nil], Option.bind_some, Option.bind_some]
        unfold causal_history_clock_J2
        rw [t2]
        rcases hsrc q k with ⟨a, a1, a2, a3, a4, a5⟩ | ⟨a1, a2⟩
        · rw [a5]
          simp only [Option.isSome_some, if_true, Option.getD_some]
          have hag := h.arc a a1
          have hrk2 : rkI ρ a.fr a.ix < rkI ρ q k := by
            unfold rkI
            rw [if_neg (show ¬ k = 0 by omega)]
            split
            · omega
            · rename_i hx; have := hρ.arc a a1 a2 hx; rw [a3, a4] at this; omega
          refine (ih (rkI ρ a.fr a.ix) (by omega) d a.fr a.ix t.2.2 (by omega) (Nat.le_refl _) hag.fr.1 hag.fr.2 hag.ix.1 hag.ix.2 t3).bind fun u ⟨u1, u2, u3⟩ => ?_
          have hul := u1.1
          refine (raise_g (c := t.1) (d := u.1) (by omega) (by omega) hf).bind fun c ⟨c1, c2⟩ => ?_
          rw [u2]
          refine fin u.2.2 c u3 (by omega) fun c' hc1 hc2 => ClkS.step h h0 h1 (by omega) hkl t1 (.inl ⟨a, a1, a2, a3, a4, u1⟩) hc1 fun s hs => ?_
          rw [hc2 s hs, c2 s (by omega)]
        · rw [a2]
          simp only [Option.isSome_none, Bool.false_eq_true, if_false]
          refine fin t.2.2 t.1 t3 htl fun c' hc1 hc2 => ClkS.step (c2 := List.replicate n 0) h h0 h1 (by omega) hkl t1 (.inr ⟨a1, fun s hs => by simp [nI, hs]⟩) hc1 fun s hs => ?_
          rw [hc2 s hs]
          have : nI (List.replicate n (0 : Int)) s = 0 := by simp [nI, hs]
          have := (t1.2 s hs).1
          split
          · rfl
          · omega
      · simp only at hp
        have hk0 : k = 0 := by omega
        subst hk0
        refine fin m _ hm (by simp) fun c' hc1 hc2 => ?_
        have : c' = List.replicate n 0 := list_ext_nI (by simp [hc1]) fun s hs => by
          rw [hc2 s (by omega)]
          have : nI (List.replicate n (0 : Int)) s = 0 := by simp [nI, (show s < n by omega)]
          rw [this]; split <;> rfl
        rw [this]; exact ClkS.zero h
theorem fits1_g {fuel n B : Nat} {p : Pat} (h : PatG n B p) (hn : n ≤ 5) (hB : B ≤ 64) (hf : 1000000 < fuel) {q k : Int} (h0 : 0 ≤ q) (h1 : q < n) (hk : 0 ≤ k) (hkl : k ≤ nI p.lens q) : causal_fits fuel p [⟨q, k⟩] = some true := by
  have hl := h.len
  unfold causal_fits
  rw [show (⟨p.lens, p.ckpts, p.arcs⟩ : Pat) = p from rfl, check_g h hn hB hf, Option.bind_some, if_neg (by simp)]
  refine Ok.eq ?_
  refine Ok.bind (Q := fun t => t = .inl ()) (Ok.for_ 1 (fun k s => s = (k : Int)) rfl (by omega) ?_) fun t ht => by subst ht; exact Ok.ret rfl
  rintro i s hi rfl
  unfold causal_fits_B1
  refine Ok.iteP (fun hil => ?_) (fun _ => Ok.ret rfl)
  have hi0 : i = 0 := by simp at hil; omega
  subst hi0
  rw [ati_get (by simp), Option.bind_some, orM_some, Option.bind_some, orM_some, Option.bind_some]
  simp only [List.getElem_cons_zero]
  rw [ati_nI h0 (by omega), Option.bind_some, orM_some, Option.bind_some, if_neg (by simp; omega)]
  exact Ok.ret ⟨by omega, w64_nat (by omega)⟩
theorem Clock_g {fuel n B : Nat} {p : Pat} (h : PatG n B p) (hn : n ≤ 5) (hB : B ≤ 64) (hf : 1000000 < fuel) {q k : Int} (h0 : 0 ≤ q) (h1 : q < n) (hk : 0 ≤ k) (hkl : k ≤ nI p.lens q) : Ok (causal_Clock fuel p q k) (ClkS n p.arcs q k) := by
  obtain ⟨ρ, hρ⟩ := h.rank
  unfold causal_Clock
  rw [show (⟨p.lens, p.ckpts, p.arcs⟩ : Pat) = p from rfl, fits1_g h hn hB hf h0 h1 hk hkl, Option.bind_some]
  simp only [Bool.not_true, Bool.false_eq_true, if_false]
  refine (newHistory_g h hB hf).bind fun r ⟨r1, r2, r3⟩ => ?_
  rw [r1, r3]
  unfold causal_history_clock
  have hr : rkI ρ q k ≤ 65 := by
    unfold rkI; split
    · omega
    · have := hρ.top q k; omega
  exact (clock_g h hn hB hf hρ r2 65 fuel q k [] (by omega) hr h0 h1 hk hkl (fun q k c hc => by cases hc)).bind fun t ⟨t1, _, _⟩ => Ok.ret t1
end Go.Mine
