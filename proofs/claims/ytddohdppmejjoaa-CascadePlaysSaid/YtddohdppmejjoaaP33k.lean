/- The law CascadePlays in plain words. -/
import Derived.Test.YtddohdppmejjoaaP33j
set_option linter.unusedSimpArgs false
set_option linter.unusedVariables false
namespace Go.Mine
/-- the news is delivered, letter by letter -/
inductive Run33 : List Branch → List Letter → List Branch × List Letter → Prop
  | stop {bs : List Branch} {fl : List Letter} : Quiet33 fl → Run33 bs fl (bs, fl)
  | step {bs : List Branch} {fl : List Letter} {i : Nat} {x : Letter} {t u : List Branch × List Letter} : fl[i]? = some x → x.news = true → (∀ (j : Nat) (y : Letter), j < i → fl[j]? = some y → y.news = false) → RecS bs fl i x (brs bs x.to) t → Run33 t.1 t.2 u → Run33 bs fl u
theorem Run33.unique {bs : List Branch} {fl : List Letter} {u u' : List Branch × List Letter} (h : Run33 bs fl u) : Run33 bs fl u' → u = u' := by
  induction h with
  | stop hq =>
    intro h'
    cases h' with
    | stop _ => rfl
    | step g1 g2 _ _ _ => have := hq _ (mem_of_getElem? g1); rw [g2] at this; cases this
  | @step bs fl i x t u h1 h2 h3 h4 _ ih =>
    intro h'
    cases h' with
    | stop hq => have := hq _ (mem_of_getElem? h1); rw [h2] at this; cases this
    | @step _ _ j y t' u' g1 g2 g3 g4 g5 =>
      have hij : i = j := by
        rcases Nat.lt_trichotomy i j with h | h | h
        · have := g3 i x h h1; rw [h2] at this; cases this
        · exact h
        · have := h3 j y h g1; rw [g2] at this; cases this
      subst hij
      rw [h1] at g1
      cases g1
      have := h4.unique g4
      subst this
      exact ih g5
theorem rnews33 {fuel : Nat} {bs : List Branch} {fl : List Letter} (hf : fl.length < fuel) (hl : fl.length ≤ 1000000) : Ok (ref33_news fuel (⟨bs, fl⟩ : Cascade)) (NewsS fl) := by
  unfold ref33_news
  refine (Ok.for_ fl.length (fun k s => s = (k : Int) ∧ ∀ (j : Nat) (y : Letter), j < k → fl[j]? = some y → y.news = false) (Q := fun t => Sum.elim (fun _ => ∀ (j : Nat) (y : Letter), fl[j]? = some y → y.news = false) (fun t => NewsS fl t) t) ⟨rfl, fun j y h => by omega⟩ hf ?_).bind ?_
  · rintro k s hk ⟨rfl, hn⟩
    unfold ref33_news_B1
    refine Ok.iteP (fun h => ?_) fun h => ?_
    · simp only at h
      have hk' : k < fl.length := by omega
      refine (Ok.at (by omega) h).bind fun x hx => ?_
      rw [Int.toNat_natCast] at hx
      refine Ok.ite (fun h2 => ?_) fun h2 => ?_
      · exact Ok.ret (show NewsS fl _ from .inr ⟨k, x, rfl, hx, h2, hn⟩)
      · refine Ok.ret ⟨hk', w64_nat (by omega), fun j y hj hy => ?_⟩
        rcases Nat.lt_or_ge j k with h3 | h3
        · exact hn j y h3 hy
        · obtain rfl : j = k := by omega
          rw [hx] at hy; cases hy; exact h2
    · simp only at h
      refine Ok.ret (show ∀ (j : Nat) (y : Letter), fl[j]? = some y → y.news = false from fun j y hy => ?_)
      exact hn j y (by have := (List.getElem?_eq_some_iff.1 hy).1; omega) hy
  · rintro t ht
    cases t with
    | inl u => exact Ok.ret (.inl ⟨rfl, ht⟩)
    | inr r => exact Ok.ret ht
theorem NewsS.unique {fl : List Letter} {r r' : Int} (h : NewsS fl r) (h' : NewsS fl r') : r = r' := by
  rcases h with ⟨rfl, h1⟩ | ⟨k, x, rfl, h1, h2, h3⟩ <;> rcases h' with ⟨rfl, g1⟩ | ⟨j, y, rfl, g1, g2, g3⟩
  · rfl
  · have := h1 j y g1; rw [g2] at this; cases this
  · have := g1 k x h1; rw [h2] at this; cases this
  · rcases Nat.lt_trichotomy k j with h | h | h
    · have := g3 k x h h1; rw [h2] at this; cases this
    · rw [h]
    · have := h3 j y h g1; rw [g2] at this; cases this
theorem NewsS.quiet {fl : List Letter} {r : Int} (hr : NewsS fl r) (h0 : ¬ 0 ≤ r) : Quiet33 fl := by
  rcases hr with ⟨_, h⟩ | ⟨k, x, rfl, _⟩
  · intro x hx
    obtain ⟨j, hj, rfl⟩ := List.mem_iff_getElem.1 hx
    exact h j _ (List.getElem?_eq_getElem hj)
  · omega
section
variable {n s fuel : Nat} {X : Ends33} {bs : List Branch} {fl : List Letter}
theorem MS.run (h : MS n s X bs fl) (hn : n ≤ 5) (hs : s ≤ 99) (hf : 1000000 < fuel) : Ok (cascade_Settle fuel (⟨bs, fl⟩ : Cascade)) fun c => Run33 bs fl (c.branches, c.flight) := by
  have h3 := h.small' hn hs
  have hm := h.meas
  unfold cascade_Settle
  dsimp only
  rw [copied33 (by omega) (by omega), Option.bind_some]
  dsimp only
  refine (news33 (by omega) (by omega)).bind fun r hr => ?_
  refine Ok.bind (Q := fun t => Run33 bs fl t)
    (Ok.run (fun m t => Go.Mine.meas t.1 t.2.1 = m ∧ NewsS t.2.1 t.2.2 ∧ (∃ X', MS n s X' t.1 t.2.1) ∧ ∀ u, Run33 t.1 t.2.1 u → Run33 bs fl u) (m := Go.Mine.meas bs fl) ⟨rfl, hr, ⟨X, h⟩, fun _ h => h⟩ (by omega) ?_) fun t ht => Ok.ret ht
  rintro m ⟨bs1, fl1, r1⟩ ⟨hme, hr1, ⟨X1, h1⟩, hJ⟩
  simp only at hme hr1 h1 hJ ⊢
  unfold cascade_Settle_B1
  refine Ok.iteP (fun h0 => ?_) fun h0 => ?_
  · rcases hr1 with ⟨rfl, _⟩ | ⟨k, x, rfl, hx, hw, hfst⟩
    · omega
    refine (h1.receive hn hs hf hx).bind fun t ht => ?_
    obtain ⟨⟨X2, h2⟩, hlt⟩ := h1.news hx hw hn ht
    have h4 := h2.small' hn hs
    refine (news33 (by omega) (by omega)).bind fun r2 hr2 => Ok.ret ⟨_, ?_, rfl, hr2, ⟨X2, h2⟩, fun u hu => hJ u (.step hx hw hfst ht hu)⟩
    simp only; omega
  · exact Ok.ret (hJ _ (.stop (hr1.quiet h0)))
theorem MS.rrun (h : MS n s X bs fl) (hn : n ≤ 5) (hs : s ≤ 99) (hf : 1000000 < fuel) : Ok (ref33_Settle fuel (⟨bs, fl⟩ : Cascade)) fun c => Run33 bs fl (c.branches, c.flight) := by
  have h3 := h.small' hn hs
  have hm := h.meas
  unfold ref33_Settle
  dsimp only
  rw [h.rcopy hn hs hf, Option.bind_some]
  dsimp only
  refine (rnews33 (by omega) (by omega)).bind fun r hr => ?_
  refine Ok.bind (Q := fun t => Run33 bs fl t)
    (Ok.run (fun m t => Go.Mine.meas t.1 t.2.1 = m ∧ NewsS t.2.1 t.2.2 ∧ (∃ X', MS n s X' t.1 t.2.1) ∧ ∀ u, Run33 t.1 t.2.1 u → Run33 bs fl u) (m := Go.Mine.meas bs fl) ⟨rfl, hr, ⟨X, h⟩, fun _ h => h⟩ (by omega) ?_) fun t ht => Ok.ret ht
  rintro m ⟨bs1, fl1, r1⟩ ⟨hme, hr1, ⟨X1, h1⟩, hJ⟩
  simp only at hme hr1 h1 hJ ⊢
  unfold ref33_Settle_B1
  refine Ok.iteP (fun h0 => ?_) fun h0 => ?_
  · rcases hr1 with ⟨rfl, _⟩ | ⟨k, x, rfl, hx, hw, hfst⟩
    · omega
    obtain ⟨r', e1, e2, _⟩ := h1.same hn hs hf (⟨2, 0, (k : Int)⟩ : Shock)
    rw [e2, Option.bind_some]
    obtain ⟨r'', e3, hR⟩ := h1.stepReceive (p := 0) hn hs hf hx
    rw [e1] at e3
    cases e3
    rcases hR with ⟨_, hw2⟩ | ⟨_, ht⟩
    · rw [hw] at hw2; cases hw2
    obtain ⟨⟨X2, h2⟩, hlt⟩ := h1.news hx hw hn ht
    have h4 : r'.1.branches.length ≤ 1000 ∧ r'.1.flight.length ≤ 1000 := h2.small' hn hs
    refine (rnews33 (by omega) (by omega)).bind fun r2 hr2 => Ok.ret ⟨_, ?_, rfl, hr2, ⟨X2, h2⟩, fun u hu => hJ u (.step hx hw hfst ht hu)⟩
    simp only at hlt ⊢; omega
  · exact Ok.ret (hJ _ (.stop (hr1.quiet h0)))
end
theorem same33_ok {n s fuel : Nat} {X : Ends33} {c : Cascade} (h : MS n s X c.branches c.flight) (hn : n ≤ 5) (hs : s ≤ 99) (hf : 1000000 < fuel) : ref33_Same fuel c c = some true := by
  have h3 := h.small' hn hs
  obtain ⟨bs, fl⟩ := c
  exact same33 hf (by simp only at h3; omega) (by simp only at h3; omega) (fun b hb => by have := h.mem hn hs hb; omega) fun b hb => by have := h.mem hn hs hb; omega
theorem plays33 {c : List Int} {a : Shock} (hc : ∀ x ∈ c, U8 x) : law33_CascadePlays 10000000 c a = some true := by
  refine Ok.eq ?_
  unfold law33_CascadePlays
  rw [awake33, Option.bind_some, if_neg (by decide)]
  refine (Ok.new (by omega) (by omega) hc).bind fun ⟨d, i⟩ hd => ?_
  simp only at hd ⊢
  refine (Ok.next hd (by omega)).bind fun ⟨x, j⟩ ⟨hx0, hx1, hj, _⟩ => ?_
  simp only at hx0 hx1 hj ⊢
  rw [w64_id (by omega) (by omega), new_o, Option.bind_some, rnew_o, Option.bind_some]
  obtain ⟨n, hn⟩ : ∃ n : Nat, 2 + x = n := ⟨(2 + x).toNat, by omega⟩
  have e : new33 (2 + x) = (⟨List.replicate n zb33, []⟩, 0) := by unfold new33; rw [if_pos (by omega), hn]; rfl
  rw [e]
  refine (shocks33 (m := 50) hj (by omega) (by omega) (by omega) (by omega)).bind fun ⟨l, j2⟩ ⟨hl, _⟩ => ?_
  simp only at hl ⊢
  refine (Ok.snoc (by omega)).bind fun l2 hl2 => ?_
  have hll : l2.length ≤ 51 := by rw [hl2]; simp; omega
  unfold law33_CascadePlays_J1
  refine Ok.bind (Q := fun t => Sum.elim (fun t => (t.1, t.2.1) = (t.2.2.1, t.2.2.2) ∧ ∃ X, MS n 60 X t.1 t.2.1) (fun _ => False) t)
    (Ok.for_ l2.length (fun k t => t.2.2.2.2 = (k : Int) ∧ (t.1, t.2.1) = (t.2.2.1, t.2.2.2.1) ∧ ∃ X, MS n k X t.1 t.2.1) ⟨rfl, rfl, _, MS.first⟩ (by omega) ?_) ?_
  · rintro k ⟨bs, fl, bs', fl', z⟩ hk ⟨hz, heq, X, h⟩
    simp only [Prod.mk.injEq] at hz heq h ⊢
    subst hz
    obtain ⟨rfl, rfl⟩ := heq
    unfold law33_CascadePlays_B1
    refine Ok.iteP (fun h1 => ?_) fun h1 => ?_
    · have hk' : k < l2.length := by omega
      refine (Ok.at (by omega) h1).bind fun y hy => ?_
      obtain ⟨r, r1, r2, r3⟩ := h.same (fuel := 10000000) (by omega) (by omega) (by omega) y
      rw [r1, Option.bind_some]
      unfold law33_CascadePlays_J2
      refine (Ok.at (by omega) h1).bind fun y2 hy2 => ?_
      rw [hy] at hy2; cases hy2
      rw [r2, Option.bind_some]
      unfold law33_CascadePlays_J3
      have hself : ref33_Same 10000000 (⟨r.1.branches, r.1.flight⟩ : Cascade) (⟨r.1.branches, r.1.flight⟩ : Cascade) = some true := by
        by_cases h0 : r.2 = 0
        · obtain ⟨X', h'⟩ := r3 h0
          exact same33_ok (c := ⟨r.1.branches, r.1.flight⟩) h' (by omega) (by omega) (by omega)
        · have : r.1 = ⟨[], []⟩ := by
            obtain ⟨zz, z1, _, _⟩ := h.refuse (fuel := 10000000) y
            have r1' := r1
            unfold cascade_Step at r1'
            have hz1 : cascade_refusal 10000000 (⟨bs, fl⟩ : Cascade) (⟨y.kind, y.proc, y.other⟩ : Shock) = some zz := z1
            dsimp only at r1'
            rw [hz1, Option.bind_some] at r1'
            by_cases hzz : zz = 0
            · exfalso
              obtain ⟨q, q1, q2⟩ := h.step (fuel := 10000000) (by omega) (by omega) (by omega) y
              subst hzz
              rw [if_neg (by decide)] at r1'
              refine h0 ?_
              have hlen := h.len
              have h3 := h.small' (by omega) (by omega)
              rw [copied33 (by omega) (by omega), Option.bind_some] at r1'
              unfold cascade_Step_J1 at r1'
              repeat' split at r1'
              all_goals first
                | (obtain ⟨_, _, r1'⟩ := Option.of_bind r1'; obtain ⟨_, _, r1'⟩ := Option.of_bind r1'; rw [← Option.some.inj r1'])
                | (obtain ⟨_, _, r1'⟩ := Option.of_bind r1'; rw [← Option.some.inj r1'])
                | (rw [← Option.some.inj r1'])
            · rw [if_pos (by simpa using hzz)] at r1'
              rw [← Option.some.inj r1']
          rw [this]
          exact same33 (by omega) (by simp) (by simp) (by simp) (by simp)
      rw [hself]
      simp only [bne_self_eq_false, orM_false, Option.bind_some, Bool.not_true]
      rw [if_neg (by decide)]
      refine Ok.iteN (fun h0 => ?_) fun h0 => ?_
      · exact Ok.ret ⟨hk', w64_nat (by omega), ⟨rfl, rfl⟩, X, h.more (by omega)⟩
      · obtain ⟨X', h'⟩ := r3 h0
        have h3 := h'.small' (by omega) (by omega)
        have hq : ∃ q, cascade_Quiet 10000000 (⟨r.1.branches, r.1.flight⟩ : Cascade) = some q ∧ ref33_Quiet 10000000 (⟨r.1.branches, r.1.flight⟩ : Cascade) = some q := by
          obtain ⟨q, q1, q2⟩ := news33 (fuel := 10000000) (bs := r.1.branches) (fl := r.1.flight) (by omega) (by omega)
          obtain ⟨q', q3, q4⟩ := rnews33 (fuel := 10000000) (bs := r.1.branches) (fl := r.1.flight) (by omega) (by omega)
          have := q2.unique q4
          subst this
          refine ⟨decide (q < 0), ?_, ?_⟩
          · unfold cascade_Quiet; dsimp only; rw [q1]; rfl
          · unfold ref33_Quiet; dsimp only; rw [q3]; rfl
        obtain ⟨q, q1, q2⟩ := hq
        rw [q1, Option.bind_some, q2, Option.bind_some]
        simp only [bne_self_eq_false, orM_false]
        rw [lineages33 (by omega) (by omega), Option.bind_some, rlineages33 (by omega) (by omega) (fun b hb => by have := h'.mem (by omega) (by omega) hb; omega), Option.bind_some]
        rw [samelin_refl (by simp; omega) (by simp; omega) (fun l hl => by
          obtain ⟨b, hb, rfl⟩ := List.mem_map.1 hl
          have := h'.mem (by omega) (by omega) hb
          omega)]
        simp only [Option.bind_some, Bool.not_true]
        rw [if_neg (by decide)]
        exact Ok.ret ⟨hk', w64_nat (by omega), ⟨rfl, rfl⟩, X', h'⟩
    · exact Ok.ret ⟨⟨rfl, rfl⟩, X, h.more (by omega)⟩
  · rintro (⟨bs, fl, bs', fl'⟩ | t) ht
    · obtain ⟨heq, X, h⟩ := ht
      simp only [Prod.mk.injEq] at heq h
      obtain ⟨rfl, rfl⟩ := heq
      show Ok (law33_CascadePlays_K1 10000000 bs fl bs fl) _
      unfold law33_CascadePlays_K1
      obtain ⟨c1, d1, d2⟩ := h.run (fuel := 10000000) (by omega) (by omega) (by omega)
      obtain ⟨c2, d3, d4⟩ := h.rrun (fuel := 10000000) (by omega) (by omega) (by omega)
      obtain ⟨c3, d5, _, _, ⟨X', h'⟩, _⟩ := h.settle (fuel := 10000000) (by omega) (by omega) (by omega)
      rw [d1] at d5
      cases d5
      have := d2.unique d4
      simp only [Prod.mk.injEq] at this
      have hcc : c1 = c2 := by cases c1; cases c2; simp only at this; rw [this.1, this.2]
      subst hcc
      rw [d1, Option.bind_some, d3, Option.bind_some, same33_ok h' (by omega) (by omega) (by omega)]
      exact Ok.ret rfl
    · exact ht.elim
end Go.Mine
