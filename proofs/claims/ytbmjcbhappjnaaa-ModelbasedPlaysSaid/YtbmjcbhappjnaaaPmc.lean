/- Plain: the model-based protocol: messages sent and received, the whole play. -/
import Derived.Test.YtbmjcbhappjnaaaPmb
set_option linter.unusedSimpArgs false
set_option linter.unusedVariables false
namespace Go.Mine
open Go.RowKit
theorem nth_setB {l : List Bool} {q i : Nat} {x : Bool} (h : q < l.length) : nth (l.set q x) i = if i = q then x else nth l i := by
  by_cases e : i = q
  · subst e; simp [nth, h]
  · rw [if_neg e]; simp [nth, List.getElem?_set_ne (Ne.symm e)]
/-- the clocks with one more -/
def addK (κ : Int → Int → List Int) (q k : Int) (c : List Int) : Int → Int → List Int := fun q' k' => if q' = q ∧ k' = k then c else κ q' k'
theorem addK_new {κ : Int → Int → List Int} {q k : Int} {c : List Int} : addK κ q k c q k = c := by simp [addK]
theorem addK_old {κ : Int → Int → List Int} {q k q' k' : Int} {c : List Int} (h : ¬ (q' = q ∧ k' = k)) : addK κ q k c q' k' = κ q' k' := by simp [addK, h]
section
variable {n m W : Nat} {c : C26} {κ : Int → Int → List Int} (h : MbI n m W c κ)
include h
theorem MbI.more : MbI n (m + 1) W c κ := { h with pat := h.pat.more (by omega), fll := by have := h.fll; omega }
theorem MbI.send {q : Nat} (hq : q < n) {t : Int} (ht : 0 ≤ t ∧ t < n) (hne : (q : Int) ≠ t) :
    ∃ κ', MbI n (m + 1) W { c with lens := c.lens.set q (nI c.lens q + 1), act := c.act.set q true, sent := c.sent.set q true, fly := c.fly ++ [⟨c.arcs.length, rwL c.now q⟩], arcs := c.arcs ++ [⟨q, nI c.lens q + 1, t, 0⟩] } κ' := by
  have hck := h.pat.ck; have hl := h.pat.len; have hsl := h.sl; have hal := h.al
  simp only at hck hl
  have hx := nI_get? (x := c.lens) (q := q) (by omega)
  have hpn := h.pat.send hx ht hne
  simp only at hpn
  obtain ⟨x, hxe⟩ : ∃ x, x = nI c.lens q := ⟨_, rfl⟩
  rw [← hxe] at hx hpn ⊢
  have hx0 : 0 ≤ x := by have := (h.pat.nI_rng q).1; simp only at this; omega
  have hset : ∀ j : Nat, nI (c.lens.set q (x + 1)) j = if j = q then x + 1 else nI c.lens j := fun j => by
    have := PatH.set_nI hx (p := ⟨c.lens, c.ckpts, c.arcs⟩) (j : Int) (by omega)
    simp only at this
    rw [this]
    by_cases e : j = q
    · rw [if_pos (by omega), if_pos e]
    · rw [if_neg (by omega), if_neg e]
  have hge : ∀ j : Nat, nI c.lens j ≤ nI (c.lens.set q (x + 1)) j := fun j => by
    rw [hset]; split
    · rename_i e; subst e; omega
    · omega
  obtain ⟨κ', hκ⟩ : ∃ κ', κ' = addK κ q (x + 1) ((κ q x).set q (x + 1)) := ⟨_, rfl⟩
  have hclx := h.clk q hq x hx0 (by omega)
  have hnew : ∀ s : Nat, s < n → nI (κ' q (x + 1)) s = if s = q then x + 1 else nI (κ q x) s := fun s hs => by
    rw [hκ, addK_new]
    have := nI_set (xs := κ q x) (i := (q : Int)) (j := (s : Int)) (x := x + 1) (by omega) (by rw [hclx.1]; omega) (by omega)
    rw [Int.toNat_natCast] at this
    rw [this]
    by_cases e : s = q
    · rw [if_pos (by omega), if_pos e]
    · rw [if_neg (by omega), if_neg e]
  have hold : ∀ (q' : Nat) (k : Int), q' < n → k ≤ nI c.lens q' → κ' q' k = κ q' k := fun q' k hq' hk => by
    rw [hκ, addK_old]
    rintro ⟨e1, e2⟩
    have : q' = q := by omega
    subst this; omega
  have hA := h.pat.arc
  have hG := hpn.g (Nat.le_max_left _ _) (Nat.le_max_right _ _)
  have hclk : ∀ q' : Nat, q' < n → ∀ k, 0 ≤ k → k ≤ nI c.lens q' → ClkS n (c.arcs ++ [⟨q, x + 1, t, 0⟩]) q' k (κ' q' k) := fun q' hq' k h0 h1 => by
    rw [hold q' k hq' h1]
    refine (h.clk q' hq' k h0 h1).old (lens := c.lens) hA h1 (fun a ha h5 => ?_) fun a ha _ => by simp [ha]
    rcases List.mem_append.1 ha with h6 | h6
    · exact .inl h6
    · simp at h6; subst h6; exact absurd rfl h5
  have hck1 : ClkS n (c.arcs ++ [⟨q, x + 1, t, 0⟩]) q (x + 1) (κ' q (x + 1)) := by
    refine ClkS.step hG (c1 := κ q x) (c2 := List.replicate n 0) (by omega) (by omega) (by omega) ?_ ?_ (.inr ⟨fun a ha h5 => ?_, fun s hs => by simp [nI, hs]⟩) ?_ fun s hs => ?_
    · simp only; rw [hset, if_pos rfl]; exact Int.le_refl _
    · have := hclk q hq x hx0 (by omega)
      rw [hold q x hq (by omega)] at this
      rw [show x + 1 - 1 = x by omega]; exact this
    · rintro ⟨e1, e2⟩
      rcases List.mem_append.1 ha with h6 | h6
      · have := (hA a h6).rcv.2; simp only at this; rw [e1] at this; omega
      · simp at h6; subst h6; exact absurd rfl h5
    · rw [hκ, addK_new]; simp [hclx.1]
    · rw [hnew s hs]
      have := (hclx.2 s hs).1
      have hz : nI (List.replicate n (0 : Int)) s = 0 := by simp [nI, hs]
      rw [hz]
      by_cases e : s = q
      · rw [if_pos e, if_pos (by omega)]
      · rw [if_neg e, if_neg (by omega)]; omega
  have hdep : ∀ (q' : Nat) (k : Int) (s : Nat), q' < n → k ≤ nI c.lens q' → dep κ' c.ckpts q' k s = dep κ c.ckpts q' k s := fun q' k s hq' hk => by
    unfold dep; rw [hold q' k hq' hk]
  have hCk : ∀ q' : Nat, q' < n → CkG (rwL c.ckpts q') (nI c.lens q') := fun q' hq' => h.pat.ckI2 hq'
  have hdx : ∀ s : Nat, s < n → dep κ' c.ckpts q (x + 1) s = if s = q then ((rwL c.ckpts q).length : Int) else dep κ c.ckpts q x s := fun s hs => by
    unfold dep
    rw [hnew s hs]
    by_cases e : s = q
    · subst e
      rw [if_pos rfl, if_pos rfl, ivl_all (fun y hy => by have := (hCk s hq).le y hy; omega)]
    · rw [if_neg e, if_neg e]
  refine ⟨κ', hpn, h.vl, h.fl, h.nl, by simp [hsl], by simp [hal], fun q' hq' k h0 h1 => ?_, h.rows, fun q' hq' => ⟨(h.now q' hq').1, fun s hs => ?_⟩, fun q' hq' j v hv => ⟨(h.vec q' hq' j v hv).1, fun s hs => ?_⟩, fun q' hq' => ?_, fun q' hq' => ?_, fun a ha => ?_, fun l hl2 => ?_, ?_, by have := h.fll; simp; omega, fun a ha k h1 h2 h3 s hs => ?_⟩
  · simp only at h1
    rw [hset] at h1
    by_cases e : q' = q
    · subst e
      rw [if_pos rfl] at h1
      rcases Int.lt_or_le x k with h5 | h5
      · have : k = x + 1 := by omega
        subst this; exact hck1
      · exact hclk q' hq' k h0 (by omega)
    · rw [if_neg e] at h1; exact hclk q' hq' k h0 h1
  · simp only
    rw [hset, (h.now q' hq').2 s hs]
    by_cases e : q' = q
    · subst e
      rw [if_pos rfl, hdx s hs, ← hxe]
      split <;> rfl
    · rw [if_neg e, hdep q' _ s hq' (Int.le_refl _)]
  · simp only
    have h1 := (h.vec q' hq' j v hv).2 s hs
    have hj : j < (rwL c.ckpts q').length := by have h9 : j < (rwL c.vecs q').length := (List.getElem?_eq_some_iff.1 hv).1; have := (h.rows q' hq').1; omega
    have hm : nI (rwL c.ckpts q') j ∈ rwL c.ckpts q' := by rw [nI_get hj]; exact List.getElem_mem hj
    rw [hdep q' _ s hq' ((hCk q' hq').le _ hm)]; exact h1
  · simp only
    rw [hset, nth_setB (by omega)]
    by_cases e : q' = q
    · subst e
      rw [if_pos rfl, if_pos rfl]
      exact ⟨fun _ y hy => by have := (hCk q' hq').le y hy; omega, fun _ => rfl⟩
    · rw [if_neg e, if_neg e]; exact h.act q' hq'
  · simp only
    rw [nth_setB (by omega)]
    by_cases e : q' = q
    · subst e
      rw [if_pos rfl]
      exact ⟨fun _ => ⟨⟨q', x + 1, t, 0⟩, by simp, rfl, fun y hy => by have := (hCk q' hq').le y hy; simp only; omega⟩, fun _ => rfl⟩
    · rw [if_neg e, h.sent q' hq']
      constructor
      · rintro ⟨a, ha, h5, h6⟩; exact ⟨a, by simp [ha], h5, h6⟩
      · rintro ⟨a, ha, h5, h6⟩
        rcases List.mem_append.1 ha with h7 | h7
        · exact ⟨a, h7, h5, h6⟩
        · simp at h7; subst h7; simp only at h5; omega
  · rcases List.mem_append.1 ha with h7 | h7
    · exact h.pos a h7
    · simp at h7; subst h7; simp only; omega
  · rcases List.mem_append.1 hl2 with h7 | h7
    · obtain ⟨j, a, g1, g2, g3, g4, g5⟩ := h.fly l h7
      refine ⟨j, a, g1, by simp only; rw [List.getElem?_append_left (List.getElem?_eq_some_iff.1 g2).1]; exact g2, g3, g4, fun s hs => ?_⟩
      have hag := hA a (List.mem_of_getElem? g2)
      obtain ⟨u, hu⟩ := Int.eq_ofNat_of_zero_le hag.fr.1
      have h8 := hag.ix.2; have h9 := hag.fr.2
      simp only at h8 ⊢
      rw [g5 s hs]
      rw [hu] at h8 ⊢
      exact (hdep u _ s (by omega) h8).symm
    · simp at h7; subst h7
      refine ⟨c.arcs.length, ⟨q, x + 1, t, 0⟩, rfl, by simp, rfl, (h.now q hq).1, fun s hs => ?_⟩
      simp only
      rw [hdx s hs, (h.now q hq).2 s hs, ← hxe]
  · simp only
    rw [List.map_append, List.map_cons, List.map_nil, List.nodup_append]
    refine ⟨h.nod, by simp, fun b hb d hd => ?_⟩
    simp at hd; subst hd
    obtain ⟨l, hl2, rfl⟩ := List.mem_map.1 hb
    obtain ⟨j, e, h1, h2, _⟩ := h.fly l hl2
    have := (List.getElem?_eq_some_iff.1 h2).1
    omega
  · simp only at h2 h3 ⊢
    rcases List.mem_append.1 ha with h7 | h7
    · have hag := hA a h7
      have hfx := h.fix a h7
      obtain ⟨u, hu⟩ := Int.eq_ofNat_of_zero_le hag.fr.1
      have h8 := hag.ix; have h9 := hag.fr.2
      simp only at h8
      rw [hu] at h8 h2 h3 hfx ⊢
      have hun : u < n := by omega
      rw [hset] at h2
      by_cases e : u = q
      · subst e
        rw [if_pos rfl] at h2
        rcases Int.lt_or_le x k with h5 | h5
        · have : k = x + 1 := by omega
          subst this
          have m1 := ivl_mono' (r := rwL c.ckpts u) (show a.ix ≤ x by omega)
          have m2 := ivl_mono' (r := rwL c.ckpts u) (show x ≤ x + 1 by omega)
          have h10 := hfx x (by omega) (by omega) (by omega) s hs
          rw [hdx s hs, hdep u a.ix s hun h8.2]
          split
          · rename_i e2
            subst e2
            unfold dep
            rw [h.clk_own hs h8.1 h8.2, ← h3, ivl_all (fun y hy => by have := (hCk s hs).le y hy; omega)]
          · exact h10
        · rw [hdep u k s hun (by omega), hdep u a.ix s hun h8.2]
          exact hfx k h1 (by omega) h3 s hs
      · rw [if_neg e] at h2
        rw [hdep u k s hun h2, hdep u a.ix s hun h8.2]
        exact hfx k h1 h2 h3 s hs
    · simp at h7; subst h7
      simp only at h1 h2 ⊢
      rw [hset, if_pos rfl] at h2
      rw [show k = x + 1 by omega]
theorem MbI.took {pl : Nat} (hp : pl < c.fly.length) : MbI n m W (c.took pl) κ ∧ ∀ l ∈ (c.took pl).fly, l.arc ≠ c.fly[pl].arc := by
  have hsub : ∀ l ∈ c.fly.take pl ++ c.fly.drop (pl + 1), l ∈ c.fly := fun l hl => by
    rcases List.mem_append.1 hl with h5 | h5
    · exact List.mem_of_mem_take h5
    · exact List.mem_of_mem_drop h5
  have hsp : c.fly = c.fly.take pl ++ c.fly[pl] :: c.fly.drop (pl + 1) := by simp
  have hnd := h.nod
  rw [hsp, List.map_append, List.map_cons, List.nodup_append, List.nodup_cons] at hnd
  obtain ⟨n1, ⟨n2, n3⟩, n4⟩ := hnd
  refine ⟨{ h with fly := fun l hl => h.fly l (hsub l hl), nod := ?_, fll := by have := h.fll; simp [C26.took]; omega }, fun l hl e => ?_⟩
  · simp only [C26.took]
    rw [List.map_append, List.nodup_append]
    exact ⟨n1, n3, fun a ha b hb => n4 a ha b (List.mem_cons_of_mem _ hb)⟩
  · rcases List.mem_append.1 hl with h5 | h5
    · exact n4 _ (List.mem_map_of_mem h5) _ (by simp) e
    · exact n2 (e ▸ List.mem_map_of_mem h5)
end
end Go.Mine
