/- Plain: the model-based protocol: a message received, the whole play. -/
import Derived.Test.YtbmjcbhappjnaaaPmc
set_option linter.unusedSimpArgs false
set_option linter.unusedVariables false
namespace Go.Mine
open Go.RowKit
theorem mergeV_nI {a b : List Int} {s : Nat} (h1 : s < a.length) (h2 : s < b.length) : nI (mergeV a b) s = max (nI a s) (nI b s) := by
  have := nth_mergeV (b := b) h1
  rw [if_pos h2, nth_nI, nth_nI, nth_nI] at this; exact this
section
variable {n m W : Nat} {c : C26} {κ : Int → Int → List Int} (h : MbI n m W c κ)
include h
theorem MbI.got {j q : Nat} {a : Arc} {v : List Int} (hq : q < n) (ha : c.arcs[j]? = some a) (h0 : a.rcv = 0) (hto : a.to = q) (hvl : v.length = n) (hv : ∀ s : Nat, s < n → nI v s = dep κ c.ckpts a.fr a.ix s)
    (hno : ∀ l ∈ c.fly, l.arc ≠ j) (hfd : nth c.sent q = true → mergeV (rwL c.now q) v = rwL c.now q) : ∃ κ', MbI n (m + 1) W (c.got q j v) κ' := by
  have hck := h.pat.ck; have hl := h.pat.len; have hsl := h.sl; have hal := h.al; have hnl := h.nl
  simp only at hck hl
  have hx := nI_get? (x := c.lens) (q := q) (by omega)
  have hpn := h.pat.got hx ha h0 hto
  simp only at hpn
  have hj : j < c.arcs.length := (List.getElem?_eq_some_iff.1 ha).1
  unfold C26.got
  rw [nth_nI, nth_rw, show nth c.arcs j = a by rw [nth_eq hj]; exact (List.getElem?_eq_some_iff.1 ha).2]
  obtain ⟨x, hxe⟩ : ∃ x, x = nI c.lens q := ⟨_, rfl⟩
  rw [← hxe] at hx hpn ⊢
  have hx0 : 0 ≤ x := by have := (h.pat.nI_rng q).1; simp only at this; omega
  have hset : ∀ j : Nat, nI (c.lens.set q (x + 1)) j = if j = q then x + 1 else nI c.lens j := fun j => by
    have := PatH.set_nI hx (p := ⟨c.lens, c.ckpts, c.arcs⟩) (j : Int) (by omega)
    simp only at this
    rw [this]
    by_cases e : j = q
    · rw [if_pos (by omega), if_pos e]
    · rw [if_neg (by omega), if_neg e]
  have hA := h.pat.arc
  have hag := hA a (List.mem_of_getElem? ha)
  obtain ⟨u, hu⟩ := Int.eq_ofNat_of_zero_le hag.fr.1
  have hun : u < n := by have := hag.fr.2; omega
  have hix := hag.ix
  simp only at hix
  rw [hu] at hix
  have huq : u ≠ q := fun e => hag.ne (by rw [hu, hto, e])
  have hclx := h.clk q hq x hx0 (by omega)
  have hcla := h.clk u hun a.ix hix.1 hix.2
  obtain ⟨κ', hκ⟩ : ∃ κ', κ' = addK κ q (x + 1) (((List.range n).map fun s : Nat => max (nI (κ q x) s) (nI (κ u a.ix) s)).set q (x + 1)) := ⟨_, rfl⟩
  have hnew : ∀ s : Nat, s < n → nI (κ' q (x + 1)) s = if s = q then x + 1 else max (nI (κ q x) s) (nI (κ u a.ix) s) := fun s hs => by
    rw [hκ, addK_new]
    have := nI_set (xs := (List.range n).map fun s : Nat => max (nI (κ q x) s) (nI (κ u a.ix) s)) (i := (q : Int)) (j := (s : Int)) (x := x + 1) (by omega) (by simp; omega) (by omega)
    rw [Int.toNat_natCast] at this
    rw [this]
    by_cases e : s = q
    · rw [if_pos (by omega), if_pos e]
    · rw [if_neg (by omega), if_neg e]; simp [nI, hs]
  have hold : ∀ (q' : Nat) (k : Int), q' < n → k ≤ nI c.lens q' → κ' q' k = κ q' k := fun q' k hq' hk => by
    rw [hκ, addK_old]
    rintro ⟨e1, e2⟩
    have : q' = q := by omega
    subst this; omega
  have hG := hpn.g (Nat.le_max_left _ _) (Nat.le_max_right _ _)
  have hclk : ∀ q' : Nat, q' < n → ∀ k, 0 ≤ k → k ≤ nI c.lens q' → ClkS n (c.arcs.set j { a with rcv := x + 1 }) q' k (κ' q' k) := fun q' hq' k h1 h2 => by
    rw [hold q' k hq' h2]
    refine (h.clk q' hq' k h1 h2).old (lens := c.lens) hA h2 (fun b hb h5 => ?_) fun b hb h5 => ?_
    · rcases mem_set hb with h6 | rfl
      · exact .inl h6
      · refine .inr ?_
        show nI c.lens a.to < x + 1
        rw [hto]; omega
    · obtain ⟨i, hi, rfl⟩ := List.getElem_of_mem hb
      by_cases e : i = j
      · subst e
        rw [(List.getElem?_eq_some_iff.1 ha).2] at h5
        exact absurd h0 h5
      · exact List.mem_of_getElem? (i := i) (by rw [getElem?_set' hj, if_neg e]; exact List.getElem?_eq_getElem hi)
  have hck1 : ClkS n (c.arcs.set j { a with rcv := x + 1 }) q (x + 1) (κ' q (x + 1)) := by
    refine ClkS.step hG (c1 := κ q x) (c2 := κ u a.ix) (by omega) (by omega) (by omega) ?_ ?_ (.inl ⟨{ a with rcv := x + 1 }, List.mem_of_getElem? (i := j) (by rw [getElem?_set' hj, if_pos rfl]), by simp only; omega, hto, rfl, ?_⟩) ?_ fun s hs => ?_
    · simp only; rw [hset, if_pos rfl]; exact Int.le_refl _
    · have := hclk q hq x hx0 (by omega)
      rw [hold q x hq (by omega)] at this
      rw [show x + 1 - 1 = x by omega]; exact this
    · have := hclk u hun a.ix hix.1 hix.2
      rw [hold u a.ix hun hix.2] at this
      exact (show ∀ z : Int, z = (u : Int) → ClkS n (c.arcs.set j { a with rcv := x + 1 }) z a.ix (κ u a.ix) from fun z hz => by rw [hz]; exact this) _ hu
    · rw [hκ, addK_new]; simp
    · rw [hnew s hs]
      by_cases e : s = q
      · rw [if_pos e, if_pos (by omega)]
      · rw [if_neg e, if_neg (by omega)]
  have hdep : ∀ (q' : Nat) (k : Int) (s : Nat), q' < n → k ≤ nI c.lens q' → dep κ' c.ckpts q' k s = dep κ c.ckpts q' k s := fun q' k s hq' hk => by
    unfold dep; rw [hold q' k hq' hk]
  have hCk : ∀ q' : Nat, q' < n → CkG (rwL c.ckpts q') (nI c.lens q') := fun q' hq' => h.pat.ckI2 hq'
  have hnq := h.now q hq
  have hmq : ∀ s : Nat, s < n → nI (mergeV (rwL c.now q) v) s = max (nI (rwL c.now q) s) (nI v s) := fun s hs => mergeV_nI (by rw [hnq.1]; exact hs) (by omega)
  have hdx : ∀ s : Nat, s < n → nI (mergeV (rwL c.now q) v) s = dep κ' c.ckpts q (x + 1) s := fun s hs => by
    rw [hmq s hs, hv s hs, hnq.2 s hs, ← hxe, hu]
    unfold dep
    rw [hnew s hs]
    by_cases e : s = q
    · subst e
      rw [if_pos rfl, if_pos rfl, ivl_all (k := x + 1) (fun y hy => by have := (hCk s hq).le y hy; omega)]
      have := @ivl_le (rwL c.ckpts s) (nI (κ u a.ix) s)
      omega
    · rw [if_neg e, if_neg e, ivl_max]
  have hset2 : ∀ b ∈ c.arcs.set j { a with rcv := x + 1 }, ∃ b0 ∈ c.arcs, b.fr = b0.fr ∧ b.ix = b0.ix := fun b hb => by
    rcases mem_set hb with h6 | rfl
    · exact ⟨b, h6, rfl, rfl⟩
    · exact ⟨a, List.mem_of_getElem? ha, rfl, rfl⟩
  refine ⟨κ', hpn, h.vl, h.fl, by simp [hnl], h.sl, by simp [hal], fun q' hq' k h1 h2 => ?_, h.rows, fun q' hq' => ?_, fun q' hq' j v hv => ⟨(h.vec q' hq' j v hv).1, fun s hs => ?_⟩, fun q' hq' => ?_, fun q' hq' => ?_, fun b hb => ?_, fun l hl2 => ?_, h.nod, by have := h.fll; simp; omega, fun b hb k h1 h2 h3 s hs => ?_⟩
  · simp only at h2
    rw [hset] at h2
    by_cases e : q' = q
    · subst e
      rw [if_pos rfl] at h2
      rcases Int.lt_or_le x k with h5 | h5
      · have : k = x + 1 := by omega
        subst this; exact hck1
      · exact hclk q' hq' k h1 (by omega)
    · rw [if_neg e] at h2; exact hclk q' hq' k h1 h2
  · simp only
    rw [rwL_set (by omega) (by omega)]
    by_cases e : q' = q
    · subst e
      rw [if_pos rfl]
      refine ⟨by rw [mergeV_length]; exact hnq.1, fun s hs => ?_⟩
      rw [hdx s hs, hset, if_pos rfl]
      split
      · rename_i e2
        subst e2
        unfold dep
        rw [hnew s hs, if_pos rfl, ivl_all (fun y hy => by have := (hCk s hs).le y hy; omega)]
      · rfl
    · rw [if_neg (by omega)]
      refine ⟨(h.now q' hq').1, fun s hs => ?_⟩
      rw [hset, if_neg e, (h.now q' hq').2 s hs, hdep q' _ s hq' (Int.le_refl _)]
  · simp only
    have h1 := (h.vec q' hq' j v hv).2 s hs
    have hj : j < (rwL c.ckpts q').length := by have h9 : j < (rwL c.vecs q').length := (List.getElem?_eq_some_iff.1 hv).1; have := (h.rows q' hq').1; omega
    have hm : nI (rwL c.ckpts q') j ∈ rwL c.ckpts q' := by rw [nI_get hj]; exact List.getElem_mem hj
    rw [hdep q' _ s hq' ((hCk q' hq').le _ hm)]; exact h1
  · simp only
    rw [hset, nth_setB (by omega)]
    by_cases e : q' = q
    · subst e
      rw [if_pos rfl, if_pos rfl]
      exact ⟨fun _ y hy => by have := (hCk q' hq').le y hy; omega, fun _ => rfl⟩
    · rw [if_neg e, if_neg e]; exact h.act q' hq'
  · simp only
    rw [h.sent q' hq']
    constructor
    · rintro ⟨b, hb, h5, h6⟩
      obtain ⟨i, hi, rfl⟩ := List.getElem_of_mem hb
      by_cases e : i = j
      · subst e
        rw [(List.getElem?_eq_some_iff.1 ha).2] at h5 h6
        exact ⟨{ a with rcv := x + 1 }, List.mem_of_getElem? (i := i) (by rw [getElem?_set' hj, if_pos rfl]), h5, h6⟩
      · exact ⟨c.arcs[i], List.mem_of_getElem? (i := i) (by rw [getElem?_set' hj, if_neg e]; exact List.getElem?_eq_getElem hi), h5, h6⟩
    · rintro ⟨b, hb, h5, h6⟩
      obtain ⟨b0, hb0, e1, e2⟩ := hset2 b hb
      exact ⟨b0, hb0, by rw [← e1]; exact h5, by rw [← e2]; exact h6⟩
  · obtain ⟨b0, hb0, e1, e2⟩ := hset2 b hb
    rw [e2]; exact h.pos b0 hb0
  · obtain ⟨i, b, g1, g2, g3, g4, g5⟩ := h.fly l hl2
    have hne := hno l hl2
    refine ⟨i, b, g1, ?_, g3, g4, fun s hs => ?_⟩
    · simp only
      rw [getElem?_set' hj, if_neg (fun e => hne (by rw [g1, e]))]
      exact g2
    · have hbg := hA b (List.mem_of_getElem? g2)
      obtain ⟨u2, hu2⟩ := Int.eq_ofNat_of_zero_le hbg.fr.1
      have h8 := hbg.ix.2; have h9 := hbg.fr.2
      simp only at h8 ⊢
      rw [g5 s hs]
      rw [hu2] at h8 ⊢
      exact (hdep u2 _ s (by omega) h8).symm
  · obtain ⟨b0, hb0, e1, e2⟩ := hset2 b hb
    simp only at h2 h3 ⊢
    rw [e1, e2] at h3
    rw [e2] at h1
    rw [e1] at h2
    rw [e1, e2]
    have hbg := hA b0 hb0
    have hfx := h.fix b0 hb0
    obtain ⟨u2, hu2⟩ := Int.eq_ofNat_of_zero_le hbg.fr.1
    have h8 := hbg.ix; have h9 := hbg.fr.2
    simp only at h8
    rw [hu2] at h8 h2 h3 hfx ⊢
    have hu2n : u2 < n := by omega
    rw [hset] at h2
    by_cases e : u2 = q
    · subst e
      rw [if_pos rfl] at h2
      rcases Int.lt_or_le x k with h5 | h5
      · have : k = x + 1 := by omega
        subst this
        have hxl : ivl (rwL c.ckpts u2) (x + 1) = (rwL c.ckpts u2).length := ivl_all (fun y hy => by have := (hCk u2 hq).le y hy; omega)
        rw [hxl] at h3
        -- a message was sent in this interval: nothing new came with the one received
        have hs2 : nth c.sent u2 = true := (h.sent u2 hq).2 ⟨b0, hb0, hu2, fun y hy => by
          obtain ⟨i, hi, rfl⟩ := List.getElem_of_mem hy
          exact (ivl_lt (hCk u2 hq).asc hi).2 (by omega)⟩
        have h10 := hdx s hs
        rw [hfd hs2, hnq.2 s hs, ← hxe] at h10
        rw [← h10, hdep u2 b0.ix s hu2n h8.2]
        split
        · rename_i e3
          subst e3
          unfold dep
          rw [h.clk_own hs h8.1 h8.2, ← h3]
        · have m1 := ivl_mono' (r := rwL c.ckpts u2) (show b0.ix ≤ x by omega)
          have m2 := ivl_mono' (r := rwL c.ckpts u2) (show x ≤ x + 1 by omega)
          exact hfx x (by omega) (by omega) (by omega) s hs
      · rw [hdep u2 k s hu2n (by omega), hdep u2 b0.ix s hu2n h8.2]
        exact hfx k h1 (by omega) h3 s hs
    · rw [if_neg e] at h2
      rw [hdep u2 k s hu2n h2, hdep u2 b0.ix s hu2n h8.2]
      exact hfx k h1 h2 h3 s hs
theorem MbI.sendA {a b : Int} : ∃ κ', MbI n (m + 1) (W + 1) (c.send a b) κ' := by
  have hal := h.al
  unfold C26.send
  split
  · exact ⟨κ, h.wide⟩
  · rename_i hg
    simp at hg
    obtain ⟨q, rfl⟩ := Int.eq_ofNat_of_zero_le (show 0 ≤ a by omega)
    obtain ⟨κ', h2⟩ := h.send (q := q) (t := b) (by omega) (by omega) (by omega)
    refine ⟨κ', ?_⟩
    rw [Int.toNat_natCast, nth_nI, nth_rw]
    exact { h2 with pat := h2.pat.wide (by omega) }
theorem MbI.receiveA {rule pl : Int} (hr : 1 ≤ rule ∧ rule ≤ 4) : ∃ κ', MbI n (m + 1) (W + 1) (c.receive rule pl) κ' := by
  have hal := h.al
  unfold C26.receive
  split
  · exact ⟨κ, h.wide⟩
  rename_i hg
  simp at hg
  obtain ⟨k, rfl⟩ := Int.eq_ofNat_of_zero_le hg.1
  have hk : k < c.fly.length := by omega
  rw [Int.toNat_natCast, nth_eq hk]
  obtain ⟨j, a, hja, ha, h0, hvl, hv⟩ := h.fly c.fly[k] (List.getElem_mem hk)
  obtain ⟨h1, hno⟩ := h.took hk
  have hag := h.pat.arc a (List.mem_of_getElem? ha)
  obtain ⟨q, hq⟩ := Int.eq_ofNat_of_zero_le hag.to.1
  have hqn : q < n := by have := hag.to.2; omega
  have hj : j < c.arcs.length := (List.getElem?_eq_some_iff.1 ha).1
  simp only
  rw [hja, Int.toNat_natCast, show nth c.arcs j = a by rw [nth_eq hj]; exact (List.getElem?_eq_some_iff.1 ha).2, hq, Int.toNat_natCast]
  split
  · exact ⟨κ, h.wide⟩
  rw [hja] at hno
  have hsa : nth c.sent q = true → nth c.act q = true := fun hs => by
    obtain ⟨b, hb, h5, h6⟩ := (h.sent q hqn).1 hs
    refine (h.act q hqn).2 fun y hy => ?_
    have h7 := (h.pat.arc b hb).ix.2
    simp only at h7
    rw [h5] at h7
    have := h6 y hy; omega
  unfold C26.raised
  split
  · rename_i hf
    have hact : nth (c.took k).act q = true := by
      have e1 : nth (c.took k).act q = nth c.act q := rfl
      have e2 : nth (c.took k).sent q = nth c.sent q := rfl
      rw [e1]
      unfold forcesV at hf
      rw [e1, e2] at hf
      split at hf
      · exact hf
      · split at hf
        · exact hsa hf
        · split at hf
          · simp at hf; exact hf.1
          · split at hf
            · simp at hf; exact hsa hf.1
            · cases hf
    have h2 := h1.ckpt hqn hact true
    refine h2.got (j := j) (q := q) (a := a) (v := c.fly[k].vec) hqn ha h0 hq hvl (fun s hs => ?_) hno fun hs => ?_
    · -- what the letter tells has not changed
      rw [hv s hs]
      have hu := hag.fr
      obtain ⟨u, hue⟩ := Int.eq_ofNat_of_zero_le hag.fr.1
      have hix := hag.ix
      simp only at hix
      rw [hue] at hix ⊢
      have hcr := h.clk_rng (q := u) (by omega) hix.1 hix.2 hs
      have hck := h.pat.ck
      simp only at hck
      unfold dep C26.checkpoint
      simp only
      have e0 : (c.took k).ckpts = c.ckpts := rfl
      have e1 : (c.took k).lens = c.lens := rfl
      rw [e0, e1, nth_rw, nth_nI, rwL_set (by omega) (by omega)]
      by_cases e : s = q
      · subst e; rw [if_pos rfl, ivl_snoc, if_neg (by omega), Nat.add_zero]
      · rw [if_neg (by omega)]
    · exfalso
      have : nth ((c.took k).checkpoint q true).sent q = false := by
        have hsl := h1.sl
        show nth ((c.took k).sent.set q false) q = false
        rw [nth_setB (by omega), if_pos rfl]
      rw [this] at hs; cases hs
  · rename_i hf
    obtain ⟨κ', h2⟩ := h1.got (j := j) (q := q) (a := a) (v := c.fly[k].vec) hqn ha h0 hq hvl hv hno fun hs => by
      have e1 : nth (c.took k).act q = nth c.act q := rfl
      have e2 : nth (c.took k).sent q = nth c.sent q := rfl
      have e3 : nth (c.took k).now q = rwL c.now q := nth_rw
      rw [e2] at hs
      unfold forcesV at hf
      rw [e1, e2, e3, hs, hsa hs] at hf
      have : newV (rwL c.now q) c.fly[k].vec = false := by
        cases hn : newV (rwL c.now q) c.fly[k].vec with
        | false => rfl
        | true =>
          exfalso; apply hf
          rw [hn]
          rcases (show rule = 1 ∨ rule = 2 ∨ rule = 3 ∨ rule = 4 by omega) with e | e | e | e <;> subst e <;> simp
      unfold newV at this
      have h9 : mergeV (rwL c.now q) c.fly[k].vec = rwL c.now q := by simpa using this
      exact h9
    exact ⟨κ', { h2 with pat := h2.pat.wide (by omega) }⟩
theorem MbI.tickA {q : Int} : ∃ κ', MbI n (m + 1) (W + 1) (c.tick q) κ' := by
  have hal := h.al
  unfold C26.tick
  split
  · rename_i hg
    simp at hg
    exact ⟨κ, (h.ckpt (q := q.toNat) (by omega) hg.2 false).more⟩
  · exact ⟨κ, h.wide⟩
theorem MbI.deed {rule : Int} (hr : 1 ≤ rule ∧ rule ≤ 4) {a : Deed} : ∃ κ', MbI n (m + 1) (W + 1) (c.deed rule a) κ' := by
  unfold C26.deed
  split
  · exact h.sendA
  · split
    · exact h.receiveA hr
    · split
      · exact h.tickA
      · exact ⟨κ, h.wide⟩
end
theorem MbI.run {n : Nat} {rule : Int} (hr : 1 ≤ rule ∧ rule ≤ 4) (l : List Deed) : ∃ κ, MbI n l.length l.length (C26.run n rule l) κ := by
  suffices H : ∀ (l : List Deed) (m W : Nat) (c : C26) (κ : Int → Int → List Int), MbI n m W c κ → ∃ κ', MbI n (m + l.length) (W + l.length) (l.foldl (C26.deed rule) c) κ' by
    obtain ⟨κ, hκ⟩ := H l 0 0 _ _ MbI.start
    exact ⟨κ, by simpa [C26.run] using hκ⟩
  intro l
  induction l with
  | nil => exact fun m W c κ h => ⟨κ, h⟩
  | cons a l ih =>
    intro m W c κ h
    obtain ⟨κ1, h1⟩ := h.deed hr (a := a)
    obtain ⟨κ2, h2⟩ := ih _ _ _ _ h1
    refine ⟨κ2, ?_⟩
    rw [List.length_cons, show m + (l.length + 1) = m + 1 + l.length by omega, show W + (l.length + 1) = W + 1 + l.length by omega]
    exact h2
end Go.Mine
