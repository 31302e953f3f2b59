/- Plain: ModelbasedPlays, the law. -/
import Derived.Test.YtbmjcbhappjnaaaA26p
import Derived.Test.YtbmjcbhappjnaaaP26d
set_option linter.unusedSimpArgs false
set_option linter.unusedVariables false
namespace Go.Mine
open Go.RowKit
theorem atn {α : Type} [Inhabited α] {xs : List α} {q : Nat} (h : q < xs.length) : ati xs (q : Int) = some (nth xs q) := by rw [ati_cast, List.getElem?_eq_getElem h, nth_eq h]
theorem catL_nil' {α : Type} {xs : List α} (h : xs.length ≤ 1000000000) : catL [] xs = some xs := by rw [catL_ok (by simpa using h)]; rfl
theorem rmerge_o {a b : List Int} (ha : a.length ≤ 1000) (hb : b.length ≤ 1000) : ref26_Merge 10000000 a b = some (mergeV a b) := by
  unfold ref26_Merge
  rw [catL_nil' (by omega), Option.bind_some]
  refine Ok.eq (Ok.bind (Q := fun x => x = mergeV a b) (Ok.run (fun d s => ∃ k : Nat, s = (mergeV a (b.take k), (k : Int)) ∧ k ≤ a.length ∧ k ≤ b.length ∧ d + k = min a.length b.length) (m := min a.length b.length) ⟨0, by simp [mergeV_nil], by omega, by omega, by omega⟩ (by omega) ?_) fun x hx => by subst hx; exact Ok.ret rfl)
  rintro d s ⟨k, rfl, h1, h2, h3⟩
  simp only [ref26_Merge_B1]
  rw [andM_some, Option.bind_some, mergeV_length]
  refine Ok.ite (fun hc => ?_) fun hc => Ok.ret ?_
  · simp at hc
    rw [atn (xs := mergeV a (b.take k)) (by rw [mergeV_length]; omega), atn (xs := b) (by omega)]
    simp only [Option.bind_some]
    rw [seti_get (by rw [mergeV_length]; omega), Option.bind_some, mergeV_step (by omega) (by omega), w64_nat (by omega)]
    exact Ok.ret ⟨d - 1, by omega, k + 1, rfl, by omega, by omega, by omega⟩
  · simp at hc
    exact mergeV_take (by omega)
theorem rnew_o {a b : List Int} (ha : a.length ≤ 1000) (hb : b.length ≤ 1000) : ref26_New 10000000 a b = some (newV a b) := by
  unfold ref26_New
  refine Ok.eq (Ok.bind (Q := fun t => match t with | .inl _ => newV a b = false | .inr r => r = true ∧ newV a b = true) (Ok.run (fun d s => ∃ k : Nat, s = (k : Int) ∧ k ≤ a.length ∧ k ≤ b.length ∧ d + k = min a.length b.length ∧ ∀ i, i < k → nth b i ≤ nth a i) (m := min a.length b.length) ⟨0, rfl, by omega, by omega, by omega, fun i hi => by omega⟩ (by omega) ?_) fun t ht => ?_)
  · rintro d s ⟨k, rfl, h1, h2, h3, h4⟩
    unfold ref26_New_B1
    rw [andM_some, Option.bind_some]
    refine Ok.ite (fun hc => ?_) fun hc => Ok.ret ?_
    · simp at hc
      rw [atn (xs := b) (by omega), atn (xs := a) (by omega)]
      simp only [Option.bind_some]
      refine Ok.iteP (fun hlt => Ok.ret ⟨rfl, newV_true (by omega) (by omega) hlt⟩) fun hlt => ?_
      rw [w64_nat (by omega)]
      exact Ok.ret ⟨d - 1, by omega, k + 1, rfl, by omega, by omega, by omega, fun i hi => by
        rcases Nat.lt_succ_iff_lt_or_eq.1 hi with h5 | rfl
        · exact h4 i h5
        · omega⟩
    · simp at hc
      exact newV_false fun i hi1 hi2 => h4 i (by omega)
  · cases t with
    | inl u => exact Ok.ret (Eq.symm ht)
    | inr r => obtain ⟨rfl, h⟩ := ht; exact Ok.ret h.symm
theorem rforces_o {rule : Int} {a b : List Int} {sent act : Bool} (ha : a.length ≤ 1000) (hb : b.length ≤ 1000) : ref26_Forces 10000000 rule a b sent act = some (forcesV rule a b sent act) := by
  unfold ref26_Forces forcesV
  by_cases h1 : rule = 1
  · simp [h1]
  · by_cases h2 : rule = 2
    · simp [h2]
    · by_cases h3 : rule = 3
      · simp [h3, rnew_o ha hb, andM_some]
      · by_cases h4 : rule = 4
        · simp [h4, rnew_o ha hb, andM_some]
        · simp [h1, h2, h3, h4]
def flyR (l : List Note) : List Ref26Flying := l.map fun x => ⟨x.arc, x.vec⟩
def rst (c : C26) : List Int × List (List Int) × List Arc × List (List (List Int)) × List (List Bool) × List (List Int) × List Bool × List Ref26Flying := (c.lens, c.ckpts, c.arcs, c.vecs, c.forced, c.now, c.sent, flyR c.fly)
section
variable {c : C26} {n r m : Nat} {rule : Int} (h : c.Inv n r m) (hr : r ≤ 1000) (hm : m ≤ 1000) (hn : n ≤ 5)
include h hr hm hn
omit hm hn in
theorem ractive_o {q : Nat} (hq : q < n) {F : List Ref26Flying} {K : List (List Int)} : ref26_run_active 10000000 q c.lens c.ckpts c.arcs K c.vecs c.forced rule c.now c.sent F = some (nth c.act q) := by
  have h1 := h.lens; have h2 := h.ckpts; have h3 := h.rows q hq
  unfold ref26_run_active
  rw [atn (xs := c.lens) (by omega), Option.bind_some, atn (xs := c.ckpts) (by omega), Option.bind_some, Option.bind_some, w64_id (by omega) (by omega), show ((nth c.ckpts q).length : Int) - 1 = (((nth c.ckpts q).length - 1 : Nat) : Int) by omega, atn (by omega), Option.bind_some]
  have h4 := h.last q hq
  unfold lastC at h4
  congr 1
  cases e : nth c.act q with
  | true => simpa using h4.1 e
  | false =>
    have : ¬ (nth (nth c.ckpts q) ((nth c.ckpts q).length - 1) < nth c.lens q) := fun hlt => by rw [h4.2 hlt] at e; cases e
    simpa using this
theorem rtake_o {q : Nat} (hq : q < n) {b : Bool} {F : List Ref26Flying} {K : List (List Int)} :
    Ok (ref26_run_take 10000000 q b c.lens c.ckpts c.arcs K c.vecs c.forced rule c.now c.sent F) fun s => s = ((c.checkpoint q b).ckpts, (c.checkpoint q b).vecs, (c.checkpoint q b).forced, (c.checkpoint q b).now, (c.checkpoint q b).sent) := by
  have h1 := h.lens; have h2 := h.ckpts; have h3 := h.rows q hq; have h4 := h.vecs; have h5 := h.forced; have h6 := h.now; have h7 := h.sent
  have hv := h.vec q hq
  have hvq := hv.2 q hq
  unfold ref26_run_take
  rw [atn (xs := c.ckpts) (by omega), Option.bind_some, atn (xs := c.lens) (by omega), Option.bind_some]
  refine (Ok.snoc (by omega)).bind fun x1 e1 => ?_
  subst e1
  rw [seti_get (by omega), Option.bind_some, atn (by simp; omega), Option.bind_some, atn (xs := c.vecs) (by omega), Option.bind_some, atn (xs := c.now) (by omega), Option.bind_some, catL_nil' (by have := hv.1; omega), Option.bind_some]
  refine (Ok.cat (by simp; omega)).bind fun x2 e2 => ?_
  subst e2
  rw [seti_get (by omega), Option.bind_some, atn (by simp; omega), Option.bind_some, atn (xs := c.forced) (by omega), Option.bind_some]
  refine (Ok.snoc (by omega)).bind fun x3 e3 => ?_
  subst e3
  rw [seti_get (by omega), Option.bind_some, atn (by simp; omega), Option.bind_some, Option.bind_some, atn (xs := nth c.now q) (by rw [hv.1]; exact hq), Option.bind_some, Option.bind_some, w64_id (by omega) (by omega), seti_get (by rw [hv.1]; exact hq), Option.bind_some, seti_get (by omega), Option.bind_some, atn (xs := c.sent) (by omega), Option.bind_some, seti_get (by omega), Option.bind_some]
  exact Ok.ret rfl
theorem ract_o {a : Deed} : Ok (ref26_run_act 10000000 a c.lens c.ckpts c.arcs [] c.vecs c.forced rule c.now c.sent (flyR c.fly)) fun s => s = rst (c.deed rule a) := by
  have h1 := h.lens; have h2 := h.ckpts; have h4 := h.vecs; have h5 := h.forced; have h6 := h.now; have h7 := h.sent; have h8 := h.act; have h9 := h.arcs; have h10 := h.fly
  have hfl : (flyR c.fly).length = c.fly.length := by simp [flyR]
  unfold ref26_run_act C26.deed
  by_cases k1 : a.kind = 1
  · rw [if_pos (by simpa using k1), if_pos k1]
    unfold C26.send
    rw [orM_some, Option.bind_some, orM_some, Option.bind_some, orM_some, Option.bind_some, orM_some, Option.bind_some]
    by_cases hg : (0 ≤ a.proc ∧ a.proc < n) ∧ (0 ≤ a.other ∧ a.other < n) ∧ a.proc ≠ a.other
    · obtain ⟨⟨g1, g2⟩, ⟨g3, g4⟩, g5⟩ := hg
      obtain ⟨q, hq⟩ := Int.eq_ofNat_of_zero_le g1
      have hqn : q < n := by omega
      have hlo := h.low q hqn
      rw [show (decide (a.proc < 0) || decide ((c.lens.length : Int) ≤ a.proc) || decide (a.other < 0) || decide ((c.lens.length : Int) ≤ a.other) || a.other == a.proc) = false by simp; omega, orM_false, hq, atn (xs := c.lens) (by omega)]
      simp only [Option.bind_some]
      refine Ok.iteP (fun h64 => ?_) fun h64 => ?_
      · rw [if_pos (by simp [h64])]; exact Ok.ret rfl
      · rw [if_neg (by simp; omega), w64_id (by omega) (by omega), seti_get (by omega), Option.bind_some, atn (xs := c.sent) (by omega), Option.bind_some, seti_get (by omega), Option.bind_some, atn (xs := c.now) (by omega), Option.bind_some, catL_nil' (by have := (h.vec q hqn).1; omega), Option.bind_some]
        refine (Ok.snoc (by omega)).bind fun x1 e1 => ?_
        subst e1
        rw [atn (xs := c.lens.set q _) (by simp; omega), Option.bind_some]
        refine (Ok.snoc (by omega)).bind fun x2 e2 => ?_
        subst e2
        refine Ok.ret ?_
        simp only [rst, Int.toNat_natCast, flyR, List.map_append, List.map_cons, List.map_nil]
        rw [show nth (c.lens.set q (nth c.lens q + 1)) q = nth c.lens q + 1 by simp [nth, (show q < c.lens.length by omega)]]
    · rw [show (decide (a.proc < 0) || decide ((c.lens.length : Int) ≤ a.proc) || decide (a.other < 0) || decide ((c.lens.length : Int) ≤ a.other) || a.other == a.proc) = true by
        cases hb : (decide (a.proc < 0) || decide ((c.lens.length : Int) ≤ a.proc) || decide (a.other < 0) || decide ((c.lens.length : Int) ≤ a.other) || a.other == a.proc) with
        | true => rfl
        | false => exfalso; apply hg; simp at hb; omega, orM_true, Option.bind_some, if_pos rfl, if_pos]
      · exact Ok.ret rfl
      · cases hb : (!(decide (0 ≤ a.proc) && decide (a.proc < (c.act.length : Int))) || !(decide (0 ≤ a.other) && decide (a.other < (c.act.length : Int))) || a.proc == a.other || decide (64 ≤ nth c.lens a.proc.toNat)) with
        | true => rfl
        | false => exfalso; apply hg; simp at hb; omega
  rw [if_neg (by simpa using k1), if_neg k1]
  by_cases k2 : a.kind = 2
  · rw [if_pos (by simpa using k2), if_pos k2]
    rw [orM_some, Option.bind_some, hfl]
    unfold C26.receive
    by_cases hg : 0 ≤ a.other ∧ a.other < c.fly.length
    · obtain ⟨k, hk⟩ := Int.eq_ofNat_of_zero_le hg.1
      have hkl : k < c.fly.length := by omega
      have hlet := h.letters _ (nth_mem hkl)
      obtain ⟨j, hj⟩ := Int.eq_ofNat_of_zero_le hlet.1
      have hjl : j < c.arcs.length := by omega
      have hto := h.tos _ (nth_mem hjl)
      obtain ⟨q, hq⟩ := Int.eq_ofNat_of_zero_le hto.1
      have hqn : q < n := by omega
      have hlo := h.low q hqn
      have hfk : ati (flyR c.fly) (k : Int) = some ⟨(nth c.fly k).arc, (nth c.fly k).vec⟩ := by
        rw [ati_cast]; unfold flyR; rw [List.getElem?_map, List.getElem?_eq_getElem hkl, nth_eq hkl]; rfl
      rw [if_neg (by simp; omega), show (decide (a.other < 0) || decide ((c.fly.length : Int) ≤ a.other)) = false by simp; omega, orM_false, hk, hfk]
      simp only [Option.bind_some, Int.toNat_natCast]
      rw [hj, atn (xs := c.arcs) hjl]
      simp only [Option.bind_some, Int.toNat_natCast]
      rw [hq, atn (xs := c.lens) (by omega)]
      simp only [Option.bind_some, Int.toNat_natCast]
      refine Ok.iteP (fun h64 => ?_) fun h64 => ?_
      · rw [if_pos h64]; exact Ok.ret rfl
      rw [if_neg h64]
      rw [takeL_ok (by omega) (by omega), Option.bind_some, w64_id (by omega) (by omega)]
      have hd : dropL (flyR c.fly) ((k : Int) + 1) = some ((flyR c.fly).drop (k + 1)) := by
        unfold dropL; rw [if_pos (by omega)]; congr 1
      rw [hd, Option.bind_some, catL_nil' (by simp; omega), Option.bind_some]
      refine (Ok.cat (by simp; omega)).bind fun F hF => ?_
      have hF2 : F = flyR (c.took k).fly := by rw [hF]; simp [flyR, C26.took, List.map_take, List.map_drop]
      rw [hF2]
      clear hF hF2 hd
      have ht := h.took (pl := k)
      rw [atn (xs := c.now) (by omega), Option.bind_some, atn (xs := c.sent) (by omega), Option.bind_some, ractive_o h hr hqn, Option.bind_some]
      have hvl := (h.vec q hqn).1; have hll := hlet.2.2.1
      rw [rforces_o (by omega) (by omega), Option.bind_some]
      have fin : ∀ (d : C26) (r' : Nat), d.Inv n r' (m + 1) → d.lens = c.lens → d.arcs = c.arcs → d.fly = (c.took k).fly → Ok (ref26_run_act_J1 10000000 (nth c.arcs j) ⟨(j : Int), (nth c.fly k).vec⟩ c.lens c.arcs (flyR (c.took k).fly) d.ckpts d.vecs d.forced d.now d.sent) fun s => s = rst (d.got q j (nth c.fly k).vec) := fun d r' hd e1 e2 e3 => by
        have g1 := hd.now; have g2 := (hd.vec q hqn).1
        unfold ref26_run_act_J1
        rw [hq]
        simp only
        rw [atn (xs := d.now) (by omega), Option.bind_some, rmerge_o (by omega) (by omega), Option.bind_some, Option.bind_some, seti_get (by omega), Option.bind_some, atn (xs := c.lens) (by omega), Option.bind_some, Option.bind_some, w64_id (by omega) (by omega), seti_get (by omega), Option.bind_some, atn (by simp; omega), Option.bind_some, atn (xs := c.arcs) hjl, Option.bind_some, seti_get hjl, Option.bind_some]
        refine Ok.ret ?_
        simp only [rst, C26.got, e1, e2, e3]
        rw [show nth (c.lens.set q (nth c.lens q + 1)) q = nth c.lens q + 1 by simp [nth, (show q < c.lens.length by omega)]]
      unfold C26.raised
      have e1 : (c.took k).now = c.now := rfl
      have e2 : (c.took k).sent = c.sent := rfl
      have e3 : (c.took k).act = c.act := rfl
      rw [e1, e2, e3]
      refine Ok.ite (fun hf => ?_) fun hf => ?_
      · rw [if_pos hf]
        have hc1 := ht.checkpoint (q := q) (f := true) hqn
        refine (rtake_o (rule := rule) h hr hm hn hqn).bind fun s hs => ?_
        subst hs
        exact fin _ _ hc1 rfl rfl rfl
      · rw [if_neg (by simp [hf])]
        exact fin _ _ (ht.mono (Nat.le_refl _) (Nat.le_succ m)) rfl rfl rfl
    · rw [if_pos (by
        cases hb : (decide (a.other < 0) || decide ((c.fly.length : Int) ≤ a.other)) with
        | true => rfl
        | false => exfalso; apply hg; simp at hb; omega)]
      rw [show (decide (a.other < 0) || decide ((c.fly.length : Int) ≤ a.other)) = true by
        cases hb : (decide (a.other < 0) || decide ((c.fly.length : Int) ≤ a.other)) with
        | true => rfl
        | false => exfalso; apply hg; simp at hb; omega, orM_true, Option.bind_some, if_pos rfl]
      exact Ok.ret rfl
  rw [if_neg (by simpa using k2), if_neg k2]
  by_cases k3 : a.kind = 3
  · rw [if_pos (by simpa using k3), if_pos k3]
    rw [andM_some, Option.bind_some]
    unfold C26.tick
    by_cases hg : 0 ≤ a.proc ∧ a.proc < n
    · obtain ⟨q, hq⟩ := Int.eq_ofNat_of_zero_le hg.1
      have hqn : q < n := by omega
      rw [show (decide (0 ≤ a.proc) && decide (a.proc < (c.lens.length : Int))) = true by simp; omega, andM_true, hq, ractive_o h hr hqn]
      simp only [Option.bind_some, Int.toNat_natCast]
      rw [show (decide (0 ≤ (q : Int)) && decide ((q : Int) < (c.act.length : Int))) = true by simp; omega, Bool.true_and]
      refine Ok.ite (fun hb => ?_) fun hb => ?_
      · rw [if_pos hb]
        refine (rtake_o (rule := rule) h hr hm hn hqn).bind fun s hs => ?_
        subst hs
        exact Ok.ret rfl
      · rw [if_neg (by simp [hb])]; exact Ok.ret rfl
    · rw [show (decide (0 ≤ a.proc) && decide (a.proc < (c.lens.length : Int))) = false by
        cases hb : (decide (0 ≤ a.proc) && decide (a.proc < (c.lens.length : Int))) with
        | false => rfl
        | true => exfalso; apply hg; simp at hb; omega, andM_false, Option.bind_some, if_neg (by simp), if_neg]
      · exact Ok.ret rfl
      · intro hb; apply hg; simp at hb; omega
  rw [if_neg (by simpa using k3), if_neg k3]
  exact Ok.ret rfl
end
theorem empty_o {n : Nat} (hn : n ≤ 1000) : Ok (ref25_Empty 10000000 n) fun r => r = ⟨⟨List.replicate n 0, List.replicate n [0], []⟩, [], [], List.replicate n [false]⟩ := by
  unfold ref25_Empty
  rw [mkL_nat (by omega), Option.bind_some]
  refine (Ok.for_ n (fun k s => s = (List.replicate k [0], List.replicate k [false], (k : Int))) (Q := fun s => s = (List.replicate n [0], List.replicate n [false])) rfl (by omega) ?_).bind fun s hs => by subst hs; exact Ok.ret rfl
  rintro k s hk rfl
  simp only [ref25_Empty_B1]
  refine Ok.iteP (fun hlt => ?_) fun hlt => Ok.ret (by rw [show k = n by omega]; rfl)
  refine (Ok.snoc (by simp; omega)).bind fun a ha => (Ok.snoc (by simp; omega)).bind fun b hb => Ok.ret ⟨by omega, ?_⟩
  subst ha hb
  rw [w64_nat (by omega), ← List.replicate_succ', ← List.replicate_succ']
theorem rplay_o {n : Int} {rule : Int} {l : List Deed} : ref26_Play 10000000 n rule l = some ((play26E n rule l).1.hist, (play26E n rule l).2) := by
  unfold ref26_Play play26E
  rw [orM_some, Option.bind_some, orM_some, Option.bind_some, orM_some, Option.bind_some]
  by_cases hb : (decide (n < 1) || decide (5 < n) || decide (rule < 1) || decide (4 < rule)) = true
  · rw [if_pos hb, if_pos hb]; rfl
  rw [if_neg hb, if_neg hb]
  by_cases hl : 200 < l.length
  · rw [if_pos (by simp; omega), if_pos hl]; rfl
  rw [if_neg (by simp; omega), if_neg hl]
  simp at hb
  obtain ⟨k, rfl⟩ := Int.eq_ofNat_of_zero_le (show 0 ≤ n by omega)
  refine Ok.eq ((empty_o (by omega)).bind fun e he => ?_)
  subst he
  rw [mkL_nat (by omega), Option.bind_some]
  unfold ref26_Play_J1
  have hz : ∀ q : Nat, q < k → (List.range k).map (unitV k) = ((List.range q).map (unitV k)) ++ unitV k q :: (List.range' (q + 1) (k - q - 1)).map (unitV k) ∨ True := fun _ _ => .inr trivial
  refine Ok.bind (Q := fun s => s = (List.replicate k [List.replicate k 0], (List.range k).map (unitV k))) (Ok.for_ k (fun q s => s = (List.replicate q [List.replicate k 0], (List.range q).map (unitV k), (q : Int))) rfl (by omega) ?_) fun s hs => ?_
  · rintro q s hq rfl
    simp only [ref26_Play_B2]
    refine Ok.iteP (fun hlt => ?_) fun hlt => Ok.ret (by rw [show q = k by omega]; rfl)
    rw [mkL_nat (by omega), Option.bind_some, atn (by simp; omega), Option.bind_some, seti_get (by simp; omega), Option.bind_some]
    refine (Ok.snoc (by simp; omega)).bind fun x hx => (Ok.snoc (by simp; omega)).bind fun y hy => Ok.ret ⟨by omega, ?_⟩
    subst hx hy
    rw [w64_nat (by omega), ← List.replicate_succ', List.range_succ, List.map_append]; rfl
  subst hs
  simp only [ref26_Play_K1, Int.toNat_natCast]
  have hI : ∀ j, j ≤ l.length → (C26.run k rule (l.take j)).Inv k 1000 1000 := fun j hj => (C26.Inv.run (n := k) (rule := rule) (l := l.take j)).mono (by simp; omega) (by simp; omega)
  refine (Ok.for_ l.length (fun j s => s = ((rst (C26.run k rule (l.take j))).1, (rst (C26.run k rule (l.take j))).2.1, (rst (C26.run k rule (l.take j))).2.2.1, (rst (C26.run k rule (l.take j))).2.2.2.1, (rst (C26.run k rule (l.take j))).2.2.2.2.1, (rst (C26.run k rule (l.take j))).2.2.2.2.2.1, (rst (C26.run k rule (l.take j))).2.2.2.2.2.2.1, (rst (C26.run k rule (l.take j))).2.2.2.2.2.2.2, (j : Int))) (Q := fun s => s = rst (C26.run k rule l)) ?_ (by omega) ?_).bind fun s hs => by subst hs; exact Ok.ret rfl
  · simp [C26.run, C26.start, rst, flyR]
  · rintro j s hj rfl
    simp only [ref26_Play_B1]
    refine Ok.iteP (fun hlt => ?_) fun hlt => Ok.ret (by rw [show j = l.length by omega, List.take_length]; rfl)
    have hjl : j < l.length := by omega
    rw [ati_get hjl, Option.bind_some]
    refine (ract_o (rule := rule) (hI j hj) (by omega) (by omega) (by omega)).bind fun s hs => Ok.ret ⟨hjl, ?_⟩
    have hrun : C26.run k rule (l.take (j + 1)) = (C26.run k rule (l.take j)).deed rule l[j] := foldl_take hjl
    rw [hrun, hs, w64_nat (by omega)]
theorem hist_ok {n : Int} {rule : Int} {l : List Deed} (hl : l.length ≤ 1000000000) : ref25_Same 10000000 (play26E n rule l).1.hist (play26E n rule l).1.hist = some true := by
  unfold play26E
  by_cases hb : (decide (n < 1) || decide (5 < n) || decide (rule < 1) || decide (4 < rule)) = true
  · rw [if_pos hb]; exact samehist_o (by omega) (by simp [HistV.hist, HistV.none]) (by simp [HistV.hist, HistV.none]) (by simp [HistV.hist, HistV.none]) (by simp [HistV.hist, HistV.none]) (by simp [HistV.hist, HistV.none]) (by simp [HistV.hist, HistV.none]) (by simp [HistV.hist, HistV.none]) (by simp [HistV.hist, HistV.none]) (by simp [HistV.hist, HistV.none]) (by simp [HistV.hist, HistV.none])
  rw [if_neg hb]
  by_cases h2 : 200 < l.length
  · rw [if_pos h2]; exact samehist_o (by omega) (by simp [HistV.hist, HistV.none]) (by simp [HistV.hist, HistV.none]) (by simp [HistV.hist, HistV.none]) (by simp [HistV.hist, HistV.none]) (by simp [HistV.hist, HistV.none]) (by simp [HistV.hist, HistV.none]) (by simp [HistV.hist, HistV.none]) (by simp [HistV.hist, HistV.none]) (by simp [HistV.hist, HistV.none]) (by simp [HistV.hist, HistV.none])
  rw [if_neg h2]
  simp at hb
  have hI := (C26.Inv.run (n := n.toNat) (rule := rule) (l := l)).mono (r' := 1000) (m' := 1000) (by omega) (by omega)
  generalize C26.run n.toNat rule l = c at hI
  have g1 := hI.lens; have g2 := hI.ckpts; have g3 := hI.vecs; have g4 := hI.forced; have g5 := hI.arcs
  have hrow : ∀ {α : Type} [Inhabited α] {xs : List (List α)} {x : List α}, xs.length = n.toNat → x ∈ xs → ∃ q, q < n.toNat ∧ x = nth xs q := fun {α} _ {xs x} hx hm => by
    obtain ⟨i, hi, rfl⟩ := List.getElem_of_mem hm
    exact ⟨i, by omega, by rw [nth_eq hi]⟩
  refine samehist_o (by omega) (by simp only [HistV.hist, C26.hist]; omega) (by simp only [HistV.hist, C26.hist]; omega) (fun x hx => ?_) (by simp only [HistV.hist, C26.hist]; omega) (by simp [HistV.hist, C26.hist]) (by simp [HistV.hist, C26.hist]) (by simp only [HistV.hist, C26.hist]; omega) (fun x hx => ?_) (by simp only [HistV.hist, C26.hist]; omega) (fun x hx => ?_)
  · obtain ⟨q, hq, rfl⟩ := hrow g2 hx
    have := hI.rows q hq; omega
  · obtain ⟨q, hq, rfl⟩ := hrow g3 hx
    have := hI.rows q hq
    refine ⟨by omega, fun v hv => ?_⟩
    have := hI.vrow q hq v hv; omega
  · obtain ⟨q, hq, rfl⟩ := hrow g4 hx
    have := hI.rows q hq; omega
theorem clocks_nil {n : Int} {rule : Int} {l : List Deed} : (play26E n rule l).1.clocks = [] := by
  unfold play26E
  split
  · rfl
  · split <;> rfl
theorem mbPlays {a0 a1 : Int} {a2 : List Deed} {a3 : List Int} (h0 : ∀ x ∈ a3, U8 x) : law26_ModelbasedPlays 10000000 a0 a1 a2 a3 = some true := by
  unfold law26_ModelbasedPlays
  rw [show law26_awake 10000000 = some true from awake26i 9999000, Option.bind_some, Bool.not_true, orM_false, Option.bind_some]
  refine Ok.eq (Ok.ite (fun hb => Ok.ret hb) fun hb => ?_)
  simp at hb
  have hl : a2.length ≤ 1000000000 := by omega
  refine (draw_mb h0).bind fun r ⟨n, hn, n2, n4, hr, hrl⟩ => ?_
  have hp : ∀ (n rule : Int) (l : List Deed), l.length ≤ 1000000000 → modelbased_Play 10000000 n rule l = some ((play26E n rule l).1.hist, (play26E n rule l).2) := fun n rule l hl => by
    unfold modelbased_Play; rw [if_pos hl]
  have hc : ∀ (n rule : Int) (l : List Deed), (⟨(⟨(play26E n rule l).1.hist.pat.lens, (play26E n rule l).1.hist.pat.ckpts, (play26E n rule l).1.hist.pat.arcs⟩ : Pat), ([] : List (List Int)), (play26E n rule l).1.hist.vecs, (play26E n rule l).1.hist.forced⟩ : Hist) = (play26E n rule l).1.hist := fun n rule l => by
    have := @clocks_nil n rule l
    unfold HistV.hist
    simp only [this]
  rw [hp _ _ _ hl, Option.bind_some, rplay_o, Option.bind_some, hp _ _ _ (by omega), Option.bind_some, rplay_o, Option.bind_some]
  simp only
  rw [hc, hc, beq_self_eq_true, beq_self_eq_true, andM_some, Option.bind_some, Bool.and_true, andM_true]
  rw [show (⟨(⟨(play26E a0 a1 a2).1.hist.pat.lens, (play26E a0 a1 a2).1.hist.pat.ckpts, (play26E a0 a1 a2).1.hist.pat.arcs⟩ : Pat), (play26E a0 a1 a2).1.hist.clocks, (play26E a0 a1 a2).1.hist.vecs, (play26E a0 a1 a2).1.hist.forced⟩ : Hist) = (play26E a0 a1 a2).1.hist from rfl, hist_ok hl, Option.bind_some, Option.bind_some, andM_true]
  rw [show (⟨(⟨(play26E r.1 r.2.1 r.2.2).1.hist.pat.lens, (play26E r.1 r.2.1 r.2.2).1.hist.pat.ckpts, (play26E r.1 r.2.1 r.2.2).1.hist.pat.arcs⟩ : Pat), (play26E r.1 r.2.1 r.2.2).1.hist.clocks, (play26E r.1 r.2.1 r.2.2).1.hist.vecs, (play26E r.1 r.2.1 r.2.2).1.hist.forced⟩ : Hist) = (play26E r.1 r.2.1 r.2.2).1.hist from rfl, hist_ok (by omega), Option.bind_some, Option.bind_some]
  exact Ok.ret rfl
end Go.Mine
