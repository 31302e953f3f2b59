/- Plain: ModelbasedFirst, the law. -/
import Derived.Test.YtbmjcbhappjnaaaA26f
import Derived.Test.YtbmjcbhappjnaaaP26d
set_option linter.unusedSimpArgs false
set_option linter.unusedVariables false
namespace Go.Mine
open Go.RowKit
def someB (f : List (List Bool)) : Bool := f.any fun r => r.any id
theorem someB_iff {f : List (List Bool)} : someB f = true ↔ ∃ r ∈ f, true ∈ r := by simp [someB]
theorem some_o {h : Hist} (hl : h.forced.length ≤ 1000) (hr : ∀ r ∈ h.forced, r.length ≤ 1000) : law26_some 10000000 h = some (someB h.forced) := by
  unfold law26_some
  refine Ok.eq (Ok.bind (Q := fun t => match t with | .inl _ => someB h.forced = false | .inr b => b = true ∧ someB h.forced = true) (Ok.for_ h.forced.length (fun k s => s = (k : Int) ∧ ∀ r ∈ h.forced.take k, true ∉ r) ⟨rfl, by simp⟩ (by omega) ?_) fun t ht => ?_)
  · rintro k s hk ⟨rfl, hn⟩
    simp only [law26_some_B1]
    refine Ok.iteP (fun hlt => ?_) fun hlt => Ok.ret ?_
    · have hkl : k < h.forced.length := by omega
      have hrk := hr _ (List.getElem_mem hkl)
      refine Ok.bind (Q := fun t => match t with | .inl _ => true ∉ h.forced[k] | .inr b => b = true ∧ true ∈ h.forced[k]) (Ok.for_ h.forced[k].length (fun j s => s = (j : Int) ∧ true ∉ h.forced[k].take j) ⟨rfl, by simp⟩ (by omega) ?_) fun t ht => ?_
      · rintro j s hj ⟨rfl, hm⟩
        simp only [law26_some_B2]
        rw [ati_get hkl, Option.bind_some]
        refine Ok.iteP (fun hl2 => ?_) fun hl2 => Ok.ret ?_
        · have hjl : j < h.forced[k].length := by omega
          rw [Option.bind_some, ati_get hjl, Option.bind_some]
          refine Ok.ite (fun hb => Ok.ret ⟨rfl, by rw [← hb]; exact List.getElem_mem hjl⟩) fun hb => Ok.ret ⟨hjl, w64_nat (by omega), ?_⟩
          rw [List.take_add_one, List.getElem?_eq_getElem hjl, List.mem_append]
          rintro (h5 | h5)
          · exact hm h5
          · simp [hb] at h5
        · rw [show j = h.forced[k].length by omega, List.take_length] at hm
          exact hm
      · cases t with
        | inl u =>
          refine Ok.ret ⟨hkl, w64_nat (by omega), fun r hr2 => ?_⟩
          rw [List.take_add_one, List.getElem?_eq_getElem hkl, List.mem_append] at hr2
          rcases hr2 with h5 | h5
          · exact hn r h5
          · simp at h5; subst h5; exact ht
        | inr b =>
          obtain ⟨rfl, h5⟩ := ht
          exact Ok.ret ⟨rfl, someB_iff.2 ⟨_, List.getElem_mem hkl, h5⟩⟩
    · rw [show k = h.forced.length by omega, List.take_length] at hn
      cases e : someB h.forced with
      | false => rfl
      | true => obtain ⟨r, h5, h6⟩ := someB_iff.1 e; exact absurd h6 (hn r h5)
  · cases t with
    | inl u => exact Ok.ret (Eq.symm ht)
    | inr b => obtain ⟨rfl, h5⟩ := ht; exact Ok.ret h5.symm
/-- one rule is at least as strong as another one -/
def Stronger (r' r : Int) : Prop := ∀ (a b : List Int) (s t : Bool), (s = true → t = true) → forcesV r a b s t = true → forcesV r' a b s t = true
theorem str42 : Stronger 2 4 := fun a b s t h hf => by simp [forcesV] at *; exact hf.1
theorem str43 : Stronger 3 4 := fun a b s t h hf => by simp [forcesV] at *; exact ⟨h hf.1, hf.2⟩
theorem str21 : Stronger 1 2 := fun a b s t h hf => by simp [forcesV] at *; exact h hf
theorem str31 : Stronger 1 3 := fun a b s t h hf => by simp [forcesV] at *; exact hf.1
theorem ckpt_some {c : C26} {q : Nat} {f : Bool} (hq : q < c.forced.length) (h : someB c.forced = true ∨ f = true) : someB (c.checkpoint q f).forced = true := by
  show someB (c.forced.set q (nth c.forced q ++ [f])) = true
  rw [someB_iff]
  by_cases hf : f = true
  · exact ⟨_, List.mem_of_getElem? (i := q) (by rw [getElem?_set' hq, if_pos rfl]), by simp [hf]⟩
  · obtain ⟨r, h1, h2⟩ := someB_iff.1 (h.resolve_right hf)
    obtain ⟨i, hi, rfl⟩ := List.getElem_of_mem h1
    by_cases e : i = q
    · subst e
      exact ⟨_, List.mem_of_getElem? (i := i) (by rw [getElem?_set' hq, if_pos rfl]), by rw [nth_eq hi]; simp [h2]⟩
    · exact ⟨_, List.mem_of_getElem? (i := i) (by rw [getElem?_set' hq, if_neg e]; exact List.getElem?_eq_getElem hi), h2⟩
/-- where the stronger rule forces nothing, both do the same -/
theorem deed_same {n m W : Nat} {c : C26} {κ : Int → Int → List Int} (h : MbI n m W c κ) {r r' : Int} (hs : Stronger r' r) {a : Deed} :
    (someB c.forced = true → someB (c.deed r' a).forced = true) ∧ (someB (c.deed r' a).forced = false → c.deed r a = c.deed r' a) := by
  have hfl := h.fl; have hal := h.al
  unfold C26.deed
  by_cases k1 : a.kind = 1
  · rw [if_pos k1, if_pos k1]
    refine ⟨fun h5 => ?_, fun _ => rfl⟩
    unfold C26.send
    split <;> exact h5
  rw [if_neg k1, if_neg k1]
  by_cases k2 : a.kind = 2
  · rw [if_pos k2, if_pos k2]
    unfold C26.receive
    by_cases hg : (decide (a.other < 0) || decide ((c.fly.length : Int) ≤ a.other)) = true
    · rw [if_pos hg, if_pos hg]; exact ⟨fun h5 => h5, fun _ => rfl⟩
    rw [if_neg hg, if_neg hg]
    simp at hg
    obtain ⟨k, hk⟩ := Int.eq_ofNat_of_zero_le hg.1
    have hkl : k < c.fly.length := by omega
    obtain ⟨j, b, hja, hb, _⟩ := h.fly c.fly[k] (List.getElem_mem hkl)
    have hjl : j < c.arcs.length := (List.getElem?_eq_some_iff.1 hb).1
    have hto := (h.pat.arc b (List.mem_of_getElem? hb)).to
    rw [hk, Int.toNat_natCast, nth_eq hkl]
    simp only
    rw [hja, Int.toNat_natCast, show nth c.arcs j = b by rw [nth_eq hjl]; exact (List.getElem?_eq_some_iff.1 hb).2]
    obtain ⟨q, hq⟩ := Int.eq_ofNat_of_zero_le hto.1
    have hqn : q < n := by omega
    rw [hq, Int.toNat_natCast]
    by_cases h64 : 64 ≤ nth c.lens q
    · rw [if_pos h64, if_pos h64]; exact ⟨fun h5 => h5, fun _ => rfl⟩
    rw [if_neg h64, if_neg h64]
    unfold C26.raised
    have hsa : nth (c.took k).sent q = true → nth (c.took k).act q = true := fun hs => by
      obtain ⟨d, hd, h5, h6⟩ := (h.sent q hqn).1 hs
      refine (h.act q hqn).2 fun y hy => ?_
      have h7 := (h.pat.arc d hd).ix.2
      simp only at h7
      rw [h5] at h7
      have := h6 y hy; omega
    have hgot : ∀ d : C26, (d.got q j c.fly[k].vec).forced = d.forced := fun d => rfl
    by_cases hf : forcesV r' (nth (c.took k).now q) c.fly[k].vec (nth (c.took k).sent q) (nth (c.took k).act q) = true
    · rw [if_pos hf]
      have hc : someB ((c.took k).checkpoint q true).forced = true := ckpt_some (show q < (c.took k).forced.length by show q < c.forced.length; omega) (.inr rfl)
      refine ⟨fun _ => by rw [hgot]; exact hc, fun h5 => ?_⟩
      rw [hgot, hc] at h5; cases h5
    · have hf2 : ¬ forcesV r (nth (c.took k).now q) c.fly[k].vec (nth (c.took k).sent q) (nth (c.took k).act q) = true := fun h5 => hf (hs _ _ _ _ hsa h5)
      rw [if_neg hf, if_neg hf2]
      exact ⟨fun h5 => h5, fun _ => rfl⟩
  rw [if_neg k2, if_neg k2]
  refine ⟨fun h5 => ?_, fun _ => rfl⟩
  split
  · unfold C26.tick
    split
    · rename_i hg
      simp at hg
      exact ckpt_some (by omega) (.inl h5)
    · exact h5
  · exact h5
theorem run_snoc {n : Nat} {r : Int} {l : List Deed} {a : Deed} : C26.run n r (l ++ [a]) = (C26.run n r l).deed r a := by simp [C26.run]
theorem run_same {n : Nat} {r r' : Int} (hr : 1 ≤ r' ∧ r' ≤ 4) (hs : Stronger r' r) (l : List Deed) : someB (C26.run n r' l).forced = false → C26.run n r l = C26.run n r' l := by
  have key : ∀ k, k ≤ l.length → someB (C26.run n r' (l.take k)).forced = false → C26.run n r (l.take k) = C26.run n r' (l.take k) := by
    intro k
    induction k with
    | zero => intro _ _; simp [C26.run]
    | succ k ih =>
      intro hk h
      have hkl : k < l.length := by omega
      rw [List.take_succ_eq_append_getElem hkl, run_snoc] at h ⊢
      rw [run_snoc]
      obtain ⟨κ, hM⟩ := MbI.run (n := n) hr (l.take k)
      obtain ⟨g1, g2⟩ := deed_same hM hs (a := l[k])
      have h0 : someB (C26.run n r' (l.take k)).forced = false := by
        cases e : someB (C26.run n r' (l.take k)).forced with
        | false => rfl
        | true => rw [g1 e] at h; cases h
      rw [ih (by omega) h0]
      exact g2 h
  intro h
  have := key l.length (Nat.le_refl _)
  rw [List.take_length] at this
  exact this h
theorem some_imp {n : Nat} {r r' : Int} (hr : 1 ≤ r' ∧ r' ≤ 4) (hs : Stronger r' r) (l : List Deed) (h : someB (C26.run n r l).forced = true) : someB (C26.run n r' l).forced = true := by
  cases e : someB (C26.run n r' l).forced with
  | true => rfl
  | false => rw [run_same hr hs l e, e] at h; cases h
/-- events and messages do not depend on the rule -/
structure SameEv (c d : C26) : Prop where
  lens : c.lens = d.lens
  arcs : c.arcs = d.arcs
  fly : c.fly.map (·.arc) = d.fly.map (·.arc)
  al : c.act.length = d.act.length
theorem SameEv.deed {c d : C26} (h : SameEv c d) (r s : Int) (a : Deed) : SameEv (c.deed r a) (d.deed s a) := by
  obtain ⟨h1, h2, h3, h4⟩ := h
  have hfl : c.fly.length = d.fly.length := by have := congrArg List.length h3; simpa using this
  have hck : ∀ {c d : C26} (q q' : Nat) (f f' : Bool), SameEv c d → SameEv (c.checkpoint q f) d := fun q q' f f' h => ⟨h.lens, h.arcs, h.fly, by show (List.set _ _ _).length = _; simp [h.al]⟩
  have hck2 : ∀ {c d : C26} (q : Nat) (f : Bool), SameEv c d → SameEv c (d.checkpoint q f) := fun q f h => ⟨h.lens, h.arcs, h.fly, by show _ = (List.set _ _ _).length; simp [h.al]⟩
  unfold C26.deed
  by_cases k1 : a.kind = 1
  · rw [if_pos k1, if_pos k1]
    unfold C26.send
    rw [h1, h4]
    split
    · exact ⟨h1, h2, h3, h4⟩
    · exact ⟨rfl, by simp only; rw [h2], by simp only [List.map_append]; rw [h3, h2]; rfl, by simp [h4]⟩
  rw [if_neg k1, if_neg k1]
  by_cases k2 : a.kind = 2
  · rw [if_pos k2, if_pos k2]
    unfold C26.receive
    rw [hfl]
    by_cases hg : (decide (a.other < 0) || decide ((d.fly.length : Int) ≤ a.other)) = true
    · rw [if_pos hg, if_pos hg]; exact ⟨h1, h2, h3, h4⟩
    rw [if_neg hg, if_neg hg]
    simp at hg
    have hk : a.other.toNat < c.fly.length := by omega
    have hk2 : a.other.toNat < d.fly.length := by omega
    have ha : (nth c.fly a.other.toNat).arc = (nth d.fly a.other.toNat).arc := by
      have := congrArg (fun l => l[a.other.toNat]?) h3
      simp only [List.getElem?_map, List.getElem?_eq_getElem hk, List.getElem?_eq_getElem hk2, Option.map_some, Option.some.injEq] at this
      rw [nth_eq hk, nth_eq hk2]; exact this
    simp only
    rw [ha, h2, h1]
    split
    · exact ⟨h1, h2, h3, h4⟩
    · have ht : SameEv (c.took a.other.toNat) (d.took a.other.toNat) := ⟨h1, h2, by simp only [C26.took, List.map_append, List.map_take, List.map_drop]; rw [h3], h4⟩
      generalize c.took a.other.toNat = c' at ht
      generalize d.took a.other.toNat = d' at ht
      have hrs : ∀ (q : Nat) (v v' : List Int), SameEv (c'.raised r q v) (d'.raised s q v') := fun q v v' => by
        unfold C26.raised
        split <;> split
        · exact hck _ 0 _ true (hck2 _ _ ht)
        · exact hck _ 0 _ true ht
        · exact hck2 _ _ ht
        · exact ht
      have hgt : ∀ {c d : C26} (q j : Nat) (v v' : List Int), SameEv c d → SameEv (c.got q j v) (d.got q j v') := fun q j v v' h => ⟨by simp only [C26.got]; rw [h.lens], by simp only [C26.got]; rw [h.arcs, h.lens], h.fly, by simp [C26.got, h.al]⟩
      exact hgt _ _ _ _ (hrs _ _ _)
  rw [if_neg k2, if_neg k2]
  split
  · unfold C26.tick
    split <;> split
    · exact hck _ 0 _ true (hck2 _ _ ⟨h1, h2, h3, h4⟩)
    · exact hck _ 0 _ true ⟨h1, h2, h3, h4⟩
    · exact hck2 _ _ ⟨h1, h2, h3, h4⟩
    · exact ⟨h1, h2, h3, h4⟩
  · exact ⟨h1, h2, h3, h4⟩
theorem SameEv.run (n : Nat) (r s : Int) (l : List Deed) : SameEv (C26.run n r l) (C26.run n s l) := by
  suffices H : ∀ (l : List Deed) (c d : C26), SameEv c d → SameEv (l.foldl (C26.deed r) c) (l.foldl (C26.deed s) d) from H l _ _ ⟨rfl, rfl, rfl, rfl⟩
  intro l
  induction l with
  | nil => exact fun c d h => h
  | cons a l ih => exact fun c d h => ih _ _ (h.deed r s a)
theorem mbFirst {a0 : List Int} (h0 : ∀ x ∈ a0, U8 x) : law26_ModelbasedFirst 10000000 a0 = some true := by
  unfold law26_ModelbasedFirst
  rw [show law26_awake 10000000 = some true from awake26i 9999000, Option.bind_some]
  simp only [Bool.not_true, Bool.false_eq_true, if_false]
  refine Ok.eq ((draw_mb h0).bind fun r ⟨n, hn, n2, n4, hr, hl⟩ => ?_)
  have hm : r.2.2.length ≤ 64 := by omega
  have hn5 : n ≤ 5 := by omega
  have hI : ∀ rule : Int, 1 ≤ rule ∧ rule ≤ 4 → ∃ κ, MbI n r.2.2.length r.2.2.length (C26.run n rule r.2.2) κ := fun rule h => MbI.run (n := n) h r.2.2
  obtain ⟨κ1, hI1⟩ := hI 1 (by omega)
  have hG1 := hI1.patG hm hm
  have hso : ∀ k : Nat, 1 ≤ k → k ≤ 4 → law26_some 10000000 (C26.run n k r.2.2).hist.hist = some (someB (C26.run n k r.2.2).forced) := fun k k1 k2 => by
    obtain ⟨κ, hK⟩ := hI k (by omega)
    have hG := hK.patG hm hm
    have hfl := hK.fl
    refine some_o (h := (C26.run n k r.2.2).hist.hist) (by simp only [C26.hist, HistV.hist]; omega) fun x hx => ?_
    simp only [C26.hist, HistV.hist] at hx
    obtain ⟨q, hq, rfl⟩ := List.getElem_of_mem hx
    have h5 := hK.rows q (by omega)
    have h6 := hG.ckW (q : Int)
    have e1 : ckR ⟨(C26.run n k r.2.2).lens, (C26.run n k r.2.2).ckpts, (C26.run n k r.2.2).arcs⟩ (q : Int) = rwL (C26.run n k r.2.2).ckpts q := rfl
    have e2 : rwL (C26.run n k r.2.2).forced (q : Int) = (C26.run n k r.2.2).forced[q] := by simp [rwL, hq]
    rw [e1] at h6; rw [e2] at h5; omega
  refine Ok.bind (Q := fun t => ∃ H : List Hist, t = .inl H ∧ ∀ k : Nat, 1 ≤ k → k ≤ 4 → H[k]? = some (C26.run n k r.2.2).hist.hist) (Ok.for_ 4 (fun k s => s.1 = r.2.2 ∧ s.2.2 = ((k + 1 : Nat) : Int) ∧ s.2.1.length = 5 ∧ ∀ j : Nat, 1 ≤ j → j ≤ k → s.2.1[j]? = some (C26.run n j r.2.2).hist.hist) ⟨rfl, rfl, by simp, fun j h1 h2 => by omega⟩ (by omega) ?_) fun t ht => ?_
  · rintro k ⟨l, H, i⟩ hk ⟨hl1, hi, hH, hHk⟩
    simp only at hl1 hi hH hHk
    subst hl1; subst hi
    simp only [law26_ModelbasedFirst_B1]
    refine Ok.iteP (fun hlt => ?_) fun hlt => Ok.ret ⟨H, rfl, fun j h1 h2 => hHk j h1 (by omega)⟩
    obtain ⟨κ, hK⟩ := hI ((k + 1 : Nat) : Int) (by omega)
    have hS := SameEv.run n ((k + 1 : Nat) : Int) 1 r.2.2
    rw [hn, play_mb (by omega) (by omega) (by omega) (by omega), Option.bind_some]
    rw [show ((0 : Int) != 0) = false from rfl, orM_false, show (⟨(⟨(C26.run n ((k + 1 : Nat) : Int) r.2.2).hist.hist.pat.lens, (C26.run n ((k + 1 : Nat) : Int) r.2.2).hist.hist.pat.ckpts, (C26.run n ((k + 1 : Nat) : Int) r.2.2).hist.hist.pat.arcs⟩ : Pat), (C26.run n ((k + 1 : Nat) : Int) r.2.2).hist.hist.clocks, (C26.run n ((k + 1 : Nat) : Int) r.2.2).hist.hist.vecs, (C26.run n ((k + 1 : Nat) : Int) r.2.2).hist.hist.forced⟩ : Hist) = (C26.run n ((k + 1 : Nat) : Int) r.2.2).hist.hist from rfl, sound_mb hK hm hm hn5, Option.bind_some, Option.bind_some]
    simp only [Bool.not_true, Bool.false_eq_true, if_false]
    rw [ati_get (by omega), Option.bind_some, seti_get (by omega), Option.bind_some]
    have h1 : (H.set (k + 1) (C26.run n ((k + 1 : Nat) : Int) r.2.2).hist.hist)[1]? = some (C26.run n ((1 : Nat) : Int) r.2.2).hist.hist := by
      rw [getElem?_set' (by omega)]
      by_cases e : 1 = k + 1
      · rw [if_pos e]
        have : k = 0 := by omega
        subst this; rfl
      · rw [if_neg e]; exact hHk 1 (by omega) (by omega)
    have h2 : ati (H.set (k + 1) (C26.run n ((k + 1 : Nat) : Int) r.2.2).hist.hist) 1 = some (C26.run n ((1 : Nat) : Int) r.2.2).hist.hist := by
      rw [show (1 : Int) = ((1 : Nat) : Int) from rfl, ati_cast]; exact h1
    rw [h2, Option.bind_some, Option.bind_some]
    have hpat : (⟨(C26.run n ((k + 1 : Nat) : Int) r.2.2).hist.hist.pat.lens, (C26.run n ((1 : Nat) : Int) r.2.2).hist.hist.pat.ckpts, (C26.run n ((k + 1 : Nat) : Int) r.2.2).hist.hist.pat.arcs⟩ : Pat) = (C26.run n ((1 : Nat) : Int) r.2.2).hist.hist.pat := by
      show (⟨(C26.run n ((k + 1 : Nat) : Int) r.2.2).lens, (C26.run n 1 r.2.2).ckpts, (C26.run n ((k + 1 : Nat) : Int) r.2.2).arcs⟩ : Pat) = ⟨(C26.run n 1 r.2.2).lens, (C26.run n 1 r.2.2).ckpts, (C26.run n 1 r.2.2).arcs⟩
      rw [hS.lens, hS.arcs]
    have g1 := hG1.len; have g2 := hG1.ck; have g3 := hG1.al
    simp only at g1 g2 g3
    rw [hpat, samepat_o (p := (C26.run n ((1 : Nat) : Int) r.2.2).hist.hist.pat) (by omega) (show (C26.run n 1 r.2.2).lens.length ≤ _ by omega) (show (C26.run n 1 r.2.2).ckpts.length ≤ _ by omega) (fun x hx => by have := hG1.wid x hx; omega) (show (C26.run n 1 r.2.2).arcs.length ≤ _ by omega), Option.bind_some]
    simp only [Bool.not_true, Bool.false_eq_true, if_false]
    refine Ok.ret ⟨by omega, rfl, w64_nat (by omega), by simp [hH], fun j j1 j2 => ?_⟩
    show (H.set (k + 1) _)[j]? = _
    rw [getElem?_set' (by omega)]
    by_cases e : j = k + 1
    · rw [if_pos e]; subst e; rfl
    · rw [if_neg e]; exact hHk j j1 (by omega)
  · obtain ⟨H, rfl, hH⟩ := ht
    simp only [Sum.elim_inl, law26_ModelbasedFirst_K1]
    have ha : ∀ k : Nat, 1 ≤ k → k ≤ 4 → ati H (k : Int) = some (C26.run n k r.2.2).hist.hist := fun k k1 k2 => by rw [ati_cast]; exact hH k k1 k2
    rw [show ati H 1 = _ from ha 1 (by omega) (by omega), Option.bind_some, show ati H 2 = _ from ha 2 (by omega) (by omega), Option.bind_some, show ati H 3 = _ from ha 3 (by omega) (by omega), Option.bind_some, show ati H 4 = _ from ha 4 (by omega) (by omega), Option.bind_some]
    rw [hso 1 (by omega) (by omega), Option.bind_some, hso 2 (by omega) (by omega), Option.bind_some, hso 3 (by omega) (by omega), Option.bind_some, hso 4 (by omega) (by omega), Option.bind_some]
    have i42 := some_imp (n := n) (by omega) str42 r.2.2
    have i43 := some_imp (n := n) (by omega) str43 r.2.2
    have i21 := some_imp (n := n) (by omega) str21 r.2.2
    have i31 := some_imp (n := n) (by omega) str31 r.2.2
    simp only [andM_some, orM_some, Option.bind_some]
    refine Ok.ret ?_
    show ((!someB (C26.run n 4 r.2.2).forced || someB (C26.run n 2 r.2.2).forced && someB (C26.run n 3 r.2.2).forced) && ((!someB (C26.run n 2 r.2.2).forced && !someB (C26.run n 3 r.2.2).forced) || someB (C26.run n 1 r.2.2).forced)) = true
    cases e1 : someB (C26.run n 1 r.2.2).forced <;> cases e2 : someB (C26.run n 2 r.2.2).forced <;> cases e3 : someB (C26.run n 3 r.2.2).forced <;> cases e4 : someB (C26.run n 4 r.2.2).forced <;> simp_all
end Go.Mine
