/- Chapter 32, plain: patterns of lineages, and the law of vectors. -/
import Derived.Test.YtghjjkdfjmnfeaaP32j
set_option linter.unusedSimpArgs false
set_option linter.unusedVariables false
namespace Go.Mine
open Go.RowKit
theorem samevec_o {fuel : Nat} {a : List (List (List Lab))} (h1 : a.length ≤ 1000) (h2 : ∀ q, rl a q ≤ 2000) (h3 : ∀ (q : Nat) (r : List (List Lab)) (k : Nat) (v : List Lab), a[q]? = some r → r[k]? = some v → v.length ≤ 1000000) (hf : 5000000 < fuel) : ref32_SameVectors fuel a a = some true := by
  refine Ok.eq ?_
  unfold ref32_SameVectors
  rw [if_neg (by simp)]
  refine Ok.bind (Ok.for_ a.length (fun k s => s = (k : Int)) (Q := fun t => Sum.elim (fun _ => True) (fun _ => False) t) rfl (by omega) ?_) ?_
  · rintro k s hk rfl
    simp only [ref32_SameVectors_B1]
    refine Ok.iteP (fun hlt => ?_) fun hlt => Ok.ret trivial
    obtain ⟨r, hr, hrl⟩ := row_get (vs := a) (q := k) (by omega)
    have c1 : ati a (k : Int) = some r := by rw [ati_cast]; exact hr
    have hb := h2 k
    rw [c1, Option.bind_some, Option.bind_some, if_neg (by simp)]
    refine Ok.bind (Ok.for_ r.length (fun i s => s = (i : Int)) (Q := fun t => Sum.elim (fun _ => True) (fun _ => False) t) rfl (by omega) ?_) ?_
    · rintro i s hi rfl
      simp only [ref32_SameVectors_B2]
      rw [c1, Option.bind_some]
      refine Ok.iteP (fun hlt2 => ?_) fun hlt2 => Ok.ret trivial
      obtain ⟨v, hv⟩ : ∃ v, r[i]? = some v := ⟨r[i]'(by omega), by simp [show i < r.length by omega]⟩
      have c2 : ati r (i : Int) = some v := by rw [ati_cast]; exact hv
      have hvl := h3 k r i v hr hv
      rw [Option.bind_some, c2, Option.bind_some, Option.bind_some, c2, Option.bind_some, samelabels_eq (by omega) hvl, Option.bind_some]
      rw [if_neg (by simp)]
      exact Ok.ret ⟨by omega, w64_nat (by omega)⟩
    · rintro t ht
      cases t with
      | inr u => exact ht.elim
      | inl u => exact Ok.ret ⟨by omega, w64_nat (by omega)⟩
  · rintro t ht
    cases t with
    | inr u => exact ht.elim
    | inl u => exact Ok.ret rfl
theorem sameint_o {fuel : Nat} {a : List Int} (h : a.length ≤ 1000000) (hf : 5000000 < fuel) : ref16_sameInts fuel a a = some true := by
  refine Ok.eq ?_
  unfold ref16_sameInts
  rw [if_neg (by simp)]
  refine Ok.bind (Ok.for_ a.length (fun k s => s = (k : Int)) (Q := fun t => Sum.elim (fun _ => True) (fun _ => False) t) rfl (by omega) ?_) ?_
  · rintro k s hk rfl
    simp only [ref16_sameInts_B1]
    refine Ok.iteP (fun hlt => ?_) fun hlt => Ok.ret trivial
    refine (Ok.at (by omega) (by omega)).bind fun x hx => (Ok.at (by omega) (by omega)).bind fun y hy => ?_
    obtain rfl : x = y := by rw [hx] at hy; exact Option.some.inj hy
    rw [if_neg (by simp)]
    exact Ok.ret ⟨by omega, w64_nat (by omega)⟩
  · rintro t ht
    cases t with
    | inr u => exact ht.elim
    | inl u => exact Ok.ret rfl
theorem same_o {fuel : Nat} {p : Pat} (h1 : p.lens.length ≤ 1000000) (h2 : p.ckpts.length ≤ 1000000) (h3 : ∀ r ∈ p.ckpts, r.length ≤ 1000000) (h4 : p.arcs.length ≤ 1000000) (hf : 5000000 < fuel) : ref16_Same fuel p p = some true := by
  refine Ok.eq ?_
  unfold ref16_Same
  rw [sameint_o h1 hf, Option.bind_some]
  simp only [Bool.not_true, orM_some, Option.bind_some, bne_self_eq_false, Bool.or_false]
  rw [if_neg (by simp)]
  refine Ok.bind (Ok.for_ p.ckpts.length (fun k s => s = (k : Int)) (Q := fun t => Sum.elim (fun _ => True) (fun _ => False) t) rfl (by omega) ?_) ?_
  · rintro k s hk rfl
    simp only [ref16_Same_B2]
    refine Ok.iteP (fun hlt => ?_) fun hlt => Ok.ret trivial
    refine (Ok.at (by omega) (by omega)).bind fun x hx => (Ok.at (by omega) (by omega)).bind fun y hy => ?_
    obtain rfl : x = y := by rw [hx] at hy; exact Option.some.inj hy
    rw [sameint_o (h3 x (List.mem_of_getElem? hx)) hf, Option.bind_some, if_neg (by simp)]
    exact Ok.ret ⟨by omega, w64_nat (by omega)⟩
  · rintro t ht
    cases t with
    | inr u => exact ht.elim
    | inl u =>
      simp only [Sum.elim_inl, ref16_Same_K1]
      refine Ok.bind (Ok.for_ p.arcs.length (fun k s => s = (k : Int)) (Q := fun t => Sum.elim (fun _ => True) (fun _ => False) t) rfl (by omega) ?_) ?_
      · rintro k s hk rfl
        simp only [ref16_Same_B1]
        refine Ok.iteP (fun hlt => ?_) fun hlt => Ok.ret trivial
        refine (Ok.at (by omega) (by omega)).bind fun x hx => (Ok.at (by omega) (by omega)).bind fun y hy => ?_
        obtain rfl : x = y := by rw [hx] at hy; exact Option.some.inj hy
        rw [if_neg (by simp)]
        exact Ok.ret ⟨by omega, w64_nat (by omega)⟩
      · rintro t ht
        cases t with
        | inr u => exact ht.elim
        | inl u => exact Ok.ret rfl
/-- the arcs of a lineage's first events -/
def arcR (q : Nat) (r : List Evt) (k : Nat) : List Arc := (List.range k).filterMap fun i => match r[i]? with | some e => if e.kind = 1 then some ⟨e.frm, e.sent.index, (q : Int), ((i + 1 : Nat) : Int)⟩ else none | none => none
theorem arcR_succ {q : Nat} {r : List Evt} {k : Nat} {e : Evt} (h : r[k]? = some e) : arcR q r (k + 1) = if e.kind = 1 then arcR q r k ++ [⟨e.frm, e.sent.index, (q : Int), ((k + 1 : Nat) : Int)⟩] else arcR q r k := by
  unfold arcR
  rw [List.range_succ, List.filterMap_append]
  by_cases hk : e.kind = 1
  · simp [h, hk]
  · simp [h, hk]
theorem arcR_le {q : Nat} {r : List Evt} {k : Nat} : (arcR q r k).length ≤ k := by
  unfold arcR
  have := List.length_filterMap_le (fun i => match r[i]? with | some e => if e.kind = 1 then some (⟨e.frm, e.sent.index, (q : Int), ((i + 1 : Nat) : Int)⟩ : Arc) else none | none => none) (List.range k)
  simpa using this
def arcL (l : List (List Evt)) : Nat → List Arc
  | 0 => []
  | q + 1 => arcL l q ++ arcR q (l[q]?.getD []) (rl l q)
theorem arcL_le {l : List (List Evt)} (hs : Small l) : ∀ q, (arcL l q).length ≤ q * 1000
  | 0 => by simp [arcL]
  | q + 1 => by
    have := arcL_le hs q
    have h2 := @arcR_le q (l[q]?.getD []) (rl l q)
    have h3 := hs.2 q
    simp only [arcL, List.length_append]; omega
theorem opat_o {fuel : Nat} {l : List (List Evt)} {ck : List (List Int)} (hs : Small l) (hf : 5000000 < fuel) : Ok (orphan_Pattern fuel l ck) fun r => (ConsP l (fullC l) ∧ r = (⟨fullC l, ck, arcL l l.length⟩, true)) ∨ (¬ ConsP l (fullC l) ∧ r = (⟨[], [], []⟩, false)) := by
  have hs1 := hs.1
  unfold orphan_Pattern
  rw [all_o hs (by omega), Option.bind_some]
  refine (cons_o hs (by omega)).bind fun b hb => Ok.ite (fun hc => Ok.ret (.inr ⟨fun h => ?_, rfl⟩)) fun hc => ?_
  · rw [hb.2 h] at hc; cases hc
  have hcons : ConsP l (fullC l) := hb.1 (by simpa using hc)
  rw [Option.bind_some]
  refine Ok.bind (Ok.for_ l.length (fun k s => s = (arcL l k, (k : Int))) (Q := fun t => t = arcL l l.length) rfl (by omega) ?_) fun t ht => Ok.ret (.inl ⟨hcons, by rw [ht]⟩)
  rintro k s hk rfl
  simp only [orphan_Pattern_B1]
  refine Ok.iteP (fun hlt => ?_) fun hlt => Ok.ret ?_
  · obtain ⟨r, hr, hrl⟩ := row_get (vs := l) (q := k) (by omega)
    have c1 : ati l (k : Int) = some r := by rw [ati_cast]; exact hr
    have hb2 := hs.2 k
    have hle := arcL_le hs k
    rw [c1, Option.bind_some]
    refine Ok.bind (Ok.for_ r.length (fun i s => s = (arcL l k ++ arcR k r i, (i : Int))) (Q := fun t => t = arcL l k ++ arcR k r r.length) (by simp [arcR]) (by omega) ?_) fun t ht => Ok.ret ⟨by omega, ?_⟩
    · rintro i s hi rfl
      simp only [orphan_Pattern_B2]
      refine Ok.iteP (fun hlt2 => ?_) fun hlt2 => Ok.ret ?_
      · refine (Ok.at (by omega) (by omega)).bind fun e he => ?_
        rw [Int.toNat_natCast] at he
        have hle2 := @arcR_le k r i
        refine Ok.iteE (fun h1 => ?_) fun h1 => Ok.ret ⟨by omega, ?_⟩
        · refine (Ok.snoc (by simp; omega)).bind fun y hy => Ok.ret ⟨by omega, ?_⟩
          rw [hy, w64_nat (by omega), arcR_succ he, if_pos h1, List.append_assoc]
        · rw [w64_nat (by omega), arcR_succ he, if_neg h1]
      · obtain rfl : i = r.length := by omega
        rfl
    · rw [ht, w64_nat (by omega)]
      simp only [arcL, hr, Option.getD_some, hrl]
  · obtain rfl : k = l.length := by omega
    rfl
theorem rpat_o {fuel : Nat} {l : List (List Evt)} {ck : List (List Int)} (hs : Small l) (hc1 : ck.length ≤ 1000) (hc2 : ∀ r ∈ ck, r.length ≤ 1000) (hf : 5000000 < fuel) : Ok (ref32_Pattern fuel l ck) fun r => (ConsP l (fullC l) ∧ r = (⟨fullC l, ck, arcL l l.length⟩, true)) ∨ (¬ ConsP l (fullC l) ∧ r = (⟨[], [], []⟩, false)) := by
  have hs1 := hs.1
  unfold ref32_Pattern
  rw [full_o hs (by omega), Option.bind_some]
  refine (rcons_o hs (by omega)).bind fun b hb => Ok.ite (fun hc => Ok.ret (.inr ⟨fun h => ?_, rfl⟩)) fun hc => ?_
  · rw [hb.2 h] at hc; cases hc
  have hcons : ConsP l (fullC l) := hb.1 (by simpa using hc)
  rw [Option.bind_some]
  refine Ok.bind (Ok.for_ ck.length (fun k s => s = (ck.take k, (k : Int))) (Q := fun t => t = ck) (by simp) (by omega) ?_) ?_
  · rintro k s hk rfl
    simp only [ref32_Pattern_B3]
    refine Ok.iteP (fun hlt => ?_) fun hlt => Ok.ret ?_
    · refine (Ok.at (by omega) (by omega)).bind fun r hr => ?_
      rw [Int.toNat_natCast] at hr
      have := hc2 r (List.mem_of_getElem? hr)
      refine (Ok.cat (by simp; omega)).bind fun x hx => (Ok.snoc (by simp; omega)).bind fun y hy => Ok.ret ⟨by omega, ?_⟩
      rw [hy, hx, w64_nat (by omega), List.take_add_one, hr]; rfl
    · exact List.take_of_length_le (by omega)
  · rintro ck2 rfl
    unfold ref32_Pattern_K1
    refine Ok.bind (Ok.for_ l.length (fun k s => s = (arcL l k, (k : Int))) (Q := fun t => t = arcL l l.length) rfl (by omega) ?_) fun t ht => Ok.ret (.inl ⟨hcons, by rw [ht]⟩)
    rintro k s hk rfl
    simp only [ref32_Pattern_B1]
    refine Ok.iteP (fun hlt => ?_) fun hlt => Ok.ret ?_
    · obtain ⟨r, hr, hrl⟩ := row_get (vs := l) (q := k) (by omega)
      have c1 : ati l (k : Int) = some r := by rw [ati_cast]; exact hr
      have hb2 := hs.2 k
      have hle := arcL_le hs k
      refine Ok.bind (Ok.for_ r.length (fun i s => s = (arcL l k ++ arcR k r i, (i : Int))) (Q := fun t => t = arcL l k ++ arcR k r r.length) (by simp [arcR]) (by omega) ?_) fun t ht => Ok.ret ⟨by omega, ?_⟩
      · rintro i s hi rfl
        simp only [ref32_Pattern_B2]
        rw [c1, Option.bind_some]
        refine Ok.iteP (fun hlt2 => ?_) fun hlt2 => Ok.ret ?_
        · rw [Option.bind_some]
          refine (Ok.at (by omega) (by omega)).bind fun e he => ?_
          rw [Int.toNat_natCast] at he
          have hle2 := @arcR_le k r i
          refine Ok.iteE (fun h1 => ?_) fun h1 => Ok.ret ⟨by omega, ?_⟩
          · refine (Ok.snoc (by simp; omega)).bind fun y hy => Ok.ret ⟨by omega, ?_⟩
            rw [hy, w64_nat (by omega), arcR_succ he, if_pos h1, List.append_assoc]
          · rw [w64_nat (by omega), arcR_succ he, if_neg h1]
        · obtain rfl : i = r.length := by omega
          rfl
      · rw [ht, w64_nat (by omega)]
        simp only [arcL, hr, Option.getD_some, hrl]
    · obtain rfl : k = l.length := by omega
      rfl
theorem trk_same {l : List (List Evt)} {r : List (List (List Lab)) × Bool} (hs : Small l) (h : TrackP l r) : ref32_SameVectors 10000000 r.1 r.1 = some true := by
  have hs1 := hs.1
  rcases h with ⟨-, -, -, hv, -⟩ | ⟨-, rfl⟩
  · have hl := hv.len
    refine samevec_o (by omega) (fun q => ?_) (fun q s k v h1 h2 => ?_) (by omega)
    · by_cases hq : q < l.length
      · have := (hv.row q hq).2; have := hs.2 q; omega
      · have : r.1[q]? = none := by simp; omega
        simp [rl, this]
    · obtain ⟨_, hd⟩ := hv.der q s k v h1 h2
      have := hd.len.1; omega
  · exact samevec_o (by simp) (by simp [rl]) (by simp) (by omega)
theorem pat_same {l : List (List Evt)} {ck : List (List Int)} {r : Pat × Bool} (hs : Small l) (hc1 : ck.length ≤ 1000) (hc2 : ∀ r ∈ ck, r.length ≤ 1000) (h : (ConsP l (fullC l) ∧ r = (⟨fullC l, ck, arcL l l.length⟩, true)) ∨ (¬ ConsP l (fullC l) ∧ r = (⟨[], [], []⟩, false))) : ref16_Same 10000000 r.1 r.1 = some true := by
  have hs1 := hs.1
  rcases h with ⟨-, rfl⟩ | ⟨-, rfl⟩
  · exact same_o (by simp only [fullC_length]; omega) (by simp only; omega) (fun x hx => by have := hc2 x hx; omega) (by have := arcL_le hs l.length; simp only; omega) (by omega)
  · exact same_o (by simp) (by simp) (by simp) (by simp) (by omega)
theorem tracks_ok {l : List (List Evt)} {ck : List (List Int)} {c : List Int} (hl : l.length ≤ 140737488351232) (hr : ∀ j, rl l j ≤ 140737488351232) (hl2 : ck.length ≤ 140737488351232) (hr2 : ∀ j, rl ck j ≤ 140737488351232) (hc : ∀ x ∈ c, U8 x) : law32_OrphanTracks 10000000 l ck c = some true := by
  refine Ok.eq ?_
  unfold law32_OrphanTracks
  refine Ok.bind (Ok.run (fun m s => ∃ k : Nat, s.2 = (k : Int) ∧ m + k = 200 + min ck.length 100 ∧ k ≤ ck.length ∧ (ck.length : Int) ≤ s.1 ∧ (k = 0 ∨ k ≤ 101) ∧ s.1 ≤ 140737488351232 + 140737488351232 ∧ ∀ j, j < k → (rl ck j : Int) ≤ s.1) (Q := fun s => s ≤ 100 → ck.length ≤ 1000 ∧ ∀ r ∈ ck, r.length ≤ 1000) (m := 200 + min ck.length 100) ⟨0, rfl, by omega, by omega, by simp, .inl rfl, by simp only; omega, by omega⟩ (by omega) ?_) fun n hn => ?_
  · rintro m ⟨n, i⟩ ⟨k, hk, hm, hkl, hn, hk1, hn2, hj⟩
    simp only at hk hn hn2 hj
    subst hk
    simp only [law32_OrphanTracks_B1, andM_some, Option.bind_some]
    refine Ok.ite (fun hb => ?_) fun hb => Ok.ret fun hs => ⟨by omega, fun r hr3 => ?_⟩
    · simp at hb
      refine (Ok.at (by omega) (by omega)).bind fun r hr3 => Ok.ret ?_
      rw [Int.toNat_natCast] at hr3
      have hrl := rl_some hr3
      have := hr2 k
      refine ⟨m - 1, by omega, k + 1, ?_, by omega, by omega, ?_, .inr (by omega), ?_, fun j hj2 => ?_⟩
      · exact w64_nat (by omega)
      · simp only; rw [w64_id (by omega) (by omega)]; omega
      · simp only; rw [w64_id (by omega) (by omega)]; omega
      · simp only; rw [w64_id (by omega) (by omega)]
        by_cases e : j = k
        · subst e; omega
        · have := hj j (by omega); omega
    · simp at hb
      obtain ⟨j, hj3, e⟩ := List.getElem_of_mem hr3
      have e1 : rl ck j = r.length := rl_some (by simp [hj3, e])
      have hk3 : ¬ (k < ck.length) := fun h3 => by have := hb h3; omega
      have := hj j (by omega)
      omega
  · unfold law32_OrphanTracks_K1
    rw [awake32, Option.bind_some]
    obtain ⟨s, hs, hs2⟩ := size_o (fuel := 10000000) hl hr (by omega)
    simp only [hs, Option.bind_some, Bool.not_true, orM_false, orM_some]
    refine Ok.ite (fun hb => Ok.ret hb) fun hb => ?_
    simp at hb
    have hsm := hs2 hb.1
    obtain ⟨k1, k2⟩ := hn hb.2
    refine (scene_o (fuel := 10000000) hc (by omega)).bind fun r ⟨r1, _⟩ => ?_
    refine (track_o hsm (by omega)).bind fun t1 g1 => (rtrack_o hsm (by omega)).bind fun t2 g2 => (track_o r1 (by omega)).bind fun t3 g3 => (rtrack_o r1 (by omega)).bind fun t4 g4 => ?_
    obtain rfl := g1.unique g2
    obtain rfl := g3.unique g4
    have pu : ∀ {m : List (List Evt)} {x y : Pat × Bool}, ((ConsP m (fullC m) ∧ x = (⟨fullC m, ck, arcL m m.length⟩, true)) ∨ (¬ ConsP m (fullC m) ∧ x = (⟨[], [], []⟩, false))) → ((ConsP m (fullC m) ∧ y = (⟨fullC m, ck, arcL m m.length⟩, true)) ∨ (¬ ConsP m (fullC m) ∧ y = (⟨[], [], []⟩, false))) → x = y := fun h1 h2 => by
      rcases h1 with ⟨a, rfl⟩ | ⟨a, rfl⟩ <;> rcases h2 with ⟨b, rfl⟩ | ⟨b, rfl⟩
      · rfl
      · exact absurd a b
      · exact absurd b a
      · rfl
    refine (opat_o hsm (by omega)).bind fun p1 q1 => (rpat_o hsm k1 k2 (by omega)).bind fun p2 q2 => (opat_o r1 (by omega)).bind fun p3 q3 => (rpat_o r1 k1 k2 (by omega)).bind fun p4 q4 => ?_
    obtain rfl := pu q1 q2
    obtain rfl := pu q3 q4
    rw [trk_same hsm g1, trk_same r1 g3]
    have e1 := pat_same hsm k1 k2 q1
    have e2 := pat_same r1 k1 k2 q3
    rw [show (⟨p1.1.lens, p1.1.ckpts, p1.1.arcs⟩ : Pat) = p1.1 from rfl, show (⟨p3.1.lens, p3.1.ckpts, p3.1.arcs⟩ : Pat) = p3.1 from rfl, e1, e2]
    simp [andM, Ok]
end Go.Mine
