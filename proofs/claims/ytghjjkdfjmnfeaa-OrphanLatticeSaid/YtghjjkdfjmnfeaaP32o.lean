/- Chapter 32, plain: drawn scenes. -/
import Derived.Test.YtghjjkdfjmnfeaaP32n
set_option linter.unusedSimpArgs false
set_option linter.unusedVariables false
namespace Go.Mine
open Go.RowKit
theorem event_o {fuel : Nat} {c : List Int} {i : Int} (h : COk c i) : Ok (make_Codes_Event fuel c i) fun r => COk c r.2 := by
  unfold make_Codes_Event
  refine (next_o h (by omega)).bind fun r1 ⟨_, _, h1⟩ => (next_o h1 (by omega)).bind fun r2 ⟨_, _, h2⟩ => (int_o h2).bind fun r3 ⟨_, h3⟩ => Ok.iteE (fun _ => ?_) fun _ => Ok.ret h3
  exact (next_o h3 (by omega)).bind fun r4 ⟨_, _, h4⟩ => (next_o h4 (by omega)).bind fun r5 ⟨_, _, h5⟩ => (next_o h5 (by omega)).bind fun r6 ⟨_, _, h6⟩ => (next_o h6 (by omega)).bind fun r7 ⟨_, _, h7⟩ => Ok.ret h7
theorem nI_append {xs : List Int} {x : Int} {j : Nat} : nI (xs ++ [x]) j = if j < xs.length then nI xs j else if j = xs.length then x else 0 := by
  unfold nI
  rw [Int.toNat_natCast]
  by_cases h : j < xs.length
  · rw [List.getElem?_append_left h, if_pos h]
  · rw [List.getElem?_append_right (by omega), if_neg h]
    by_cases e : j = xs.length
    · subst e; simp
    · rw [if_neg e]
      have : ([x] : List Int)[j - xs.length]? = none := by simp; omega
      rw [this]; rfl
theorem cut_o {fuel : Nat} {c : List Int} {i : Int} {p : Pat} {B : Int} (h : COk c i) (hn : p.lens.length ≤ 100) (hr : ∀ x ∈ p.lens, 0 ≤ x ∧ x ≤ B) (hB0 : 0 ≤ B) (hB : B ≤ 1000) (hf : 1000000 < fuel) : Ok (make_Codes_Cut fuel p c i) fun r => r.1.length = p.lens.length ∧ (∀ j : Nat, j < p.lens.length → 0 ≤ nI r.1 j ∧ nI r.1 j ≤ nI p.lens j) ∧ COk c r.2 := by
  unfold make_Codes_Cut
  refine Ok.bind (Ok.for_ p.lens.length (fun k s => s.2.1.length = k ∧ (∀ j : Nat, j < k → 0 ≤ nI s.2.1 j ∧ nI s.2.1 j ≤ nI p.lens j) ∧ COk c s.1 ∧ s.2.2 = (k : Int)) (Q := fun t => t.2.length = p.lens.length ∧ (∀ j : Nat, j < p.lens.length → 0 ≤ nI t.2 j ∧ nI t.2 j ≤ nI p.lens j) ∧ COk c t.1) ⟨rfl, by omega, h, rfl⟩ (by omega) ?_) fun t ht => Ok.ret ht
  rintro k ⟨i1, l, q⟩ hk ⟨h1, h2, h3, h4⟩
  simp only at h1 h2 h3 h4
  subst h4
  simp only [make_Codes_Cut_B1]
  refine Ok.iteP (fun hlt => ?_) fun hlt => ?_
  · refine (Ok.at (by omega) (by omega)).bind fun x hx => (Ok.at (by omega) (by omega)).bind fun x2 hx2 => ?_
    obtain rfl : x = x2 := by rw [hx] at hx2; exact Option.some.inj hx2
    have hxr := hr x (List.mem_of_getElem? hx)
    have hxe : nI p.lens k = x := nI_some hx
    rw [w64_id (i := x + 1) (by omega) (by omega)]
    refine (next_o h3 (by omega)).bind fun y ⟨y0, y1, hy⟩ => (Ok.snoc (by omega)).bind fun l2 e2 => Ok.ret ⟨by omega, by rw [e2]; simp [h1], fun j hj => ?_, hy, w64_nat (by omega)⟩
    simp only; rw [e2, nI_append, w64_id (by omega) (by omega)]
    by_cases e : j < l.length
    · rw [if_pos e]; exact h2 j (by omega)
    · rw [if_neg e, if_pos (by omega)]
      obtain rfl : j = k := by omega
      omega
  · obtain rfl : k = p.lens.length := by omega
    exact Ok.ret ⟨h1, h2, h3⟩
theorem spoil_o {fuel : Nat} {c lens : List Int} {i : Int} {l : List (List Evt)} (h : COk c i) (hl : LinI lens l) (h0 : 0 < l.length) : Ok (make_Codes_SpoilLineages fuel c i l) fun r => LinI lens r.2.2 ∧ COk c r.2.1 := by
  unfold make_Codes_SpoilLineages
  refine (next_o h (by omega)).bind fun q ⟨q0, q1, hq⟩ => (Ok.at q0 q1).bind fun r hr => Ok.iteE (fun _ => Ok.ret ⟨hl, hq⟩) fun hne => ?_
  have again : ∀ {Q : (List (List Evt)) × Int × (List (List Evt)) → Prop} {f : List Evt → Option ((List (List Evt)) × Int × (List (List Evt)))}, Ok (f r) Q → Ok ((ati l q.1).bind f) Q := fun h5 => by
    refine (Ok.at q0 q1).bind fun r2 hr2 => ?_
    obtain rfl : r = r2 := by rw [hr] at hr2; exact Option.some.inj hr2
    exact h5
  refine again ?_
  refine (next_o hq (by omega)).bind fun k ⟨k0, k1, hk⟩ => (next_o hk (by omega)).bind fun o ⟨_, _, ho⟩ => ?_
  have put : ∀ (j : Int) (e : Evt), COk c j → Ok ((seti r k.1 e).bind fun x => (seti l q.1 x).bind fun y => some (y, j, y)) fun r => LinI lens r.2.2 ∧ COk c r.2.1 := fun j e hj => by
    refine (Ok.set k0 k1).bind fun x hx => (Ok.set q0 q1).bind fun y hy => Ok.ret ⟨?_, hj⟩
    simp only; rw [hy]
    exact hl.set (by omega) (by rw [hx, rl_some hr]; simp)
  refine Ok.iteE (fun _ => ?_) fun _ => Ok.iteE (fun _ => ?_) fun _ => Ok.iteE (fun _ => ?_) fun _ => Ok.iteE (fun _ => ?_) fun _ => Ok.iteE (fun _ => ?_) fun _ => Ok.ret ⟨hl, ho⟩
  · exact again ((Ok.at k0 k1).bind fun e he => (Ok.at k0 k1).bind fun e2 he2 => put _ _ ho)
  · exact again ((Ok.at k0 k1).bind fun e he => (next_o ho (by omega)).bind fun z ⟨_, _, hz⟩ => (Ok.at k0 k1).bind fun e2 he2 => put _ _ hz)
  · exact again ((next_o ho (by omega)).bind fun z ⟨_, _, hz⟩ => (Ok.at k0 k1).bind fun e2 he2 => put _ _ hz)
  · exact again ((event_o ho).bind fun z hz => (Ok.at k0 k1).bind fun e2 he2 => put _ _ hz)
  · exact again ((Ok.at k0 k1).bind fun e he => (Ok.at k0 k1).bind fun e2 he2 => put _ _ ho)
/-- lineages that are not too long -/
def Small (l : List (List Evt)) : Prop := l.length ≤ 1000 ∧ ∀ j, rl l j ≤ 1000
theorem LinI.small {lens : List Int} {l : List (List Evt)} {B : Int} (h : LinI lens l) (hn : lens.length ≤ 100) (hr : ∀ x ∈ lens, 0 ≤ x ∧ x ≤ B) (hB0 : 0 ≤ B) (hB : B ≤ 1000) : Small l := by
  refine ⟨by rw [h.len]; omega, fun j => ?_⟩
  by_cases hj : j < l.length
  · have := h.row j hj
    have := nI_nonneg (i := (j : Int)) hr hB0
    omega
  · have : l[j]? = none := by simp; omega
    simp [rl, this]
theorem scene_o {fuel : Nat} {c : List Int} (h : ∀ x ∈ c, U8 x) (hf : 1000000 < fuel) : Ok (law32_scene fuel c) fun r => Small r.1 ∧ r.2.length ≤ 1000 := by
  unfold law32_scene
  obtain ⟨d, e0, h0⟩ := new_ok (fuel := fuel) (n := 200) (by omega) (by omega) h
  rw [e0, Option.bind_some]
  refine (lineages_o (m := 30) h0 (by omega) hf).bind fun r ⟨n, n1, n2, hp, hl, hc⟩ => ?_
  have hlen := hp.len
  refine (cut_o (p := ⟨r.2.1.lens, r.2.1.ckpts, r.2.1.arcs⟩) (B := ((30 : Nat) : Int)) hc (by simp only; omega) hp.rng (by omega) (by omega) hf).bind fun x ⟨x1, x2, hc2⟩ => (next_o hc2 (by omega)).bind fun z ⟨_, _, hz⟩ => ?_
  have key : ∀ j l, COk d j → LinI r.2.1.lens l → Ok (law32_scene_J1 fuel (d, 0) x j l) fun r => Small r.1 ∧ r.2.length ≤ 1000 := fun j l hj hl2 => by
    have hs : Small l := hl2.small (B := ((30 : Nat) : Int)) (by omega) hp.rng (by omega) (by omega)
    simp only at x1
    unfold law32_scene_J1
    refine (next_o hj (by omega)).bind fun y ⟨_, _, hy⟩ => Ok.iteE (fun _ => ?_) fun _ => Ok.iteE (fun _ => ?_) fun _ => Ok.ret ⟨hs, by simp only; omega⟩
    · rw [w64_id (by omega) (by omega)]
      refine (Ok.take (by omega) (by omega)).bind fun u hu => Ok.ret ⟨hs, ?_⟩
      simp only; rw [hu]; simp; omega
    · refine (next_o hy (by omega)).bind fun a ⟨a0, a1, ha⟩ => (int_o ha).bind fun b ⟨_, hb⟩ => (Ok.at a0 a1).bind fun _ _ => (Ok.set a0 a1).bind fun u hu => Ok.ret ⟨hs, ?_⟩
      simp only; rw [hu]; simp; omega
  refine Ok.iteE (fun _ => ?_) fun _ => key _ _ hz hl
  exact (spoil_o hz hl (by rw [hl.len]; omega)).bind fun y ⟨y1, y2⟩ => key _ _ y2 y1
end Go.Mine
