/- Chapter 32, plain: OrphanClocks, the law. -/
import Derived.Test.YtbmjcbhappjnaaaA32c
import Derived.Test.YtbmjcbhappjnaaaP32u
set_option linter.unusedSimpArgs false
set_option linter.unusedVariables false
namespace Go.Mine
open Go.RowKit
theorem zrow_o {fuel k : Nat} {y : List (List Evt)} {r : List Evt} (hk : k < y.length) (hr : y[k]? = some r) (hrl : r.length ≤ 1000) (hf : 1000000 < fuel) : Ok (iter (fun s => law32_OrphanClocks_B5 fuel (k : Int) s.1 s.2) fuel (y, 0)) fun t => t.length = y.length ∧ ∀ q : Nat, t[q]? = if q = k then some (r.map z0) else y[q]? := by
  refine Ok.for_ r.length (fun j s => s.2 = (j : Int) ∧ s.1.length = y.length ∧ ∃ r', (∀ q : Nat, s.1[q]? = if q = k then some r' else y[q]?) ∧ r'.length = r.length ∧ ∀ i : Nat, r'[i]? = if i < j then (r[i]?).map z0 else r[i]?) ⟨rfl, rfl, r, fun q => by split <;> simp_all, rfl, fun i => by simp⟩ (by omega) ?_
  rintro j ⟨x, i⟩ hj ⟨hi, hxl, r', h1, h2, h3⟩
  simp only at hi hxl h1
  subst hi
  have a1 : ati x (k : Int) = some r' := by rw [ati_cast, h1, if_pos rfl]
  simp only [law32_OrphanClocks_B5]
  rw [a1, Option.bind_some]
  refine Ok.iteP (fun hlt => ?_) fun hlt => Ok.ret ⟨hxl, fun q => ?_⟩
  · simp only [Option.bind_some]
    have hjr : j < r.length := by omega
    have a2 : ati r' (j : Int) = some r[j] := by rw [ati_cast, h3, if_neg (by omega)]; simp [hjr]
    rw [a2, Option.bind_some, seti_get (by omega), Option.bind_some, seti_get (by omega), Option.bind_some]
    rw [show ati (r'.set j { r[j] with inc := 0 }) (j : Int) = some { r[j] with inc := 0 } by rw [ati_cast, getElem?_set' (by omega), if_pos rfl], Option.bind_some]
    rw [seti_get (by simp; omega), Option.bind_some, seti_get (by simp; omega), Option.bind_some]
    refine Ok.ret ⟨by omega, w64_nat (by omega), by simpa using hxl, r'.set j (z0 r[j]), fun q => ?_, by simpa using h2, fun i => ?_⟩
    · simp only [List.set_set]
      rw [getElem?_set' (by omega)]
      split
      · rfl
      · rename_i e; rw [h1, if_neg e]
    · rw [getElem?_set' (by omega), h3]
      by_cases e : i = j
      · subst e; simp [hjr]
      · rw [if_neg e]
        by_cases e2 : i < j
        · rw [if_pos e2, if_pos (by omega)]
        · rw [if_neg e2, if_neg (by omega)]
  · rw [h1]
    split
    · congr 1
      refine List.ext_getElem? fun i => ?_
      rw [h3, List.getElem?_map]
      split
      · rfl
      · rw [List.getElem?_eq_none (by omega)]; rfl
    · rfl
theorem zero_o {fuel : Nat} {l : List (List Evt)} (hs : Small l) (hf : 1000000 < fuel) : Ok (iter (fun s => law32_OrphanClocks_B4 fuel s.1 s.2) fuel (l, 0)) fun t => t = zer l := by
  have hs1 := hs.1
  refine Ok.for_ l.length (fun k s => s.2 = (k : Int) ∧ s.1.length = l.length ∧ ∀ q : Nat, s.1[q]? = if q < k then (l[q]?).map (fun r => r.map z0) else l[q]?) ⟨rfl, rfl, fun q => by simp⟩ (by omega) ?_
  rintro k ⟨x, i⟩ hk ⟨hi, hxl, h1⟩
  simp only at hi hxl h1
  subst hi
  simp only [law32_OrphanClocks_B4]
  refine Ok.iteP (fun hlt => ?_) fun hlt => Ok.ret ?_
  · have hkl : k < l.length := by omega
    have hr : x[k]? = some l[k] := by rw [h1, if_neg (by omega)]; simp [hkl]
    have hrl := hs.2 k
    rw [show rl l k = l[k].length by simp [rl, hkl]] at hrl
    refine (zrow_o (by omega) hr hrl hf).bind fun t ⟨t1, t2⟩ => ?_
    simp only [law32_OrphanClocks_K5]
    refine Ok.ret ⟨by omega, w64_nat (by omega), by simp only; omega, fun q => ?_⟩
    simp only; rw [t2, h1]
    by_cases e : q = k
    · subst e; rw [if_pos rfl, if_pos (by omega)]; simp [hkl]
    · rw [if_neg e]
      by_cases e2 : q < k
      · rw [if_pos e2, if_pos (by omega)]
      · rw [if_neg e2, if_neg (by omega)]
  · refine List.ext_getElem? fun q => ?_
    rw [h1, zer, List.getElem?_map]
    split
    · rfl
    · rw [List.getElem?_eq_none (by omega)]; rfl
theorem awake32c : ∀ k, law32_awake (k + 1000) = some true := fun k => by kernel_rfl
theorem orphanClocks {a0 : List Int} (h0 : ∀ x ∈ a0, U8 x) : law32_OrphanClocks 10000000 a0 = some true := by
  unfold law32_OrphanClocks
  rw [show law32_awake 10000000 = some true from awake32c 9999000, Option.bind_some]
  simp only [Bool.not_true, Bool.false_eq_true, if_false]
  refine Ok.eq ?_
  refine (Ok.new (by omega) (by omega) h0).bind fun c hc => (lineages_g hc (m := 20) (by omega) (by omega)).bind fun r ⟨n, n1, n2, hp, hk, hc2⟩ => ?_
  have hl := hp.len
  have hrg : ∀ x ∈ r.2.1.lens, 0 ≤ x ∧ x ≤ (20 : Int) := fun x hx => by have := hp.rng x hx; omega
  have hs : Small r.1 := hk.lin.small (B := 20) (by omega) hrg (by omega) (by omega)
  have hkz := hk.zer hp
  have hsz : Small (zer r.1) := hkz.lin.small (B := 20) (by omega) hrg (by omega) (by omega)
  refine (zero_o hs (by omega)).bind fun l hl2 => ?_
  subst hl2
  generalize hze : zer r.1 = l at *
  have hz0 : ∀ q k, (ev_ l q k).inc = 0 := by rw [← hze]; exact ev_inc0 rfl
  have hll := hkz.ll
  have hcons := full_cons hp hkz
  obtain ⟨ρ, hρ⟩ := hp.rank
  have hall : AllD l := fun q hq => hd_all hp hkz hρ _ q (rl l q) (by omega) (Nat.le_refl _) (Nat.le_refl _)
  unfold law32_OrphanClocks_K1
  refine (track_o hsz (by omega)).bind fun t ht => ?_
  rcases ht with ⟨_, _, t2, t3, t4⟩ | ⟨hno, _⟩
  · have ht1 := t3.len
    rw [t2]
    simp only [Bool.not_true, orM_false, Option.bind_some]
    refine Ok.iteN (fun hne => absurd (by omega) hne) fun _ => ?_
    refine Ok.bind (Q := fun o => o = .inl ()) ?_ fun o ho => by subst ho; exact Ok.ret rfl
    refine Ok.for_ l.length (fun k s => s.2 = (k : Int) ∧ s.1 = r.2.1.arcs) ⟨rfl, rfl⟩ (by have := hsz.1; omega) ?_
    rintro q ⟨ar, i⟩ hq ⟨hi, har⟩
    simp only at hi har
    subst hi har
    simp only [law32_OrphanClocks_B1]
    refine Ok.iteP (fun hlt => ?_) fun hlt => Ok.ret rfl
    have hqn : q < n := by omega
    obtain ⟨vr, hvr, hvl⟩ := row_get (vs := t.1) (q := q) (by omega)
    obtain ⟨lr, hlr, hlrl⟩ := row_get (vs := l) (q := q) (by omega)
    have b1 : ati t.1 (q : Int) = some vr := by rw [ati_cast]; exact hvr
    have b2 : ati l (q : Int) = some lr := by rw [ati_cast]; exact hlr
    have h4 := t4 q (by omega)
    have hsq := hsz.2 q
    have hrow := hkz.row hqn
    rw [b1, Option.bind_some, b2, Option.bind_some, w64_nat (by omega)]
    refine Ok.iteN (fun hne => absurd (by omega) hne) fun _ => ?_
    refine Ok.bind (Q := fun o => o = .inl ()) ?_ fun o ho => by subst ho; exact Ok.ret ⟨by omega, w64_nat (by omega), rfl⟩
    refine Ok.for_ (rl l q + 1) (fun k s => s = (k : Int)) rfl (by omega) ?_
    rintro k s hk2 rfl
    simp only [law32_OrphanClocks_B2]
    rw [b2, Option.bind_some]
    refine Ok.iteP (fun hlt2 => ?_) fun hlt2 => Ok.ret rfl
    rw [show (⟨r.2.1.lens, r.2.1.ckpts, r.2.1.arcs⟩ : Pat) = r.2.1 from rfl]
    refine (Clock_g hp (by omega) (by omega) (by omega) (q := q) (k := k) (by omega) (by omega) (by omega) (by omega)).bind fun w hw => ?_
    rw [b1, Option.bind_some]
    refine (Ok.at (by omega) (by omega)).bind fun v hv => ?_
    rw [Int.toNat_natCast] at hv
    obtain ⟨hh, hd⟩ := t3.der q vr k v hvr hv
    obtain ⟨c2, hc3, rfl⟩ := hd_clk hp hkz hz0 hd hqn
    obtain rfl := hc3.uniq hw
    have hcl := hw.1
    have hlab : (lab0 c2).length = n := by simp [lab0, hcl]
    refine Ok.bind (Q := fun b => b = false) (Ok.orM (fun _ => Ok.ret (by simp; omega)) (fun e => by simp at e; omega)) fun b hb => ?_
    subst hb
    simp only [Bool.false_eq_true, if_false]
    refine Ok.bind (Q := fun o => o = .inl ()) ?_ fun o ho => by subst ho; exact Ok.ret ⟨by omega, w64_nat (by omega)⟩
    refine Ok.for_ l.length (fun k s => s = (k : Int)) rfl (by omega) ?_
    rintro s s2 hs2 rfl
    simp only [law32_OrphanClocks_B3]
    refine Ok.iteP (fun hlt3 => ?_) fun hlt3 => Ok.ret rfl
    have e3 : ati (lab0 c2) (s : Int) = some ⟨0, nI c2 s⟩ := by
      rw [ati_cast]; simp [lab0, nI, (show s < c2.length by omega)]
    rw [b1, Option.bind_some, show ati vr (k : Int) = some (lab0 c2) by rw [ati_cast]; exact hv, Option.bind_some, e3, Option.bind_some, ati_nI (by omega) (by omega), Option.bind_some]
    simp only [beq_self_eq_true, Bool.and_self, Bool.not_true, Bool.false_eq_true, if_false]
    exact Ok.ret ⟨by omega, w64_nat (by omega)⟩
  · exact absurd ⟨hcons, hall⟩ hno
end Go.Mine
