/- ZigzagPaths, plain. -/
import Derived.Test.YtlceljfigccllaaA21la
import Derived.Test.YtlceljfigccllaaP17r
import Derived.Test.YtlceljfigccllaaP21n
import Derived.Test.YtlceljfigccllaaP21p
set_option linter.unusedSimpArgs false
set_option linter.unusedVariables false
namespace Go.Mine
open Go.RowKit
theorem rcycle_g {n B : Nat} {p : Pat} (h : PatG n B p) (hn : n ≤ 5) (hB : B ≤ 64) {a : Pt} (ha : VN n p a) : ref21_Cycle 10000000 p a = some (zpB p a a) := by
  unfold ref21_Cycle
  rw [show (⟨p.lens, p.ckpts, p.arcs⟩ : Pat) = p from rfl, rpath_g h hn hB (a := ⟨a.proc, a.index⟩) (b := ⟨a.proc, a.index⟩) ha ha]; rfl
theorem ruseless_g {n B : Nat} {p : Pat} (h : PatG n B p) (hn : n ≤ 5) (hB : B ≤ 64) : ref21_Useless 10000000 p = some (uslL n p) := by
  have hal := allL_len h hB n
  unfold ref21_Useless
  rw [show (⟨p.lens, p.ckpts, p.arcs⟩ : Pat) = p from rfl, rall_g h hn hB, Option.bind_some]
  refine Ok.eq (Ok.bind (Q := fun t => t = uslL n p) (Ok.for_ (allL n p).length (fun k s => s.2 = (k : Int) ∧ s.1 = ((allL n p).take k).filter fun x => zpB p x x) ⟨rfl, by simp⟩ (by omega) ?_) fun t ht => by subst ht; exact Ok.ret rfl)
  rintro k ⟨L, i⟩ hk2 ⟨hi, hL⟩
  simp only at hi hL
  subst hi
  simp only [ref21_Useless_B1]
  refine Ok.iteP (fun hkl => ?_) (fun hkl => Ok.ret (by rw [hL, show k = (allL n p).length by omega, List.take_length]; rfl))
  have hkl' : k < (allL n p).length := by omega
  have hv := mem_allL.1 (List.getElem_mem hkl')
  have hLl : L.length ≤ k := by rw [hL]; exact Nat.le_trans (List.length_filter_le _ _) (by simp; omega)
  rw [ati_get hkl', Option.bind_some, show (⟨p.lens, p.ckpts, p.arcs⟩ : Pat) = p from rfl, rcycle_g h hn hB hv, Option.bind_some]
  refine Ok.ite (fun hc => ?_) (fun hc => Ok.ret ⟨hkl', w64_nat (by omega), ?_⟩)
  · rw [Option.bind_some]
    refine (Ok.snoc (by omega)).bind fun y hy => Ok.ret ⟨hkl', w64_nat (by omega), ?_⟩
    subst hy
    simp only
    rw [take_filter hkl', hL, if_pos (by exact hc)]
  · simp only
    rw [take_filter hkl', hL, if_neg (by rw [show zpB p (allL n p)[k] (allL n p)[k] = false from hc]; simp), List.append_nil]
theorem rtrackable_g {n B : Nat} {p : Pat} (h : PatG n B p) (hn : n ≤ 5) (hB : B ≤ 64) : Ok (ref21_Trackable 10000000 p) fun b => b = true ↔ TrkP n p := by
  have hal := allL_len h hB n
  unfold ref21_Trackable
  rw [show (⟨p.lens, p.ckpts, p.arcs⟩ : Pat) = p from rfl, rall_g h hn hB, Option.bind_some]
  generalize hA : allL n p = A at *
  have hAv : ∀ x ∈ A, VN n p x := fun x hx => mem_allL.1 (by rw [hA]; exact hx)
  refine Ok.bind (Q := fun t => match t with | .inl _ => ∀ a ∈ A, ∀ b ∈ A, zpath p a b → a.index < (dv p b a.proc : Int) | .inr b => b = false ∧ ¬ TrkP n p) (Ok.for_ A.length (fun k s => s = (k : Int) ∧ ∀ a ∈ A.take k, ∀ b ∈ A, zpath p a b → a.index < (dv p b a.proc : Int)) ⟨rfl, by simp⟩ (by omega) ?_) ?_
  · rintro k s hk ⟨rfl, h1⟩
    unfold ref21_Trackable_B1
    refine Ok.iteP (fun hkl => ?_) (fun hkl => Ok.ret (by rw [show k = A.length by omega, List.take_length] at h1; exact h1))
    have hkl' : k < A.length := by omega
    have hv := hAv A[k] (List.getElem_mem _)
    refine Ok.bind (Q := fun t => match t with | .inl _ => ∀ b ∈ A, zpath p A[k] b → (A[k]).index < (dv p b (A[k]).proc : Int) | .inr b => b = false ∧ ¬ TrkP n p) (Ok.for_ A.length (fun j s => s = (j : Int) ∧ ∀ b ∈ A.take j, zpath p A[k] b → (A[k]).index < (dv p b (A[k]).proc : Int)) ⟨rfl, by simp⟩ (by omega) ?_) ?_
    · rintro j s hj ⟨rfl, h3⟩
      unfold ref21_Trackable_B2
      refine Ok.iteP (fun hjl => ?_) (fun hjl => Ok.ret (by rw [show j = A.length by omega, List.take_length] at h3; exact h3))
      have hjl' : j < A.length := by omega
      have hvj := hAv A[j] (List.getElem_mem _)
      rw [ati_get hkl', ati_get hjl']
      simp only [Option.bind_some, show (⟨p.lens, p.ckpts, p.arcs⟩ : Pat) = p from rfl]
      rw [rpath_g h hn hB hv hvj, rdepends_g h hn hB hv hvj]
      simp only [Option.bind_some, andM_some]
      refine Ok.ite (fun hc => Ok.ret ⟨rfl, fun htr => ?_⟩) (fun hc => Ok.ret ⟨hjl', w64_nat (by omega), fun b hb hz => ?_⟩)
      · simp only [Bool.and_eq_true, Bool.not_eq_true', decide_eq_false_iff_not] at hc
        exact hc.2 (htr _ _ hv hvj (zpB_iff.1 hc.1))
      · rw [mem_take_succ', List.getElem?_eq_getElem hjl', Option.some.injEq] at hb
        rcases hb with h5 | rfl
        · exact h3 b h5 hz
        · rw [zpB_iff.2 hz] at hc
          simpa using hc
    · rintro (u | b) ht
      · refine Ok.ret ⟨hkl', w64_nat (by omega), fun x hx => ?_⟩
        rw [mem_take_succ', List.getElem?_eq_getElem hkl', Option.some.injEq] at hx
        rcases hx with h5 | rfl
        · exact h1 x h5
        · exact ht
      · exact Ok.ret ht
  · rintro (u | b) ht
    · exact Ok.ret ⟨fun _ a b ha hb => ht a (by rw [← hA]; exact mem_allL.2 ha) b (by rw [← hA]; exact mem_allL.2 hb), fun _ => rfl⟩
    · exact Ok.ret ⟨(fun h5 => by rw [ht.1] at h5; cases h5), fun h5 => absurd h5 ht.2⟩
theorem samePts {x : List Pt} (hl : x.length ≤ 1000) : ref20_SamePoints 10000000 x x = some true := by
  unfold ref20_SamePoints
  rw [if_neg (by simp)]
  refine Ok.eq (Ok.bind (Q := fun t => t = .inl ()) (Ok.for_ x.length (fun k s => s = (k : Int)) rfl (by omega) ?_) fun t ht => by subst ht; exact Ok.ret rfl)
  rintro k s hk rfl
  unfold ref20_SamePoints_B1
  refine Ok.iteP (fun hkl => ?_) (fun _ => Ok.ret rfl)
  rw [ati_get (by omega)]
  simp only [Option.bind_some]
  rw [if_neg (by simp)]
  exact Ok.ret ⟨by omega, w64_nat (by omega)⟩
theorem zigzagPaths {a0 : List Int} (h0 : ∀ x ∈ a0, U8 x) : law21_ZigzagPaths 10000000 a0 = some true := by
  unfold law21_ZigzagPaths
  rw [awake21, Option.bind_some]
  simp only [Bool.not_true, Bool.false_eq_true, if_false]
  refine Ok.eq ?_
  refine (Ok.new (by omega) (by omega) h0).bind fun r hr => (pattern_g hr (m := 12) (by omega) (by omega)).bind fun P ⟨n, hn2, hn4, hp, _⟩ => ?_
  simp only [show (⟨P.1.lens, P.1.ckpts, P.1.arcs⟩ : Pat) = P.1 from rfl]
  have hal := allL_len hp (by omega) n
  rw [rall_g hp (by omega) (by omega), Option.bind_some]
  have hul : (uslL n P.1).length ≤ 1000 := by
    have := List.length_filter_le (fun x => zpB P.1 x x) (allL n P.1)
    show ((allL n P.1).filter fun x => zpB P.1 x x).length ≤ 1000
    omega
  generalize hA : allL n P.1 = A at *
  have hAv : ∀ x ∈ A, VN n P.1 x := fun x hx => mem_allL.1 (by rw [hA]; exact hx)
  refine Ok.bind (Q := fun t => t = .inl ()) (Ok.for_ A.length (fun k s => s = (k : Int)) rfl (by omega) ?_) fun t ht => ?_
  · rintro k s hk rfl
    simp only [law21_ZigzagPaths_B1, show (⟨P.1.lens, P.1.ckpts, P.1.arcs⟩ : Pat) = P.1 from rfl]
    refine Ok.iteP (fun hkl => ?_) (fun _ => Ok.ret rfl)
    have hkl' : k < A.length := by omega
    have hv := hAv A[k] (List.getElem_mem _)
    rw [ati_get hkl']
    simp only [Option.bind_some]
    rw [cycle_g hp (by omega) (by omega) hv, rcycle_g hp (by omega) (by omega) hv]
    simp only [Option.bind_some]
    rw [if_neg (by simp)]
    refine Ok.bind (Q := fun t => t = .inl ()) (Ok.for_ A.length (fun k s => s = (k : Int)) rfl (by omega) ?_) fun t ht => by subst ht; exact Ok.ret ⟨hkl', w64_nat (by omega)⟩
    rintro j s hj rfl
    simp only [law21_ZigzagPaths_B2, show (⟨P.1.lens, P.1.ckpts, P.1.arcs⟩ : Pat) = P.1 from rfl]
    refine Ok.iteP (fun hjl => ?_) (fun _ => Ok.ret rfl)
    have hjl' : j < A.length := by omega
    have hvj := hAv A[j] (List.getElem_mem _)
    rw [ati_get hkl', ati_get hjl']
    simp only [Option.bind_some]
    rw [path_g hp (by omega) (by omega) hv hvj, rpath_g hp (by omega) (by omega) hv hvj]
    simp only [Option.bind_some]
    rw [if_neg (by simp)]
    exact Ok.ret ⟨hjl', w64_nat (by omega)⟩
  · subst ht
    simp only [Sum.elim_inl, law21_ZigzagPaths_K1, show (⟨P.1.lens, P.1.ckpts, P.1.arcs⟩ : Pat) = P.1 from rfl]
    rw [useless_g hp (by omega) (by omega), Option.bind_some, ruseless_g hp (by omega) (by omega), Option.bind_some, samePts hul, Option.bind_some, andM_true]
    refine Ok.bind (Q := fun b => b = true) ?_ fun b hb => by subst hb; exact Ok.ret rfl
    refine (trackable_g hp (by omega) (by omega)).bind fun b hb => (rtrackable_g hp (by omega) (by omega)).bind fun c hc => Ok.ret ?_
    have : b = c := by rw [Bool.eq_iff_iff, hb, hc]
    rw [this]; simp
end Go.Mine
