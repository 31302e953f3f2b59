/- Chapter 32, plain: OrphanLattice. -/
import Derived.Test.YtbmjcbhappjnaaaA32l
import Derived.Test.YtbmjcbhappjnaaaP32w
set_option linter.unusedSimpArgs false
set_option linter.unusedVariables false
namespace Go.Mine
open Go.RowKit
theorem ev_set {l : List (List Evt)} {q k q' j : Nat} {r : List Evt} {e : Evt} (hr : l[q]? = some r) (hk : k < r.length) : ev_ (l.set q (r.set k e)) q' j = if q' = q ∧ j = k then e else ev_ l q' j := by
  have hq := (List.getElem?_eq_some_iff.1 hr).1
  unfold ev_
  rw [getElem?_set' hq]
  by_cases h1 : q' = q
  · subst h1
    rw [if_pos rfl, hr]
    simp only [Option.getD_some]
    rw [getElem?_set' hk]
    by_cases h2 : j = k
    · simp [h2]
    · simp [h2]
  · rw [if_neg h1, if_neg (fun h => h1 h.1)]
def labA (l0 : List (List Evt)) (a : Arc) : Lab := if 0 < a.ix then ⟨(ev_ l0 a.fr.toNat (a.ix - 1).toNat).inc, a.ix⟩ else ⟨0, 0⟩
structure LA (p : Pat) (l0 l : List (List Evt)) (k : Nat) : Prop where
  lin : LinI p.lens l
  inc : ∀ q j : Nat, (ev_ l q j).inc = (ev_ l0 q j).inc
  rcv : ∀ q j : Nat, (ev_ l q j).kind = 1 → ∃ a ∈ p.arcs.take k, a.to = (q : Int) ∧ a.rcv = (j : Int) + 1 ∧ (ev_ l q j).frm = a.fr ∧ (ev_ l q j).sent = labA l0 a
  all : ∀ a ∈ p.arcs.take k, (ev_ l a.to.toNat (a.rcv - 1).toNat).kind = 1
theorem LA.init {p : Pat} {l0 : List (List Evt)} (h : LinI p.lens l0) (hN : NoR l0) : LA p l0 l0 0 := by
  refine ⟨h, fun _ _ => rfl, fun q j hk => ?_, by simp⟩
  exfalso
  unfold ev_ at hk
  cases hq : l0[q]? with
  | none => rw [hq] at hk; simp at hk; exact absurd hk (by decide)
  | some r =>
    rw [hq] at hk
    simp only [Option.getD_some] at hk
    cases hj : r[j]? with
    | none => rw [hj] at hk; simp at hk; exact absurd hk (by decide)
    | some e => rw [hj] at hk; exact hN.row hq e (List.mem_of_getElem? hj) hk
theorem LA.step {p : Pat} {l0 l : List (List Evt)} {k : Nat} {a : Arc} {r : List Evt} {e : Evt} {o : Int} (h : LA p l0 l k) (ha : p.arcs[k]? = some a) (t0 : 0 ≤ a.to) (r1 : 1 ≤ a.rcv) (hr : l[a.to.toNat]? = some r) (hl : (a.rcv - 1).toNat < r.length) (he : r[(a.rcv - 1).toNat]? = some e) {s : Lab} (hs : s = labA l0 a) :
    LA p l0 (l.set a.to.toNat (r.set (a.rcv - 1).toNat ⟨1, e.inc, a.fr, s, o, 1⟩)) (k + 1) := by
  have hev : ev_ l a.to.toNat (a.rcv - 1).toNat = e := by unfold ev_; rw [hr]; simp only [Option.getD_some]; rw [he]; rfl
  refine ⟨h.lin.set (List.getElem?_eq_some_iff.1 hr).1 (by rw [rl_some hr]; simp), fun q j => ?_, fun q j hk => ?_, fun b hb => ?_⟩
  · rw [ev_set hr hl]
    split
    · rename_i e2; rw [← h.inc, e2.1, e2.2, hev]
    · exact h.inc q j
  · rw [ev_set hr hl] at hk ⊢
    split at hk
    · rename_i e2
      rw [if_pos e2]
      exact ⟨a, mem_take_succ'.2 (.inr ha), by omega, by omega, rfl, hs⟩
    · rename_i e2
      rw [if_neg e2]
      obtain ⟨b, b1, b2⟩ := h.rcv q j hk
      exact ⟨b, mem_take_succ'.2 (.inl b1), b2⟩
  · rw [ev_set hr hl]
    split
    · rfl
    · rename_i e2
      rcases mem_take_succ'.1 hb with h1 | h1
      · exact h.all b h1
      · rw [ha] at h1; cases h1; exact absurd ⟨rfl, rfl⟩ e2
theorem lin_arcs2 {fuel : Nat} {c : List Int} {i : Int} {p : Pat} {B n : Nat} {l0 : List (List Evt)} (hc : COk c i) (hl : LinI p.lens l0) (hN : NoR l0) (hp : ∀ a ∈ p.arcs, ArcG n p.lens a ∧ a.rcv ≠ 0) (hlen : p.lens.length = n) (hn : n ≤ 100) (hr : ∀ x ∈ p.lens, 0 ≤ x ∧ x ≤ (B : Int)) (hB : B ≤ 1000) (ha : p.arcs.length ≤ 1000000) (hf : 1000000 < fuel) :
    Ok (iter (fun s => make_Codes_Lineages_B1 fuel p c s.1 s.2.1 s.2.2) fuel (i, l0, 0)) fun t => COk c t.1 ∧ LA p l0 t.2 p.arcs.length := by
  refine Ok.for_ p.arcs.length (fun k s => COk c s.1 ∧ LA p l0 s.2.1 k ∧ s.2.2 = (k : Int)) ⟨hc, LA.init hl hN, rfl⟩ (by omega) ?_
  rintro k ⟨i1, l, q⟩ hk ⟨h1, h2, h3⟩
  simp only at h1 h2 h3
  subst h3
  simp only [make_Codes_Lineages_B1]
  refine Ok.iteP (fun hlt => ?_) fun hlt => Ok.ret ⟨h1, by rw [show p.arcs.length = k by omega]; exact h2⟩
  refine (Ok.at (by omega) (by omega)).bind fun a haa => ?_
  rw [Int.toNat_natCast] at haa
  obtain ⟨⟨a1, a2, a3, a4, a6⟩, a5⟩ := hp a (List.mem_of_getElem? haa)
  have hll := h2.lin.len
  have b1 := nI_nonneg (i := a.to) hr (by omega)
  have b2 := nI_nonneg (i := a.fr) hr (by omega)
  have r1 := h2.lin.row a.to.toNat (by omega)
  have r2 := h2.lin.row a.fr.toNat (by omega)
  rw [Int.toNat_of_nonneg (by omega)] at r1 r2
  rw [w64_id (i := a.rcv - 1) (by omega) (by omega)]
  refine (Ok.at (by omega) (by omega)).bind fun r hrr => ?_
  rw [rl_some hrr] at r1
  refine (Ok.at (by omega) (by omega)).bind fun e he => (next_o h1 (by omega)).bind fun z ⟨_, _, hz⟩ => ?_
  have key : ∀ u v : Int, (⟨u, v⟩ : Lab) = labA l0 a → Ok (make_Codes_Lineages_J2 fuel l a e z (k : Int) u v) fun o => Sum.elim (fun s' : Int × List (List Evt) × Int => k < p.arcs.length ∧ COk c s'.1 ∧ LA p l0 s'.2.1 (k + 1) ∧ s'.2.2 = ((k + 1 : Nat) : Int)) (fun t : Int × List (List Evt) => COk c t.1 ∧ LA p l0 t.2 p.arcs.length) o := fun u v huv => by
    simp only [make_Codes_Lineages_J2]
    rw [w64_id (i := a.rcv - 1) (by omega) (by omega)]
    refine (Ok.at (by omega) (by omega)).bind fun r2 hr2 => ?_
    obtain rfl : r = r2 := by rw [hrr] at hr2; exact Option.some.inj hr2
    refine (Ok.at (by omega) (by omega)).bind fun e2 he2 => (Ok.set (by omega) (by omega)).bind fun r3 e3 => (Ok.set (by omega) (by omega)).bind fun l3 e4 => Ok.ret ⟨by omega, hz, ?_, w64_nat (by omega)⟩
    simp only; rw [e4, e3]
    exact h2.step haa a2.1 (by omega) hrr (by omega) he huv
  simp only [make_Codes_Lineages_J1]
  refine Ok.iteP (fun hx => ?_) fun hx => key _ _ (by unfold labA; rw [if_neg hx])
  rw [w64_id (i := a.ix - 1) (by omega) (by omega)]
  refine (Ok.at (by omega) (by omega)).bind fun r4 hr4 => ?_
  rw [rl_some hr4] at r2
  refine (Ok.at (by omega) (by omega)).bind fun e5 he5 => key _ _ ?_
  unfold labA
  rw [if_pos hx, ← h2.inc]
  congr 1
  unfold ev_; rw [hr4]; simp only [Option.getD_some]; rw [he5]; rfl
theorem LA.lok {n B : Nat} {p : Pat} {l0 l : List (List Evt)} (h : LA p l0 l p.arcs.length) (hp : PatG n B p) (hg : ∀ a ∈ p.arcs, a.rcv ≠ 0) : LOK n p l := by
  have hlen := hp.len
  have hlin := h.lin
  have hll : l.length = n := by rw [hlin.len, hlen]
  have hrcv := h.rcv; have hall := h.all
  rw [List.take_length] at hrcv hall
  have uniq : ∀ a ∈ p.arcs, ∀ b ∈ p.arcs, a.to = b.to → a.rcv = b.rcv → a = b := fun a ha b hb e1 e2 => by
    obtain ⟨i, hi, rfl⟩ := List.getElem_of_mem ha
    obtain ⟨j, hj, rfl⟩ := List.getElem_of_mem hb
    have hu := List.pairwise_iff_getElem.1 hp.uniq
    rcases Nat.lt_trichotomy i j with h1 | h1 | h1
    · exact absurd ⟨e1, e2⟩ (hu i j hi hj h1 (hg _ ha))
    · subst h1; rfl
    · exact absurd ⟨e1.symm, e2.symm⟩ (hu j i hj hi h1 (hg _ hb))
  have lix : ∀ a, 0 ≤ a.ix → (labA l0 a).index = a.ix := fun a ha => by unfold labA; split <;> simp <;> omega
  refine ⟨hlin, hlen, fun q j hq hj hk => ?_, fun a ha => ?_⟩
  · obtain ⟨a, b1, b2, b3, b4, b5⟩ := hrcv q j hk
    have g := hp.arc a b1
    refine ⟨a, b1, b2, b3, b4, by rw [b5]; exact lix a g.ix.1, ?_⟩
    rw [b5]
    have gi := g.ix; have gf := g.fr
    have hrow := hlin.row a.fr.toNat (by omega)
    rw [Int.toNat_of_nonneg gf.1] at hrow
    unfold labA
    split
    · rename_i hx
      refine .inr ⟨hx, by simp only; unfold rw_; unfold rl at hrow; omega, ev_ l a.fr.toNat (a.ix - 1).toNat, ?_, h.inc _ _⟩
      simp only
      unfold rw_
      exact ev_getL (by omega)
    · exact .inl ⟨rfl, rfl⟩
  · have hk := hall a ha
    have g := hp.arc a ha; have gr := g.rcv; have gt := g.to; have hne := hg a ha
    obtain ⟨b, b1, b2, b3, b4, b5⟩ := hrcv _ _ hk
    have : b = a := uniq b b1 a ha (by omega) (by omega)
    subst this
    exact ⟨(b.rcv - 1).toNat, by omega, hk, b4, by rw [b5]; exact lix b g.ix.1⟩
end Go.Mine
