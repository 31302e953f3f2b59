/- Zigzag paths, plain: all checkpoints, which are useless, which can be extended, which patterns can be tracked. -/
import Derived.Test.YtbmjcbhappjnaaaP21b
import Derived.Test.YtbmjcbhappjnaaaA26u
import Derived.Test.YtbmjcbhappjnaaaP26s
set_option linter.unusedSimpArgs false
set_option linter.unusedVariables false
namespace Go.Mine
open Go.RowKit
def allRow (q m : Nat) : List Pt := (List.range m).map fun (i : Nat) => (⟨(q : Int), (i : Int)⟩ : Pt)
def allL (n : Nat) (p : Pat) : List Pt := ((List.range n).map fun (q : Nat) => allRow q ((ckR p q).length + 1)).flatten
theorem allL_succ {n : Nat} {p : Pat} : allL (n + 1) p = allL n p ++ allRow n ((ckR p n).length + 1) := by
  unfold allL; rw [List.range_succ, List.map_append, List.flatten_append]; simp
theorem allRow_succ {q m : Nat} : allRow q (m + 1) = allRow q m ++ [⟨(q : Int), (m : Int)⟩] := by
  unfold allRow; rw [List.range_succ, List.map_append]; rfl
theorem mem_allL {n : Nat} {p : Pat} {x : Pt} : x ∈ allL n p ↔ VN n p x := by
  unfold allL
  rw [List.mem_flatten]
  constructor
  · rintro ⟨r, hr, hx⟩
    obtain ⟨q, hq, rfl⟩ := List.mem_map.1 hr
    unfold allRow at hx
    obtain ⟨i, hi, rfl⟩ := List.mem_map.1 hx
    rw [List.mem_range] at hq hi
    exact ⟨by simp only; omega, by simp only; omega, by simp only; omega, by simp only; omega⟩
  · rintro ⟨p0, p1, i0, i1⟩
    obtain ⟨x1, x2⟩ := x
    simp only at p0 p1 i0 i1
    obtain ⟨q, rfl⟩ := Int.eq_ofNat_of_zero_le p0
    obtain ⟨i, rfl⟩ := Int.eq_ofNat_of_zero_le i0
    exact ⟨_, List.mem_map.2 ⟨q, List.mem_range.2 (by omega), rfl⟩, List.mem_map.2 ⟨i, List.mem_range.2 (by omega), rfl⟩⟩
theorem allL_len {n B : Nat} {p : Pat} (h : PatG n B p) (hB : B ≤ 64) : ∀ k : Nat, (allL k p).length ≤ 66 * k
  | 0 => by simp [allL]
  | k + 1 => by
    have := allL_len h hB k
    have := h.ckW k
    rw [allL_succ, List.length_append, show (allRow k ((ckR p k).length + 1)).length = (ckR p k).length + 1 by simp [allRow]]
    omega
theorem all_g {n B : Nat} {p : Pat} (h : PatG n B p) (hn : n ≤ 5) (hB : B ≤ 64) {G : List Pt2} : zigzag_graph_all 10000000 p.lens p.ckpts p.arcs G = some (allL n p) := by
  have hk := h.ck
  unfold zigzag_graph_all
  refine Ok.eq (Ok.bind (Q := fun t => t = allL n p) (Ok.for_ n (fun k s => s.2 = (k : Int) ∧ s.1 = allL k p) ⟨rfl, by simp [allL]⟩ (by omega) ?_) fun t ht => by subst ht; exact Ok.ret rfl)
  rintro k ⟨L, i⟩ hk2 ⟨hi, hL⟩
  simp only at hi hL
  subst hi hL
  simp only [zigzag_graph_all_B1]
  refine Ok.iteP (fun hkl => ?_) (fun hkl => Ok.ret (by rw [show k = n by omega]; rfl))
  have hw := h.ckW k; have hal := allL_len h hB k
  rw [ati_ck (by omega) (by omega), Option.bind_some]
  refine Ok.bind (Q := fun t => t = allL (k + 1) p) (Ok.for_ ((ckR p k).length + 1) (fun j s => s.2 = (j : Int) ∧ s.1 = allL k p ++ allRow k j) ⟨rfl, by simp [allRow]⟩ (by omega) ?_) fun t ht => Ok.ret ⟨by omega, w64_nat (by omega), ht⟩
  rintro j ⟨L, i⟩ hj ⟨hi, hL⟩
  simp only at hi hL
  subst hi hL
  simp only [zigzag_graph_all_B2]
  rw [w64_id (i := ((ckR p k).length : Int) + 1) (by omega) (by omega)]
  refine Ok.iteP (fun hjl => ?_) (fun hjl => Ok.ret ?_)
  · refine (Ok.snoc (by simp [allRow]; omega)).bind fun y hy => Ok.ret ⟨by omega, w64_nat (by omega), ?_⟩
    subst hy
    simp only; rw [allRow_succ, List.append_assoc]
  · rw [show j = (ckR p k).length + 1 by omega]; exact allL_succ.symm
open Classical in
noncomputable def uslL (n : Nat) (p : Pat) : List Pt := (allL n p).filter fun x => zpB p x x
/-- all Z-paths are told by the vectors -/
def TrkP (n : Nat) (p : Pat) : Prop := ∀ a b, VN n p a → VN n p b → zpath p a b → a.index < (dv p b a.proc : Int)
theorem trackable_g {n B : Nat} {p : Pat} (h : PatG n B p) (hn : n ≤ 5) (hB : B ≤ 64) : Ok (zigzag_Trackable 10000000 p) fun b => b = true ↔ TrkP n p := by
  have hal := allL_len h hB n
  unfold zigzag_Trackable
  rw [show (⟨p.lens, p.ckpts, p.arcs⟩ : Pat) = p from rfl]
  refine (newGraph_g h hn hB (l := []) (by simp) (by simp)).bind fun g ⟨g1, g2, g3, g4, g5, g6⟩ => ?_
  rw [g6]
  simp only [Bool.not_true, Bool.false_eq_true, if_false]
  rw [g1, g2, g3, all_g h hn hB, Option.bind_some, g5]
  generalize hA : allL n p = A at *
  have hAv : ∀ x ∈ A, VN n p x := fun x hx => mem_allL.1 (by rw [hA]; exact hx)
  refine Ok.bind (Q := fun t => match t with | .inl _ => ∀ a ∈ A, ∀ b ∈ A, zpath p a b → a.index < (dv p b a.proc : Int) | .inr b => b = false ∧ ¬ TrkP n p) (Ok.for_ A.length (fun k s => s.1 = g.2.2.2.1 ∧ s.2.2 = (k : Int) ∧ MemoV n p s.2.1 ∧ ∀ a ∈ A.take k, ∀ b ∈ A, zpath p a b → a.index < (dv p b a.proc : Int)) ⟨rfl, rfl, (fun x c hc => by cases hc), by simp⟩ (by omega) ?_) ?_
  · rintro k ⟨G, m, i⟩ hk2 ⟨hG, hi, hm, h1⟩
    simp only at hG hi hm h1
    subst hi hG
    simp only [zigzag_Trackable_B1]
    refine Ok.iteP (fun hkl => ?_) (fun hkl => Ok.ret (by rw [show k = A.length by omega, List.take_length] at h1; exact h1))
    have hkl' : k < A.length := by omega
    have hv := hAv A[k] (List.getElem_mem _)
    rw [ati_get hkl', Option.bind_some, g1, g2, g3]
    refine (arrivals_g h hn hB (a := ⟨(A[k]).proc, (A[k]).index⟩) hv g4).bind fun L hL => ?_
    have hLl := hL.1
    refine Ok.bind (Q := fun t => match t with | .inl m => MemoV n p m ∧ ∀ b ∈ A, zpath p A[k] b → (A[k]).index < (dv p b (A[k]).proc : Int) | .inr b => b = false ∧ ¬ TrkP n p) (Ok.for_ A.length (fun j s => s.2 = (j : Int) ∧ MemoV n p s.1 ∧ ∀ b ∈ A.take j, zpath p A[k] b → (A[k]).index < (dv p b (A[k]).proc : Int)) ⟨rfl, hm, by simp⟩ (by omega) ?_) ?_
    · rintro j ⟨m1, i⟩ hj ⟨hi, hm1, h3⟩
      simp only at hi hm1 h3
      subst hi
      simp only [zigzag_Trackable_B2]
      refine Ok.iteP (fun hjl => ?_) (fun hjl => Ok.ret (by rw [show j = A.length by omega, List.take_length] at h3; exact ⟨hm1, h3⟩))
      have hjl' : j < A.length := by omega
      have hvj := hAv A[j] (List.getElem_mem _)
      have hmem : ∀ e, e ∈ A.take (j + 1) ↔ e ∈ A.take j ∨ e = A[j] := fun e => by rw [mem_take_succ', List.getElem?_eq_getElem hjl', Option.some.injEq, eq_comm (a := A[j])]
      rw [ati_get hjl', Option.bind_some, ati_nI hvj.p0 (by have := hvj.p1; omega), Option.bind_some, andM_some, Option.bind_some, hL.path h hB hvj]
      refine Ok.ite (fun hc => ?_) (fun hc => ?_)
      · rw [g1, g2, g3]
        refine (vector_g h hn hB (x := ⟨(A[j]).proc, (A[j]).index⟩) hvj hm1).bind fun v ⟨v1, v2⟩ => ?_
        obtain ⟨q, hq⟩ := Int.eq_ofNat_of_zero_le hv.p0
        have hqn : q < n := by have := hv.p1; omega
        rw [v1, ati_nI hv.p0 (by simp [dvL]; omega), Option.bind_some, hq, nI_dvL hqn]
        refine Ok.iteP (fun hle => Ok.ret ⟨rfl, fun htr => ?_⟩) (fun hle => Ok.ret ⟨hjl', w64_nat (by omega), v2, fun b hb hz => ?_⟩)
        · have := htr A[k] A[j] hv hvj (zpB_iff.1 hc)
          rw [hq] at this
          have e : dv p A[j] q = dv p ⟨(A[j]).proc, (A[j]).index⟩ q := rfl
          omega
        · rcases (hmem b).1 hb with h5 | rfl
          · rw [← hq]; exact h3 b h5 hz
          · have e : dv p A[j] q = dv p ⟨(A[j]).proc, (A[j]).index⟩ q := rfl
            omega
      · rw [if_neg (by simp)]
        refine Ok.ret ⟨hjl', w64_nat (by omega), hm1, fun b hb hz => ?_⟩
        rcases (hmem b).1 hb with h5 | rfl
        · exact h3 b h5 hz
        · rw [zpB_iff.2 hz] at hc; cases hc
    · rintro (m2 | b) ht
      · simp only [Sum.elim_inl, zigzag_Trackable_K2]
        refine Ok.ret ⟨hkl', rfl, w64_nat (by omega), ht.1, fun x hx => ?_⟩
        rw [mem_take_succ', List.getElem?_eq_getElem hkl', Option.some.injEq] at hx
        rcases hx with h5 | rfl
        · exact h1 x h5
        · exact ht.2
      · exact Ok.ret ht
  · rintro (u | b) ht
    · exact Ok.ret ⟨fun _ a b ha hb => ht a (by rw [← hA]; exact mem_allL.2 ha) b (by rw [← hA]; exact mem_allL.2 hb), fun _ => rfl⟩
    · exact Ok.ret ⟨(fun h5 => by rw [ht.1] at h5; cases h5), fun h5 => absurd h5 ht.2⟩
end Go.Mine
/- Plain: ModelbasedTracks, ModelbasedUseful, the laws. -/
set_option linter.unusedSimpArgs false
set_option linter.unusedVariables false
namespace Go.Mine
open Go.RowKit
section
variable {n m W : Nat} {c : C26} {κ : Int → Int → List Int} (h : MbI n m W c κ) (hm : m ≤ 64) (hW : W ≤ 64) (hn : n ≤ 5)
include h hm hW hn
omit hm hW hn in
/-- what is known at an event is known at the events behind it -/
theorem MbI.dep_mono {q : Nat} (hq : q < n) {i j : Int} (hi : 0 ≤ i) (hij : i ≤ j) (hj : j ≤ nI c.lens q) {s : Nat} (hs : s < n) : dep κ c.ckpts q i s ≤ dep κ c.ckpts q j s := by
  have h1 := h.clk q hq i hi (by omega)
  have h2 := h.clk q hq j (by omega) hj
  unfold dep
  have : nI (κ q i) s ≤ nI (κ q j) s := by
    rcases Int.lt_or_le (nI (κ q i) s) 1 with h5 | h5
    · have := (h2.2 s hs).1; have := (h1.2 s hs).1; omega
    · exact (h2.2 s hs).2.1 _ h5 (((h1.2 s hs).2.2 h5).mono hij)
  have := ivl_mono' (r := rwL c.ckpts s) this
  omega
omit hm hW hn in
/-- and at the event that receives its message -/
theorem MbI.dep_arc {a : Arc} (ha : a ∈ c.arcs) (h0 : a.rcv ≠ 0) {s : Nat} (hs : s < n) : dep κ c.ckpts a.fr a.ix s ≤ dep κ c.ckpts a.to a.rcv s := by
  have hg := h.pat.arc a ha
  obtain ⟨u, hu⟩ := Int.eq_ofNat_of_zero_le hg.fr.1
  obtain ⟨v, hv⟩ := Int.eq_ofNat_of_zero_le hg.to.1
  have hun : u < n := by have := hg.fr.2; omega
  have hvn : v < n := by have := hg.to.2; omega
  have h5 := hg.ix; have h6 := hg.rcv
  simp only at h5 h6
  rw [hu] at h5 ⊢; rw [hv] at h6 ⊢
  have h1 := h.clk u hun a.ix h5.1 h5.2
  have h2 := h.clk v hvn a.rcv h6.1 h6.2
  unfold dep
  have : nI (κ u a.ix) s ≤ nI (κ v a.rcv) s := by
    rcases Int.lt_or_le (nI (κ u a.ix) s) 1 with h7 | h7
    · have := (h2.2 s hs).1; have := (h1.2 s hs).1; omega
    · have hb := (h1.2 s hs).2.2 h7
      have hb2 := (show ∀ z : Int, z = (u : Int) → Hb c.arcs s (nI (κ u a.ix) s) z a.ix from fun z hz => by rw [hz]; exact hb) a.fr hu
      have hb3 := Hb.arc ha h0 (Int.le_refl _) hb2
      refine (h2.2 s hs).2.1 _ h7 ?_
      exact (show ∀ z : Int, z = (v : Int) → Hb c.arcs s (nI (κ u a.ix) s) z a.rcv → Hb c.arcs s (nI (κ u a.ix) s) v a.rcv from fun z hz hh => by rw [← hz]; exact hh) a.to hv hb3
  have := ivl_mono' (r := rwL c.ckpts s) this
  omega
omit hm hW hn in
theorem MbI.za {a : Pt} (ha : VN n ⟨c.lens, c.ckpts, c.arcs⟩ a) {s : Nat} (hs : a.proc = s) {y : Pt} (hz : ZA ⟨c.lens, c.ckpts, c.arcs⟩ a y) :
    ∃ r ∈ c.arcs, r.rcv ≠ 0 ∧ y = ⟨r.to, (ivl (rwL c.ckpts r.to) r.rcv : Int)⟩ ∧ a.index < dep κ c.ckpts r.to r.rcv s := by
  have hsn : s < n := by have := ha.p1; omega
  induction hz with
  | @first r hr h0 hf hlt =>
    refine ⟨r, hr, h0, rfl, Int.lt_of_lt_of_le ?_ (h.dep_arc hr h0 hsn)⟩
    have hg := (h.pat.arc r hr).ix
    simp only at hg hlt
    rw [hf, hs] at hg hlt ⊢
    unfold dep
    rw [h.clk_own hsn hg.1 hg.2]
    exact hlt
  | @next y r hz hr h0 hf hle ih =>
    obtain ⟨b, hb, hb0, rfl, hbd⟩ := ih
    refine ⟨r, hr, h0, rfl, Int.lt_of_lt_of_le ?_ (h.dep_arc hr h0 hsn)⟩
    simp only at hf hle
    have hg := (h.pat.arc r hr).ix
    have hbg := h.pat.arc b hb
    obtain ⟨q, hq⟩ := Int.eq_ofNat_of_zero_le hbg.to.1
    have hqn : q < n := by have := hbg.to.2; omega
    have hbr := hbg.rcv
    simp only at hg hbr
    have hfx := h.fix r hr b.rcv
    have hckr : ckR ⟨c.lens, c.ckpts, c.arcs⟩ r.fr = rwL c.ckpts r.fr := rfl
    rw [hckr] at hle
    rw [hf] at hg hle hfx ⊢
    rcases Int.lt_or_le r.ix b.rcv with h5 | h5
    · -- sent in the same interval, ahead of the receiving
      have h6 := ivl_mono' (r := rwL c.ckpts b.to) (show r.ix ≤ b.rcv by omega)
      have h7 := hfx (by omega) hbr.2 (by omega) s hsn
      rw [← h7]; exact hbd
    · rw [hq] at hg hbr hbd ⊢
      exact Int.lt_of_lt_of_le hbd (h.dep_mono hqn hbr.1 h5 hg.2 hsn)
theorem MbI.trk : TrkP n ⟨c.lens, c.ckpts, c.arcs⟩ := fun a b ha hb ⟨y, hz, hp, hi⟩ => by
  obtain ⟨s, hs⟩ := Int.eq_ofNat_of_zero_le ha.p0
  have hsn : s < n := by have := ha.p1; omega
  obtain ⟨r, hr, h0, rfl, hd⟩ := h.za ha hs hz
  simp only at hp hi
  have hbr := (h.pat.arc r hr).rcv
  have htn := (h.pat.arc r hr).to
  have hb0 := hb.i0; have hb1 := hb.i1
  obtain ⟨q, hq⟩ := Int.eq_ofNat_of_zero_le htn.1
  obtain ⟨b1, b2⟩ := b
  simp only at hp hi hb0 hb1 hbr
  rw [hq] at hp hi hbr hd
  subst hp
  have hqn : q < n := by omega
  rw [hs, h.dv_eq hm hW hn hqn hb0]
  have hG := h.patG hm hW
  have hcr := cidx_rng hG (q := (q : Int)) (i := b2) (by omega) (by omega) hb0
  refine Int.lt_of_lt_of_le hd (h.dep_mono hqn hbr.1 ?_ hcr.2 hsn)
  obtain ⟨k, rfl⟩ := Int.eq_ofNat_of_zero_le hb0
  exact (ivl_cidx hG (q := (q : Int)) (y := k) (c := r.rcv) (by omega) (by omega) (by omega) hbr.2).1 (by
    have : ckR ⟨c.lens, c.ckpts, c.arcs⟩ (q : Int) = rwL c.ckpts q := rfl
    rw [this]; omega)
theorem MbI.useless : uslL n ⟨c.lens, c.ckpts, c.arcs⟩ = [] := by
  unfold uslL
  rw [List.filter_eq_nil_iff]
  intro x hx hz
  have hv := mem_allL.1 hx
  have h1 := h.trk hm hW hn x x hv hv (zpB_iff.1 hz)
  have hG := h.patG hm hW
  obtain ⟨q, hq⟩ := Int.eq_ofNat_of_zero_le hv.p0
  obtain ⟨i, hi⟩ := Int.eq_ofNat_of_zero_le hv.i0
  have hvi := hv.i1; have hvp := hv.p1
  obtain ⟨x1, x2⟩ := x
  simp only at hq hi h1 hvi hvp
  subst hq; subst hi
  have := dv_self hG hn (by omega) (q := q) (by omega) (y := i) (by omega)
  omega
end
theorem mbTracks {a0 : List Int} (h0 : ∀ x ∈ a0, U8 x) : law26_ModelbasedTracks 10000000 a0 = some true := by
  unfold law26_ModelbasedTracks
  rw [show law26_awake 10000000 = some true from awake26i 9999000, Option.bind_some]
  simp only [Bool.not_true, Bool.false_eq_true, if_false]
  refine Ok.eq ((draw_mb h0).bind fun r ⟨n, hn, n2, n4, hr, hl⟩ => ?_)
  rw [hn, play_mb (by omega) (by omega) hr (by omega), Option.bind_some]
  obtain ⟨κ, h⟩ := MbI.run (n := n) hr r.2.2
  generalize C26.run n r.2.1 r.2.2 = c at h
  have hm : r.2.2.length ≤ 64 := by omega
  have hn5 : n ≤ 5 := by omega
  have hG := h.patG hm hm
  rw [show ((0 : Int) == 0) = true from rfl, andM_true, show (⟨(⟨c.hist.hist.pat.lens, c.hist.hist.pat.ckpts, c.hist.hist.pat.arcs⟩ : Pat), c.hist.hist.clocks, c.hist.hist.vecs, c.hist.hist.forced⟩ : Hist) = c.hist.hist from rfl, sound_mb h hm hm hn5, Option.bind_some, Option.bind_some, andM_true]
  rw [show (⟨c.hist.hist.pat.lens, c.hist.hist.pat.ckpts, c.hist.hist.pat.arcs⟩ : Pat) = ⟨c.lens, c.ckpts, c.arcs⟩ from rfl]
  refine Ok.bind (Q := fun b => b = true) ((trackable_g hG hn5 (by omega)).bind fun b hb => Ok.ret (hb.2 (h.trk hm hm hn5))) fun b hb => Ok.ret hb
end Go.Mine
