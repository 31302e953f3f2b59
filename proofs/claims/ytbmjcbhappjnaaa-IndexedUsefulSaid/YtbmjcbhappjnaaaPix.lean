/- Plain: the indexed protocol: what is true behind every act. -/
import Derived.Test.YtbmjcbhappjnaaaA25
import Derived.Test.YtbmjcbhappjnaaaPH
import Derived.Test.YtbmjcbhappjnaaaPivl
set_option linter.unusedSimpArgs false
set_option linter.unusedVariables false
namespace Go.Mine
open Go.RowKit
/-- the clock of the interval of an event -/
def icl (r c : List Int) (k : Int) : Int := nI c ((ivl r k : Int) - 1)
structure RowX (r c : List Int) (f : List Bool) (t : Int) (W : Nat) : Prop where
  cl : c.length = r.length
  fl : f.length = r.length
  asc : c.Pairwise (· < ·)
  last : c[r.length - 1]? = some t
  nn : ∀ y ∈ c, 0 ≤ y
  le : t ≤ W
theorem RowX.top {r c : List Int} {f : List Bool} {t : Int} {W : Nat} (h : RowX r c f t W) : ∀ y ∈ c, y ≤ t := fun y hy => by
  obtain ⟨i, hi, rfl⟩ := List.getElem_of_mem hy
  obtain ⟨h0, h1⟩ := List.getElem?_eq_some_iff.1 h.last
  have h2 := h.cl
  rcases Nat.lt_or_ge i (r.length - 1) with h5 | h5
  · have := List.pairwise_iff_getElem.1 h.asc i (r.length - 1) hi h0 h5; omega
  · have : i = r.length - 1 := by omega
    subst this; omega
theorem RowX.icl_rng {r c : List Int} {f : List Bool} {t x : Int} {W : Nat} (h : RowX r c f t W) (hr : CkG r x) {k : Int} (hk : 1 ≤ k) : 0 ≤ icl r c k ∧ icl r c k ≤ t := by
  have h1 := hr.ivl_pos hk; have h2 := @ivl_le r k; have h3 := h.cl
  have hm : icl r c k ∈ c := by
    unfold icl nI
    have : ((ivl r k : Int) - 1).toNat < c.length := by omega
    rw [List.getElem?_eq_getElem this]; exact List.getElem_mem this
  exact ⟨h.nn _ hm, h.top _ hm⟩
/-- the interval of the next event -/
theorem RowX.icl_next {r c : List Int} {f : List Bool} {t x : Int} {W : Nat} (h : RowX r c f t W) (hr : CkG r x) : icl r c (x + 1) = t := by
  have hp := hr.pos
  unfold icl
  rw [ivl_all (fun y hy => by have := hr.le y hy; omega)]
  exact nI_some (by rw [← h.last]; congr 1; omega)
theorem RowX.over {r c : List Int} {f : List Bool} {t t' x y : Int} {W V : Nat} (h : RowX r c f t W) (hr : CkG r x) (ht : t < t') (hV : t' ≤ V) (hy : r[r.length - 1]? = some y) (e : y = x) :
    RowX r (c.set (r.length - 1) t') f t' V ∧ ∀ k, 1 ≤ k → k ≤ x → icl r (c.set (r.length - 1) t') k = icl r c k := by
  obtain ⟨h0, h1⟩ := List.getElem?_eq_some_iff.1 h.last
  have h2 := h.cl
  have ht0 := h.nn t (List.mem_of_getElem? h.last)
  refine ⟨⟨by simpa using h2, h.fl, ?_, by simp [h0], fun z hz => ?_, hV⟩, fun k hk hkx => ?_⟩
  · rw [List.pairwise_iff_getElem]
    intro i j hi hj hij
    rw [List.length_set] at hi hj
    rw [List.getElem_set, List.getElem_set]
    rw [if_neg (by omega)]
    split
    · have := h.top _ (List.getElem_mem hi); omega
    · exact List.pairwise_iff_getElem.1 h.asc i j hi hj hij
  · rcases mem_set hz with h5 | rfl
    · exact h.nn z h5
    · omega
  · have h5 := hr.ivl_last hy (by omega : k ≤ y)
    have h6 := hr.ivl_pos hk
    unfold icl nI
    rw [getElem?_set' h0, if_neg (by omega)]
theorem RowX.push {r c : List Int} {f : List Bool} {t t' x : Int} {W V : Nat} (h : RowX r c f t W) (hr : CkG r x) (ht : t < t') (hV : t' ≤ V) (b : Bool) :
    RowX (r ++ [x]) (c ++ [t']) (f ++ [b]) t' V ∧ ∀ k, 1 ≤ k → k ≤ x → icl (r ++ [x]) (c ++ [t']) k = icl r c k := by
  have h2 := h.cl
  have ht0 := h.nn t (List.mem_of_getElem? h.last)
  refine ⟨⟨by simp [h2], by simp [h.fl], ?_, by simp [← h2], fun z hz => ?_, hV⟩, fun k hk hkx => ?_⟩
  · rw [List.pairwise_append]
    exact ⟨h.asc, List.pairwise_singleton _ _, fun a ha z hz => by simp at hz; subst hz; have := h.top a ha; omega⟩
  · rcases List.mem_append.1 hz with h5 | h5
    · exact h.nn z h5
    · simp at h5; omega
  · have h6 := hr.ivl_pos hk
    have h7 := @ivl_le r k
    unfold icl nI
    rw [ivl_snoc, if_neg (by omega), Nat.add_zero, List.getElem?_append_left (by omega)]
structure IxI (n m W : Nat) (p : Pat) (K : List (List Int)) (f : List (List Bool)) (t : List Int) (g : List IndexedLetter) : Prop where
  pat : PatH n m W p
  kl : K.length = n
  fl : f.length = n
  tl : t.length = n
  row : ∀ q : Nat, q < n → RowX (ckR p q) (rwL K q) (rwL f q) (nI t q) W
  pos : ∀ a ∈ p.arcs, 1 ≤ a.ix
  arc : ∀ a ∈ p.arcs, a.rcv ≠ 0 → icl (ckR p a.fr) (rwL K a.fr) a.ix ≤ icl (ckR p a.to) (rwL K a.to) a.rcv
  let_ : ∀ l ∈ g, ∃ (j : Nat) (a : Arc), l.arc = j ∧ p.arcs[j]? = some a ∧ a.rcv = 0 ∧ l.clock = icl (ckR p a.fr) (rwL K a.fr) a.ix
  nod : (g.map (·.arc)).Nodup
  gl : g.length ≤ m
theorem PatH.ckI {n m W : Nat} {p : Pat} (h : PatH n m W p) {q : Int} (h0 : 0 ≤ q) (h1 : q < n) : CkG (ckR p q) (nI p.lens q) := by
  have hk := h.ck; have hl := h.len
  have e1 : p.ckpts[q.toNat]? = some (ckR p q) := by simp [ckR, (show q.toNat < p.ckpts.length by omega)]
  have e2 : p.lens[q.toNat]? = some (nI p.lens q) := by simp [nI, (show q.toNat < p.lens.length by omega)]
  exact h.row _ _ _ e1 e2
theorem PatH.ckW {n m W : Nat} {p : Pat} (h : PatH n m W p) (q : Int) : (ckR p q).length ≤ W + 1 := by
  unfold ckR
  cases e : p.ckpts[q.toNat]? with
  | none => simp
  | some r => exact h.wid r (List.mem_of_getElem? e)
theorem IxI.start {n : Nat} : IxI n 0 0 ⟨List.replicate n 0, List.replicate n [0], []⟩ (List.replicate n [0]) (List.replicate n [false]) (List.replicate n 0) [] := by
  refine ⟨PatH.start, by simp, by simp, by simp, fun q hq => ?_, fun a ha => absurd ha (by simp), fun a ha => absurd ha (by simp), fun l hl => absurd hl (by simp), by simp, by simp⟩
  have e1 : ckR ⟨List.replicate n 0, List.replicate n [0], []⟩ (q : Int) = [0] := rwL_rep (by omega) (by omega)
  rw [e1, rwL_rep (by omega) (by omega), rwL_rep (by omega) (by omega), show nI (List.replicate n 0) (q : Int) = 0 by simp [nI, hq]]
  exact ⟨rfl, rfl, List.pairwise_singleton _ _, rfl, fun y hy => by simp at hy; omega, by omega⟩
theorem RowX.wide {r c : List Int} {f : List Bool} {t : Int} {W V : Nat} (h : RowX r c f t W) (hV : W ≤ V) : RowX r c f t V := ⟨h.cl, h.fl, h.asc, h.last, h.nn, by have := h.le; omega⟩
section
variable {n m W : Nat} {p : Pat} {K : List (List Int)} {f : List (List Bool)} {t : List Int} {g : List IndexedLetter} (h : IxI n m W p K f t g)
include h
theorem IxI.wide : IxI n (m + 1) (W + 1) p K f t g :=
  ⟨(h.pat.wide (by omega)).more (by omega), h.kl, h.fl, h.tl, fun q hq => (h.row q hq).wide (by omega), h.pos, h.arc, h.let_, h.nod, by have := h.gl; omega⟩
theorem IxI.reset {C : List (List Int)} {K' : List (List Int)} {f' : List (List Bool)} {t' : List Int} (hp : PatH n m (W + 1) ⟨p.lens, C, p.arcs⟩) (hk : K'.length = n) (hf : f'.length = n) (ht : t'.length = n)
    (hrow : ∀ q : Nat, q < n → RowX (rwL C q) (rwL K' q) (rwL f' q) (nI t' q) (W + 1)) (hic : ∀ q : Nat, q < n → ∀ k, 1 ≤ k → k ≤ nI p.lens q → icl (rwL C q) (rwL K' q) k = icl (ckR p q) (rwL K q) k) :
    IxI n m (W + 1) ⟨p.lens, C, p.arcs⟩ K' f' t' g := by
  have e1 : ∀ a ∈ p.arcs, icl (rwL C a.fr) (rwL K' a.fr) a.ix = icl (ckR p a.fr) (rwL K a.fr) a.ix := fun a ha => by
    have hg := h.pat.arc a ha
    obtain ⟨q, hq⟩ := Int.eq_ofNat_of_zero_le hg.fr.1
    have h2 := hg.ix.2; have h3 := hg.fr.2
    rw [hq] at h2 ⊢
    exact hic q (by omega) _ (h.pos a ha) h2
  have e2 : ∀ a ∈ p.arcs, a.rcv ≠ 0 → icl (rwL C a.to) (rwL K' a.to) a.rcv = icl (ckR p a.to) (rwL K a.to) a.rcv := fun a ha h0 => by
    have hg := h.pat.arc a ha
    obtain ⟨q, hq⟩ := Int.eq_ofNat_of_zero_le hg.to.1
    have h2 := hg.rcv; have h3 := hg.to.2
    rw [hq] at h2 ⊢
    exact hic q (by omega) _ (by omega) h2.2
  refine ⟨hp, hk, hf, ht, hrow, h.pos, fun a ha h0 => ?_, fun l hl => ?_, h.nod, h.gl⟩
  · have := h.arc a ha h0
    rw [← e1 a ha, ← e2 a ha h0] at this
    exact this
  · obtain ⟨j, a, h1, h2, h3, h4⟩ := h.let_ l hl
    refine ⟨j, a, h1, h2, h3, ?_⟩
    rw [h4, ← e1 a (List.mem_of_getElem? h2)]; rfl
theorem ckpt_ix {fuel : Nat} {V : List (List (List Int))} {q : Nat} (hq : q < n) {t' : Int} (ht : nI t q < t') (hW : t' ≤ ((W + 1 : Nat) : Int)) (hWl : W ≤ 1000) (b : Bool) :
    Ok (indexed_computation_checkpoint fuel q b p.lens p.ckpts p.arcs K V f (t.set q t') g) fun r => IxI n m (W + 1) ⟨p.lens, r.1, p.arcs⟩ r.2.1 r.2.2 (t.set q t') g ∧ ∀ j : Nat, j < n → ∀ k, 1 ≤ k → k ≤ nI p.lens j → icl (rwL r.1 j) (rwL r.2.1 j) k = icl (ckR p j) (rwL K j) k := by
  have hck := h.pat.ck; have hl := h.pat.len; have hkl := h.kl; have hfl := h.fl; have htl := h.tl
  have hr := h.row q hq
  have hC := h.pat.ckI (q := (q : Int)) (by omega) (by omega)
  have hp := hC.pos
  have hw := h.pat.ckW (q : Int)
  have hcl := hr.cl; have hff := hr.fl
  obtain ⟨y, hy⟩ : ∃ y, (ckR p q)[(ckR p q).length - 1]? = some y := ⟨_, List.getElem?_eq_getElem (by omega)⟩
  have e1 : ati p.ckpts (q : Int) = some (ckR p q) := ati_rw (by omega)
  have e2 : ati (ckR p q) (w64 (((ckR p q).length : Int) - 1)) = some y := by
    rw [w64_id (by omega) (by omega), show ((ckR p q).length : Int) - 1 = (((ckR p q).length - 1 : Nat) : Int) by omega, ati_cast]; exact hy
  have hset : ∀ j : Nat, nI (t.set q t') j = if (j : Int) = q then t' else nI t j := fun j => by
    have := nI_set (xs := t) (i := (q : Int)) (j := (j : Int)) (x := t') (by omega) (by omega) (by omega)
    rw [Int.toNat_natCast] at this; exact this
  have e3 : ati (t.set q t') (q : Int) = some t' := by rw [ati_nI (by omega) (by simp; omega), hset, if_pos rfl]
  unfold indexed_computation_checkpoint
  rw [e1, Option.bind_some, Option.bind_some, e2, Option.bind_some, ati_nI (x := p.lens) (by omega) (by omega), Option.bind_some]
  refine Ok.iteE (fun he => ?_) fun hne => ?_
  · obtain ⟨x1, x2⟩ := hr.over hC ht hW hy he
    rw [ati_rw (by omega), Option.bind_some, e3, Option.bind_some, w64_id (by omega) (by omega), show ((ckR p q).length : Int) - 1 = (((ckR p q).length - 1 : Nat) : Int) by omega]
    refine (Ok.at (by omega) (by omega)).bind fun z hz => ?_
    rw [seti_get (by omega), Option.bind_some, seti_get (by omega), Option.bind_some]
    have hic : ∀ j : Nat, j < n → ∀ k, 1 ≤ k → k ≤ nI p.lens j → icl (rwL p.ckpts j) (rwL (K.set q ((rwL K q).set ((ckR p q).length - 1) t')) j) k = icl (ckR p j) (rwL K j) k := fun j hj k hk1 hk2 => by
      by_cases e : j = q
      · subst e; rw [rwL_set (by omega) (by omega), if_pos rfl]; exact x2 k hk1 hk2
      · rw [rwL_set (by omega) (by omega), if_neg (by omega)]; rfl
    refine Ok.ret ⟨h.reset (h.pat.wide (by omega)) (by simp [hkl]) hfl (by simp [htl]) (fun j hj => ?_) hic, hic⟩
    rw [hset]
    by_cases e : j = q
    · subst e; rw [rwL_set (by omega) (by omega), if_pos rfl, if_pos rfl]; exact x1
    · rw [rwL_set (by omega) (by omega), if_neg (by omega), if_neg (by omega)]; exact (h.row j hj).wide (by omega)
  · obtain ⟨x1, x2⟩ := hr.push hC ht hW b
    rw [Option.bind_some, Option.bind_some]
    refine (Ok.snoc (by omega)).bind fun r' hr' => ?_
    subst hr'
    rw [seti_get (by omega), Option.bind_some, ati_rw (by simp; omega), Option.bind_some, ati_rw (by omega), Option.bind_some, e3, Option.bind_some]
    refine (Ok.snoc (by omega)).bind fun c' hc' => ?_
    subst hc'
    rw [seti_get (by omega), Option.bind_some, ati_rw (by simp; omega), Option.bind_some, ati_rw (by omega), Option.bind_some]
    refine (Ok.snoc (by omega)).bind fun f' hf' => ?_
    subst hf'
    rw [seti_get (by omega), Option.bind_some, ati_rw (by simp; omega), Option.bind_some]
    have hpm := h.pat.mark (q := q) (r := ckR p q) (x := nI p.lens q) (y := y) (rwL_get (by omega)) (nI_get? (by omega)) hy hne
    have hic : ∀ j : Nat, j < n → ∀ k, 1 ≤ k → k ≤ nI p.lens j → icl (rwL (p.ckpts.set q (ckR p q ++ [nI p.lens q])) j) (rwL (K.set q (rwL K q ++ [t'])) j) k = icl (ckR p j) (rwL K j) k := fun j hj k hk1 hk2 => by
      by_cases e : j = q
      · subst e; rw [rwL_set (by omega) (by omega), rwL_set (by omega) (by omega), if_pos rfl, if_pos rfl]; exact x2 k hk1 hk2
      · rw [rwL_set (by omega) (by omega), rwL_set (by omega) (by omega), if_neg (by omega), if_neg (by omega)]; rfl
    refine Ok.ret ⟨h.reset hpm (by simp [hkl]) (by simp [hfl]) (by simp [htl]) (fun j hj => ?_) hic, hic⟩
    rw [hset]
    by_cases e : j = q
    · subst e; rw [rwL_set (by omega) (by omega), rwL_set (by omega) (by omega), rwL_set (by omega) (by omega), if_pos rfl, if_pos rfl, if_pos rfl, if_pos rfl]; exact x1
    · rw [rwL_set (by omega) (by omega), rwL_set (by omega) (by omega), rwL_set (by omega) (by omega), if_neg (by omega), if_neg (by omega), if_neg (by omega), if_neg (by omega)]; exact (h.row j hj).wide (by omega)
theorem process_ix {fuel : Nat} {V : List (List (List Int))} {q : Int} : indexed_computation_process fuel q p.lens p.ckpts p.arcs K V f t g = some (decide (0 ≤ q) && decide (q < n)) := by
  unfold indexed_computation_process
  rw [andM_some, h.tl]; rfl
theorem send_ix {fuel : Nat} {V : List (List (List Int))} {a b : Int} (hm : m ≤ 1000) :
    Ok (indexed_computation_send fuel a b p.lens p.ckpts p.arcs K V f t g) fun r => IxI n (m + 1) (W + 1) ⟨r.1, p.ckpts, r.2.1⟩ K f t r.2.2 := by
  have hl := h.pat.len; have htl := h.tl; have hgl := h.gl; have hal := h.pat.al
  unfold indexed_computation_send
  rw [process_ix h, Option.bind_some, process_ix h]
  simp only [Option.bind_some]
  rw [orM_some, Option.bind_some, orM_some, Option.bind_some]
  by_cases hg : (0 ≤ a ∧ a < n) ∧ (0 ≤ b ∧ b < n) ∧ a ≠ b
  · obtain ⟨⟨a0, a1⟩, ⟨b0, b1⟩, hab⟩ := hg
    rw [show (!(decide (0 ≤ a) && decide (a < (n : Int))) || !(decide (0 ≤ b) && decide (b < (n : Int))) || a == b) = false by simp; omega, orM_false]
    obtain ⟨q, rfl⟩ := Int.eq_ofNat_of_zero_le a0
    have hqn : q < n := by omega
    have hrg := h.pat.nI_rng q
    have hx := nI_get? (x := p.lens) (q := q) (by omega)
    unfold indexed_computation_full
    rw [ati_nI (by omega) (by omega)]
    simp only [Option.bind_some]
    refine Ok.iteP (fun h64 => Ok.ret h.wide) fun h64 => ?_
    unfold indexed_computation_event
    rw [ati_nI (by omega) (by omega), Option.bind_some, Option.bind_some, w64_id (by omega) (by omega), seti_get (by omega), Option.bind_some, ati_nI (by omega) (by simp; omega), PatH.set_nI hx _ (by omega), if_pos rfl]
    simp only [Option.bind_some]
    rw [ati_nI (by omega) (by omega)]
    simp only [Option.bind_some]
    refine (Ok.snoc (by omega)).bind fun g' hg' => (Ok.snoc (by omega)).bind fun r' hr' => ?_
    subst hg'; subst hr'
    have hpn := (h.pat.send hx ⟨b0, b1⟩ hab).wide (V := W + 1) (by omega)
    have hcq := (h.row q hqn).icl_next (h.pat.ckI (q := (q : Int)) (by omega) (by omega))
    refine Ok.ret ⟨hpn, h.kl, h.fl, h.tl, fun j hj => (h.row j hj).wide (by omega), fun c hc => ?_, fun c hc h0 => ?_, fun l hl2 => ?_, ?_, by simp; omega⟩
    · rcases List.mem_append.1 hc with h5 | h5
      · exact h.pos c h5
      · simp at h5; subst h5; simp only; omega
    · rcases List.mem_append.1 hc with h5 | h5
      · exact h.arc c h5 h0
      · simp at h5; subst h5; exact absurd rfl h0
    · rcases List.mem_append.1 hl2 with h5 | h5
      · obtain ⟨j, c, h1, h2, h3, h4⟩ := h.let_ l h5
        exact ⟨j, c, h1, by rw [List.getElem?_append_left (List.getElem?_eq_some_iff.1 h2).1]; exact h2, h3, h4⟩
      · simp at h5; subst h5
        exact ⟨p.arcs.length, ⟨q, nI p.lens q + 1, b, 0⟩, rfl, by simp, rfl, hcq.symm⟩
    · rw [List.map_append, List.map_cons, List.map_nil, List.nodup_append]
      refine ⟨h.nod, by simp, fun c hc d hd => ?_⟩
      simp at hd; subst hd
      obtain ⟨l, hl2, rfl⟩ := List.mem_map.1 hc
      obtain ⟨j, e, h1, h2, _⟩ := h.let_ l hl2
      have := (List.getElem?_eq_some_iff.1 h2).1
      omega
  · have hfull : ∀ c : Bool, Ok (indexed_computation_full fuel a p.lens p.ckpts p.arcs K V f t g |>.bind fun r => some r) (fun _ => True) ∨ True := fun _ => .inr trivial
    rw [show (!(decide (0 ≤ a) && decide (a < (n : Int))) || !(decide (0 ≤ b) && decide (b < (n : Int))) || a == b) = true by
      cases hb : (!(decide (0 ≤ a) && decide (a < (n : Int))) || !(decide (0 ≤ b) && decide (b < (n : Int))) || a == b) with
      | true => rfl
      | false => exfalso; apply hg; simp at hb; omega, orM_true, Option.bind_some]
    exact Ok.ret h.wide
theorem IxI.took {pl : Nat} (hp : pl < g.length) : IxI n m W p K f t (g.take pl ++ g.drop (pl + 1)) ∧ ∀ l ∈ g.take pl ++ g.drop (pl + 1), l.arc ≠ g[pl].arc := by
  have hsub : ∀ l ∈ g.take pl ++ g.drop (pl + 1), l ∈ g := fun l hl => by
    rcases List.mem_append.1 hl with h5 | h5
    · exact List.mem_of_mem_take h5
    · exact List.mem_of_mem_drop h5
  have hsp : g = g.take pl ++ g[pl] :: g.drop (pl + 1) := by simp
  have hnd := h.nod
  rw [hsp, List.map_append, List.map_cons, List.nodup_append, List.nodup_cons] at hnd
  obtain ⟨n1, ⟨n2, n3⟩, n4⟩ := hnd
  refine ⟨⟨h.pat, h.kl, h.fl, h.tl, h.row, h.pos, h.arc, fun l hl => h.let_ l (hsub l hl), ?_, by have := h.gl; simp; omega⟩, fun l hl e => ?_⟩
  · rw [List.map_append, List.nodup_append]
    exact ⟨n1, n3, fun a ha b hb => n4 a ha b (List.mem_cons_of_mem _ hb)⟩
  · rcases List.mem_append.1 hl with h5 | h5
    · exact n4 _ (List.mem_map_of_mem h5) _ (by simp) e
    · exact n2 (e ▸ List.mem_map_of_mem h5)
end
end Go.Mine
