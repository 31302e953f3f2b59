/- Plain: patterns that are played act by act: an event, a message sent, a message received, a checkpoint. -/
import Derived.Test.YtbmjcbhappjnaaaPpat
set_option linter.unusedSimpArgs false
set_option linter.unusedVariables false
namespace Go.Mine
open Go.RowKit
structure PatH (n m W : Nat) (p : Pat) : Prop where
  len : p.lens.length = n
  ck : p.ckpts.length = n
  rng : ∀ x ∈ p.lens, 0 ≤ x ∧ x ≤ m
  row : ∀ (q : Nat) (r : List Int) (x : Int), p.ckpts[q]? = some r → p.lens[q]? = some x → CkG r x
  wid : ∀ r ∈ p.ckpts, r.length ≤ W + 1
  arc : ∀ a ∈ p.arcs, ArcG n p.lens a
  al : p.arcs.length ≤ m
  uniq : p.arcs.Pairwise fun a b => a.rcv ≠ 0 → ¬ (a.to = b.to ∧ a.rcv = b.rcv)
  rank : ∃ ρ, RankG n m p.lens p.arcs ρ
theorem RankG.mono {n m B : Nat} {lens : List Int} {arcs : List Arc} {ρ : Int → Int → Nat} (h : RankG n m lens arcs ρ) (hB : m ≤ B) : RankG n B lens arcs ρ :=
  ⟨fun q k => Nat.le_trans (h.top q k) hB, h.up, h.arc⟩
theorem PatH.g {n m W B : Nat} {p : Pat} (h : PatH n m W p) (hm : m ≤ B) (hW : W ≤ B) : PatG n B p := by
  obtain ⟨ρ, hr⟩ := h.rank
  exact ⟨h.len, h.ck, fun x hx => by have := h.rng x hx; omega, h.row, fun r hr => by have := h.wid r hr; omega, h.arc, by have := h.al; omega, h.uniq, ρ, hr.mono hm⟩
theorem PatH.wide {n m W V : Nat} {p : Pat} (h : PatH n m W p) (hV : W ≤ V) : PatH n m V p :=
  ⟨h.len, h.ck, h.rng, h.row, fun r hr => by have := h.wid r hr; omega, h.arc, h.al, h.uniq, h.rank⟩
theorem PatH.more {n m W M : Nat} {p : Pat} (h : PatH n m W p) (hM : m ≤ M) : PatH n M W p := by
  obtain ⟨ρ, hr⟩ := h.rank
  exact ⟨h.len, h.ck, fun x hx => by have := h.rng x hx; omega, h.row, h.wid, h.arc, by have := h.al; omega, h.uniq, ρ, hr.mono hM⟩
theorem PatH.nI_rng {n m W : Nat} {p : Pat} (h : PatH n m W p) (q : Int) : 0 ≤ nI p.lens q ∧ nI p.lens q ≤ m := by
  unfold nI
  cases e : p.lens[q.toNat]? with
  | none => simp
  | some w => have := h.rng w (List.mem_of_getElem? e); simpa using this
theorem PatH.start {n : Nat} : PatH n 0 0 ⟨List.replicate n 0, List.replicate n [0], []⟩ := by
  refine ⟨by simp, by simp, fun x hx => ?_, fun q r x hr hx => ?_, fun r hr => ?_, fun a ha => absurd ha (by simp), by simp, List.Pairwise.nil, fun _ _ => 0, fun _ _ => by omega, fun q k h0 h1 h2 h3 => ?_, fun a ha => absurd ha (by simp)⟩
  · obtain ⟨_, rfl⟩ := List.mem_replicate.1 hx; simp
  · obtain ⟨_, rfl⟩ := List.mem_replicate.1 (List.mem_of_getElem? hr)
    obtain ⟨_, rfl⟩ := List.mem_replicate.1 (List.mem_of_getElem? hx)
    exact ⟨rfl, List.pairwise_singleton _ _, fun y hy => by simp at hy; omega⟩
  · obtain ⟨_, rfl⟩ := List.mem_replicate.1 hr; simp
  · exfalso
    have : nI (List.replicate n 0) q = 0 := by
      unfold nI
      cases e : (List.replicate n (0 : Int))[q.toNat]? with
      | none => rfl
      | some w => obtain ⟨_, rfl⟩ := List.mem_replicate.1 (List.mem_of_getElem? e); rfl
    simp only at h3
    omega
/-- a checkpoint more -/
theorem PatH.mark {n m W : Nat} {p : Pat} (h : PatH n m W p) {q : Nat} {r : List Int} {x y : Int} (hr : p.ckpts[q]? = some r) (hx : p.lens[q]? = some x) (hy : r[r.length - 1]? = some y) (hne : y ≠ x) : PatH n m (W + 1) ⟨p.lens, p.ckpts.set q (r ++ [x]), p.arcs⟩ := by
  have hq : q < p.ckpts.length := (List.getElem?_eq_some_iff.1 hr).1
  have h1 := h.wide (Nat.le_succ W)
  refine ⟨h1.len, by simp [h.ck], h1.rng, fun q' r' x' hr' hx' => ?_, fun r' hr' => ?_, h1.arc, h1.al, h1.uniq, h1.rank⟩
  · rw [getElem?_set' hq] at hr'
    split at hr'
    · rename_i e; subst e; cases hr'; rw [hx] at hx'; cases hx'; exact (h.row q' r x hr hx).snoc hy hne
    · exact h.row q' r' x' hr' hx'
  · rcases mem_set hr' with h5 | rfl
    · have := h.wid r' h5; omega
    · have := h.wid r (List.mem_of_getElem? hr); simp; omega
section
variable {n m W : Nat} {p : Pat} (h : PatH n m W p) {q : Nat} {x : Int} (hx : p.lens[q]? = some x)
include h hx
omit h in
theorem PatH.set_nI (j : Int) (hj : 0 ≤ j) : nI (p.lens.set q (x + 1)) j = if j = q then x + 1 else nI p.lens j := by
  have hq : q < p.lens.length := (List.getElem?_eq_some_iff.1 hx).1
  have := nI_set (xs := p.lens) (i := (q : Int)) (j := j) (x := x + 1) (by omega) (by omega) hj
  simpa using this
omit h in
theorem PatH.at_nI : nI p.lens (q : Int) = x := nI_some (by simpa using hx)
omit h in
theorem PatH.set_ge (j : Int) (hj : 0 ≤ j) : nI p.lens j ≤ nI (p.lens.set q (x + 1)) j := by
  rw [PatH.set_nI hx j hj]; split
  · rename_i e; subst e; rw [PatH.at_nI hx]; omega
  · omega
omit h in
theorem PatH.set_arc {a : Arc} (h5 : ArcG n p.lens a) : ArcG n (p.lens.set q (x + 1)) a := by
  obtain ⟨a1, a2, a3, a4, a5⟩ := h5
  exact ⟨a1, a2, a3, ⟨a4.1, Int.le_trans a4.2 (PatH.set_ge hx _ a1.1)⟩, ⟨a5.1, Int.le_trans a5.2 (PatH.set_ge hx _ a2.1)⟩⟩
theorem PatH.set_rng : ∀ z ∈ p.lens.set q (x + 1), 0 ≤ z ∧ z ≤ ((m + 1 : Nat) : Int) := fun z hz => by
  have hxr := h.rng x (List.mem_of_getElem? hx)
  rcases mem_set hz with h7 | rfl
  · have := h.rng z h7; omega
  · omega
theorem PatH.set_row : ∀ (q' : Nat) (r : List Int) (x' : Int), p.ckpts[q']? = some r → (p.lens.set q (x + 1))[q']? = some x' → CkG r x' := fun q' r' x' hr' hx' => by
  have hq : q < p.lens.length := (List.getElem?_eq_some_iff.1 hx).1
  rw [getElem?_set' hq] at hx'
  split at hx'
  · rename_i e; subst e; cases hx'; exact (h.row q' r' x hr' hx).up (by omega)
  · exact h.row q' r' x' hr' hx'
omit h in
/-- the ranks behind an event more -/
theorem PatH.set_up {ρ : Int → Int → Nat} (hr : RankG n m p.lens p.arcs ρ) (q' k' : Int) (h0 : 0 ≤ q') (h1 : q' < n) (h2 : 1 ≤ k') (h3 : k' + 1 ≤ nI (p.lens.set q (x + 1)) q') :
    (if q' = q ∧ k' = x + 1 then m + 1 else ρ q' k') < (if q' = q ∧ k' + 1 = x + 1 then m + 1 else ρ q' (k' + 1)) := by
  have hxn := PatH.at_nI hx
  rw [PatH.set_nI hx q' h0] at h3
  by_cases e : q' = q
  · subst e
    rw [if_pos rfl] at h3
    rw [if_neg (by omega)]
    split
    · have := hr.top (q : Int) k'; omega
    · exact hr.up _ k' h0 h1 h2 (by rw [hxn]; omega)
  · rw [if_neg e] at h3
    rw [if_neg (by omega), if_neg (by omega)]
    exact hr.up q' k' h0 h1 h2 h3
/-- an event that sends a message -/
theorem PatH.send {t : Int} (ht : 0 ≤ t ∧ t < n) (hne : (q : Int) ≠ t) : PatH n (m + 1) W ⟨p.lens.set q (x + 1), p.ckpts, p.arcs ++ [⟨q, x + 1, t, 0⟩]⟩ := by
  have hq : q < p.lens.length := (List.getElem?_eq_some_iff.1 hx).1
  have hxr := h.rng x (List.mem_of_getElem? hx)
  have hn := h.len
  have hxn := PatH.at_nI hx
  obtain ⟨ρ, hr⟩ := h.rank
  refine ⟨by simp [h.len], h.ck, h.set_rng hx, h.set_row hx, h.wid, fun a h5 => ?_, by have := h.al; simp; omega, ?_, fun q' k' => if q' = q ∧ k' = x + 1 then m + 1 else ρ q' k', fun q' k' => ?_, PatH.set_up hx hr, fun a h5 h6 h7 => ?_⟩
  · rcases List.mem_append.1 h5 with h6 | h6
    · exact PatH.set_arc hx (h.arc a h6)
    · simp at h6; subst h6
      refine ⟨⟨by simp only; omega, by simp only; omega⟩, ht, hne, ⟨by simp only; omega, ?_⟩, by simp only; omega, ?_⟩
      · simp only; rw [PatH.set_nI hx _ (by omega), if_pos rfl]; omega
      · simp only; rw [PatH.set_nI hx _ ht.1]; split
        · omega
        · exact (h.nI_rng _).1
  · rw [List.pairwise_append]
    refine ⟨h.uniq, List.pairwise_singleton _ _, fun a h5 b h6 h7 h8 => ?_⟩
    simp at h6; subst h6
    simp only at h8; omega
  · split
    · omega
    · have := hr.top q' k'; omega
  · rcases List.mem_append.1 h5 with h8 | h8
    · have a4 := (h.arc a h8).ix; have a5 := (h.arc a h8).rcv
      have e1 : ¬ (a.fr = q ∧ a.ix = x + 1) := fun ⟨e, e'⟩ => by rw [e, hxn] at a4; omega
      have e2 : ¬ (a.to = q ∧ a.rcv = x + 1) := fun ⟨e, e'⟩ => by rw [e, hxn] at a5; omega
      rw [if_neg e1, if_neg e2]
      exact hr.arc a h8 h6 h7
    · simp at h8; subst h8; exact absurd rfl h6
/-- an event that receives a message -/
theorem PatH.got {j : Nat} {a : Arc} (ha : p.arcs[j]? = some a) (h0 : a.rcv = 0) (hto : a.to = q) : PatH n (m + 1) W ⟨p.lens.set q (x + 1), p.ckpts, p.arcs.set j { a with rcv := x + 1 }⟩ := by
  have hq : q < p.lens.length := (List.getElem?_eq_some_iff.1 hx).1
  have hj : j < p.arcs.length := (List.getElem?_eq_some_iff.1 ha).1
  have hxr := h.rng x (List.mem_of_getElem? hx)
  have hn := h.len
  have hxn := PatH.at_nI hx
  have haG := h.arc a (List.mem_of_getElem? ha)
  have hold : ∀ b ∈ p.arcs, ¬ (b.to = q ∧ b.rcv = x + 1) := fun b hb ⟨e, e'⟩ => by
    have a5 := (h.arc b hb).rcv; rw [e, hxn] at a5; omega
  obtain ⟨ρ, hr⟩ := h.rank
  refine ⟨by simp [h.len], h.ck, h.set_rng hx, h.set_row hx, h.wid, fun b h5 => ?_, by have := h.al; simp; omega, ?_, fun q' k' => if q' = q ∧ k' = x + 1 then m + 1 else ρ q' k', fun q' k' => ?_, PatH.set_up hx hr, fun b h5 h6 h7 => ?_⟩
  · rcases mem_set h5 with h6 | rfl
    · exact PatH.set_arc hx (h.arc b h6)
    · have h6 := PatH.set_arc hx haG
      exact ⟨h6.fr, h6.to, h6.ne, h6.ix, by simp only; omega, by simp only; rw [hto, PatH.set_nI hx _ (by omega), if_pos rfl]; omega⟩
  · rw [List.pairwise_iff_getElem]
    intro i k hi hk hik h7 h8
    rw [List.getElem_set] at h7 h8
    rw [List.getElem_set] at h8
    rw [List.length_set] at hi hk
    split at h8
    · rename_i e
      rw [if_neg (by omega)] at h8
      simp only [hto] at h8
      exact hold _ (List.getElem_mem hk) ⟨h8.1.symm, h8.2.symm⟩
    · rename_i e
      rw [if_neg e] at h7
      split at h8
      · simp only [hto] at h8
        exact hold _ (List.getElem_mem hi) h8
      · exact List.pairwise_iff_getElem.1 h.uniq i k hi hk hik h7 h8
  · split
    · omega
    · have := hr.top q' k'; omega
  · rcases mem_set h5 with h8 | rfl
    · have a4 := (h.arc b h8).ix
      have e1 : ¬ (b.fr = q ∧ b.ix = x + 1) := fun ⟨e, e'⟩ => by rw [e, hxn] at a4; omega
      rw [if_neg e1, if_neg (hold b h8)]
      exact hr.arc b h8 h6 h7
    · have a4 := haG.ix; have a3 := haG.ne
      rw [if_neg (fun ⟨e, _⟩ => a3 (by rw [hto]; exact e)), if_pos ⟨hto, rfl⟩]
      exact Nat.lt_succ_of_le (hr.top _ _)
end
end Go.Mine
