/- Zigzag paths, plain: all checkpoints, which are useless, which can be extended, which patterns can be tracked. -/
import Derived.Test.YtbmjcbhappjnaaaP21b
set_option linter.unusedSimpArgs false
set_option linter.unusedVariables false
namespace Go.Mine
open Go.RowKit
def allRow (q m : Nat) : List Pt := (List.range m).map fun (i : Nat) => (⟨(q : Int), (i : Int)⟩ : Pt)
def allL (n : Nat) (p : Pat) : List Pt := ((List.range n).map fun (q : Nat) => allRow q ((ckR p q).length + 1)).flatten
theorem allL_succ {n : Nat} {p : Pat} : allL (n + 1) p = allL n p ++ allRow n ((ckR p n).length + 1) := by
  unfold allL; rw [List.range_succ, List.map_append, List.flatten_append]; simp
theorem allRow_succ {q m : Nat} : allRow q (m + 1) = allRow q m ++ [⟨(q : Int), (m : Int)⟩] := by
  unfold allRow; rw [List.range_succ, List.map_append]; rfl
theorem mem_allL {n : Nat} {p : Pat} {x : Pt} : x ∈ allL n p ↔ VN n p x := by
  unfold allL
  rw [List.mem_flatten]
  constructor
  · rintro ⟨r, hr, hx⟩
    obtain ⟨q, hq, rfl⟩ := List.mem_map.1 hr
    unfold allRow at hx
    obtain ⟨i, hi, rfl⟩ := List.mem_map.1 hx
    rw [List.mem_range] at hq hi
    exact ⟨by simp only; omega, by simp only; omega, by simp only; omega, by simp only; omega⟩
  · rintro ⟨p0, p1, i0, i1⟩
    obtain ⟨x1, x2⟩ := x
    simp only at p0 p1 i0 i1
    obtain ⟨q, rfl⟩ := Int.eq_ofNat_of_zero_le p0
    obtain ⟨i, rfl⟩ := Int.eq_ofNat_of_zero_le i0
    exact ⟨_, List.mem_map.2 ⟨q, List.mem_range.2 (by omega), rfl⟩, List.mem_map.2 ⟨i, List.mem_range.2 (by omega), rfl⟩⟩
theorem allL_len {n B : Nat} {p : Pat} (h : PatG n B p) (hB : B ≤ 64) : ∀ k : Nat, (allL k p).length ≤ 66 * k
  | 0 => by simp [allL]
  | k + 1 => by
    have := allL_len h hB k
    have := h.ckW k
    rw [allL_succ, List.length_append, show (allRow k ((ckR p k).length + 1)).length = (ckR p k).length + 1 by simp [allRow]]
    omega
theorem all_g {n B : Nat} {p : Pat} (h : PatG n B p) (hn : n ≤ 5) (hB : B ≤ 64) {G : List Pt2} : zigzag_graph_all 10000000 p.lens p.ckpts p.arcs G = some (allL n p) := by
  have hk := h.ck
  unfold zigzag_graph_all
  refine Ok.eq (Ok.bind (Q := fun t => t = allL n p) (Ok.for_ n (fun k s => s.2 = (k : Int) ∧ s.1 = allL k p) ⟨rfl, by simp [allL]⟩ (by omega) ?_) fun t ht => by subst ht; exact Ok.ret rfl)
  rintro k ⟨L, i⟩ hk2 ⟨hi, hL⟩
  simp only at hi hL
  subst hi hL
  simp only [zigzag_graph_all_B1]
  refine Ok.iteP (fun hkl => ?_) (fun hkl => Ok.ret (by rw [show k = n by omega]; rfl))
  have hw := h.ckW k; have hal := allL_len h hB k
  rw [ati_ck (by omega) (by omega), Option.bind_some]
  refine Ok.bind (Q := fun t => t = allL (k + 1) p) (Ok.for_ ((ckR p k).length + 1) (fun j s => s.2 = (j : Int) ∧ s.1 = allL k p ++ allRow k j) ⟨rfl, by simp [allRow]⟩ (by omega) ?_) fun t ht => Ok.ret ⟨by omega, w64_nat (by omega), ht⟩
  rintro j ⟨L, i⟩ hj ⟨hi, hL⟩
  simp only at hi hL
  subst hi hL
  simp only [zigzag_graph_all_B2]
  rw [w64_id (i := ((ckR p k).length : Int) + 1) (by omega) (by omega)]
  refine Ok.iteP (fun hjl => ?_) (fun hjl => Ok.ret ?_)
  · refine (Ok.snoc (by simp [allRow]; omega)).bind fun y hy => Ok.ret ⟨by omega, w64_nat (by omega), ?_⟩
    subst hy
    simp only; rw [allRow_succ, List.append_assoc]
  · rw [show j = (ckR p k).length + 1 by omega]; exact allL_succ.symm
open Classical in
noncomputable def uslL (n : Nat) (p : Pat) : List Pt := (allL n p).filter fun x => zpB p x x
theorem take_filter {α : Type} {xs : List α} {P : α → Bool} {k : Nat} (h : k < xs.length) : (xs.take (k + 1)).filter P = (xs.take k).filter P ++ if P xs[k] = true then [xs[k]] else [] := by
  rw [List.take_add_one, List.filter_append, List.getElem?_eq_getElem h]
  simp only [Option.toList_some, List.filter_cons, List.filter_nil]
theorem useless_g {n B : Nat} {p : Pat} (h : PatG n B p) (hn : n ≤ 5) (hB : B ≤ 64) : zigzag_Useless 10000000 p = some (uslL n p) := by
  have hal := allL_len h hB n
  unfold zigzag_Useless
  rw [show (⟨p.lens, p.ckpts, p.arcs⟩ : Pat) = p from rfl]
  refine Ok.eq ((newGraph_g h hn hB (l := []) (by simp) (by simp)).bind fun g ⟨g1, g2, g3, g4, g5, g6⟩ => ?_)
  rw [g6]
  simp only [Bool.not_true, Bool.false_eq_true, if_false]
  rw [g1, g2, g3, all_g h hn hB, Option.bind_some]
  refine Ok.bind (Q := fun t => t = uslL n p) (Ok.for_ (allL n p).length (fun k s => s.2 = (k : Int) ∧ s.1 = ((allL n p).take k).filter fun x => zpB p x x) ⟨rfl, by simp⟩ (by omega) ?_) fun t ht => by subst ht; exact Ok.ret rfl
  rintro k ⟨L, i⟩ hk2 ⟨hi, hL⟩
  simp only at hi hL
  subst hi
  simp only [zigzag_Useless_B1]
  refine Ok.iteP (fun hkl => ?_) (fun hkl => Ok.ret (by rw [hL, show k = (allL n p).length by omega, List.take_length]; rfl))
  have hkl' : k < (allL n p).length := by omega
  have hv := mem_allL.1 (List.getElem_mem hkl')
  have hLl : L.length ≤ k := by rw [hL]; exact Nat.le_trans (List.length_filter_le _ _) (by simp; omega)
  rw [ati_get hkl', Option.bind_some, g1, g2, g3, gpath_g h hn hB (a := ⟨((allL n p)[k]).proc, ((allL n p)[k]).index⟩) (b := ⟨((allL n p)[k]).proc, ((allL n p)[k]).index⟩) hv hv g4, Option.bind_some]
  refine Ok.ite (fun hc => ?_) (fun hc => Ok.ret ⟨hkl', w64_nat (by omega), ?_⟩)
  · refine (Ok.snoc (by omega)).bind fun y hy => Ok.ret ⟨hkl', w64_nat (by omega), ?_⟩
    subst hy
    simp only
    rw [take_filter hkl', hL, if_pos (by exact hc)]
  · simp only
    rw [take_filter hkl', hL, if_neg (by rw [show zpB p (allL n p)[k] (allL n p)[k] = false from hc]; simp), List.append_nil]
end Go.Mine
