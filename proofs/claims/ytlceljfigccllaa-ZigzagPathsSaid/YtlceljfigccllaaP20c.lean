/- The rollback-dependency graph, plain: what can be reached (the marks, and the reference). -/
import Derived.Test.YtlceljfigccllaaP20b
set_option linter.unusedSimpArgs false
set_option linter.unusedVariables false
namespace Go.Mine
open Go.RowKit
inductive Rch (n : Nat) (p : Pat) (l : List Pt) : Pt → Prop
  | start {x : Pt} : x ∈ l → Rch n p l x
  | step {e : Pt2} : Rch n p l e.x0 → IsEdge n p e → Rch n p l e.x1
structure VN (n : Nat) (p : Pat) (x : Pt) : Prop where
  p0 : 0 ≤ x.proc
  p1 : x.proc < n
  i0 : 0 ≤ x.index
  i1 : x.index ≤ (ckR p x.proc).length
theorem IsEdge.vn {n B : Nat} {p : Pat} (h : PatG n B p) {e : Pt2} (he : IsEdge n p e) : VN n p e.x0 ∧ VN n p e.x1 := by
  rcases he with ⟨q, j, h1, h2, rfl⟩ | ⟨a, ha, h1, rfl⟩
  · refine ⟨⟨?_, ?_, ?_, ?_⟩, ⟨?_, ?_, ?_, ?_⟩⟩ <;> simp only [chE] <;> omega
  · have hag := h.arc a ha
    have e1 := ivl_le (r := ckR p a.fr) (k := a.ix); have e2 := ivl_le (r := ckR p a.to) (k := a.rcv)
    exact ⟨⟨hag.fr.1, hag.fr.2, by simp only [arcE]; omega, by simp only [arcE]; omega⟩, ⟨hag.to.1, hag.to.2, by simp only [arcE]; omega, by simp only [arcE]; omega⟩⟩
theorem IsEdge.pos {n B : Nat} {p : Pat} (h : PatG n B p) {e : Pt2} (he : IsEdge n p e) : 1 ≤ e.x1.index := by
  rcases he with ⟨q, j, h1, h2, rfl⟩ | ⟨a, ha, h1, rfl⟩
  · simp only [chE]; omega
  · have hag := h.arc a ha
    have hc := h.ckI hag.to.1 hag.to.2
    have h0 := List.getElem?_eq_some_iff.1 hc.zero
    have := (ivl_lt hc.asc (k := a.rcv) h0.1).1 (by rw [h0.2]; have := hag.rcv.1; omega)
    simp only [arcE]; omega
theorem Rch.vn {n B : Nat} {p : Pat} (h : PatG n B p) {l : List Pt} (hl : ∀ x ∈ l, VN n p x) {x : Pt} (hx : Rch n p l x) : VN n p x := by
  cases hx with
  | start hm => exact hl _ hm
  | step _ he => exact (he.vn h).2
theorem Rch.pos {n B : Nat} {p : Pat} (h : PatG n B p) {l : List Pt} (hl : ∀ x ∈ l, 1 ≤ x.index) {x : Pt} (hx : Rch n p l x) : 1 ≤ x.index := by
  cases hx with
  | start hm => exact hl _ hm
  | step _ he => exact he.pos h
theorem Rch.mono {n : Nat} {p : Pat} {l l' : List Pt} (hl : ∀ x ∈ l, x ∈ l') {x : Pt} (hx : Rch n p l x) : Rch n p l' x := by
  induction hx with
  | start hm => exact .start (hl _ hm)
  | step _ he ih => exact .step ih he
/-- what is reached from several is reached from one of them -/
theorem Rch.one {n : Nat} {p : Pat} {l : List Pt} {x : Pt} (hx : Rch n p l x) : ∃ y ∈ l, Rch n p [y] x := by
  induction hx with
  | start hm => exact ⟨_, hm, .start (by simp)⟩
  | step _ he ih => obtain ⟨y, hy, hr⟩ := ih; exact ⟨y, hy, .step hr he⟩
/-- what is reached goes on to the end of its process -/
theorem Rch.up {n : Nat} {p : Pat} {l : List Pt} {q i : Nat} (hq : q < n) (h : Rch n p l ⟨q, i⟩) : ∀ d, i + d ≤ (ckR p q).length → Rch n p l ⟨q, ((i + d : Nat) : Int)⟩
  | 0, _ => h
  | d + 1, hd => Rch.step (e := chE q (i + d)) (Rch.up hq h d (by omega)) (.inl ⟨q, i + d, hq, by omega, rfl⟩)
/-! marks -/
def rw2 (m : List (List Bool)) (q : Int) : List Bool := m[q.toNat]?.getD []
def bm (m : List (List Bool)) (x : Pt) : Bool := (rw2 m x.proc)[x.index.toNat]?.getD false
def setM (m : List (List Bool)) (x : Pt) : List (List Bool) := m.set x.proc.toNat ((rw2 m x.proc).set x.index.toNat true)
def cnt (m : List (List Bool)) : Nat := (m.map fun r => r.countP (!·)).sum
structure Shp (n : Nat) (p : Pat) (m : List (List Bool)) : Prop where
  len : m.length = n
  row : ∀ q : Nat, q < n → (rw2 m q).length = (ckR p q).length + 1
theorem Shp.int {n : Nat} {p : Pat} {m : List (List Bool)} (h : Shp n p m) {q : Int} (h0 : 0 ≤ q) (h1 : q < n) : (rw2 m q).length = (ckR p q).length + 1 := by
  obtain ⟨k, rfl⟩ := Int.eq_ofNat_of_zero_le h0
  exact h.row k (by omega)
theorem VN.lt {n : Nat} {p : Pat} {m : List (List Bool)} {x : Pt} (h : VN n p x) (hs : Shp n p m) : x.proc.toNat < m.length ∧ x.index.toNat < (rw2 m x.proc).length := by
  have := hs.len; have := hs.int h.p0 h.p1; have := h.p0; have := h.p1; have := h.i0; have := h.i1
  exact ⟨by omega, by omega⟩
theorem VN.at1 {n : Nat} {p : Pat} {m : List (List Bool)} {x : Pt} (h : VN n p x) (hs : Shp n p m) : ati m x.proc = some (rw2 m x.proc) := by
  have hl := h.lt hs
  rw [ati_int h.p0 hl.1]; simp [rw2, hl.1]
theorem VN.at2 {n : Nat} {p : Pat} {m : List (List Bool)} {x : Pt} (h : VN n p x) (hs : Shp n p m) : ati (rw2 m x.proc) x.index = some (bm m x) := by
  have hl := h.lt hs
  rw [ati_int h.i0 hl.2]; simp [bm, hl.2]
theorem VN.set2 {n : Nat} {p : Pat} {m : List (List Bool)} {x : Pt} (h : VN n p x) (hs : Shp n p m) : seti (rw2 m x.proc) x.index true = some ((rw2 m x.proc).set x.index.toNat true) := seti_int h.i0 (h.lt hs).2
theorem VN.set1 {n : Nat} {p : Pat} {m : List (List Bool)} {x : Pt} (h : VN n p x) (hs : Shp n p m) : seti m x.proc ((rw2 m x.proc).set x.index.toNat true) = some (setM m x) := seti_int h.p0 (h.lt hs).1
theorem rw2_setM {n : Nat} {p : Pat} {m : List (List Bool)} {x : Pt} (h : VN n p x) (hs : Shp n p m) {q : Int} (h0 : 0 ≤ q) : rw2 (setM m x) q = if q = x.proc then (rw2 m x.proc).set x.index.toNat true else rw2 m q := by
  have hp := h.p0
  unfold setM
  show ((m.set x.proc.toNat ((rw2 m x.proc).set x.index.toNat true))[q.toNat]?).getD [] = _
  rw [getElem?_set' (h.lt hs).1]
  by_cases e : q = x.proc
  · rw [if_pos (by rw [e]), if_pos e]; rfl
  · rw [if_neg (by omega), if_neg e]; rfl
theorem Shp.set {n : Nat} {p : Pat} {m : List (List Bool)} (hs : Shp n p m) {x : Pt} (h : VN n p x) : Shp n p (setM m x) := by
  refine ⟨by simp [setM, hs.len], fun q hq => ?_⟩
  rw [rw2_setM h hs (by omega)]
  split
  · rename_i e; rw [List.length_set, hs.int h.p0 h.p1, e]
  · exact hs.row q hq
theorem bm_setM {n : Nat} {p : Pat} {m : List (List Bool)} (hs : Shp n p m) {x y : Pt} (h : VN n p x) (hy : VN n p y) : bm (setM m x) y = (decide (y = x) || bm m y) := by
  have hl := h.lt hs; have hi := h.i0; have hj := hy.i0
  obtain ⟨y1, y2⟩ := y
  obtain ⟨x1, x2⟩ := x
  simp only at *
  unfold bm
  rw [rw2_setM h hs hy.p0]
  simp only
  by_cases e : y1 = x1
  · subst e
    rw [if_pos rfl, getElem?_set' hl.2]
    by_cases e2 : y2 = x2
    · subst e2; simp
    · rw [if_neg (by omega)]; simp [e2]
  · rw [if_neg e]; simp [e]
theorem cf_set : ∀ {r : List Bool} {i : Nat}, r[i]? = some false → (r.set i true).countP (!·) + 1 = r.countP (!·)
  | [], i, h => by simp at h
  | a :: r, 0, h => by simp at h; subst h; simp
  | a :: r, i + 1, h => by have := cf_set (r := r) (i := i) (by simpa using h); cases a <;> simp at this ⊢ <;> omega
theorem cnt_set0 : ∀ {m : List (List Bool)} {i : Nat} {r r' : List Bool}, m[i]? = some r → cnt (m.set i r') + r.countP (!·) = cnt m + r'.countP (!·)
  | [], i, r, r', h => by simp at h
  | a :: m, 0, r, r', h => by simp at h; subst h; simp [cnt]; omega
  | a :: m, i + 1, r, r', h => by have := cnt_set0 (m := m) (i := i) (r := r) (r' := r') (by simpa using h); simp [cnt] at this ⊢; omega
theorem cnt_setM {n : Nat} {p : Pat} {m : List (List Bool)} (hs : Shp n p m) {x : Pt} (h : VN n p x) (hb : bm m x = false) : cnt (setM m x) + 1 = cnt m := by
  have hl := h.lt hs
  have e1 : m[x.proc.toNat]? = some (rw2 m x.proc) := by simp [rw2, hl.1]
  have e2 : (rw2 m x.proc)[x.index.toNat]? = some false := by
    have : bm m x = (rw2 m x.proc)[x.index.toNat]'hl.2 := by simp [bm, hl.2]
    rw [this] at hb
    rw [List.getElem?_eq_getElem hl.2, hb]
  have := cnt_set0 (r' := (rw2 m x.proc).set x.index.toNat true) e1
  have := cf_set e2
  unfold setM; omega
theorem cnt_le {K : Nat} : ∀ {m : List (List Bool)}, (∀ r ∈ m, r.length ≤ K) → cnt m ≤ m.length * K
  | [], _ => by simp [cnt]
  | a :: m, h => by
    have := cnt_le (m := m) fun r hr => h r (by simp [hr])
    have h1 := h a (by simp)
    have h2 : a.countP (!·) ≤ a.length := List.countP_le_length
    simp only [cnt, List.map_cons, List.sum_cons, List.length_cons, Nat.add_mul, Nat.one_mul] at this ⊢
    omega
theorem Shp.cnt_le {n : Nat} {p : Pat} {m : List (List Bool)} (hs : Shp n p m) (hn : n ≤ 5) (hw : ∀ q, (ckR p q).length ≤ 65) : cnt m ≤ 330 := by
  have := Go.Mine.cnt_le (K := 66) (m := m) fun r hr => by
    obtain ⟨i, hi, rfl⟩ := List.getElem_of_mem hr
    have e : rw2 m (i : Int) = m[i] := by simp [rw2, hi]
    have := hs.row i (by have := hs.len; omega)
    rw [e] at this; have := hw (i : Int); omega
  have := hs.len
  omega
/-- no mark yet -/
def noM (n : Nat) (p : Pat) : List (List Bool) := (List.range n).map fun (q : Nat) => List.replicate ((ckR p (q : Int)).length + 1) false
theorem rw2_noM {n : Nat} {p : Pat} {q : Nat} (h : q < n) : rw2 (noM n p) q = List.replicate ((ckR p (q : Int)).length + 1) false := by
  simp [rw2, noM, h]
theorem noM_shp {n : Nat} {p : Pat} : Shp n p (noM n p) := ⟨by simp [noM], fun q hq => by rw [rw2_noM hq]; simp⟩
theorem noM_bm {n : Nat} {p : Pat} {x : Pt} (h : VN n p x) : bm (noM n p) x = false := by
  obtain ⟨k, hk⟩ := Int.eq_ofNat_of_zero_le h.p0
  have := h.p1
  unfold bm
  rw [hk, rw2_noM (by omega)]
  cases e : (List.replicate ((ckR p (k : Int)).length + 1) false)[x.index.toNat]? with
  | none => rfl
  | some b => rw [List.eq_of_mem_replicate (List.mem_of_getElem? e)]; rfl
theorem noM_take {n : Nat} {p : Pat} {k : Nat} (h : k < n) : (noM n p).take (k + 1) = (noM n p).take k ++ [List.replicate ((ckR p (k : Int)).length + 1) false] := by
  rw [List.take_add_one]; simp [noM, h]
/-- the marks are those of what can be reached -/
def RSpec (n : Nat) (p : Pat) (l : List Pt) (m : List (List Bool)) : Prop := Shp n p m ∧ ∀ x, VN n p x → (bm m x = true ↔ Rch n p l x)
theorem RSpec.uniq {n : Nat} {p : Pat} {l : List Pt} {m m' : List (List Bool)} (h : RSpec n p l m) (h' : RSpec n p l m') : m = m' := by
  have e1 := h.1.len; have e2 := h'.1.len
  refine List.ext_getElem (by omega) fun q h1 h2 => ?_
  have r1 : rw2 m (q : Int) = m[q] := by simp [rw2, h1]
  have r2 : rw2 m' (q : Int) = m'[q] := by simp [rw2, h2]
  have l1 := h.1.row q (by omega); have l2 := h'.1.row q (by omega)
  rw [r1] at l1; rw [r2] at l2
  refine List.ext_getElem (by omega) fun i h3 h4 => ?_
  have hv : VN n p ⟨(q : Int), (i : Int)⟩ := ⟨by simp only; omega, by simp only; omega, by simp only; omega, by simp only; omega⟩
  have b1 : bm m ⟨(q : Int), (i : Int)⟩ = m[q][i] := by simp [bm, r1, h3]
  have b2 : bm m' ⟨(q : Int), (i : Int)⟩ = m'[q][i] := by simp [bm, r2, h4]
  have := (h.2 _ hv).trans (h'.2 _ hv).symm
  rw [b1, b2] at this
  exact Bool.eq_iff_iff.2 this
/-- marks that are closed, contain the beginnings, and mark nothing else -/
theorem RSpec.of {n B : Nat} {p : Pat} (h : PatG n B p) {l : List Pt} {m : List (List Bool)} (hl : ∀ x ∈ l, VN n p x) (hs : Shp n p m) (h1 : ∀ x ∈ l, bm m x = true) (h2 : ∀ x, VN n p x → bm m x = true → Rch n p l x)
    (h3 : ∀ e, IsEdge n p e → bm m e.x0 = true → bm m e.x1 = true) : RSpec n p l m := by
  refine ⟨hs, fun x hx => ⟨h2 x hx, fun hr => ?_⟩⟩
  clear hx
  induction hr with
  | start hm => exact h1 _ hm
  | step hr he ih => exact h3 _ he ih
theorem rreach_g {fuel n B : Nat} {p : Pat} {l : List Pt} (h : PatG n B p) (hn : n ≤ 5) (hB : B ≤ 64) (hf : 1000000 < fuel) (hl : ∀ x ∈ l, VN n p x) (hll : l.length ≤ 1000) : Ok (ref20_Reach fuel p l) (RSpec n p l) := by
  have hk := h.ck
  have hw : ∀ q, (ckR p q).length ≤ 65 := fun q => by have := h.ckW q; omega
  unfold ref20_Reach
  refine Ok.bind (Q := fun t => t = noM n p) (Ok.for_ n (fun k s => s.2 = (k : Int) ∧ s.1 = (noM n p).take k) ⟨rfl, by simp⟩ (by omega) ?_) fun t ht => ?_
  · rintro k ⟨m, i⟩ hk2 ⟨hi, hm⟩
    simp only at hi hm
    subst hi hm
    simp only [ref20_Reach_B4]
    have hlen : (noM n p).length = n := by simp [noM]
    refine Ok.iteP (fun hkl => ?_) (fun hkl => Ok.ret ?_)
    · have := hw (k : Int)
      rw [ati_ck (by omega) (by omega), Option.bind_some, w64_nat (by omega), mkL_nat (by omega), Option.bind_some]
      refine (Ok.snoc (by simp; omega)).bind fun r hr => Ok.ret ⟨by omega, w64_nat (by omega), ?_⟩
      rw [hr, noM_take (by omega)]
    · exact List.take_of_length_le (by omega)
  · subst ht
    simp only [ref20_Reach_K1]
    refine Ok.bind (Q := fun m => Shp n p m ∧ (∀ x ∈ l, bm m x = true) ∧ ∀ x, VN n p x → bm m x = true → x ∈ l) (Ok.for_ l.length (fun k s => s.2 = (k : Int) ∧ Shp n p s.1 ∧ (∀ x ∈ l.take k, bm s.1 x = true) ∧ ∀ x, VN n p x → bm s.1 x = true → x ∈ l) ⟨rfl, noM_shp, by simp, fun x hx hb => by simp only at hb; rw [noM_bm hx] at hb; cases hb⟩ (by omega) ?_) ?_
    · rintro k ⟨m, i⟩ hk2 ⟨hi, hs, h1, h2⟩
      simp only at hi hs h1 h2
      subst hi
      simp only [ref20_Reach_B3]
      refine Ok.iteP (fun hkl => ?_) (fun hkl => Ok.ret ?_)
      · have hkl' : k < l.length := by omega
        have hx := hl l[k] (List.getElem_mem _)
        rw [ati_get hkl', Option.bind_some, hx.at1 hs, Option.bind_some, Option.bind_some, hx.at2 hs, Option.bind_some, hx.set2 hs, Option.bind_some, hx.set1 hs, Option.bind_some]
        refine Ok.ret ⟨by omega, w64_nat (by omega), hs.set hx, fun y hy => ?_, fun y hy hb => ?_⟩
        · simp only
          have hyv : VN n p y := hl y (List.mem_of_mem_take hy)
          rw [bm_setM hs hx hyv]
          rcases mem_take_succ'.1 hy with h3 | h3
          · simp [h1 y h3]
          · rw [List.getElem?_eq_getElem hkl'] at h3; cases h3; simp
        · simp only at hb
          rw [bm_setM hs hx hy] at hb
          simp only [Bool.or_eq_true, decide_eq_true_eq] at hb
          rcases hb with rfl | hb
          · exact List.getElem_mem _
          · exact h2 y hy hb
      · have e : k = l.length := by omega
        subst e
        rw [List.take_length] at h1
        exact ⟨hs, h1, h2⟩
    · rintro m0 ⟨hs0, hst0, hin0⟩
      simp only [ref20_Reach_K2]
      rw [show (⟨p.lens, p.ckpts, p.arcs⟩ : Pat) = p from rfl]
      refine (redges_g h hn hB hf).bind fun E hE => ?_
      have hEl := hE.2.2
      refine Ok.bind (Q := RSpec n p l) (Ok.run (fun k s => (2 * cnt s.1 + if s.2 = true then 1 else 0) ≤ k ∧ Shp n p s.1 ∧ (∀ x ∈ l, bm s.1 x = true) ∧ (∀ x, VN n p x → bm s.1 x = true → Rch n p l x) ∧ (s.2 = false → ∀ e ∈ E, bm s.1 e.x0 = true → bm s.1 e.x1 = true)) (m := 2 * cnt m0 + 1) ⟨by simp, hs0, hst0, fun x hx hb => .start (hin0 x hx hb), by simp⟩ (by have := hs0.cnt_le hn hw; omega) ?_) fun m hm => Ok.ret hm
      rintro k ⟨m, mv⟩ ⟨hkm, hs, hst, hsd, hcl⟩
      simp only at hkm hs hst hsd hcl
      simp only [ref20_Reach_B1]
      refine Ok.ite (fun e => ?_) (fun e => Ok.ret (RSpec.of h hl hs hst hsd fun e2 he => hcl e e2 ((hE.2.1 e2).2 he)))
      subst e
      simp only [if_true] at hkm
      refine Ok.bind (Q := fun t => Shp n p t.1 ∧ (∀ x ∈ l, bm t.1 x = true) ∧ (∀ x, VN n p x → bm t.1 x = true → Rch n p l x) ∧ (t.2 = false → t.1 = m ∧ ∀ e ∈ E, bm t.1 e.x0 = true → bm t.1 e.x1 = true) ∧ (t.2 = true → cnt t.1 < cnt m))
        (Ok.for_ E.length (fun i s => s.2.2 = (i : Int) ∧ Shp n p s.1 ∧ (∀ x ∈ l, bm s.1 x = true) ∧ (∀ x, VN n p x → bm s.1 x = true → Rch n p l x) ∧ (s.2.1 = false → s.1 = m ∧ ∀ e ∈ E.take i, bm s.1 e.x0 = true → bm s.1 e.x1 = true) ∧ (s.2.1 = true → cnt s.1 < cnt m)) ⟨rfl, hs, hst, hsd, by simp, by simp⟩ (by omega) ?_) ?_
      · rintro i ⟨m1, mv1, i1⟩ hi ⟨e1, hs1, hst1, hsd1, hf1, ht1⟩
        simp only at e1 hs1 hst1 hsd1 hf1 ht1
        subst e1
        simp only [ref20_Reach_B2]
        refine Ok.iteP (fun hil => ?_) (fun hil => Ok.ret ?_)
        · have hil' : i < E.length := by omega
          have he := (hE.2.1 E[i]).1 (List.getElem_mem _)
          have hv := he.vn h
          rw [ati_get hil', Option.bind_some, Option.bind_some]
          simp only [ref20_Reach_J1]
          rw [hv.1.at1 hs1, Option.bind_some, hv.1.at2 hs1, Option.bind_some, hv.2.at1 hs1, Option.bind_some, hv.2.at2 hs1, Option.bind_some, andM_some, Option.bind_some]
          refine Ok.ite (fun hc => ?_) (fun hc => Ok.ret ⟨by omega, w64_nat (by omega), hs1, hst1, hsd1, fun e2 => ⟨(hf1 e2).1, fun x hx hb => ?_⟩, ht1⟩)
          · simp only [Bool.and_eq_true, Bool.not_eq_true'] at hc
            rw [Option.bind_some, hv.2.at2 hs1, Option.bind_some, hv.2.set2 hs1, Option.bind_some, hv.2.set1 hs1, Option.bind_some]
            have hcnt := cnt_setM hs1 hv.2 hc.2
            refine Ok.ret ⟨by omega, w64_nat (by omega), hs1.set hv.2, fun x hx => ?_, fun x hx hb => ?_, by simp, fun _ => ?_⟩
            · simp only; rw [bm_setM hs1 hv.2 (hl x hx), hst1 x hx]; simp
            · simp only at hb
              rw [bm_setM hs1 hv.2 hx] at hb
              simp only [Bool.or_eq_true, decide_eq_true_eq] at hb
              rcases hb with rfl | hb
              · exact .step (hsd1 _ hv.1 hc.1) he
              · exact hsd1 x hx hb
            · simp only
              cases mv1 with
              | true => have := ht1 rfl; omega
              | false => rw [(hf1 rfl).1] at hcnt ⊢; omega
          · rcases mem_take_succ'.1 hx with h3 | h3
            · exact (hf1 e2).2 x h3 hb
            · rw [List.getElem?_eq_getElem hil'] at h3; cases h3
              cases hb2 : bm m1 (E[i]).x1 with
              | true => rfl
              | false => rw [hb, hb2] at hc; cases hc
        · have e : i = E.length := by omega
          subst e
          rw [List.take_length] at hf1
          exact ⟨hs1, hst1, hsd1, hf1, ht1⟩
      · rintro ⟨m1, mv1⟩ ⟨hs1, hst1, hsd1, hf1, ht1⟩
        simp only at hs1 hst1 hsd1 hf1 ht1
        simp only [ref20_Reach_K4]
        cases mv1 with
        | true => have := ht1 rfl; exact Ok.ret ⟨2 * cnt m1 + 1, by omega, by simp, hs1, hst1, hsd1, by simp⟩
        | false => have := hf1 rfl; exact Ok.ret ⟨2 * cnt m1, by rw [this.1]; omega, by simp, hs1, hst1, hsd1, fun _ => this.2⟩
end Go.Mine
