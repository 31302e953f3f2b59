/- Zigzag paths, plain: the greatest consistent global checkpoint that contains checkpoints, and the theorem of Netzer and Xu. -/
import Derived.Test.YtlceljfigccllaaP21a
set_option linter.unusedSimpArgs false
set_option linter.unusedVariables false
namespace Go.Mine
open Go.RowKit
def Cnt (l : List Pt) (y : List Int) : Prop := ∀ x ∈ l, nI y x.proc = x.index
/-- a consistent global checkpoint that contains checkpoints -/
def Good (n : Nat) (p : Pat) (l : List Pt) (y : List Int) : Prop := NumV n p y ∧ Cons p.arcs (cutOf n p y) ∧ Cnt l y
def ExtS (n : Nat) (p : Pat) (l : List Pt) (r : List Int × Bool) : Prop :=
  (r.2 = true ∧ Good n p l r.1 ∧ ∀ y, Good n p l y → Le y r.1) ∨ (r = ([], false) ∧ ∀ y, ¬ Good n p l y)
theorem Le.anti {n : Nat} {x y : List Int} (hx : x.length = n) (hy : y.length = n) (h1 : Le x y) (h2 : Le y x) : x = y :=
  list_ext_nI (by omega) fun q hq => by have := h1 q hq; have := h2 q (by omega); omega
theorem ExtS.uniq {n : Nat} {p : Pat} {l : List Pt} {r s : List Int × Bool} (h : ExtS n p l r) (h' : ExtS n p l s) : r = s := by
  rcases h with ⟨h1, h2, h3⟩ | ⟨h1, h2⟩
  · rcases h' with ⟨k1, k2, k3⟩ | ⟨k1, k2⟩
    · exact Prod.ext (Le.anti h2.1.1 k2.1.1 (k3 _ h2) (h3 _ k2)) (h1.trans k1.symm)
    · exact absurd h2 (k2 _)
  · rcases h' with ⟨k1, k2, k3⟩ | ⟨k1, k2⟩
    · exact absurd k2 (h2 _)
    · rw [h1, k1]
theorem ExtS.len {n : Nat} {p : Pat} {l : List Pt} {r : List Int × Bool} (h : ExtS n p l r) : r.1.length ≤ n := by
  rcases h with ⟨_, h, _⟩ | ⟨h, _⟩
  · exact Nat.le_of_eq h.1.1
  · subst h; simp
theorem nI_cut {n : Nat} {p : Pat} {y : List Int} {q : Int} (h0 : 0 ≤ q) (h1 : q < n) : nI (cutOf n p y) q = cidx p q (nI y q) := by
  obtain ⟨k, rfl⟩ := Int.eq_ofNat_of_zero_le h0
  exact nI_map (by omega)
/-! which checkpoints are given -/
def FixS (n : Nat) (l : List Pt) (f : List Int) : Prop := f.length = n ∧ ∀ q : Nat, q < n → (nI f q = -1 ∧ ∀ x ∈ l, x.proc ≠ q) ∨ (0 ≤ nI f q ∧ (∃ x ∈ l, x.proc = q) ∧ ∀ x ∈ l, x.proc = q → x.index = nI f q)
theorem fixed_g {n B : Nat} {p : Pat} (h : PatG n B p) (hn : n ≤ 5) {l : List Pt} (hl : ∀ x ∈ l, VN n p x) (hll : l.length ≤ 1000) {G : List Pt2} :
    Ok (zigzag_graph_fixed 10000000 l p.lens p.ckpts p.arcs G) fun r => (r.2 = true ∧ FixS n l r.1) ∨ (r.2 = false ∧ ∃ x ∈ l, ∃ y ∈ l, x.proc = y.proc ∧ x.index ≠ y.index) := by
  have hk := h.ck
  unfold zigzag_graph_fixed
  rw [mkL_nat (by omega), Option.bind_some, hk]
  refine Ok.bind (Q := fun t => t.length = n ∧ ∀ q : Nat, q < n → nI t q = -1) (Ok.for_ n (fun k s => s.2 = (k : Int) ∧ s.1.length = n ∧ ∀ q : Nat, q < k → nI s.1 q = -1) ⟨rfl, by simp, fun q hq => by omega⟩ (by omega) ?_) fun f0 ⟨l1, l2⟩ => ?_
  · rintro k ⟨L, i⟩ hk2 ⟨hi, hLl, h1⟩
    simp only at hi hLl h1
    subst hi
    simp only [zigzag_graph_fixed_B2, List.length_replicate]
    refine Ok.iteP (fun hkl => ?_) (fun hkl => Ok.ret ⟨hLl, fun q hq => h1 q (by omega)⟩)
    refine (Ok.at (by omega) (by omega)).bind fun _ _ => (Ok.set (by omega) (by omega)).bind fun L2 hL2 => Ok.ret ⟨by omega, w64_nat (by omega), ?_⟩
    subst hL2
    refine ⟨by simp [hLl], fun q hq => ?_⟩
    simp only
    rw [nI_set (by omega) (by omega) (by omega)]
    split
    · rfl
    · exact h1 q (by omega)
  · unfold zigzag_graph_fixed_K1
    refine Ok.bind (Q := fun t => match t with | .inl f => FixS n l f | .inr r => r.2 = false ∧ ∃ x ∈ l, ∃ y ∈ l, x.proc = y.proc ∧ x.index ≠ y.index) (Ok.for_ l.length (fun k s => s.2 = (k : Int) ∧ FixS n (l.take k) s.1) ⟨rfl, l1, fun q hq => .inl ⟨l2 q hq, by simp⟩⟩ (by omega) ?_) ?_
    · rintro k ⟨f, i⟩ hk2 ⟨hi, hf⟩
      simp only at hi hf
      subst hi
      have hfl := hf.1
      simp only [zigzag_graph_fixed_B1]
      refine Ok.iteP (fun hkl => ?_) (fun hkl => Ok.ret ?_)
      · have hkl' : k < l.length := by omega
        have hv := hl l[k] (List.getElem_mem _)
        have hmem : ∀ e, e ∈ l.take (k + 1) ↔ e ∈ l.take k ∨ e = l[k] := fun e => by rw [mem_take_succ', List.getElem?_eq_getElem hkl', Option.some.injEq, eq_comm (a := l[k])]
        have p1 := hv.p1
        rw [ati_get hkl', Option.bind_some, ati_nI hv.p0 (by omega), Option.bind_some, andM_some, Option.bind_some]
        obtain ⟨q, hq⟩ := Int.eq_ofNat_of_zero_le hv.p0
        have hqn : q < n := by omega
        refine Ok.ite (fun hc => Ok.ret ?_) fun hc => ?_
        · simp at hc
          rw [hq] at hc
          rcases hf.2 q hqn with ⟨h1, _⟩ | ⟨h1, ⟨x, h2, h3⟩, h4⟩
          · omega
          · exact ⟨rfl, x, List.mem_of_mem_take h2, l[k], List.getElem_mem _, by rw [h3, hq], by rw [h4 x h2 h3]; exact hc.2⟩
        · simp at hc
          rw [Option.bind_some]
          refine (Ok.set hv.p0 (by omega)).bind fun f2 hf2 => Ok.ret ⟨by omega, w64_nat (by omega), ?_⟩
          have hset : ∀ j : Nat, nI f2 j = if (j : Int) = (l[k]).proc then (l[k]).index else nI f j := fun j => by rw [hf2]; exact nI_set hv.p0 (by omega) (by omega)
          refine ⟨by rw [hf2]; simp [hfl], fun j hj => ?_⟩
          simp only
          rw [hset j]
          by_cases e : (j : Int) = (l[k]).proc
          · rw [if_pos e]
            refine .inr ⟨hv.i0, ⟨l[k], (hmem _).2 (.inr rfl), e.symm⟩, fun x hx hxp => ?_⟩
            rcases (hmem x).1 hx with h5 | rfl
            · rcases hf.2 j hj with ⟨_, h6⟩ | ⟨h6, _, h7⟩
              · exact absurd hxp (h6 x h5)
              · rw [h7 x h5 hxp]
                rw [← e] at hc
                exact hc h6
            · rfl
          · rw [if_neg e]
            rcases hf.2 j hj with ⟨h6, h7⟩ | ⟨h6, ⟨x, h7, h8⟩, h9⟩
            · refine .inl ⟨h6, fun x hx => ?_⟩
              rcases (hmem x).1 hx with h5 | rfl
              · exact h7 x h5
              · exact fun e2 => e e2.symm
            · refine .inr ⟨h6, ⟨x, (hmem _).2 (.inl h7), h8⟩, fun y hy hyp => ?_⟩
              rcases (hmem y).1 hy with h5 | rfl
              · exact h9 y h5 hyp
              · exact absurd hyp.symm e
      · have e : k = l.length := by omega
        subst e
        rw [List.take_length] at hf
        exact hf
    · rintro (f | r) ht
      · exact Ok.ret (.inl ⟨rfl, ht⟩)
      · exact Ok.ret (.inr ht)
/-! vectors that are known -/
def MemoV (n : Nat) (p : Pat) (m : List (Pt × List Int)) : Prop := ∀ (x : Pt) (c : List Int), mget m x = some c → c = dvL n p x
theorem vector_g {n B : Nat} {p : Pat} (h : PatG n B p) (hn : n ≤ 5) (hB : B ≤ 64) {x : Pt} (hx : VN n p x) {G : List Pt2} {m : List (Pt × List Int)} (hm : MemoV n p m) : Ok (zigzag_graph_vector 10000000 x p.lens p.ckpts p.arcs G m) fun t => t.1 = dvL n p x ∧ MemoV n p t.2 := by
  unfold zigzag_graph_vector
  rw [Option.bind_some, show (⟨x.proc, x.index⟩ : Pt) = x from rfl]
  refine Ok.ite (fun hs => ?_) fun hs => Ok.ret ⟨?_, hm⟩
  · rw [show (⟨p.lens, p.ckpts, p.arcs⟩ : Pat) = p from rfl, Ckpt_g h hn hB hx, Option.bind_some, Option.bind_some]
    refine Ok.ret ⟨rfl, fun y c hc => ?_⟩
    simp only at hc
    rw [mget_mput] at hc
    split at hc
    · rename_i e; cases hc; rw [e]
    · exact hm y c hc
  · simp at hs
    obtain ⟨c, hc⟩ := Option.isSome_iff_exists.1 hs
    simp only [hc, Option.getD_some]
    exact hm x c hc
def Exc (n : Nat) (p : Pat) (q : Nat) (i : Int) (y : List Int) : Prop := ∃ s : Nat, s < n ∧ s ≠ q ∧ nI y s < (dv p ⟨q, i⟩ s : Int)
theorem nI_dvL {n : Nat} {p : Pat} {x : Pt} {s : Nat} (h : s < n) : nI (dvL n p x) s = (dv p x s : Int) := nI_map h
theorem exceeds_g {n B : Nat} {p : Pat} (h : PatG n B p) (hn : n ≤ 5) (hB : B ≤ 64) {q : Nat} {i : Int} (hx : VN n p ⟨q, i⟩) {G : List Pt2} {m : List (Pt × List Int)} (hm : MemoV n p m) {y : List Int} (hy : y.length = n) :
    Ok (zigzag_graph_exceeds 10000000 q i p.lens p.ckpts p.arcs G m y) fun t => (t.1 = true ↔ Exc n p q i y) ∧ MemoV n p t.2 := by
  unfold zigzag_graph_exceeds
  refine (vector_g h hn hB hx hm).bind fun v ⟨v1, v2⟩ => ?_
  have hvl : v.1.length = n := by rw [v1]; simp [dvL]
  refine Ok.bind (Q := fun t => match t with | .inl _ => ¬ Exc n p q i y | .inr r => r.1 = true ∧ Exc n p q i y ∧ r.2 = v.2) (Ok.for_ n (fun k s => s = (k : Int) ∧ ∀ s' : Nat, s' < k → s' ≠ q → (dv p ⟨q, i⟩ s' : Int) ≤ nI y s') ⟨rfl, fun s hs => by omega⟩ (by omega) ?_) ?_
  · rintro k s hk ⟨rfl, h1⟩
    unfold zigzag_graph_exceeds_B1
    refine Ok.iteP (fun hkl => ?_) (fun hkl => Ok.ret ?_)
    · have hkn : k < n := by omega
      rw [ati_nI (by omega) hkl, Option.bind_some, ati_nI (by omega) (by omega), Option.bind_some, andM_some, Option.bind_some, v1, nI_dvL hkn]
      refine Ok.ite (fun hc => Ok.ret ?_) (fun hc => Ok.ret ⟨hkn, w64_nat (by omega), fun s' hs' hne => ?_⟩)
      · simp at hc
        exact ⟨rfl, ⟨k, hkn, by omega, hc.2⟩, rfl⟩
      · rcases Nat.lt_succ_iff_lt_or_eq.1 hs' with h5 | rfl
        · exact h1 s' h5 hne
        · simp at hc; exact hc (by omega)
    · rintro ⟨s', h5, h6, h7⟩
      have := h1 s' (by omega) h6; omega
  · rintro (u | r) ht
    · simp only [Sum.elim_inl, zigzag_graph_exceeds_K1]
      exact Ok.ret ⟨⟨(fun h => by cases h), fun h => absurd h ht⟩, v2⟩
    · exact Ok.ret ⟨⟨fun _ => ht.2.1, fun _ => ht.1⟩, by rw [ht.2.2]; exact v2⟩
/-! sums -/
def smN (x : List Int) : Nat := (x.map Int.toNat).sum
theorem smN_set : ∀ {x : List Int} {i : Nat} {v w : Int}, x[i]? = some v → smN (x.set i w) + v.toNat = smN x + w.toNat
  | [], i, v, w, h => by simp at h
  | a :: x, 0, v, w, h => by simp at h; subst h; simp [smN]; omega
  | a :: x, i + 1, v, w, h => by have := smN_set (x := x) (i := i) (v := v) (w := w) (by simpa using h); simp [smN] at this ⊢; omega
theorem smN_le {B : Nat} : ∀ {x : List Int}, (∀ y ∈ x, y ≤ (B : Int)) → smN x ≤ x.length * B
  | [], h => by simp [smN]
  | a :: x, h => by
    have := smN_le (x := x) fun y hy => h y (by simp [hy])
    have h2 := h a (by simp)
    simp only [smN, List.map_cons, List.sum_cons, List.length_cons, Nat.add_mul, Nat.one_mul] at this ⊢
    omega
theorem NumV.sm {n B : Nat} {p : Pat} (h : PatG n B p) (hn : n ≤ 5) (hB : B ≤ 64) {y : List Int} (hy : NumV n p y) : smN y ≤ 325 := by
  have := smN_le (B := 65) (x := y) fun v hv => by
    obtain ⟨i, hi, rfl⟩ := List.getElem_of_mem hv
    have := (hy.2 i (by have := hy.1; omega)).2
    rw [nI_get hi] at this
    have := h.ckW (i : Int); omega
  have := hy.1; omega
theorem NumV.dec {n : Nat} {p : Pat} {y : List Int} (hy : NumV n p y) {q : Nat} (hq : q < n) (h1 : 1 ≤ nI y q) : NumV n p (y.set q (nI y q - 1)) ∧ smN (y.set q (nI y q - 1)) + 1 = smN y ∧ ∀ j : Nat, nI (y.set q (nI y q - 1)) j = if j = q then nI y q - 1 else nI y j := by
  have hl := hy.1
  have hset : ∀ j : Nat, nI (y.set q (nI y q - 1)) j = if j = q then nI y q - 1 else nI y j := fun j => by
    have := nI_set (xs := y) (i := (q : Int)) (j := (j : Int)) (x := nI y q - 1) (by omega) (by omega) (by omega)
    rw [Int.toNat_natCast] at this
    rw [this]
    by_cases e : j = q
    · subst e; simp
    · rw [if_neg (by omega), if_neg e]
  refine ⟨⟨by simp [hl], fun j hj => ?_⟩, ?_, hset⟩
  · rw [hset j]
    split
    · rename_i e; subst e; have := hy.2 j hj; omega
    · exact hy.2 j hj
  · have := smN_set (x := y) (i := q) (v := nI y q) (w := nI y q - 1) (nI_get? (by omega))
    omega
theorem num_vn {n : Nat} {p : Pat} {y : List Int} (hy : NumV n p y) {q : Nat} (hq : q < n) : VN n p ⟨(q : Int), nI y q⟩ := ⟨by simp only; omega, by simp only; omega, (hy.2 q hq).1, (hy.2 q hq).2⟩
theorem dv_zero {n B : Nat} {p : Pat} (h : PatG n B p) (hn : n ≤ 5) (hB : B ≤ 64) {q s : Nat} (hq : q < n) (hs : s < n) : dv p ⟨q, 0⟩ s = 0 := by
  unfold dv
  simp only
  rw [cidx_zero h (by omega) (by omega)]
  obtain ⟨_, hc⟩ := clk_s h hn hB (q := (q : Int)) (k := 0) (by omega) (by omega) (Int.le_refl _) (h.nI_rng q).1
  obtain ⟨c1, c2, c3⟩ := hc.2 s hs
  have : nI (clk p q 0) s = 0 := by
    rcases Int.lt_or_le (nI (clk p q 0) s) 1 with h5 | h5
    · omega
    · have := (c3 h5).zero h; omega
  rw [this]
  have hcg := h.ckI (q := (s : Int)) (by omega) (by omega)
  unfold ivl
  rw [List.countP_eq_zero]
  intro y hy
  have := hcg.nonneg y hy
  simp; omega
theorem extension_g {n B : Nat} {p : Pat} (h : PatG n B p) (hn : n ≤ 5) (hB : B ≤ 64) {l : List Pt} (hl : ∀ x ∈ l, VN n p x) (hll : l.length ≤ 1000) : Ok (zigzag_Extension 10000000 p l) (ExtS n p l) := by
  have hk := h.ck
  have hw : ∀ q, (ckR p q).length ≤ 65 := fun q => by have := h.ckW q; omega
  unfold zigzag_Extension
  rw [show (⟨p.lens, p.ckpts, p.arcs⟩ : Pat) = p from rfl]
  refine (newGraph_g h hn hB hl hll).bind fun g ⟨g1, g2, g3, g4, g5, g6⟩ => ?_
  rw [g6]
  simp only [Bool.not_true, Bool.false_eq_true, if_false]
  rw [g1, g2, g3]
  refine (fixed_g h hn hl hll).bind fun f hf => ?_
  rcases hf with ⟨f1, f2⟩ | ⟨f1, x, hx, z, hz, e1, e2⟩
  · rw [f1]
    simp only [Bool.not_true, Bool.false_eq_true, if_false]
    have hfl := f2.1
    rw [mkL_nat (by omega), Option.bind_some, hfl]
    have hgood : ∀ y, Good n p l y → ∀ q : Nat, q < n → 0 ≤ nI f.1 q → nI y q = nI f.1 q := fun y hy q hq h0 => by
      rcases f2.2 q hq with ⟨h1, _⟩ | ⟨_, ⟨x, h2, h3⟩, h4⟩
      · omega
      · have := hy.2.2 x h2
        rw [h3] at this; rw [this]; exact h4 x h2 h3
    refine Ok.bind (Q := fun t => t.length = n ∧ ∀ q : Nat, q < n → nI t q = if nI f.1 q < 0 then ((ckR p q).length : Int) else nI f.1 q) (Ok.for_ n (fun k s => s.2 = (k : Int) ∧ s.1.length = n ∧ ∀ q : Nat, q < k → nI s.1 q = if nI f.1 q < 0 then ((ckR p q).length : Int) else nI f.1 q) ⟨rfl, by simp, fun q hq => by omega⟩ (by omega) ?_) fun y0 ⟨y1, y2⟩ => ?_
    · rintro k ⟨x, i⟩ hk2 ⟨hi, hxl, hx⟩
      simp only at hi hxl hx
      subst hi
      simp only [zigzag_Extension_B3]
      refine Ok.iteP (fun hkl => ?_) (fun hkl => Ok.ret ⟨hxl, fun q hq => hx q (by omega)⟩)
      have hkn : k < n := by omega
      rw [ati_nI (by omega) (by omega), Option.bind_some]
      refine (Ok.at (by omega) (by omega)).bind fun _ _ => (Ok.set (by omega) (by omega)).bind fun x2 hx2 => ?_
      rw [Int.toNat_natCast] at hx2
      have hset : ∀ (x : List Int) (v : Int), x.length = n → ∀ q : Nat, nI (x.set k v) q = if (q : Int) = k then v else nI x q := fun x v hxl q => by
        have := nI_set (xs := x) (i := (k : Int)) (j := (q : Int)) (x := v) (by omega) (by omega) (by omega)
        simpa using this
      refine Ok.iteP (fun hneg => ?_) (fun hneg => Ok.ret ⟨hkn, w64_nat (by omega), by rw [hx2]; simp [hxl], fun q hq => ?_⟩)
      · rw [ati_ck (by omega) (by omega), Option.bind_some]
        refine (Ok.at (by omega) (by rw [hx2]; simp; omega)).bind fun _ _ => (Ok.set (by omega) (by rw [hx2]; simp; omega)).bind fun x3 hx3 => Ok.ret ⟨hkn, w64_nat (by omega), ?_⟩
        rw [Int.toNat_natCast] at hx3
        subst hx3 hx2
        refine ⟨by simp [hxl], fun q hq => ?_⟩
        simp only
        rw [hset _ _ (by simp [hxl]) q, hset _ _ hxl q]
        split
        · rename_i e; have : q = k := by omega
          subst this; rw [if_pos hneg]
        · exact hx q (by omega)
      · simp only; rw [hx2, hset _ _ hxl q]
        split
        · rename_i e; have : q = k := by omega
          subst this; rw [if_neg hneg]
        · exact hx q (by omega)
    · have hv0 : NumV n p y0 := ⟨y1, fun q hq => by
        rw [y2 q hq]
        split
        · omega
        · rename_i hneg
          rcases f2.2 q hq with ⟨h1, _⟩ | ⟨h0, ⟨x, h2, h3⟩, h4⟩
          · omega
          · have hvx := hl x h2
            have := hvx.i1
            rw [h4 x h2 h3, h3] at this
            exact ⟨h0, this⟩⟩
      unfold zigzag_Extension_K1
      rw [g5]
      refine Ok.bind (Q := ExtS n p l) (Ok.run (fun k s => s.1 = g.2.2.2.1 ∧ MemoV n p s.2.1 ∧ NumV n p s.2.2 ∧ smN s.2.2 ≤ k ∧ (∀ y, Good n p l y → Le y s.2.2) ∧ ∀ q : Nat, q < n → 0 ≤ nI f.1 q → nI s.2.2 q = nI f.1 q) (m := 325) ⟨rfl, (fun x c hc => by cases hc), hv0, hv0.sm h hn hB, fun y hy q hq => ?_, (fun q hq h0 => by rw [y2 q hq, if_neg (by omega)])⟩ (by omega) ?_) fun t ht => Ok.ret ht
      · have hqn : q < n := by rw [hy.1.1] at hq; exact hq
        rw [y2 q hqn]
        split
        · exact (hy.1.2 q hqn).2
        · rw [hgood y hy q hqn (by omega)]; exact Int.le_refl _
      · rintro k ⟨G, m, y⟩ ⟨e1, hm, hy, hsm, hbest, hfix⟩
        simp only at e1 hm hy hsm hbest hfix
        subst e1
        have hyl := hy.1
        simp only [zigzag_Extension_B1]
        refine Ok.bind (Q := fun t => match t with
            | .inl r => MemoV n p r.1 ∧ ∃ q : Nat, q < n ∧ Exc n p q (nI y q) y ∧ nI f.1 q < 0 ∧ r.2 = y.set q (nI y q - 1)
            | .inr (.inl _) => ∀ q : Nat, q < n → ¬ Exc n p q (nI y q) y
            | .inr (.inr r) => r = ([], false) ∧ ∃ q : Nat, q < n ∧ Exc n p q (nI y q) y ∧ 0 ≤ nI f.1 q)
          (Ok.for_ n (fun i s => s.2 = (i : Int) ∧ MemoV n p s.1 ∧ ∀ q : Nat, q < i → ¬ Exc n p q (nI y q) y) ⟨rfl, hm, fun q hq => by omega⟩ (by omega) ?_) ?_
        · rintro i ⟨m1, i1⟩ hi ⟨e2, hm1, hno⟩
          simp only at e2 hm1 hno
          subst e2
          simp only [zigzag_Extension_B2]
          refine Ok.iteP (fun hil => ?_) (fun hil => Ok.ret fun q hq => hno q (by omega))
          have hin : i < n := by omega
          rw [ati_nI (by omega) (by omega), Option.bind_some, g1, g2, g3]
          refine (exceeds_g h hn hB (num_vn hy hin) hm1 hyl).bind fun t ⟨t1, t2⟩ => ?_
          refine Ok.ite (fun hc => Ok.ret ⟨hin, w64_nat (by omega), t2, fun q hq => ?_⟩) fun hc => ?_
          · rcases Nat.lt_succ_iff_lt_or_eq.1 hq with h5 | rfl
            · exact hno q h5
            · intro hx; rw [t1.2 hx] at hc; cases hc
          · have hex : Exc n p i (nI y i) y := t1.1 (by simpa using hc)
            rw [ati_nI (by omega) (by omega), Option.bind_some]
            refine Ok.iteP (fun h0 => Ok.ret ⟨rfl, i, hin, hex, h0⟩) fun h0 => ?_
            rw [Option.bind_some, Option.bind_some]
            have := hy.2 i hin; have := hw i
            refine (Ok.set (by omega) (by omega)).bind fun y3 hy3 => Ok.ret ⟨t2, i, hin, hex, by omega, ?_⟩
            rw [hy3, Int.toNat_natCast, w64_id (by omega) (by omega)]
        · have hpos : ∀ q : Nat, q < n → Exc n p q (nI y q) y → 1 ≤ nI y q := fun q hq ⟨s, h1, h2, h3⟩ => by
            rcases Int.lt_or_le 0 (nI y q) with h5 | h5
            · omega
            · exfalso
              have e : nI y q = 0 := by have := (hy.2 q hq).1; omega
              rw [e, dv_zero h hn hB hq h1] at h3
              have := (hy.2 s h1).1; omega
          -- what exceeds is behind every consistent one
          have hlow : ∀ q : Nat, q < n → Exc n p q (nI y q) y → ∀ z, Good n p l z → nI z q < nI y q := fun q hq ⟨s, h1, h2, h3⟩ z hz => by
            have hle := hbest z hz q (by rw [hz.1.1]; exact hq)
            rcases Int.lt_or_le (nI z q) (nI y q) with h5 | h5
            · exact h5
            · exfalso
              have e : nI z q = nI y q := by omega
              have := (glob_cons h hn hB hz.1).2 hz.2.1 q s hq h1 h2
              rw [e] at this
              have := hbest z hz s (by rw [hz.1.1]; exact h1)
              omega
          rintro (r | u | r) ht
          · obtain ⟨r1, q, hq, hex, hneg, hr⟩ := ht
            have hp1 := hpos q hq hex
            obtain ⟨d1, d2, d3⟩ := hy.dec hq hp1
            simp only [Sum.elim_inl, zigzag_Extension_K2]
            refine Ok.ret ⟨smN r.2, by rw [hr]; omega, rfl, r1, by rw [hr]; exact d1, Nat.le_refl _, fun z hz j hj => ?_, fun j hj h0 => ?_⟩
            · simp only; rw [hr, d3 j]
              split
              · rename_i e; subst e; have := hlow j hq hex z hz; omega
              · exact hbest z hz j hj
            · simp only; rw [hr, d3 j]
              split
              · rename_i e; subst e; omega
              · exact hfix j hj h0
          · simp only [Sum.elim_inl, Sum.elim_inr, zigzag_Extension_K3]
            refine Ok.ret (.inl ⟨rfl, ⟨hy, (glob_cons h hn hB hy).1 fun q s hq hs hne => ?_, fun x hx => ?_⟩, hbest⟩)
            · rcases Int.lt_or_le (nI y s) (dv p ⟨q, nI y q⟩ s) with h5 | h5
              · exact absurd ⟨s, hs, hne, h5⟩ (ht q hq)
              · exact h5
            · have hvx := hl x hx
              obtain ⟨q, hq⟩ := Int.eq_ofNat_of_zero_le hvx.p0
              have hqn : q < n := by have := hvx.p1; omega
              rcases f2.2 q hqn with ⟨_, h2⟩ | ⟨h0, _, h4⟩
              · exact absurd hq (h2 x hx)
              · rw [hq, hfix q hqn h0, h4 x hx hq]
          · obtain ⟨hr, q, hq, hex, h0⟩ := ht
            simp only [Sum.elim_inr]
            refine Ok.ret (.inr ⟨hr, fun z hz => ?_⟩)
            have h5 := hlow q hq hex z hz
            rw [hgood z hz q hq h0, hfix q hq h0] at h5
            omega
  · rw [f1]
    simp only [Bool.not_false, if_true]
    refine Ok.ret (.inr ⟨rfl, fun y hy => e2 ?_⟩)
    rw [← hy.2.2 x hx, ← hy.2.2 z hz, e1]
/-! the theorem of Netzer and Xu -/
theorem exists_max {P : Nat → Prop} (h0 : P 0) : ∀ N : Nat, ∃ k, k ≤ N ∧ P k ∧ ∀ j, j ≤ N → P j → j ≤ k
  | 0 => ⟨0, Nat.le_refl _, h0, fun j hj _ => hj⟩
  | N + 1 => by
    by_cases hN : P (N + 1)
    · exact ⟨N + 1, Nat.le_refl _, hN, fun j hj _ => hj⟩
    · obtain ⟨k, h1, h2, h3⟩ := exists_max h0 N
      refine ⟨k, by omega, h2, fun j hj hp => ?_⟩
      rcases Nat.lt_or_ge j (N + 1) with h5 | h5
      · exact h3 j (by omega) hp
      · have : j = N + 1 := by omega
        subst this; exact absurd hp hN
def ExtP (p : Pat) (l : List Pt) : Prop := (∀ x ∈ l, ∀ z ∈ l, x.proc = z.proc → x.index = z.index) ∧ ∀ x ∈ l, ∀ z ∈ l, ¬ zpath p x z
theorem ivl_gt {n B : Nat} {p : Pat} (h : PatG n B p) {q : Int} {y c : Int} (h0 : 0 ≤ q) (h1 : q < n) (hy0 : 0 ≤ y) (hy : y ≤ (ckR p q).length) (hc : c ≤ nI p.lens q) : y < (ivl (ckR p q) c : Int) ↔ cidx p q y < c := by
  obtain ⟨k, rfl⟩ := Int.eq_ofNat_of_zero_le hy0
  have := ivl_cidx h (y := k) h0 h1 (by omega) hc
  constructor
  · intro h5
    rcases Int.lt_or_le (cidx p q k) c with h6 | h6
    · exact h6
    · have := this.2 h6; omega
  · intro h5
    rcases Nat.lt_or_ge k (ivl (ckR p q) c) with h6 | h6
    · omega
    · have := this.1 h6; omega
/-- Z-paths from a consistent global checkpoint arrive behind it -/
theorem za_behind {n B : Nat} {p : Pat} (h : PatG n B p) {y : List Int} (hy : NumV n p y) (hc : Cons p.arcs (cutOf n p y)) {x v : Pt} (hx : nI y x.proc = x.index) (hz : ZA p x v) : nI y v.proc < v.index := by
  have hyI : ∀ q : Int, 0 ≤ q → q < n → 0 ≤ nI y q ∧ nI y q ≤ (ckR p q).length := fun q h0 h1 => by
    obtain ⟨k, rfl⟩ := Int.eq_ofNat_of_zero_le h0
    exact hy.2 k (by omega)
  have key : ∀ r, r ∈ p.arcs → r.rcv ≠ 0 → nI y r.fr < (ivl (ckR p r.fr) r.ix : Int) → nI y (arcE p r).x1.proc < (arcE p r).x1.index := fun r h1 h2 h3 => by
    have hag := h.arc r h1
    obtain ⟨a1, a2⟩ := hyI r.fr hag.fr.1 hag.fr.2
    obtain ⟨b1, b2⟩ := hyI r.to hag.to.1 hag.to.2
    have h4 := (ivl_gt h hag.fr.1 hag.fr.2 a1 a2 hag.ix.2).1 h3
    have h5 := orph_not.1 (hc r h1)
    rw [nI_cut hag.to.1 hag.to.2, nI_cut hag.fr.1 hag.fr.2] at h5
    simp only [arcE]
    exact (ivl_gt h hag.to.1 hag.to.2 b1 b2 hag.rcv.2).2 (by omega)
  induction hz with
  | first h1 h2 h3 h4 => exact key _ h1 h2 (by rw [h3, hx]; rw [h3] at h4; exact h4)
  | next _ h1 h2 h3 h4 ih => exact key _ h1 h2 (by rw [h3] at h4 ⊢; omega)
theorem netzer_xu {n B : Nat} {p : Pat} (h : PatG n B p) (hB : B ≤ 64) {l : List Pt} (hl : ∀ x ∈ l, VN n p x) : (∃ y, Good n p l y) ↔ ExtP p l := by
  constructor
  · rintro ⟨y, hy, hc, hcn⟩
    refine ⟨fun x hx z hz e => by rw [← hcn x hx, ← hcn z hz, e], fun x hx z hz ⟨v, h1, h2, h3⟩ => ?_⟩
    have := za_behind h hy hc (hcn x hx) h1
    rw [h2, hcn z hz] at this; omega
  · rintro ⟨hsame, hno⟩
    -- where it lies
    have hex : ∀ q : Nat, q < n → ∃ k : Nat, k ≤ (ckR p q).length ∧ ((∃ x ∈ l, x.proc = q ∧ x.index = k) ∨ ((∀ x ∈ l, x.proc ≠ q) ∧ (∀ x ∈ l, ∀ v, ZA p x v → v.proc = q → (k : Int) < v.index) ∧ ∀ j : Nat, j ≤ (ckR p q).length → (∀ x ∈ l, ∀ v, ZA p x v → v.proc = q → (j : Int) < v.index) → j ≤ k)) := fun q hq => by
      by_cases hin : ∃ x ∈ l, x.proc = q
      · obtain ⟨x, hx, hxq⟩ := hin
        have hv := hl x hx
        obtain ⟨k, hk⟩ := Int.eq_ofNat_of_zero_le hv.i0
        refine ⟨k, ?_, .inl ⟨x, hx, hxq, hk⟩⟩
        have := hv.i1; rw [hxq] at this; omega
      · obtain ⟨k, h1, h2, h3⟩ := exists_max (P := fun k => ∀ x ∈ l, ∀ v, ZA p x v → v.proc = q → (k : Int) < v.index) (fun x hx v hv _ => by have := (hv.vx (n := n) h hB).2.1; omega) (ckR p q).length
        exact ⟨k, h1, .inr ⟨fun x hx e => hin ⟨x, hx, e⟩, h2, h3⟩⟩
    have hch : ∃ g : Nat → Nat, ∀ q : Nat, q < n → g q ≤ (ckR p q).length ∧ ((∃ x ∈ l, x.proc = q ∧ x.index = g q) ∨ ((∀ x ∈ l, x.proc ≠ q) ∧ (∀ x ∈ l, ∀ v, ZA p x v → v.proc = q → (g q : Int) < v.index) ∧ ∀ j : Nat, j ≤ (ckR p q).length → (∀ x ∈ l, ∀ v, ZA p x v → v.proc = q → (j : Int) < v.index) → j ≤ g q)) :=
      ⟨fun q => if hq : q < n then (hex q hq).choose else 0, fun q hq => by simp only [dif_pos hq]; exact (hex q hq).choose_spec⟩
    obtain ⟨g, hg⟩ := hch
    have hyq : ∀ q : Nat, q < n → nI ((List.range n).map fun (q : Nat) => (g q : Int)) q = g q := fun q hq => nI_map hq
    refine ⟨(List.range n).map fun (q : Nat) => (g q : Int), ⟨by simp, fun q hq => ?_⟩, fun r hr => ?_, fun x hx => ?_⟩
    · rw [hyq q hq]; have := (hg q hq).1; omega
    · rw [orph_not]
      rintro ⟨hrc, hto, hfr⟩
      have hag := h.arc r hr
      rw [nI_cut hag.to.1 hag.to.2] at hto
      rw [nI_cut hag.fr.1 hag.fr.2] at hfr
      obtain ⟨f, hf⟩ := Int.eq_ofNat_of_zero_le hag.fr.1
      obtain ⟨t, ht⟩ := Int.eq_ofNat_of_zero_le hag.to.1
      have hfn : f < n := by have := hag.fr.2; omega
      have htn : t < n := by have := hag.to.2; omega
      have hyf : nI ((List.range n).map fun (q : Nat) => (g q : Int)) r.fr = g f := by rw [hf]; exact hyq f hfn
      have hyt : nI ((List.range n).map fun (q : Nat) => (g q : Int)) r.to = g t := by rw [ht]; exact hyq t htn
      rw [hyf] at hfr; rw [hyt] at hto
      have gf := hg f hfn; have gt := hg t htn
      have hsent := (ivl_gt h hag.fr.1 hag.fr.2 (y := g f) (by omega) (by rw [hf]; have := gf.1; omega) hag.ix.2).2 hfr
      have hrecv : ¬ (g t : Int) < (ivl (ckR p r.to) r.rcv : Int) := fun h5 => by
        have := (ivl_gt h hag.to.1 hag.to.2 (y := g t) (by omega) (by rw [ht]; have := gt.1; omega) hag.rcv.2).1 h5; omega
      -- the message is one of a Z-path
      obtain ⟨x, hx, hza⟩ : ∃ x ∈ l, ZA p x (arcE p r).x1 := by
        rcases gf.2 with ⟨x, hx, e1, e2⟩ | ⟨_, _, hmax⟩
        · exact ⟨x, hx, .first hr hrc (by rw [hf, e1]) (by rw [e2]; exact hsent)⟩
        · have hle := ivl_le (r := ckR p r.fr) (k := r.ix)
          refine Classical.byContradiction fun hno => ?_
          have hall : ∀ x ∈ l, ∀ v, ZA p x v → v.proc = f → ((ivl (ckR p r.fr) r.ix : Nat) : Int) < v.index := fun x hx v hv hvp => by
            refine Classical.byContradiction fun hvi => hno ⟨x, hx, .next hv hr hrc (by rw [hf, hvp]) (by omega)⟩
          have := hmax (ivl (ckR p r.fr) r.ix) (by rw [← hf]; exact hle) hall; omega
      rcases gt.2 with ⟨z, hz, e1, e2⟩ | ⟨_, hall, _⟩
      · exact hno x hx z hz ⟨_, hza, by simp only [arcE]; rw [ht, e1], by simp only [arcE]; rw [e2]; omega⟩
      · have := hall x hx _ hza (by simp only [arcE]; exact ht)
        simp only [arcE] at this
        exact hrecv this
    · have hv := hl x hx
      obtain ⟨q, hq⟩ := Int.eq_ofNat_of_zero_le hv.p0
      have hqn : q < n := by have := hv.p1; omega
      rw [hq, hyq q hqn]
      rcases (hg q hqn).2 with ⟨z, hz, e1, e2⟩ | ⟨h5, _⟩
      · rw [← e2]; exact hsame z hz x hx (by rw [e1, hq])
      · exact absurd hq (h5 x hx)
theorem ExtS.ok {n B : Nat} {p : Pat} (h : PatG n B p) (hB : B ≤ 64) {l : List Pt} (hl : ∀ x ∈ l, VN n p x) {r : List Int × Bool} (hr : ExtS n p l r) : r.2 = true ↔ ExtP p l := by
  rw [← netzer_xu h hB hl]
  rcases hr with ⟨h1, h2, _⟩ | ⟨h1, h2⟩
  · exact ⟨fun _ => ⟨_, h2⟩, fun _ => h1⟩
  · constructor
    · intro h5; rw [h1] at h5; cases h5
    · rintro ⟨y, hy⟩; exact absurd hy (h2 y)
end Go.Mine
