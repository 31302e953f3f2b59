/- Zigzag paths, plain: the greatest consistent global checkpoint that contains checkpoints, and the theorem of Netzer and Xu. -/
import Derived.Test.YtbmjcbhappjnaaaP21a
import Derived.Test.YtbmjcbhappjnaaaPsmN
set_option linter.unusedSimpArgs false
set_option linter.unusedVariables false
namespace Go.Mine
open Go.RowKit
def Cnt (l : List Pt) (y : List Int) : Prop := ∀ x ∈ l, nI y x.proc = x.index
/-- a consistent global checkpoint that contains checkpoints -/
def Good (n : Nat) (p : Pat) (l : List Pt) (y : List Int) : Prop := NumV n p y ∧ Cons p.arcs (cutOf n p y) ∧ Cnt l y
def ExtS (n : Nat) (p : Pat) (l : List Pt) (r : List Int × Bool) : Prop :=
  (r.2 = true ∧ Good n p l r.1 ∧ ∀ y, Good n p l y → Le y r.1) ∨ (r = ([], false) ∧ ∀ y, ¬ Good n p l y)
theorem Le.anti {n : Nat} {x y : List Int} (hx : x.length = n) (hy : y.length = n) (h1 : Le x y) (h2 : Le y x) : x = y :=
  list_ext_nI (by omega) fun q hq => by have := h1 q hq; have := h2 q (by omega); omega
theorem ExtS.uniq {n : Nat} {p : Pat} {l : List Pt} {r s : List Int × Bool} (h : ExtS n p l r) (h' : ExtS n p l s) : r = s := by
  rcases h with ⟨h1, h2, h3⟩ | ⟨h1, h2⟩
  · rcases h' with ⟨k1, k2, k3⟩ | ⟨k1, k2⟩
    · exact Prod.ext (Le.anti h2.1.1 k2.1.1 (k3 _ h2) (h3 _ k2)) (h1.trans k1.symm)
    · exact absurd h2 (k2 _)
  · rcases h' with ⟨k1, k2, k3⟩ | ⟨k1, k2⟩
    · exact absurd k2 (h2 _)
    · rw [h1, k1]
theorem ExtS.len {n : Nat} {p : Pat} {l : List Pt} {r : List Int × Bool} (h : ExtS n p l r) : r.1.length ≤ n := by
  rcases h with ⟨_, h, _⟩ | ⟨h, _⟩
  · exact Nat.le_of_eq h.1.1
  · subst h; simp
theorem nI_cut {n : Nat} {p : Pat} {y : List Int} {q : Int} (h0 : 0 ≤ q) (h1 : q < n) : nI (cutOf n p y) q = cidx p q (nI y q) := by
  obtain ⟨k, rfl⟩ := Int.eq_ofNat_of_zero_le h0
  exact nI_map (by omega)
/-! which checkpoints are given -/
/-! vectors that are known -/
def MemoV (n : Nat) (p : Pat) (m : List (Pt × List Int)) : Prop := ∀ (x : Pt) (c : List Int), mget m x = some c → c = dvL n p x
theorem vector_g {n B : Nat} {p : Pat} (h : PatG n B p) (hn : n ≤ 5) (hB : B ≤ 64) {x : Pt} (hx : VN n p x) {G : List Pt2} {m : List (Pt × List Int)} (hm : MemoV n p m) : Ok (zigzag_graph_vector 10000000 x p.lens p.ckpts p.arcs G m) fun t => t.1 = dvL n p x ∧ MemoV n p t.2 := by
  unfold zigzag_graph_vector
  rw [Option.bind_some, show (⟨x.proc, x.index⟩ : Pt) = x from rfl]
  refine Ok.ite (fun hs => ?_) fun hs => Ok.ret ⟨?_, hm⟩
  · rw [show (⟨p.lens, p.ckpts, p.arcs⟩ : Pat) = p from rfl, Ckpt_g h hn hB hx, Option.bind_some, Option.bind_some]
    refine Ok.ret ⟨rfl, fun y c hc => ?_⟩
    simp only at hc
    rw [mget_mput] at hc
    split at hc
    · rename_i e; cases hc; rw [e]
    · exact hm y c hc
  · simp at hs
    obtain ⟨c, hc⟩ := Option.isSome_iff_exists.1 hs
    simp only [hc, Option.getD_some]
    exact hm x c hc
theorem nI_dvL {n : Nat} {p : Pat} {x : Pt} {s : Nat} (h : s < n) : nI (dvL n p x) s = (dv p x s : Int) := nI_map h
/-! sums -/
/-! the theorem of Netzer and Xu -/
theorem exists_max {P : Nat → Prop} (h0 : P 0) : ∀ N : Nat, ∃ k, k ≤ N ∧ P k ∧ ∀ j, j ≤ N → P j → j ≤ k
  | 0 => ⟨0, Nat.le_refl _, h0, fun j hj _ => hj⟩
  | N + 1 => by
    by_cases hN : P (N + 1)
    · exact ⟨N + 1, Nat.le_refl _, hN, fun j hj _ => hj⟩
    · obtain ⟨k, h1, h2, h3⟩ := exists_max h0 N
      refine ⟨k, by omega, h2, fun j hj hp => ?_⟩
      rcases Nat.lt_or_ge j (N + 1) with h5 | h5
      · exact h3 j (by omega) hp
      · have : j = N + 1 := by omega
        subst this; exact absurd hp hN
def ExtP (p : Pat) (l : List Pt) : Prop := (∀ x ∈ l, ∀ z ∈ l, x.proc = z.proc → x.index = z.index) ∧ ∀ x ∈ l, ∀ z ∈ l, ¬ zpath p x z
theorem ivl_gt {n B : Nat} {p : Pat} (h : PatG n B p) {q : Int} {y c : Int} (h0 : 0 ≤ q) (h1 : q < n) (hy0 : 0 ≤ y) (hy : y ≤ (ckR p q).length) (hc : c ≤ nI p.lens q) : y < (ivl (ckR p q) c : Int) ↔ cidx p q y < c := by
  obtain ⟨k, rfl⟩ := Int.eq_ofNat_of_zero_le hy0
  have := ivl_cidx h (y := k) h0 h1 (by omega) hc
  constructor
  · intro h5
    rcases Int.lt_or_le (cidx p q k) c with h6 | h6
    · exact h6
    · have := this.2 h6; omega
  · intro h5
    rcases Nat.lt_or_ge k (ivl (ckR p q) c) with h6 | h6
    · omega
    · have := this.1 h6; omega
/-- Z-paths from a consistent global checkpoint arrive behind it -/
theorem za_behind {n B : Nat} {p : Pat} (h : PatG n B p) {y : List Int} (hy : NumV n p y) (hc : Cons p.arcs (cutOf n p y)) {x v : Pt} (hx : nI y x.proc = x.index) (hz : ZA p x v) : nI y v.proc < v.index := by
  have hyI : ∀ q : Int, 0 ≤ q → q < n → 0 ≤ nI y q ∧ nI y q ≤ (ckR p q).length := fun q h0 h1 => by
    obtain ⟨k, rfl⟩ := Int.eq_ofNat_of_zero_le h0
    exact hy.2 k (by omega)
  have key : ∀ r, r ∈ p.arcs → r.rcv ≠ 0 → nI y r.fr < (ivl (ckR p r.fr) r.ix : Int) → nI y (arcE p r).x1.proc < (arcE p r).x1.index := fun r h1 h2 h3 => by
    have hag := h.arc r h1
    obtain ⟨a1, a2⟩ := hyI r.fr hag.fr.1 hag.fr.2
    obtain ⟨b1, b2⟩ := hyI r.to hag.to.1 hag.to.2
    have h4 := (ivl_gt h hag.fr.1 hag.fr.2 a1 a2 hag.ix.2).1 h3
    have h5 := orph_not.1 (hc r h1)
    rw [nI_cut hag.to.1 hag.to.2, nI_cut hag.fr.1 hag.fr.2] at h5
    simp only [arcE]
    exact (ivl_gt h hag.to.1 hag.to.2 b1 b2 hag.rcv.2).2 (by omega)
  induction hz with
  | first h1 h2 h3 h4 => exact key _ h1 h2 (by rw [h3, hx]; rw [h3] at h4; exact h4)
  | next _ h1 h2 h3 h4 ih => exact key _ h1 h2 (by rw [h3] at h4 ⊢; omega)
theorem netzer_xu {n B : Nat} {p : Pat} (h : PatG n B p) (hB : B ≤ 64) {l : List Pt} (hl : ∀ x ∈ l, VN n p x) : (∃ y, Good n p l y) ↔ ExtP p l := by
  constructor
  · rintro ⟨y, hy, hc, hcn⟩
    refine ⟨fun x hx z hz e => by rw [← hcn x hx, ← hcn z hz, e], fun x hx z hz ⟨v, h1, h2, h3⟩ => ?_⟩
    have := za_behind h hy hc (hcn x hx) h1
    rw [h2, hcn z hz] at this; omega
  · rintro ⟨hsame, hno⟩
    -- where it lies
    have hex : ∀ q : Nat, q < n → ∃ k : Nat, k ≤ (ckR p q).length ∧ ((∃ x ∈ l, x.proc = q ∧ x.index = k) ∨ ((∀ x ∈ l, x.proc ≠ q) ∧ (∀ x ∈ l, ∀ v, ZA p x v → v.proc = q → (k : Int) < v.index) ∧ ∀ j : Nat, j ≤ (ckR p q).length → (∀ x ∈ l, ∀ v, ZA p x v → v.proc = q → (j : Int) < v.index) → j ≤ k)) := fun q hq => by
      by_cases hin : ∃ x ∈ l, x.proc = q
      · obtain ⟨x, hx, hxq⟩ := hin
        have hv := hl x hx
        obtain ⟨k, hk⟩ := Int.eq_ofNat_of_zero_le hv.i0
        refine ⟨k, ?_, .inl ⟨x, hx, hxq, hk⟩⟩
        have := hv.i1; rw [hxq] at this; omega
      · obtain ⟨k, h1, h2, h3⟩ := exists_max (P := fun k => ∀ x ∈ l, ∀ v, ZA p x v → v.proc = q → (k : Int) < v.index) (fun x hx v hv _ => by have := (hv.vx (n := n) h hB).2.1; omega) (ckR p q).length
        exact ⟨k, h1, .inr ⟨fun x hx e => hin ⟨x, hx, e⟩, h2, h3⟩⟩
    have hch : ∃ g : Nat → Nat, ∀ q : Nat, q < n → g q ≤ (ckR p q).length ∧ ((∃ x ∈ l, x.proc = q ∧ x.index = g q) ∨ ((∀ x ∈ l, x.proc ≠ q) ∧ (∀ x ∈ l, ∀ v, ZA p x v → v.proc = q → (g q : Int) < v.index) ∧ ∀ j : Nat, j ≤ (ckR p q).length → (∀ x ∈ l, ∀ v, ZA p x v → v.proc = q → (j : Int) < v.index) → j ≤ g q)) :=
      ⟨fun q => if hq : q < n then (hex q hq).choose else 0, fun q hq => by simp only [dif_pos hq]; exact (hex q hq).choose_spec⟩
    obtain ⟨g, hg⟩ := hch
    have hyq : ∀ q : Nat, q < n → nI ((List.range n).map fun (q : Nat) => (g q : Int)) q = g q := fun q hq => nI_map hq
    refine ⟨(List.range n).map fun (q : Nat) => (g q : Int), ⟨by simp, fun q hq => ?_⟩, fun r hr => ?_, fun x hx => ?_⟩
    · rw [hyq q hq]; have := (hg q hq).1; omega
    · rw [orph_not]
      rintro ⟨hrc, hto, hfr⟩
      have hag := h.arc r hr
      rw [nI_cut hag.to.1 hag.to.2] at hto
      rw [nI_cut hag.fr.1 hag.fr.2] at hfr
      obtain ⟨f, hf⟩ := Int.eq_ofNat_of_zero_le hag.fr.1
      obtain ⟨t, ht⟩ := Int.eq_ofNat_of_zero_le hag.to.1
      have hfn : f < n := by have := hag.fr.2; omega
      have htn : t < n := by have := hag.to.2; omega
      have hyf : nI ((List.range n).map fun (q : Nat) => (g q : Int)) r.fr = g f := by rw [hf]; exact hyq f hfn
      have hyt : nI ((List.range n).map fun (q : Nat) => (g q : Int)) r.to = g t := by rw [ht]; exact hyq t htn
      rw [hyf] at hfr; rw [hyt] at hto
      have gf := hg f hfn; have gt := hg t htn
      have hsent := (ivl_gt h hag.fr.1 hag.fr.2 (y := g f) (by omega) (by rw [hf]; have := gf.1; omega) hag.ix.2).2 hfr
      have hrecv : ¬ (g t : Int) < (ivl (ckR p r.to) r.rcv : Int) := fun h5 => by
        have := (ivl_gt h hag.to.1 hag.to.2 (y := g t) (by omega) (by rw [ht]; have := gt.1; omega) hag.rcv.2).1 h5; omega
      -- the message is one of a Z-path
      obtain ⟨x, hx, hza⟩ : ∃ x ∈ l, ZA p x (arcE p r).x1 := by
        rcases gf.2 with ⟨x, hx, e1, e2⟩ | ⟨_, _, hmax⟩
        · exact ⟨x, hx, .first hr hrc (by rw [hf, e1]) (by rw [e2]; exact hsent)⟩
        · have hle := ivl_le (r := ckR p r.fr) (k := r.ix)
          refine Classical.byContradiction fun hno => ?_
          have hall : ∀ x ∈ l, ∀ v, ZA p x v → v.proc = f → ((ivl (ckR p r.fr) r.ix : Nat) : Int) < v.index := fun x hx v hv hvp => by
            refine Classical.byContradiction fun hvi => hno ⟨x, hx, .next hv hr hrc (by rw [hf, hvp]) (by omega)⟩
          have := hmax (ivl (ckR p r.fr) r.ix) (by rw [← hf]; exact hle) hall; omega
      rcases gt.2 with ⟨z, hz, e1, e2⟩ | ⟨_, hall, _⟩
      · exact hno x hx z hz ⟨_, hza, by simp only [arcE]; rw [ht, e1], by simp only [arcE]; rw [e2]; omega⟩
      · have := hall x hx _ hza (by simp only [arcE]; exact ht)
        simp only [arcE] at this
        exact hrecv this
    · have hv := hl x hx
      obtain ⟨q, hq⟩ := Int.eq_ofNat_of_zero_le hv.p0
      have hqn : q < n := by have := hv.p1; omega
      rw [hq, hyq q hqn]
      rcases (hg q hqn).2 with ⟨z, hz, e1, e2⟩ | ⟨h5, _⟩
      · rw [← e2]; exact hsame z hz x hx (by rw [e1, hq])
      · exact absurd hq (h5 x hx)
theorem ExtS.ok {n B : Nat} {p : Pat} (h : PatG n B p) (hB : B ≤ 64) {l : List Pt} (hl : ∀ x ∈ l, VN n p x) {r : List Int × Bool} (hr : ExtS n p l r) : r.2 = true ↔ ExtP p l := by
  rw [← netzer_xu h hB hl]
  rcases hr with ⟨h1, h2, _⟩ | ⟨h1, h2⟩
  · exact ⟨fun _ => ⟨_, h2⟩, fun _ => h1⟩
  · constructor
    · intro h5; rw [h1] at h5; cases h5
    · rintro ⟨y, hy⟩; exact absurd hy (h2 y)
end Go.Mine
