/- The rollback-dependency graph, plain: the chapter's laws. -/
import Derived.Test.YtljpjekifbamfaaA20c
import Derived.Test.YtljpjekifbamfaaP20d
set_option linter.unusedSimpArgs false
set_option linter.unusedVariables false
namespace Go.Mine
open Go.RowKit
/-! a pattern that lies before us -/
def rkL (ρ : List (List Nat)) (q k : Int) : Nat := (ρ[q.toNat]?.getD [])[k.toNat]?.getD 0
structure PatD (n B : Nat) (p : Pat) (ρ : List (List Nat)) : Prop where
  len : p.lens.length = n
  ck : p.ckpts.length = n
  rng : ∀ x ∈ p.lens, 0 ≤ x ∧ x ≤ B
  row : ∀ q : Nat, q < n → (ckR p q)[0]? = some 0 ∧ (ckR p q).Pairwise (· < ·) ∧ ∀ y ∈ ckR p q, y ≤ nI p.lens q
  wid : ∀ r ∈ p.ckpts, r.length ≤ B + 1
  arc : ∀ a ∈ p.arcs, (0 ≤ a.fr ∧ a.fr < n) ∧ (0 ≤ a.to ∧ a.to < n) ∧ a.fr ≠ a.to ∧ (0 ≤ a.ix ∧ a.ix ≤ nI p.lens a.fr) ∧ (0 ≤ a.rcv ∧ a.rcv ≤ nI p.lens a.to)
  al : p.arcs.length ≤ 4 * B
  uniq : p.arcs.Pairwise fun a b => a.rcv ≠ 0 → ¬ (a.to = b.to ∧ a.rcv = b.rcv)
  top : ∀ r ∈ ρ, ∀ x ∈ r, x ≤ B
  up : ∀ q : Nat, q < n → ∀ k : Nat, k < B → (1 ≤ k ∧ (k : Int) + 1 ≤ nI p.lens q) → rkL ρ q k < rkL ρ q ((k : Int) + 1)
  rk : ∀ a ∈ p.arcs, a.rcv ≠ 0 → a.ix ≠ 0 → rkL ρ a.fr a.ix < rkL ρ a.to a.rcv
def patD (n B : Nat) (p : Pat) (ρ : List (List Nat)) : Bool :=
  decide (p.lens.length = n) && decide (p.ckpts.length = n) && decide (∀ x ∈ p.lens, 0 ≤ x ∧ x ≤ B) && decide (∀ q : Nat, q < n → (ckR p q)[0]? = some 0 ∧ (ckR p q).Pairwise (· < ·) ∧ ∀ y ∈ ckR p q, y ≤ nI p.lens q) &&
  decide (∀ r ∈ p.ckpts, r.length ≤ B + 1) && decide (∀ a ∈ p.arcs, (0 ≤ a.fr ∧ a.fr < n) ∧ (0 ≤ a.to ∧ a.to < n) ∧ a.fr ≠ a.to ∧ (0 ≤ a.ix ∧ a.ix ≤ nI p.lens a.fr) ∧ (0 ≤ a.rcv ∧ a.rcv ≤ nI p.lens a.to)) &&
  decide (p.arcs.length ≤ 4 * B) && decide (p.arcs.Pairwise fun a b => a.rcv ≠ 0 → ¬ (a.to = b.to ∧ a.rcv = b.rcv)) && decide (∀ r ∈ ρ, ∀ x ∈ r, x ≤ B) &&
  decide (∀ q : Nat, q < n → ∀ k : Nat, k < B → (1 ≤ k ∧ (k : Int) + 1 ≤ nI p.lens q) → rkL ρ q k < rkL ρ q ((k : Int) + 1)) && decide (∀ a ∈ p.arcs, a.rcv ≠ 0 → a.ix ≠ 0 → rkL ρ a.fr a.ix < rkL ρ a.to a.rcv)
theorem PatD.of {n B : Nat} {p : Pat} {ρ : List (List Nat)} (h : patD n B p ρ = true) : PatD n B p ρ := by
  unfold patD at h
  simp only [Bool.and_eq_true, decide_eq_true_eq] at h
  obtain ⟨⟨⟨⟨⟨⟨⟨⟨⟨⟨h1, h2⟩, h3⟩, h4⟩, h5⟩, h6⟩, h7⟩, h8⟩, h9⟩, h10⟩, h11⟩ := h
  exact ⟨h1, h2, h3, h4, h5, h6, h7, h8, h9, h10, h11⟩
theorem PatD.g {n B : Nat} {p : Pat} {ρ : List (List Nat)} (h : PatD n B p ρ) : PatG n B p := by
  have hrk : ∀ q k, rkL ρ q k ≤ B := fun q k => by
    unfold rkL
    cases e : ρ[q.toNat]? with
    | none => simp
    | some r =>
      simp only [Option.getD_some]
      cases e2 : r[k.toNat]? with
      | none => simp
      | some x => simpa using h.top r (List.mem_of_getElem? e) x (List.mem_of_getElem? e2)
  refine ⟨h.len, h.ck, h.rng, fun q r x hr hx => ?_, h.wid, fun a ha => ?_, h.al, h.uniq, rkL ρ, hrk, fun q k h0 h1 h2 h3 => ?_, h.rk⟩
  · have hq : q < n := by have := (List.getElem?_eq_some_iff.1 hr).1; have := h.ck; omega
    obtain ⟨a1, a2, a3⟩ := h.row q hq
    have e1 : ckR p q = r := by simp [ckR, hr]
    have e2 : nI p.lens q = x := nI_some (by simpa using hx)
    rw [e1] at a1 a2 a3; rw [e2] at a3
    exact ⟨a1, a2, a3⟩
  · obtain ⟨a1, a2, a3, a4, a5⟩ := h.arc a ha; exact ⟨a1, a2, a3, a4, a5⟩
  · obtain ⟨q', rfl⟩ := Int.eq_ofNat_of_zero_le h0
    obtain ⟨k', rfl⟩ := Int.eq_ofNat_of_zero_le (show (0 : Int) ≤ k by omega)
    have hb : nI p.lens (q' : Int) ≤ B := by
      unfold nI
      cases e : p.lens[(q' : Int).toNat]? with
      | none => simp
      | some y => simpa using (h.rng y (List.mem_of_getElem? e)).2
    exact h.up q' (by omega) k' (by omega) ⟨by omega, h3⟩
/-! the domino pattern -/
def domP (k : Nat) : Pat := ⟨[2 * k, 2 * k], [0 :: (List.range k).map (fun (i : Nat) => 2 * (i : Int) + 2), 0 :: (List.range k).map (fun (i : Nat) => 2 * (i : Int) + 1)], ((List.range k).map fun (i : Nat) => [⟨0, 2 * (i : Int) + 1, 1, 2 * (i : Int) + 1⟩, ⟨1, 2 * (i : Int) + 2, 0, 2 * (i : Int) + 2⟩]).flatten⟩
def domR (k : Nat) : List (List Nat) := [0 :: ((List.range k).map fun i => [4 * i + 1, 4 * i + 4]).flatten, 0 :: ((List.range k).map fun i => [4 * i + 2, 4 * i + 3]).flatten]
theorem dom_g : ∀ k : Nat, 1 ≤ k → k ≤ 8 → PatG 2 40 (domP k)
  | 1, _, _ => (PatD.of (ρ := domR 1) (by kernel_rfl)).g
  | 2, _, _ => (PatD.of (ρ := domR 2) (by kernel_rfl)).g
  | 3, _, _ => (PatD.of (ρ := domR 3) (by kernel_rfl)).g
  | 4, _, _ => (PatD.of (ρ := domR 4) (by kernel_rfl)).g
  | 5, _, _ => (PatD.of (ρ := domR 5) (by kernel_rfl)).g
  | 6, _, _ => (PatD.of (ρ := domR 6) (by kernel_rfl)).g
  | 7, _, _ => (PatD.of (ρ := domR 7) (by kernel_rfl)).g
  | 8, _, _ => (PatD.of (ρ := domR 8) (by kernel_rfl)).g
  | k + 9, _, h => by omega
theorem domino_eq : ∀ k : Nat, 1 ≤ k → k ≤ 8 → law20_Domino 10000000 (k : Int) = some (domP k)
  | 1, _, _ => by kernel_rfl
  | 2, _, _ => by kernel_rfl
  | 3, _, _ => by kernel_rfl
  | 4, _, _ => by kernel_rfl
  | 5, _, _ => by kernel_rfl
  | 6, _, _ => by kernel_rfl
  | 7, _, _ => by kernel_rfl
  | 8, _, _ => by kernel_rfl
  | k + 9, _, h => by omega
theorem rec_eq {fuel n B : Nat} {p : Pat} {failed : List Int} (h : PatG n B p) (hn : n ≤ 5) (hB : B ≤ 64) (hf : 1000000 < fuel) (hfl : ∀ q ∈ failed, 0 ≤ q ∧ q < n) (hll : failed.length ≤ 1000) : rgraph_Recovery fuel p failed = ref20_Recovery fuel p failed := by
  obtain ⟨x, e1, h1⟩ := recovery_g (fuel := fuel) h hn hB hf hfl hll
  obtain ⟨y, e2, h2⟩ := rrecovery_g (fuel := fuel) h hn hB hf hfl hll
  rw [e1, e2, h1.uniq h2]
theorem edge_eq {fuel n B : Nat} {p : Pat} (h : PatG n B p) (hn : n ≤ 5) (hB : B ≤ 64) (hf : 1000000 < fuel) : rgraph_Edges fuel p = ref20_Edges fuel p := by
  obtain ⟨x, e1, h1⟩ := edges_g (fuel := fuel) h hn hB hf
  obtain ⟨y, e2, h2⟩ := redges_g (fuel := fuel) h hn hB hf
  rw [e1, e2, h1.uniq h2]
theorem dom1_eq : ∀ k : Nat, 1 ≤ k → k ≤ 8 → ref20_Recovery 10000000 (domP k) [1] = some [0, 0]
  | 1, _, _ => by kernel_rfl
  | 2, _, _ => by kernel_rfl
  | 3, _, _ => by kernel_rfl
  | 4, _, _ => by kernel_rfl
  | 5, _, _ => by kernel_rfl
  | 6, _, _ => by kernel_rfl
  | 7, _, _ => by kernel_rfl
  | 8, _, _ => by kernel_rfl
  | k + 9, _, h => by omega
theorem dom0_eq : ∀ k : Nat, 1 ≤ k → k ≤ 8 → ref20_Recovery 10000000 (domP k) [0] = some (domP k).lens
  | 1, _, _ => by kernel_rfl
  | 2, _, _ => by kernel_rfl
  | 3, _, _ => by kernel_rfl
  | 4, _, _ => by kernel_rfl
  | 5, _, _ => by kernel_rfl
  | 6, _, _ => by kernel_rfl
  | 7, _, _ => by kernel_rfl
  | 8, _, _ => by kernel_rfl
  | k + 9, _, h => by omega
theorem awake20 : law20_awake 10000000 = some true := by
  have hp := dom_g 1 (by omega) (by omega)
  unfold law20_awake
  rw [show (1 : Int) = ((1 : Nat) : Int) from rfl, domino_eq 1 (by omega) (by omega)]
  simp only [Option.bind_some]
  rw [rec_eq hp (by omega) (by omega) (by omega) (by simp) (by simp), show ([((1 : Nat) : Int)] : List Int) = [1] from rfl, dom1_eq 1 (by omega) (by omega), edge_eq hp (by omega) (by omega) (by omega), show ref20_Edges 10000000 (domP 1) = some [⟨⟨0, 0⟩, ⟨0, 1⟩⟩, ⟨⟨0, 1⟩, ⟨0, 2⟩⟩, ⟨⟨0, 1⟩, ⟨1, 1⟩⟩, ⟨⟨1, 0⟩, ⟨1, 1⟩⟩, ⟨⟨1, 1⟩, ⟨1, 2⟩⟩, ⟨⟨1, 2⟩, ⟨0, 1⟩⟩] by kernel_rfl]
  rfl
/-! what is drawn -/
theorem procs20 {fuel n : Nat} {c : List Int} {i : Int} (hn : n ≤ 5) (hf : 1000000 < fuel) (hc : COk c i) : Ok (make_Codes_Procs fuel (n : Int) c i) fun r => (∀ q : Int, q ∈ r.1 → 0 ≤ q ∧ q < (n : Int)) ∧ r.1.length ≤ n := by
  unfold make_Codes_Procs
  refine Ok.bind (Q := fun t => (∀ q : Int, q ∈ t.2 → 0 ≤ q ∧ q < (n : Int)) ∧ t.2.length ≤ n) (Ok.for_ n (fun k s => s.2.2 = (k : Int) ∧ COk c s.1 ∧ s.2.1.length ≤ k ∧ ∀ q : Int, q ∈ s.2.1 → 0 ≤ q ∧ q < (n : Int)) ⟨rfl, hc, by simp, by simp⟩ (by omega) ?_) fun t ht => Ok.ret ht
  rintro k ⟨i1, x, j⟩ hk ⟨hj, hc1, hA, h1⟩
  simp only at hj hc1 hA h1
  subst hj
  simp only [make_Codes_Procs_B1]
  refine Ok.iteP (fun hkl => ?_) (fun hkl => Ok.ret ⟨h1, by simp only; omega⟩)
  refine (Ok.next hc1 (by omega)).bind fun v ⟨v0, v1, hc2, _⟩ => Ok.iteE (fun _ => ?_) (fun _ => Ok.ret ⟨by omega, w64_nat (by omega), hc2, by simp only; omega, h1⟩)
  refine (Ok.snoc (by omega)).bind fun y hy => Ok.ret ⟨by omega, w64_nat (by omega), hc2, by simp [hy]; omega, fun q hq => ?_⟩
  simp only [hy] at hq
  rcases List.mem_append.1 hq with h5 | h5
  · exact h1 q h5
  · simp at h5; omega
theorem nodes_g {fuel n B : Nat} {p : Pat} {c : List Int} {i : Int} (h : PatG n B p) (hn1 : 1 ≤ n) (hn : n ≤ 5) (hB : B ≤ 64) (hf : 1000000 < fuel) (hc : COk c i) : Ok (law20_nodes fuel p c i) fun r => (∀ x ∈ r.1, VN n p x) ∧ r.1.length ≤ 4 ∧ COk c r.2 := by
  have hk := h.ck
  unfold law20_nodes
  refine (Ok.next hc (by omega)).bind fun v ⟨v0, v1, hc2, _⟩ => ?_
  refine Ok.bind (Q := fun t => (∀ x ∈ t.2, VN n p x) ∧ t.2.length ≤ 4 ∧ COk c t.1) (Ok.run (fun m s => s.2.2 = (m : Int) ∧ (∀ x ∈ s.2.1, VN n p x) ∧ s.2.1.length + m ≤ 4 ∧ COk c s.1) (m := v.1.toNat) ⟨by simp only; omega, by simp, by simp only [List.length_nil]; omega, hc2⟩ (by omega) ?_) fun t ht => Ok.ret ht
  rintro m ⟨j, l, i1⟩ ⟨e1, hv, hl, hcj⟩
  simp only at e1 hv hl hcj
  subst e1
  simp only [law20_nodes_B1]
  refine Ok.iteP (fun hm => ?_) (fun hm => Ok.ret ⟨hv, by simp only; omega, hcj⟩)
  refine (Ok.next hcj (by omega)).bind fun q ⟨q0, q1, hcq, _⟩ => ?_
  have hw := h.ckW q.1
  rw [ati_ck q0 (by omega), Option.bind_some, w64_id (by omega) (by omega)]
  refine (Ok.next hcq (by omega)).bind fun x ⟨x0, x1, hcx, _⟩ => (Ok.snoc (by omega)).bind fun y hy => Ok.ret ⟨m - 1, by omega, by simp only; rw [w64_id (by omega) (by omega)]; omega, fun z hz => ?_, by simp only [hy, List.length_append, List.length_singleton]; omega, hcx⟩
  simp only [hy] at hz
  rcases List.mem_append.1 hz with h5 | h5
  · exact hv z h5
  · simp at h5; subst h5
    exact ⟨q0, by simp only; omega, x0, by simp only; omega⟩
theorem sameI {fuel : Nat} {x : List Int} (hl : x.length ≤ 1000) (hf : 1000000 < fuel) : ref03_SameInts fuel x x = some true := by
  unfold ref03_SameInts
  rw [if_neg (by simp)]
  refine Ok.eq ?_
  refine Ok.bind (Q := fun t => t = .inl ()) (Ok.for_ x.length (fun k s => s = (k : Int)) rfl (by omega) ?_) fun t ht => by subst ht; exact Ok.ret rfl
  rintro k s hk rfl
  unfold ref03_SameInts_B1
  refine Ok.iteP (fun hkl => ?_) (fun _ => Ok.ret rfl)
  rw [ati_nI (by omega) (by omega)]
  simp only [Option.bind_some]
  rw [if_neg (by simp)]
  exact Ok.ret ⟨by omega, w64_nat (by omega)⟩
theorem sameE {fuel : Nat} {x : List Pt2} (hl : x.length ≤ 1000) (hf : 1000000 < fuel) : ref20_SameEdges fuel x x = some true := by
  unfold ref20_SameEdges
  rw [if_neg (by simp)]
  refine Ok.eq ?_
  refine Ok.bind (Q := fun t => t = .inl ()) (Ok.for_ x.length (fun k s => s = (k : Int)) rfl (by omega) ?_) fun t ht => by subst ht; exact Ok.ret rfl
  rintro k s hk rfl
  unfold ref20_SameEdges_B1
  refine Ok.iteP (fun hkl => ?_) (fun _ => Ok.ret rfl)
  rw [ati_get (by omega)]
  simp only [Option.bind_some, eq4]
  rw [if_neg (by simp)]
  exact Ok.ret ⟨by omega, w64_nat (by omega)⟩
theorem rgraphEdges {a0 : List Int} (h0 : ∀ x ∈ a0, U8 x) : law20_RgraphEdges 10000000 a0 = some true := by
  unfold law20_RgraphEdges
  rw [awake20, Option.bind_some]
  simp only [Bool.not_true, Bool.false_eq_true, if_false]
  refine Ok.eq ?_
  refine (Ok.new (by omega) (by omega) h0).bind fun r hr => (pattern_g hr (m := 20) (by omega) (by omega)).bind fun P ⟨n, hn2, hn4, hp, _⟩ => ?_
  simp only [show (⟨P.1.lens, P.1.ckpts, P.1.arcs⟩ : Pat) = P.1 from rfl]
  refine (edges_g hp (by omega) (by omega) (by omega)).bind fun x hx => (redges_g hp (by omega) (by omega) (by omega)).bind fun y hy => ?_
  obtain rfl := hx.uniq hy
  rw [sameE hx.2.2 (by omega)]
  exact Ok.ret rfl
theorem RecS.len {n : Nat} {p : Pat} {l : List Pt} {x : List Int} (h : RecS n p l x) : x.length = n := h.1
theorem rgraphReaches {a0 a1 : List Int} (h0 : ∀ x ∈ a0, U8 x) (h1 : ∀ x ∈ a1, U8 x) : law20_RgraphReaches 10000000 a0 a1 = some true := by
  unfold law20_RgraphReaches
  rw [awake20, Option.bind_some]
  simp only [Bool.not_true, Bool.false_eq_true, if_false]
  refine Ok.eq ?_
  refine (Ok.new (by omega) (by omega) h0).bind fun r hr => (pattern_g hr (m := 20) (by omega) (by omega)).bind fun P ⟨n, hn2, hn4, hp, _⟩ => ?_
  have hl := hp.len
  simp only [show (⟨P.1.lens, P.1.ckpts, P.1.arcs⟩ : Pat) = P.1 from rfl]
  refine (Ok.new (by omega) (by omega) h1).bind fun r2 hr2 => (nodes_g hp (by omega) (by omega) (by omega) (by omega) hr2).bind fun L ⟨hL, hLl, hcL⟩ => ?_
  rw [hl]
  refine (procs20 (n := n) (by omega) (by omega) hcL).bind fun F ⟨hF, hFl⟩ => ?_
  refine (reach_g hp (by omega) (by omega) (by omega) hL (by omega)).bind fun a ha => (rreach_g hp (by omega) (by omega) (by omega) hL (by omega)).bind fun b hb => ?_
  obtain rfl := ha.uniq hb
  have hal := ha.1.len
  rw [if_neg (by simp)]
  refine Ok.bind (Q := fun t => t = .inl ()) (Ok.for_ n (fun k s => s = (k : Int)) rfl (by omega) ?_) fun t ht => ?_
  · rintro k s hk rfl
    unfold law20_RgraphReaches_B1
    refine Ok.iteP (fun hkl => ?_) (fun _ => Ok.ret rfl)
    rw [ati_get (by omega), Option.bind_some, Option.bind_some, if_neg (by simp), Option.bind_some]
    have hrl := ha.1.row k (by omega); have hw := hp.ckW k
    have hr : rw2 a (k : Int) = a[k]'(by omega) := by simp [rw2, (show k < a.length by omega)]
    rw [hr] at hrl
    refine Ok.bind (Q := fun t => t = .inl ()) (Ok.for_ (a[k]'(by omega)).length (fun j s => s = (j : Int)) rfl (by omega) ?_) fun t ht => by subst ht; exact Ok.ret ⟨by omega, w64_nat (by omega)⟩
    rintro j s hj rfl
    unfold law20_RgraphReaches_B2
    refine Ok.iteP (fun hjl => ?_) (fun _ => Ok.ret rfl)
    rw [ati_get (show k < a.length by omega), Option.bind_some, ati_get (by omega), Option.bind_some, Option.bind_some, ati_get (by omega), Option.bind_some, if_neg (by simp)]
    exact Ok.ret ⟨by omega, w64_nat (by omega)⟩
  · subst ht
    simp only [Sum.elim_inl, law20_RgraphReaches_K1, show (⟨P.1.lens, P.1.ckpts, P.1.arcs⟩ : Pat) = P.1 from rfl]
    refine (undone_g hp (by omega) (by omega) (by omega) hL (by omega)).bind fun u ⟨m, hm, hu⟩ => (rundone_g hp (by omega) (by omega) (by omega) hL (by omega)).bind fun v ⟨m2, hm2, hv⟩ => ?_
    obtain rfl := hm.uniq hm2
    subst hu hv
    rw [sameI (by have := hm.1.len; simp [undL]; omega) (by omega), Option.bind_some, andM_true]
    refine Ok.bind (Q := fun b => b = true) ?_ fun b hb => by subst hb; exact Ok.ret rfl
    refine (recovery_g hp (by omega) (by omega) (by omega) hF (by omega)).bind fun x hx => (rrecovery_g hp (by omega) (by omega) (by omega) hF (by omega)).bind fun y hy => ?_
    obtain rfl := hx.uniq hy
    rw [sameI (by rw [hx.1]; omega) (by omega)]
    exact Ok.ret rfl
theorem hasR_g {fuel n : Nat} {p : Pat} {m : List (List Bool)} {x : Pt} (hs : Shp n p m) (hx : VN n p x) : hasR fuel x m = some (bm m x) := by
  have hr := hs.int hx.p0 hx.p1; have hlen := hs.len
  have h0 := hx.p0; have h1 := hx.p1; have h2 := hx.i0; have h3 := hx.i1
  unfold hasR
  rw [andM_some, Option.bind_some, andM_some, Option.bind_some, hx.at1 hs, Option.bind_some, andM_some, Option.bind_some, Option.bind_some, hx.at2 hs, Option.bind_some, andM_some, Option.bind_some]
  congr 1
  have e : (decide (0 ≤ x.proc) && decide (x.proc < (m.length : Int)) && decide (0 ≤ x.index) && decide (x.index < ((rw2 m x.proc).length : Int))) = true := by simp; omega
  rw [e, Bool.true_and]
theorem rgraphClosed {a0 a1 : List Int} (h0 : ∀ x ∈ a0, U8 x) (h1 : ∀ x ∈ a1, U8 x) : law20_RgraphClosed 10000000 a0 a1 = some true := by
  unfold law20_RgraphClosed
  rw [awake20, Option.bind_some]
  simp only [Bool.not_true, Bool.false_eq_true, if_false]
  refine Ok.eq ?_
  refine (Ok.new (by omega) (by omega) h0).bind fun r hr => (pattern_g hr (m := 20) (by omega) (by omega)).bind fun P ⟨n, hn2, hn4, hp, _⟩ => ?_
  simp only [show (⟨P.1.lens, P.1.ckpts, P.1.arcs⟩ : Pat) = P.1 from rfl]
  refine (Ok.new (by omega) (by omega) h1).bind fun r2 hr2 => (nodes_g hp (by omega) (by omega) (by omega) (by omega) hr2).bind fun L ⟨hL, hLl, hcL⟩ => ?_
  refine (reach_g hp (by omega) (by omega) (by omega) hL (by omega)).bind fun m hm => ?_
  have hml := hm.1.len
  refine Ok.bind (Q := fun t => t = .inl ()) (Ok.for_ L.1.length (fun k s => s = (k : Int)) rfl (by omega) ?_) fun t ht => ?_
  · rintro k s hk rfl
    unfold law20_RgraphClosed_B4
    refine Ok.iteP (fun hkl => ?_) (fun _ => Ok.ret rfl)
    have hkl' : k < L.1.length := by omega
    have hv := hL L.1[k] (List.getElem_mem _)
    rw [ati_get hkl', Option.bind_some, hasR_g (x := L.1[k]) hm.1 hv, Option.bind_some, (hm.2 _ hv).2 (.start (List.getElem_mem _)), if_neg (by simp)]
    exact Ok.ret ⟨by omega, w64_nat (by omega)⟩
  subst ht
  simp only [Sum.elim_inl, law20_RgraphClosed_K1, show (⟨P.1.lens, P.1.ckpts, P.1.arcs⟩ : Pat) = P.1 from rfl]
  refine (edges_g hp (by omega) (by omega) (by omega)).bind fun E hE => ?_
  have hEl := hE.2.2
  refine Ok.bind (Q := fun t => t = .inl ()) (Ok.for_ E.length (fun k s => s = (k : Int)) rfl (by omega) ?_) fun t ht => ?_
  · rintro k s hk rfl
    unfold law20_RgraphClosed_B3
    refine Ok.iteP (fun hkl => ?_) (fun _ => Ok.ret rfl)
    have hkl' : k < E.length := by omega
    have he := (hE.2.1 E[k]).1 (List.getElem_mem _)
    have hv := he.vn hp
    rw [ati_get hkl', Option.bind_some, hasR_g (x := E[k].x0) hm.1 hv.1, Option.bind_some, hasR_g (x := E[k].x1) hm.1 hv.2, Option.bind_some, andM_some, Option.bind_some]
    have e : (bm m E[k].x0 && !bm m E[k].x1) = false := by
      cases hb : bm m E[k].x0 with
      | false => rfl
      | true => rw [(hm.2 _ hv.2).2 (.step ((hm.2 _ hv.1).1 hb) he)]; rfl
    rw [e, if_neg (by simp)]
    exact Ok.ret ⟨by omega, w64_nat (by omega)⟩
  subst ht
  simp only [Sum.elim_inl, law20_RgraphClosed_K2]
  refine Ok.bind (Q := fun t => t = .inl ()) (Ok.for_ n (fun k s => s = (k : Int)) rfl (by omega) ?_) fun t ht => by subst ht; exact Ok.ret rfl
  rintro k s hk rfl
  unfold law20_RgraphClosed_B1
  refine Ok.iteP (fun hkl => ?_) (fun _ => Ok.ret rfl)
  refine Ok.bind (Q := fun t => t = decide ((⟨(k : Int), 0⟩ : Pt) ∈ L.1)) (Ok.for_ L.1.length (fun j s => s.2 = (j : Int) ∧ s.1 = decide ((⟨(k : Int), 0⟩ : Pt) ∈ L.1.take j)) ⟨rfl, by simp⟩ (by omega) ?_) fun t ht => ?_
  · rintro j ⟨b, i⟩ hj ⟨hi, hb⟩
    simp only at hi hb
    subst hi hb
    simp only [law20_RgraphClosed_B2]
    refine Ok.iteP (fun hjl => ?_) (fun hjl => Ok.ret ?_)
    · have hjl' : j < L.1.length := by omega
      rw [ati_get hjl', Option.bind_some, orM_some, Option.bind_some]
      refine Ok.ret ⟨by omega, w64_nat (by omega), ?_⟩
      rw [eq2 (b := ⟨(k : Int), 0⟩)]
      rw [Bool.eq_iff_iff]
      simp only [Bool.or_eq_true, decide_eq_true_eq, mem_take_succ', List.getElem?_eq_getElem hjl', Option.some.injEq]
    · have e : j = L.1.length := by omega
      subst e; rw [List.take_length]; rfl
  · subst ht
    simp only [law20_RgraphClosed_K4]
    have hv : VN n P.1 ⟨(k : Int), 0⟩ := ⟨by simp only; omega, by simp only; omega, by simp, by simp⟩
    rw [hasR_g (x := ⟨(k : Int), 0⟩) hm.1 hv, Option.bind_some]
    have e : bm m ⟨(k : Int), 0⟩ = decide ((⟨(k : Int), 0⟩ : Pt) ∈ L.1) := by
      rw [Bool.eq_iff_iff, hm.2 _ hv, decide_eq_true_eq]
      constructor
      · intro hr
        generalize hx : (⟨(k : Int), 0⟩ : Pt) = x at hr
        cases hr with
        | start h => exact h
        | step _ he => have := he.pos hp; rw [← hx] at this; simp at this
      · exact .start
    rw [e, if_neg (by simp)]
    exact Ok.ret ⟨by omega, w64_nat (by omega)⟩
/-- the cut lies inside, and it is consistent -/
theorem RecS.good {n B : Nat} {p : Pat} (h : PatG n B p) {l : List Pt} {x : List Int} (hx : RecS n p l x) : CutG n p.lens x ∧ Cons p.arcs x := by
  have hrow : ∀ q : Nat, q < n → 0 ≤ nI x q ∧ nI x q ≤ nI p.lens q := fun q hq => by
    obtain ⟨u, h1, h2, h3, h4⟩ := hx.2 q hq
    have hc := h.ckG (q := (q : Int)) (by omega) (by omega)
    rw [h4]; unfold recQ
    split
    · exact ⟨(h.nI_rng q).1, Int.le_refl _⟩
    · rename_i hlt
      have hu : u - 1 < (ckR p q).length := by omega
      rw [show ((u : Int) - 1) = ((u - 1 : Nat) : Int) by omega, nI_get hu]
      exact ⟨hc.nonneg _ (List.getElem_mem _), hc.le _ (List.getElem_mem _)⟩
  refine ⟨⟨hx.1, hrow⟩, fun a ha => ?_⟩
  rw [orph_not]
  rintro ⟨hr, hto, hfr⟩
  have hag := h.arc a ha
  obtain ⟨f, hf⟩ := Int.eq_ofNat_of_zero_le hag.fr.1
  obtain ⟨g, hg⟩ := Int.eq_ofNat_of_zero_le hag.to.1
  have hfn : f < n := by have := hag.fr.2; omega
  have hgn : g < n := by have := hag.to.2; omega
  obtain ⟨u, u1, u2, u3, u4⟩ := hx.2 f hfn
  obtain ⟨v, v1, v2, v3, v4⟩ := hx.2 g hgn
  have hcf := h.ckG (q := (f : Int)) (by omega) (by omega)
  have hcg := h.ckG (q := (g : Int)) (by omega) (by omega)
  rw [hf, u4] at hfr; rw [hg, v4] at hto
  have hix := hag.ix.2; have hrv := hag.rcv
  rw [hf] at hix
  unfold recQ at hfr hto
  split at hfr
  · omega
  rename_i hlu
  have hu : u - 1 < (ckR p f).length := by omega
  rw [show ((u : Int) - 1) = ((u - 1 : Nat) : Int) by omega, nI_get hu] at hfr
  have hiv := (ivl_lt hcf.asc hu).1 hfr
  have hile := ivl_le (r := ckR p f) (k := a.ix)
  have hreach := (u3 (ivl (ckR p f) a.ix) hile).2 (by omega)
  have hreach2 : Rch n p l (arcE p a).x1 := Rch.step (e := arcE p a) (by simp only [arcE]; rw [hf]; exact hreach) (.inr ⟨a, ha, hr, rfl⟩)
  simp only [arcE] at hreach2
  rw [hg] at hreach2
  have hjle := ivl_le (r := ckR p g) (k := a.rcv)
  have hvle := (v3 (ivl (ckR p g) a.rcv) hjle).1 hreach2
  split at hto
  · omega
  have hv : v - 1 < (ckR p g).length := by omega
  rw [show ((v : Int) - 1) = ((v - 1 : Nat) : Int) by omega, nI_get hv] at hto
  have := (ivl_lt hcg.asc (k := a.rcv) hv).2 (by omega)
  omega
theorem rgraphCuts {a0 a1 : List Int} (h0 : ∀ x ∈ a0, U8 x) (h1 : ∀ x ∈ a1, U8 x) : law20_RgraphCuts 10000000 a0 a1 = some true := by
  unfold law20_RgraphCuts
  rw [awake20, Option.bind_some]
  simp only [Bool.not_true, Bool.false_eq_true, if_false]
  refine Ok.eq ?_
  refine (Ok.new (by omega) (by omega) h0).bind fun r hr => (pattern_g hr (m := 20) (by omega) (by omega)).bind fun P ⟨n, hn2, hn4, hp, _⟩ => ?_
  have hl := hp.len; have hk := hp.ck
  simp only [show (⟨P.1.lens, P.1.ckpts, P.1.arcs⟩ : Pat) = P.1 from rfl]
  refine (Ok.new (by omega) (by omega) h1).bind fun r2 hr2 => ?_
  rw [hl]
  refine (procs20 (n := n) (by omega) (by omega) hr2).bind fun F ⟨hF, hFl⟩ => (recovery_g hp (by omega) (by omega) (by omega) hF (by omega)).bind fun x hx => ?_
  obtain ⟨hcut, hcons⟩ := hx.good hp
  have hxl := hx.1
  rw [valid_g hl (by omega) (by omega) hcut, Option.bind_some, cons_g hp (by omega) (by omega) (by omega) hcut, Option.bind_some, consB_iff.2 hcons, orM_some, Option.bind_some, if_neg (by simp)]
  refine Ok.bind (Q := fun t => t = .inl ()) (Ok.for_ n (fun k s => s = (k : Int)) rfl (by omega) ?_) fun t ht => by subst ht; exact Ok.ret rfl
  rintro k s hk2 rfl
  unfold law20_RgraphCuts_B1
  refine Ok.iteP (fun hkl => ?_) (fun _ => Ok.ret rfl)
  have hkn : k < n := by omega
  have hw := hp.ckW k
  rw [ati_ck (by omega) (by omega), Option.bind_some]
  refine Ok.bind (Q := fun t => t = decide (nI x k ∈ ckR P.1 k)) (Ok.for_ (ckR P.1 k).length (fun j s => s.2 = (j : Int) ∧ s.1 = decide (nI x k ∈ (ckR P.1 k).take j)) ⟨rfl, by simp⟩ (by omega) ?_) fun t ht => ?_
  · rintro j ⟨b, i⟩ hj ⟨hi, hb⟩
    simp only at hi hb
    subst hi hb
    simp only [law20_RgraphCuts_B3]
    refine Ok.iteP (fun hjl => ?_) (fun hjl => Ok.ret ?_)
    · have hjl' : j < (ckR P.1 k).length := by omega
      rw [ati_get hjl', Option.bind_some, ati_nI (by omega) (by omega), Option.bind_some, orM_some, Option.bind_some]
      refine Ok.ret ⟨by omega, w64_nat (by omega), ?_⟩
      rw [Bool.eq_iff_iff]
      simp only [Bool.or_eq_true, beq_iff_eq, decide_eq_true_eq, mem_take_succ', List.getElem?_eq_getElem hjl', Option.some.injEq]
    · have e : j = (ckR P.1 k).length := by omega
      subst e; rw [List.take_length]; rfl
  subst ht
  simp only [law20_RgraphCuts_K2]
  refine Ok.bind (Q := fun t => t = decide ((k : Int) ∈ F.1)) (Ok.for_ F.1.length (fun j s => s.2 = (j : Int) ∧ s.1 = decide ((k : Int) ∈ F.1.take j)) ⟨rfl, by simp⟩ (by omega) ?_) fun t ht => ?_
  · rintro j ⟨b, i⟩ hj ⟨hi, hb⟩
    simp only at hi hb
    subst hi hb
    simp only [law20_RgraphCuts_B2]
    refine Ok.iteP (fun hjl => ?_) (fun hjl => Ok.ret ?_)
    · have hjl' : j < F.1.length := by omega
      rw [ati_get hjl', Option.bind_some, orM_some, Option.bind_some]
      refine Ok.ret ⟨by omega, w64_nat (by omega), ?_⟩
      rw [Bool.eq_iff_iff]
      simp only [Bool.or_eq_true, beq_iff_eq, decide_eq_true_eq, mem_take_succ', List.getElem?_eq_getElem hjl', Option.some.injEq]
    · have e : j = F.1.length := by omega
      subst e; rw [List.take_length]; rfl
  subst ht
  simp only [law20_RgraphCuts_K3]
  rw [ati_nI (by omega) (by omega), Option.bind_some, ati_nI (by omega) (by omega), Option.bind_some, orM_some, Option.bind_some, andM_some, Option.bind_some]
  have e : (!decide (nI x k ∈ ckR P.1 k) && (decide ((k : Int) ∈ F.1) || nI x k != nI P.1.lens k)) = false := by
    obtain ⟨u, u1, u2, u3, u4⟩ := hx.2 k hkn
    by_cases hu : u ≤ (ckR P.1 k).length
    · have hin : nI x k ∈ ckR P.1 k := by
        rw [u4]; unfold recQ
        rw [if_neg (by omega), show ((u : Int) - 1) = ((u - 1 : Nat) : Int) by omega, nI_get (by omega)]
        exact List.getElem_mem _
      simp [hin]
    · have hnf : ¬ (k : Int) ∈ F.1 := fun hin => by
        have := (u3 (ckR P.1 k).length (Nat.le_refl _)).1 (.start (List.mem_map.2 ⟨(k : Int), hin, rfl⟩))
        omega
      have hxk : nI x k = nI P.1.lens k := by rw [u4]; unfold recQ; rw [if_pos (by omega)]
      simp [hnf, hxk]
  rw [e, if_neg (by simp)]
  exact Ok.ret ⟨by omega, w64_nat (by omega)⟩
theorem lastN_cons {p : Pat} {q : Int} {f : List Int} : lastN p (q :: f) = ⟨q, ((ckR p q).length : Int)⟩ :: lastN p f := rfl
/-- going back together is going back as far as the one that goes back farthest -/
theorem RecS.snoc {n B : Nat} {p : Pat} (h : PatG n B p) {f : List Int} {q : Int} {x y : List Int} (hx : RecS n p (lastN p f) x) (hy : RecS n p (lastN p [q]) y) : RecS n p (lastN p (f ++ [q])) (meetL x y) := by
  have hxl := hx.1; have hyl := hy.1
  refine ⟨by rw [meetL_len (by omega)]; exact hxl, fun k hk => ?_⟩
  obtain ⟨u, u1, u2, u3, u4⟩ := hx.2 k hk
  obtain ⟨v, v1, v2, v3, v4⟩ := hy.2 k hk
  have hmem : lastN p (f ++ [q]) = lastN p f ++ lastN p [q] := by simp [lastN]
  have hor : ∀ z, Rch n p (lastN p (f ++ [q])) z ↔ Rch n p (lastN p f) z ∨ Rch n p (lastN p [q]) z := fun z => by
    rw [hmem]
    constructor
    · intro hr
      obtain ⟨w, hw, hr2⟩ := hr.one
      rcases List.mem_append.1 hw with h1 | h1
      · exact .inl (hr2.mono fun a ha => by simp at ha; subst ha; exact h1)
      · exact .inr (hr2.mono fun a ha => by simp at ha; subst ha; exact h1)
    · rintro (hr | hr)
      · exact hr.mono fun a ha => List.mem_append.2 (.inl ha)
      · exact hr.mono fun a ha => List.mem_append.2 (.inr ha)
  refine ⟨min u v, by omega, by omega, fun i hi => ?_, ?_⟩
  · rw [hor, u3 i hi, v3 i hi]; omega
  · rw [meetL_nI (by omega) (by omega), u4, v4]
    have hc := h.ckG (q := (k : Int)) (by omega) (by omega)
    -- the place behind the interval rises with the interval
    have hmono : ∀ s t : Nat, 1 ≤ s → s ≤ t → t ≤ (ckR p k).length + 1 → recQ p k s ≤ recQ p k t := fun s t hs1 hst ht => by
      unfold recQ
      by_cases ht2 : ((ckR p k).length : Int) < t
      · rw [if_pos ht2]
        split
        · exact Int.le_refl _
        · rw [show ((s : Int) - 1) = ((s - 1 : Nat) : Int) by omega, nI_get (by omega)]
          exact hc.le _ (List.getElem_mem _)
      · rw [if_neg ht2, if_neg (by omega), show ((s : Int) - 1) = ((s - 1 : Nat) : Int) by omega, show ((t : Int) - 1) = ((t - 1 : Nat) : Int) by omega, nI_get (by omega), nI_get (by omega)]
        rcases Nat.lt_or_ge (s - 1) (t - 1) with h5 | h5
        · have := List.pairwise_iff_getElem.1 hc.asc (s - 1) (t - 1) (by omega) (by omega) h5; omega
        · have : s - 1 = t - 1 := by omega
          simp only [this]; exact Int.le_refl _
    rcases Nat.le_total u v with huv | huv
    · rw [show ((min u v : Nat) : Int) = (u : Int) by omega]
      have := hmono u v u1 huv v2; omega
    · rw [show ((min u v : Nat) : Int) = (v : Int) by omega]
      have := hmono v u v1 huv u2; omega
theorem RecS.none {n B : Nat} {p : Pat} (h : PatG n B p) : RecS n p (lastN p []) p.lens := by
  refine ⟨h.len, fun q hq => ⟨(ckR p q).length + 1, by omega, Nat.le_refl _, fun i hi => ⟨fun hr => ?_, fun hu => by omega⟩, ?_⟩⟩
  · obtain ⟨y, hy, _⟩ := hr.one; simp [lastN] at hy
  · unfold recQ; rw [if_pos (by omega)]
theorem rgraphMeets {a0 a1 : List Int} (h0 : ∀ x ∈ a0, U8 x) (h1 : ∀ x ∈ a1, U8 x) : law20_RgraphMeets 10000000 a0 a1 = some true := by
  unfold law20_RgraphMeets
  rw [awake20, Option.bind_some]
  simp only [Bool.not_true, Bool.false_eq_true, if_false]
  refine Ok.eq ?_
  refine (Ok.new (by omega) (by omega) h0).bind fun r hr => (pattern_g hr (m := 20) (by omega) (by omega)).bind fun P ⟨n, hn2, hn4, hp, _⟩ => ?_
  have hl := hp.len; have hk := hp.ck
  refine (Ok.new (by omega) (by omega) h1).bind fun r2 hr2 => ?_
  rw [hl]
  refine (procs20 (n := n) (by omega) (by omega) hr2).bind fun F ⟨hF, hFl⟩ => ?_
  refine Ok.bind (Q := RecS n P.1 (lastN P.1 F.1)) (Ok.for_ F.1.length (fun k s => s.2 = (k : Int) ∧ RecS n P.1 (lastN P.1 (F.1.take k)) s.1) ⟨rfl, by simpa using RecS.none hp⟩ (by omega) ?_) fun t ht => ?_
  · rintro k ⟨x, i⟩ hk2 ⟨hi, hx⟩
    simp only at hi hx
    subst hi
    simp only [law20_RgraphMeets_B1, show (⟨P.1.lens, P.1.ckpts, P.1.arcs⟩ : Pat) = P.1 from rfl]
    refine Ok.iteP (fun hkl => ?_) (fun hkl => Ok.ret ?_)
    · have hkl' : k < F.1.length := by omega
      have hq := hF F.1[k] (List.getElem_mem _)
      rw [ati_get hkl', Option.bind_some]
      refine (recovery_g hp (by omega) (by omega) (by omega) (by simpa using hq) (by simp)).bind fun y hy => ?_
      have hxl := hx.1; have hyl := hy.1
      rw [meet_g (by omega) (by omega) (by omega), Option.bind_some]
      refine Ok.ret ⟨by omega, w64_nat (by omega), ?_⟩
      have := hx.snoc hp hy
      have e : F.1.take (k + 1) = F.1.take k ++ [F.1[k]] := by rw [List.take_add_one]; simp [hkl']
      rw [e]; exact this
    · have e : k = F.1.length := by omega
      subst e
      rw [List.take_length] at hx; exact hx
  · simp only [law20_RgraphMeets_K1, show (⟨P.1.lens, P.1.ckpts, P.1.arcs⟩ : Pat) = P.1 from rfl]
    refine (recovery_g hp (by omega) (by omega) (by omega) hF (by omega)).bind fun y hy => ?_
    obtain rfl := hy.uniq ht
    rw [sameI (by rw [hy.1]; omega) (by omega)]
    exact Ok.ret rfl
theorem rgraphDomino {a0 a1 : Int} (h0 : U8 a0) (h1 : U8 a1) : law20_RgraphDomino 10000000 a0 a1 = some true := by
  have u0 := h0.1; have u0' := h0.2; have v0 := h1.1; have v0' := h1.2
  unfold law20_RgraphDomino
  rw [awake20, Option.bind_some]
  simp only [Bool.not_true, Bool.false_eq_true, if_false]
  refine Ok.eq ?_
  rw [w64_id (i := a0) (by omega) (by omega), w64_id (i := a1) (by omega) (by omega)]
  refine (Ok.rem (by omega)).bind fun x hx => ?_
  have hx0 : 0 ≤ x := by rw [hx]; exact Int.tmod_nonneg _ u0
  have hx8 : x < 8 := by rw [hx]; exact Int.tmod_lt_of_pos _ (by omega)
  obtain ⟨k, hk⟩ := Int.eq_ofNat_of_zero_le (show 0 ≤ 1 + x by omega)
  rw [w64_id (by omega) (by omega), hk, domino_eq k (by omega) (by omega), Option.bind_some]
  have hp := dom_g k (by omega) (by omega)
  simp only [show (⟨(domP k).lens, (domP k).ckpts, (domP k).arcs⟩ : Pat) = domP k from rfl]
  obtain ⟨z, e1, hz⟩ := recovery_g (fuel := 10000000) (failed := [1]) hp (by omega) (by omega) (by omega) (by simp) (by simp)
  have hzz : z = [0, 0] := by
    rw [rec_eq hp (by omega) (by omega) (by omega) (by simp) (by simp), dom1_eq k (by omega) (by omega)] at e1
    exact (Option.some.inj e1).symm
  have hzg := hz.good hp
  rw [e1, rec_eq (failed := [0]) hp (by omega) (by omega) (by omega) (by simp) (by simp), dom0_eq k (by omega) (by omega)]
  simp only [Option.bind_some]
  refine (Ok.rem (by omega)).bind fun q hq => ?_
  have hq0 : 0 ≤ q := by rw [hq]; exact Int.tmod_nonneg _ v0
  have hq2 : q < 2 := by rw [hq]; exact Int.tmod_lt_of_pos _ (by omega)
  have hrc : ref18_Consistent 10000000 (domP k) z = some true := by
    have hrs : Ok (ref18_Orphans 10000000 (domP k) z) (OrS (domP k).arcs z) := by
      unfold ref18_Orphans
      refine Ok.bind (Q := OrS (domP k).arcs z) (Ok.for_ (domP k).arcs.length (fun k2 s => s.2 = (k2 : Int) ∧ OrI (domP k).arcs z k2 s.1) ⟨rfl, by simp, .inl ⟨rfl, by simp⟩⟩ (by have := hp.al; omega) ?_) fun t ht => Ok.ret ht
      rintro k2 ⟨l, i⟩ hk2 ⟨hi, hI⟩
      simp only at hi hI
      subst hi
      simp only [ref18_Orphans_B1]
      have hal := hp.al
      refine Ok.iteP (fun hkl => ?_) (fun hkl => ?_)
      · refine (Ok.at (by omega) hkl).bind fun a ha => ?_
        rw [Int.toNat_natCast] at ha
        have hag := hp.arc a (List.mem_of_getElem? ha)
        have ho : ref18_orphan 10000000 a z = some (orph a z) := by
          unfold ref18_orphan
          rw [ati_nI hag.to.1 (by have := hag.to.2; have := hz.1; omega), ati_nI hag.fr.1 (by have := hag.fr.2; have := hz.1; omega)]
          simp only [Option.bind_some, andM_some, orph]
          congr 3
          have := hag.rcv.1
          rw [decide_eq_decide]; omega
        rw [ho, Option.bind_some]
        refine Ok.ite (fun ho => ?_) (fun ho => Ok.ret ⟨by omega, w64_nat (by omega), hI.no ha ho⟩)
        exact (Ok.snoc (by have := hI.1; omega)).bind fun y hy => Ok.ret ⟨by omega, w64_nat (by omega), by subst hy; exact hI.yes ha ho⟩
      · have e : k2 = (domP k).arcs.length := by omega
        subst e
        exact Ok.ret hI.fin
    unfold ref18_Consistent
    rw [show (⟨(domP k).lens, (domP k).ckpts, (domP k).arcs⟩ : Pat) = domP k from rfl]
    refine Ok.eq (hrs.bind fun l hl => Ok.ret ?_)
    rw [hl.cons, consB_iff.2 hzg.2]
  rw [hrc]
  subst hzz
  have hl2 : (domP k).lens = [2 * (k : Int), 2 * (k : Int)] := rfl
  rw [sameI (by rw [hl2]; simp) (by omega), hl2]
  have : q = 0 ∨ q = 1 := by omega
  have hk0 : (0 : Int) ≤ 2 * (k : Int) := by omega
  rcases this with rfl | rfl
  · have e : Ok (some (decide ((0 : Int) ≤ 2 * (k : Int)))) fun b => b = true := Ok.ret (by simpa using hk0)
    simp only [orM_some, andM_some, Option.bind_some, ati, List.length_cons, List.length_nil]
    refine Ok.ret ?_
    simp; exact hk0
  · simp only [orM_some, andM_some, Option.bind_some, ati, List.length_cons, List.length_nil]
    refine Ok.ret ?_
    simp; exact hk0
end Go.Mine
