/- Zigzag paths, plain: what a search over the messages finds. -/
import Derived.Test.YtbmjcbhappjnaaaA21
import Derived.Test.YtbmjcbhappjnaaaP26s
set_option linter.unusedSimpArgs false
set_option linter.unusedVariables false
namespace Go.Mine
open Go.RowKit
/-- the intervals in which a Z-path from a checkpoint arrives -/
inductive ZA (p : Pat) (a : Pt) : Pt → Prop
  | first {r : Arc} : r ∈ p.arcs → r.rcv ≠ 0 → r.fr = a.proc → a.index < (ivl (ckR p r.fr) r.ix : Int) → ZA p a (arcE p r).x1
  | next {y : Pt} {r : Arc} : ZA p a y → r ∈ p.arcs → r.rcv ≠ 0 → r.fr = y.proc → y.index ≤ (ivl (ckR p r.fr) r.ix : Int) → ZA p a (arcE p r).x1
def zpath (p : Pat) (a b : Pt) : Prop := ∃ y, ZA p a y ∧ y.proc = b.proc ∧ y.index ≤ b.index
open Classical in
noncomputable def zpB (p : Pat) (a b : Pt) : Bool := decide (zpath p a b)
theorem zpB_iff {p : Pat} {a b : Pt} : zpB p a b = true ↔ zpath p a b := by unfold zpB; simp
def GSp (p : Pat) (G : List Pt2) : Prop := (∀ e, e ∈ G ↔ ∃ r ∈ p.arcs, r.rcv ≠ 0 ∧ e = arcE p r) ∧ G.length ≤ 1000
theorem newGraph_g {n B : Nat} {p : Pat} (h : PatG n B p) (hn : n ≤ 5) (hB : B ≤ 64) {l : List Pt} (hl : ∀ x ∈ l, VN n p x) (hll : l.length ≤ 1000) :
    Ok (zigzag_newGraph 10000000 p l) fun r => r.1 = p.lens ∧ r.2.1 = p.ckpts ∧ r.2.2.1 = p.arcs ∧ GSp p r.2.2.2.1 ∧ r.2.2.2.2.1 = [] ∧ r.2.2.2.2.2 = true := by
  have hk := h.ck
  unfold zigzag_newGraph
  rw [show (⟨p.lens, p.ckpts, p.arcs⟩ : Pat) = p from rfl, check_g h hn hB (by omega), Option.bind_some, if_neg (by simp)]
  refine Ok.bind (Q := fun t => t = .inl ()) (Ok.for_ l.length (fun k s => s = (k : Int)) rfl (by omega) ?_) fun t ht => ?_
  · rintro k s hk2 rfl
    unfold zigzag_newGraph_B2
    refine Ok.iteP (fun hkl => ?_) (fun _ => Ok.ret rfl)
    have hkl' : k < l.length := by omega
    have hv := hl l[k] (List.getElem_mem _)
    have p0 := hv.p0; have p1 := hv.p1; have i0 := hv.i0; have i1 := hv.i1
    rw [ati_get hkl', Option.bind_some, orM_some, Option.bind_some, orM_some, Option.bind_some, ati_ck p0 (by omega), Option.bind_some, orM_some, Option.bind_some, if_neg (by simp; omega)]
    exact Ok.ret ⟨by omega, w64_nat (by omega)⟩
  · subst ht
    simp only [Sum.elim_inl, zigzag_newGraph_K1, show (⟨p.lens, p.ckpts, p.arcs⟩ : Pat) = p from rfl]
    refine (edges_g h hn hB (by omega)).bind fun E hE => ?_
    have hEl := hE.2.2
    refine Ok.bind (Q := GSp p) (Ok.for_ E.length (fun k s => s.2 = (k : Int) ∧ (∀ e, e ∈ s.1 ↔ e ∈ E.take k ∧ e.x0.proc ≠ e.x1.proc) ∧ s.1.length ≤ k) ⟨rfl, by simp, by simp⟩ (by omega) ?_) fun t ht => Ok.ret ⟨rfl, rfl, rfl, ht, rfl, rfl⟩
    rintro k ⟨G, i⟩ hk2 ⟨hi, hG, hGl⟩
    simp only at hi hG hGl
    subst hi
    simp only [zigzag_newGraph_B1]
    refine Ok.iteP (fun hkl => ?_) (fun hkl => Ok.ret ?_)
    · have hkl' : k < E.length := by omega
      have hmem : ∀ e, e ∈ E.take (k + 1) ↔ e ∈ E.take k ∨ e = E[k] := fun e => by rw [mem_take_succ', List.getElem?_eq_getElem hkl', Option.some.injEq, eq_comm (a := E[k])]
      rw [ati_get hkl', Option.bind_some]
      refine Ok.iteN (fun hne => ?_) (fun he => Ok.ret ⟨by omega, w64_nat (by omega), fun e => ?_, by simp only; omega⟩)
      · refine (Ok.snoc (by omega)).bind fun G2 hG2 => Ok.ret ⟨by omega, w64_nat (by omega), fun e => ?_, by subst hG2; simp; omega⟩
        subst hG2
        simp only
        rw [List.mem_append, List.mem_singleton, hG e, hmem e]
        show _ ∨ e = E[k] ↔ _
        constructor
        · rintro (⟨h1, h2⟩ | rfl)
          · exact ⟨.inl h1, h2⟩
          · exact ⟨.inr rfl, hne⟩
        · rintro ⟨h1 | rfl, h2⟩
          · exact .inl ⟨h1, h2⟩
          · exact .inr rfl
      · simp only
        rw [hG e, hmem e]
        constructor
        · rintro ⟨h1, h2⟩; exact ⟨.inl h1, h2⟩
        · rintro ⟨h1 | rfl, h2⟩
          · exact ⟨h1, h2⟩
          · exact absurd he h2
    · have e : k = E.length := by omega
      subst e
      rw [List.take_length] at hG
      refine ⟨fun e => ?_, by omega⟩
      rw [hG e, hE.2.1 e]
      constructor
      · rintro ⟨⟨q, j, h1, h2, rfl⟩ | h1, h3⟩
        · exact absurd rfl h3
        · exact h1
      · rintro ⟨r, h1, h2, rfl⟩
        exact ⟨.inr ⟨r, h1, h2, rfl⟩, (h.arc r h1).ne⟩
/-! the search -/
def snB (S : List (Pt × Bool)) (x : Pt) : Bool := (mget S x).getD false
theorem snB_put {S : List (Pt × Bool)} {x y : Pt} : snB (mput S x true) y = (decide (x = y) || snB S y) := by
  unfold snB; rw [mget_mput]
  by_cases e : x = y <;> simp [e]
def univ (n : Nat) : List Pt := ((List.range n).map fun (q : Nat) => (List.range 70).map fun (i : Nat) => (⟨(q : Int), (i : Int)⟩ : Pt)).flatten
def VX (n : Nat) (x : Pt) : Prop := 0 ≤ x.proc ∧ x.proc < n ∧ 0 ≤ x.index ∧ x.index < 70
theorem mem_univ {n : Nat} {x : Pt} (h : VX n x) : x ∈ univ n := by
  obtain ⟨q, hq⟩ := Int.eq_ofNat_of_zero_le h.1
  obtain ⟨i, hi⟩ := Int.eq_ofNat_of_zero_le h.2.2.1
  obtain ⟨x1, x2⟩ := x
  simp only [VX] at *
  subst hq hi
  unfold univ
  rw [List.mem_flatten]
  exact ⟨_, List.mem_map.2 ⟨q, by simp; omega, rfl⟩, List.mem_map.2 ⟨i, by simp; omega, rfl⟩⟩
def uns (n : Nat) (S : List (Pt × Bool)) : Nat := (univ n).countP fun x => !snB S x
theorem uns_le {n : Nat} (hn : n ≤ 5) {S : List (Pt × Bool)} : uns n S ≤ 350 := by
  unfold uns
  refine Nat.le_trans List.countP_le_length ?_
  have : n = 0 ∨ n = 1 ∨ n = 2 ∨ n = 3 ∨ n = 4 ∨ n = 5 := by omega
  rcases this with rfl | rfl | rfl | rfl | rfl | rfl <;> exact Nat.le_of_ble_eq_true (by kernel_rfl)
theorem countP_lt {α : Type} {P Q : α → Bool} : ∀ {l : List α} {x : α}, x ∈ l → Q x = true → P x = false → (∀ y, P y = true → Q y = true) → l.countP P < l.countP Q
  | [], x, h, _, _, _ => by cases h
  | a :: l, x, h, h1, h2, h3 => by
    have hle : l.countP P ≤ l.countP Q := List.countP_mono_left fun y _ hy => h3 y hy
    rw [List.countP_cons, List.countP_cons]
    rcases List.mem_cons.1 h with rfl | h'
    · rw [h1, h2]; simp; omega
    · have := countP_lt h' h1 h2 h3
      have h4 := h3 a
      cases hp : P a <;> cases hq : Q a <;> simp_all <;> omega
theorem uns_put {n : Nat} {S : List (Pt × Bool)} {x : Pt} (hx : VX n x) (hs : snB S x = false) : uns n (mput S x true) < uns n S := by
  unfold uns
  refine countP_lt (mem_univ hx) (by simp [hs]) (by simp [snB_put]) fun y hy => ?_
  rw [snB_put] at hy
  cases h1 : snB S y with
  | true => rw [h1] at hy; simp at hy
  | false => rfl
def Rec (L : List Int) (y : Pt) : Prop := 0 ≤ nI L y.proc ∧ nI L y.proc ≤ y.index
def LS (n : Nat) (p : Pat) (a : Pt) (L : List Int) : Prop := L.length = n ∧ ∀ q : Nat, q < n → nI L q = -1 ∨ ∃ y, ZA p a y ∧ y.proc = q ∧ nI L q = y.index
def Suc (G : List Pt2) (x : Pt) (e : Pt2) : Prop := e ∈ G ∧ e.x0.proc = x.proc ∧ x.index ≤ e.x0.index
/-- all that a point leads to is seen and told -/
def Cld (G : List Pt2) (S : List (Pt × Bool)) (L : List Int) (y : Pt) : Prop := ∀ e, Suc G y e → snB S e.x1 = true ∧ Rec L e.x1
structure SOk (n : Nat) (p : Pat) (a : Pt) (G : List Pt2) (S : List (Pt × Bool)) (L : List Int) (x : Pt) (S' : List (Pt × Bool)) (L' : List Int) : Prop where
  ls : LS n p a L'
  mono : ∀ y, snB S y = true → snB S' y = true
  recd : ∀ y : Pt, 0 ≤ y.proc → y.proc < n → Rec L y → Rec L' y
  num : uns n S' ≤ uns n S
  new : ∀ y, snB S' y = true → snB S y = true ∨ Cld G S' L' y
theorem arcE_vx {n B : Nat} {p : Pat} (h : PatG n B p) (hB : B ≤ 64) {r : Arc} (hr : r ∈ p.arcs) : VX n (arcE p r).x1 := by
  have hag := h.arc r hr
  have := ivl_le (r := ckR p r.to) (k := r.rcv); have := h.ckW r.to
  exact ⟨hag.to.1, hag.to.2, by simp only [arcE]; omega, by simp only [arcE]; omega⟩
theorem search_g {n B : Nat} {p : Pat} (h : PatG n B p) (hn : n ≤ 5) (hB : B ≤ 64) {a : Pt} {G : List Pt2} (hG : GSp p G) :
    ∀ (d : Nat) (S : List (Pt × Bool)) (L : List Int) (x : Pt), uns n S < d → VX n x → (∀ e, Suc G x e → ZA p a e.x1) → LS n p a L →
      Ok (search_R 10000000 d x p.lens p.ckpts p.arcs G S L) fun t => SOk n p a G S L x t.1 t.2 ∧ snB t.1 x = true := by
  intro d
  induction d with
  | zero => intro S L x hd; omega
  | succ d ih =>
    intro S L x hd hx hz hL
    unfold search_R search_F
    rw [Option.bind_some]
    refine Ok.ite (fun hs => Ok.ret ⟨⟨hL, fun y hy => hy, fun y _ _ hr => hr, Nat.le_refl _, fun y hy => .inl hy⟩, hs⟩) fun hs => ?_
    rw [Option.bind_some]
    have hs' : snB S x = false := hs
    have hu := uns_put hx hs'
    have hx1 : snB (mput S x true) x = true := by rw [snB_put]; simp
    have hxx : (⟨x.proc, x.index⟩ : Pt) = x := rfl
    rw [hxx]
    have hGl := hG.2
    refine Ok.bind (Q := fun t => SOk n p a G (mput S x true) L x t.1 t.2 ∧ ∀ e, Suc G x e → snB t.1 e.x1 = true ∧ Rec t.2 e.x1)
      (Ok.for_ G.length (fun k s => s.2.2 = (k : Int) ∧ SOk n p a G (mput S x true) L x s.1 s.2.1 ∧ ∀ e ∈ G.take k, e.x0.proc = x.proc → x.index ≤ e.x0.index → snB s.1 e.x1 = true ∧ Rec s.2.1 e.x1) ⟨rfl, ⟨hL, fun y hy => hy, fun y _ _ hr => hr, Nat.le_refl _, fun y hy => .inl hy⟩, by simp⟩ (by omega) ?_) ?_
    · rintro k ⟨S1, L1, i⟩ hk ⟨hi, hS, hdone⟩
      simp only at hi hS hdone
      subst hi
      simp only [search_B1]
      refine Ok.iteP (fun hkl => ?_) (fun hkl => Ok.ret ?_)
      · have hkl' : k < G.length := by omega
        have hmem : ∀ e, e ∈ G.take (k + 1) ↔ e ∈ G.take k ∨ e = G[k] := fun e => by rw [mem_take_succ', List.getElem?_eq_getElem hkl', Option.some.injEq, eq_comm (a := G[k])]
        rw [ati_get hkl', Option.bind_some, orM_some, Option.bind_some]
        refine Ok.ite (fun hc => Ok.ret ⟨by omega, w64_nat (by omega), hS, fun e he h1 h2 => ?_⟩) fun hc => ?_
        · rcases (hmem e).1 he with h5 | rfl
          · exact hdone e h5 h1 h2
          · simp at hc; omega
        · simp at hc
          have hsuc : Suc G x G[k] := ⟨List.getElem_mem _, hc.1, by omega⟩
          obtain ⟨r, hr1, hr2, hr3⟩ := (hG.1 G[k]).1 (List.getElem_mem _)
          have hvx : VX n (G[k]).x1 := by rw [hr3]; exact arcE_vx h hB hr1
          have hza := hz G[k] hsuc
          have hLl := hS.ls.1
          obtain ⟨qt, hqt⟩ := Int.eq_ofNat_of_zero_le hvx.1
          have hqn : qt < n := by have := hvx.2.1; omega
          have key : ∀ L2 : List Int, LS n p a L2 → (∀ y : Pt, 0 ≤ y.proc → y.proc < n → Rec L1 y → Rec L2 y) → Rec L2 (G[k]).x1 →
              Ok (search_J1 10000000 (search_R 10000000 d) G[k] p.lens p.ckpts p.arcs G S1 k L2) fun o => Sum.elim (fun s' => k < G.length ∧ s'.2.2 = ((k + 1 : Nat) : Int) ∧ SOk n p a G (mput S x true) L x s'.1 s'.2.1 ∧ ∀ e ∈ G.take (k + 1), e.x0.proc = x.proc → x.index ≤ e.x0.index → snB s'.1 e.x1 = true ∧ Rec s'.2.1 e.x1) (fun t => SOk n p a G (mput S x true) L x t.1 t.2 ∧ ∀ e, Suc G x e → snB t.1 e.x1 = true ∧ Rec t.2 e.x1) o := fun L2 hL2 hmon hrec => by
            unfold search_J1
            refine (ih S1 L2 (G[k]).x1 (by have := hS.num; omega) hvx (fun e he => ?_) hL2).bind fun t ⟨tS, t2⟩ => Ok.ret ?_
            · obtain ⟨r', h1, h2, h3⟩ := (hG.1 e).1 he.1
              rw [h3]
              refine .next hza h1 h2 ?_ ?_
              · have := he.2.1; rw [h3] at this; exact this
              · have := he.2.2; rw [h3] at this; exact this
            · have hvy : ∀ y, Suc G y G[k] ∨ True := fun _ => .inr trivial
              have upg : ∀ y, Cld G S1 L1 y → Cld G t.1 t.2 y := fun y hy e he => by
                obtain ⟨h5, h6⟩ := hy e he
                obtain ⟨r', g1, g2, g3⟩ := (hG.1 e).1 he.1
                have hv := arcE_vx h hB g1
                rw [← g3] at hv
                exact ⟨tS.mono _ h5, tS.recd _ hv.1 hv.2.1 (hmon _ hv.1 hv.2.1 h6)⟩
              refine ⟨hkl', w64_nat (by omega), ⟨tS.ls, fun y hy => tS.mono y (hS.mono y hy), fun y h5 h6 hr => tS.recd y h5 h6 (hmon y h5 h6 (hS.recd y h5 h6 hr)), Nat.le_trans tS.num hS.num, fun y hy => ?_⟩, fun e he h1 h2 => ?_⟩
              · rcases tS.new y hy with h5 | h5
                · rcases hS.new y h5 with h6 | h6
                  · exact .inl h6
                  · exact .inr (upg y h6)
                · exact .inr h5
              · rcases (hmem e).1 he with h5 | rfl
                · obtain ⟨h6, h7⟩ := hdone e h5 h1 h2
                  obtain ⟨r', g1, g2, g3⟩ := (hG.1 e).1 (List.mem_of_mem_take h5)
                  have hv := arcE_vx h hB g1
                  rw [← g3] at hv
                  exact ⟨tS.mono _ h6, tS.recd _ hv.1 hv.2.1 (hmon _ hv.1 hv.2.1 h7)⟩
                · exact ⟨t2, tS.recd _ hvx.1 hvx.2.1 hrec⟩
          rw [ati_nI hvx.1 (by have := hvx.2.1; omega), Option.bind_some, Option.bind_some, orM_some, Option.bind_some]
          refine Ok.ite (fun hc2 => ?_) fun hc2 => ?_
          · rw [Option.bind_some]
            refine (Ok.set hvx.1 (by have := hvx.2.1; omega)).bind fun L2 hL2 => ?_
            have hset : ∀ j : Int, 0 ≤ j → nI L2 j = if j = (G[k]).x1.proc then (G[k]).x1.index else nI L1 j := fun j hj => by rw [hL2]; exact nI_set hvx.1 (by have := hvx.2.1; omega) hj
            simp at hc2
            refine key L2 ⟨by rw [hL2]; simp [hLl], fun q hq => ?_⟩ (fun y h5 h6 hr => ?_) ?_
            · rw [hset q (by omega)]
              split
              · rename_i e; exact .inr ⟨_, hza, e.symm, rfl⟩
              · exact hS.ls.2 q hq
            · unfold Rec at hr ⊢
              rw [hset y.proc h5]
              split
              · rename_i e; rw [e] at hr; exact ⟨hvx.2.2.1, by omega⟩
              · exact hr
            · unfold Rec; rw [hset _ hvx.1, if_pos rfl]; exact ⟨hvx.2.2.1, Int.le_refl _⟩
          · simp at hc2
            exact key L1 hS.ls (fun y _ _ hr => hr) ⟨by omega, by omega⟩
      · have e : k = G.length := by omega
        subst e
        rw [List.take_length] at hdone
        exact ⟨hS, fun e he => hdone e he.1 he.2.1 he.2.2⟩
    · rintro ⟨S1, L1⟩ ⟨hS, hx2⟩
      simp only at hS hx2
      unfold search_K1
      refine Ok.ret ⟨⟨hS.ls, fun y hy => hS.mono y (by rw [snB_put, hy]; simp), hS.recd, (by have := hS.num; show uns n S1 ≤ uns n S; omega), fun y hy => ?_⟩, hS.mono x hx1⟩
      rcases hS.new y hy with h5 | h5
      · rw [snB_put] at h5
        simp only [Bool.or_eq_true, decide_eq_true_eq] at h5
        rcases h5 with rfl | h5
        · exact .inr hx2
        · exact .inl h5
      · exact .inr h5
/-- the least intervals in which Z-paths arrive -/
def LeastS (n : Nat) (p : Pat) (a : Pt) (L : List Int) : Prop := L.length = n ∧ ∀ q : Nat, q < n → (nI L q = -1 ∧ ∀ y, ZA p a y → y.proc ≠ q) ∨ ∃ y, ZA p a y ∧ y.proc = q ∧ nI L q = y.index ∧ ∀ y', ZA p a y' → y'.proc = q → y.index ≤ y'.index
theorem ZA.vx {n B : Nat} {p : Pat} (h : PatG n B p) (hB : B ≤ 64) {a y : Pt} (hz : ZA p a y) : VX n y ∧ 1 ≤ y.index ∧ y.index ≤ (ckR p y.proc).length := by
  have key : ∀ r, r ∈ p.arcs → r.rcv ≠ 0 → VX n (arcE p r).x1 ∧ 1 ≤ (arcE p r).x1.index ∧ (arcE p r).x1.index ≤ (ckR p (arcE p r).x1.proc).length := fun r h1 h2 =>
    ⟨arcE_vx h hB h1, IsEdge.pos (n := n) h (.inr ⟨r, h1, h2, rfl⟩), by have := ivl_le (r := ckR p r.to) (k := r.rcv); simp only [arcE]; omega⟩
  cases hz with
  | first h1 h2 _ _ => exact key _ h1 h2
  | next _ h1 h2 _ _ => exact key _ h1 h2
theorem arrivals_g {n B : Nat} {p : Pat} (h : PatG n B p) (hn : n ≤ 5) (hB : B ≤ 64) {a : Pt} (ha : VN n p a) {G : List Pt2} (hG : GSp p G) : Ok (zigzag_graph_arrivals 10000000 a p.lens p.ckpts p.arcs G) (LeastS n p a) := by
  have hl := h.len
  unfold zigzag_graph_arrivals
  rw [mkL_nat (by omega), Option.bind_some, hl]
  refine Ok.bind (Q := fun t => t.length = n ∧ ∀ q : Nat, q < n → nI t q = -1) (Ok.for_ n (fun k s => s.2 = (k : Int) ∧ s.1.length = n ∧ ∀ q : Nat, q < k → nI s.1 q = -1) ⟨rfl, by simp, fun q hq => by omega⟩ (by omega) ?_) fun L0 ⟨l1, l2⟩ => ?_
  · rintro k ⟨L, i⟩ hk ⟨hi, hLl, h1⟩
    simp only at hi hLl h1
    subst hi
    simp only [zigzag_graph_arrivals_B1, List.length_replicate]
    refine Ok.iteP (fun hkl => ?_) (fun hkl => Ok.ret ⟨hLl, fun q hq => h1 q (by omega)⟩)
    refine (Ok.at (by omega) (by omega)).bind fun _ _ => (Ok.set (by omega) (by omega)).bind fun L2 hL2 => Ok.ret ⟨by omega, w64_nat (by omega), ?_⟩
    subst hL2
    refine ⟨by simp [hLl], fun q hq => ?_⟩
    simp only
    rw [nI_set (by omega) (by omega) (by omega)]
    split
    · rfl
    · exact h1 q (by omega)
  · unfold zigzag_graph_arrivals_K1 search
    have hw := h.ckW a.proc
    have i0 := ha.i0; have i1 := ha.i1
    rw [w64_id (by omega) (by omega)]
    have hsx : ∀ e, Suc G ⟨a.proc, a.index + 1⟩ e → ZA p a e.x1 := fun e he => by
      obtain ⟨r, h1, h2, h3⟩ := (hG.1 e).1 he.1
      rw [h3]
      refine .first h1 h2 ?_ ?_
      · have := he.2.1; rw [h3] at this; exact this
      · have := he.2.2; rw [h3] at this; simp only [arcE] at this; omega
    refine (search_g h hn hB hG 10000000 [] L0 ⟨a.proc, a.index + 1⟩ (by have := uns_le hn (S := []); omega) ⟨ha.p0, ha.p1, by simp only; omega, by simp only; omega⟩ hsx ⟨l1, fun q hq => .inl (l2 q hq)⟩).bind fun t ⟨tS, t2⟩ => Ok.ret ?_
    have hall : ∀ y, snB t.1 y = true → Cld G t.1 t.2 y := fun y hy => (tS.new y hy).resolve_left (by simp [snB, mget])
    have hza : ∀ y, ZA p a y → snB t.1 y = true ∧ Rec t.2 y := fun y hy => by
      induction hy with
      | @first r h1 h2 h3 h4 => exact hall _ t2 (arcE p r) ⟨(hG.1 _).2 ⟨r, h1, h2, rfl⟩, h3, by simp only [arcE]; omega⟩
      | @next y r _ h1 h2 h3 h4 ih => exact hall y ih.1 (arcE p r) ⟨(hG.1 _).2 ⟨r, h1, h2, rfl⟩, h3, h4⟩
    refine ⟨tS.ls.1, fun q hq => ?_⟩
    rcases tS.ls.2 q hq with h5 | ⟨y, h5, h6, h7⟩
    · refine .inl ⟨h5, fun y hy e => ?_⟩
      have := (hza y hy).2.1
      rw [e, h5] at this; omega
    · refine .inr ⟨y, h5, h6, h7, fun y' h8 h9 => ?_⟩
      have := (hza y' h8).2.2
      rw [h9, h7] at this; exact this
theorem LeastS.path {n B : Nat} {p : Pat} (h : PatG n B p) (hB : B ≤ 64) {a b : Pt} {L : List Int} (hL : LeastS n p a L) (hb : VN n p b) : (decide (0 ≤ nI L b.proc) && decide (nI L b.proc ≤ b.index)) = zpB p a b := by
  obtain ⟨q, hq⟩ := Int.eq_ofNat_of_zero_le hb.p0
  have hqn : q < n := by have := hb.p1; omega
  rw [Bool.eq_iff_iff, zpB_iff, hq]
  simp only [Bool.and_eq_true, decide_eq_true_eq]
  rcases hL.2 q hqn with ⟨h1, h2⟩ | ⟨y, h1, h2, h3, h4⟩
  · rw [h1]
    constructor
    · intro h5; omega
    · rintro ⟨y, h5, h6, _⟩; exact absurd (by rw [h6, hq]) (h2 y h5)
  · rw [h3]
    constructor
    · intro h5; exact ⟨y, h1, by rw [h2, hq], h5.2⟩
    · rintro ⟨y', h5, h6, h7⟩
      have := h4 y' h5 (by rw [h6, hq])
      have := (h1.vx h hB).2.1
      exact ⟨by omega, by omega⟩
end Go.Mine
