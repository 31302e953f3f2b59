import Derived.Test.YtddohdppmejjoaaLibC
import Derived.Scope
set_option linter.unusedVariables false
set_option linter.unnecessarySimpa false
namespace Go.Mine
open Go.RowKit
/-! ### regions with operations side by side that may change the world: a tree of orders -/
structure Stat (l : List Oper) (A : List Nat) (N : Nat) : Prop where
  lt : ∀ (i : Nat) (o : Oper), l[i]? = some o → ∀ e ∈ o.after, Region.binds .any e = true → e.on < i
  anc : ∀ (i : Nat) (o : Oper), l[i]? = some o → ∀ k, anc A i k → ∃ e ∈ o.after, Region.binds .any e = true ∧ (e.on = k ∨ Go.Mine.anc A e.on k)
  dst : ∀ (i : Nat) (o : Oper) (d : Nat), l[i]? = some o → o.dst = some d → d < N
  ok : ∀ (i : Nat) (o : Oper), l[i]? = some o → isBad o.op = false
  guard : ∀ (i : Nat) (o : Oper) (j : Nat) (b : Bool), l[i]? = some o → o.guard = some (j, b) → ∃ (oj : Oper) (s : Nat), l[j]? = some oj ∧ oj.dst = some s
  apart : ∀ (i : Nat) (o : Oper) (j : Nat) (oj : Oper) (s : Nat), l[i]? = some o → l[j]? = some oj → i ≠ j → oj.dst = some s → o.dst ≠ some s ∧ (s ∈ touches l o → Go.Mine.anc A i j ∨ Go.Mine.anc A j i)
section
variable {l : List Oper} {A ms : List Nat} {N : Nat}
theorem anc_of_predsT (S : Stat l A N) {L : Nat → Prop} (hc : Closed l L) : ∀ (i : Nat) (o : Oper), l[i]? = some o → (∀ e ∈ o.after, Region.binds .any e = true → L e.on) → ∀ k, anc A i k → L k := by
  intro i
  induction i using Nat.strongRecOn with
  | _ i ih =>
    intro o ho hp k hk
    obtain ⟨e, he, hb, h⟩ := S.anc i o ho k hk
    have hL := hp e he hb
    rcases h with h | h
    · exact h ▸ hL
    · cases hoe : l[e.on]? with
      | none =>
        exfalso
        have h1 := S.lt i o ho e he hb
        have h2 : i < l.length := (List.getElem?_eq_some_iff.1 ho).1
        rw [List.getElem?_eq_none_iff] at hoe
        omega
      | some oe => exact ih e.on (S.lt i o ho e he hb) oe hoe (hc e.on oe hL hoe) k h

theorem FrameIs.putT (S : Stat l A N) {a0 a : Act} {val : Nat → Value} {D : Nat → Prop} (h : FrameIs l N a0 val D a) {i : Nat} {o : Oper} (hi : l[i]? = some o) (v : Value) (hn : ¬ D i) :
    FrameIs l N a0 (fun k => if k = i then v else val k) (fun k => D k ∨ k = i) (a.put o.dst v) := by
  have hv : ∀ k, D k → (if k = i then v else val k) = val k := fun k hk => if_neg (by rintro rfl; exact hn hk)
  cases hd : o.dst with
  | none =>
    refine ⟨h.defers, h.size, fun k ok s hk hs hD => ?_, fun s hm => h.miss s fun k ok hk hs hD => hm k ok hk hs (.inl hD)⟩
    rcases hD with hD | rfl
    · show a.tmps[s]? = _
      simp only [hv k hD]; exact h.hit k ok s hk hs hD
    · rw [hi] at hk; cases hk; rw [hd] at hs; cases hs
  | some d =>
    have hlt := S.dst i o d hi hd
    refine ⟨h.defers, by simp [Act.put, h.size], fun k ok s hk hs hD => ?_, fun s hm => ?_⟩
    · simp only [Act.put]
      by_cases e : k = i
      · subst e
        rw [hi] at hk; cases hk
        rw [hd] at hs; cases hs
        rw [Array.getElem?_setIfInBounds_self_of_lt (by rw [h.size]; exact hlt)]
        simp
      · have hD' : D k := hD.resolve_right e
        have hne : d ≠ s := fun e' => (S.apart k ok i o d hk hi e hd).1 (e' ▸ hs)
        rw [Array.getElem?_setIfInBounds_ne hne]
        simp only [hv k hD']; exact h.hit k ok s hk hs hD'
    · have hne : d ≠ s := fun e' => hm i o hi (e' ▸ hd) (.inr rfl)
      simp only [Act.put]
      rw [Array.getElem?_setIfInBounds_ne hne]
      exact h.miss s fun k ok hk hs hD => hm k ok hk hs (.inl hD)

/-- two frames agree on all that operation i looks at -/
theorem agreeT (S : Stat l A N) {a0 a c : Act} {val : Nat → Value} {L : Nat → Prop} (hc : Closed l L) {d1 : List Nat} {i : Nat} (hid : i ∉ d1) (hpre : ∀ k, anc A i k → k ∈ d1) (hcl : ∀ j ∈ d1, ∀ k, anc A j k → k ∈ d1) {o : Oper} (hi : l[i]? = some o)
    (ha : FrameIs l N a0 val L a) (hcf : FrameIs l N a0 val (· ∈ d1) c) (hL : ¬ L i) (hp : ∀ e ∈ o.after, Region.binds .any e = true → L e.on) :
    ∀ s ∈ touches l o, a.tmps[s]? = c.tmps[s]? := by
  intro s hs
  by_cases hw : ∃ j oj, l[j]? = some oj ∧ oj.dst = some s ∧ j ≠ i
  · obtain ⟨j, oj, hj, hjs, hne⟩ := hw
    -- no other writes s
    have only : ∀ k ok, l[k]? = some ok → ok.dst = some s → k = j := fun k ok hk hks => by
      by_cases e : k = j
      · exact e
      · exact absurd hks (S.apart k ok j oj s hk hj e hjs).1
    rcases (S.apart i o j oj s hi hj (Ne.symm hne) hjs).2 hs with h | h
    · have h1 : L j := anc_of_predsT S hc i o hi hp j h
      have h2 : j ∈ d1 := hpre j h
      rw [ha.hit j oj s hj hjs h1, hcf.hit j oj s hj hjs h2]
    · have h1 : ¬ L j := fun hLj => hL (anc_of_predsT S hc j oj hj (hc j oj hLj hj) i h)
      have h2 : j ∉ d1 := fun hj1 => hid (hcl j hj1 i h)
      rw [ha.miss s fun k ok hk hks => (only k ok hk hks) ▸ h1, hcf.miss s fun k ok hk hks => (only k ok hk hks) ▸ h2]
  · have hno : ∀ k ok, l[k]? = some ok → ok.dst = some s → k = i := fun k ok hk hks => by
      by_cases e : k = i
      · exact e
      · exact absurd ⟨k, ok, hk, hks, e⟩ hw
    rw [ha.miss s fun k ok hk hks => (hno k ok hk hks) ▸ hL, hcf.miss s fun k ok hk hks => (hno k ok hk hks) ▸ hid]

theorem wanted_sameT (S : Stat l A N) {i : Nat} {o : Oper} (hi : l[i]? = some o) {a c : Act} {m : Bool} (h : ∀ s ∈ touches l o, a.tmps[s]? = c.tmps[s]?) :
    Region.wanted o (yielded l.toArray a.tmps) = (mkQ l m o).wanted c := by
  unfold Region.wanted QOp.wanted mkQ
  cases hg : o.guard with
  | none => rfl
  | some p =>
    obtain ⟨j, b⟩ := p
    obtain ⟨oj, s, hj, hs⟩ := S.guard i o j b hi hg
    have ht := h s (List.mem_append_right _ (by rw [hg]; simp [hj, hs]))
    have : yielded l.toArray a.tmps j = boolOf c.tmps[s]? := by
      unfold yielded
      simp only [List.getElem?_toArray, hj, Option.bind_some, hs, ht]
      cases c.tmps[s]? with
      | none => rfl
      | some v => cases v <;> rfl
    simp only [this, getD_of hj, hs, Option.getD_some]

theorem stat_of (hper : (l.zipIdx.all fun (o, i) => perOp l A N i o) = true) : Stat l A N := by
  have per : ∀ i o, l[i]? = some o → perOp l A N i o = true := fun i o hi => by
    have := List.all_eq_true.1 hper (o, i) (mem_zipIdx' hi)
    simpa using this
  refine ⟨fun i o hi e he hb => ?_, fun i o hi k hk => ?_, fun i o d hi hd => ?_, fun i o hi => ?_, fun i o j b hi hg => ?_, fun i o j oj s hi hj hne hs => ?_⟩
  all_goals have hp := per i o hi
  all_goals simp only [perOp, Bool.and_eq_true] at hp
  · have := List.all_eq_true.1 hp.1.1.1.1.1 e (by simpa using he)
    simp only [hb, Bool.not_true, Bool.false_or] at this
    simpa [Nat.blt_eq] using this
  · exact (ancM_spec A o k).1 (subM_spec hp.1.1.1.1.2 k hk)
  · have := hp.1.1.1.2; rw [hd] at this; simpa [Nat.blt_eq] using this
  · simpa using hp.1.1.2
  · have := hp.1.2
    rw [hg] at this
    simp only [Option.isSome_iff_exists] at this
    obtain ⟨s, hs⟩ := this
    cases hj : l[j]? with
    | none => rw [hj] at hs; cases hs
    | some oj => rw [hj] at hs; exact ⟨oj, s, rfl, hs⟩
  · have := List.all_eq_true.1 hp.2 (oj, j) (mem_zipIdx' hj)
    simp only [hs, Bool.or_eq_true, Bool.and_eq_true] at this
    rcases this with this | ⟨h1, h2⟩
    · exact absurd (Nat.eq_of_beq_eq_true this) hne
    · refine ⟨fun hd => ?_, fun hm => ?_⟩
      · rw [hd] at h1; simp at h1
      · rcases h2 with (h2 | h2) | h2
        · simp [hm] at h2
        · exact .inl h2
        · exact .inr h2
/-- an order, or several -/
inductive QT
  | fin
  | op (i : Nat) (t : QT)
  | alt (t u : QT)
def QT.firsts : QT → List Nat
  | .fin => []
  | .op i _ => [i]
  | .alt t u => t.firsts ++ u.firsts
def seqT (P : Program) (X : Nat → Prop) (K : Act → World → Prop) (l : List Oper) (ms : List Nat) : QT → Act → World → Prop
  | .fin, a, w => K a w
  | .op i t, a, w => seqW P X (fun a' w' => seqT P X K l ms t a' w') [mkQ l (ms.contains i) (l.getD i default)] a w
  | .alt t u, a, w => seqT P X K l ms t a w ∧ seqT P X K l ms u a w
def loadsOK (l : List Oper) (A : List Nat) (D i : Nat) : Bool := (List.range l.length).all fun k => !D.testBit k || !Nat.beq (cls (l.getD k default).op) 1 || (A.getD i 0).testBit k
def chkOp (l : List Oper) (A ms : List Nat) (D i : Nat) : Bool :=
  match l[i]? with
  | none => false
  | some o => !D.testBit i && subM (predM o) D && (!Nat.beq (cls o.op) 2 || ms.contains i || loadsOK l A D i)
def cov (l : List Oper) (D : Nat) (cs : List Nat) : Bool := (List.range l.length).all fun k => D.testBit k || cs.contains k || !subM (predM (l.getD k default)) D
def isEff (l : List Oper) (i : Nat) : Bool := Nat.beq (cls (l.getD i default).op) 2
def chkT (l : List Oper) (A ms : List Nat) : Bool → Nat → QT → Bool
  | a, D, .fin => !a && (List.range l.length).all fun k => D.testBit k
  | a, D, .op i t => chkOp l A ms D i && (bif a then isEff l i else (!isEff l i || cov l D [i])) && chkT l A ms false (D ||| 2 ^ i) t
  | a, D, .alt t u => (a || cov l D (t.firsts ++ u.firsts)) && chkT l A ms true D t && chkT l A ms true D u
def regT (l : List Oper) (A ms : List Nat) (T : QT) (N : Nat) : Bool := chkT l A ms false 0 T && l.zipIdx.all fun (o, i) => perOp l A N i o
theorem chkOp_spec {D i : Nat} (h : chkOp l A ms D i = true) : ∃ o, l[i]? = some o ∧ D.testBit i = false ∧ (∀ e ∈ o.after, Region.binds .any e = true → D.testBit e.on = true) ∧ (cls o.op = 2 → ms.contains i = false → ∀ k ok, D.testBit k = true → l[k]? = some ok → cls ok.op = 1 → anc A i k) := by
  unfold chkOp at h
  cases ho : l[i]? with
  | none => rw [ho] at h; cases h
  | some o =>
    rw [ho] at h
    simp only [Bool.and_eq_true, Bool.or_eq_true, Bool.not_eq_true'] at h
    obtain ⟨⟨h1, h2⟩, h3⟩ := h
    refine ⟨o, rfl, h1, fun e he hb => subM_spec h2 _ ((predM_spec o e.on).2 ⟨e, he, hb, rfl⟩), fun hc hms k ok hk hok hc1 => ?_⟩
    rcases h3 with (h3 | h3) | h3
    · rw [hc] at h3; cases h3
    · rw [hms] at h3; cases h3
    · have hlt := (List.getElem?_eq_some_iff.1 hok).1
      have := List.all_eq_true.1 h3 k (List.mem_range.2 hlt)
      rw [hk, getD_of hok, hc1] at this
      simpa [anc] using this
theorem cov_spec {D : Nat} {cs : List Nat} (h : cov l D cs = true) {k : Nat} {o : Oper} (ho : l[k]? = some o) (hp : ∀ e ∈ o.after, Region.binds .any e = true → D.testBit e.on = true) (hD : D.testBit k = false) : k ∈ cs := by
  have hlt := (List.getElem?_eq_some_iff.1 ho).1
  have := List.all_eq_true.1 h k (List.mem_range.2 hlt)
  rw [hD, getD_of ho] at this
  simp only [Bool.false_or, Bool.or_eq_true, Bool.not_eq_true'] at this
  rcases this with h1 | h1
  · simpa using h1
  · exfalso
    have hs : subM (predM o) D = true := by
      unfold subM
      suffices hh : predM o ||| D = D by rw [hh]; exact Nat.beq_refl D
      refine Nat.eq_of_testBit_eq fun j => ?_
      rw [Nat.testBit_or]
      cases hj : (predM o).testBit j
      · simp
      · obtain ⟨e, he, hb, rfl⟩ := (predM_spec o j).1 hj
        rw [hp e he hb]; rfl
    rw [hs] at h1; cases h1
theorem pickT {P : Program} {X : Nat → Prop} {K : Act → World → Prop} {D : Nat} {a : Act} {w : World} {i : Nat} : ∀ (T : QT) (b : Bool), i ∈ T.firsts → chkT l A ms b D T = true → (∀ j t, T = .op j t → b = true) → seqT P X K l ms T a w → ∃ t, chkT l A ms true D (.op i t) = true ∧ seqT P X K l ms (.op i t) a w
  | .fin, b, h, _, _, _ => by cases h
  | .op j t, b, h, hc, hb, hs => by
    have e : i = j := by simpa [QT.firsts] using h
    subst e
    have := hb i t rfl
    subst this
    exact ⟨t, hc, hs⟩
  | .alt t u, b, h, hc, hb, hs => by
    simp only [chkT, Bool.and_eq_true] at hc
    rcases List.mem_append.1 h with h | h
    · exact pickT t true h hc.1.2 (fun _ _ _ => rfl) hs.1
    · exact pickT u true h hc.2 (fun _ _ _ => rfl) hs.2
/-- what is known between two operations of a real order -/
structure InvT (P : Program) (X : Nat → Prop) (l : List Oper) (A ms : List Nat) (N : Nat) (K : Act → World → Prop) (a0 : Act) (L : Nat → Prop) (a : Act) (w : World) (done : List Nat) (D : Nat) (T : QT) (b : Bool) (val : Nat → Value) (av : Act) : Prop where
  mask : ∀ k, D.testBit k = true ↔ k ∈ done
  ex : ∀ i, i ∈ done → ∃ o, l[i]? = some o
  ordd : ∀ d1 i d2, done = d1 ++ i :: d2 → i ∉ d1 ∧ ∀ o, l[i]? = some o → ∀ e ∈ o.after, Region.binds .any e = true → e.on ∈ d1
  sub : ∀ i, L i → i ∈ done
  closed : Closed l L
  effs : ∀ i o, i ∈ done → l[i]? = some o → cls o.op = 2 → L i
  chk : chkT l A ms b D T = true
  seq : seqT P X K l ms T av w
  fa : FrameIs l N a0 val L a
  fv : FrameIs l N a0 val (· ∈ done) av
  quiet : ∀ d1 i d2, done = d1 ++ i :: d2 → ¬ L i → ∃ o c, l[i]? = some o ∧ FrameIs l N a0 val (· ∈ d1) c ∧
    (((mkQ l (ms.contains i) o).wanted c = true ∧ ((cls o.op = 0 ∧ ∀ w', (execOp c.eval o).run P w' = .ok (.value (val i)) w') ∨ (cls o.op = 1 ∧ ∀ w', RelX X w w' → (execOp c.eval o).run P w' = .ok (.value (val i)) w'))) ∨
     ((mkQ l (ms.contains i) o).wanted c = false ∧ val i = undef))
def headT (l : List Oper) : QT → Prop
  | .op i _ => ∃ o, l[i]? = some o ∧ cls o.op = 2
  | _ => True
theorem closedPre {done : List Nat} (hord : ∀ d1 i d2, done = d1 ++ i :: d2 → i ∉ d1 ∧ ∀ o, l[i]? = some o → ∀ e ∈ o.after, Region.binds .any e = true → e.on ∈ d1) (d1 d3 : List Nat) (h : done = d1 ++ d3) : Closed l (· ∈ d1) := fun i o hi ho e he hb => by
  obtain ⟨x, y, hxy⟩ := List.append_of_mem hi
  have := (hord x i (y ++ d3) (by rw [h, hxy]; simp)).2 o ho e he hb
  rw [hxy]; exact List.mem_append_left _ this
theorem ordd_snoc {done : List Nat} {i : Nat} {o : Oper} (hord : ∀ d1 i d2, done = d1 ++ i :: d2 → i ∉ d1 ∧ ∀ o, l[i]? = some o → ∀ e ∈ o.after, Region.binds .any e = true → e.on ∈ d1) (hid : i ∉ done) (ho : l[i]? = some o) (hp : ∀ e ∈ o.after, Region.binds .any e = true → e.on ∈ done) :
    ∀ d1 j d2, done ++ [i] = d1 ++ j :: d2 → j ∉ d1 ∧ ∀ o, l[j]? = some o → ∀ e ∈ o.after, Region.binds .any e = true → e.on ∈ d1 := by
  intro d1 j d2 hk
  rcases List.append_eq_append_iff.1 hk.symm with ⟨as, h1, h2⟩ | ⟨bs, h1, h2⟩
  · cases as with
    | nil =>
      obtain ⟨rfl, rfl⟩ : j = i ∧ d2 = [] := by simpa using h2
      have hd : d1 = done := by simpa using h1.symm
      subst hd
      exact ⟨hid, fun o' ho' => by rw [ho] at ho'; cases ho'; exact hp⟩
    | cons x as =>
      obtain ⟨rfl, rfl⟩ : j = x ∧ d2 = as ++ [i] := by simpa using h2
      exact hord d1 j as h1
  · cases bs with
    | nil =>
      obtain ⟨rfl, rfl⟩ : j = i ∧ d2 = [] := by simpa [eq_comm] using h2
      have hd : d1 = done := by simpa using h1
      subst hd
      exact ⟨hid, fun o' ho' => by rw [ho] at ho'; cases ho'; exact hp⟩
    | cons x bs => have := congrArg List.length h2; simp at this
theorem ex_snoc {done : List Nat} {i : Nat} {o : Oper} (h : ∀ i, i ∈ done → ∃ o, l[i]? = some o) (ho : l[i]? = some o) : ∀ k, k ∈ done ++ [i] → ∃ o, l[k]? = some o := fun k hk => by
  rcases List.mem_append.1 hk with hk | hk
  · exact h k hk
  · obtain rfl : k = i := by simpa using hk
    exact ⟨o, ho⟩
theorem mask_snoc {done : List Nat} {D i : Nat} (h : ∀ k, D.testBit k = true ↔ k ∈ done) : ∀ k, (D ||| 2 ^ i).testBit k = true ↔ k ∈ done ++ [i] := fun k => by
  simp only [Nat.testBit_or, Nat.testBit_two_pow, Bool.or_eq_true, decide_eq_true_eq, List.mem_append, List.mem_singleton, h k]
  constructor <;> rintro (h | h) <;> first | exact .inl h | exact .inr h.symm
theorem quiet_snoc {P : Program} {X : Nat → Prop} {a0 : Act} {w w1 : World} {L L' : Nat → Prop} {done : List Nat} {i : Nat} {u : Value} {val : Nat → Value} (hid : i ∉ done) (hL : ∀ k, L k → L' k)
    (hq : ∀ d1 i d2, done = d1 ++ i :: d2 → ¬ L i → ∃ o c, l[i]? = some o ∧ FrameIs l N a0 val (· ∈ d1) c ∧
      (((mkQ l (ms.contains i) o).wanted c = true ∧ ((cls o.op = 0 ∧ ∀ w', (execOp c.eval o).run P w' = .ok (.value (val i)) w') ∨ (cls o.op = 1 ∧ ∀ w', RelX X w w' → (execOp c.eval o).run P w' = .ok (.value (val i)) w'))) ∨
       ((mkQ l (ms.contains i) o).wanted c = false ∧ val i = undef)))
    (hload : ∀ k o, k ∈ done → ¬ L k → l[k]? = some o → cls o.op = 1 → RelX X w w1)
    (hlast : ¬ L' i → ∃ o c, l[i]? = some o ∧ FrameIs l N a0 (fun k => if k = i then u else val k) (· ∈ done) c ∧
      (((mkQ l (ms.contains i) o).wanted c = true ∧ ((cls o.op = 0 ∧ ∀ w', (execOp c.eval o).run P w' = .ok (.value u) w') ∨ (cls o.op = 1 ∧ ∀ w', RelX X w1 w' → (execOp c.eval o).run P w' = .ok (.value u) w'))) ∨
       ((mkQ l (ms.contains i) o).wanted c = false ∧ u = undef))) :
    ∀ d1 k d2, done ++ [i] = d1 ++ k :: d2 → ¬ L' k → ∃ o c, l[k]? = some o ∧ FrameIs l N a0 (fun k => if k = i then u else val k) (· ∈ d1) c ∧
      (((mkQ l (ms.contains k) o).wanted c = true ∧ ((cls o.op = 0 ∧ ∀ w', (execOp c.eval o).run P w' = .ok (.value (if k = i then u else val k)) w') ∨ (cls o.op = 1 ∧ ∀ w', RelX X w1 w' → (execOp c.eval o).run P w' = .ok (.value (if k = i then u else val k)) w'))) ∨
       ((mkQ l (ms.contains k) o).wanted c = false ∧ (if k = i then u else val k) = undef)) := by
  have hvn : ∀ k, k ∈ done → (if k = i then u else val k) = val k := fun k hk => if_neg (by rintro rfl; exact hid hk)
  intro d1 k d2 hk hLk
  have last : d1 = done → k = i → ∃ o c, l[k]? = some o ∧ FrameIs l N a0 (fun k => if k = i then u else val k) (· ∈ d1) c ∧
      (((mkQ l (ms.contains k) o).wanted c = true ∧ ((cls o.op = 0 ∧ ∀ w', (execOp c.eval o).run P w' = .ok (.value (if k = i then u else val k)) w') ∨ (cls o.op = 1 ∧ ∀ w', RelX X w1 w' → (execOp c.eval o).run P w' = .ok (.value (if k = i then u else val k)) w'))) ∨
       ((mkQ l (ms.contains k) o).wanted c = false ∧ (if k = i then u else val k) = undef)) := by
    rintro rfl rfl
    obtain ⟨o, c, h1, h2, h3⟩ := hlast hLk
    exact ⟨o, c, h1, h2, by simpa using h3⟩
  rcases List.append_eq_append_iff.1 hk.symm with ⟨as, h1, h2⟩ | ⟨bs, h1, h2⟩
  · cases as with
    | nil =>
      obtain ⟨rfl, rfl⟩ : k = i ∧ d2 = [] := by simpa using h2
      exact last (by simpa using h1.symm) rfl
    | cons x as =>
      obtain ⟨rfl, rfl⟩ : k = x ∧ d2 = as ++ [i] := by simpa using h2
      have hkm : k ∈ done := by rw [h1]; simp
      obtain ⟨o', c, ho', hfc, hq⟩ := hq d1 k as h1 fun h => hLk (hL k h)
      refine ⟨o', c, ho', hfc.congr (fun _ => Iff.rfl) fun m hm => hvn m (by rw [h1]; exact List.mem_append_left _ hm), ?_⟩
      simp only [hvn k hkm]
      rcases hq with ⟨hw, ⟨hc, hrun⟩ | ⟨hc, hrun⟩⟩ | hq
      · exact .inl ⟨hw, .inl ⟨hc, hrun⟩⟩
      · exact .inl ⟨hw, .inr ⟨hc, fun w' hB' => hrun w' ((hload k o' hkm (fun h => hLk (hL k h)) ho' hc).trans hB')⟩⟩
      · exact .inr hq
  · cases bs with
    | nil =>
      obtain ⟨rfl, rfl⟩ : k = i ∧ d2 = [] := by simpa [eq_comm] using h2
      exact last (by simpa using h1) rfl
    | cons x bs => have := congrArg List.length h2; simp at this
/-- the quiet operations that stand next -/
theorem advanceT (S : Stat l A N) {P : Program} {X : Nat → Prop} {K : Act → World → Prop} {a0 a : Act} {L : Nat → Prop} {w : World} : ∀ (T : QT) (done : List Nat) (D : Nat) (val : Nat → Value) (av : Act), InvT P X l A ms N K a0 L a w done D T false val av →
    ∃ done' D' T' val' av', InvT P X l A ms N K a0 L a w done' D' T' false val' av' ∧ headT l T' := by
  intro T
  induction T with
  | fin => exact fun done D val av h => ⟨done, D, .fin, val, av, h, trivial⟩
  | alt t u _ _ => exact fun done D val av h => ⟨done, D, .alt t u, val, av, h, trivial⟩
  | op i t ih =>
    intro done D val av h
    have hck := h.chk
    simp only [chkT, Bool.and_eq_true, cond_false] at hck
    obtain ⟨⟨hop, _⟩, hck'⟩ := hck
    obtain ⟨o, ho, hDi, hpre, _⟩ := chkOp_spec hop
    rcases Nat.decEq (cls o.op) 2 with hne | heq
    case isTrue => exact ⟨done, D, .op i t, val, av, h, o, ho, heq⟩
    have hid : i ∉ done := fun hm => by rw [(h.mask i).2 hm] at hDi; cases hDi
    have hLi : ¬ L i := fun hL => hid (h.sub i hL)
    have hpd : ∀ e ∈ o.after, Region.binds .any e = true → e.on ∈ done := fun e he hb => (h.mask _).1 (hpre e he hb)
    have hseq := h.seq
    have step : ∀ v, seqT P X K l ms t (av.put o.dst v) w →
        (((mkQ l (ms.contains i) o).wanted av = true ∧ ((cls o.op = 0 ∧ ∀ w', (execOp av.eval o).run P w' = .ok (.value v) w') ∨ (cls o.op = 1 ∧ ∀ w', RelX X w w' → (execOp av.eval o).run P w' = .ok (.value v) w'))) ∨
         ((mkQ l (ms.contains i) o).wanted av = false ∧ v = undef)) →
        ∃ done' D' T' val' av', InvT P X l A ms N K a0 L a w done' D' T' false val' av' ∧ headT l T' := by
      intro v hs hv
      have hvn : ∀ k, k ∈ done → (if k = i then v else val k) = val k := fun k hk => if_neg (by rintro rfl; exact hid hk)
      refine ih (done ++ [i]) (D ||| 2 ^ i) (fun k => if k = i then v else val k) (av.put o.dst v) ⟨mask_snoc h.mask, ex_snoc h.ex ho, ordd_snoc h.ordd hid ho hpd, fun k hk => List.mem_append_left _ (h.sub k hk), h.closed, fun k ok hk hok hc => ?_, hck', hs, ?_, ?_, ?_⟩
      · rcases List.mem_append.1 hk with hk | hk
        · exact h.effs k ok hk hok hc
        · have : k = i := by simpa using hk
          subst this; rw [ho] at hok; cases hok; exact absurd hc hne
      · exact h.fa.congr (fun _ => Iff.rfl) fun k hk => hvn k (h.sub k hk)
      · exact (h.fv.putT S ho v hid).congr (fun k => by simp) fun _ _ => rfl
      · exact quiet_snoc hid (fun _ h => h) h.quiet (fun _ _ _ _ _ _ => RelX.refl _ _) fun _ => ⟨o, av, ho, h.fv.congr (fun _ => Iff.rfl) hvn, hv⟩
    simp only [seqT, seqW, getD_of ho] at hseq
    split at hseq
    · rename_i hw
      split at hseq
      · rename_i hc
        obtain ⟨v, hv, hs⟩ := hseq
        exact step v hs (.inl ⟨hw, .inl ⟨hc, hv⟩⟩)
      · split at hseq
        · rename_i hc
          obtain ⟨v, hv, hs⟩ := hseq
          exact step v hs (.inl ⟨hw, .inr ⟨hc, hv⟩⟩)
        · rename_i h0 h1
          rcases cls_lt o.op with h | h | h
          · exact absurd h h0
          · exact absurd h h1
          · exact absurd h hne
    · rename_i hw
      exact step undef hseq (.inr ⟨by simpa using hw, rfl⟩)
theorem InvT.all (S : Stat l A N) {P : Program} {X : Nat → Prop} {K : Act → World → Prop} {a0 a av : Act} {L : Nat → Prop} {w : World} {done : List Nat} {D : Nat} {T : QT} {val : Nat → Value} (I : InvT P X l A ms N K a0 L a w done D T false val av) (hall : ∀ i, i < l.length → L i) : K a w := by
  have hD : ∀ i, i < l.length → D.testBit i = true := fun i hi => (I.mask i).2 (I.sub i (hall i hi))
  have key : ∀ (T : QT) (b : Bool), chkT l A ms b D T = true → T = .fin := fun T => by
    induction T with
    | fin => exact fun _ _ => rfl
    | op i t _ =>
      intro b hc
      simp only [chkT, Bool.and_eq_true] at hc
      obtain ⟨o, ho, h1, _⟩ := chkOp_spec hc.1.1
      rw [hD i (List.getElem?_eq_some_iff.1 ho).1] at h1; cases h1
    | alt t u ih1 ih2 =>
      intro b hc
      simp only [chkT, Bool.and_eq_true] at hc
      have := ih1 true hc.1.2
      subst this
      have h1 := hc.1.2
      simp [chkT] at h1
  have hT := key T false I.chk
  have hseq := I.seq
  subst hT
  have hK : K av w := hseq
  have ht : a.tmps = av.tmps := by
    refine Array.ext_getElem? fun s => ?_
    by_cases hw : ∃ (j : Nat) (oj : Oper), l[j]? = some oj ∧ oj.dst = some s
    · obtain ⟨j, oj, hj, hjs⟩ := hw
      have hL := hall j (List.getElem?_eq_some_iff.1 hj).1
      rw [I.fa.hit j oj s hj hjs hL, I.fv.hit j oj s hj hjs (I.sub j hL)]
    · rw [I.fa.miss s fun k ok hk hks => absurd ⟨k, ok, hk, hks⟩ hw, I.fv.miss s fun k ok hk hks => absurd ⟨k, ok, hk, hks⟩ hw]
  have hd : a.defers = av.defers := I.fa.defers.trans I.fv.defers.symm
  obtain ⟨t, d⟩ := a
  obtain ⟨t', d'⟩ := av
  simp only at ht hd
  subst ht; subst hd
  exact hK
theorem region_anyT (S : Stat l A N) {P : Program} {X : Nat → Prop} {K : Act → World → Prop} {Q : Exit → Act → World → Prop} (hQ : ∀ a w, K a w → Q .normal a w) {a0 : Act} :
    ∀ (fuel : Nat) (listed : Array Bool) (a : Act) (w : World) (U : List Nat), listed.size = l.length → U.Nodup → (∀ i, i ∈ U ↔ i < l.length ∧ listed.getD i false = false) → U.length ≤ fuel →
      (∃ done D T val av, InvT P X l A ms N K a0 (fun i => listed.getD i false = true) a w done D T false val av ∧ headT l T) → wpAny P .any l.toArray Q fuel listed a w := by
  intro fuel
  induction fuel with
  | zero =>
    intro listed a w U hsz hnd hU hlen hI
    obtain ⟨done, D, T, val, av, I, _⟩ := hI
    have hU0 : U = [] := List.length_eq_zero_iff.1 (by omega)
    have hall : ∀ i, i < l.length → listed.getD i false = true := fun i hi => by
      cases h : listed.getD i false
      · have := (hU i).2 ⟨hi, h⟩; rw [hU0] at this; cases this
      · rfl
    refine ⟨?_, hQ _ _ (I.all S hall)⟩
    refine List.eq_nil_iff_forall_not_mem.2 fun i hi => ?_
    rw [mem_ready] at hi
    obtain ⟨h0, o, ho, _⟩ := hi
    have hlt : i < l.length := by
      have := (Array.getElem?_eq_some_iff.1 ho).1; simpa using this
    have h1 := hall i hlt
    have : i < listed.size := by omega
    simp [Array.getD, this] at h0 h1
    rw [h0] at h1; cases h1
  | succ fuel ih =>
    intro listed a w U hsz hnd hU hlen hI
    obtain ⟨done, D, T, val, av, I, hh⟩ := hI
    have hgd : ∀ i, i < l.length → listed.getD i true = listed.getD i false := fun i hi => by
      have : i < listed.size := by omega
      simp [Array.getD, this]
    refine ⟨fun hr => hQ _ _ (I.all S fun i hi => ?_), fun i hi => ?_⟩
    · cases hli : listed.getD i false
      · exfalso
        -- the least operation that has not come up
        have hex : ∃ k, k < l.length ∧ listed.getD k false = false := ⟨i, hi, hli⟩
        have key : ∀ n, (∃ k, k < n ∧ k < l.length ∧ listed.getD k false = false) → False := by
          intro n
          induction n with
          | zero => rintro ⟨k, hk, _⟩; omega
          | succ n ih2 =>
            rintro ⟨k, hk, hkl, hkf⟩
            by_cases hsm : ∃ k', k' < n ∧ k' < l.length ∧ listed.getD k' false = false
            · exact ih2 hsm
            · have hkn : k = n := by
                rcases Nat.lt_or_ge k n with h | h
                · exact absurd ⟨k, h, hkl, hkf⟩ hsm
                · omega
              subst hkn
              have ho : l[k]? = some l[k] := by simp [hkl]
              have : k ∈ Region.ready .any l.toArray listed := by
                rw [mem_ready]
                refine ⟨by rw [hgd k hkl]; exact hkf, l[k], by simpa using ho, fun e he hb => ?_⟩
                have hlt := S.lt k l[k] ho e he hb
                cases hef : listed.getD e.on false
                · exact absurd ⟨e.on, hlt, by omega, hef⟩ hsm
                · rfl
              rw [hr] at this; cases this
        exact key l.length (by obtain ⟨k, h1, h2⟩ := hex; exact ⟨k, h1, h1, h2⟩)
      · rfl
    · rw [mem_ready] at hi
      obtain ⟨h0, o, ho', hpre⟩ := hi
      have ho : l[i]? = some o := by simpa using ho'
      have hil : i < l.length := (List.getElem?_eq_some_iff.1 ho).1
      have hLi : ¬ listed.getD i false = true := by rw [← hgd i hil, h0]; simp
      have hset : ∀ k, (listed.setIfInBounds i true).getD k false = true ↔ listed.getD k false = true ∨ k = i := fun k => by
        by_cases e : i = k
        · subst e
          have : i < listed.size := by omega
          simp [this]
        · have e' : k ≠ i := fun h => e h.symm
          simp [Array.getElem?_setIfInBounds_ne e, e']
      -- the rest of the way, whatever the step gave
      have next : ∀ (a1 : Act) (w1 : World), (∃ done D T val av, InvT P X l A ms N K a0 (fun k => listed.getD k false = true ∨ k = i) a1 w1 done D T false val av ∧ headT l T) →
          wpAny P .any l.toArray Q fuel (listed.setIfInBounds i true) a1 w1 := by
        intro a1 w1 hI1
        have himU : i ∈ U := (hU i).2 ⟨hil, by simpa using hLi⟩
        refine ih _ a1 w1 (U.erase i) (by simpa using hsz) (hnd.erase i) (fun k => ?_) (by rw [List.length_erase_of_mem himU]; omega) ?_
        · rw [hnd.mem_erase_iff, hU k]
          have := hset k
          cases hk : (listed.setIfInBounds i true).getD k false <;> cases hk' : listed.getD k false <;> simp_all
        · obtain ⟨d, r, v, b, c, hI2, hh2⟩ := hI1
          have hfun : (fun k => (listed.setIfInBounds i true).getD k false = true) = (fun k => listed.getD k false = true ∨ k = i) := funext fun k => propext (hset k)
          rw [hfun]
          exact ⟨d, r, v, b, c, hI2, hh2⟩
      have hclosed' : Closed l (fun k => listed.getD k false = true ∨ k = i) := by
        rintro k ok (hk | rfl) hok e he hb
        · exact .inl (I.closed k ok hk hok e he hb)
        · rw [ho] at hok; cases hok; exact .inl (hpre e he hb)
      unfold wpOp
      rw [ho']
      by_cases hid : i ∈ done
      · -- a quiet operation that the canonical order has already carried out
        obtain ⟨d1, d2, hsp⟩ := List.append_of_mem hid
        obtain ⟨o1, c, ho1, hfc, hq⟩ := I.quiet d1 i d2 hsp hLi
        rw [ho] at ho1; cases ho1
        have hcp := closedPre I.ordd d1 (i :: d2) hsp
        obtain ⟨hni, hpi⟩ := I.ordd d1 i d2 hsp
        have hag := agreeT S I.closed hni (anc_of_predsT S hcp i o ho (hpi o ho)) (fun j hj k hk => by
          obtain ⟨oj, hoj⟩ := I.ex j (by rw [hsp]; exact List.mem_append_left _ hj)
          exact anc_of_predsT S hcp j oj hoj (hcp j oj hj hoj) k hk) ho I.fa hfc hLi hpre
        have hws := wanted_sameT S (m := ms.contains i) ho hag
        have hex := exec_same (m := ms.contains i) (S.ok i o ho) hag
        have hput : FrameIs l N a0 val (fun k => listed.getD k false = true ∨ k = i) (a.put o.dst (val i)) :=
          (I.fa.putT S ho (val i) hLi).congr (fun _ => Iff.rfl) fun k _ => by by_cases e : k = i <;> simp [e]
        have done' : InvT P X l A ms N K a0 (fun k => listed.getD k false = true ∨ k = i) (a.put o.dst (val i)) w done D T false val av :=
          ⟨I.mask, I.ex, I.ordd, fun k hk => hk.elim (I.sub k) (fun e => e ▸ hid), hclosed', fun k ok hk hok hc => .inl (I.effs k ok hk hok hc), I.chk, I.seq, hput, I.fv, fun x k y hk hn => I.quiet x k y hk fun h => hn (.inl h)⟩
        simp only
        rcases hq with ⟨hw, hrun⟩ | ⟨hw, hv⟩
        · rw [if_pos (hws.trans hw)]
          refine .inl ?_
          have hr : (execOp a.eval o).run P w = .ok (.value (val i)) w := by
            rw [hex]
            rcases hrun with ⟨_, hrun⟩ | ⟨_, hrun⟩
            · exact hrun w
            · exact hrun w (RelX.refl _ _)
          unfold Oper.wp
          rw [hr]
          exact next _ _ ⟨done, D, T, val, av, done', hh⟩
        · rw [if_neg (by rw [hws, hw]; simp), ← hv]
          exact next _ _ ⟨done, D, T, val, av, done', hh⟩
      · -- the next one that may change the world
        have hDi : D.testBit i = false := by
          cases h : D.testBit i
          · rfl
          · exact absurd ((I.mask i).1 h) hid
        have hpD : ∀ e ∈ o.after, Region.binds .any e = true → D.testBit e.on = true := fun e he hb => (I.mask _).2 (I.sub _ (hpre e he hb))
        have hhead : ∃ t, chkT l A ms true D (.op i t) = true ∧ seqT P X K l ms (.op i t) av w := by
          have hck := I.chk
          have hsq := I.seq
          cases T with
          | fin =>
            exfalso
            simp only [chkT, Bool.not_false, Bool.true_and] at hck
            have := List.all_eq_true.1 hck i (List.mem_range.2 hil)
            rw [hDi] at this; cases this
          | op j t =>
            obtain ⟨oj, hoj, hcj⟩ := hh
            have hck0 := hck
            simp only [chkT, Bool.and_eq_true, cond_false] at hck
            have he : isEff l j = true := by unfold isEff; rw [getD_of hoj, hcj]; rfl
            have hcov : cov l D [j] = true := by have := hck.1.2; rw [he] at this; simpa using this
            have := cov_spec hcov ho hpD hDi
            have e : i = j := by simpa using this
            subst e
            refine ⟨t, ?_, hsq⟩
            simp only [chkT, Bool.and_eq_true, cond_true]
            exact ⟨⟨hck.1.1, he⟩, hck.2⟩
          | alt t u =>
            have hcov : cov l D (t.firsts ++ u.firsts) = true := by
              simp only [chkT, Bool.and_eq_true, Bool.false_or] at hck; exact hck.1.1
            exact pickT (.alt t u) false (cov_spec hcov ho hpD hDi) hck (fun _ _ h => by cases h) hsq
        obtain ⟨t, hck, hsq⟩ := hhead
        simp only [chkT, Bool.and_eq_true, cond_true] at hck
        obtain ⟨⟨hop, heff⟩, hck'⟩ := hck
        obtain ⟨o2, ho2, _, _, hmono⟩ := chkOp_spec hop
        rw [ho] at ho2; cases ho2
        have hcj : cls o.op = 2 := by unfold isEff at heff; rw [getD_of ho] at heff; exact Nat.eq_of_beq_eq_true heff
        have hpd : ∀ e ∈ o.after, Region.binds .any e = true → e.on ∈ done := fun e he hb => (I.mask _).1 (hpD e he hb)
        have hcp := closedPre I.ordd done [] (by simp)
        have hag := agreeT S I.closed hid (anc_of_predsT S hcp i o ho hpd) (fun j hj k hk => by
          obtain ⟨oj, hoj⟩ := I.ex j hj
          exact anc_of_predsT S hcp j oj hoj (hcp j oj hj hoj) k hk) ho I.fa I.fv hLi hpre
        have hws := wanted_sameT S (m := ms.contains i) ho hag
        have hex := exec_same (m := ms.contains i) (S.ok i o ho) hag
        simp only [seqT, seqW, getD_of ho] at hsq
        have fin : ∀ u w1, seqT P X K l ms t (av.put o.dst u) w1 → (ms.contains i = true → RelX X w w1) →
            wpAny P .any l.toArray Q fuel (listed.setIfInBounds i true) (a.put o.dst u) w1 := by
          intro u w1 hs hB
          refine next _ _ (advanceT S t (done ++ [i]) (D ||| 2 ^ i) (fun k => if k = i then u else val k) (av.put o.dst u) ⟨mask_snoc I.mask, ex_snoc I.ex ho, ordd_snoc I.ordd hid ho hpd, ?_, hclosed', ?_, hck', hs, ?_, ?_, ?_⟩)
          · rintro k (hk | rfl)
            · exact List.mem_append_left _ (I.sub k hk)
            · simp
          · intro k ok hk hok hc
            rcases List.mem_append.1 hk with hk | hk
            · exact .inl (I.effs k ok hk hok hc)
            · exact .inr (by simpa using hk)
          · exact I.fa.putT S ho u hLi
          · exact (I.fv.putT S ho u hid).congr (fun k => by simp) fun _ _ => rfl
          · refine quiet_snoc hid (fun k h => .inl h) I.quiet (fun k ok hk hLk hok hc => ?_) (fun h => (h (.inr rfl)).elim)
            have hms : ms.contains i = true := by
              cases h : ms.contains i
              · exfalso
                have := hmono hcj h k ok ((I.mask k).2 hk) hok hc
                exact hLk (anc_of_predsT S I.closed i o ho hpre k this)
              · rfl
            exact hB hms
        simp only
        split at hsq
        · rename_i hw
          rw [if_pos (hws.trans hw)]
          refine .inl ?_
          have h0 : ¬ cls (mkQ l (ms.contains i) o).op = 0 := by show ¬ cls o.op = 0; omega
          have h1 : ¬ cls (mkQ l (ms.contains i) o).op = 1 := by show ¬ cls o.op = 1; omega
          rw [if_neg h0, if_neg h1] at hsq
          refine Oper.wp_mono (fun a1 w1 h => ?_) (wp_transfer (Q := Q) hex hsq)
          obtain ⟨u, rfl, v, huv, hB, hs⟩ := h
          refine fin u w1 ?_ hB
          have huv' : av.put o.dst u = av.put o.dst v := huv
          rw [huv']; exact hs
        · rename_i hw
          rw [if_neg (by rw [hws]; exact hw)]
          exact fin undef w hsq fun _ => RelX.refl _ _
end
section
variable {P : Program} {N : Fr} {X : Nat → Prop} {Q : EPost} {K : Env → World → Prop} {E : Env} {w : World} {l : List Oper} {ms : List Nat}
def eseqT (P : Program) (N : Fr) (X : Nat → Prop) (K : Env → World → Prop) (l : List Oper) (ms : List Nat) : QT → Env → World → Prop
  | .fin, E, w => K E w
  | .op i t, E, w => eseq P N X (fun E' w' => eseqT P N X K l ms t E' w') [mkQ l (ms.contains i) (l.getD i default)] E w
  | .alt t u, E, w => eseqT P N X K l ms t E w ∧ eseqT P N X K l ms u E w
theorem eseqT_spec : ∀ (T : QT) (E : Env) (w : World), eseqT P N X K l ms T E w → ∀ d a, Has a N E → seqT P X (fun a' w' => ∃ E' w0 d', w' = w0.atd d' ∧ Has a' N E' ∧ K E' w0) l ms T a (w.atd d)
  | .fin, E, w, h, d, a, ha => ⟨E, w, d, rfl, ha, h⟩
  | .alt t u, E, w, h, d, a, ha => ⟨eseqT_spec t E w h.1 d a ha, eseqT_spec u E w h.2 d a ha⟩
  | .op i t, E, w, h, d, a, ha => by
    have h1 := h d a ha
    have key : ∀ (qs : List QOp) (a : Act) (w : World), seqW P X (fun a' w' => ∃ E' w0 d', w' = w0.atd d' ∧ Has a' N E' ∧ eseqT P N X K l ms t E' w0) qs a w → seqW P X (fun a' w' => seqT P X (fun a' w' => ∃ E' w0 d', w' = w0.atd d' ∧ Has a' N E' ∧ K E' w0) l ms t a' w') qs a w := by
      intro qs
      induction qs with
      | nil => rintro a w ⟨E', w0, d', rfl, hE, hK⟩; exact eseqT_spec t E' w0 hK d' a hE
      | cons q G ih =>
        intro a w h
        simp only [seqW] at h ⊢
        split at h
        · rename_i hw
          rw [if_pos hw]
          split at h
          · rename_i hc
            rw [if_pos hc]
            obtain ⟨v, h1, h2⟩ := h
            exact ⟨v, h1, ih _ _ h2⟩
          · rename_i hc
            rw [if_neg hc]
            split at h
            · rename_i hc1
              rw [if_pos hc1]
              obtain ⟨v, h1, h2⟩ := h
              exact ⟨v, h1, ih _ _ h2⟩
            · rename_i hc1
              rw [if_neg hc1]
              exact Oper.wp_mono (fun a1 w1 ⟨v, e, hB, hs⟩ => ⟨v, e, hB, ih _ _ hs⟩) h
        · rename_i hw
          rw [if_neg hw]
          exact ih _ _ h
    exact key _ _ _ h1
/-- a region that draws its order, in each of the orders of a tree -/
theorem e_region_T {id : Nat} (hm : P.follows .mixedOrders = true) (X : Nat → Prop) (A ms : List Nat) (T : QT) (hok : regT l A ms T N.n = true) (h : eseqT P N X (Q .normal) l ms T E w) : ewp P N (.region id l.toArray true) Q E w := by
  intro d a ha
  simp only [regT, Bool.and_eq_true] at hok
  have S := stat_of hok.2
  refine wp_region_any hm ?_
  refine region_anyT (X := X) (ms := ms) S (K := fun a' w' => ∃ E' w0 d', w' = w0.atd d' ∧ Has a' N E' ∧ Q .normal E' w0) (fun a' w' ⟨E', w0, d', hw, hE, hQ⟩ => ⟨E', w0, d', hw, hE, hQ⟩) (a0 := a) _ _ _ _ (List.range l.length) (by simp) List.nodup_range (fun i => ?_) (by simp) ?_
  · by_cases h : i < l.length <;> simp [Array.getD, h]
  · have hl : ∀ i, ¬ (Array.replicate l.toArray.size false).getD i false = true := fun i => by
      by_cases h : i < l.length <;> simp [Array.getD, h]
    refine advanceT S T [] 0 (fun _ => undef) a ⟨by simp, fun i hi => (by cases hi), fun d1 i d2 hd => (by cases d1 <;> cases hd), fun i hi => absurd hi (hl i), fun i o hi => absurd hi (hl i), fun i o hi => (by cases hi), hok.1, eseqT_spec T E w h (d + 1) a ha, ?_, ?_, fun d1 i d2 hd => (by cases d1 <;> cases hd)⟩
    · exact ⟨rfl, ha.size, fun i o s _ _ hi => absurd hi (hl i), fun _ _ => rfl⟩
    · exact ⟨rfl, ha.size, fun i o s _ _ hi => (by cases hi), fun _ _ => rfl⟩
theorem t_op {i : Nat} {t : QT} (h : eseq P N X (fun E' w' => eseqT P N X K l ms t E' w') [mkQ l (ms.contains i) (l.getD i default)] E w) : eseqT P N X K l ms (.op i t) E w := h
theorem t_alt {t u : QT} (h1 : eseqT P N X K l ms t E w) (h2 : eseqT P N X K l ms u E w) : eseqT P N X K l ms (.alt t u) E w := ⟨h1, h2⟩
theorem t_fin (h : K E w) : eseqT P N X K l ms .fin E w := h
end
end Go.Mine

namespace Go.Mine
open Go.RowKit

/-! ### plain operations: none where the program would panic (or would outgrow a bound that no input reaches) -/
section
variable {α σ τ : Type}
def w64 (i : Int) : Int := IntKind.i64.wrap i
theorem w64_eq {i : Int} (h1 : -9223372036854775808 ≤ i) (h2 : i ≤ 9223372036854775807) : w64 i = i := wr64 h1 h2
def ati (xs : List α) (i : Int) : Option α := if i < 0 then none else xs[i.toNat]?
def seti (xs : List α) (i : Int) (x : α) : Option (List α) := if 0 ≤ i ∧ i < xs.length then some (xs.set i.toNat x) else none
def snoc (xs : List α) (x : α) : Option (List α) := if xs.length < 1000000000 then some (xs ++ [x]) else none
def catL (xs ys : List α) : Option (List α) := if xs.length + ys.length ≤ 1000000000 then some (xs ++ ys) else none
def mkL (n : Int) (x : α) : Option (List α) := if 0 ≤ n ∧ n ≤ 1000000000 then some (List.replicate n.toNat x) else none
def takeL (xs : List α) (j : Int) : Option (List α) := if 0 ≤ j ∧ j ≤ xs.length then some (xs.take j.toNat) else none
def dropL (xs : List α) (i : Int) : Option (List α) := if 0 ≤ i ∧ i ≤ xs.length then some (xs.drop i.toNat) else none
def remI (i j : Int) : Option Int := if j = 0 then none else some (i.tmod j)
def andM (b : Bool) (m : Option Bool) : Option Bool := if b = true then m else some false
def orM (b : Bool) (m : Option Bool) : Option Bool := if b = true then some true else m
/-- a loop: rounds until one leaves it -/
def iter (body : σ → Option (σ ⊕ τ)) : Nat → σ → Option τ
  | 0, _ => none
  | n + 1, s => (body s).bind fun o => Sum.elim (fun s' => iter body n s') some o
theorem iter_some {body : σ → Option (σ ⊕ τ)} {n : Nat} {s : σ} {t : τ} (h : iter body n s = some t) : ∃ m, n = m + 1 ∧ ∃ o, body s = some o ∧ Sum.elim (fun s' => iter body m s') some o = some t := by
  cases n with
  | zero => cases h
  | succ m => exact ⟨m, rfl, Option.bind_eq_some_iff.1 h⟩
theorem ati_lt {xs : List α} {i : Int} {a : α} (h : ati xs i = some a) : 0 ≤ i ∧ i.toNat < xs.length ∧ xs[i.toNat]? = some a := by
  unfold ati at h
  split at h
  · cases h
  · exact ⟨by omega, (List.getElem?_eq_some_iff.1 h).1, h⟩
theorem seti_eq {xs ys : List α} {i : Int} {x : α} (h : seti xs i x = some ys) : 0 ≤ i ∧ i.toNat < xs.length ∧ ys = xs.set i.toNat x := by
  unfold seti at h
  split at h
  · cases h; exact ⟨by omega, by omega, rfl⟩
  · cases h
theorem snoc_eq {xs ys : List α} {x : α} (h : snoc xs x = some ys) : xs.length + 1 ≤ 1000000000 ∧ ys = xs ++ [x] := by
  unfold snoc at h
  split at h
  · cases h; exact ⟨by omega, rfl⟩
  · cases h
theorem catL_eq {xs ys zs : List α} (h : catL xs ys = some zs) : xs.length + ys.length ≤ 1000000000 ∧ zs = xs ++ ys := by
  unfold catL at h
  split at h
  · cases h; exact ⟨by assumption, rfl⟩
  · cases h
theorem mkL_eq {n : Int} {x : α} {ys : List α} (h : mkL n x = some ys) : 0 ≤ n ∧ n ≤ 1000000000 ∧ ys = List.replicate n.toNat x := by
  unfold mkL at h
  split at h
  · cases h; exact ⟨by omega, by omega, rfl⟩
  · cases h
theorem takeL_eq {xs ys : List α} {j : Int} (h : takeL xs j = some ys) : 0 ≤ j ∧ j.toNat ≤ xs.length ∧ ys = xs.take j.toNat := by
  unfold takeL at h
  split at h
  · cases h; exact ⟨by omega, by omega, rfl⟩
  · cases h
theorem dropL_eq {xs ys : List α} {j : Int} (h : dropL xs j = some ys) : 0 ≤ j ∧ j.toNat ≤ xs.length ∧ ys = xs.drop j.toNat := by
  unfold dropL at h
  split at h
  · cases h; exact ⟨by omega, by omega, rfl⟩
  · cases h
theorem remI_eq {i j k : Int} (h : remI i j = some k) : j ≠ 0 ∧ k = i.tmod j := by
  unfold remI at h
  split at h
  · cases h
  · cases h; exact ⟨by assumption, rfl⟩
end
theorem not_true {b : Bool} (h : b = false) : ¬ b = true := by rw [h]; exact Bool.false_ne_true
theorem Option.of_bind {α β : Type} {o : Option α} {f : α → Option β} {b : β} (h : o.bind f = some b) : ∃ a, o = some a ∧ f a = some b := Option.bind_eq_some_iff.1 h

/-! ### a datum that can be read at a place -/
structure Elt {α : Type} (T : Ty α) (w : World) (S : Nat → Prop) (b o : Nat) (x : α) : Prop where
  lt : b < w.heap.size
  cells : ∃ cs, CellsAt w b o cs ∧ T.R w S cs x
section
variable {α β : Type} {T : Ty α} {A : Ty α} {B : Ty β} {w w' : World} {S S' : Nat → Prop} {b o : Nat} {x : α}
theorem El.elt (h : El T w S b o x) : Elt T w S b o x := ⟨h.lt, h.cells⟩
theorem CellsAt.ext {cs : List Value} (h : CellsAt w b o cs) (hB : Below w.heap.size w w') : CellsAt w' b o cs := fun j v hj => cell_below hB (h j v hj)
theorem Elt.ext (h : Elt T w S b o x) (hB : Below w.heap.size w w') : Elt T w' S b o x := by
  obtain ⟨cs, h1, h2⟩ := h.cells
  exact ⟨Nat.lt_of_lt_of_le h.lt hB.size, cs, h1.ext hB, T.kept (.of_ext hB) h2⟩
theorem Elt.mono (h : Elt T w S b o x) (hn : ∀ k, S k → k < w.heap.size → S' k) : Elt T w S' b o x := by
  obtain ⟨cs, h1, h2⟩ := h.cells
  exact ⟨h.lt, cs, h1, T.mono hn h2⟩
theorem Elt.via {γ : Type} {f : γ → α} {y : γ} (h : Elt (T.via f) w S b o y) : Elt T w S b o (f y) := ⟨h.lt, h.cells⟩
theorem Elt.fst {x : α × β} (h : Elt (A.pair B) w S b o x) : Elt A w S b o x.1 := by
  obtain ⟨hl, cs, h1, c1, c2, rfl, h2, h3⟩ := h
  exact ⟨hl, c1, (CellsAt.append.1 h1).1, h2⟩
theorem Elt.snd {x : α × β} (h : Elt (A.pair B) w S b o x) : Elt B w S b (o + A.sz) x.2 := by
  obtain ⟨hl, cs, h1, c1, c2, rfl, h2, h3⟩ := h
  refine ⟨hl, c2, ?_, h3⟩
  have := (CellsAt.append.1 h1).2
  rw [A.len h2] at this; exact this
theorem Elt.intCell {x : Int} (h : Elt Ty.int w S b o x) : w.cell? ⟨b, o, none⟩ = some (.int .i64 x) := by
  obtain ⟨_, cs, h1, rfl⟩ := h; exact h1 0 _ rfl
theorem Elt.u8Cell {x : Int} (h : Elt Ty.u8 w S b o x) : w.cell? ⟨b, o, none⟩ = some (.int .u8 x) := by
  obtain ⟨_, cs, h1, rfl⟩ := h; exact h1 0 _ rfl
theorem Elt.boolCell {x : Bool} (h : Elt Ty.bool w S b o x) : w.cell? ⟨b, o, none⟩ = some (.bool x) := by
  obtain ⟨_, cs, h1, rfl⟩ := h; exact h1 0 _ rfl
theorem Elt.sliceCell {xs : List α} (h : Elt T.slice w S b o xs) : ∃ v, w.cell? ⟨b, o, none⟩ = some v ∧ IsSlice T w S v xs := by
  obtain ⟨_, cs, h1, v, rfl, hv⟩ := h; exact ⟨v, h1 0 _ rfl, hv⟩
end
def vblk : Value → Nat
  | .slice (some ad) _ _ => ad.block
  | _ => 0
section
variable {α : Type} {T : Ty α} {w w1 : World} {lo : Nat} {S : Nat → Prop} {e : TypeId} {v : Value} {xs ys : List α}
theorem Own.elt {i : Int} {a : α} (h : Own T w lo S e v xs) (ha : ati xs i = some a) : Elt T w S (vblk v) (ix 0 i.toNat T.sz) a := by
  obtain ⟨h0, hi, hx⟩ := ati_lt ha
  obtain ⟨cells, hl, hrow, hR⟩ := h.row
  have hcl : ∀ c ∈ cells, c.length = T.sz := fun c hc => by
    obtain ⟨k, hk, rfl⟩ := List.getElem_of_mem hc
    exact T.len (hR k cells[k] (xs[k]'(by omega)) (by simp) (by simp))
  have hci : cells[i.toNat]? = some (cells[i.toNat]'(by omega)) := by simp [hl, hi]
  have hc := hR i.toNat _ _ hci hx
  obtain ⟨g, cap, cur, hv, hb, _⟩ := h.form (by omega)
  subst hv
  refine ⟨hb.lt, _, fun j u hj => ?_, T.mono (fun k hk _ => hk.1) hc⟩
  have h1 := hrow.cells (g := g) rfl (i.toNat * T.sz + j) u (flatten_get cells i.toNat j _ u hcl hci hj)
  rw [ix_eq, Nat.zero_add]
  simpa [add_mk, vblk] using h1
theorem flatten_setN {sz : Nat} : ∀ (us : List Value) (cells : List (List Value)) (i j : Nat), (∀ c ∈ cells, c.length = sz) → i < cells.length → j + us.length ≤ sz → setN cells.flatten (i * sz + j) us = (cells.modify i (setN · j us)).flatten
  | [], cells, i, j, _, _, _ => by
    have : cells.modify i (fun x => setN x j []) = cells := by
      have e : (fun x : List Value => setN x j []) = id := by funext x; rfl
      rw [e, List.modify_id]
    rw [this]; rfl
  | u :: us, cells, i, j, hl, hi, hj => by
    simp only [List.length_cons] at hj
    have hl' : ∀ c ∈ cells.modify i (·.set j u), c.length = sz := fun c hc => by
      obtain ⟨k, hk, rfl⟩ := List.getElem_of_mem hc
      rw [List.getElem_modify]
      split
      · rw [List.length_set]; exact hl _ (List.getElem_mem _)
      · exact hl _ (List.getElem_mem _)
    have ih := flatten_setN us (cells.modify i (·.set j u)) i (j + 1) hl' (by simpa using hi) (by omega)
    rw [setN, flatten_set cells i j u hl hi (by omega), show i * sz + j + 1 = i * sz + (j + 1) by omega, ih]
    congr 1
    rw [List.modify_modify_eq]; rfl
theorem Own.put {i : Int} {a a' : α} {us : List Value} {j : Nat} (h : Own T w lo S e v xs) (ha : ati xs i = some a) (hs : seti xs i a' = some ys) (hj : j + us.length ≤ T.sz) (hO : Only w w1 (vblk v))
    (hw : ∀ cs tt, Blk w (vblk v) cs tt → Blk w1 (vblk v) (setN cs (ix 0 i.toNat T.sz + j) us) tt)
    (hl : ∀ cs, T.R w (fun k => S k ∧ some k ≠ v.ownBlock) cs a → T.R w (fun k => S k ∧ some k ≠ v.ownBlock) (setN cs j us) a') : Own T w1 lo S e v ys := by
  obtain ⟨h0, hi, hx⟩ := ati_lt ha
  obtain ⟨_, _, rfl⟩ := seti_eq hs
  obtain ⟨cells, hlen, ⟨hlen2, h1⟩, h2⟩ := h.row
  have hcl : ∀ c ∈ cells, c.length = T.sz := fun c hc => by
    obtain ⟨k, hk, rfl⟩ := List.getElem_of_mem hc
    exact T.len (h2 k cells[k] (xs[k]'(by omega)) (by simp) (by simp))
  rcases h1 with ⟨hv, hz⟩ | ⟨g, cap, cur, rfl, h3, h4, h5, h6, h7, h8⟩
  · omega
  · have hb' : Blk w g cur.toList e := by unfold Blk; simpa using h4
    have hb1 := hw _ _ hb'
    rw [ix_eq, Nat.zero_add] at hb1
    have hfs := flatten_setN us cells i.toNat j hcl (by omega) hj
    have hkept : Kept (fun k => S k ∧ some k ≠ (Value.slice (some ⟨g, 0, none⟩) xs.length cap).ownBlock) w w1 := ⟨hO.size, fun k hk hs => hO.block k hs fun he => hk.2 (by rw [he]; rfl)⟩
    refine ⟨cells.modify i.toNat (setN · j us), by simp [hlen], ⟨?_, .inr ⟨g, cap, (setN cur.toList (i.toNat * T.sz + j) us).toArray, by simp, h3, hb1, by simpa using h5, h6, by simp [length_setN, h7], ?_⟩⟩, fun k c y hc hy => T.kept hkept ?_⟩
    · rw [← hfs, length_setN]; simpa using hlen2
    · rw [← hfs, ← h8]
      simp only [List.length_set]
      have key : ∀ (us : List Value) (l : List Value) (o m : Nat), (setN l o us).take m = setN (l.take m) o us := by
        intro us
        induction us with
        | nil => intro l o m; rfl
        | cons u us ih => intro l o m; rw [setN, setN, ih, List.take_set]
      exact key us cur.toList _ _
    · by_cases hk : k = i.toNat
      · subst hk
        rw [List.getElem?_set_self hi] at hy
        simp only [Option.some.injEq] at hy
        subst hy
        have hck : cells[i.toNat]? = some (cells[i.toNat]'(by omega)) := by simp [hlen, hi]
        rw [List.getElem?_modify, hck] at hc
        simp only [if_true, Option.map_eq_map, Option.map_some, Option.some.injEq] at hc
        rw [← hc]
        exact hl _ (h2 i.toNat _ _ hck hx)
      · rw [List.getElem?_set_ne (by omega)] at hy
        rw [List.getElem?_modify_ne _ _ (by omega)] at hc
        exact h2 k c y hc hy
/-- zero values -/
class TyZ {α : Type} (T : Ty α) (z : outParam (List Value)) (x : outParam α) : Prop where
  R : ∀ w S, T.R w S z x
instance : TyZ Ty.int [.int .i64 0] 0 := ⟨fun _ _ => rfl⟩
instance : TyZ Ty.u8 [.int .u8 0] 0 := ⟨fun _ _ => rfl⟩
instance : TyZ Ty.bool [.bool false] false := ⟨fun _ _ => rfl⟩
instance {α : Type} {T : Ty α} : TyZ T.slice [.slice none 0 0] [] := ⟨fun w S => ⟨_, rfl, IsSlice.nil _ _ _⟩⟩
/-- cells of several data, one behind the other -/
def Rows (T : Ty α) (w : World) (S : Nat → Prop) : List (List Value) → List α → Prop
  | [], [] => True
  | c :: cs, x :: xs => T.R w S c x ∧ Rows T w S cs xs
  | _, _ => False
theorem Rows.at' {w : World} : ∀ {cs : List (List Value)} {xs : List α}, Rows T w S cs xs → cs.length = xs.length ∧ ∀ (i : Nat) (c : List Value) (x : α), cs[i]? = some c → xs[i]? = some x → T.R w S c x
  | [], [], _ => ⟨rfl, fun i c x h => by simp at h⟩
  | c :: cs, x :: xs, h => by
    obtain ⟨h1, h2⟩ := Rows.at' h.2
    refine ⟨by simp [h1], fun i c' x' hc hx => ?_⟩
    cases i with
    | zero => simp at hc hx; subst hc; subst hx; exact h.1
    | succ i => exact h2 i c' x' (by simpa using hc) (by simpa using hx)
  | [], _ :: _, h => h.elim
  | _ :: _, [], h => h.elim
theorem Own.ofRows {b n : Nat} {cells : List (List Value)} {cs : List Value} (hb : Blk w b cs e) (hf : cells.flatten = cs) (hn : xs.length = n) (hm : n ≤ 1000000000) (hR : Rows T w S cells xs) (hS : ¬ S b) : Own T w 0 S e (.slice (some ⟨b, 0, none⟩) n n) xs := by
  subst hn; subst hf
  obtain ⟨hl, h2⟩ := hR.at'
  have hcl : ∀ c ∈ cells, c.length = T.sz := fun c hc => by
    obtain ⟨j, hj, rfl⟩ := List.getElem_of_mem hc
    exact T.len (h2 j cells[j] (xs[j]'(by omega)) (by simp) (by simp))
  have hfl : cells.flatten.length = xs.length * T.sz := by
    rw [← hl]; clear hR hb hl hm h2
    induction cells with
    | nil => simp
    | cons c cs ih => simp [hcl c (by simp), ih fun c hc => hcl c (by simp [hc]), Nat.add_mul]; omega
  refine ⟨cells, hl, ⟨hfl, .inr ⟨b, xs.length, cells.flatten.toArray, rfl, Nat.zero_le _, hb, Nat.le_refl _, by unfold maxLen; omega, Nat.le_of_eq (by simpa using hfl.symm), ?_⟩⟩, fun i c x hc hx => T.mono (fun k hk _ => ⟨hk, fun he => hS (by cases he; exact hk)⟩) (h2 i c x hc hx)⟩
  rw [← hfl]; exact List.take_length
theorem Rows.replicate {z : List Value} {x : α} (hz : T.R w S z x) : ∀ n, Rows T w S (List.replicate n z) (List.replicate n x)
  | 0 => trivial
  | n + 1 => ⟨hz, Rows.replicate hz n⟩
end
/-! ### parts -/
section
variable {F R0 R R' : Nat → Prop} {w0 w w' : World} {cs : List HP} {α : Type} {T : Ty α} {e : TypeId} {v : Value} {xs : List α}
/-- some of the parts, in some order -/
theorem Sep.pick (h : Sep F R0 R w0 w cs) (idx : List Nat) (hn : idx.Nodup) (hlt : ∀ i ∈ idx, i < cs.length) : Sep F R0 R w0 w (idx.map fun i => cs.getD i default) := by
  have hm : ∀ c ∈ idx.map (fun i => cs.getD i default), ∃ i, i ∈ idx ∧ cs[i]? = some c := fun c hc => by
    obtain ⟨i, hi, rfl⟩ := List.mem_map.1 hc
    exact ⟨i, hi, by have := hlt i hi; simp [List.getD, this]⟩
  refine ⟨h.step, h.ro, h.ro0, h.ro1, fun c hc => ?_, fun c hc => ?_, fun c hc => ?_, ?_⟩
  · obtain ⟨i, _, hi⟩ := hm c hc; exact h.get i hi
  · obtain ⟨i, _, hi⟩ := hm c hc; exact h.foot c (List.mem_of_getElem? hi)
  · obtain ⟨i, _, hi⟩ := hm c hc; exact h.depR i hi
  · clear hm
    induction idx with
    | nil => exact List.Pairwise.nil
    | cons i idx ih =>
      rw [List.map_cons, List.pairwise_cons]
      obtain ⟨h1, h2⟩ := List.nodup_cons.1 hn
      refine ⟨fun d hd => ?_, ih h2 fun j hj => hlt j (List.mem_cons_of_mem _ hj)⟩
      obtain ⟨j, hj, rfl⟩ := List.mem_map.1 hd
      have hi' := hlt i (by simp); have hj' := hlt j (List.mem_cons_of_mem _ hj)
      exact h.apart i j (by simp [List.getD, hi']) (by simp [List.getD, hj']) (fun he => h1 (he ▸ hj))
def okIdx (idx : List Nat) (n : Nat) : Bool := decide idx.Nodup && idx.all (fun i => Nat.blt i n)
theorem Sep.pickB (h : Sep F R0 R w0 w cs) (idx : List Nat) (n : Nat) (hn : cs.length = n) (hok : okIdx idx n = true) : Sep F R0 R w0 w (idx.map fun i => cs.getD i default) := by
  simp only [okIdx, Bool.and_eq_true, decide_eq_true_eq, List.all_eq_true] at hok
  exact h.pick idx hok.1 fun i hi => by have := hok.2 i hi; simp [Nat.blt_eq] at this; omega
theorem Own.weak {S S' : Nat → Prop} (h : Own T w 0 S e v xs) (hs : ∀ k, S k → k < w.heap.size → S' k) : Own T w 0 S' e v xs := by
  obtain ⟨cells, hl, h1, h2⟩ := h.row
  exact ⟨cells, hl, h1, fun i c x hc hx => T.mono (fun k hk hlt => ⟨hs k hk.1 hlt, hk.2⟩) (h2 i c x hc hx)⟩
/-- an own slice will not change any more -/
theorem Sep.freezeOwn (h : Sep F R0 R w0 w cs) (i : Nat) {S : Nat → Prop} (hi : cs[i]? = some (HP.own T S e v xs)) : ∃ R', Sep F R0 R' w0 w (cs.eraseIdx i) ∧ (∀ k, R k → R' k) ∧ IsSlice T w R' v xs := by
  obtain ⟨R', h1, h2, h3⟩ := h.freezeO i hi
  exact ⟨R', h1, h2, (h.isl i hi).mono fun k hk _ => hk.elim (h2 k) fun hk => h3 k hk⟩
/-- the part's elements may lie in all that is read-only now -/
theorem Sep.ownR (h : Sep F R0 R w0 w cs) (i : Nat) {S : Nat → Prop} (hi : cs[i]? = some (HP.own T S e v xs)) : Own T w 0 R e v xs := Own.monoS (h.own i hi) fun k hk => h.depR i hi k hk
theorem Sep.ownOff (h : Sep F R0 R w0 w cs) (i : Nat) {S : Nat → Prop} (hi : cs[i]? = some (HP.own T S e v xs)) : ∀ k, R k → k < w.heap.size → R k ∧ some k ≠ v.ownBlock := fun k hk _ => ⟨hk, fun he => h.off i hi k hk he.symm⟩
end
/-! ### laws of the operations, over plain operations -/
section
variable {P : Program} {N : Fr} {X : Nat → Prop} {K : Env → World → Prop} {E : Env} {w : World} {t : TypeId} {m : Bool} {rest : List QOp} {sd : Nat}
section
variable {x y : Operand} {k k' : IntKind} {i j l : Int} {ty ty' : TypeId}
theorem q_addW (hx : ev E x = some (.int .i64 i)) (hy : ev E y = some (.int .i64 j)) (hd : dOK N (some sd) = true) (h : eseq P N X K rest (Env.set E sd (.int .i64 (w64 (i + j)))) w) : eseq P N X K (⟨none, some sd, .binOp .add ty x y ty', t, m⟩ :: rest) E w :=
  q_pure _ rfl hd (fun a ha w' => by simp [execOp, QOp.oper, ha.eval hx, ha.eval hy, eqGuard, binOp, Op.intArith, w64]) h
theorem q_subW (hx : ev E x = some (.int .i64 i)) (hy : ev E y = some (.int .i64 j)) (hd : dOK N (some sd) = true) (h : eseq P N X K rest (Env.set E sd (.int .i64 (w64 (i - j)))) w) : eseq P N X K (⟨none, some sd, .binOp .sub ty x y ty', t, m⟩ :: rest) E w :=
  q_pure _ rfl hd (fun a ha w' => by simp [execOp, QOp.oper, ha.eval hx, ha.eval hy, eqGuard, binOp, Op.intArith, w64]) h
theorem q_remM (hx : ev E x = some (.int k i)) (hy : ev E y = some (.int k j)) (hr : remI i j = some l) (hd : dOK N (some sd) = true) (h : eseq P N X K rest (Env.set E sd (.int k l)) w) : eseq P N X K (⟨none, some sd, .binOp .rem ty x y ty', t, m⟩ :: rest) E w := by
  obtain ⟨h1, rfl⟩ := remI_eq hr
  exact q_rem hx hy h1 hd h
theorem q_conv64 {src dst : TypeId} {k0 : IntKind} [T1 : TInt P src k0] [T2 : TInt P dst .i64] (hx : ev E x = some (.int k' i)) (hd : dOK N (some sd) = true) (h : eseq P N X K rest (Env.set E sd (.int .i64 (w64 i))) w) :
    eseq P N X K (⟨none, some sd, .convert src dst x, t, m⟩ :: rest) E w := by
  refine q_pure _ rfl hd (fun a ha w' => ?_) h
  simp [execOp, QOp.oper, ha.eval hx, run_under T1.under, run_under T2.under, convert, Conv.intToInt, w64]
end
variable {α : Type} {T : Ty α}
theorem q_atS {x y : Operand} {ts e : Nat} {n : Nat → Prop} {v : Value} {xs : List α} {k : IntKind} {i : Int} {a : α} (TS : TSlice P ts e T.sz) (hx : ev E x = some v) (hs : IsSlice T w n v xs) (hy : ev E y = some (.int k i)) (ha : ati xs i = some a)
    (hd : dOK N (some sd) = true) (h : ∀ b o, n b → Elt T w n b o a → eseq P N X K rest (Env.set E sd (.pointer (some ⟨b, o, none⟩))) w) : eseq P N X K (⟨none, some sd, .indexAddr ts x y, t, m⟩ :: rest) E w := by
  obtain ⟨h0, hi, hx2⟩ := ati_lt ha
  obtain ⟨ad, cap, rfl, _, _, _, hel⟩ := hs
  obtain ⟨b, off, rfl, h1⟩ := hel i.toNat hi
  have e1 : xs[i.toNat] = a := by rw [List.getElem?_eq_getElem hi] at hx2; exact Option.some.inj hx2
  rw [e1] at h1
  exact q_index hx hy ⟨h0, by omega⟩ hd (h _ _ h1.mem h1.elt)
theorem q_indexO {x y : Operand} {ts e e' lo : Nat} {S : Nat → Prop} {v : Value} {xs : List α} {k : IntKind} {i : Int} {a : α} (TS : TSlice P ts e T.sz) (hx : ev E x = some v) (ho : Own T w lo S e' v xs) (hy : ev E y = some (.int k i)) (ha : ati xs i = some a)
    (hd : dOK N (some sd) = true) (h : eseq P N X K rest (Env.set E sd (.pointer (some ⟨vblk v, ix 0 i.toNat T.sz, none⟩))) w) : eseq P N X K (⟨none, some sd, .indexAddr ts x y, t, m⟩ :: rest) E w := by
  obtain ⟨h0, hi, hx2⟩ := ati_lt ha
  obtain ⟨g, cap, cur, rfl, hb, _⟩ := ho.form (by omega)
  exact q_index hx hy ⟨h0, by omega⟩ hd h
theorem q_loadE {x : Operand} {tt b o : Nat} {n : Nat → Prop} {xs : List α} [TC : TCell P tt] (hx : ev E x = some (.pointer (some ⟨b, o, none⟩))) (hc : Elt T.slice w n b o xs)
    (hd : dOK N (some sd) = true) (h : ∀ v, IsSlice T w n v xs → eseq P N X K rest (Env.set E sd v) w) (hX : ¬ X b := by first | exact id | assumption | (show ¬ (_ = _); omega) | (intro h; omega)) : eseq P N X K (⟨none, some sd, .load tt x, t, m⟩ :: rest) E w := by
  obtain ⟨v, h1, h2⟩ := hc.sliceCell
  exact q_load hx h1 hd (h v h2) hX
theorem q_takeS {x hi : Operand} {ts e : Nat} {S : Nat → Prop} {v : Value} {xs ys : List α} {k' : IntKind} {j : Int} (TS : TSlice P ts e T.sz) (hx : ev E x = some v) (hs : IsSlice T w S v xs) (hh : ev E hi = some (.int k' j)) (hj : takeL xs j = some ys)
    (hd : dOK N (some sd) = true) (h : ∀ v', IsSlice T w S v' ys → eseq P N X K rest (Env.set E sd v') w) : eseq P N X K (⟨none, some sd, .slice ts x none (some hi) none, t, m⟩ :: rest) E w := by
  obtain ⟨h0, h1, rfl⟩ := takeL_eq hj
  obtain ⟨n, rfl⟩ := Int.eq_ofNat_of_zero_le h0
  exact q_sliceH TS hx hs hh (by simpa using h1) hd (by simpa using h)
/-- 'make([]T, n)' -/
theorem q_makeO {x y : Operand} {ts e bytes : Nat} {z : List Value} {x0 : α} {k k' : IntKind} {n : Int} {ys : List α} {S : Nat → Prop} [TS : TSlice P ts e T.sz] [TE : TElem P e bytes z] [TZ : TyZ T z x0] (hx : ev E x = some (.int k n)) (hy : ev E y = some (.int k' n)) (hbytes : Nat.ble bytes 1000 = true) (hn : mkL n x0 = some ys)
    (hS : ∀ k, S k → k < w.heap.size) (hd : dOK N (some sd) = true) (h : ∀ w1 v, Own T w1 0 S e v ys → (∀ k, v.ownBlock = some k → w.heap.size ≤ k) → Below w.heap.size w w1 → eseq P N X K rest (Env.set E sd v) w1) :
    eseq P N X K (⟨none, some sd, .makeSlice ts x y, t, m⟩ :: rest) E w := by
  obtain ⟨h0, h1, rfl⟩ := mkL_eq hn
  obtain ⟨n', rfl⟩ := Int.eq_ofNat_of_zero_le h0
  have hz : z.length = T.sz := T.len (TZ.R w S)
  refine q_make hz hx hy hbytes (by omega) hd fun w1 b hb hblk hB => h w1 _ (Own.ofRows hblk rfl (by simp) (by omega) (by simpa using Rows.replicate (TZ.R w1 S) n') fun hs => by have := hS b hs; omega) (fun k hk => by cases hk; exact hb) hB
/-- a slice literal -/
theorem q_litO {ps : List (Nat × Operand)} {vs : List (Nat × Value)} {pc : List (Nat × List Value)} {ts e bytes n : Nat} {cs z : List Value} {cells : List (List Value)} {ys : List α} {S : Nat → Prop} [TS : TSlice P ts e T.sz] [TE : TElem P e bytes z] (hp : Parts E ps vs pc) (hz0 : Nat.beq z.length T.sz = true) (hl : fillS T.sz (zs z n) pc = some cs)
    (h0 : Nat.blt 0 (n * T.sz) = true) (h24 : Nat.ble (n * T.sz) 1000 = true) (hfl : cells.flatten = cs) (hlen : ys.length = n) (hn : Nat.ble n 1000 = true) (hR : ∀ w1, Below w.heap.size w w1 → Rows T w1 S cells ys)
    (hS : ∀ k, S k → k < w.heap.size) (hd : dOK N (some sd) = true) (h : ∀ w1 v, Own T w1 0 S e v ys → (∀ k, v.ownBlock = some k → w.heap.size ≤ k) → Below w.heap.size w w1 → eseq P N X K rest (Env.set E sd v) w1) :
    eseq P N X K (⟨none, some sd, .buildSlice ts n ps.toArray, t, m⟩ :: rest) E w :=
  q_sliceN hp hz0 hl h0 h24 hd fun w1 b hg hb hB => h w1 _ (Own.ofRows hb hfl hlen (by simp at hn; omega) (hR w1 hB) fun hs => by have := hS b hs; omega) (fun k hk => by cases hk; exact hg) hB
theorem q_catO {x y : Operand} {ts e bytes lo : Nat} {z : List Value} {S Sy : Nat → Prop} {v vy : Value} {xs ys zs : List α} [TS : TSlice P ts e T.sz] [TE : TElem P e bytes z] (hz : Nat.beq z.length T.sz = true) (h0 : Nat.blt 0 T.sz = true) (hbytes : Nat.ble bytes 1000 = true)
    (hx : ev E x = some v) (hown : Own T w lo S e v xs) (hy : ev E y = some vy) (hys : IsSlice T w Sy vy ys)
    (hR : ∀ k, Sy k → k < w.heap.size → S k ∧ some k ≠ v.ownBlock)
    (hlen : catL xs ys = some zs) (hlo : lo ≤ w.heap.size) (hd : dOK N (some sd) = true) (hm : m = true → ∀ k, v.ownBlock = some k → X k)
    (h : ∀ v' w1, Own T w1 lo S e v' zs → w.grownBy w1 v.ownBlock → NewRow w v v' (xs.length + ys.length) → eseq P N X K rest (Env.set E sd v') w1) :
    eseq P N X K (⟨none, some sd, .call { callee := .builtin .append, args := #[x, y], argTypes := #[ts, ts] }, t, m⟩ :: rest) E w := by
  obtain ⟨h1, rfl⟩ := catL_eq hlen
  exact q_appendS (by simpa using hz) h0 hbytes hx hown hy hys (fun c u hc => T.mono hR hc) h1 hlo hd hm h
/-- the same, elements without slices: whatever slice it comes from -/
theorem q_catE {enc : α → List Value} [hE : Enc T enc] {x y : Operand} {ts e bytes lo : Nat} {z : List Value} {S Sy : Nat → Prop} {v vy : Value} {xs ys zs : List α} [TS : TSlice P ts e T.sz] [TE : TElem P e bytes z] (hz : Nat.beq z.length T.sz = true) (h0 : Nat.blt 0 T.sz = true) (hbytes : Nat.ble bytes 1000 = true)
    (hx : ev E x = some v) (hown : Own T w lo S e v xs) (hy : ev E y = some vy) (hys : IsSlice T w Sy vy ys)
    (hlen : catL xs ys = some zs) (hlo : lo ≤ w.heap.size) (hd : dOK N (some sd) = true) (hm : m = true → ∀ k, v.ownBlock = some k → X k)
    (h : ∀ v' w1, Own T w1 lo S e v' zs → w.grownBy w1 v.ownBlock → NewRow w v v' (xs.length + ys.length) → eseq P N X K rest (Env.set E sd v') w1) :
    eseq P N X K (⟨none, some sd, .call { callee := .builtin .append, args := #[x, y], argTypes := #[ts, ts] }, t, m⟩ :: rest) E w := by
  obtain ⟨h1, rfl⟩ := catL_eq hlen
  exact q_appendS (by simpa using hz) h0 hbytes hx hown hy hys Enc.any h1 hlo hd hm h
/-- a cell of an element of an own slice is written -/
theorem q_storeO {x y : Operand} {tt j e lo : Nat} {S : Nat → Prop} {v : Value} {xs ys : List α} {u : Value} {i : Int} {a a' : α} [TC : TCell P tt] (hx : ev E x = some (.pointer (some ⟨vblk v, ix 0 i.toNat T.sz + j, none⟩))) (hy : ev E y = some u)
    (ho : Own T w lo S e v xs) (ha : ati xs i = some a) (hs : seti xs i a' = some ys) (hj : Nat.blt j T.sz = true) (hu : oneV u = true) (hm : m = false)
    (hl : ∀ cs, T.R w (fun k => S k ∧ some k ≠ v.ownBlock) cs a → T.R w (fun k => S k ∧ some k ≠ v.ownBlock) (cs.set j u) a')
    (h : ∀ w1, Own T w1 lo S e v ys → Only w w1 (vblk v) → eseq P N X K rest E w1) : eseq P N X K (⟨none, none, .store tt x y, t, m⟩ :: rest) E w := by
  have hj' : j < T.sz := by simpa [Nat.blt_eq] using hj
  obtain ⟨h0, hi, hx2⟩ := ati_lt ha
  obtain ⟨g, cap, cur, hv, hb, hlen⟩ := ho.form (by omega)
  have hvb : vblk v = g := by subst hv; rfl
  have hlt : ix 0 i.toNat T.sz + j < cur.length := by
    rw [ix_eq]
    have := Nat.mul_le_mul_right T.sz (show i.toNat + 1 ≤ xs.length by omega)
    rw [Nat.add_mul, Nat.one_mul] at this; omega
  refine q_store hx hy (by rw [hvb]; exact hb) hlt hu rfl hm fun w1 h1 h2 => h w1 (ho.put (us := [u]) ha hs (by simp; omega) h2 (fun cs tt hcs => ?_) hl) h2
  have e1 : cs = cur ∧ tt = e := by rw [hvb] at hcs; unfold Blk at hcs hb; rw [hcs] at hb; simpa using hb
  obtain ⟨rfl, rfl⟩ := e1
  exact h1
/-- several cells -/
theorem q_storeOA {x y : Operand} {tt j e lo n : Nat} {S : Nat → Prop} {v : Value} {xs ys : List α} {us : List Value} {i : Int} {a a' : α} [TA : TAgg P tt n] (hx : ev E x = some (.pointer (some ⟨vblk v, ix 0 i.toNat T.sz + j, none⟩))) (hy : ev E y = some (.agg us.toArray))
    (ho : Own T w lo S e v xs) (ha : ati xs i = some a) (hs : seti xs i a' = some ys) (hn : us.length = n) (hj : Nat.ble (j + n) T.sz = true) (hu : ∀ v ∈ us, oneV v = true) (hm : m = false)
    (hl : ∀ cs, T.R w (fun k => S k ∧ some k ≠ v.ownBlock) cs a → T.R w (fun k => S k ∧ some k ≠ v.ownBlock) (setN cs j us) a')
    (h : ∀ w1, Own T w1 lo S e v ys → Only w w1 (vblk v) → eseq P N X K rest E w1) : eseq P N X K (⟨none, none, .store tt x y, t, m⟩ :: rest) E w := by
  have hj' : j + us.length ≤ T.sz := by rw [hn]; simpa using hj
  obtain ⟨h0, hi, hx2⟩ := ati_lt ha
  obtain ⟨g, cap, cur, hv, hb, hlen⟩ := ho.form (by omega)
  have hvb : vblk v = g := by subst hv; rfl
  have hlt : ix 0 i.toNat T.sz + j + n ≤ cur.length := by
    rw [ix_eq]
    have := Nat.mul_le_mul_right T.sz (show i.toNat + 1 ≤ xs.length by omega)
    rw [Nat.add_mul, Nat.one_mul] at this; omega
  refine q_storeAgg hx hy (by rw [hvb]; exact hb) hn hlt hu rfl hm fun w1 h1 h2 => h w1 (ho.put (us := us) ha hs hj' h2 (fun cs tt hcs => ?_) hl) h2
  have e1 : cs = cur ∧ tt = e := by rw [hvb] at hcs; unfold Blk at hcs hb; rw [hcs] at hb; simpa using hb
  obtain ⟨rfl, rfl⟩ := e1
  exact h1
theorem g_andM {s d : Nat} {b c : Bool} {mo : Option Bool} {x : Operand} {g : Option (Nat × Bool)} (n : Nat) {qs rest : List QOp} (hc : andM b mo = some c) (hq : qs.drop n = ⟨g, some d, .pick (.tmp s) x (.const (.bool false)), t, m⟩ :: rest)
    (hgd : gT E g) (hs : Env.find E s = some (.bool b)) (hd : dOK N (some d) = true)
    (h1 : b = true → mo = some c → eseq P N X (KB E w x c) (qs.take n) ((s, .bool true) :: E) w) (h2 : b = false → eseq P N X (fun E' w' => w' = w ∧ Sub E E') (qs.take n) ((s, .bool false) :: E) w)
    (h3 : ∀ w', Below w.heap.size w w' → eseq P N X K rest (Env.set E d (.bool c)) w') : eseq P N X K qs E w := by
  refine g_and n hq hgd hs hd ⟨c, fun hb => h1 hb (by unfold andM at hc; rwa [if_pos hb] at hc), h2, fun w' hB => ?_⟩
  have e : (b && c) = c := by
    cases b with
    | true => rfl
    | false => unfold andM at hc; simp at hc; subst hc; rfl
  rw [e]; exact h3 w' hB
theorem g_orM {s d : Nat} {b c : Bool} {mo : Option Bool} {x : Operand} {g : Option (Nat × Bool)} (n : Nat) {qs rest : List QOp} (hc : orM b mo = some c) (hq : qs.drop n = ⟨g, some d, .pick (.tmp s) (.const (.bool true)) x, t, m⟩ :: rest)
    (hgd : gT E g) (hs : Env.find E s = some (.bool b)) (hd : dOK N (some d) = true)
    (h1 : b = true → eseq P N X (fun E' w' => w' = w ∧ Sub E E') (qs.take n) ((s, .bool true) :: E) w) (h2 : b = false → mo = some c → eseq P N X (KB E w x c) (qs.take n) ((s, .bool false) :: E) w)
    (h3 : ∀ w', Below w.heap.size w w' → eseq P N X K rest (Env.set E d (.bool c)) w') : eseq P N X K qs E w := by
  refine g_or n hq hgd hs hd ⟨c, h1, fun hb => h2 hb (by unfold orM at hc; rwa [if_neg (not_true hb)] at hc), fun w' hB => ?_⟩
  have e : (b || c) = c := by
    cases b with
    | false => rfl
    | true => unfold orM at hc; simp at hc; subst hc; rfl
  rw [e]; exact h3 w' hB
end
/-! ### more of parts -/
section
variable {F R0 R : Nat → Prop} {w0 w w' : World} {cs : List HP} {α : Type} {T : Ty α} {e : TypeId} {v : Value} {xs ys : List α} {S : Nat → Prop}
theorem Sep.newOwnS (h : Sep F R0 R w0 w cs) (hB : Below w.heap.size w w') (ho : Own T w' 0 S e v xs) (hv : ∀ k, v.ownBlock = some k → w.heap.size ≤ k) (hd : ∀ k, S k → R k) : Sep F R0 R w0 w' (.own T S e v xs :: cs) :=
  h.new hB ho (fun k hk => ⟨hv k hk, (ho.lt k hk).2⟩) hd
theorem Own.vblk {i : Int} {a : α} (h : Own T w 0 S e v xs) (ha : ati xs i = some a) : v.ownBlock = some (vblk v) := by
  obtain ⟨_, hi, _⟩ := ati_lt ha
  obtain ⟨g, cap, cur, rfl, _⟩ := h.form (by omega)
  rfl
theorem Sep.keptO (h : Sep F R0 R w0 w cs) (i : Nat) (hi : cs[i]? = some (HP.own T S e v xs)) {j : Int} {a : α} (ha : ati xs j = some a) (hO : Only w w' (vblk v)) : Kept R w w' :=
  h.keptF i hi (StepF.of_only hO ((h.own i hi).vblk ha))
theorem Sep.putO (h : Sep F R0 R w0 w cs) (i : Nat) (hi : cs[i]? = some (HP.own T S e v xs)) {j : Int} {a : α} (ha : ati xs j = some a) (ho : Own T w' 0 S e v ys) (hO : Only w w' (vblk v)) : Sep F R0 R w0 w' (cs.set i (.own T S e v ys)) :=
  h.set i hi (StepF.of_only hO ((h.own i hi).vblk ha)) ho (fun k hk => .inl hk) (fun k hk => h.depR i hi k hk)
theorem snoc_cat {x : α} (h : snoc xs x = some ys) : catL xs [x] = some ys := by
  obtain ⟨h1, rfl⟩ := snoc_eq h
  unfold catL; rw [if_pos (by simpa using h1)]
theorem Enc.setNL {enc : α → List Value} [hE : Enc T enc] {j : Nat} {us : List Value} {a a' : α} (h : enc a' = setN (enc a) j us) : ∀ cs, T.R w S cs a → T.R w S (setN cs j us) a' := fun cs hc => by
  rw [hE.R] at hc ⊢; rw [hc, h]
theorem Sep.all (w : World) : Sep (fun _ => False) (fun k => k < w.heap.size) (fun k => k < w.heap.size) w w [] := Sep.start w
theorem Sep.stepB0 {R1 : Nat → Prop} (h : Sep (feet []) R R1 w w' cs) : Below w.heap.size w w' := (h.step.mono fun k ⟨c, hc, _⟩ => by cases hc).below
/-- a call that leaves its objects as they were -/
def Sames (w w' : World) (c : HP) : Prop := ∀ k, c.foot k → w'.heap[k]? = w.heap[k]?
theorem Sep.relX1 {R1 : Nat → Prop} {b : Nat} {c : List Value} {t : TypeId} (h : Sep (feet [HP.blk b c t]) R R1 w w' cs) : RelX (fun k => k = b) w w' :=
  ⟨h.step.os, h.step.tape, h.step.output, h.step.size, fun k hk hn => h.step.same k hk fun ⟨d, hd, hf⟩ => by
    rcases List.mem_cons.1 hd with rfl | hd
    · exact hn hf
    · cases hd⟩
theorem Sames.blk {b : Nat} {c : List Value} {t : TypeId} (h1 : Blk w b c t) (h2 : Blk w' b c t) : Sames w w' (HP.blk b c t) := fun k hk => by
  have e : k = b := hk
  subst e; unfold Blk at h1 h2; rw [h1, h2]
theorem Sep.stepBF {R1 : Nat → Prop} (h : Sep (fun _ => False) R R1 w w' cs) : Below w.heap.size w w' := h.step.below
end
section
variable {P : Program} {N : Fr} {X : Nat → Prop} {K : Env → World → Prop} {E : Env} {w : World} {t : TypeId} {m : Bool} {rest : List QOp} {sd : Nat} {α : Type} {T : Ty α}
/-- 'append(xs, ys...)' of two slices of one's own -/
theorem q_catOwn {x y : Operand} {ts e e' bytes lo lo' : Nat} {z : List Value} {S Sy : Nat → Prop} {v vy : Value} {xs ys zs : List α} [TS : TSlice P ts e T.sz] [TE : TElem P e bytes z] (hz : Nat.beq z.length T.sz = true) (h0 : Nat.blt 0 T.sz = true) (hbytes : Nat.ble bytes 1000 = true)
    (hx : ev E x = some v) (hown : Own T w lo S e v xs) (hy : ev E y = some vy) (hys : Own T w lo' Sy e' vy ys)
    (hR : ∀ k, Sy k → k < w.heap.size → S k ∧ some k ≠ v.ownBlock)
    (hlen : catL xs ys = some zs) (hlo : lo ≤ w.heap.size) (hd : dOK N (some sd) = true) (hm : m = true → ∀ k, v.ownBlock = some k → X k)
    (h : ∀ v' w1, Own T w1 lo S e v' zs → w.grownBy w1 v.ownBlock → NewRow w v v' (xs.length + ys.length) → eseq P N X K rest (Env.set E sd v') w1) :
    eseq P N X K (⟨none, some sd, .call { callee := .builtin .append, args := #[x, y], argTypes := #[ts, ts] }, t, m⟩ :: rest) E w := by
  obtain ⟨h1, rfl⟩ := catL_eq hlen
  have hz' : z.length = T.sz := by simpa using hz
  obtain ⟨cells, hl, hrow, hc⟩ := hys.row
  rcases hrow.2 with ⟨rfl, hn⟩ | ⟨g, cap, cur, rfl, _⟩
  · have : ys = [] := List.length_eq_zero_iff.1 hn
    subst this
    exact q_appendS (Sy := fun _ => False) hz' h0 hbytes hx hown hy (IsSlice.nil T w _) (fun c u hcu => T.mono (fun _ hk _ => hk.elim) hcu) h1 hlo hd hm h
  · have hcl : ∀ c ∈ cells, c.length = T.sz := fun c hc1 => by
      obtain ⟨k, hk, rfl⟩ := List.getElem_of_mem hc1
      exact T.len (hc k cells[k] (ys[k]'(by omega)) (by simp) (by simp))
    refine q_appendCells (ys := ys) (news := cells) TS TE hz' (by simpa [Nat.blt_eq] using h0) (by simpa using hbytes) hx hown hy (fun _ => rfl) hl (fun i c hi j u hj => ?_) (fun i c u hi hu => T.mono (fun k hk hlt => hR k hk.1 hlt) (hc i c u hi hu)) h1 hlo hd hm h
    have h2 := hrow.cells (g := g) rfl (i * T.sz + j) u (flatten_get cells i j c u hcl hi hj)
    rw [ix_eq, Nat.zero_add]
    simpa [add_mk] using h2
end
/-! ### scopes of labels that no jump goes to -/
def ENoGoto (Q : EPost) : EPost
  | .goto _, _, _ => False
  | e, E, w => Q e E w
section
variable {P : Program} {N : Fr} {Q : EPost} {E : Env} {w : World}
theorem e_scope {c : Code} (h : ewp P N c (ENoGoto Q) E w) : ewp P N (.scope c) Q E w := by
  intro d a ha
  refine wp_scope_straight (wp_mono (h d a ha) ?_)
  rintro e a' w' ⟨E', w0, d0, rfl, hE, hQ⟩
  cases e with
  | goto l => exact hQ.elim
  | normal => exact ⟨E', w0, d0, rfl, hE, hQ⟩
  | exit id => exact ⟨E', w0, d0, rfl, hE, hQ⟩
  | ret => exact ⟨E', w0, d0, rfl, hE, hQ⟩
  | panic ch => exact ⟨E', w0, d0, rfl, hE, hQ⟩
  | outgrown => exact ⟨E', w0, d0, rfl, hE, hQ⟩
theorem step_label {b : Frame} {a : Act} {k : List Item} {cs : List Frame} {w : World} {l : Nat} : step P (lone (b.at a (.code (.label l) :: k)) cs w) = .next (lone (b.at a k) cs w) :=
  step_lone_go (by simp [stepG, stepG.exec, Frame.at])
theorem e_label {l : Nat} (h : Q .normal E w) : ewp P N (.label l) Q E w := by
  intro d a ha b k cs
  exact ⟨.normal, a, w.atd d, ⟨E, w, d, rfl, ha, h⟩, .one step_label⟩
end
/-- a result that lies in a variable, and another -/
theorem resCT {P : Program} {E : Env} {w : World} {fn : Func} {s s' : Nat} {tt : TypeId} {b n : Nat} {vs : List Value} {v' : Value} [T : TAgg P tt n] (h : fn.results = #[.cell s tt, .tmp s']) (hs : Env.find E s = some (.pointer (some ⟨b, 0, none⟩))) (hc : CellsAt w b 0 vs) (hn : vs.length = n) (hs' : Env.find E s' = some v') :
    Res P fn E w (.tuple #[.agg vs.toArray, v']) := fun a N d ha => by
  obtain ⟨de, h1, h2⟩ := T.under
  obtain ⟨inf, h3, h4⟩ := T.size
  have hA := run_isAgg h1 (w.atd d)
  rw [h2] at hA
  have hc' : CellsAt (w.atd d) b (0 + 0) vs := fun j v hj => hc j v hj
  have hl := run_loadCellsFrom (P := P) vs 0 #[] (w.atd d) hc'
  rw [hn, ← h4] at hl
  simp [results, h, ha.slot s _ hs, ha.slot s' _ hs', asAddr, loadVar, hA, run_size h3, loadCells, hl]
/-- an object that is read only -/
structure Lent (w : World) (R : Nat → Prop) (b : Nat) (cs : List Value) (t : TypeId) : Prop where
  blk : Blk w b cs t
  mem : R b
section
variable {w w' : World} {R R' : Nat → Prop} {b : Nat} {cs : List Value} {t : TypeId}
theorem Lent.ext (h : Lent w R b cs t) (hB : Below w.heap.size w w') : Lent w' R b cs t := ⟨h.blk.ext hB, h.mem⟩
theorem Lent.kept (h : Lent w R b cs t) (hk : Kept R w w') : Lent w' R b cs t := ⟨by have := h.blk; unfold Blk at *; rw [hk.block b h.mem (Array.getElem?_eq_some_iff.1 this).1]; exact this, h.mem⟩
theorem Lent.mono (h : Lent w R b cs t) (hn : ∀ k, R k → k < w.heap.size → R' k) : Lent w R' b cs t := ⟨h.blk, hn b h.mem h.blk.lt⟩
theorem Lent.of (h : Blk w b cs t) : Lent w (fun k => k < w.heap.size) b cs t := ⟨h, h.lt⟩
theorem Lent.old (h : Lent w R b cs t) : Lent w (fun k => k < w.heap.size) b cs t := ⟨h.blk, h.blk.lt⟩
end
theorem Gives.mono {P : Program} {f : FuncId} {args : List Value} {w : World} {Φ Ψ : Value → World → Prop} (h : Gives P f args w Φ) (hm : ∀ v w', Φ v w' → Ψ v w') : Gives P f args w Ψ := fun d => (h d).mono fun e w' ⟨v, w1, d', h1, h2, h3⟩ => ⟨v, w1, d', h1, h2, hm v w1 h3⟩
end Go.Mine

namespace Go.Mine
open Go.RowKit
/-! ### rows that may change, for printed walks: headers (own, raw) and rows (a family) -/
section
variable {F R0 R : Nat → Prop} {w0 w w' : World} {cs : List HP} {α : Type} {T : Ty α} {e eo : TypeId} {v u : Value} {vs us : List Value} {xs ys : List α} {xss yss zss : List (List α)} {S : Nat → Prop} {i j : Int}
theorem Sep.merge2 {c d c' : HP} (h : Sep F R0 R w0 w (c :: d :: cs)) (hc : c'.holds w) (hf : ∀ k, c'.foot k → c.foot k ∨ d.foot k) (hd : ∀ k, c'.dep k → R k) : Sep F R0 R w0 w (c' :: cs) := by
  obtain ⟨h1, h2⟩ := List.pairwise_cons.1 h.disj
  obtain ⟨h3, h4⟩ := List.pairwise_cons.1 h2
  refine ⟨h.step, h.ro, h.ro0, h.ro1, fun x hx => ?_, fun x hx k hk => ?_, fun x hx k hk => ?_, List.pairwise_cons.2 ⟨fun x hx k hk hk' => ?_, h4⟩⟩
  · rcases List.mem_cons.1 hx with rfl | hx
    · exact hc
    · exact h.holds x (by simp [hx])
  · rcases List.mem_cons.1 hx with rfl | hx
    · rcases hf k hk with hk | hk
      · exact h.foot c (by simp) k hk
      · exact h.foot d (by simp) k hk
    · exact h.foot x (by simp [hx]) k hk
  · rcases List.mem_cons.1 hx with rfl | hx
    · exact hd k hk
    · exact h.dep x (by simp [hx]) k hk
  · rcases hf k hk with hk | hk
    · exact h1 x (by simp [hx]) k hk hk'
    · exact h3 x hx k hk hk'
theorem Elt.rawCell {b o : Nat} {x : Value} (h : Elt Ty.raw w S b o x) : w.cell? ⟨b, o, none⟩ = some x := by
  obtain ⟨_, cs, h1, rfl, _⟩ := h; exact h1 0 _ rfl
theorem Sep.nilRows0 (h : Sep F R0 R w0 w cs) (T : Ty α) (e eo : TypeId) : Sep F R0 R w0 w (.own Ty.raw (fun _ => False) eo (.slice none 0 0) [] :: .famS T (fun _ => False) e [] [] :: cs) := (h.nilFam T e).nilOwn0 Ty.raw eo
theorem Sep.famO (h : Sep F R0 R w0 w cs) (f : Nat) (hf : cs[f]? = some (HP.famS T S e vs xss)) (ha : ati xss i = some xs) : Own T w 0 S e (nth vs i.toNat) xs := by
  obtain ⟨h0, h1, h2⟩ := ati_lt ha
  have := h.famOwn f hf i.toNat h1
  rwa [show nth xss i.toNat = xs by rw [nth_eq h1]; rw [List.getElem?_eq_getElem h1] at h2; exact Option.some.inj h2] at this
/-- a row has grown -/
theorem Sep.famSetM (h : Sep F R0 R w0 w cs) (f : Nat) (hf : cs[f]? = some (HP.famS T S e vs xss)) (ha : ati xss i = some xs) (hs : seti xss i ys = some zss) {m : Nat} (ho : Own T w' 0 S e u ys) (hg : w.grownBy w' (nth vs i.toNat).ownBlock) (hn : NewRow w (nth vs i.toNat) u m) :
    Sep F R0 R w0 w' (cs.set f (.famS T S e (vs.set i.toNat u) zss)) := by
  obtain ⟨_, _, rfl⟩ := seti_eq hs
  obtain ⟨h0, h1, h2⟩ := ati_lt ha
  exact h.famSet f hf i.toNat h1 ho hg hn
theorem Sep.famKeptM (h : Sep F R0 R w0 w cs) (f : Nat) (hf : cs[f]? = some (HP.famS T S e vs xss)) (ha : ati xss i = some xs) (hg : w.grownBy w' (nth vs i.toNat).ownBlock) : Kept R w w' := by
  obtain ⟨h0, h1, h2⟩ := ati_lt ha
  exact h.famKept f hf i.toNat h1 hg
/-- two families as one -/
theorem Sep.famCat (h : Sep F R0 R w0 w (.famS T S e vs xss :: .famS T S e us yss :: cs)) : Sep F R0 R w0 w (.famS T S e (vs ++ us) (xss ++ yss) :: cs) := by
  have h1 : FamIn T S e vs xss w := h.get 0 rfl
  have h2 : FamIn T S e us yss w := h.get 1 rfl
  have hl := h1.1
  have hsplit : ∀ (j : Nat) (a : Value), (vs ++ us)[j]? = some a → (vs[j]? = some a ∧ j < vs.length) ∨ (us[j - vs.length]? = some a ∧ vs.length ≤ j) := fun j a hj => by
    rcases Nat.lt_or_ge j vs.length with h | h
    · rw [List.getElem?_append_left h] at hj; exact .inl ⟨hj, h⟩
    · rw [List.getElem?_append_right h] at hj; exact .inr ⟨hj, h⟩
  have hap : ∀ (j j' : Nat) (a a' : Value) k, vs[j]? = some a → us[j']? = some a' → a.ownBlock = some k → a'.ownBlock ≠ some k := fun j j' a a' k hj hj' hk hk' => h.apart 0 1 rfl rfl (by decide) k ⟨j, a, hj, hk⟩ ⟨j', a', hj', hk'⟩
  refine h.merge2 (c' := HP.famS T S e (vs ++ us) (xss ++ yss)) ⟨by simp [hl, h2.1], fun j a xs hj hx => ?_, fun j j' a a' k hne hj hj' hk hk' => ?_⟩ (fun k ⟨j, a, hj, hk⟩ => ?_) (fun k hk => h.depR 0 rfl k hk)
  · rcases hsplit j a hj with ⟨g1, g2⟩ | ⟨g1, g2⟩
    · rw [List.getElem?_append_left (by omega)] at hx; exact h1.2.1 j a xs g1 hx
    · rw [List.getElem?_append_right (by omega), ← hl] at hx; exact h2.2.1 _ a xs g1 hx
  · rcases hsplit j a hj with ⟨g1, g2⟩ | ⟨g1, g2⟩ <;> rcases hsplit j' a' hj' with ⟨g3, g4⟩ | ⟨g3, g4⟩
    · exact h1.2.2 j j' a a' k hne g1 g3 hk hk'
    · exact hap _ _ a a' k g1 g3 hk hk'
    · exact hap _ _ a' a k g3 g1 hk' hk
    · exact h2.2.2 _ _ a a' k (by omega) g1 g3 hk hk'
  · rcases hsplit j a hj with ⟨g1, g2⟩ | ⟨g1, g2⟩
    · exact .inl ⟨j, a, g1, hk⟩
    · exact .inr ⟨_, a, g1, hk⟩
/-- an own slice as a family of one -/
theorem Sep.famOne (h : Sep F R0 R w0 w (.own T S e v xs :: cs)) : Sep F R0 R w0 w (.famS T S e [v] [xs] :: cs) := by
  have ho : Own T w 0 S e v xs := h.get 0 rfl
  refine (h.newNone (c := HP.famS T S e [] []) ⟨rfl, fun i u xs hi => by simp at hi, fun i j u u' k hne hi => by simp at hi⟩ (fun k ⟨i, u, hi, _⟩ => by simp at hi) (fun k hk => h.depR 0 rfl k hk)).merge2 (c' := HP.famS T S e [v] [xs]) ⟨rfl, fun j a ys hj hx => ?_, fun j j' a a' k hne hj hj' hk hk' => ?_⟩ (fun k ⟨j, a, hj, hk⟩ => .inr ?_) (fun k hk => h.depR 0 rfl k hk)
  · cases j with
    | zero => simp at hj hx; subst hj; subst hx; exact ho
    | succ j => simp at hj
  · have := (List.getElem?_eq_some_iff.1 hj).1; have := (List.getElem?_eq_some_iff.1 hj').1; simp at *; omega
  · cases j with
    | zero => simp at hj; subst hj; exact hk
    | succ j => simp at hj
end
section
variable {P : Program} {N : Fr} {X : Nat → Prop} {K : Env → World → Prop} {E : Env} {w : World} {t : TypeId} {m : Bool} {rest : List QOp} {sd : Nat} {α : Type} {T : Ty α}
instance : TyZ Ty.raw [.slice none 0 0] (.slice none 0 0) := ⟨fun _ _ => ⟨rfl, rfl⟩⟩
end
section
variable {F R0 R : Nat → Prop} {w0 w w' : World} {cs : List HP} {α : Type} {T : Ty α} {e eo : TypeId} {v u : Value} {S : Nat → Prop}
theorem catL_raw {vs us : List Value} {xss yss zss : List (List α)} (hl : vs.length = xss.length) (hl2 : us.length = yss.length) (h : catL xss yss = some zss) : catL vs us = some (vs ++ us) ∧ xss ++ yss = zss := by
  obtain ⟨h1, rfl⟩ := catL_eq h
  unfold catL; rw [if_pos (by omega)]; exact ⟨rfl, rfl⟩
/-- rows, read -/
theorem Sep.rowsI {vs : List Value} {xss : List (List α)} (h : Sep F R0 R w0 w cs) (i f : Nat) (hi : cs[i]? = some (HP.own Ty.raw (fun _ => False) eo v vs)) (hf : cs[f]? = some (HP.famS T S e vs xss)) (hne : i ≠ f) : IsSlice T.slice w (fun _ => True) v xss := by
  have h1 : FamIn T S e vs xss w := h.get f hf
  have ho : Own Ty.raw w 0 (fun _ => False) eo v vs := h.get i hi
  have hl := h1.1
  have hown : Own T.slice w 0 (fun k => some k ≠ v.ownBlock) eo v xss := by
    obtain ⟨cells, hc, hrow, hr⟩ := ho.row
    refine ⟨cells, by omega, by rw [← hl]; exact hrow, fun j c x hj hx => ?_⟩
    have hjl : j < vs.length := by have := (List.getElem?_eq_some_iff.1 hx).1; omega
    obtain ⟨rfl, _⟩ := hr j c _ hj (some_nth hjl)
    refine ⟨_, rfl, ?_⟩
    have h2 := Own.reads (h1.2.1 j _ x (some_nth hjl) hx)
    refine h2.mono fun k hk _ => ?_
    have hno : some k ≠ v.ownBlock := by
      intro he
      rcases hk with hk | hk
      · exact h.off i hi k (h.depR f hf k hk) he.symm
      · exact h.apart i f hi hf hne k he.symm ⟨j, _, some_nth hjl, hk⟩
    exact ⟨hno, hno⟩
  exact hown.isSlice.mono fun _ _ _ => trivial
end
end Go.Mine

namespace Go.Mine
open Go.RowKit
/-! ### copy; closures -/
def copyL {α : Type} (xs ys : List α) : List α := ys.take xs.length ++ xs.drop ys.length
theorem setN_pre : ∀ (us pre l : List Value), us.length ≤ l.length → setN (pre ++ l) pre.length us = pre ++ us ++ l.drop us.length
  | [], pre, l, _ => by simp [setN]
  | u :: us, pre, [], h => by simp at h
  | u :: us, pre, a :: l, h => by
    have ih := setN_pre us (pre ++ [u]) l (by simpa using h)
    rw [setN, show (pre ++ a :: l).set pre.length u = (pre ++ [u]) ++ l by simp, show pre.length + 1 = (pre ++ [u]).length by simp, ih]
    simp
theorem flat_len {sz : Nat} : ∀ (cells : List (List Value)), (∀ c ∈ cells, c.length = sz) → cells.flatten.length = cells.length * sz
  | [], _ => by simp
  | c :: cs, h => by simp [h c (by simp), flat_len cs fun c hc => h c (by simp [hc]), Nat.add_mul]; omega
theorem flat_drop {sz : Nat} : ∀ (cells : List (List Value)) (i : Nat), (∀ c ∈ cells, c.length = sz) → (cells.drop i).flatten = cells.flatten.drop (i * sz)
  | [], i, _ => by simp
  | c :: cs, 0, _ => by simp
  | c :: cs, i + 1, h => by
    have h0 := h c (by simp)
    rw [List.drop_succ_cons, flat_drop cs i fun c hc => h c (by simp [hc]), List.flatten_cons, Nat.add_mul, Nat.one_mul, Nat.add_comm, ← List.drop_drop]
    congr 1
    rw [← h0]; simp
section
variable {P : Program} {N : Fr} {X : Nat → Prop} {K : Env → World → Prop} {E : Env} {w : World} {t : TypeId} {m : Bool} {rest : List QOp} {α : Type} {T : Ty α}
end
section
variable {P : Program} {N : Fr} {X : Nat → Prop} {K : Env → World → Prop} {E : Env} {w : World} {t : TypeId} {m : Bool} {rest : List QOp}
/-- a function value with what it has captured -/
theorem q_callC {sd s : Nat} {f : FuncId} {xs : List Operand} {ts : Array TypeId} {vs cs : List Value} {Φ : Value → World → Prop} [T : TFn P f] (hs : ev E (.tmp s) = some (.func (.func f) #[] cs.toArray)) (hx : evs E xs = some vs) (hc : Gives P f (vs ++ cs) w Φ) (hd : dOK N (some sd) = true)
    (h : ∀ v w1, Φ v w1 → (m = true → RelX X w w1) ∧ eseq P N X K rest (Env.set E sd v) w1) : eseq P N X K (⟨none, some sd, .call { callee := .value (.tmp s), args := xs.toArray, argTypes := ts }, t, m⟩ :: rest) E w := by
  refine q_eff rfl fun a ha d => ?_
  have hrun : (execOp a.eval (QOp.oper ⟨none, some sd, .call { callee := .value (.tmp s), args := xs.toArray, argTypes := ts }, t, m⟩)).run P (w.atd d) = .ok (.enter f (vs ++ cs).toArray) (w.atd d) := by
    have := run_callFunc (P := P) (f := f) (vs ++ cs).toArray (w.atd d)
    simp [execOp, QOp.oper, resolve, ha.eval hs, Deferred.ofValue, invoke]
    rw [show List.map a.eval xs = vs from evs_map ha hx]
    simpa using this
  unfold Oper.wp
  rw [hrun]
  refine (hc d).mono fun e w' h' => ?_
  obtain ⟨v, w1, d', rfl, rfl, hΦ⟩ := h'
  exact ⟨v, w1, d', rfl, rfl, hd, h v w1 hΦ⟩
theorem q_makeFunc {sd : Nat} {f : FuncId} {xs : List Operand} {vs : List Value} (hx : evs E xs = some vs) (hd : dOK N (some sd) = true) (h : eseq P N X K rest (Env.set E sd (.func (.func f) #[] vs.toArray)) w) : eseq P N X K (⟨none, some sd, .makeFunc (.func f) #[] xs.toArray, t, m⟩ :: rest) E w :=
  q_pure _ rfl hd (fun a ha w' => by
    have e : List.map a.eval xs = vs := evs_map ha hx
    simp [execOp, QOp.oper, Instr.makeFunc, e]) h
end
end Go.Mine

namespace Go.Mine
open Go.RowKit
/-! ### arrays -/
section
variable {P : Program} {N : Fr} {X : Nat → Prop} {K : Env → World → Prop} {E : Env} {w : World} {t : TypeId} {m : Bool} {rest : List QOp} {sd : Nat}
end
end Go.Mine

namespace Go.Mine
open Go.RowKit
/-! ### uint32 cells; copies inside one slice -/
def Ty.u32 : Ty Int where
  sz := 1
  R _ _ cs x := cs = [.int .u32 x]
  len h := by subst h; rfl
  one h v hv := by subst h; simp at hv; subst hv; rfl
  kept _ h := h
  mono _ h := h
instance : Enc Ty.u32 fun x => [Value.int .u32 x] := ⟨fun _ _ _ _ => Iff.rfl⟩
def sufV (sz : Nat) (v : Value) (i : Nat) : Value :=
  match v with
  | .slice ad n cap => .slice (if cap = i then ad else ad.map (·.add (i * sz))) (n - i) (cap - i)
  | v => v
theorem flat_take {sz : Nat} : ∀ (cells : List (List Value)) (i : Nat), (∀ c ∈ cells, c.length = sz) → (cells.take i).flatten = cells.flatten.take (i * sz)
  | [], i, _ => by simp
  | c :: cs, 0, _ => by simp
  | c :: cs, i + 1, h => by
    have h0 := h c (by simp)
    rw [List.take_succ_cons, List.flatten_cons, List.flatten_cons, flat_take cs i fun c hc => h c (by simp [hc]), Nat.add_mul, Nat.one_mul, List.take_append, h0]
    rw [List.take_of_length_le (l := c) (by omega), show i * sz + sz - sz = i * sz by omega]
theorem dropL_le {α : Type} {xs ys : List α} {j : Int} (h : dropL xs j = some ys) : j.toNat ≤ xs.length := by
  have := dropL_eq h; omega
def shiftL {α : Type} (xs : List α) (i j : Nat) : List α := xs.take i ++ copyL (xs.drop i) (xs.drop j)
theorem shiftL_length {α : Type} {xs : List α} {i j : Nat} (hi : i ≤ xs.length) : (shiftL xs i j).length = xs.length := by
  simp [shiftL, copyL]; omega
def shiftI (n i j t : Nat) : Nat := if t < i then t else if t - i < n - j then j + (t - i) else t
theorem shiftL_get {α : Type} {xs : List α} {i j t : Nat} (hi : i ≤ xs.length) (hj : j ≤ xs.length) (ht : t < xs.length) : (shiftL xs i j)[t]? = xs[shiftI xs.length i j t]? := by
  unfold shiftL shiftI copyL
  by_cases h1 : t < i
  · rw [if_pos h1, List.getElem?_append_left (by simp; omega), List.getElem?_take_of_lt h1]
  · rw [if_neg h1, List.getElem?_append_right (by simp; omega)]
    have e1 : t - (xs.take i).length = t - i := by simp; omega
    rw [e1]
    by_cases h2 : t - i < xs.length - j
    · rw [if_pos h2, List.getElem?_append_left (by simp; omega), List.getElem?_take_of_lt (by simp; omega), List.getElem?_drop]
    · rw [if_neg h2, List.getElem?_append_right (by simp; omega), List.getElem?_drop, List.getElem?_drop]
      congr 1
      simp; omega
section
variable {P : Program} {N : Fr} {X : Nat → Prop} {K : Env → World → Prop} {E : Env} {w : World} {t : TypeId} {m : Bool} {rest : List QOp} {α : Type} {T : Ty α}
theorem q_sufO {x lo : Operand} {ts e e' l0 sd : Nat} {S : Nat → Prop} {v : Value} {xs ys : List α} {k' : IntKind} {j : Int} (TS : TSlice P ts e T.sz) (hx : ev E x = some v) (hown : Own T w l0 S e' v xs) (hh : ev E lo = some (.int k' j)) (hj : dropL xs j = some ys)
    (hd : dOK N (some sd) = true) (h : eseq P N X K rest (Env.set E sd (sufV T.sz v j.toNat)) w) : eseq P N X K (⟨none, some sd, .slice ts x (some lo) none none, t, m⟩ :: rest) E w := by
  obtain ⟨h0, h1, rfl⟩ := dropL_eq hj
  obtain ⟨n, rfl⟩ := Int.eq_ofNat_of_zero_le h0
  obtain ⟨ad, cap, rfl, h2, _⟩ := hown.isSlice
  obtain ⟨inf, h5, h6⟩ := TS.size
  have hn : n ≤ xs.length := by simpa using h1
  refine q_pure _ rfl hd (fun a ha w' => ?_) h
  simp [execOp, QOp.oper, ha.eval hx, ha.eval hh, Instr.sliceAt, Instr.slice, Instr.sliceBounds, run_sliceBound hn, run_under TS.under, run_size h5, h6, sufV]
theorem q_copySuf {x y : Operand} {dst : Option Nat} {ts ts' e e' lo i j : Nat} {S : Nat → Prop} {v : Value} {xs : List α} [TS : TSlice P ts e T.sz] (hx : ev E x = some (sufV T.sz v i)) (hown : Own T w lo S e' v xs) (hy : ev E y = some (sufV T.sz v j)) (hi : i ≤ xs.length) (hj : j ≤ xs.length)
    (hd : dOK N dst = true) (hm : m = false) (h : ∀ w1, Own T w1 lo S e' v (shiftL xs i j) → StepF (fun k => v.ownBlock = some k) w w1 → eseq P N X K rest (E.put dst (.int .i64 (Nat.min (xs.length - j) (xs.length - i) : Nat))) w1) :
    eseq P N X K (⟨none, dst, .call { callee := .builtin .copy, args := #[x, y], argTypes := #[ts, ts'] }, t, m⟩ :: rest) E w := by
  subst hm
  obtain ⟨inf, hi1, hi2⟩ := TS.size
  refine q_eff rfl fun a ha d => ?_
  obtain ⟨cells, hl, hrow, hRx⟩ := hown.row
  have hcl : ∀ c ∈ cells, c.length = T.sz := fun c hc => by
    obtain ⟨q, hq, rfl⟩ := List.getElem_of_mem hc
    exact T.len (hRx q cells[q] (xs[q]'(by omega)) (by simp) (by simp))
  rcases hrow.2 with ⟨rfl, h0⟩ | ⟨g, cap, cur, rfl, h3, h4, h5, h6, h7, h8⟩
  · have hx0 : xs = [] := List.length_eq_zero_iff.1 h0
    subst hx0
    obtain rfl : i = 0 := Nat.le_zero.1 hi
    obtain rfl : j = 0 := Nat.le_zero.1 hj
    have hrun : (execOp a.eval (QOp.oper ⟨none, dst, .call { callee := .builtin .copy, args := #[x, y], argTypes := #[ts, ts'] }, t, false⟩)).run P (w.atd d) = .ok (.value (.int .i64 0)) (w.atd d) := by
      simp [execOp, QOp.oper, resolve, invoke, builtin, ha.eval hx, ha.eval hy, sufV, Builtin.copy_, run_under TS.under, run_size hi1, Builtin.lenOf, Builtin.firstCells, goInt]
    unfold Oper.wp
    rw [hrun]
    refine ⟨_, w, d, rfl, rfl, hd, (fun h => by cases h), ?_⟩
    have := h w (by simpa [shiftL, copyL] using hown) (StepF.refl _ _)
    simpa using this
  · have hb : Blk w g cur.toList e' := by unfold Blk; simpa using h4
    have hcut : cur.toList.take (xs.length * T.sz) = cells.flatten := by simpa using h8
    obtain ⟨L, hcurlen, hcL⟩ : ∃ L, cur.toList.length = L ∧ cap * T.sz ≤ L := ⟨_, rfl, by simpa using h7⟩
    let mm := Nat.min (xs.length - j) (xs.length - i)
    have hmm : mm = Nat.min (xs.length - j) (xs.length - i) := rfl
    have hmj : mm ≤ xs.length - j := Nat.min_le_left _ _
    have hmi : mm ≤ xs.length - i := Nat.min_le_right _ _
    let us := ((cells.drop j).take mm).flatten
    have hus : us = ((cells.drop j).take mm).flatten := rfl
    have hcd : ∀ c ∈ cells.drop j, c.length = T.sz := fun c hc => hcl c (List.mem_of_mem_drop hc)
    have hul : us.length = mm * T.sz := by rw [hus, flat_len _ fun c hc => hcd c (List.mem_of_mem_take hc), List.length_take, List.length_drop, hl, Nat.min_eq_left hmj]
    have hus2 : (cur.toList.drop (j * T.sz)).take (mm * T.sz) = us := by
      rw [hus, flat_take _ _ hcd, flat_drop _ _ hcl, ← hcut, List.drop_take, List.take_take]
      congr 1
      have := Nat.mul_le_mul_right T.sz hmj
      rw [Nat.sub_mul] at this; omega
    have hone : ∀ u ∈ us, oneV u = true := fun u hu => by
      obtain ⟨c, hc, hu⟩ := List.mem_flatten.1 hu
      have hc2 := List.mem_of_mem_drop (List.mem_of_mem_take hc)
      obtain ⟨q, hq, rfl⟩ := List.getElem_of_mem hc2
      exact T.one (hRx q cells[q] (xs[q]'(by omega)) (by simp) (by simp)) u hu
    have hadd : ∀ q, q ≤ xs.length → mm ≠ 0 → mm ≤ xs.length - q → (if cap = q then some (⟨g, 0, none⟩ : Addr) else (some (⟨g, 0, none⟩ : Addr)).map (·.add (q * T.sz))) = some ⟨g, q * T.sz, none⟩ := fun q hq h0 h1 => by
      rw [if_neg (by omega)]; simp [Addr.add]; exact fun h => h.symm
    have hload : ∀ ad n c, (mm ≠ 0 → ad = some ⟨g, j * T.sz, none⟩) → (Builtin.firstCells inf.size mm (.slice ad n c)).run P (w.atd d) = .ok us.toArray (w.atd d) := fun ad n c hne => by
      by_cases hz : mm = 0
      · have : us = [] := List.length_eq_zero_iff.1 (by rw [hul, hz]; simp)
        rw [this, hz]
        cases ad <;> simp [Builtin.firstCells, loadCells, loadCellsFrom]
      · rw [hne hz]
        have hcf : CellsAt (w.atd d) g (j * T.sz + 0) us := fun q u hq => hb.cellsAt (j * T.sz) (mm * T.sz) hus2 q u hq
        have := run_loadCellsFrom (P := P) us 0 #[] (w.atd d) hcf
        simp only [Builtin.firstCells, loadCells, hi2, ← hul]
        simpa using this
    have hle : i * T.sz + us.length ≤ cur.toList.length := by
      rw [hul, hcurlen, ← Nat.add_mul]; refine Nat.le_trans (Nat.mul_le_mul_right _ ?_) hcL; omega
    obtain ⟨w1, hs1, hs2, hs3⟩ := run_storeCells (P := P) (off := i * T.sz) (b := g) (t := e') us 0 cur.toList (w.atd d) hb (by simpa using hle) hone
    have hstore : ∀ ad : Option Addr, (mm ≠ 0 → ad = some ⟨g, i * T.sz, none⟩) → ad ≠ none → ∀ a', ad = some a' → (storeCells a' us).run P (w.atd d) = .ok () w1 := fun ad hne _ a' ha' => by
      by_cases hz : mm = 0
      · have : us = [] := List.length_eq_zero_iff.1 (by rw [hul, hz]; simp)
        rw [this] at hs1 ⊢
        simp [storeCells] at hs1 ⊢; exact hs1
      · have := (hne hz).symm.trans ha'
        cases this; exact hs1
    have hfi : ∃ a', (if cap = i then some (⟨g, 0, none⟩ : Addr) else (some (⟨g, 0, none⟩ : Addr)).map (·.add (i * T.sz))) = some a' := by split <;> exact ⟨_, rfl⟩
    obtain ⟨a', ha'⟩ := hfi
    have hrun : (execOp a.eval (QOp.oper ⟨none, dst, .call { callee := .builtin .copy, args := #[x, y], argTypes := #[ts, ts'] }, t, false⟩)).run P (w.atd d) = .ok (.value (.int .i64 ((mm : Nat) : Int))) w1 := by
      have h9 := hload _ (xs.length - j) (cap - j) (fun h0 => hadd j hj h0 hmj)
      have h10 := hstore _ (fun h0 => hadd i hi h0 hmi) (by rw [ha']; simp) a' ha'
      simp only [sufV] at hx hy
      rw [ha'] at hx
      obtain ⟨aj, haj⟩ : ∃ aj, (if cap = j then some (⟨g, 0, none⟩ : Addr) else (some (⟨g, 0, none⟩ : Addr)).map (·.add (j * T.sz))) = aj := ⟨_, rfl⟩
      rw [haj] at hy h9
      simp [execOp, QOp.oper, resolve, invoke, builtin, ha.eval hx, ha.eval hy, Builtin.copy_, run_under TS.under, run_size hi1, Builtin.lenOf, ← hmm, h9, h10, goInt]
    unfold Oper.wp
    rw [hrun]
    refine ⟨_, w1, w1.drawn, rfl, rfl, hd, (fun h => by cases h), h w1 ?_ ⟨hs3.os, hs3.tape, hs3.output, hs3.size, fun k hlt hk => hs3.block k hlt fun he => hk (by rw [he]; rfl)⟩⟩
    have hkept : Kept (fun k => S k ∧ some k ≠ (Value.slice (some ⟨g, 0, none⟩) xs.length cap).ownBlock) w w1 := ⟨hs3.size, fun k hk hs => hs3.block k hs fun he => hk.2 (by rw [he]; rfl)⟩
    have hset : setN cur.toList (i * T.sz + 0) us = cur.toList.take (i * T.sz) ++ us ++ cur.toList.drop (i * T.sz + us.length) := by
      have h9 := setN_pre us (cur.toList.take (i * T.sz)) (cur.toList.drop (i * T.sz)) (by simp; simp at hle; omega)
      rw [List.take_append_drop, List.drop_drop] at h9
      have h10 : (cur.toList.take (i * T.sz)).length = i * T.sz := by rw [List.length_take]; omega
      rw [h10] at h9; simpa using h9
    rw [hset] at hs2
    have hilen : i * T.sz ≤ xs.length * T.sz := Nat.mul_le_mul_right _ hi
    have himlen : i * T.sz + mm * T.sz ≤ xs.length * T.sz := by rw [← Nat.add_mul]; exact Nat.mul_le_mul_right _ (by omega)
    have hcells : (shiftL cells i j).flatten = (cur.toList.take (i * T.sz) ++ us ++ cur.toList.drop (i * T.sz + us.length)).take (xs.length * T.sz) := by
      have hA : (cells.take i).flatten = cur.toList.take (i * T.sz) := by rw [flat_take _ _ hcl, ← hcut, List.take_take, Nat.min_eq_left hilen]
      have hB : ((cells.drop j).take (cells.drop i).length).flatten = us := by
        rw [hus]
        congr 1
        rw [show (cells.drop i).length = xs.length - i by simp [hl]]
        rcases Nat.le_total (xs.length - j) (xs.length - i) with h9 | h9
        · rw [show mm = xs.length - j from Nat.min_eq_left h9, List.take_of_length_le (by simp [hl]; omega), List.take_of_length_le (by simp [hl])]
        · rw [show mm = xs.length - i from Nat.min_eq_right h9]
      have hC : ((cells.drop i).drop (cells.drop j).length).flatten = (cur.toList.drop (i * T.sz + us.length)).take (xs.length * T.sz - (i * T.sz + us.length)) := by
        rw [← List.drop_take, hcut, List.drop_drop, flat_drop _ _ hcl, show (cells.drop j).length = xs.length - j by simp [hl], hul]
        have hfl : cells.flatten.length = xs.length * T.sz := by rw [flat_len _ hcl, hl]
        rcases Nat.le_total (xs.length - j) (xs.length - i) with h9 | h9
        · rw [show mm = xs.length - j from Nat.min_eq_left h9, Nat.add_mul]
        · rw [show mm = xs.length - i from Nat.min_eq_right h9, ← Nat.add_mul, show i + (xs.length - i) = xs.length by omega, List.drop_eq_nil_of_le (by rw [hfl]; exact Nat.mul_le_mul_right _ (by omega)), List.drop_eq_nil_of_le (by rw [hfl]; exact Nat.le_refl _)]
      unfold shiftL copyL
      rw [List.flatten_append, List.flatten_append, hA, hB, hC, List.take_append, List.take_of_length_le (l := cur.toList.take (i * T.sz) ++ us) (by simp only [List.length_append, List.length_take]; rw [hul]; omega), List.append_assoc]
      congr 3
      simp only [List.length_append, List.length_take]
      rw [hcurlen]
      have : i * T.sz ≤ cap * T.sz := Nat.mul_le_mul_right _ (by omega)
      omega
    have hsl : (shiftL xs i j).length = xs.length := shiftL_length hi
    refine ⟨shiftL cells i j, by rw [shiftL_length (by omega), hsl, hl], ?_, fun q c u hc hu => T.kept hkept ?_⟩
    · rw [hsl]
      refine ⟨by rw [flat_len, shiftL_length (by omega), hl]; intro c hc; unfold shiftL copyL at hc; simp only [List.mem_append] at hc; rcases hc with hc | hc | hc; exact hcl c (List.mem_of_mem_take hc); exact hcl c (List.mem_of_mem_drop (List.mem_of_mem_take hc)); exact hcl c (List.mem_of_mem_drop (List.mem_of_mem_drop hc)), .inr ⟨g, cap, (cur.toList.take (i * T.sz) ++ us ++ cur.toList.drop (i * T.sz + us.length)).toArray, rfl, h3, hs2, h5, h6, ?_, ?_⟩⟩
      · have : i * T.sz ≤ cap * T.sz := Nat.mul_le_mul_right _ (by omega)
        simp only [List.size_toArray, List.length_append, List.length_drop, List.length_take, hcurlen]; rw [hcurlen] at hle; omega
      · simpa using hcells.symm
    · have hq : q < xs.length := by have := (List.getElem?_eq_some_iff.1 hu).1; omega
      rw [shiftL_get (by omega) (by omega) (by omega), hl] at hc
      rw [shiftL_get hi hj hq] at hu
      exact hRx _ c u hc hu
end
end Go.Mine
namespace Go.Mine
open Go.RowKit
end Go.Mine
namespace Go.Mine
open Go.RowKit
/-! ### numbers of any kind; bits -/
section
variable {P : Program} {N : Fr} {X : Nat → Prop} {K : Env → World → Prop} {E : Env} {w : World} {t : TypeId} {m : Bool} {rest : List QOp} {sd : Nat} {x y : Operand} {ty ty' : TypeId} {k k' : IntKind} {i j l : Int}
end
end Go.Mine
namespace Go.Mine
open Go.RowKit
theorem RelX.mono {X Y : Nat → Prop} {w w' : World} (h : RelX X w w') (hX : ∀ k, X k → Y k) : RelX Y w w' := ⟨h.os, h.tape, h.output, h.size, fun k hk hn => h.block k hk fun hx => hn (hX k hx)⟩
end Go.Mine

namespace Go.Mine
open Go.RowKit
/-! ### small arrays as values; the end of a slice -/
section
variable {P : Program} {N : Fr} {X : Nat → Prop} {K : Env → World → Prop} {E : Env} {w : World} {t : TypeId} {m : Bool} {rest : List QOp} {sd : Nat}
end
section
variable {P : Program} {N : Fr} {X : Nat → Prop} {K : Env → World → Prop} {E : Env} {w : World} {t : TypeId} {m : Bool} {rest : List QOp} {sd : Nat} {α : Type} {T : Ty α}
end
section
variable {P : Program} {N : Fr} {X : Nat → Prop} {K : Env → World → Prop} {E : Env} {w : World} {t : TypeId} {m : Bool} {rest : List QOp} {α : Type} {T : Ty α}
end
theorem Only.relX {w w1 : World} {b : Nat} (h : Only w w1 b) : RelX (fun k => k = b) w w1 := ⟨h.os, h.tape, h.output, h.size, h.block⟩
section
variable {P : Program} {N : Fr} {X : Nat → Prop} {K : Env → World → Prop} {E : Env} {w : World} {t : TypeId} {m : Bool} {rest : List QOp} {dst : Option Nat}
theorem q_storeAggX {x y : Operand} {tt : TypeId} {b o n : Nat} {cs vs : List Value} {bt : TypeId} [T : TAgg P tt n] (hx : ev E x = some (.pointer (some ⟨b, o, none⟩))) (hy : ev E y = some (.agg vs.toArray))
    (hb : Blk w b cs bt) (hn : vs.length = n) (ho : o + n ≤ cs.length) (hv : ∀ v ∈ vs, oneV v = true) (hd : dst = none) (hX : X b)
    (h : ∀ w1, Blk w1 b (setN cs o vs) bt → Only w w1 b → eseq P N X K rest E w1) : eseq P N X K (⟨none, dst, .store tt x y, t, m⟩ :: rest) E w := by
  obtain ⟨inf, h3, h4⟩ := T.size
  subst hd
  refine q_eff rfl fun a ha d => ?_
  have hb' : Blk (w.atd d) b cs bt := hb
  obtain ⟨w1, hs, hb1, ho1⟩ := run_storeCells (P := P) (off := o) vs 0 cs (w.atd d) hb' (by omega) hv
  have hrun : (execOp a.eval (QOp.oper ⟨none, none, .store tt x y, t, m⟩)).run P (w.atd d) = .ok .skip w1 := by
    simp [execOp, QOp.oper, ha.eval hx, ha.eval hy, Instr.storeAt, Instr.sureAddr, storeVar, run_size h3, h4, Value.cells, hn, hs]
  unfold Oper.wp
  rw [hrun]
  have hO : Only w w1 b := ⟨ho1.os, ho1.tape, ho1.output, ho1.size, ho1.block⟩
  exact ⟨undef, w1, w1.drawn, rfl, rfl, rfl, (fun _ => hO.relX.mono fun k hk => by rw [hk]; exact hX), h w1 hb1 hO⟩
end
end Go.Mine
