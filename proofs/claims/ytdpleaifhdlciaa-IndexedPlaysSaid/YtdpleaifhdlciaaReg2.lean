import Derived.Test.YtdpleaifhdlciaaReg
namespace Go.Mine
open Go.RowKit

section
variable {l : List Oper} {A ms ord : List Nat} {N : Nat}

theorem anc_prefix (S : Static l A ms ord N) : ∀ (i : Nat) (d1 d2 : List Nat) (k : Nat), ord = d1 ++ i :: d2 → anc A i k → k ∈ d1 := by
  intro i
  induction i using Nat.strongRecOn with
  | _ i ih =>
    intro d1 d2 k hs hk
    obtain ⟨o, ho, hp, _⟩ := S.order d1 i d2 hs
    obtain ⟨e, he, hb, h⟩ := S.anc i o ho k hk
    have hmem := hp e he hb
    rcases h with h | h
    · exact h ▸ hmem
    · obtain ⟨x, y, hxy⟩ := List.append_of_mem hmem
      have := ih e.on (S.lt i o ho e he hb) x (y ++ i :: d2) k (by rw [hs, hxy]; simp) h
      rw [hxy]; exact List.mem_append_left _ this

/-- a set of operations that holds all that its members wait for -/
def Closed (l : List Oper) (L : Nat → Prop) : Prop := ∀ i o, L i → l[i]? = some o → ∀ e ∈ o.after, Region.binds .any e = true → L e.on

theorem anc_of_preds (S : Static l A ms ord N) {L : Nat → Prop} (hc : Closed l L) : ∀ (i : Nat) (o : Oper), l[i]? = some o → (∀ e ∈ o.after, Region.binds .any e = true → L e.on) → ∀ k, anc A i k → L k := by
  intro i
  induction i using Nat.strongRecOn with
  | _ i ih =>
    intro o ho hp k hk
    obtain ⟨e, he, hb, h⟩ := S.anc i o ho k hk
    have hL := hp e he hb
    rcases h with h | h
    · exact h ▸ hL
    · cases hoe : l[e.on]? with
      | none =>
        exfalso
        have h1 := S.lt i o ho e he hb
        have h2 : i < l.length := (List.getElem?_eq_some_iff.1 ho).1
        rw [List.getElem?_eq_none_iff] at hoe
        omega
      | some oe => exact ih e.on (S.lt i o ho e he hb) oe hoe (hc e.on oe hL hoe) k h

/-- the frame 'a' is 'a0' with the values of the operations of 'D' in their temporaries -/
structure FrameIs (l : List Oper) (N : Nat) (a0 : Act) (val : Nat → Value) (D : Nat → Prop) (a : Act) : Prop where
  defers : a.defers = a0.defers
  size : a.tmps.size = N
  hit : ∀ i o s, l[i]? = some o → o.dst = some s → D i → a.tmps[s]? = some (val i)
  miss : ∀ s, (∀ i o, l[i]? = some o → o.dst = some s → ¬ D i) → a.tmps[s]? = a0.tmps[s]?

theorem FrameIs.congr {a0 a : Act} {val val' : Nat → Value} {D D' : Nat → Prop} (h : FrameIs l N a0 val D a) (hD : ∀ i, D i ↔ D' i) (hv : ∀ i, D i → val' i = val i) : FrameIs l N a0 val' D' a :=
  ⟨h.defers, h.size, fun i o s hi hs hd => by rw [hv i ((hD i).2 hd)]; exact h.hit i o s hi hs ((hD i).2 hd), fun s hn => h.miss s fun i o hi hs hd => hn i o hi hs ((hD i).1 hd)⟩

theorem FrameIs.put (S : Static l A ms ord N) {a0 a : Act} {val : Nat → Value} {D : Nat → Prop} (h : FrameIs l N a0 val D a) {i : Nat} {o : Oper} (hi : l[i]? = some o) (v : Value) (hn : ¬ D i) :
    FrameIs l N a0 (fun k => if k = i then v else val k) (fun k => D k ∨ k = i) (a.put o.dst v) := by
  have hv : ∀ k, D k → (if k = i then v else val k) = val k := fun k hk => if_neg (by rintro rfl; exact hn hk)
  cases hd : o.dst with
  | none =>
    refine ⟨h.defers, h.size, fun k ok s hk hs hD => ?_, fun s hm => h.miss s fun k ok hk hs hD => hm k ok hk hs (.inl hD)⟩
    rcases hD with hD | rfl
    · show a.tmps[s]? = _
      simp only [hv k hD]; exact h.hit k ok s hk hs hD
    · rw [hi] at hk; cases hk; rw [hd] at hs; cases hs
  | some d =>
    have hlt := S.dst i o d hi hd
    refine ⟨h.defers, by simp [Act.put, h.size], fun k ok s hk hs hD => ?_, fun s hm => ?_⟩
    · simp only [Act.put]
      by_cases e : k = i
      · subst e
        rw [hi] at hk; cases hk
        rw [hd] at hs; cases hs
        rw [Array.getElem?_setIfInBounds_self_of_lt (by rw [h.size]; exact hlt)]
        simp
      · have hD' : D k := hD.resolve_right e
        have hne : d ≠ s := fun e' => (S.apart k ok i o d hk hi e hd).1 (e' ▸ hs)
        rw [Array.getElem?_setIfInBounds_ne hne]
        simp only [hv k hD']; exact h.hit k ok s hk hs hD'
    · have hne : d ≠ s := fun e' => hm i o hi (e' ▸ hd) (.inr rfl)
      simp only [Act.put]
      rw [Array.getElem?_setIfInBounds_ne hne]
      exact h.miss s fun k ok hk hs hD => hm k ok hk hs (.inl hD)

/-- two frames agree on all that operation i looks at -/
theorem agree (S : Static l A ms ord N) {a0 a c : Act} {val : Nat → Value} {L : Nat → Prop} (hc : Closed l L) {d1 d2 : List Nat} {i : Nat} (hsp : ord = d1 ++ i :: d2) {o : Oper} (hi : l[i]? = some o)
    (ha : FrameIs l N a0 val L a) (hcf : FrameIs l N a0 val (· ∈ d1) c) (hL : ¬ L i) (hp : ∀ e ∈ o.after, Region.binds .any e = true → L e.on) :
    ∀ s ∈ touches l o, a.tmps[s]? = c.tmps[s]? := by
  intro s hs
  have hnd := S.nodup
  rw [hsp] at hnd
  have hid : i ∉ d1 := fun h => by
    rw [List.nodup_append] at hnd
    exact hnd.2.2 i h i (by simp) rfl
  by_cases hw : ∃ j oj, l[j]? = some oj ∧ oj.dst = some s ∧ j ≠ i
  · obtain ⟨j, oj, hj, hjs, hne⟩ := hw
    -- no other writes s
    have only : ∀ k ok, l[k]? = some ok → ok.dst = some s → k = j := fun k ok hk hks => by
      by_cases e : k = j
      · exact e
      · exact absurd hks (S.apart k ok j oj s hk hj e hjs).1
    rcases (S.apart i o j oj s hi hj (Ne.symm hne) hjs).2 hs with h | h
    · have h1 : L j := anc_of_preds S hc i o hi hp j h
      have h2 : j ∈ d1 := anc_prefix S i d1 d2 j hsp h
      rw [ha.hit j oj s hj hjs h1, hcf.hit j oj s hj hjs h2]
    · have h1 : ¬ L j := fun hLj => hL (anc_of_preds S hc j oj hj (hc j oj hLj hj) i h)
      have h2 : j ∉ d1 := fun hj1 => by
        obtain ⟨x, y, hxy⟩ := List.append_of_mem hj1
        have := anc_prefix S j x (y ++ i :: d2) i (by rw [hsp, hxy]; simp) h
        exact hid (by rw [hxy]; exact List.mem_append_left _ this)
      rw [ha.miss s fun k ok hk hks => (only k ok hk hks) ▸ h1, hcf.miss s fun k ok hk hks => (only k ok hk hks) ▸ h2]
  · have hno : ∀ k ok, l[k]? = some ok → ok.dst = some s → k = i := fun k ok hk hks => by
      by_cases e : k = i
      · exact e
      · exact absurd ⟨k, ok, hk, hks, e⟩ hw
    rw [ha.miss s fun k ok hk hks => (hno k ok hk hks) ▸ hL, hcf.miss s fun k ok hk hks => (hno k ok hk hks) ▸ hid]

theorem getD_of {l : List Oper} {i : Nat} {o : Oper} (h : l[i]? = some o) : l.getD i default = o := by simp [h]

theorem exec_same {o : Oper} (hb : isBad o.op = false) {a c : Act} {m : Bool} (h : ∀ s ∈ touches l o, a.tmps[s]? = c.tmps[s]?) : execOp a.eval o = execOp c.eval (mkQ l m o).oper := by
  have : execOp c.eval (mkQ l m o).oper = execOp c.eval o := rfl
  rw [this]
  refine execOp_congr o (fun cs b e => by rw [e] at hb; cases hb) fun x hx => ?_
  cases x with
  | tmp t =>
    have := h t (List.mem_append_left _ (List.mem_filterMap.2 ⟨.tmp t, by simpa using hx, rfl⟩))
    simp [Act.eval, this]
  | _ => rfl

theorem wanted_same (S : Static l A ms ord N) {i : Nat} {o : Oper} (hi : l[i]? = some o) {a c : Act} {m : Bool} (h : ∀ s ∈ touches l o, a.tmps[s]? = c.tmps[s]?) :
    Region.wanted o (yielded l.toArray a.tmps) = (mkQ l m o).wanted c := by
  unfold Region.wanted QOp.wanted mkQ
  cases hg : o.guard with
  | none => rfl
  | some p =>
    obtain ⟨j, b⟩ := p
    obtain ⟨oj, s, hj, hs⟩ := S.guard i o j b hi hg
    have ht := h s (List.mem_append_right _ (by rw [hg]; simp [hj, hs]))
    have : yielded l.toArray a.tmps j = boolOf c.tmps[s]? := by
      unfold yielded
      simp only [List.getElem?_toArray, hj, Option.bind_some, hs, ht]
      cases c.tmps[s]? with
      | none => rfl
      | some v => cases v <;> rfl
    simp only [this, getD_of hj, hs, Option.getD_some]

/-- what is known between two operations of a real order -/
structure Inv (P : Program) (X : Nat → Prop) (l : List Oper) (ms ord : List Nat) (N : Nat) (K : Act → World → Prop) (a0 : Act) (L : Nat → Prop) (a : Act) (w : World) (done rest : List Nat) (val : Nat → Value) (av : Act) : Prop where
  split : ord = done ++ rest
  sub : ∀ i, L i → i ∈ done
  closed : Closed l L
  effs : ∀ i o, i ∈ done → l[i]? = some o → cls o.op = 2 → L i
  seq : seqW P X K (compile l ms rest) av w
  fa : FrameIs l N a0 val L a
  fv : FrameIs l N a0 val (· ∈ done) av
  quiet : ∀ d1 i d2, done = d1 ++ i :: d2 → ¬ L i → ∃ o c, l[i]? = some o ∧ FrameIs l N a0 val (· ∈ d1) c ∧
    (((mkQ l (ms.contains i) o).wanted c = true ∧ ((cls o.op = 0 ∧ ∀ w', (execOp c.eval o).run P w' = .ok (.value (val i)) w') ∨ (cls o.op = 1 ∧ ∀ w', RelX X w w' → (execOp c.eval o).run P w' = .ok (.value (val i)) w'))) ∨
     ((mkQ l (ms.contains i) o).wanted c = false ∧ val i = undef))

def headEff (l : List Oper) : List Nat → Prop
  | [] => True
  | i :: _ => ∃ o, l[i]? = some o ∧ cls o.op = 2

theorem cls_lt (o : Op) : cls o = 0 ∨ cls o = 1 ∨ cls o = 2 := by
  unfold cls; repeat' split
  all_goals simp

/-- the canonical order goes on to the next operation that may change the world -/
theorem advance (S : Static l A ms ord N) {P : Program} {X : Nat → Prop} {K : Act → World → Prop} {a0 a : Act} {L : Nat → Prop} {w : World} : ∀ (rest done : List Nat) (val : Nat → Value) (av : Act), Inv P X l ms ord N K a0 L a w done rest val av →
    ∃ done' rest' val' av', Inv P X l ms ord N K a0 L a w done' rest' val' av' ∧ headEff l rest' := by
  intro rest
  induction rest with
  | nil => exact fun done val av h => ⟨done, [], val, av, h, trivial⟩
  | cons i rest ih =>
    intro done val av h
    obtain ⟨o, ho, hpre, _, _⟩ := S.order done i rest h.split
    rcases Nat.decEq (cls o.op) 2 with hne | heq
    case isTrue => exact ⟨done, i :: rest, val, av, h, o, ho, heq⟩
    have hnd := S.nodup
    rw [h.split, List.nodup_append] at hnd
    have hid : i ∉ done := fun hm => hnd.2.2 i hm i (by simp) rfl
    have hLi : ¬ L i := fun hL => hid (h.sub i hL)
    have hseq := h.seq
    -- one quiet operation, with its value
    have step : ∀ v, seqW P X K (compile l ms rest) (av.put o.dst v) w →
        (((mkQ l (ms.contains i) o).wanted av = true ∧ ((cls o.op = 0 ∧ ∀ w', (execOp av.eval o).run P w' = .ok (.value v) w') ∨ (cls o.op = 1 ∧ ∀ w', RelX X w w' → (execOp av.eval o).run P w' = .ok (.value v) w'))) ∨
         ((mkQ l (ms.contains i) o).wanted av = false ∧ v = undef)) →
        ∃ done' rest' val' av', Inv P X l ms ord N K a0 L a w done' rest' val' av' ∧ headEff l rest' := by
      intro v hs hv
      have hvn : ∀ k, k ∈ done → (if k = i then v else val k) = val k := fun k hk => if_neg (by rintro rfl; exact hid hk)
      refine ih (done ++ [i]) (fun k => if k = i then v else val k) (av.put o.dst v) ⟨by rw [h.split]; simp, fun k hk => List.mem_append_left _ (h.sub k hk), h.closed, fun k ok hk hok hc => ?_, hs, ?_, ?_, ?_⟩
      · rcases List.mem_append.1 hk with hk | hk
        · exact h.effs k ok hk hok hc
        · have : k = i := by simpa using hk
          subst this; rw [ho] at hok; cases hok; exact absurd hc hne
      · exact h.fa.congr (fun _ => Iff.rfl) fun k hk => hvn k (h.sub k hk)
      · exact (h.fv.put S ho v hid).congr (fun k => by simp) fun _ _ => rfl
      · intro d1 k d2 hk hLk
        rcases List.append_eq_append_iff.1 hk.symm with ⟨as, h1, h2⟩ | ⟨bs, h1, h2⟩
        · -- d1 ++ as = done
          cases as with
          | nil =>
            obtain ⟨rfl, rfl⟩ : k = i ∧ d2 = [] := by simpa using h2
            have hd : d1 = done := by simpa using h1.symm
            subst hd
            exact ⟨o, av, ho, h.fv.congr (fun _ => Iff.rfl) hvn, by simpa using hv⟩
          | cons x as =>
            obtain ⟨rfl, rfl⟩ : k = x ∧ d2 = as ++ [i] := by simpa using h2
            obtain ⟨o', c, ho', hfc, hq⟩ := h.quiet d1 k as h1 hLk
            have hkm : k ∈ done := by rw [h1]; simp
            refine ⟨o', c, ho', hfc.congr (fun _ => Iff.rfl) fun m hm => hvn m (by rw [h1]; exact List.mem_append_left _ hm), ?_⟩
            simp only [hvn k hkm]; exact hq
        · cases bs with
          | nil =>
            obtain ⟨rfl, rfl⟩ : k = i ∧ d2 = [] := by simpa [eq_comm] using h2
            have hd : d1 = done := by simpa using h1
            subst hd
            exact ⟨o, av, ho, h.fv.congr (fun _ => Iff.rfl) hvn, by simpa using hv⟩
          | cons x bs =>
            have := congrArg List.length h2
            simp at this
    simp only [compile, List.map_cons, seqW, getD_of ho] at hseq
    split at hseq
    · rename_i hw
      split at hseq
      · rename_i hc
        obtain ⟨v, hv, hs⟩ := hseq
        exact step v hs (.inl ⟨hw, .inl ⟨hc, hv⟩⟩)
      · split at hseq
        · rename_i hc
          obtain ⟨v, hv, hs⟩ := hseq
          exact step v hs (.inl ⟨hw, .inr ⟨hc, hv⟩⟩)
        · rename_i h0 h1
          rcases cls_lt o.op with h | h | h
          · exact absurd h h0
          · exact absurd h h1
          · exact absurd h hne
    · rename_i hw
      exact step undef hseq (.inr ⟨by simpa using hw, rfl⟩)

theorem first_not {L : Nat → Prop} : ∀ (ord : List Nat), (∃ k ∈ ord, ¬ L k) → ∃ d1 i d2, ord = d1 ++ i :: d2 ∧ (∀ k ∈ d1, L k) ∧ ¬ L i
  | [], h => by obtain ⟨k, hk, _⟩ := h; cases hk
  | x :: ord, h => by
    by_cases hx : L x
    · obtain ⟨k, hk, hn⟩ := h
      have : k ∈ ord := by
        rcases List.mem_cons.1 hk with rfl | hk
        · exact absurd hx hn
        · exact hk
      obtain ⟨d1, i, d2, h1, h2, h3⟩ := first_not ord ⟨k, this, hn⟩
      exact ⟨x :: d1, i, d2, by rw [h1]; rfl, fun k hk => (List.mem_cons.1 hk).elim (fun e => e ▸ hx) (h2 k), h3⟩
    · exact ⟨[], x, ord, rfl, by simp, hx⟩

theorem wp_transfer {P : Program} {o : Oper} {q : QOp} {a c : Act} {w : World} {K : Value → World → Prop} {Q : Exit → Act → World → Prop} (he : execOp a.eval o = execOp c.eval q.oper)
    (h : q.oper.wp P c w (fun a' w' => ∃ v, a' = c.put q.dst v ∧ K v w') (fun _ _ _ => False)) : o.wp P a w (fun a' w' => ∃ u, a' = a.put o.dst u ∧ ∃ v, c.put q.dst u = c.put q.dst v ∧ K v w') Q := by
  unfold Oper.wp at *
  rw [he]
  generalize (execOp c.eval q.oper).run P w = r at *
  cases r with
  | ok n w' =>
    cases n <;> simp only [Oper.upon] at h ⊢
    case value u => obtain ⟨v, hv, hk⟩ := h; exact ⟨u, rfl, v, hv, hk⟩
    case skip => obtain ⟨v, hv, hk⟩ := h; exact ⟨undef, rfl, v, hv, hk⟩
    case defer d =>
      obtain ⟨v, hv, hk⟩ := h
      exfalso
      have := congrArg Act.defers hv
      cases hqd : q.dst <;> simp [Act.put, QOp.oper, hqd] at this
    case enter f args =>
      refine Calls.mono h fun e w'' h' => ?_
      cases e with
      | returned u => obtain ⟨v, hv, hk⟩ := h'; exact ⟨u, rfl, v, hv, hk⟩
      | panicked ch => exact h'.elim
      | outgrown => obtain ⟨_, _, hf⟩ := h'; exact hf.elim
    case row row args =>
      refine Rows.mono h fun u w'' h' => ?_
      obtain ⟨v, hv, hk⟩ := h'; exact ⟨u, rfl, v, hv, hk⟩
  | halt x w' => cases x <;> simp only [Oper.upon] at h

/-- all have come up: the real frame is the canonical one -/
theorem Inv.all (S : Static l A ms ord N) {P : Program} {X : Nat → Prop} {K : Act → World → Prop} {a0 a av : Act} {L : Nat → Prop} {w : World} {done rest : List Nat} {val : Nat → Value} (I : Inv P X l ms ord N K a0 L a w done rest val av)
    (hall : ∀ i, i < l.length → L i) : K a w := by
  have hlt : ∀ i ∈ ord, i < l.length := fun i hi => by
    obtain ⟨x, y, hxy⟩ := List.append_of_mem hi
    obtain ⟨o, ho, _⟩ := S.order x i y hxy
    exact (List.getElem?_eq_some_iff.1 ho).1
  have hrest : rest = [] := by
    cases rest with
    | nil => rfl
    | cons i rest =>
      exfalso
      have hnd := S.nodup
      rw [I.split, List.nodup_append] at hnd
      exact hnd.2.2 i (I.sub i (hall i (hlt i (by rw [I.split]; simp)))) i (by simp) rfl
  subst hrest
  have hK : K av w := I.seq
  have ht : a.tmps = av.tmps := by
    refine Array.ext_getElem? fun s => ?_
    by_cases hw : ∃ (j : Nat) (oj : Oper), l[j]? = some oj ∧ oj.dst = some s
    · obtain ⟨j, oj, hj, hjs⟩ := hw
      have hL := hall j (List.getElem?_eq_some_iff.1 hj).1
      rw [I.fa.hit j oj s hj hjs hL, I.fv.hit j oj s hj hjs (I.sub j hL)]
    · rw [I.fa.miss s fun k ok hk hks => absurd ⟨k, ok, hk, hks⟩ hw, I.fv.miss s fun k ok hk hks => absurd ⟨k, ok, hk, hks⟩ hw]
  have hd : a.defers = av.defers := I.fa.defers.trans I.fv.defers.symm
  obtain ⟨t, d⟩ := a
  obtain ⟨t', d'⟩ := av
  simp only at ht hd
  subst ht; subst hd
  exact hK

theorem region_any (S : Static l A ms ord N) {P : Program} {X : Nat → Prop} {K : Act → World → Prop} {Q : Exit → Act → World → Prop} (hQ : ∀ a w, K a w → Q .normal a w) {a0 : Act} :
    ∀ (fuel : Nat) (listed : Array Bool) (a : Act) (w : World) (U : List Nat), listed.size = l.length → U.Nodup → (∀ i, i ∈ U ↔ i < l.length ∧ listed.getD i false = false) → U.length ≤ fuel →
      (∃ done rest val av, Inv P X l ms ord N K a0 (fun i => listed.getD i false = true) a w done rest val av ∧ headEff l rest) → wpAny P .any l.toArray Q fuel listed a w := by
  intro fuel
  induction fuel with
  | zero =>
    intro listed a w U hsz hnd hU hlen hI
    obtain ⟨done, rest, val, av, I, _⟩ := hI
    have hU0 : U = [] := List.length_eq_zero_iff.1 (by omega)
    have hall : ∀ i, i < l.length → listed.getD i false = true := fun i hi => by
      cases h : listed.getD i false
      · have := (hU i).2 ⟨hi, h⟩; rw [hU0] at this; cases this
      · rfl
    refine ⟨?_, hQ _ _ (I.all S hall)⟩
    refine List.eq_nil_iff_forall_not_mem.2 fun i hi => ?_
    rw [mem_ready] at hi
    obtain ⟨h0, o, ho, _⟩ := hi
    have hlt : i < l.length := by
      have := (Array.getElem?_eq_some_iff.1 ho).1; simpa using this
    have h1 := hall i hlt
    have : i < listed.size := by omega
    simp [Array.getD, this] at h0 h1
    rw [h0] at h1; cases h1
  | succ fuel ih =>
    intro listed a w U hsz hnd hU hlen hI
    obtain ⟨done, rest, val, av, I, hh⟩ := hI
    have hgd : ∀ i, i < l.length → listed.getD i true = listed.getD i false := fun i hi => by
      have : i < listed.size := by omega
      simp [Array.getD, this]
    refine ⟨fun hr => hQ _ _ (I.all S fun i hi => ?_), fun i hi => ?_⟩
    · by_cases hn : ∃ k ∈ ord, ¬ listed.getD k false = true
      · exfalso
        obtain ⟨d1, j, d2, hsp, hd1, hj⟩ := first_not ord hn
        obtain ⟨o, ho, hpre, _⟩ := S.order d1 j d2 hsp
        have hjl : j < l.length := (List.getElem?_eq_some_iff.1 ho).1
        have : j ∈ Region.ready .any l.toArray listed := by
          rw [mem_ready]
          exact ⟨by rw [hgd j hjl]; simpa using hj, o, by simpa using ho, fun e he hb => hd1 _ (hpre e he hb)⟩
        rw [hr] at this; cases this
      · cases h : listed.getD i false
        · exact absurd ⟨i, S.cover i hi, by rw [h]; simp⟩ hn
        · rfl
    · rw [mem_ready] at hi
      obtain ⟨h0, o, ho', hpre⟩ := hi
      have ho : l[i]? = some o := by simpa using ho'
      have hil : i < l.length := (List.getElem?_eq_some_iff.1 ho).1
      have hLi : ¬ listed.getD i false = true := by rw [← hgd i hil, h0]; simp
      have hset : ∀ k, (listed.setIfInBounds i true).getD k false = true ↔ listed.getD k false = true ∨ k = i := fun k => by
        by_cases e : i = k
        · subst e
          have : i < listed.size := by omega
          simp [this]
        · have e' : k ≠ i := fun h => e h.symm
          simp [Array.getElem?_setIfInBounds_ne e, e']
      -- the rest of the way, whatever the step gave
      have next : ∀ (a1 : Act) (w1 : World), (∃ done rest val av, Inv P X l ms ord N K a0 (fun k => listed.getD k false = true ∨ k = i) a1 w1 done rest val av ∧ headEff l rest) →
          wpAny P .any l.toArray Q fuel (listed.setIfInBounds i true) a1 w1 := by
        intro a1 w1 hI1
        have himU : i ∈ U := (hU i).2 ⟨hil, by simpa using hLi⟩
        refine ih _ a1 w1 (U.erase i) (by simpa using hsz) (hnd.erase i) (fun k => ?_) (by rw [List.length_erase_of_mem himU]; omega) ?_
        · rw [hnd.mem_erase_iff, hU k]
          have := hset k
          cases hk : (listed.setIfInBounds i true).getD k false <;> cases hk' : listed.getD k false <;> simp_all
        · obtain ⟨d, r, v, b, hI2, hh2⟩ := hI1
          have hfun : (fun k => (listed.setIfInBounds i true).getD k false = true) = (fun k => listed.getD k false = true ∨ k = i) := funext fun k => propext (hset k)
          rw [hfun]
          exact ⟨d, r, v, b, hI2, hh2⟩
      have hclosed' : Closed l (fun k => listed.getD k false = true ∨ k = i) := by
        rintro k ok (hk | rfl) hok e he hb
        · exact .inl (I.closed k ok hk hok e he hb)
        · rw [ho] at hok; cases hok; exact .inl (hpre e he hb)
      unfold wpOp
      rw [ho']
      by_cases hid : i ∈ done
      · -- a quiet operation that the canonical order has already carried out
        obtain ⟨d1, d2, hsp⟩ := List.append_of_mem hid
        obtain ⟨o1, c, ho1, hfc, hq⟩ := I.quiet d1 i d2 hsp hLi
        rw [ho] at ho1; cases ho1
        have hag := agree S I.closed (by rw [I.split, hsp]; simp : ord = d1 ++ i :: (d2 ++ rest)) ho I.fa hfc hLi hpre
        have hws := wanted_same S (m := ms.contains i) ho hag
        have hex := exec_same (m := ms.contains i) (S.ok i o ho) hag
        have hput : FrameIs l N a0 val (fun k => listed.getD k false = true ∨ k = i) (a.put o.dst (val i)) :=
          (I.fa.put S ho (val i) hLi).congr (fun _ => Iff.rfl) fun k _ => by by_cases e : k = i <;> simp [e]
        have done' : Inv P X l ms ord N K a0 (fun k => listed.getD k false = true ∨ k = i) (a.put o.dst (val i)) w done rest val av :=
          ⟨I.split, fun k hk => hk.elim (I.sub k) (fun e => e ▸ hid), hclosed', fun k ok hk hok hc => .inl (I.effs k ok hk hok hc), I.seq, hput, I.fv, fun x k y hk hn => I.quiet x k y hk fun h => hn (.inl h)⟩
        simp only
        rcases hq with ⟨hw, hrun⟩ | ⟨hw, hv⟩
        · rw [if_pos (hws.trans hw)]
          refine .inl ?_
          have hr : (execOp a.eval o).run P w = .ok (.value (val i)) w := by
            rw [hex]
            rcases hrun with ⟨_, hrun⟩ | ⟨_, hrun⟩
            · exact hrun w
            · exact hrun w (RelX.refl _ _)
          unfold Oper.wp
          rw [hr]
          exact next _ _ ⟨done, rest, val, av, done', hh⟩
        · rw [if_neg (by rw [hws, hw]; simp), ← hv]
          exact next _ _ ⟨done, rest, val, av, done', hh⟩
      · -- the next one that may change the world
        have hir : i ∈ rest := by
          have := S.cover i hil
          rw [I.split] at this
          exact (List.mem_append.1 this).resolve_left hid
        cases rest with
        | nil => cases hir
        | cons j rest =>
          obtain ⟨oj, hoj, hcj⟩ := hh
          have hji : j = i := by
            by_cases e : i = j
            · exact e.symm
            · exfalso
              have him : i ∈ rest := (List.mem_cons.1 hir).resolve_left e
              obtain ⟨x, y, hxy⟩ := List.append_of_mem him
              obtain ⟨o2, ho2, _, heff, _⟩ := S.order (done ++ j :: x) i y (by rw [I.split, hxy]; simp)
              have hanc := heff j oj (by simp) hoj hcj
              have hLj := anc_of_preds S I.closed i o ho hpre j hanc
              have hjd := I.sub j hLj
              have hnd := S.nodup
              rw [I.split, List.nodup_append] at hnd
              exact hnd.2.2 j hjd j (by simp) rfl
          subst hji
          rw [ho] at hoj; cases hoj
          have hag := agree S I.closed I.split ho I.fa I.fv hLi hpre
          have hws := wanted_same S (m := ms.contains j) ho hag
          have hex := exec_same (m := ms.contains j) (S.ok j o ho) hag
          have hseq := I.seq
          simp only [compile, List.map_cons, seqW, getD_of ho] at hseq
          -- the new state, if the world has gone on to w1
          have fin : ∀ u w1, seqW P X K (compile l ms rest) (av.put o.dst u) w1 → (ms.contains j = true → RelX X w w1) →
              wpAny P .any l.toArray Q fuel (listed.setIfInBounds j true) (a.put o.dst u) w1 := by
            intro u w1 hs hB
            refine next _ _ (advance S rest (done ++ [j]) (fun k => if k = j then u else val k) (av.put o.dst u) ⟨by rw [I.split]; simp, ?_, hclosed', ?_, hs, ?_, ?_, ?_⟩)
            · rintro k (hk | rfl)
              · exact List.mem_append_left _ (I.sub k hk)
              · simp
            · intro k ok hk hok hc
              rcases List.mem_append.1 hk with hk | hk
              · exact .inl (I.effs k ok hk hok hc)
              · exact .inr (by simpa using hk)
            · exact I.fa.put S ho u hLi
            · exact (I.fv.put S ho u hid).congr (fun k => by simp) fun _ _ => rfl
            · intro d1 k d2 hk hn
              have hkj : k ≠ j := fun e => hn (.inr e)
              have hLk : ¬ listed.getD k false = true := fun h => hn (.inl h)
              -- k lies in done
              have hkd : ∃ as, done = d1 ++ k :: as := by
                rcases List.append_eq_append_iff.1 hk.symm with ⟨as, h1, h2⟩ | ⟨bs, h1, h2⟩
                · cases as with
                  | nil => exact absurd (by simpa using h2 : k = j ∧ d2 = []).1 hkj
                  | cons x as =>
                    obtain ⟨rfl, _⟩ : k = x ∧ d2 = as ++ [j] := by simpa using h2
                    exact ⟨as, h1⟩
                · cases bs with
                  | nil => exact absurd (by simpa [eq_comm] using h2 : k = j ∧ d2 = []).1 hkj
                  | cons x bs => have := congrArg List.length h2; simp at this
              obtain ⟨as, has⟩ := hkd
              obtain ⟨o', c, ho', hfc, hq⟩ := I.quiet d1 k as has hLk
              have hvn : ∀ m, m ∈ done → (if m = j then u else val m) = val m := fun m hm => if_neg (by rintro rfl; exact hid hm)
              have hkm : k ∈ done := by rw [has]; simp
              refine ⟨o', c, ho', hfc.congr (fun _ => Iff.rfl) fun m hm => hvn m (by rw [has]; exact List.mem_append_left _ hm), ?_⟩
              simp only [hvn k hkm]
              rcases hq with ⟨hw, ⟨hc, hrun⟩ | ⟨hc, hrun⟩⟩ | hq
              · exact .inl ⟨hw, .inl ⟨hc, hrun⟩⟩
              · refine .inl ⟨hw, .inr ⟨hc, fun w' hB' => hrun w' ?_⟩⟩
                have hms : ms.contains j = true := by
                  cases h : ms.contains j
                  · exfalso
                    obtain ⟨o2, ho2, _, _, hmono⟩ := S.order done j rest I.split
                    rw [ho] at ho2; cases ho2
                    have := hmono hcj h k o' hkm ho' hc
                    exact hLk (anc_of_preds S I.closed j o ho hpre k this)
                  · rfl
                have hB := hB hms
                exact hB.trans hB'
              · exact .inr hq
          simp only
          split at hseq
          · rename_i hw
            rw [if_pos (hws.trans hw)]
            refine .inl ?_
            have h0 : ¬ cls (mkQ l (ms.contains j) o).op = 0 := by show ¬ cls o.op = 0; omega
            have h1 : ¬ cls (mkQ l (ms.contains j) o).op = 1 := by show ¬ cls o.op = 1; omega
            rw [if_neg h0, if_neg h1] at hseq
            refine Oper.wp_mono (fun a1 w1 h => ?_) (wp_transfer (Q := Q) hex hseq)
            obtain ⟨u, rfl, v, huv, hB, hs⟩ := h
            refine fin u w1 ?_ hB
            have huv' : av.put o.dst u = av.put o.dst v := huv
            rw [huv']; exact hs
          · rename_i hw
            rw [if_neg (by rw [hws]; exact hw)]
            exact fin undef w hseq fun _ => RelX.refl _ _
end
end Go.Mine
