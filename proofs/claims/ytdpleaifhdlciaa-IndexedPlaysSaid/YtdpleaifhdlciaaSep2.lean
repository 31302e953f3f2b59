import Derived.Test.YtdpleaifhdlciaaSep
set_option linter.unusedVariables false
namespace Go.Mine
open Go.RowKit

/-! ### data whose cells are a plain function of them -/
class Enc {α : Type} (T : Ty α) (enc : outParam (α → List Value)) : Prop where
  R : ∀ w S cs x, T.R w S cs x ↔ cs = enc x
instance : Enc Ty.int fun x => [Value.int .i64 x] := ⟨fun _ _ _ _ => Iff.rfl⟩
instance : Enc Ty.bool fun x => [Value.bool x] := ⟨fun _ _ _ _ => Iff.rfl⟩
section
variable {α : Type} {T : Ty α} {enc : α → List Value} {w w1 : World} {lo : Nat} {S : Nat → Prop} {e g n cap : Nat} {xs : List α}
theorem Enc.any {S' : Nat → Prop} [hE : Enc T enc] : ∀ c u, T.R w S c u → T.R w S' c u := fun c u h => (hE.R _ _ _ _).2 ((hE.R _ _ _ _).1 h)
theorem Own.cellAt [Inhabited α] [hE : Enc T enc] (h : Own T w lo S e (.slice (some ⟨g, 0, none⟩) n cap) xs) (i j : Nat) (hi : i < xs.length) {v : Value} (hv : (enc (nth xs i))[j]? = some v) : w.cell? ⟨g, ix 0 i T.sz + j, none⟩ = some v := by
  obtain ⟨cells, hl, hrow, hR⟩ := h.row
  have hcl : ∀ c ∈ cells, c.length = T.sz := fun c hc => by
    obtain ⟨k, hk, rfl⟩ := List.getElem_of_mem hc
    exact T.len (hR k cells[k] (xs[k]'(by omega)) (by simp) (by simp))
  have hci : cells[i]? = some (cells[i]'(by omega)) := by simp [hl, hi]
  have hc := (hE.R _ _ _ _).1 (hR i _ _ hci (by simp : xs[i]? = some xs[i]))
  have h1 := hrow.cells (g := g) rfl (i * T.sz + j) v (flatten_get cells i j _ v hcl hci (by rw [hc, ← nth_eq hi]; exact hv))
  rw [ix_eq, Nat.zero_add]
  simpa [add_mk] using h1
theorem Own.el (h : Own T w lo S e (.slice (some ⟨g, 0, none⟩) n cap) xs) [Inhabited α] (i : Nat) (hi : i < xs.length) : El T w (fun k => S k ∨ lo ≤ k) g (ix 0 i T.sz) (nth xs i) := by
  obtain ⟨ad, cap', h1, _, _, _, h5⟩ := h.isSlice
  obtain ⟨b, off, h6, h7⟩ := h5 i hi
  subst h6
  cases h1
  rw [nth_eq hi]; exact h7
theorem Own.fixed (h : Own T w lo S e (.slice (some ⟨g, 0, none⟩) n cap) xs) : n = xs.length := by
  obtain ⟨cells, hl, ⟨_, hrow⟩, hR⟩ := h.row
  rcases hrow with ⟨h1, _⟩ | ⟨g', cap', cur, h1, _⟩
  · cases h1
  · cases h1; rfl
theorem Own.set [Inhabited α] [hE : Enc T enc] (h : Own T w lo S e (.slice (some ⟨g, 0, none⟩) n cap) xs) (i j : Nat) (hi : i < xs.length) (hj : j < T.sz) (u : Value) (x : α) (hx : enc x = (enc (nth xs i)).set j u)
    (hO : Only w w1 g) (hS : ∀ k, S k → k ≠ g) (hw : ∀ cs tt, Blk w g cs tt → Blk w1 g (cs.set (i * T.sz + j) u) tt) : Own T w1 lo S e (.slice (some ⟨g, 0, none⟩) n cap) (xs.set i x) := by
  exact h.setPart hE.R i j hi hj u x hx hw
end
/-! ### rows that may change: the headers in one part, the rows in another -/
def FamIn {α : Type} (T : Ty α) (e : TypeId) (vs : List Value) (xss : List (List α)) (w : World) : Prop :=
  vs.length = xss.length ∧ (∀ (i : Nat) (u : Value) (xs : List α), vs[i]? = some u → xss[i]? = some xs → Own T w 0 (fun _ => False) e u xs) ∧ ∀ (i j : Nat) (u u' : Value) (k : Nat), i ≠ j → vs[i]? = some u → vs[j]? = some u' → u.ownBlock = some k → u'.ownBlock ≠ some k
def HP.fam {α : Type} (T : Ty α) (e : TypeId) (vs : List Value) (xss : List (List α)) : HP := ⟨fun k => ∃ (i : Nat) (u : Value), vs[i]? = some u ∧ u.ownBlock = some k, fun _ => False, FamIn T e vs xss, fun {w w'} hk h => by
  refine ⟨h.1, fun i u xs hi hx => (h.2.1 i u xs hi hx).kept ⟨hk.size, fun k hs _ => hs.elim⟩ fun k hk2 => hk.block k (.inl ⟨i, u, hi, hk2⟩) ((h.2.1 i u xs hi hx).lt k hk2).2, h.2.2⟩⟩
theorem some_nth {α : Type} [Inhabited α] {l : List α} {i : Nat} (h : i < l.length) : l[i]? = some (nth l i) := by rw [nth_eq h]; simp [h]
section
variable {F R0 R : Nat → Prop} {w0 w w' : World} {cs : List HP} {α : Type} {T : Ty α} {e eo g cap : Nat} {vs junk : List Value} {xss : List (List α)} {v u u' : Value}
theorem Blk.rowAt (h : Blk w g (vs ++ junk) eo) {q : Nat} (hq : q < vs.length) : w.cell? ⟨g, ix 0 q 1, none⟩ = some (nth vs q) := by
  have e1 : ix 0 q 1 = q := by simp [ix]
  rw [e1]; exact h.cell (by rw [List.getElem?_append_left hq]; exact some_nth hq)
theorem Sep.famLen (h : Sep F R0 R w0 w cs) (i : Nat) (hi : cs[i]? = some (HP.fam T e vs xss)) : vs.length = xss.length := (show FamIn T e vs xss w from h.get i hi).1
theorem Sep.famOwn (h : Sep F R0 R w0 w cs) (i : Nat) (hi : cs[i]? = some (HP.fam T e vs xss)) (q : Nat) (hq : q < xss.length) : Own T w 0 (fun _ => False) e (nth vs q) (nth xss q) :=
  have hh : FamIn T e vs xss w := h.get i hi
  hh.2.1 q _ _ (some_nth (by rw [hh.1]; exact hq)) (some_nth hq)
theorem Sep.famReads (h : Sep F R0 R w0 w cs) (i : Nat) (hi : cs[i]? = some (HP.fam T e vs xss)) (q : Nat) (hq : q < xss.length) : IsSlice T w (fun k => R k ∨ (nth vs q).ownBlock = some k) (nth vs q) (nth xss q) :=
  (Own.reads (h.famOwn i hi q hq)).mono fun k hk _ => hk.imp (fun h => h.elim) fun h => h
/-- elements of a slice of one's own have changed -/
theorem Sep.putOwn {S : Nat → Prop} {n : Nat} {xs ys : List α} (h : Sep F R0 R w0 w cs) (i : Nat) (hi : cs[i]? = some (HP.own T S e (.slice (some ⟨g, 0, none⟩) n cap) xs)) (ho : Own T w' 0 S e (.slice (some ⟨g, 0, none⟩) n cap) ys) (hO : Only w w' g) :
    Sep F R0 R w0 w' (cs.set i (.own T S e (.slice (some ⟨g, 0, none⟩) n cap) ys)) :=
  h.set i hi (StepF.of_only hO rfl) ho (fun k hk => .inl hk) (fun k hk => h.dep _ (List.mem_of_getElem? hi) k hk)
theorem Sep.keptOwnO {S : Nat → Prop} {n : Nat} {xs : List α} (h : Sep F R0 R w0 w cs) (i : Nat) (hi : cs[i]? = some (HP.own T S e (.slice (some ⟨g, 0, none⟩) n cap) xs)) (hO : Only w w' g) : Kept R w w' := h.keptF i hi (StepF.of_only hO rfl)
theorem Sep.famNot (h : Sep F R0 R w0 w cs) (i j : Nat) (hi : cs[i]? = some (HP.fam T e vs xss)) {b : Nat} {c : List Value} {t : TypeId} (hj : cs[j]? = some (HP.blk b c t)) (hne : i ≠ j) (q : Nat) (hq : q < xss.length) : ¬ (nth vs q).ownBlock = some b := fun he =>
  h.apart i j hi hj hne b ⟨q, _, some_nth (by rw [h.famLen i hi]; exact hq), he⟩ rfl
/-- one row is another now -/
theorem Sep.famPut (h : Sep F R0 R w0 w cs) (i : Nat) (hi : cs[i]? = some (HP.fam T e vs xss)) (q : Nat) (hq : q < xss.length) {ys : List α} (hst : StepF (fun k => (nth vs q).ownBlock = some k) w w') (ho : Own T w' 0 (fun _ => False) e u' ys)
    (hn : ∀ k, u'.ownBlock = some k → (nth vs q).ownBlock = some k ∨ w.heap.size ≤ k) : Sep F R0 R w0 w' (cs.set i (.fam T e (vs.set q u') (xss.set q ys))) := by
  have hh : FamIn T e vs xss w := h.get i hi
  have hl : vs.length = xss.length := hh.1
  have hvq : vs[q]? = some (nth vs q) := some_nth (by omega)
  refine h.set i hi (hst.mono fun k hk => ⟨q, _, hvq, hk⟩) ⟨by simp [hl], fun j a xs hj hx => ?_, fun j j' a a' k hne hj hj' hk hk' => ?_⟩ (fun k hk => ?_) (fun k hk => hk.elim)
  · by_cases hjq : q = j
    · subst hjq
      rw [List.getElem?_set_self (by omega)] at hj hx
      cases hj; cases hx; exact ho
    · rw [List.getElem?_set_ne hjq] at hj hx
      have h1 := hh.2.1 j a xs hj hx
      exact h1.kept ⟨hst.size, fun k hs _ => hs.elim⟩ fun k hk => hst.same k (h1.lt k hk).2 fun he => hh.2.2 j q a _ k (Ne.symm hjq) hj hvq hk he
  · have hold : ∀ (j : Nat) (a : Value), vs[j]? = some a → a.ownBlock = some k → k < w.heap.size := fun j a hj hk => by
      have hlt := (List.getElem?_eq_some_iff.1 hj).1
      exact ((hh.2.1 j a _ hj (by rw [List.getElem?_eq_getElem (by omega)])).lt k hk).2
    by_cases hjq : q = j
    · subst hjq
      rw [List.getElem?_set_self (by omega)] at hj
      rw [List.getElem?_set_ne hne] at hj'
      cases hj
      rcases hn k hk with h1 | h1
      · exact hh.2.2 q j' _ a' k hne hvq hj' h1 hk'
      · have := hold j' a' hj' hk'; omega
    · rw [List.getElem?_set_ne hjq] at hj
      by_cases hjq' : q = j'
      · subst hjq'
        rw [List.getElem?_set_self (by omega)] at hj'
        cases hj'
        rcases hn k hk' with h1 | h1
        · exact hh.2.2 j q a _ k hne hj hvq hk h1
        · have := hold j a hj hk; omega
      · rw [List.getElem?_set_ne hjq'] at hj'
        exact hh.2.2 j j' a a' k hne hj hj' hk hk'
  · obtain ⟨j, a, hj, hk⟩ := hk
    by_cases hjq : q = j
    · subst hjq
      rw [List.getElem?_set_self (by omega)] at hj
      cases hj
      rcases hn k hk with h1 | h1
      · exact .inl ⟨q, _, hvq, h1⟩
      · exact .inr ⟨h1, (ho.lt k hk).2⟩
    · rw [List.getElem?_set_ne hjq] at hj
      exact .inl ⟨j, a, hj, hk⟩
theorem Sep.famSet (h : Sep F R0 R w0 w cs) (i : Nat) (hi : cs[i]? = some (HP.fam T e vs xss)) (q : Nat) (hq : q < xss.length) {ys : List α} {m : Nat} (ho : Own T w' 0 (fun _ => False) e u' ys) (hg : w.grownBy w' (nth vs q).ownBlock) (hn : NewRow w (nth vs q) u' m) :
    Sep F R0 R w0 w' (cs.set i (.fam T e (vs.set q u') (xss.set q ys))) := h.famPut i hi q hq (StepF.of_grown hg fun k hk => hk) ho hn.blk
theorem Sep.famKept (h : Sep F R0 R w0 w cs) (i : Nat) (hi : cs[i]? = some (HP.fam T e vs xss)) (q : Nat) (hq : q < xss.length) (hg : w.grownBy w' (nth vs q).ownBlock) : Kept R w w' :=
  h.keptF i hi (StepF.of_grown hg fun k hk => ⟨q, _, some_nth (by rw [h.famLen i hi]; exact hq), hk⟩)
theorem set_nth {α : Type} [Inhabited α] : ∀ {l : List α} {q : Nat}, l.set q (nth l q) = l
  | [], q => by simp
  | a :: l, 0 => by simp [nth]
  | a :: l, q + 1 => by
    have := set_nth (l := l) (q := q)
    rw [List.set_cons_succ, show nth (a :: l) (q + 1) = nth l q by simp [nth], this]
/-- a cell of a row -/
theorem Sep.famCell (h : Sep F R0 R w0 w cs) (i : Nat) (hi : cs[i]? = some (HP.fam T e vs xss)) (q : Nat) (hq : q < xss.length) {n gr cr : Nat} (hv : nth vs q = .slice (some ⟨gr, 0, none⟩) n cr) {ys : List α} (ho : Own T w' 0 (fun _ => False) e (.slice (some ⟨gr, 0, none⟩) n cr) ys) (hO : Only w w' gr) :
    Sep F R0 R w0 w' (cs.set i (.fam T e vs (xss.set q ys))) := by
  have := h.famPut i hi q hq (u' := nth vs q) (ys := ys) (StepF.of_only hO (by rw [hv]; rfl)) (by rw [hv]; exact ho) (fun k hk => .inl hk)
  rwa [set_nth] at this
/-- a new row -/
theorem Sep.famPush (h : Sep F R0 R w0 w cs) (i : Nat) (hi : cs[i]? = some (HP.fam T e vs xss)) (hB : Below w.heap.size w w') {ys : List α} (ho : Own T w' 0 (fun _ => False) e u' ys) (hn : ∀ k, u'.ownBlock = some k → w.heap.size ≤ k) :
    Sep F R0 R w0 w' (cs.set i (.fam T e (vs ++ [u']) (xss ++ [ys]))) := by
  have hh : FamIn T e vs xss w := h.get i hi
  have hl : vs.length = xss.length := hh.1
  have hold : ∀ (j : Nat) (a : Value) k, vs[j]? = some a → a.ownBlock = some k → k < w.heap.size := fun j a k hj hk => by
    have hlt := (List.getElem?_eq_some_iff.1 hj).1
    exact ((hh.2.1 j a _ hj (by rw [List.getElem?_eq_getElem (by omega)])).lt k hk).2
  have hsplit : ∀ (j : Nat) (a : Value), (vs ++ [u'])[j]? = some a → (vs[j]? = some a ∧ j < vs.length) ∨ (j = vs.length ∧ a = u') := fun j a hj => by
    rcases Nat.lt_or_ge j vs.length with h1 | h1
    · rw [List.getElem?_append_left h1] at hj; exact .inl ⟨hj, h1⟩
    · rw [List.getElem?_append_right h1] at hj
      have h2 := (List.getElem?_eq_some_iff.1 hj).1
      simp at h2
      have h3 : j - vs.length = 0 := by omega
      rw [h3] at hj; simp at hj
      exact .inr ⟨by omega, hj.symm⟩
  refine h.set i hi (StepF.of_below hB) ⟨by simp [hl], fun j a xs hj hx => ?_, fun j j' a a' k hne hj hj' hk hk' => ?_⟩ (fun k hk => ?_) (fun k hk => hk.elim)
  · rcases hsplit j a hj with ⟨h1, h2⟩ | ⟨h1, h2⟩
    · rw [List.getElem?_append_left (by omega)] at hx
      exact (hh.2.1 j a xs h1 hx).ext hB
    · subst h1; subst h2
      rw [hl, List.getElem?_append_right (Nat.le_refl _)] at hx
      simp at hx; subst hx; exact ho
  · rcases hsplit j a hj with ⟨h1, h2⟩ | ⟨h1, h2⟩ <;> rcases hsplit j' a' hj' with ⟨h3, h4⟩ | ⟨h3, h4⟩
    · exact hh.2.2 j j' a a' k hne h1 h3 hk hk'
    · subst h4; have := hold j a k h1 hk; have := hn k hk'; omega
    · subst h2; have := hold j' a' k h3 hk'; have := hn k hk; omega
    · omega
  · obtain ⟨j, a, hj, hk⟩ := hk
    rcases hsplit j a hj with ⟨h1, h2⟩ | ⟨h1, h2⟩
    · exact .inl ⟨j, a, h1, hk⟩
    · subst h2; exact .inr ⟨hn k hk, (ho.lt k hk).2⟩
theorem Sep.nilFam (h : Sep F R0 R w0 w cs) (T : Ty α) (e : TypeId) : Sep F R0 R w0 w (.fam T e [] [] :: cs) :=
  h.newNone ⟨rfl, fun i u xs hi => by simp at hi, fun i j u u' k hne hi => by simp at hi⟩ (fun k ⟨i, u, hi, _⟩ => by simp at hi) (fun k hk => hk.elim)
/-- the rows, read -/
theorem Sep.rowsSlice (h : Sep F R0 R w0 w cs) (i j : Nat) {n : Nat} (hi : cs[i]? = some (HP.blk g (vs ++ junk) eo)) (hj : cs[j]? = some (HP.fam T e vs xss)) (hn : n = xss.length) (hc : n ≤ cap) :
    IsSlice T.slice w (fun k => k = g ∨ ∃ (i : Nat) (u : Value), vs[i]? = some u ∧ u.ownBlock = some k) (.slice (some ⟨g, 0, none⟩) n cap) xss := by
  subst hn
  have hb := h.blk i hi
  have hh : FamIn T e vs xss w := h.get j hj
  have hl : vs.length = xss.length := hh.1
  refine ⟨_, cap, rfl, hc, fun h => (by cases h), fun a ha _ => (by cases ha; rfl), fun q hq => ⟨g, 0, rfl, .inl rfl, hb.lt, ?_⟩⟩
  have hv : vs[q]? = some (nth vs q) := some_nth (by omega)
  refine ⟨[nth vs q], fun k a hk => ?_, _, rfl, ?_⟩
  · cases k with
    | zero =>
      simp at hk; subst hk
      exact hb.rowAt (by omega)
    | succ k => simp at hk
  · have h1 := Own.reads (hh.2.1 q _ xss[q] hv (by simp))
    exact h1.mono fun k hk _ => .inr ⟨q, _, hv, hk.elim (fun h => h.elim) fun h => h⟩
end
section
variable {P : Program} {N : Nat} {X : Nat → Prop} {K : Env → World → Prop} {E : Env} {w : World} {t : TypeId} {m : Bool} {rest : List QOp} {sd : Nat}
/-- a header of a row is written -/
theorem q_storeRow {x y : Operand} {tt b q : Nat} {vs junk : List Value} {bt : TypeId} {u : Value} [TC : TCell P tt] (hx : ev E x = some (.pointer (some ⟨b, ix 0 q 1, none⟩))) (hy : ev E y = some u)
    (hb : Blk w b (vs ++ junk) bt) (hq : q < vs.length) (hu : oneV u = true) (hm : m = false) (h : ∀ w1, Blk w1 b (vs.set q u ++ junk) bt → Only w w1 b → eseq P N X K rest E w1) : eseq P N X K (⟨none, none, .store tt x y, t, m⟩ :: rest) E w := by
  have e1 : ix 0 q 1 = q := by simp [ix]
  refine q_store hx hy hb (by rw [e1]; simp; omega) hu rfl hm fun w1 h1 h2 => h w1 ?_ h2
  rw [e1, List.set_append_left _ _ hq] at h1; exact h1
/-- a cell of an element of a slice of one's own is written -/
theorem q_storeOwn {α : Type} [Inhabited α] {T : Ty α} {enc : α → List Value} [hE : Enc T enc] {x y : Operand} {tt g i j n cap e lo : Nat} {S : Nat → Prop} {xs : List α} {u : Value} [TC : TCell P tt] (hx : ev E x = some (.pointer (some ⟨g, ix 0 i T.sz + j, none⟩))) (hy : ev E y = some u)
    (ho : Own T w lo S e (.slice (some ⟨g, 0, none⟩) n cap) xs) (hi : i < xs.length) (hj : Nat.blt j T.sz = true) (hu : oneV u = true) (hm : m = false) (hS : ∀ k, S k → k ≠ g) (z : α) (hz : enc z = (enc (nth xs i)).set j u)
    (h : ∀ w1, Own T w1 lo S e (.slice (some ⟨g, 0, none⟩) n cap) (xs.set i z) → Only w w1 g → eseq P N X K rest E w1) : eseq P N X K (⟨none, none, .store tt x y, t, m⟩ :: rest) E w := by
  have hj' : j < T.sz := by simpa [Nat.blt_eq] using hj
  obtain ⟨hn, hc, cur, hb, hl⟩ := ho.blk
  have hlt : ix 0 i T.sz + j < cur.length := by
    rw [ix_eq, hl]
    have := Nat.mul_le_mul_right T.sz (show i + 1 ≤ cap by omega)
    rw [Nat.add_mul, Nat.one_mul] at this; omega
  refine q_store hx hy hb hlt hu rfl hm fun w1 h1 h2 => h w1 (ho.set i j hi hj' u z hz h2 hS fun cs tt hcs => ?_) h2
  have e1 : cs = cur ∧ tt = e := by unfold Blk at hcs hb; rw [hcs] at hb; simpa using hb
  obtain ⟨rfl, rfl⟩ := e1
  rw [ix_eq, Nat.zero_add] at h1; exact h1
end
/-- a cell as it is -/
def Ty.raw : Ty Value where
  sz := 1
  R _ _ cs v := cs = [v] ∧ oneV v = true
  len h := by obtain ⟨rfl, _⟩ := h; rfl
  one h v hv := by obtain ⟨rfl, h⟩ := h; simp at hv; subst hv; exact h
  kept _ h := h
  mono _ h := h
section
theorem flat_raw : ∀ (cells : List (List Value)) (vs : List Value), cells.length = vs.length → (∀ (i : Nat) (c : List Value) (x : Value), cells[i]? = some c → vs[i]? = some x → c = [x]) → cells.flatten = vs
  | [], [], _, _ => rfl
  | c :: cells, v :: vs, hl, h => by
    rw [List.flatten_cons, h 0 c v rfl rfl, flat_raw cells vs (by simpa using hl) fun i c x hc hx => h (i + 1) c x (by simpa using hc) (by simpa using hx)]; rfl
  | [], v :: vs, hl, _ => by simp at hl
  | c :: cells, [], hl, _ => by simp at hl
end
section
variable {F R0 R : Nat → Prop} {w0 w w' : World} {cs : List HP} {α : Type} {T : Ty α} {e : TypeId} {v : Value} {vs : List Value}
theorem Sep.nilOwn0 (h : Sep F R0 R w0 w cs) (T : Ty α) (e : TypeId) : Sep F R0 R w0 w (.own T (fun _ => False) e (.slice none 0 0) [] :: cs) :=
  h.newNone (Own.nil _ _ _ _ _) (fun k hk => by cases hk) (fun k hk => hk.elim)
theorem Sep.fresh (h : Sep (fun _ => False) R0 R w0 w cs) (i : Nat) {c : HP} (hi : cs[i]? = some c) : ∀ k, c.foot k → w0.heap.size ≤ k := fun k hk => by
  have := (h.foot c (List.mem_of_getElem? hi) k hk).2.1
  rcases Nat.lt_or_ge k w0.heap.size with h1 | h1
  · exact (this h1).elim
  · exact h1
instance : Inhabited HP := ⟨⟨fun _ => False, fun _ => False, fun _ => True, fun _ _ => trivial⟩⟩
theorem range_getD : ∀ (cs : List HP), (List.range cs.length).map (fun i => cs.getD i default) = cs := fun cs => by
  refine List.ext_getElem? fun i => ?_
  by_cases hi : i < cs.length
  · simp [hi, List.getD]
  · simp [hi]
/-- the parts in another order -/
theorem Sep.order (h : Sep F R0 R w0 w cs) (idx : List Nat) (n : Nat) (hn : cs.length = n) (hp : idx.isPerm (List.range n) = true) : Sep F R0 R w0 w (idx.map fun i => cs.getD i default) := by
  subst hn
  refine h.perm ?_
  have := (List.isPerm_iff.1 hp).map (fun i => cs.getD i default)
  rw [range_getD] at this
  exact this.symm
/-- headers of rows as a block -/
theorem Sep.rawBlk (h : Sep F R0 R w0 w cs) (i : Nat) (hi : cs[i]? = some (HP.own Ty.raw (fun _ => False) e v vs)) (hne : 0 < vs.length) : ∃ g cap junk, v = .slice (some ⟨g, 0, none⟩) vs.length cap ∧ vs.length ≤ cap ∧ Sep F R0 R w0 w (cs.set i (.blk g (vs ++ junk) e)) := by
  obtain ⟨cells, hl, ⟨hlen, hrow⟩, hR⟩ := (h.own i hi).row
  have hf := flat_raw cells vs hl fun i c x hc hx => (hR i c x hc hx).1
  rcases hrow with ⟨rfl, h0⟩ | ⟨g, cap, cur, rfl, _, h4, h5, h6, h7, h8⟩
  · omega
  · rw [hf] at h8
    have h9 : cur.toList.take vs.length = vs := by simpa [Ty.raw] using h8
    have h10 : vs ++ cur.toList.drop vs.length = cur.toList := by
      conv => rhs; rw [← List.take_append_drop vs.length cur.toList, h9]
    refine ⟨g, cap, cur.toList.drop vs.length, rfl, h5, h.set i hi (StepF.refl _ _) (c' := HP.blk g (vs ++ cur.toList.drop vs.length) e) (show Blk w g _ e by unfold Blk; rw [h10]; simpa using h4) (fun k hk => .inl ?_) (fun k hk => hk.elim)⟩
    have e1 : k = g := hk
    subst e1; rfl
/-- one result, in a variable -/
theorem resC1 {P : Program} {E : Env} {w : World} {fn : Func} {s : Nat} {tt : TypeId} {b n : Nat} {vs : List Value} [T : TAgg P tt n] (h : fn.results = #[.cell s tt]) (hs : Env.find E s = some (.pointer (some ⟨b, 0, none⟩))) (hc : CellsAt w b 0 vs) (hn : vs.length = n) :
    Res P fn E w (.agg vs.toArray) := fun a N d ha => by
  obtain ⟨de, h1, h2⟩ := T.under
  obtain ⟨inf, h3, h4⟩ := T.size
  have hA := run_isAgg h1 (w.atd d)
  rw [h2] at hA
  have hc' : CellsAt (w.atd d) b (0 + 0) vs := fun j v hj => hc j v hj
  have hl := run_loadCellsFrom (P := P) vs 0 #[] (w.atd d) hc'
  rw [hn, ← h4] at hl
  simp [results, h, ha.slot s _ hs, asAddr, loadVar, hA, run_size h3, loadCells, hl]
end
end Go.Mine
