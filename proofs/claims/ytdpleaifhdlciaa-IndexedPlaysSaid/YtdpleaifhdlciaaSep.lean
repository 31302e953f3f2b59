import Derived.Test.YtdpleaifhdlciaaFrame
set_option linter.unusedVariables false
namespace Go.Mine
open Go.RowKit

/-! ### parts of memory that may change, apart from one another; RO: the blocks that will not change any more -/
structure HP where
  foot : Nat → Prop
  dep : Nat → Prop
  holds : World → Prop
  loc : ∀ {w w' : World}, Kept (fun k => foot k ∨ dep k) w w' → holds w → holds w'
/-- old blocks outside F are As they were -/
structure StepF (F : Nat → Prop) (w w' : World) : Prop where
  os : w'.os = w.os
  tape : w'.tape = w.tape
  output : w'.output = w.output
  size : w.heap.size ≤ w'.heap.size
  same : ∀ k, k < w.heap.size → ¬ F k → w'.heap[k]? = w.heap[k]?
structure Sep (F R0 R : Nat → Prop) (w0 w : World) (cs : List HP) : Prop where
  step : StepF F w0 w
  ro : ∀ k, R k → k < w.heap.size
  ro0 : ∀ k, R0 k → R k
  ro1 : ∀ k, R k → R0 k ∨ F k ∨ w0.heap.size ≤ k
  holds : ∀ c ∈ cs, c.holds w
  foot : ∀ c ∈ cs, ∀ k, c.foot k → k < w.heap.size ∧ (k < w0.heap.size → F k) ∧ ¬ R k
  dep : ∀ c ∈ cs, ∀ k, c.dep k → R k
  disj : cs.Pairwise fun a b => ∀ k, a.foot k → ¬ b.foot k
theorem StepF.refl (F : Nat → Prop) (w : World) : StepF F w w := ⟨rfl, rfl, rfl, Nat.le_refl _, fun _ _ _ => rfl⟩
theorem StepF.trans {F : Nat → Prop} {a b c : World} {G : Nat → Prop} (h : StepF F a b) (k : StepF G b c) (hG : ∀ i, G i → i < a.heap.size → F i) : StepF F a c :=
  ⟨k.os.trans h.os, k.tape.trans h.tape, k.output.trans h.output, Nat.le_trans h.size k.size, fun i hi hn => (k.same i (Nat.lt_of_lt_of_le hi h.size) fun hg => hn (hG i hg hi)).trans (h.same i hi hn)⟩
theorem StepF.of_below {F : Nat → Prop} {w w' : World} (h : Below w.heap.size w w') : StepF F w w' := ⟨h.os, h.tape, h.output, h.size, fun k hk _ => h.block k hk⟩
theorem StepF.of_only {F : Nat → Prop} {b : Nat} {w w' : World} (h : Only w w' b) (hb : F b) : StepF F w w' := ⟨h.os, h.tape, h.output, h.size, fun k hk hn => h.block k hk fun e => hn (e ▸ hb)⟩
theorem StepF.of_grown {F : Nat → Prop} {row : Option Nat} {w w' : World} (h : w.grownBy w' row) (hb : ∀ k, row = some k → F k) : StepF F w w' := ⟨h.os, h.tape, h.output, h.size, fun k hk hn => h.block k hk fun e => hn (hb k e.symm)⟩
theorem StepF.below {w w' : World} (h : StepF (fun _ => False) w w') : Below w.heap.size w w' := ⟨h.os, h.tape, h.output, h.size, fun k hk => h.same k hk fun h => h⟩
theorem StepF.only {b : Nat} {w w' : World} (h : StepF (fun k => k = b) w w') : Only w w' b := ⟨h.os, h.tape, h.output, h.size, h.same⟩
theorem StepF.mono {F G : Nat → Prop} {w w' : World} (h : StepF F w w') (hF : ∀ k, F k → G k) : StepF G w w' := ⟨h.os, h.tape, h.output, h.size, fun k hk hn => h.same k hk fun hf => hn (hF k hf)⟩
section
variable {F R0 R : Nat → Prop} {w0 w w' : World} {cs As Ds : List HP}
theorem Sep.start (w : World) : Sep (fun _ => False) (fun k => k < w.heap.size) (fun k => k < w.heap.size) w w [] :=
  ⟨StepF.refl _ _, fun _ h => h, fun _ h => h, fun _ h => .inl h, fun _ h => (by cases h), fun _ h => (by cases h), fun _ h => (by cases h), List.Pairwise.nil⟩
theorem Sep.sizes (h : Sep F R0 R w0 w cs) : w0.heap.size ≤ w.heap.size := h.step.size
theorem Sep.get (h : Sep F R0 R w0 w cs) (i : Nat) {c : HP} (hi : cs[i]? = some c) : c.holds w := h.holds c (List.mem_of_getElem? hi)
theorem Sep.off (h : Sep F R0 R w0 w cs) (i : Nat) {c : HP} (hi : cs[i]? = some c) : ∀ k, R k → ¬ c.foot k := fun k hk hf => (h.foot c (List.mem_of_getElem? hi) k hf).2.2 hk
theorem Sep.depR (h : Sep F R0 R w0 w cs) (i : Nat) {c : HP} (hi : cs[i]? = some c) : ∀ k, c.dep k → R k := h.dep c (List.mem_of_getElem? hi)
theorem Sep.below (h : Sep F R0 R w0 w cs) (hB : Below w.heap.size w w') : Sep F R0 R w0 w' cs :=
  ⟨h.step.trans (StepF.of_below hB) (fun _ hf _ => hf), fun k hk => Nat.lt_of_lt_of_le (h.ro k hk) hB.size, h.ro0, h.ro1, fun c hc => c.loc ⟨hB.size, fun k _ hk => hB.block k hk⟩ (h.holds c hc),
    fun c hc k hk => ⟨Nat.lt_of_lt_of_le (h.foot c hc k hk).1 hB.size, (h.foot c hc k hk).2⟩, h.dep, h.disj⟩
theorem Sep.new (h : Sep F R0 R w0 w cs) (hB : Below w.heap.size w w') {c : HP} (hc : c.holds w') (hf : ∀ k, c.foot k → w.heap.size ≤ k ∧ k < w'.heap.size) (hd : ∀ k, c.dep k → R k) : Sep F R0 R w0 w' (c :: cs) := by
  have h' := h.below hB
  refine ⟨h'.step, h'.ro, h'.ro0, h'.ro1, fun c' hc' => ?_, fun c' hc' k hk => ?_, fun c' hc' k hk => ?_, List.pairwise_cons.2 ⟨fun c' hc' k hk hk' => ?_, h.disj⟩⟩
  · rcases List.mem_cons.1 hc' with rfl | hc'
    · exact hc
    · exact h'.holds c' hc'
  · rcases List.mem_cons.1 hc' with rfl | hc'
    · have h1 := hf k hk; have h2 := h.sizes
      exact ⟨h1.2, fun h3 => by omega, fun hr => by have := h.ro k hr; omega⟩
    · exact h'.foot c' hc' k hk
  · rcases List.mem_cons.1 hc' with rfl | hc'
    · exact hd k hk
    · exact h'.dep c' hc' k hk
  · have h1 := hf k hk; have h2 := (h.foot c' hc' k hk').1; omega
/-- a part that owns nothing yet -/
theorem Sep.newNone (h : Sep F R0 R w0 w cs) {c : HP} (hc : c.holds w) (hf : ∀ k, ¬ c.foot k) (hd : ∀ k, c.dep k → R k) : Sep F R0 R w0 w (c :: cs) :=
  h.new (Below.refl _ _) hc (fun k hk => absurd hk (hf k)) hd
theorem pw_set {P : HP → HP → Prop} (hs : ∀ a b, P a b → P b a) : ∀ {l : List HP} {i : Nat} {c : HP}, l.Pairwise P → (∀ (j : Nat) (d : HP), l[j]? = some d → j ≠ i → P c d) → (l.set i c).Pairwise P
  | [], _, _, _, _ => by simp
  | a :: l, 0, c, h, hc => by
    rw [List.set_cons_zero, List.pairwise_cons]
    obtain ⟨_, h2⟩ := List.pairwise_cons.1 h
    refine ⟨fun d hd => ?_, h2⟩
    obtain ⟨j, hj⟩ := List.mem_iff_getElem?.1 hd
    exact hc (j + 1) d (by simpa using hj) (by omega)
  | a :: l, i + 1, c, h, hc => by
    rw [List.set_cons_succ, List.pairwise_cons]
    obtain ⟨h1, h2⟩ := List.pairwise_cons.1 h
    refine ⟨fun d hd => ?_, pw_set hs h2 fun j d hj hne => hc (j + 1) d (by simpa using hj) (by omega)⟩
    rcases List.mem_or_eq_of_mem_set hd with hd | rfl
    · exact h1 d hd
    · exact hs _ _ (hc 0 a rfl (by omega))
theorem Sep.apart (h : Sep F R0 R w0 w cs) (i j : Nat) {c d : HP} (hi : cs[i]? = some c) (hj : cs[j]? = some d) (hne : i ≠ j) : ∀ k, c.foot k → ¬ d.foot k := by
  have key := List.pairwise_iff_getElem.1 h.disj
  obtain ⟨hi1, hi2⟩ := List.getElem?_eq_some_iff.1 hi
  obtain ⟨hj1, hj2⟩ := List.getElem?_eq_some_iff.1 hj
  subst hi2; subst hj2
  rcases Nat.lt_or_ge i j with hlt | hge
  · exact key i j hi1 hj1 hlt
  · exact fun k hk hk' => key j i hj1 hi1 (by omega) k hk' hk
theorem Sep.keptF (h : Sep F R0 R w0 w cs) (i : Nat) {c : HP} (hi : cs[i]? = some c) (hst : StepF c.foot w w') : Kept R w w' :=
  ⟨hst.size, fun k hk hk2 => hst.same k hk2 fun hf => (h.foot c (List.mem_of_getElem? hi) k hf).2.2 hk⟩
theorem Sep.set (h : Sep F R0 R w0 w cs) (i : Nat) {c : HP} (hi : cs[i]? = some c) {c' : HP} (hst : StepF c.foot w w') (hc : c'.holds w') (hf : ∀ k, c'.foot k → c.foot k ∨ (w.heap.size ≤ k ∧ k < w'.heap.size)) (hd : ∀ k, c'.dep k → R k) : Sep F R0 R w0 w' (cs.set i c') := by
  have hcm := List.mem_of_getElem? hi
  have hfoot : ∀ k, c'.foot k → k < w'.heap.size ∧ (k < w0.heap.size → F k) ∧ ¬ R k := fun k hk => by
    rcases hf k hk with h1 | h1
    · have h2 := h.foot c hcm k h1
      exact ⟨Nat.lt_of_lt_of_le h2.1 hst.size, h2.2⟩
    · have h2 := h.sizes
      exact ⟨h1.2, fun h3 => by omega, fun hr => by have := h.ro k hr; omega⟩
  refine ⟨h.step.trans hst fun k hk hk2 => (h.foot c hcm k hk).2.1 hk2, fun k hk => Nat.lt_of_lt_of_le (h.ro k hk) hst.size, h.ro0, h.ro1, fun d hd2 => ?_, fun d hd2 k hk => ?_, fun d hd2 k hk => ?_, pw_set (fun a b hab k hb ha => hab k ha hb) h.disj fun j d hj hne k hk hk' => ?_⟩
  · obtain ⟨j, hj⟩ := List.mem_iff_getElem?.1 hd2
    by_cases hji : j = i
    · subst hji
      rw [List.getElem?_set_self (List.getElem?_eq_some_iff.1 hi).1] at hj
      cases hj; exact hc
    · rw [List.getElem?_set_ne (Ne.symm hji)] at hj
      refine d.loc ⟨hst.size, fun k hk hk2 => hst.same k hk2 fun hf => ?_⟩ (h.get j hj)
      rcases hk with hk | hk
      · exact h.apart j i hj hi hji k hk hf
      · exact (h.foot c hcm k hf).2.2 (h.dep d (List.mem_of_getElem? hj) k hk)
  · rcases List.mem_or_eq_of_mem_set hd2 with hd2 | rfl
    · have h2 := h.foot d hd2 k hk
      exact ⟨Nat.lt_of_lt_of_le h2.1 hst.size, h2.2⟩
    · exact hfoot k hk
  · rcases List.mem_or_eq_of_mem_set hd2 with hd2 | rfl
    · exact h.dep d hd2 k hk
    · exact hd k hk
  · rcases hf k hk with h1 | h1
    · exact h.apart i j hi hj (Ne.symm hne) k h1 hk'
    · have := (h.foot d (List.mem_of_getElem? hj) k hk').1; omega
theorem Sep.perm {cs' : List HP} (h : Sep F R0 R w0 w cs) (hp : cs.Perm cs') : Sep F R0 R w0 w cs' :=
  ⟨h.step, h.ro, h.ro0, h.ro1, fun c hc => h.holds c (hp.mem_iff.2 hc), fun c hc => h.foot c (hp.mem_iff.2 hc), fun c hc => h.dep c (hp.mem_iff.2 hc), (hp.pairwise_iff (fun {a b} hab k hb ha => hab k ha hb)).1 h.disj⟩
theorem perm_front : ∀ {l : List HP} (i : Nat) {c : HP}, l[i]? = some c → l.Perm (c :: l.eraseIdx i)
  | [], i, c, h => by simp at h
  | a :: l, 0, c, h => by simp at h; subst h; exact List.Perm.refl _
  | a :: l, i + 1, c, h => by
    rw [List.eraseIdx_cons_succ]
    exact ((perm_front i (by simpa using h)).cons a).trans (List.Perm.swap _ _ _)
theorem Sep.front (h : Sep F R0 R w0 w cs) (i : Nat) {c : HP} (hi : cs[i]? = some c) : Sep F R0 R w0 w (c :: cs.eraseIdx i) := h.perm (perm_front i hi)
theorem Sep.tail {c : HP} (h : Sep F R0 R w0 w (c :: cs)) : Sep F R0 R w0 w cs :=
  ⟨h.step, h.ro, h.ro0, h.ro1, fun d hd => h.holds d (by simp [hd]), fun d hd => h.foot d (by simp [hd]), fun d hd => h.dep d (by simp [hd]), (List.pairwise_cons.1 h.disj).2⟩
theorem Sep.erase (h : Sep F R0 R w0 w cs) (i : Nat) {c : HP} (hi : cs[i]? = some c) : Sep F R0 R w0 w (cs.eraseIdx i) := (h.front i hi).tail
/-- a part will not change any more -/
theorem Sep.freeze1 {c : HP} (h : Sep F R0 R w0 w (c :: cs)) : Sep F R0 (fun k => R k ∨ c.foot k) w0 w cs := by
  obtain ⟨h1, h2⟩ := List.pairwise_cons.1 h.disj
  refine ⟨h.step, fun k hk => ?_, fun k hk => .inl (h.ro0 k hk), fun k hk => ?_, fun d hd => h.holds d (by simp [hd]), fun d hd k hk => ?_, fun d hd k hk => .inl (h.dep d (by simp [hd]) k hk), h2⟩
  · rcases hk with hk | hk
    · exact h.ro k hk
    · exact (h.foot c (by simp) k hk).1
  · rcases hk with hk | hk
    · exact h.ro1 k hk
    · have := (h.foot c (by simp) k hk).2.1
      rcases Nat.lt_or_ge k w0.heap.size with hlt | hge
      · exact .inr (.inl (this hlt))
      · exact .inr (.inr hge)
  · have h3 := h.foot d (by simp [hd]) k hk
    refine ⟨h3.1, h3.2.1, fun hr => ?_⟩
    rcases hr with hr | hr
    · exact h3.2.2 hr
    · exact h1 d hd k hr hk
theorem Sep.freeze (h : Sep F R0 R w0 w cs) (i : Nat) {c : HP} (hi : cs[i]? = some c) : Sep F R0 (fun k => R k ∨ c.foot k) w0 w (cs.eraseIdx i) := (h.front i hi).freeze1
/-- new blocks that will not change any more -/
theorem Sep.grow (h : Sep F R0 R w0 w cs) (hB : Below w.heap.size w w') : Sep F R0 (fun k => R k ∨ (w.heap.size ≤ k ∧ k < w'.heap.size)) w0 w' cs := by
  have h' := h.below hB
  refine ⟨h'.step, fun k hk => ?_, fun k hk => .inl (h.ro0 k hk), fun k hk => ?_, h'.holds, fun d hd k hk => ?_, fun d hd k hk => .inl (h.dep d hd k hk), h.disj⟩
  · rcases hk with hk | hk
    · exact h'.ro k hk
    · exact hk.2
  · rcases hk with hk | hk
    · exact h.ro1 k hk
    · have := h.sizes; exact .inr (.inr (by omega))
  · have h3 := h'.foot d hd k hk
    refine ⟨h3.1, h3.2.1, fun hr => ?_⟩
    rcases hr with hr | hr
    · exact h3.2.2 hr
    · have := (h.foot d hd k hk).1; omega
/-! calls -/
def feet (As : List HP) : Nat → Prop := fun k => ∃ c ∈ As, c.foot k
theorem Sep.enter (h : Sep F R0 R w0 w (As ++ Ds)) : Sep (feet As) R R w w As :=
  ⟨StepF.refl _ _, h.ro, fun _ hk => hk, fun _ hk => .inl hk, fun c hc => h.holds c (by simp [hc]), fun c hc k hk => have h1 := h.foot c (by simp [hc]) k hk; ⟨h1.1, fun _ => ⟨c, hc, hk⟩, h1.2.2⟩, fun c hc => h.dep c (by simp [hc]), (List.pairwise_append.1 h.disj).1⟩
theorem Sep.left (h : Sep F R0 R w0 w (As ++ Ds)) : Sep F R0 R w0 w As :=
  ⟨h.step, h.ro, h.ro0, h.ro1, fun c hc => h.holds c (by simp [hc]), fun c hc => h.foot c (by simp [hc]), fun c hc => h.dep c (by simp [hc]), (List.pairwise_append.1 h.disj).1⟩
theorem Sep.leave {R1 : Nat → Prop} {As' : List HP} (h : Sep F R0 R w0 w (As ++ Ds)) (hc : Sep (feet As) R R1 w w' As') : Sep F R0 R1 w0 w' (As' ++ Ds) := by
  obtain ⟨h1, h2, h3⟩ := List.pairwise_append.1 h.disj
  have hno : ∀ d ∈ Ds, ∀ k, d.foot k → k < w.heap.size ∧ ¬ feet As k := fun d hd k hk => ⟨(h.foot d (by simp [hd]) k hk).1, fun ⟨a, ha, hka⟩ => h3 a ha d hd k hka hk⟩
  refine ⟨h.step.trans hc.step fun k ⟨a, ha, hk⟩ hk2 => (h.foot a (by simp [ha]) k hk).2.1 hk2, hc.ro, fun k hk => hc.ro0 k (h.ro0 k hk), fun k hk => ?_, fun c hcm => ?_, fun c hcm k hk => ?_, fun c hcm k hk => ?_, List.pairwise_append.2 ⟨hc.disj, h2, fun a ha d hd k hk hk' => ?_⟩⟩
  · rcases hc.ro1 k hk with h4 | ⟨a, ha, h4⟩ | h4
    · exact h.ro1 k h4
    · have := (h.foot a (by simp [ha]) k h4).2.1
      rcases Nat.lt_or_ge k w0.heap.size with hlt | hge
      · exact .inr (.inl (this hlt))
      · exact .inr (.inr hge)
    · have := h.sizes; exact .inr (.inr (by omega))
  · rcases List.mem_append.1 hcm with hcm | hcm
    · exact hc.holds c hcm
    · refine c.loc ⟨hc.step.size, fun k hk hk2 => hc.step.same k hk2 fun ⟨a, ha, hka⟩ => ?_⟩ (h.holds c (by simp [hcm]))
      rcases hk with hk | hk
      · exact h3 a ha c hcm k hka hk
      · exact (h.foot a (by simp [ha]) k hka).2.2 (h.dep c (by simp [hcm]) k hk)
  · rcases List.mem_append.1 hcm with hcm | hcm
    · have h4 := hc.foot c hcm k hk
      refine ⟨h4.1, fun hlt => ?_, h4.2.2⟩
      obtain ⟨a, ha, hka⟩ := h4.2.1 (by have := h.sizes; omega)
      exact (h.foot a (by simp [ha]) k hka).2.1 hlt
    · have h4 := h.foot c (by simp [hcm]) k hk
      refine ⟨Nat.lt_of_lt_of_le h4.1 hc.step.size, h4.2.1, fun hr => ?_⟩
      rcases hc.ro1 k hr with h5 | h5 | h5
      · exact h4.2.2 h5
      · exact (hno c hcm k hk).2 h5
      · have := (hno c hcm k hk).1; omega
  · rcases List.mem_append.1 hcm with hcm | hcm
    · exact hc.dep c hcm k hk
    · exact hc.ro0 k (h.dep c (by simp [hcm]) k hk)
  · have h4 := hno d hd k hk'
    rcases Nat.lt_or_ge k w.heap.size with hlt | hge
    · exact h4.2 ((hc.foot a ha k hk).2.1 hlt)
    · omega
/-- what is read-only stays so over a call that changes F -/
theorem Sep.keptR {R1 : Nat → Prop} {As' : List HP} (hro : ∀ k, R k → ¬ F k) (hc : Sep F R R1 w w' As') : Kept R w w' := ⟨hc.step.size, fun k hk hk2 => hc.step.same k hk2 (hro k hk)⟩
theorem Sep.offFeet (h : Sep F R0 R w0 w (As ++ Ds)) : ∀ k, R k → ¬ feet As k := fun k hk ⟨a, ha, hka⟩ => (h.foot a (by simp [ha]) k hka).2.2 hk

/-! ### kinds of parts -/
def HP.blk (b : Nat) (cs : List Value) (t : TypeId) : HP := ⟨fun k => k = b, fun _ => False, fun w => Blk w b cs t, fun {w w'} hk h => by
  unfold Blk at *; rw [hk.block b (.inl rfl) (Array.getElem?_eq_some_iff.1 h).1]; exact h⟩
def HP.own {α : Type} (T : Ty α) (S : Nat → Prop) (e : TypeId) (v : Value) (xs : List α) : HP := ⟨fun k => v.ownBlock = some k, S, fun w => Own T w 0 S e v xs, fun {w w'} hk h =>
  h.kept ⟨hk.size, fun k hs hl => hk.block k (.inr hs) hl⟩ fun k hk2 => hk.block k (.inl hk2) (h.lt k hk2).2⟩
theorem Sep.blk (h : Sep F R0 R w0 w cs) (i : Nat) {b : Nat} {c : List Value} {t : TypeId} (hi : cs[i]? = some (HP.blk b c t)) : Blk w b c t := h.get i hi
theorem Sep.own (h : Sep F R0 R w0 w cs) (i : Nat) {α : Type} {T : Ty α} {S : Nat → Prop} {e : TypeId} {v : Value} {xs : List α} (hi : cs[i]? = some (HP.own T S e v xs)) : Own T w 0 S e v xs := h.get i hi
theorem Sep.newBlk (h : Sep F R0 R w0 w cs) (hB : Below w.heap.size w w') {b : Nat} {c : List Value} {t : TypeId} (hg : w.heap.size ≤ b) (hb : Blk w' b c t) : Sep F R0 R w0 w' (.blk b c t :: cs) :=
  h.new hB hb (fun k hk => by have e : k = b := hk; subst e; exact ⟨hg, hb.lt⟩) (fun k hk => hk.elim)
theorem Sep.setBlk (h : Sep F R0 R w0 w cs) (i : Nat) {b : Nat} {c c' : List Value} {t t' : TypeId} (hi : cs[i]? = some (HP.blk b c t)) (hb : Blk w' b c' t') (hO : Only w w' b) : Sep F R0 R w0 w' (cs.set i (.blk b c' t')) :=
  h.set i hi (StepF.of_only hO rfl) hb (fun k hk => .inl hk) (fun k hk => hk.elim)
theorem Sep.keptBlk (h : Sep F R0 R w0 w cs) (i : Nat) {b : Nat} {c : List Value} {t : TypeId} (hi : cs[i]? = some (HP.blk b c t)) (hO : Only w w' b) : Kept R w w' := h.keptF i hi (StepF.of_only hO rfl)
variable {α : Type} {T : Ty α} {S S' : Nat → Prop} {e : TypeId} {v v' : Value} {xs ys : List α}
theorem Sep.nilOwn (h : Sep F R0 R w0 w cs) (T : Ty α) (e : TypeId) : Sep F R0 R w0 w (.own T R e (.slice none 0 0) [] :: cs) :=
  h.newNone (Own.nil _ _ _ _ _) (fun k hk => by cases hk) (fun k hk => hk)
theorem Own.monoS (h : Own T w 0 S e v xs) (hs : ∀ k, S k → S' k) : Own T w 0 S' e v xs := by
  obtain ⟨cells, hl, h1, h2⟩ := h.row
  exact ⟨cells, hl, h1, fun i c x hc hx => T.mono (fun k hk _ => ⟨hs k hk.1, hk.2⟩) (h2 i c x hc hx)⟩
theorem Sep.ownMono (h : Sep F R0 R w0 w cs) (i : Nat) (hi : cs[i]? = some (HP.own T S e v xs)) : Sep F R0 R w0 w (cs.set i (.own T R e v xs)) :=
  h.set i hi (StepF.refl _ _) (Own.monoS (h.own i hi) fun k hk => h.dep _ (List.mem_of_getElem? hi) k hk) (fun k hk => .inl hk) (fun k hk => hk)
theorem Sep.setOwn (h : Sep F R0 R w0 w cs) (i : Nat) (hi : cs[i]? = some (HP.own T S e v xs)) {n : Nat} (ho : Own T w' 0 S e v' ys) (hg : w.grownBy w' v.ownBlock) (hn : NewRow w v v' n) : Sep F R0 R w0 w' (cs.set i (.own T S e v' ys)) :=
  h.set i hi (StepF.of_grown hg fun k hk => hk) ho (fun k hk => (hn.blk k hk).imp (fun h => h) fun h1 => ⟨h1, (ho.lt k hk).2⟩) (fun k hk => h.dep _ (List.mem_of_getElem? hi) k hk)
theorem Sep.keptOwn (h : Sep F R0 R w0 w cs) (i : Nat) (hi : cs[i]? = some (HP.own T S e v xs)) (hg : w.grownBy w' v.ownBlock) : Kept R w w' := h.keptF i hi (StepF.of_grown hg fun k hk => hk)
/-- a part of one's own, read -/
theorem Own.reads (h : Own T w 0 S e v xs) : IsSlice T w (fun k => S k ∨ v.ownBlock = some k) v xs := by
  obtain ⟨cells, hl, ⟨hlen, h1⟩, h2⟩ := h.row
  have h' := h.isSlice
  obtain ⟨ad, cap, h3, h4, h5, h6, h7⟩ := h'
  refine ⟨ad, cap, h3, h4, h5, h6, fun i hi => ?_⟩
  obtain ⟨b, off, he, hE⟩ := h7 i hi
  subst he
  rcases h1 with ⟨rfl, h0⟩ | ⟨g, cap', cur, rfl, _⟩
  · exact absurd h3 (by simp)
  · simp only [Value.slice.injEq, Option.some.injEq, Addr.mk.injEq] at h3
    obtain ⟨⟨rfl, rfl, _⟩, _⟩ := h3
    obtain ⟨_, hlt, cs, hcs, hR⟩ := hE
    have hcl : ∀ c ∈ cells, c.length = T.sz := fun c hc => by
      obtain ⟨j, hj, rfl⟩ := List.getElem_of_mem hc
      exact T.len (h2 j cells[j] (xs[j]'(by omega)) (by simp) (by simp))
    have hci : cells[i]? = some (cells[i]'(by omega)) := by simp [hl, hi]
    have hRi := h2 i _ _ hci (by simp : xs[i]? = some xs[i])
    refine ⟨_, _, rfl, .inr rfl, hlt, cells[i]'(by omega), fun j u hj => ?_, T.mono (fun k hk _ => .inl hk.1) hRi⟩
    have hjl : j < T.sz := by have h9 := hcl (cells[i]'(by omega)) (List.getElem_mem _); rw [← h9]; exact (List.getElem?_eq_some_iff.1 hj).1
    have hrow : Own T w 0 S e _ xs := h
    obtain ⟨cells', hl', ⟨_, h1'⟩, _⟩ := hrow.row
    have hg : w.ownsRow 0 e T.sz (.slice (some ⟨g, 0, none⟩) xs.length cap') xs.length cells.flatten := ⟨hlen, .inr ⟨g, cap', cur, rfl, by assumption⟩⟩
    have := hg.cells (g := g) rfl (i * T.sz + j) u (flatten_get cells i j _ u hcl hci hj)
    rw [ix_eq, Nat.zero_add]
    simpa [add_mk] using this
theorem Sep.isl (h : Sep F R0 R w0 w cs) (i : Nat) (hi : cs[i]? = some (HP.own T S e v xs)) : IsSlice T w (fun k => R k ∨ v.ownBlock = some k) v xs :=
  (Own.reads (h.own i hi)).mono fun k hk _ => hk.imp (fun hs => h.dep _ (List.mem_of_getElem? hi) k hs) fun h => h
theorem Sep.jsl (h : Sep F R0 R w0 w cs) (i : Nat) {g : Nat} {e : TypeId} {xs : List Int} (hi : cs[i]? = some (HP.blk g (xs.map encI) e)) : IsSlice Ty.int w (fun k => R k ∨ k = g) (.slice (some ⟨g, 0, none⟩) xs.length xs.length) xs := (h.blk i hi).ints (.inr rfl) (Nat.le_refl _)
theorem Sep.growO (h : Sep F R0 R w0 w cs) (hB : Below w.heap.size w w') : ∃ R', Sep F R0 R' w0 w' cs ∧ (∀ k, R k → R' k) ∧ ∀ k, w.heap.size ≤ k → k < w'.heap.size → R' k :=
  ⟨_, h.grow hB, fun k hk => .inl hk, fun k h1 h2 => .inr ⟨h1, h2⟩⟩
theorem Sep.freezeO (h : Sep F R0 R w0 w cs) (i : Nat) {c : HP} (hi : cs[i]? = some c) : ∃ R', Sep F R0 R' w0 w (cs.eraseIdx i) ∧ (∀ k, R k → R' k) ∧ ∀ k, c.foot k → R' k :=
  ⟨_, h.freeze i hi, fun k hk => .inl hk, fun k hk => .inr hk⟩
end
section
variable {α : Type} {T : Ty α} {w : World} {e : TypeId} {lo : Nat} {v : Value} {xs : List α}
/-- a row of its own that lies whole -/
theorem Own.ofBlk {b n : Nat} {xs : List α} {cells : List (List Value)} (hb : Blk w b cells.flatten e) (hn : n = xs.length) (hm : n ≤ 1000000000) (hl : cells.length = xs.length) (hR : ∀ (i : Nat) (c : List Value) (x : α), cells[i]? = some c → xs[i]? = some x → T.R w (fun _ => False) c x) :
    Own T w 0 (fun _ => False) e (.slice (some ⟨b, 0, none⟩) n n) xs := by
  subst hn
  have hcl : ∀ c ∈ cells, c.length = T.sz := fun c hc => by
    obtain ⟨j, hj, rfl⟩ := List.getElem_of_mem hc
    exact T.len (hR j cells[j] (xs[j]'(by omega)) (by simp) (by simp))
  have hfl : cells.flatten.length = xs.length * T.sz := by
    rw [← hl]; clear hR hb hl hm
    induction cells with
    | nil => simp
    | cons c cs ih => simp [hcl c (by simp), ih fun c hc => hcl c (by simp [hc]), Nat.add_mul]; omega
  refine ⟨cells, hl, ⟨hfl, .inr ⟨b, xs.length, cells.flatten.toArray, rfl, Nat.zero_le _, hb, Nat.le_refl _, by unfold maxLen; omega, by simpa using hfl, ?_⟩⟩, fun i c x hc hx => T.mono (fun _ h _ => h.elim) (hR i c x hc hx)⟩
  rw [← hfl]; exact List.take_length
theorem Own.oneInt {b : Nat} {x : Int} (hb : Blk w b [.int .i64 x] e) : Own Ty.int w 0 (fun _ => False) e (.slice (some ⟨b, 0, none⟩) 1 1) [x] :=
  Own.ofBlk (cells := [[.int .i64 x]]) hb rfl (by decide) rfl fun i c y hc hy => by
    cases i with
    | zero => simp at hc hy; subst hc; subst hy; rfl
    | succ i => simp at hc
theorem Own.oneBool {b : Nat} {x : Bool} (hb : Blk w b [.bool x] e) : Own Ty.bool w 0 (fun _ => False) e (.slice (some ⟨b, 0, none⟩) 1 1) [x] :=
  Own.ofBlk (cells := [[.bool x]]) hb rfl (by decide) rfl fun i c y hc hy => by
    cases i with
    | zero => simp at hc hy; subst hc; subst hy; rfl
    | succ i => simp at hc
theorem Own.raise {S : Nat → Prop} (h : Own T w 0 S e v xs) (hv : ∀ k, v.ownBlock = some k → lo ≤ k) : Own T w lo S e v xs := by
  obtain ⟨cells, hl, ⟨h1, h2⟩, h3⟩ := h.row
  refine ⟨cells, hl, ⟨h1, ?_⟩, h3⟩
  rcases h2 with h2 | ⟨g, cap, cur, rfl, h4, h5⟩
  · exact .inl h2
  · exact .inr ⟨g, cap, cur, rfl, hv g rfl, h5⟩
end
theorem Blk.lits {α : Type} {T : Ty α} {w : World} {b : Nat} {cs : List Value} {e : TypeId} {enc : α → List Value} (hR : ∀ w S cs x, T.R w S cs x ↔ cs = enc x) (h : Blk w b cs e) (xs : List α) (hx : (xs.map enc).flatten = cs) (hm : xs.length ≤ 1000000000) :
    IsSlice T w (fun k => b = k) (.slice (some ⟨b, 0, none⟩) xs.length xs.length) xs := by
  subst hx
  have ho : Own T w b (fun _ => False) e (.slice (some ⟨b, 0, none⟩) xs.length xs.length) xs := Own.raise (Own.ofBlk h rfl hm (by simp) fun i c x hc hx => by
    simp at hc; obtain ⟨a, h1, rfl⟩ := hc; rw [h1] at hx; cases hx; exact (hR _ _ _ _).2 rfl) fun k hk => by cases hk; exact Nat.le_refl _
  obtain ⟨ad, cap, h1, h2, h3, h4, h5⟩ := ho.isSlice
  cases h1
  refine ⟨_, _, rfl, h2, h3, h4, fun i hi => ?_⟩
  obtain ⟨b', o', h6, h7, h8, cs', h9, h10⟩ := h5 i hi
  cases h6
  exact ⟨_, _, rfl, rfl, h8, cs', h9, (hR _ _ _ _).2 ((hR _ _ _ _).1 h10)⟩
theorem intR' : ∀ w S cs x, Ty.int.R w S cs x ↔ cs = [Value.int .i64 x] := fun _ _ _ _ => Iff.rfl
/-- a literal of rows -/
theorem Blk.rows2 {w : World} {b : Nat} {v0 v1 : Value} {e : TypeId} {S0 S1 : Nat → Prop} {x0 x1 : List Int} (h : Blk w b [v0, v1] e) (h0 : IsSlice Ty.int w S0 v0 x0) (h1 : IsSlice Ty.int w S1 v1 x1) : IsSlice Ty.int.slice w (fun _ => True) (.slice (some ⟨b, 0, none⟩) 2 2) [x0, x1] := by
  refine ⟨_, 2, rfl, by simp, fun h => (by cases h), fun a ha _ => (by cases ha; rfl), fun i hi => ⟨b, 0, rfl, trivial, h.lt, ?_⟩⟩
  have : i = 0 ∨ i = 1 := by simp at hi; omega
  rcases this with rfl | rfl
  · exact ⟨[v0], fun j u hj => by cases j with | zero => simp at hj; subst hj; exact h.cell rfl | succ j => simp at hj, _, rfl, h0.mono fun _ _ _ => trivial⟩
  · exact ⟨[v1], fun j u hj => by cases j with | zero => simp at hj; subst hj; exact h.cell rfl | succ j => simp at hj, _, rfl, h1.mono fun _ _ _ => trivial⟩
end Go.Mine
