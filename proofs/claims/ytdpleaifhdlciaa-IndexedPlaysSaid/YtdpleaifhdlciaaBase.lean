import Derived.Below
import Derived.Orders
import Derived.WalkKit
namespace Go.Mine
open Go.RowKit

/-! ### environments -/
abbrev Env := List (Nat × Value)
def Env.find : Env → Nat → Option Value
  | [], _ => none
  | (k, v) :: E, s => bif Nat.beq k s then some v else Env.find E s

structure Has (a : Act) (N : Nat) (E : Env) : Prop where
  defers : a.defers = []
  size : a.tmps.size = N
  slot : ∀ s v, Env.find E s = some v → a.tmps[s]? = some v

theorem Env.find_cons (k : Nat) (v : Value) (E : Env) (s : Nat) : Env.find ((k, v) :: E) s = if k = s then some v else Env.find E s := by
  simp only [Env.find]
  by_cases h : k = s
  · subst h; simp
  · have : Nat.beq k s = false := by
      cases hb : Nat.beq k s
      · rfl
      · exact absurd (Nat.eq_of_beq_eq_true hb) h
    simp [this, h]

theorem Has.put {a : Act} {N : Nat} {E : Env} (h : Has a N E) {d : Nat} (hd : d < N) (v : Value) : Has (a.put (some d) v) N ((d, v) :: E) := by
  refine ⟨h.defers, by simp [Act.put, h.size], fun s u hs => ?_⟩
  rw [Env.find_cons] at hs
  simp only [Act.put]
  by_cases e : d = s
  · subst e
    rw [if_pos rfl] at hs
    rw [Array.getElem?_setIfInBounds_self_of_lt (by rw [h.size]; exact hd)]
    exact hs
  · rw [if_neg e] at hs
    rw [Array.getElem?_setIfInBounds_ne e]
    exact h.slot s u hs

theorem Has.put_none {a : Act} {N : Nat} {E : Env} (h : Has a N E) (v : Value) : Has (a.put none v) N E := h

theorem Has.weaken {a : Act} {N : Nat} {E E' : Env} (h : Has a N E) (hs : ∀ s v, Env.find E' s = some v → Env.find E s = some v) : Has a N E' :=
  ⟨h.defers, h.size, fun s v hv => h.slot s v (hs s v hv)⟩

def ev (E : Env) : Operand → Option Value
  | .tmp t => Env.find E t
  | .const v => some v
  | .global g => some (.pointer (some ⟨g, 0, none⟩))
  | .func f => some (.func (.func f) #[] #[])

theorem Has.eval {a : Act} {N : Nat} {E : Env} (h : Has a N E) {x : Operand} {v : Value} (hx : ev E x = some v) : a.eval x = v := by
  cases x with
  | tmp t => simp only [Act.eval]; have := h.slot t v hx; simp [this]
  | const c => simpa [ev, Act.eval] using hx
  | global g => simpa [ev, Act.eval] using hx
  | func f => simpa [ev, Act.eval] using hx

/-! ### worlds up to the count of draws -/
def _root_.Go.World.atd (w : World) (d : Nat) : World := { w with drawn := d }
theorem atd_self (w : World) : w.atd w.drawn = w := rfl
@[simp] theorem atd_heap (w : World) (d : Nat) : (w.atd d).heap = w.heap := rfl
theorem atd_cell (w : World) (d : Nat) (a : Addr) : (w.atd d).cell? a = w.cell? a := rfl
theorem atd_frozen (w : World) (d : Nat) (a : Addr) : (w.atd d).frozen? a = w.frozen? a := rfl

/-! ### code over environments -/
abbrev EPost := Exit → Env → World → Prop
/-- The post of a piece of code, as the base has it: the world up to its count of draws. -/
def lift (N : Nat) (Q : EPost) : Exit → Act → World → Prop := fun e a w => ∃ E w0 d, w = w0.atd d ∧ Has a N E ∧ Q e E w0
def ewp (P : Program) (N : Nat) (c : Code) (Q : EPost) (E : Env) (w : World) : Prop :=
  ∀ d a, Has a N E → c.wp P (lift N Q) a (w.atd d)
def EThen (K : Env → World → Prop) (Q : EPost) : EPost
  | .normal, E, w => K E w
  | e, E, w => Q e E w
def EBlock (id : Nat) (Q : EPost) : EPost
  | .exit id', E, w => bif Nat.beq id' id then Q .normal E w else Q (.exit id') E w
  | e, E, w => Q e E w

section
variable {P : Program} {N : Nat} {Q : EPost} {E : Env} {w : World}

theorem ewp_mono {c : Code} {Q' : EPost} (h : ewp P N c Q E w) (hq : ∀ e E w, Q e E w → Q' e E w) : ewp P N c Q' E w :=
  fun d a ha => wp_mono (h d a ha) fun _ _ _ ⟨E', w0, d0, hw, hE, hQ⟩ => ⟨E', w0, d0, hw, hE, hq _ _ _ hQ⟩
theorem e_weaken {c : Code} {E' : Env} (hs : ∀ s v, Env.find E' s = some v → Env.find E s = some v) (h : ewp P N c Q E' w) : ewp P N c Q E w :=
  fun d a ha => h d a (ha.weaken hs)
theorem e_skip (h : Q .normal E w) : ewp P N .skip Q E w := fun d _ ha => wp_skip ⟨E, w, d, rfl, ha, h⟩
theorem e_ret (h : Q .ret E w) : ewp P N .ret Q E w := fun d _ ha => wp_ret ⟨E, w, d, rfl, ha, h⟩
theorem e_exit {id : Nat} (h : Q (.exit id) E w) : ewp P N (.exit id) Q E w := fun d _ ha => wp_exit ⟨E, w, d, rfl, ha, h⟩

theorem e_seq {x y : Code} (h : ∀ K : Env → World → Prop, (∀ E w, ewp P N y Q E w → K E w) → ewp P N x (EThen K Q) E w) : ewp P N (.seq x y) Q E w := by
  intro d a ha
  refine wp_seq (wp_mono (h (fun E w => ewp P N y Q E w) (fun _ _ h => h) d a ha) ?_)
  rintro e a' w' ⟨E', w0, d0, rfl, hE, hQ⟩
  cases e with
  | normal => exact hQ d0 a' hE
  | _ => exact ⟨E', w0, d0, rfl, hE, hQ⟩

theorem e_cond {c : Operand} {x y : Code} {b : Bool} (hc : ev E c = some (.bool b)) (ht : b = true → ewp P N x Q E w) (hf : b = false → ewp P N y Q E w) :
    ewp P N (.cond c x y) Q E w := by
  intro d a ha
  refine wp_cond (ha.eval hc) ?_
  cases b with
  | true => exact ht rfl d a ha
  | false => exact hf rfl d a ha

theorem e_block {id : Nat} {c : Code} (h : ewp P N c (EBlock id Q) E w) : ewp P N (.block id c) Q E w := by
  intro d a ha
  refine wp_block (wp_mono (h d a ha) ?_)
  rintro e a' w' ⟨E', w0, d0, rfl, hE, hQ⟩
  cases e with
  | exit id' =>
    simp only [Exit.inBlock, EBlock] at *
    by_cases h' : id' = id
    · subst h'
      rw [if_pos rfl]
      simp only [Nat.beq_refl, cond_true] at hQ
      exact ⟨E', w0, d0, rfl, hE, hQ⟩
    · have hb : Nat.beq id' id = false := by
        cases hb : Nat.beq id' id
        · rfl
        · exact absurd (Nat.eq_of_beq_eq_true hb) h'
      rw [if_neg h']
      simp only [hb, cond_false] at hQ
      exact ⟨E', w0, d0, rfl, hE, hQ⟩
  | _ => exact ⟨E', w0, d0, rfl, hE, hQ⟩

/-- what the first environment knows the second knows, too -/
def Sub (E0 E : Env) : Prop := ∀ s v, Env.find E0 s = some v → Env.find E s = some v
theorem Sub.refl (E : Env) : Sub E E := fun _ _ h => h
theorem Sub.nil (E : Env) : Sub [] E := fun _ _ h => by cases h
theorem Sub.cons {k : Nat} {v : Value} {E0 E : Env} (h : Env.find E k = some v) (hs : Sub E0 E) : Sub ((k, v) :: E0) E := fun s u hu => by
  rw [Env.find_cons] at hu
  split at hu
  · subst s; cases hu; exact h
  · exact hs s u hu
theorem e_sub {c : Code} {E0 : Env} (hs : Sub E0 E) (h : ewp P N c Q E0 w) : ewp P N c Q E w := e_weaken hs h

/-- A loop: a relation at the head of every round, with a number that each round lowers. -/
theorem e_loop {c : Code} (I : Nat → Env → World → Prop) (n : Nat) (h0 : ∃ E0, I n E0 w ∧ Sub E0 E)
    (round : ∀ n E w, I n E w → ewp P N c (EThen (fun E' w' => ∃ m E0, m < n ∧ I m E0 w' ∧ Sub E0 E') Q) E w) : ewp P N (.loop c) Q E w := by
  intro d a ha b k cs
  have key : ∀ n, ∀ E w d a, I n E w → Has a N E → ∃ e a' w', lift N Q e a' w' ∧ Arrives P (lone (b.at a (.code c :: .inLoop c :: k)) cs (w.atd d)) b k cs e a' w' := by
    intro n
    induction n using Nat.strongRecOn with
    | _ n ih =>
      intro E w d a hI ha
      obtain ⟨e, a1, w1, hq, harr⟩ := round n E w hI d a ha b (.inLoop c :: k) cs
      obtain ⟨E1, w0, d0, rfl, hE1, hQ⟩ := hq
      cases e with
      | normal =>
        obtain ⟨m, E2, hm, hI1, hs⟩ := hQ
        obtain ⟨e2, a2, w2, hq2, harr2⟩ := ih m hm E2 w0 d0 a1 hI1 (hE1.weaken hs)
        exact ⟨e2, a2, w2, hq2, .of_steps (Steps.trans harr (.one step_inLoop)) harr2⟩
      | exit id => exact ⟨_, a1, _, ⟨E1, w0, d0, rfl, hE1, hQ⟩, .pass (x := .inLoop c) rfl (fun _ _ => .inl (by simp)) harr⟩
      | goto l => exact ⟨_, a1, _, ⟨E1, w0, d0, rfl, hE1, hQ⟩, .pass (x := .inLoop c) rfl (fun _ _ => .inl (by simp)) harr⟩
      | ret => exact ⟨_, a1, _, ⟨E1, w0, d0, rfl, hE1, hQ⟩, .pass (x := .inLoop c) rfl (fun _ _ => .inl (by simp)) harr⟩
      | panic ch => exact ⟨_, a1, _, ⟨E1, w0, d0, rfl, hE1, hQ⟩, .pass (x := .inLoop c) rfl (fun _ _ => .inl (by simp)) harr⟩
      | outgrown => exact ⟨_, a1, _, ⟨E1, w0, d0, rfl, hE1, hQ⟩, .pass (x := .inLoop c) rfl (fun _ _ => .inl (by simp)) harr⟩
  obtain ⟨E0, h0, hs0⟩ := h0
  obtain ⟨e, a', w', hq, harr⟩ := key n E0 w d a h0 (ha.weaken hs0)
  exact ⟨e, a', w', hq, .of_steps (.one step_loop) harr⟩
end
end Go.Mine
