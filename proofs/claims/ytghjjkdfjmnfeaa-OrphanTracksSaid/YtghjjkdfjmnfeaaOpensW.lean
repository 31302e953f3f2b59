/- How the arguments of laws read, with the form's own bound on their size: rows. -/
import Derived.Test.YtghjjkdfjmnfeaaOpens
import Derived.SizedLaws
set_option linter.unusedSimpArgs false
set_option linter.unusedVariables false
namespace Go.Mine
open Go.RowKit Go.ChangeShapes Go.WideShapes Go.ChangeAt
/-- whatever can be read of a type, and is not too large, lies in memory as plain data -/
structure OpensW (P : Program) (t : TypeId) {α : Type} (T : Ty α) (Q : α → Prop) : Prop where
  size : P.cellsOf t = T.sz
  run : ∀ {H : Type} {enc : TypeId × Value → H} {w : World} {sp : Nat → Bool} {held : Bool} {fuel : Nat} {cs : List Value} {x : DataW H × List MemPlace}, DataW.trod enc P w 0 sp held fuel t cs = some x → (∀ n ∈ x.1.weights P t, n ≤ reachBytes) → ∃ a, T.R w (fun _ => True) cs a ∧ Q a
section
variable {P : Program} {t e : TypeId} {α β : Type} {T : Ty α} {A : Ty α} {B : Ty β} {Q : α → Prop} {Q' : β → Prop}
theorem Opens.toW (h : Opens P t T Q) : OpensW P t T Q := ⟨h.size, fun hx _ => h.run hx⟩
theorem weightsAll_mem {H : Type} {P : Program} {e : TypeId} : ∀ {l : List (DataW H)} {d : DataW H}, d ∈ l → ∀ n ∈ d.weights P e, n ∈ DataW.weightsAll P e l
  | d :: r, _, .head _, n, hn => by simp [DataW.weightsAll, hn]
  | _ :: r, _, .tail _ hm, n, hn => by simp [DataW.weightsAll, weightsAll_mem hm n hn]
theorem OpensW.slice (ht : P.underlying t = some (.slice e)) (hc : P.cellsOf t = 1) (h0 : 0 < T.sz) (hy : 0 < P.bytesOf e) (he : OpensW P e T Q) : OpensW P t T.slice (fun xs => xs.length ≤ 140737488351232 ∧ ∀ x ∈ xs, Q x) := by
  refine ⟨hc, fun {H enc w sp held fuel cs x} h hwt => ?_⟩
  rcases DataW.trod_slice ht h with ⟨rfl, _⟩ | ⟨a, len, cap, elems, rest, n, _, rfl, hxe, hb, hl, hm, hlen, hel, _, _⟩
  · exact ⟨[], ⟨_, rfl, IsSlice.nil _ _ _⟩, by simp, by simp⟩
  · subst hxe
    have hw1 : ((elems.map (·.1)).length + (rest.map (·.1)).length) * P.bytesOf e ≤ reachBytes := hwt _ (by simp [DataW.weights, ht])
    have hw2 : ∀ y ∈ elems, ∀ n ∈ y.1.weights P e, n ≤ reachBytes := fun y hy2 n hn => hwt n (by
      simp only [DataW.weights, ht, List.mem_cons, List.mem_append]
      exact .inr (.inl (weightsAll_mem (List.mem_map.2 ⟨y, hy2, rfl⟩) n hn)))
    have hsm : len ≤ 140737488351232 := by
      simp at hw1
      have h1 : (elems.length + rest.length) * 1 ≤ (elems.length + rest.length) * P.bytesOf e := Nat.mul_le_mul_left _ hy
      have h2 : reachBytes = 140737488351232 := rfl
      omega
    have key : ∀ i, i < len → ∃ cs' x, (∀ j v, cs'[j]? = some v → w.cell? ((a.add (i * T.sz)).add j) = some v) ∧ cs'.length = T.sz ∧ T.R w (fun _ => True) cs' x ∧ Q x := fun i hi => by
      have h1 := hel i hi
      rw [List.getElem?_eq_getElem (by omega)] at h1
      obtain ⟨cs', h2, h3⟩ := Option.bind_eq_some_iff.1 h1
      obtain ⟨x, h4, h5⟩ := he.run h3 (hw2 _ (List.getElem_mem _))
      rw [he.size] at h2
      obtain ⟨_, h6, h7⟩ := World.cells?_some h2
      exact ⟨cs', x, fun j v hj => by rw [h7 j (by rw [← h6]; exact (List.getElem?_eq_some_iff.1 hj).1)]; exact hj, h6, h4, h5⟩
    have hlist : ∀ m, m ≤ len → ∃ xs : List α, xs.length = m ∧ ∀ i (hi : i < xs.length), ∃ cs', (∀ j v, cs'[j]? = some v → w.cell? ((a.add (i * T.sz)).add j) = some v) ∧ cs'.length = T.sz ∧ T.R w (fun _ => True) cs' xs[i] ∧ Q xs[i] := by
      intro m
      induction m with
      | zero => exact fun _ => ⟨[], rfl, fun i hi => absurd hi (Nat.not_lt_zero i)⟩
      | succ m ih =>
        intro hm
        obtain ⟨xs, h1, h2⟩ := ih (by omega)
        obtain ⟨cs', x, h3, h4⟩ := key m (by omega)
        refine ⟨xs ++ [x], by simp [h1], fun i hi => ?_⟩
        rcases Nat.lt_or_ge i xs.length with hlt | hge
        · rw [List.getElem_append_left hlt]; exact h2 i hlt
        · have : i = m := by simp at hi; omega
          subst this
          rw [List.getElem_append_right hge]; simp
          exact ⟨cs', by simpa using h3, h4⟩
    obtain ⟨xs, hx, hR⟩ := hlist len (Nat.le_refl _)
    have hspot : 0 < xs.length → a.spot = none := fun h => by
      obtain ⟨cs', h1, h2, _, _⟩ := hR 0 h
      have h3 := h1 0 (cs'[0]'(by omega)) (by simp)
      have h4 : w.cell? a = some (cs'[0]'(by omega)) := by simpa [Addr.add] using h3
      unfold World.cell? at h4
      split at h4
      · split at h4
        · cases h4
        · rename_i h; simpa using h
      · cases h4
    refine ⟨xs, ⟨_, rfl, some a, cap, by rw [hx], by omega, fun h => (by cases h), fun b hb hne => ?_, fun i hi => ?_⟩, by omega, fun x hxm => ?_⟩
    · cases hb; exact hspot (List.length_pos_iff.2 hne)
    · obtain ⟨cs', h1, h2, h3, _⟩ := hR i hi
      obtain ⟨b, off, sp'⟩ := a
      have := hspot (by omega)
      simp only at this; subst this
      have hat : CellsAt w b (ix off i T.sz) cs' := fun j v hj => by
        have := h1 j v hj
        rw [add_mk, add_mk] at this
        rw [ix_eq]; exact this
      have hlt : b < w.heap.size := cell_block (hat 0 (cs'[0]'(by omega)) (by simp))
      exact ⟨b, off, rfl, trivial, hlt, cs', hat, h3⟩
    · obtain ⟨i, hi, rfl⟩ := List.getElem_of_mem hxm
      obtain ⟨_, _, _, _, h⟩ := hR i hi
      exact h
/-- an argument that is a slice -/
theorem argSliceW {H : Type} {enc : TypeId × Value → H} {w : World} {r : Reach} {b0 : Nat} {v : Value} {d : DataW H} {ps : List MemPlace} (ht : P.underlying t = some (.slice e)) (hc : P.cellsOf t = 1) (h0 : Nat.blt 0 T.sz = true) (hy : Nat.blt 0 (P.bytesOf e) = true) (he : OpensW P e T Q) (hval : Value.okWide P w r b0 t v) (hd : DataW.Trod enc P w 0 (fun _ => true) true t v d ps) (hw : ∀ n ∈ d.weights P t, n ≤ reachBytes) :
    ∃ xs, IsSlice T w (fun _ => True) v xs ∧ xs.length ≤ 140737488351232 ∧ ∀ x ∈ xs, Q x := by
  obtain ⟨a, len, cap, rfl⟩ := okWide_slice ht hval
  obtain ⟨fuel, hf⟩ := hd
  obtain ⟨xs, ⟨u, hu, h1⟩, h2⟩ := (OpensW.slice ht hc (by simpa [Nat.blt_eq] using h0) (by simpa [Nat.blt_eq] using hy) he).run hf hw
  simp [Value.cells] at hu; subst hu
  exact ⟨xs, h1, h2⟩
theorem weightsIn {H : Type} {ts : List TypeId} {ds : List (DataW H)} (h : (DataW.weightsEach P ts ds).all (· ≤ reachBytes) = true) (j : Nat) {t : TypeId} {d : DataW H} (ht : ts[j]? = some t) (hd : ds[j]? = some d) : ∀ n ∈ d.weights P t, n ≤ reachBytes := fun n hn => by
  have := List.all_eq_true.1 h n (DataW.weights_mem_each ht hd n hn)
  simpa using this
end
end Go.Mine
