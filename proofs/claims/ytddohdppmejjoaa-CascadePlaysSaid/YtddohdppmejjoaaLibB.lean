import Derived.Test.YtddohdppmejjoaaLibA
import Derived.Laws.AppendOwnNone
import Derived.Great.BuildSlice
import Derived.Laws.StructEq
namespace Go.Mine
open Go.RowKit

class TInt (P : Program) (t : TypeId) (k : outParam IntKind) : Prop where
  under : P.underlying t = some (.int k)
class TElem (P : Program) (e : TypeId) (bytes : outParam Nat) (z : outParam (List Value)) : Prop where
  bytes0 : (P.info? e).map TypeInfo.bytes = some bytes
  zero0 : ((P.info? e).bind TypeInfo.zero).map (fun v => v.cells.toList) = some z
theorem TElem.parts {P : Program} {e bytes : Nat} {z : List Value} [T : TElem P e bytes z] : ∃ i v, P.info? e = some i ∧ i.bytes = bytes ∧ i.zero = some v ∧ v.cells = z.toArray := by
  obtain ⟨i, h1, h2⟩ := ex_of_map T.bytes0
  obtain ⟨v, h3, h4⟩ := ex_of_map T.zero0
  rw [h1] at h3
  exact ⟨i, v, h1, h2, h3, by rw [← h4]⟩

section
variable {P : Program} {N : Fr} {X : Nat → Prop} {K : Env → World → Prop} {E : Env} {w : World} {t : TypeId} {m : Bool} {rest : List QOp} {sd : Nat} {α : Type} {T : Ty α}


/-! new rows -/

/-! slices of slices -/
theorem IsSlice.cut {w : World} {S : Nat → Prop} {ad : Option Addr} {cap : Nat} {xs : List α} (hs : IsSlice T w S (.slice ad xs.length cap) xs) (i j : Nat) (hij : i ≤ j) (hj : j ≤ xs.length) :
    IsSlice T w S (.slice (if cap = i then ad else ad.map (·.add (i * T.sz))) (j - i) (cap - i)) ((xs.drop i).take (j - i)) := by
  obtain ⟨ad', cap', he, h2, h3, h4, h5⟩ := hs
  simp only [Value.slice.injEq] at he
  obtain ⟨rfl, -, rfl⟩ := he
  have hlen : ((xs.drop i).take (j - i)).length = j - i := by simp; omega
  refine ⟨_, cap - i, by rw [hlen], by rw [hlen]; omega, fun hn => ?_, fun a ha hne => ?_, fun k hk => ?_⟩
  · split at hn
    · have := h3 hn; omega
    · cases ad with
      | none => have := h3 rfl; omega
      | some a => cases hn
  · split at ha
    · exact h4 a ha (by rintro rfl; simp at hne)
    · cases ad with
      | none => cases ha
      | some a0 =>
        simp only [Option.map_some, Option.some.injEq] at ha
        subst ha
        unfold Addr.add; split
        · exact h4 a0 rfl (by rintro rfl; simp at hne)
        · rfl
  · rw [hlen] at hk
    obtain ⟨b, off, rfl, hel⟩ := h5 (i + k) (by omega)
    refine ⟨b, off + i * T.sz, by rw [if_neg (by omega)]; simp [add_mk], ?_⟩
    have : ((xs.drop i).take (j - i))[k]'(by rw [hlen]; exact hk) = xs[i + k]'(by omega) := by simp
    rw [this]
    have e : ix (off + i * T.sz) k T.sz = ix off (i + k) T.sz := by rw [ix_eq, ix_eq, Nat.add_mul]; omega
    rw [e]; exact hel

theorem run_sliceBound {k : IntKind} {i y : Nat} (h : i ≤ y) (c : BoundsCode) (w : World) : (Instr.sliceBound (.int k i) y c).run P w = .ok i w := by
  have : (0 : Int) ≤ i ∧ (i : Int) ≤ y := by omega
  simp [Instr.sliceBound, asIntOf, h]
theorem q_sliceH {x hi : Operand} {ts e : Nat} {S : Nat → Prop} {v : Value} {xs : List α} {k' : IntKind} {j : Nat} (TS : TSlice P ts e T.sz) (hx : ev E x = some v) (hs : IsSlice T w S v xs) (hh : ev E hi = some (.int k' j)) (hj : j ≤ xs.length)
    (hd : dOK N (some sd) = true) (h : ∀ v', IsSlice T w S v' (xs.take j) → eseq P N X K rest (Env.set E sd v') w) : eseq P N X K (⟨none, some sd, .slice ts x none (some hi) none, t, m⟩ :: rest) E w := by
  obtain ⟨ad, cap, rfl, h2, _⟩ := id hs
  obtain ⟨inf, h5, h6⟩ := TS.size
  refine q_pure _ rfl hd (fun a ha w' => ?_) (h _ (by simpa using hs.cut 0 j (Nat.zero_le _) hj))
  simp [execOp, QOp.oper, ha.eval hx, ha.eval hh, Instr.sliceAt, Instr.slice, Instr.sliceBounds, run_sliceBound (show j ≤ cap by omega), run_under TS.under, run_size h5]
end
end Go.Mine

namespace Go.Mine
open Go.RowKit

theorem flatten_get {sz : Nat} : ∀ (cells : List (List Value)) (i j : Nat) (c : List Value) (v : Value), (∀ c ∈ cells, c.length = sz) → cells[i]? = some c → c[j]? = some v → cells.flatten[i * sz + j]? = some v
  | [], i, j, c, v, _, h, _ => by simp at h
  | c0 :: cells, 0, j, c, v, hl, h, hv => by
    simp at h; subst h
    rw [List.flatten_cons, Nat.zero_mul, Nat.zero_add, List.getElem?_append_left (List.getElem?_eq_some_iff.1 hv).1]; exact hv
  | c0 :: cells, i + 1, j, c, v, hl, h, hv => by
    have h0 := hl c0 (by simp)
    have := flatten_get cells i j c v (fun c hc => hl c (by simp [hc])) (by simpa using h) hv
    rw [List.flatten_cons, List.getElem?_append_right (by rw [h0, Nat.add_mul]; omega), h0]
    rw [show (i + 1) * sz + j - sz = i * sz + j from by rw [Nat.add_mul]; omega]; exact this

section
variable {α : Type} {T : Ty α}
/-- a row of the call's own: the block may be longer than the slice's capacity -/
def Row (w : World) (base : Nat) (e : TypeId) (size : Nat) (v : Value) (n : Nat) (xs : List Value) : Prop :=
  xs.length = n * size ∧ ((v = .slice none 0 0 ∧ n = 0) ∨
    ∃ (g cap : Nat) (cur : Array Value), v = .slice (some ⟨g, 0, none⟩) n cap ∧ base ≤ g ∧ w.heap[g]? = some (.cells cur e (0, 0)) ∧ n ≤ cap ∧ cap ≤ maxLen ∧ cap * size ≤ cur.size ∧ cur.toList.take (n * size) = xs)
theorem Row.of {w : World} {base e size n : Nat} {v : Value} {xs : List Value} (h : w.ownsRow base e size v n xs) : Row w base e size v n xs :=
  ⟨h.1, h.2.imp id fun ⟨g, cap, cur, h1, h2, h3, h4, h5, h6, h7⟩ => ⟨g, cap, cur, h1, h2, h3, h4, h5, Nat.le_of_eq h6.symm, h7⟩⟩
theorem Row.nil (w : World) (base e size : Nat) : Row w base e size (.slice none 0 0) 0 [] := Row.of (World.ownsRow_nil w base e size)
theorem Row.lt {w : World} {base e size n : Nat} {v : Value} {xs : List Value} (h : Row w base e size v n xs) : ∀ k, v.ownBlock = some k → base ≤ k ∧ k < w.heap.size := by
  intro k hk
  rcases h.2 with ⟨rfl, _⟩ | ⟨g, cap, cur, rfl, hb, hg, _⟩
  · simp [Value.ownBlock] at hk
  · simp [Value.ownBlock] at hk
    subst hk
    exact ⟨hb, (Array.getElem?_eq_some_iff.1 hg).1⟩
theorem Row.cells {w : World} {base e size n : Nat} {v : Value} {xs : List Value} (h : Row w base e size v n xs) {g : Nat} (hg : v.ownBlock = some g) : ∀ j u, xs[j]? = some u → w.cell? ((⟨g, 0, none⟩ : Addr).add j) = some u := by
  intro j u hu
  rcases h.2 with ⟨rfl, _⟩ | ⟨g', cap, cur, rfl, _, hgg, _, _, _, htake⟩
  · simp [Value.ownBlock] at hg
  · simp [Value.ownBlock] at hg
    subst hg
    have hadd : (⟨g', 0, none⟩ : Addr).add j = ⟨g', j, none⟩ := by unfold Addr.add; split <;> simp_all
    rw [hadd, cell_of_row w g' j cur e (0, 0) hgg]
    rw [← htake, List.getElem?_take] at hu
    split at hu
    · simpa using hu
    · cases hu
/-- a slice of the call's own, from block lo on, whose elements touch S, never its own row -/
structure Own (T : Ty α) (w : World) (lo : Nat) (S : Nat → Prop) (e : TypeId) (v : Value) (xs : List α) : Prop where
  row : ∃ cells : List (List Value), cells.length = xs.length ∧ Row w lo e T.sz v xs.length cells.flatten ∧ ∀ (i : Nat) (c : List Value) (x : α), cells[i]? = some c → xs[i]? = some x → T.R w (fun k => S k ∧ some k ≠ v.ownBlock) c x
variable {w w' : World} {lo : Nat} {S : Nat → Prop} {e : TypeId} {v : Value} {xs : List α}

theorem Own.nil (T : Ty α) (w : World) (lo : Nat) (S : Nat → Prop) (e : TypeId) : Own T w lo S e (.slice none 0 0) [] :=
  ⟨[], rfl, Row.nil w lo e T.sz, fun i c x h => by simp at h⟩
theorem Own.lt (h : Own T w lo S e v xs) : ∀ k, v.ownBlock = some k → lo ≤ k ∧ k < w.heap.size := by
  obtain ⟨cells, _, h1, _⟩ := h.row; exact h1.lt
theorem Own.one (h : Own T w lo S e v xs) : oneV v = true := by
  obtain ⟨cells, _, ⟨_, h1⟩, _⟩ := h.row
  rcases h1 with ⟨rfl, _⟩ | ⟨g, cap, cur, rfl, _⟩ <;> rfl
theorem Own.kept (h : Own T w lo S e v xs) (hk : Kept S w w') (hv : ∀ k, v.ownBlock = some k → w'.heap[k]? = w.heap[k]?) : Own T w' lo S e v xs := by
  obtain ⟨cells, hl, h1, h2⟩ := h.row
  refine ⟨cells, hl, ⟨h1.1, ?_⟩, fun i c x hc hx => T.kept ⟨hk.size, fun k hk1 hk2 => hk.block k hk1.1 hk2⟩ (h2 i c x hc hx)⟩
  rcases h1.2 with h3 | ⟨g, cap, cur, rfl, h4, h5, h6⟩
  · exact .inl h3
  · exact .inr ⟨g, cap, cur, rfl, h4, by rw [hv g rfl]; exact h5, h6⟩
theorem Own.ext (h : Own T w lo S e v xs) (hB : Below w.heap.size w w') : Own T w' lo S e v xs :=
  h.kept (.of_ext hB) fun k hk => hB.block k (h.lt k hk).2
theorem Own.only {b : Nat} (h : Own T w lo S e v xs) (ho : Only w w' b) (hS : ∀ k, S k → k ≠ b) (hne : v.ownBlock ≠ some b) : Own T w' lo S e v xs :=
  h.kept (.of_only ho hS) fun k hk => ho.block k (h.lt k hk).2 fun he => hne (he ▸ hk)
theorem Own.isSlice (h : Own T w lo S e v xs) : IsSlice T w (fun k => S k ∨ lo ≤ k) v xs := by
  obtain ⟨cells, hl, ⟨hlen, h1⟩, h2⟩ := h.row
  rcases h1 with ⟨rfl, h0⟩ | ⟨g, cap, cur, rfl, h3, h4, h5, h6, h7, h8⟩
  · have : xs = [] := List.length_eq_zero_iff.1 h0
    subst this
    exact IsSlice.nil T w _
  · refine ⟨_, cap, rfl, h5, fun h => (by cases h), fun a ha _ => (by cases ha; rfl), fun i hi => ⟨g, 0, rfl, ?_⟩⟩
    have hci : cells[i]? = some (cells[i]'(by omega)) := by simp [hl, hi]
    have hxi : xs[i]? = some xs[i] := by simp
    have hR := h2 i _ _ hci hxi
    have hcl : ∀ c ∈ cells, c.length = T.sz := fun c hc => by
      obtain ⟨j, hj, rfl⟩ := List.getElem_of_mem hc
      exact T.len (h2 j cells[j] (xs[j]'(by omega)) (by simp) (by simp))
    refine ⟨.inr h3, (Array.getElem?_eq_some_iff.1 h4).1, cells[i]'(by omega), fun j u hu => ?_, T.mono (fun k hk _ => .inl hk.1) hR⟩
    have hf := flatten_get cells i j _ u hcl hci hu
    rw [← h8, List.getElem?_take] at hf
    split at hf
    · have e1 : ix 0 i T.sz + j = i * T.sz + j := by rw [ix_eq]; omega
      rw [e1]
      simp [World.cell?, h4]
      simpa using hf
    · cases hf
theorem Kept.of_grown {row : Option Nat} {S' : Nat → Prop} (hg : w.grownBy w' row) (hn : ∀ k, S' k → some k ≠ row) : Kept S' w w' := ⟨hg.size, fun k hk hs => hg.block k hs (hn k hk)⟩
theorem Blk.grown {row : Option Nat} {b : Nat} {cs : List Value} {t : TypeId} (h : Blk w b cs t) (hg : w.grownBy w' row) (hn : some b ≠ row) : Blk w' b cs t := by
  unfold Blk at *; rw [hg.block b (Array.getElem?_eq_some_iff.1 h).1 hn]; exact h
theorem Own.below {n : Nat} {w0 : World} (h : Own T w lo S e v xs) (hg : w.grownBy w' v.ownBlock) (hT : Below n w0 w) (hn : n ≤ lo) (hs : n ≤ w.heap.size) : Below n w0 w' :=
  hT.grown hg hs fun k hk => by have := h.lt k hk; omega
/-- another slice of the call's own, while this one grows -/
theorem Own.other {β : Type} {T' : Ty β} {lo' : Nat} {S' : Nat → Prop} {e' : TypeId} {v' : Value} {ys : List β} (h : Own T' w lo' S' e' v' ys) {row : Option Nat} (hg : w.grownBy w' row) (hS : ∀ k, S' k → some k ≠ row) (hne : ∀ k, v'.ownBlock = some k → some k ≠ row) : Own T' w' lo' S' e' v' ys :=
  h.kept (.of_grown hg hS) fun k hk => hg.block k (h.lt k hk).2 (hne k hk)
end

section
variable {P : Program} {N : Fr} {X : Nat → Prop} {K : Env → World → Prop} {E : Env} {w : World} {t : TypeId} {m : Bool} {rest : List QOp} {sd : Nat} {α : Type} {T : Ty α}

theorem oneCell_of_one {u : Value} (h : oneV u = true) : u.oneCell' = true := by cases u <;> simp_all [oneV, Value.oneCell']

/-- the row of an appended slice: the old one, or a new one; the old one, if there is room -/
structure NewRow (w : World) (v v' : Value) (n : Nat) : Prop where
  blk : ∀ k, v'.ownBlock = some k → v.ownBlock = some k ∨ w.heap.size ≤ k
  fits : ∀ g n0 cap, v = .slice (some ⟨g, 0, none⟩) n0 cap → n ≤ cap → v' = .slice (some ⟨g, 0, none⟩) n cap
theorem run_append_own2 (w : World) (base : Nat) (t ty e : TypeId) (i : TypeInfo) (z : Value) (size bytes : Nat) (ht : P.underlying t = some (.slice e)) (hi : P.info? e = some i) (hz : i.zero = some z)
    (hsize : i.size = size) (hby : i.bytes = bytes) (hzs : z.cells.size = size) (hsz : 0 < size)
    (v : Value) (n : Nat) (xs : List Value) (hown : Row w base e size v n xs)
    (a : Addr) (m c : Nat) (news : List Value) (hl : news.length = m * size) (hnews : ∀ j u, news[j]? = some u → w.cell? (a.add j) = some u) (h1 : ∀ u ∈ news, u.oneCell' = true)
    (h63 : n + m ≤ maxLen) (hbytes : (n + m) * bytes ≤ 140737488355328) (hbase : base ≤ w.heap.size) :
    ∃ v' w', (Builtin.append_ #[t, t] ty #[v, .slice (some a) m c]).run P w = .ok v' w' ∧ Row w' base e size v' (n + m) (xs ++ news) ∧ w.grownBy w' v.ownBlock ∧
      (∀ k, v'.ownBlock = some k → v.ownBlock = some k ∨ w.heap.size ≤ k) ∧ (∀ g n0 cap, v = .slice (some ⟨g, 0, none⟩) n0 cap → n + m ≤ cap → v' = .slice (some ⟨g, 0, none⟩) (n + m) cap) := by
  have hsmall : n + m ≤ 9223372036854775807 := by simp only [maxLen] at h63; omega
  rcases hown.2 with ⟨rfl, rfl⟩ | ⟨g, cap, cur, rfl, hbg, hgg, hnc, hcm, hcs, htake⟩
  · have hx : xs = [] := List.eq_nil_of_length_eq_zero (by simpa using hown.1)
    subst hx
    obtain ⟨v2, w2, hr2, ho2, hg2, _⟩ := run_append_own (P := P) w w.heap.size t ty e i z size bytes ht hi hz hsize hby hzs hsz _ 0 [] (World.ownsRow_nil w w.heap.size e size) a m c news hl hnews h1 h63 hbytes (Nat.le_refl _)
    obtain ⟨v3, w3, hr3, ho3, hg3, _⟩ := run_append_own (P := P) w base t ty e i z size bytes ht hi hz hsize hby hzs hsz _ 0 [] (World.ownsRow_nil w base e size) a m c news hl hnews h1 h63 hbytes hbase
    rw [hr2] at hr3
    cases hr3
    exact ⟨v2, w2, hr2, Row.of ho3, hg2, fun k hk => .inr (ho2.lt k hk).1, fun g n0 cap hv => by cases hv⟩
  · subst hsize; subst hby
    have hlen : (xs ++ news).length = (n + m) * i.size := by rw [List.length_append, hown.1, hl, Nat.add_mul]
    by_cases hroom : n + m ≤ cap
    · have hfit : n * i.size + news.length ≤ cur.size := by
        rw [hl, ← Nat.add_mul]; exact Nat.le_trans (Nat.mul_le_mul_right _ hroom) hcs
      have hr := run_append_room (P := P) w t ty e i ht hi g n cap cur hgg a m c news hl hnews h1 hroom hfit
      refine ⟨_, _, hr, ⟨hlen, .inr ⟨g, cap, _, rfl, hbg, setRow_heap w g cur _ e _ hgg, hroom, hcm, ?_, ?_⟩⟩, ⟨rfl, rfl, rfl, by simp, fun k _ hk => setRow_other w g k _ (fun e => hk (by simp [Value.ownBlock, e]))⟩, fun k hk => .inl hk, fun g' n0 cap' hv _ => by cases hv; rfl⟩
      · simp only [List.size_toArray, List.length_append, List.length_take, List.length_drop, Array.length_toList]
        omega
      · rw [htake, ← hlen]
        exact List.take_left
    · have hr := run_append_grow (P := P) w t ty e i z ht hi hz ⟨g, 0, none⟩ n cap xs hown.1 (hown.cells (g := g) rfl) a m c news hl hnews (by omega) (by omega) (growslice_fits (by omega) hbytes)
      have hge := grownCap_ge w (n + m) cap e
      have hcm' : grownCap w (n + m) cap e ≤ maxLen := grownCap_le_maxLen w (n + m) cap e h63
      refine ⟨_, _, hr, ⟨hlen, .inr ⟨w.heap.size, _, _, rfl, hbase, heap_alloc_new w.drew _, hge, hcm', ?_, ?_⟩⟩, ⟨rfl, rfl, rfl, by simp, fun k hk _ => heap_alloc_old w.drew _ hk⟩, fun k hk => .inr ?_, fun g' n0 cap' hv hc => by cases hv; omega⟩
      · refine Nat.le_of_eq ?_
        simp only [Array.size_append, List.size_toArray, size_zeroCells, hzs, hown.1, hl, ← Nat.add_mul]
        congr 1
        omega
      · simp only [Array.toList_append, List.append_assoc]
        rw [← List.append_assoc, ← hlen]
        exact List.take_left
      · simp [Value.ownBlock] at hk
        omega
theorem run_append_none (w : World) (base : Nat) (t ty e : TypeId) (i : TypeInfo) (size : Nat) (ht : P.underlying t = some (.slice e)) (hi : P.info? e = some i)
    (v : Value) (n : Nat) (xs : List Value) (hown : Row w base e size v n xs) :
    (Builtin.append_ #[t, t] ty #[v, .slice none 0 0]).run P w = .ok v w := by
  rcases hown.2 with ⟨rfl, rfl⟩ | ⟨g, cap, cur, rfl, _, _, hnc, _⟩
  · simp [Builtin.append_, run_underlying ht, sizeOf, typeInfo, hi, Builtin.lenOf, Builtin.firstCells]
  · simp [Builtin.append_, run_underlying ht, sizeOf, typeInfo, hi, Builtin.lenOf, Builtin.firstCells, hnc, storeCells]
/-- append: the cells of the new elements lie in memory -/
theorem q_appendCells {x y : Operand} {ts e bytes lo : Nat} {z : List Value} {S : Nat → Prop} {v : Value} {xs ys : List α} {ad : Addr} {c : Nat} {news : List (List Value)} (TS : TSlice P ts e T.sz) (TE : TElem P e bytes z) (hz : z.length = T.sz) (h0 : 0 < T.sz) (hbytes : bytes ≤ 1000)
    (hx : ev E x = some v) (hown : Own T w lo S e v xs) (hy : ev E y = some (.slice (some ad) ys.length c)) (hsp : ys ≠ [] → ad.spot = none) (hnl : news.length = ys.length)
    (hcells : ∀ (i : Nat) (c : List Value), news[i]? = some c → CellsAt w ad.block (ix ad.off i T.sz) c) (hR : ∀ (i : Nat) (c : List Value) (u : α), news[i]? = some c → ys[i]? = some u → T.R w (fun k => S k ∧ some k ≠ v.ownBlock) c u)
    (hlen : xs.length + ys.length ≤ 1000000000) (hlo : lo ≤ w.heap.size) (hd : dOK N (some sd) = true) (hm : m = true → ∀ k, v.ownBlock = some k → X k)
    (h : ∀ v' w1, Own T w1 lo S e v' (xs ++ ys) → w.grownBy w1 v.ownBlock → NewRow w v v' (xs.length + ys.length) → eseq P N X K rest (Env.set E sd v') w1) :
    eseq P N X K (⟨none, some sd, .call { callee := .builtin .append, args := #[x, y], argTypes := #[ts, ts] }, t, m⟩ :: rest) E w := by
  obtain ⟨inf, zv, h1, h2, h3, h4⟩ := TE.parts
  obtain ⟨inf', h5, h6⟩ := TS.size
  rw [h1] at h5; cases h5
  obtain ⟨cells, hl, hrow, hRx⟩ := hown.row
  have hnc : ∀ c ∈ news, c.length = T.sz := fun c hc => by
    obtain ⟨j, hj, rfl⟩ := List.getElem_of_mem hc
    exact T.len (hR j news[j] (ys[j]'(by omega)) (by simp) (by simp))
  have hncl : news.flatten.length = ys.length * T.sz := by
    rw [List.length_flatten, ← hnl]
    clear hcells hR hnl
    induction news with
    | nil => simp
    | cons c news ih =>
      simp only [List.map_cons, List.sum_cons, List.length_cons]
      rw [hnc c (by simp), ih fun c hc => hnc c (by simp [hc]), Nat.add_mul]; omega
  have hone : ∀ u ∈ news.flatten, u.oneCell' = true := fun u hu => by
    obtain ⟨c, hc, huc⟩ := List.mem_flatten.1 hu
    obtain ⟨j, hj, rfl⟩ := List.getElem_of_mem hc
    exact oneCell_of_one (T.one (hR j news[j] (ys[j]'(by omega)) (by simp) (by simp)) u huc)
  have hnews : ∀ j u, news.flatten[j]? = some u → w.cell? (ad.add j) = some u := fun j u hj => by
    obtain ⟨b, off, sp⟩ := ad
    have hy0 : ys ≠ [] := by
      rintro rfl
      have := (List.getElem?_eq_some_iff.1 hj).1; rw [hncl] at this; simp at this
    replace hsp := hsp hy0
    simp only at hsp; subst hsp
    rw [add_mk]
    -- which element
    have hjl : j < ys.length * T.sz := by rw [← hncl]; exact (List.getElem?_eq_some_iff.1 hj).1
    have hq : j / T.sz < news.length := by rw [hnl]; exact Nat.div_lt_of_lt_mul (by rw [Nat.mul_comm]; exact hjl)
    have hr : j % T.sz < T.sz := Nat.mod_lt _ h0
    have hce : news[j / T.sz]? = some news[j / T.sz] := by simp [hq]
    have hcl := hnc news[j / T.sz] (by simp)
    have hce2 : (news[j / T.sz])[j % T.sz]? = some ((news[j / T.sz])[j % T.sz]'(by omega)) := by simp
    have := flatten_get news (j / T.sz) (j % T.sz) _ _ hnc hce hce2
    have hdm : j / T.sz * T.sz + j % T.sz = j := by rw [Nat.mul_comm]; exact Nat.div_add_mod j T.sz
    rw [hdm, hj] at this
    have hu : (news[j / T.sz])[j % T.sz]'(by omega) = u := by simpa using this.symm
    have hc := hcells _ _ hce (j % T.sz) u (by rw [hce2, hu])
    have e1 : ix off (j / T.sz) T.sz + j % T.sz = off + j := by rw [ix_eq]; omega
    simp only at hc
    rw [e1] at hc; exact hc
  refine q_eff rfl fun a ha d => ?_
  have hl1 : xs.length + ys.length ≤ maxLen := by unfold maxLen; omega
  have hl2 : (xs.length + ys.length) * bytes ≤ 140737488355328 := by
    have := Nat.mul_le_mul hlen hbytes; omega
  obtain ⟨v', w', hr, hrow', hg, hrow2, hfit2⟩ := run_append_own2 (P := P) (w.atd d) lo ts t e inf zv T.sz bytes TS.under h1 h3 h6 h2 (by rw [h4]; simpa using hz) h0 v xs.length cells.flatten hrow ad ys.length c news.flatten hncl hnews hone hl1 hl2 hlo
  have hrun : (execOp a.eval (QOp.oper ⟨none, some sd, .call { callee := .builtin .append, args := #[x, y], argTypes := #[ts, ts] }, t, m⟩)).run P (w.atd d) = .ok (.value v') w' := by
    simp [execOp, QOp.oper, resolve, invoke, builtin, ha.eval hx, ha.eval hy, hr]
  unfold Oper.wp
  rw [hrun]
  refine ⟨v', w', w'.drawn, rfl, rfl, hd, (fun hmm => ⟨hg.os, hg.tape, hg.output, hg.size, fun k hk hx => hg.block k hk fun he => hx (hm hmm k he.symm)⟩), h v' w' ?_ ⟨hg.os, hg.tape, hg.output, hg.size, hg.block⟩ ⟨hrow2, hfit2⟩⟩
  refine ⟨cells ++ news, by simp [hl, hnl], by rw [List.flatten_append, List.length_append]; exact hrow', fun i c u hc hu => ?_⟩
  have conv : ∀ {c : List Value} {u : α}, T.R w (fun k => S k ∧ some k ≠ v.ownBlock) c u → T.R w' (fun k => S k ∧ some k ≠ v'.ownBlock) c u := fun hR1 => by
    have h1 : T.R w (fun k => (S k ∧ some k ≠ v.ownBlock) ∧ k < w.heap.size) _ _ := T.mono (fun k hk hk2 => ⟨hk, hk2⟩) hR1
    have h2 := T.kept (w := w) (w' := w') (S := fun k => (S k ∧ some k ≠ v.ownBlock) ∧ k < w.heap.size) ⟨hg.size, fun k hk hs => hg.block k hs hk.1.2⟩ h1
    refine T.mono (fun k hk _ => ⟨hk.1.1, fun he => ?_⟩) h2
    rcases hrow2 k he.symm with h | h
    · exact hk.1.2 h.symm
    · have h7 := hk.2; have h8 : w.heap.size ≤ k := h; omega
  rcases Nat.lt_or_ge i cells.length with hi | hi
  · rw [List.getElem?_append_left hi] at hc
    rw [List.getElem?_append_left (by omega)] at hu
    exact conv (hRx i c u hc hu)
  · rw [List.getElem?_append_right hi] at hc
    rw [List.getElem?_append_right (by omega)] at hu
    rw [← hl] at hu
    exact conv (hR _ c u hc hu)

/-- 'append(xs, ys...)' -/
theorem q_appendS {x y : Operand} {ts e bytes lo : Nat} {z : List Value} {S Sy : Nat → Prop} {v vy : Value} {xs ys : List α} [TS : TSlice P ts e T.sz] [TE : TElem P e bytes z] (hz : z.length = T.sz) (h0 : Nat.blt 0 T.sz = true) (hbytes : Nat.ble bytes 1000 = true)
    (hx : ev E x = some v) (hown : Own T w lo S e v xs) (hy : ev E y = some vy) (hys : IsSlice T w Sy vy ys)
    (hR : ∀ c u, T.R w Sy c u → T.R w (fun k => S k ∧ some k ≠ v.ownBlock) c u)
    (hlen : xs.length + ys.length ≤ 1000000000) (hlo : lo ≤ w.heap.size) (hd : dOK N (some sd) = true) (hm : m = true → ∀ k, v.ownBlock = some k → X k)
    (h : ∀ v' w1, Own T w1 lo S e v' (xs ++ ys) → w.grownBy w1 v.ownBlock → NewRow w v v' (xs.length + ys.length) → eseq P N X K rest (Env.set E sd v') w1) :
    eseq P N X K (⟨none, some sd, .call { callee := .builtin .append, args := #[x, y], argTypes := #[ts, ts] }, t, m⟩ :: rest) E w := by
  obtain ⟨ad, c, rfl, hc, hnil, hsp, hel⟩ := hys
  cases ad with
  | none =>
    have hc0 := hnil rfl
    have hys0 : ys = [] := List.length_eq_zero_iff.1 (by omega)
    subst hys0; subst hc0
    obtain ⟨inf, zv, h1, h2, h3, h4⟩ := TE.parts
    obtain ⟨cells, hl, hrow, hRx⟩ := hown.row
    refine q_eff rfl fun a ha d => ?_
    have hr := run_append_none (P := P) (w.atd d) lo ts t e inf T.sz TS.under h1 v xs.length cells.flatten hrow
    have hrun : (execOp a.eval (QOp.oper ⟨none, some sd, .call { callee := .builtin .append, args := #[x, y], argTypes := #[ts, ts] }, t, m⟩)).run P (w.atd d) = .ok (.value v) (w.atd d) := by
      simp [execOp, QOp.oper, resolve, invoke, builtin, ha.eval hx, ha.eval hy, hr]
    unfold Oper.wp
    rw [hrun]
    exact ⟨v, w, d, rfl, rfl, hd, (fun _ => RelX.refl _ _), h v w (by simpa using hown) ⟨rfl, rfl, rfl, Nat.le_refl _, fun _ _ _ => rfl⟩ ⟨fun k hk => .inl hk, fun g n0 cap hv _ => by obtain ⟨cells, hl, ⟨_, h1⟩, _⟩ := hown.row; rcases h1 with ⟨h0, _⟩ | ⟨g', cap', cur, h2, _⟩ <;> simp_all⟩⟩
  | some ad =>
    have hpick : ∀ i (hi : i < ys.length), ∃ cs, CellsAt w ad.block (ix ad.off i T.sz) cs ∧ T.R w Sy cs ys[i] := fun i hi => by
      obtain ⟨b, off, he, hE⟩ := hel i hi
      cases he
      exact hE.cells
    -- the cells, one list an element
    have hchoose : ∃ news : List (List Value), news.length = ys.length ∧ (∀ (i : Nat) (c : List Value), news[i]? = some c → CellsAt w ad.block (ix ad.off i T.sz) c) ∧ (∀ (i : Nat) (c : List Value) (u : α), news[i]? = some c → ys[i]? = some u → T.R w Sy c u) := by
      have key : ∀ n, n ≤ ys.length → ∃ news : List (List Value), news.length = n ∧ (∀ (i : Nat) (c : List Value), news[i]? = some c → CellsAt w ad.block (ix ad.off i T.sz) c) ∧ (∀ (i : Nat) (c : List Value) (u : α), news[i]? = some c → ys[i]? = some u → T.R w Sy c u) := by
        intro n
        induction n with
        | zero => exact fun _ => ⟨[], rfl, fun i c h => by simp at h, fun i c u h => by simp at h⟩
        | succ n ih =>
          intro hn
          obtain ⟨news, h1, h2, h3⟩ := ih (by omega)
          obtain ⟨cs, h4, h5⟩ := hpick n (by omega)
          refine ⟨news ++ [cs], by simp [h1], fun i c hc => ?_, fun i c u hc hu => ?_⟩
          · rcases Nat.lt_or_ge i news.length with hi | hi
            · rw [List.getElem?_append_left hi] at hc; exact h2 i c hc
            · rw [List.getElem?_append_right hi] at hc
              have : i = n := by
                have := (List.getElem?_eq_some_iff.1 hc).1; simp at this; omega
              subst this
              simp [h1] at hc; subst hc; exact h4
          · rcases Nat.lt_or_ge i news.length with hi | hi
            · rw [List.getElem?_append_left hi] at hc; exact h3 i c u hc hu
            · rw [List.getElem?_append_right hi] at hc
              have : i = n := by
                have := (List.getElem?_eq_some_iff.1 hc).1; simp at this; omega
              subst this
              simp [h1] at hc; subst hc
              have hlt : i < ys.length := by omega
              simp [hlt] at hu; subst hu; exact h5
      exact key ys.length (Nat.le_refl _)
    obtain ⟨news, h1, h2, h3⟩ := hchoose
    exact q_appendCells TS TE hz (by simpa [Nat.blt_eq] using h0) (by simpa using hbytes) hx hown hy (hsp ad rfl) h1 h2 (fun i c u hc hu => hR c u (h3 i c u hc hu)) hlen hlo hd hm h

theorem madeCells_flat (z : List Value) (n : Nat) : (madeCells z.toArray (n * z.length)).toList = (List.replicate n z).flatten := by
  apply List.ext_getElem?
  intro j
  by_cases hz : z.length = 0
  · have : z = [] := List.length_eq_zero_iff.1 hz
    subst this; simp [madeCells]
  by_cases hj : j < n * z.length
  · have hq : j / z.length < n := Nat.div_lt_of_lt_mul (by rw [Nat.mul_comm]; exact hj)
    have hr : j % z.length < z.length := Nat.mod_lt _ (by omega)
    have := flatten_get (sz := z.length) (List.replicate n z) (j / z.length) (j % z.length) z z[j % z.length] (fun c hc => by rw [List.eq_of_mem_replicate hc]) (by simp [hq]) (by simp)
    rw [show j / z.length * z.length + j % z.length = j by rw [Nat.mul_comm]; exact Nat.div_add_mod j z.length] at this
    rw [this]
    simp [madeCells, hj, hr]
  · have h1 : (List.replicate n z).flatten.length ≤ j := by simp; omega
    rw [List.getElem?_eq_none h1]
    simp [madeCells, hj]
/-- 'make([]T, n)' -/
theorem q_make {x y : Operand} {ts e sz bytes : Nat} {z : List Value} {k k' : IntKind} {n : Nat} [TS : TSlice P ts e sz] [TE : TElem P e bytes z] (hz : z.length = sz) (hx : ev E x = some (.int k n)) (hy : ev E y = some (.int k' n)) (hbytes : Nat.ble bytes 1000 = true) (hn : n ≤ 1000000000)
    (hd : dOK N (some sd) = true) (h : ∀ w1 b, w.heap.size ≤ b → Blk w1 b (List.replicate n z).flatten e → Below w.heap.size w w1 → eseq P N X K rest (Env.set E sd (.slice (some ⟨b, 0, none⟩) n n)) w1) :
    eseq P N X K (⟨none, some sd, .makeSlice ts x y, t, m⟩ :: rest) E w := by
  obtain ⟨inf, zv, h1, h2, h3, h4⟩ := TE.parts
  obtain ⟨inf', h5, h6⟩ := TS.size
  rw [h1] at h5; cases h5
  have hb : bytes ≤ 1000 := by simpa using hbytes
  refine q_eff rfl fun a ha d => ?_
  have hprod : inf.bytes * n ≤ 281474976710656 := by
    have := Nat.mul_le_mul hb hn; rw [h2]; omega
  obtain ⟨w', hr, ho, hg⟩ := run_make_full (P := P) (w.atd d) 0 ts e inf zv sz TS.under h1 h3 h6 k k' n hprod (by unfold maxLen; omega) (Nat.zero_le _)
  have hrun : (execOp a.eval (QOp.oper ⟨none, some sd, .makeSlice ts x y, t, m⟩)).run P (w.atd d) = .ok (.value (.slice (some ⟨w.heap.size, 0, none⟩) n n)) w' := by
    simp [execOp, QOp.oper, ha.eval hx, ha.eval hy, hr]
  have hB : Below w.heap.size w w' := ⟨hg.os, hg.tape, hg.output, hg.size, fun j hj => hg.block j hj (by simp)⟩
  unfold Oper.wp
  rw [hrun]
  refine ⟨_, w', w'.drawn, rfl, rfl, hd, fun _ => .of_below hB, h w' _ (Nat.le_refl _) ?_ hB⟩
  rcases ho.2 with ⟨he, _⟩ | ⟨g, cap, cur, he, _, h8, h9, h10, h11, h12⟩
  · cases he
  · simp only [Value.slice.injEq, Option.some.injEq, Addr.mk.injEq, and_true, true_and] at he
    obtain ⟨rfl, rfl⟩ := he
    unfold Blk
    have : cur.toList = (List.replicate n z).flatten := by
      rw [h4, List.take_of_length_le (by simp [h11])] at h12
      rw [h12, ← hz, madeCells_flat]
    rw [← this]; simpa using h8

/-! a row that lies whole: read as a list, written at one place -/
theorem Only.trans {w0 w1 w2 : World} {b : Nat} (h1 : Only w0 w1 b) (h2 : Only w1 w2 b) : Only w0 w2 b :=
  ⟨h2.os.trans h1.os, h2.tape.trans h1.tape, h2.output.trans h1.output, Nat.le_trans h1.size h2.size, fun k hk hne => (h2.block k (Nat.lt_of_lt_of_le hk h1.size) hne).trans (h1.block k hk hne)⟩

theorem Own.form {lo : Nat} {S : Nat → Prop} {e : TypeId} {v : Value} {xs : List α} (h : Own T w lo S e v xs) (hne : 0 < xs.length) : ∃ g cap cur, v = .slice (some ⟨g, 0, none⟩) xs.length cap ∧ Blk w g cur e ∧ xs.length * T.sz ≤ cur.length := by
  obtain ⟨cells, hl, ⟨hlen, h1⟩, h2⟩ := h.row
  rcases h1 with ⟨h0, hz⟩ | ⟨g, cap, cur, he, h3, h4, h5, h6, h7, h8⟩
  · omega
  · refine ⟨g, cap, cur.toList, he, by unfold Blk; simpa using h4, ?_⟩
    have := Nat.mul_le_mul_right T.sz h5
    simp only [Array.length_toList]; exact Nat.le_trans this h7
end
end Go.Mine

namespace Go.Mine
open Go.RowKit

/-! ### struct values -/
def structPlaces (P : Program) (t : TypeId) : Option (List (Nat × Nat)) :=
  match P.underlying t with
  | some (.struct fs) => fs.toList.mapM fun f => (P.info? f.type).map fun i => (f.offset, i.size)
  | _ => none
class TStruct (P : Program) (t : TypeId) (places : outParam (List (Nat × Nat))) (z : outParam (List Value)) : Prop where
  places0 : structPlaces P t = some places
  zero0 : ((P.info? t).bind TypeInfo.zero).map (fun v => v.cells.toList) = some z
def fillL (places : List (Nat × Nat)) : List Value → List (Nat × List Value) → Option (List Value)
  | cs, [] => some cs
  | cs, (i, c) :: rest => match places[i]? with
    | none => none
    | some (off, size) => bif Nat.beq c.length size && Nat.ble (off + c.length) cs.length then fillL places (setN cs off c) rest else none
inductive Parts (E : Env) : List (Nat × Operand) → List (Nat × Value) → List (Nat × List Value) → Prop
  | nil : Parts E [] [] []
  | cons {i : Nat} {x : Operand} {v : Value} {c : List Value} {ps : List (Nat × Operand)} {vs : List (Nat × Value)} {cs : List (Nat × List Value)} :
      ev E x = some v → v.cells = c.toArray → Parts E ps vs cs → Parts E ((i, x) :: ps) ((i, v) :: vs) ((i, c) :: cs)

theorem length_setN : ∀ (c cs : List Value) (o : Nat), (setN cs o c).length = cs.length
  | [], cs, o => rfl
  | v :: c, cs, o => by rw [setN, length_setN c]; simp
theorem fold_setN (off : Nat) : ∀ (c : List Value) (k : Nat) (A : Array Value), (c.zipIdx k).foldl (fun B p => B.setIfInBounds (off + p.2) p.1) A = (setN A.toList (off + k) c).toArray
  | [], k, A => by simp [setN]
  | v :: c, k, A => by
    rw [List.zipIdx_cons, List.foldl_cons, fold_setN off c (k + 1), setN]
    simp [Nat.add_assoc]
theorem fill_eq {places : List (Nat × Nat)} : ∀ {ps : List (Nat × Operand)} {vs : List (Nat × Value)} {pc : List (Nat × List Value)} {E : Env}, Parts E ps vs pc → ∀ (cs out : List Value), fillL places cs pc = some out →
    Instr.fill (places.toArray[·]?) cs.toArray vs = some out.toArray := by
  intro ps vs pc E h
  induction h with
  | nil => intro cs out h; simp [fillL] at h; subst h; rfl
  | @cons i x v c ps vs pc hx hv _ ih =>
    intro cs out h
    rw [fillL] at h
    cases hp : places[i]? with
    | none => rw [hp] at h; cases h
    | some p =>
      obtain ⟨off, size⟩ := p
      rw [hp] at h
      simp only at h
      cases hc : (Nat.beq c.length size && Nat.ble (off + c.length) cs.length)
      · rw [hc] at h; cases h
      · rw [hc] at h
        simp only [cond_true] at h
        simp only [Bool.and_eq_true] at hc
        have h1 : c.length = size := Nat.eq_of_beq_eq_true hc.1
        have h2 : off + c.length ≤ cs.length := Nat.le_of_ble_eq_true hc.2
        have h3 : v.cells.size = size := by simp [hv, h1]
        have := ih _ _ h
        unfold Instr.fill
        simp only [List.getElem?_toArray, hp, h3]
        have hnot : (decide (size ≠ size) || decide (off + size > cs.toArray.size)) = false := by simp; omega
        have hif : ¬ ((size ≠ size || off + size > cs.toArray.size) = true) := by simp; omega
        simp only [ne_eq, not_true, decide_false, Bool.false_or] at *
        rw [if_neg (by simp; omega)]
        have hf := fold_setN off c 0 cs.toArray
        rw [hv]
        rw [← Array.foldl_toList, Array.toList_zipIdx]
        simp only [Nat.add_zero] at hf
        rw [hf]
        have e1 : (fun x : Nat => places.toArray[x]?) = (fun x : Nat => places[x]?) := by funext x; simp
        rw [e1] at this; exact this

section
variable {P : Program} {N : Fr} {X : Nat → Prop} {K : Env → World → Prop} {E : Env} {w : World} {t : TypeId} {m : Bool} {rest : List QOp} {sd : Nat}
theorem places_run {P : Program} : ∀ (l : List Field) (places : List (Nat × Nat)) (w : World), l.mapM (fun f => (P.info? f.type).map fun i => (f.offset, i.size)) = some places → (l.mapM fun f => (Prod.mk f.offset <$> sizeOf f.type : Sem (Nat × Nat))).run P w = .ok places w
  | [], places, w, h => by simp at h; subst h; simp
  | f :: l, places, w, h => by
    rw [List.mapM_cons] at h
    cases hf : P.info? f.type with
    | none => rw [hf] at h; simp at h
    | some i =>
      rw [hf] at h
      simp only [Option.map_some, Option.bind_eq_bind, Option.bind_some] at h
      cases hl : l.mapM (fun f => (P.info? f.type).map fun i => (f.offset, i.size)) with
      | none => rw [hl] at h; simp at h
      | some ps =>
        rw [hl] at h
        simp at h; subst h
        have ih := places_run l ps w hl
        simp only [List.mapM_cons]
        simp [run_size hf, ih]
theorem q_build {tt : TypeId} {places : List (Nat × Nat)} {z cs : List Value} {ps : List (Nat × Operand)} {vs : List (Nat × Value)} {pc : List (Nat × List Value)} [TS : TStruct P tt places z] (hp : Parts E ps vs pc) (hf : fillL places z pc = some cs) (hd : dOK N (some sd) = true)
    (h : eseq P N X K rest (Env.set E sd (.agg cs.toArray)) w) : eseq P N X K (⟨none, some sd, .build tt ps.toArray, t, m⟩ :: rest) E w := by
  have h1 := TS.places0
  unfold structPlaces at h1
  obtain ⟨zv, h5, h6⟩ := ex_of_map TS.zero0
  split at h1
  · rename_i fs hu
    refine q_pure _ rfl hd (fun a ha w' => ?_) h
    have hvs : (ps.map fun (p : Nat × Operand) => (p.1, a.eval p.2)) = vs := by
      clear hf h h1 hu
      induction hp with
      | nil => rfl
      | cons hx _ _ ih => simp [ha.eval hx, ih]
    have hz : ∃ i, P.info? tt = some i ∧ i.zero = some zv := by
      cases hi : P.info? tt with
      | none => rw [hi] at h5; cases h5
      | some i => rw [hi] at h5; exact ⟨i, rfl, h5⟩
    obtain ⟨i, hi, hzz⟩ := hz
    have hfill := fill_eq (places := places) hp z cs hf
    have hzc : zv.cells = z.toArray := by rw [← h6]
    have hpl := places_run (P := P) fs.toList places w' h1
    simp only [execOp, QOp.oper, Instr.build]
    simp [zeroValue, typeInfo, hi, hzz, run_under hu, hzc]
    have hA : (Array.mapM (fun f => (Prod.mk f.offset <$> sizeOf f.type : Sem (Nat × Nat))) fs).run P w' = .ok places.toArray w' := by
      rw [Array.mapM_eq_mapM_toList]
      simp [hpl]
    simp [hA, hvs]
    rw [show (fun x : Nat => places[x]?) = (fun x : Nat => places.toArray[x]?) from by funext x; simp]
    rw [hfill]
    simp
  · cases h1
end
end Go.Mine

namespace Go.Mine
open Go.RowKit

theorem take_setN : ∀ (zs cs : List Value) (o m : Nat), m ≤ o → (setN cs o zs).take m = cs.take m
  | [], cs, o, m, _ => rfl
  | z :: zs, cs, o, m, h => by
    rw [setN, take_setN zs _ (o + 1) m (by omega), List.take_set]
    rw [List.set_eq_of_length_le (by simp; omega)]

section
variable {α : Type} {T : Ty α} {w w1 : World} {lo : Nat} {S : Nat → Prop} {e g n cap : Nat} {xs : List α}
theorem flatten_set {sz : Nat} : ∀ (cells : List (List Value)) (i j : Nat) (v : Value), (∀ c ∈ cells, c.length = sz) → i < cells.length → j < sz → cells.flatten.set (i * sz + j) v = (cells.modify i (·.set j v)).flatten
  | [], i, j, v, _, h, _ => by simp at h
  | c :: cells, 0, j, v, hl, _, hj => by
    have h0 := hl c (by simp)
    rw [List.flatten_cons, Nat.zero_mul, Nat.zero_add, List.set_append_left _ _ (by omega)]
    simp
  | c :: cells, i + 1, j, v, hl, hi, hj => by
    have h0 := hl c (by simp)
    have ih := flatten_set cells i j v (fun c hc => hl c (by simp [hc])) (by simpa using hi) hj
    rw [List.flatten_cons, List.set_append_right _ _ (by rw [h0, Nat.add_mul]; omega), h0, show (i + 1) * sz + j - sz = i * sz + j from by rw [Nat.add_mul]; omega, ih]
    simp
/-- one cell of an element is written -/
theorem Own.setPart [Inhabited α] {enc : α → List Value} (hR : ∀ w S cs x, T.R w S cs x ↔ cs = enc x) (h : Own T w lo S e (.slice (some ⟨g, 0, none⟩) n cap) xs) (i j : Nat) (hi : i < xs.length) (hj : j < T.sz) (u : Value) (x : α) (hx : enc x = (enc (nth xs i)).set j u)
    (hb : ∀ cs t, Blk w g cs t → Blk w1 g (cs.set (i * T.sz + j) u) t) : Own T w1 lo S e (.slice (some ⟨g, 0, none⟩) n cap) (xs.set i x) := by
  obtain ⟨cells, hl, ⟨hlen, h1⟩, h2⟩ := h.row
  have hcl : ∀ c ∈ cells, c.length = T.sz := fun c hc => by
    obtain ⟨j, hj, rfl⟩ := List.getElem_of_mem hc
    exact T.len (h2 j cells[j] (xs[j]'(by omega)) (by simp) (by simp))
  rcases h1 with ⟨h0, _⟩ | ⟨g', cap', cur, he, h3, h4, h5, h6, h7, h8⟩
  · cases h0
  · simp only [Value.slice.injEq, Option.some.injEq, Addr.mk.injEq, and_true] at he
    obtain ⟨rfl, hn, rfl⟩ := he
    have hb' : Blk w g cur.toList e := by unfold Blk; simpa using h4
    have hb1 := hb _ _ hb'
    have hlt : i * T.sz + j < xs.length * T.sz := by
      have := Nat.mul_le_mul_right T.sz hi; rw [Nat.succ_mul] at this; omega
    refine ⟨cells.modify i (·.set j u), by simp [hl], ⟨?_, .inr ⟨g, cap, (cur.toList.set (i * T.sz + j) u).toArray, by simp [hn], h3, hb1, by simpa using h5, h6, by simpa using h7, ?_⟩⟩, fun k c y hc hy => ?_⟩
    · rw [← flatten_set cells i j u hcl (by omega) hj]; simp [hlen]
    · rw [← flatten_set cells i j u hcl (by omega) hj, ← h8]
      simp [List.take_set]
    · by_cases hk : k = i
      · subst hk
        rw [List.getElem?_set_self hi] at hy
        simp only [Option.some.injEq] at hy
        subst hy
        have hck : cells[k]? = some (cells[k]'(by omega)) := by simp [hl, hi]
        rw [List.getElem?_modify, hck] at hc
        simp only [if_true, Option.map_eq_map, Option.map_some, Option.some.injEq] at hc
        have := (hR _ _ _ _).1 (h2 k _ _ hck (by simp [hi] : xs[k]? = some xs[k]))
        rw [hR, ← hc, this, hx, nth_eq hi]
      · rw [List.getElem?_set_ne (by omega)] at hy
        rw [List.getElem?_modify_ne _ _ (by omega)] at hc
        have := (hR _ _ _ _).1 (h2 k c y hc hy)
        rw [hR]; exact this
/-- what lies behind the row's end may change -/
theorem Own.tail (h : Own T w lo S e (.slice (some ⟨g, 0, none⟩) n cap) xs) (hO : Only w w1 g) (hS : ∀ k, S k → k ≠ g) (off : Nat) (zs : List Value) (hoff : xs.length * T.sz ≤ off) (hb : ∀ cs t, Blk w g cs t → Blk w1 g (setN cs off zs) t) : Own T w1 lo S e (.slice (some ⟨g, 0, none⟩) n cap) xs := by
  obtain ⟨cells, hl, ⟨hlen, h1⟩, h2⟩ := h.row
  rcases h1 with ⟨h0, _⟩ | ⟨g', cap', cur, he, h3, h4, h5, h6, h7, h8⟩
  · cases h0
  · simp only [Value.slice.injEq, Option.some.injEq, Addr.mk.injEq, and_true] at he
    obtain ⟨rfl, hn, rfl⟩ := he
    have hb' : Blk w g cur.toList e := by unfold Blk; simpa using h4
    have hb1 := hb _ _ hb'
    refine ⟨cells, hl, ⟨hlen, .inr ⟨g, cap, (setN cur.toList off zs).toArray, by rw [hn], h3, hb1, h5, h6, by simp [length_setN, h7], ?_⟩⟩, fun j c x hc hx => T.kept ⟨hO.size, fun k hk hs => hO.block k hs (hS k hk.1)⟩ (h2 j c x hc hx)⟩
    simp only [take_setN zs _ off _ hoff]; exact h8
end
section
variable {α : Type} {T : Ty α} {w : World} {lo : Nat} {S : Nat → Prop} {e g n cap : Nat} {xs : List α}
theorem Own.blk (h : Own T w lo S e (.slice (some ⟨g, 0, none⟩) n cap) xs) : n = xs.length ∧ n ≤ cap ∧ ∃ cur, Blk w g cur e ∧ cap * T.sz ≤ cur.length := by
  obtain ⟨cells, hl, ⟨hlen, h1⟩, h2⟩ := h.row
  rcases h1 with ⟨h0, _⟩ | ⟨g', cap', cur, he, h3, h4, h5, h6, h7, h8⟩
  · cases h0
  · simp only [Value.slice.injEq, Option.some.injEq, Addr.mk.injEq, and_true] at he
    obtain ⟨rfl, hn, rfl⟩ := he
    exact ⟨hn, by omega, cur.toList, by unfold Blk; simpa using h4, by simpa using h7⟩
end
section
variable {P : Program} {N : Fr} {X : Nat → Prop} {K : Env → World → Prop} {E : Env} {w : World} {t : TypeId} {m : Bool} {rest : List QOp} {sd : Nat} {α : Type} {T : Ty α}
end
end Go.Mine

namespace Go.Mine
open Go.RowKit

theorem all_nil : ∀ v ∈ ([] : List Value), oneV v = true := fun _ h => by cases h
theorem all_cons {a : Value} {l : List Value} (h : oneV a = true) (t : ∀ v ∈ l, oneV v = true) : ∀ v ∈ a :: l, oneV v = true := fun v hv => by
  rcases List.mem_cons.1 hv with rfl | hv
  · exact h
  · exact t v hv
/-! ### slice literals of several elements -/
def fillS (sz : Nat) : List Value → List (Nat × List Value) → Option (List Value)
  | cs, [] => some cs
  | cs, (i, c) :: rest => bif Nat.beq c.length sz && Nat.ble (i * sz + c.length) cs.length then fillS sz (setN cs (i * sz) c) rest else none
theorem fillS_eq {sz : Nat} : ∀ {ps : List (Nat × Operand)} {vs : List (Nat × Value)} {pc : List (Nat × List Value)} {E : Env}, Parts E ps vs pc → ∀ (cs out : List Value), fillS sz cs pc = some out →
    Instr.fill (fun i => some (i * sz, sz)) cs.toArray vs = some out.toArray := by
  intro ps vs pc E h
  induction h with
  | nil => intro cs out h; simp [fillS] at h; subst h; rfl
  | @cons i x v c ps vs pc hx hv _ ih =>
    intro cs out h
    rw [fillS] at h
    cases hc : (Nat.beq c.length sz && Nat.ble (i * sz + c.length) cs.length)
    · rw [hc] at h; cases h
    · rw [hc] at h
      simp only [cond_true] at h
      simp only [Bool.and_eq_true] at hc
      have h1 : c.length = sz := Nat.eq_of_beq_eq_true hc.1
      have h2 : i * sz + c.length ≤ cs.length := Nat.le_of_ble_eq_true hc.2
      have h3 : v.cells.size = sz := by simp [hv, h1]
      have := ih _ _ h
      unfold Instr.fill
      simp only [h3]
      simp only [ne_eq, not_true, decide_false, Bool.false_or] at *
      rw [if_neg (by simp; omega)]
      have hf := fold_setN (i * sz) c 0 cs.toArray
      rw [hv, ← Array.foldl_toList, Array.toList_zipIdx]
      simp only [Nat.add_zero] at hf
      rw [hf]; exact this
def zs (z : List Value) (n : Nat) : List Value := (List.range (n * z.length)).map fun i => z.getD (i % z.length) undef
section
variable {P : Program} {N : Fr} {X : Nat → Prop} {K : Env → World → Prop} {E : Env} {w : World} {t : TypeId} {m : Bool} {rest : List QOp} {sd : Nat}
theorem q_max {x y : Operand} {k k' : IntKind} {i j : Int} {ts : Array TypeId} (hx : ev E x = some (.int k i)) (hy : ev E y = some (.int k' j)) (hd : dOK N (some sd) = true) (h : eseq P N X K rest (Env.set E sd (.int k (max i j))) w) :
    eseq P N X K (⟨none, some sd, .call { callee := .builtin .max, args := #[x, y], argTypes := ts }, t, m⟩ :: rest) E w :=
  q_pure _ rfl hd (fun a ha w' => by
    have e : (if j > i then j else i) = max i j := by simp only [Int.max_def]; split <;> split <;> omega
    simp [execOp, QOp.oper, resolve, invoke, builtin, ha.eval hx, ha.eval hy, Builtin.max_, Builtin.max2, e]) h
theorem q_min {x y : Operand} {k k' : IntKind} {i j : Int} {ts : Array TypeId} (hx : ev E x = some (.int k i)) (hy : ev E y = some (.int k' j)) (hd : dOK N (some sd) = true) (h : eseq P N X K rest (Env.set E sd (.int k (min i j))) w) :
    eseq P N X K (⟨none, some sd, .call { callee := .builtin .min, args := #[x, y], argTypes := ts }, t, m⟩ :: rest) E w :=
  q_pure _ rfl hd (fun a ha w' => by
    have e : (if j < i then j else i) = min i j := by simp only [Int.min_def]; split <;> split <;> omega
    simp [execOp, QOp.oper, resolve, invoke, builtin, ha.eval hx, ha.eval hy, Builtin.min_, Builtin.min2, e]) h
theorem q_sliceN {ps : List (Nat × Operand)} {vs : List (Nat × Value)} {pc : List (Nat × List Value)} {ts e sz bytes n : Nat} {cs z : List Value} [TS : TSlice P ts e sz] [TE : TElem P e bytes z] (hp : Parts E ps vs pc) (hz0 : Nat.beq z.length sz = true) (hl : fillS sz (zs z n) pc = some cs)
    (h0 : Nat.blt 0 (n * sz) = true) (h24 : Nat.ble (n * sz) 1000 = true) (hd : dOK N (some sd) = true)
    (h : ∀ w1 b, w.heap.size ≤ b → Blk w1 b cs e → Below w.heap.size w w1 → eseq P N X K rest (Env.set E sd (.slice (some ⟨b, 0, none⟩) n n)) w1) : eseq P N X K (⟨none, some sd, .buildSlice ts n ps.toArray, t, m⟩ :: rest) E w := by
  have hz : z.length = sz := Nat.eq_of_beq_eq_true hz0
  obtain ⟨inf, zv, h1, h2, h3, h4⟩ := TE.parts
  obtain ⟨inf', h5, h6⟩ := TS.size
  rw [h1] at h5; cases h5
  have h0' : 0 < n * sz := by simpa [Nat.blt_eq] using h0
  have h24' : n * sz ≤ 1000 := by simpa using h24
  refine q_eff rfl fun a ha d => ?_
  have hvs : (ps.map fun (p : Nat × Operand) => (p.1, a.eval p.2)) = vs := by
    clear hl h
    induction hp with
    | nil => rfl
    | cons hx _ _ ih => simp [ha.eval hx, ih]
  have hf := fillS_eq (sz := sz) hp (zs z n) cs hl
  have hzz : (zs z n).toArray = (Array.range (n * inf.size)).map (zv.cells[· % zv.cells.size]!) := by
    have hlen : 0 < z.length := by
      rcases Nat.eq_zero_or_pos z.length with h | h
      · rw [h] at hz; subst hz; simp at h0'
      · exact h
    rw [h6, h4, zs, hz]
    apply Array.ext'
    simp only [Array.toList_map, Array.toList_range]
    apply List.map_congr_left
    intro i _
    have : i % sz < z.length := by rw [hz] at hlen ⊢; exact Nat.mod_lt _ hlen
    simp [hz, List.getD]
    rw [List.getElem?_eq_getElem (by simpa [hz] using this)]; simp
  have hrun : (execOp a.eval (QOp.oper ⟨none, some sd, .buildSlice ts n ps.toArray, t, m⟩)).run P (w.atd d) = .ok (.value (.slice (some ⟨w.heap.size, 0, none⟩) n n)) ((w.atd d).alloc (.cells cs.toArray e)) := by
    have hb := run_buildSlice (P := P) (w.atd d) ts e n (ps.toArray.map fun (p : Nat × Operand) => (p.1, a.eval p.2)) cs.toArray inf zv TS.under h1 h3 (by rw [h6]; omega) (by rw [h6]; omega) (by
      rw [← hzz, h6]; simp only [List.map_toArray]; rw [hvs]; exact hf)
    simp only [execOp, QOp.oper]
    simp only [Sem.run_bind]
    rw [hb]; rfl
  unfold Oper.wp
  rw [hrun]
  exact ⟨_, _, _, rfl, rfl, hd, fun _ => .of_below (alloc_below w d _), h _ _ (Nat.le_refl _) (alloc_blk w d cs e) (alloc_below w d _)⟩
/-! ### equality of structs and arrays -/
def EqV (P : Program) (d : Nat) (t : TypeId) (x y : Value) (r : Bool) : Prop := ∀ w, (Op.equalIn d t x y).run P w = .ok r w
def EqF (P : Program) (d : Nat) (fs : List Field) (xs ys : Array Value) (r : Bool) : Prop := ∀ w, (Op.eqFields d xs ys fs).run P w = .ok r w
def PartV (P : Program) (t : TypeId) (xs : Array Value) (off : Nat) (v : Value) : Prop := ∀ w, (part t xs off).run P w = .ok v w
theorem PartV.cell {tt off : Nat} {xs : Array Value} {v : Value} [T : TCell P tt] (h : xs[off]? = some v) : PartV P tt xs off v := fun w => by
  obtain ⟨de, h1, h2⟩ := T.under
  have hA := run_isAgg h1 w
  rw [h2] at hA
  simp [part, hA, h]
theorem PartV.agg {tt off n : Nat} {xs zs : Array Value} [T : TAgg P tt n] (h : xs.extract off (off + n) = zs) : PartV P tt xs off (.agg zs) := fun w => by
  obtain ⟨de, h1, h2⟩ := T.under
  obtain ⟨inf, h3, h4⟩ := T.size
  have hA := run_isAgg h1 w
  rw [h2] at hA
  simp [part, hA, run_size h3, h4, h]
theorem EqV.int {d : Nat} {tt : TypeId} {k k' : IntKind} {a b : Int} (h : P.underlying tt = some (.int k')) : EqV P (d + 1) tt (.int k a) (.int k b) (a == b) := fun w => run_equalIn_int w d tt k k' a b h
theorem EqV.bool {d : Nat} {tt : TypeId} {a b : Bool} (h : P.underlying tt = some .bool) : EqV P (d + 1) tt (.bool a) (.bool b) (a == b) := fun w => run_equalIn_bool' w d tt a b h
theorem EqF.nil {d : Nat} {xs ys : Array Value} : EqF P d [] xs ys true := fun w => by simp [Op.eqFields]
theorem EqF.cons {d : Nat} {f : Field} {fs : List Field} {xs ys : Array Value} {x y : Value} {r1 r2 : Bool} (hn : (f.name != "_") = true) (h1 : PartV P f.type xs f.offset x) (h2 : PartV P f.type ys f.offset y) (h3 : EqV P d f.type x y r1) (h4 : EqF P d fs xs ys r2) :
    EqF P d (f :: fs) xs ys (r1 && r2) := fun w => by
  have hn' : f.name ≠ "_" := by simpa using hn
  simp only [Op.eqFields, if_pos hn', Sem.run_bind, h1 w, h2 w, h3 w, Result.andThen_ok]
  cases r1
  · simp
  · simpa using h4 w
theorem EqV.struct {d : Nat} {tt : TypeId} {fs : Array Field} {xs ys : Array Value} {r : Bool} (ht : P.underlying tt = some (.struct fs)) (hp : P.stoodInHeld tt = false) (h : EqF P d fs.toList xs ys r) : EqV P (d + 1) tt (.agg xs) (.agg ys) r := fun w => by
  have hf : P.fieldsOf tt = fs := by simp [Program.fieldsOf, ht]
  rw [run_equalIn_agg w d tt xs ys (by rw [hf]; exact ht) hp, hf]
  exact h w
theorem q_eqlA {x y : Operand} {ty ty' : TypeId} {xs ys : Array Value} {r : Bool} (he : EqV P 10000 ty (.agg xs) (.agg ys) r) (hg : P.eqGuardType P.depth ty = false) (hx : ev E x = some (.agg xs)) (hy : ev E y = some (.agg ys)) (hd : dOK N (some sd) = true) (h : eseq P N X K rest (Env.set E sd (.bool r)) w) :
    eseq P N X K (⟨none, some sd, .binOp .eql ty x y ty', t, m⟩ :: rest) E w :=
  q_pure _ rfl hd (fun a ha w' => by
    simp only [execOp, QOp.oper, ha.eval hx, ha.eval hy, Sem.run_bind, run_eqGuard_agg w' .eql ty x y xs ys hg, Result.andThen_ok, run_eql_struct, he w']; rfl) h
theorem q_neqA {x y : Operand} {ty ty' : TypeId} {xs ys : Array Value} {r : Bool} (he : EqV P 10000 ty (.agg xs) (.agg ys) r) (hg : P.eqGuardType P.depth ty = false) (hx : ev E x = some (.agg xs)) (hy : ev E y = some (.agg ys)) (hd : dOK N (some sd) = true) (h : eseq P N X K rest (Env.set E sd (.bool (!r))) w) :
    eseq P N X K (⟨none, some sd, .binOp .neq ty x y ty', t, m⟩ :: rest) E w :=
  q_pure _ rfl hd (fun a ha w' => by
    simp only [execOp, QOp.oper, ha.eval hx, ha.eval hy, Sem.run_bind, run_eqGuard_agg w' .neq ty x y xs ys hg, Result.andThen_ok, run_neq_struct, he w']; rfl) h
end
end Go.Mine
