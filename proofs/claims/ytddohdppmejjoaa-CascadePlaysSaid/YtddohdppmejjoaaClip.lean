/- Slices that are cut to their length ('slices.Clip'), and appends to them: the row is always a new one. -/
import Derived.Test.YtddohdppmejjoaaTypes
set_option linter.unusedSimpArgs false
set_option linter.unusedVariables false
namespace Go.Mine
open Go.RowKit
def FullS : Value → Prop
  | .slice _ n c => n = c
  | _ => False
section
variable {P : Program} {N : Fr} {X : Nat → Prop} {K : Env → World → Prop} {E : Env} {w : World} {t : TypeId} {m : Bool} {rest : List QOp} {sd : Nat} {α : Type} {T : Ty α}
theorem q_clip {x hi mx : Operand} {ts e : Nat} {S : Nat → Prop} {v : Value} {xs : List α} {k' k'' : IntKind} (TS : TSlice P ts e T.sz) (hx : ev E x = some v) (hs : IsSlice T w S v xs) (hh : ev E hi = some (.int k' (xs.length : Int))) (hm : ev E mx = some (.int k'' (xs.length : Int)))
    (hd : dOK N (some sd) = true) (h : ∀ v', IsSlice T w S v' xs → FullS v' → eseq P N X K rest (Env.set E sd v') w) : eseq P N X K (⟨none, some sd, .slice ts x none (some hi) (some mx), t, m⟩ :: rest) E w := by
  obtain ⟨ad, cap, rfl, h2, h3, h4, h5⟩ := id hs
  obtain ⟨inf, h6, h7⟩ := TS.size
  have hnew : IsSlice T w S (.slice (if xs.length = 0 then ad else ad.map (·.add 0)) xs.length xs.length) xs := by
    refine ⟨_, _, rfl, Nat.le_refl _, fun hn => ?_, fun a ha hne => ?_, fun i hi => ?_⟩
    · split at hn
      · rename_i e; exact e
      · cases ad with
        | none => have := h3 rfl; omega
        | some a => cases hn
    · have hl : xs.length ≠ 0 := fun e => hne (List.length_eq_zero_iff.1 e)
      rw [if_neg hl] at ha
      cases ad with
      | none => cases ha
      | some a0 =>
        simp only [Option.map_some, Option.some.injEq] at ha
        subst ha
        unfold Addr.add; split
        · exact h4 a0 rfl hne
        · rfl
    · obtain ⟨b, off, rfl, hel⟩ := h5 i hi
      exact ⟨b, off, by rw [if_neg (by omega)]; simp [add_mk], hel⟩
  refine q_pure _ rfl hd (fun a ha w' => ?_) (h _ hnew rfl)
  simp [execOp, QOp.oper, ha.eval hx, ha.eval hh, ha.eval hm, Instr.sliceAt, Instr.slice, Instr.sliceBounds, run_sliceBound h2, run_sliceBound (Nat.le_refl xs.length), run_under TS.under, run_size h6]
theorem q_take3 {x hi mx : Operand} {ts e : Nat} {S : Nat → Prop} {v : Value} {xs ys : List α} {k' k'' : IntKind} {j : Int} (TS : TSlice P ts e T.sz) (hx : ev E x = some v) (hs : IsSlice T w S v xs) (hh : ev E hi = some (.int k' j)) (hm : ev E mx = some (.int k'' j)) (hj : takeL xs j = some ys)
    (hd : dOK N (some sd) = true) (h : ∀ v', IsSlice T w S v' ys → FullS v' → eseq P N X K rest (Env.set E sd v') w) : eseq P N X K (⟨none, some sd, .slice ts x none (some hi) (some mx), t, m⟩ :: rest) E w := by
  obtain ⟨h0, h1, rfl⟩ := takeL_eq hj
  obtain ⟨n, rfl⟩ := Int.eq_ofNat_of_zero_le h0
  have hn : n ≤ xs.length := by simpa using h1
  obtain ⟨ad, cap, rfl, h2, h3, h4, h5⟩ := id hs
  obtain ⟨inf, h6, h7⟩ := TS.size
  have hlen : (xs.take n).length = n := by simp; omega
  have hnew : IsSlice T w S (.slice (if n = 0 then ad else ad.map (·.add 0)) n n) (xs.take n) := by
    refine ⟨_, _, by rw [hlen], by rw [hlen]; exact Nat.le_refl _, fun hz => ?_, fun a ha hne => ?_, fun i hi => ?_⟩
    · split at hz
      · rename_i e; exact e
      · cases ad with
        | none => have := h3 rfl; omega
        | some a => cases hz
    · have hl : n ≠ 0 := fun e => hne (by simp [e])
      have hxs : xs ≠ [] := fun e => hne (by simp [e])
      rw [if_neg hl] at ha
      cases ad with
      | none => cases ha
      | some a0 =>
        simp only [Option.map_some, Option.some.injEq] at ha
        subst ha
        unfold Addr.add; split
        · exact h4 a0 rfl hxs
        · rfl
    · have hi' : i < n := by omega
      obtain ⟨b, off, rfl, hel⟩ := h5 i (by omega)
      exact ⟨b, off, by rw [if_neg (by omega)]; simp [add_mk], by simpa using hel⟩
  refine q_pure _ rfl hd (fun a ha w' => ?_) (h (.slice (if n = 0 then ad else ad.map (·.add 0)) n n) (by simpa using hnew) rfl)
  simp [execOp, QOp.oper, ha.eval hx, ha.eval hh, ha.eval hm, Instr.sliceAt, Instr.slice, Instr.sliceBounds, run_sliceBound (show n ≤ cap by omega), run_sliceBound (Nat.le_refl n), run_under TS.under, run_size h6]
theorem run_append_clip (w : World) (t ty e : TypeId) (i : TypeInfo) (z : Value) (size bytes : Nat) (ht : P.underlying t = some (.slice e)) (hi : P.info? e = some i) (hz : i.zero = some z)
    (hsize : i.size = size) (hby : i.bytes = bytes) (hzs : z.cells.size = size)
    (b : Addr) (n : Nat) (olds : List Value) (hlo : olds.length = n * size) (holds : ∀ j v, olds[j]? = some v → w.cell? (b.add j) = some v)
    (a : Addr) (m c : Nat) (news : List Value) (hl : news.length = m * size) (hnews : ∀ j u, news[j]? = some u → w.cell? (a.add j) = some u) (h0 : 0 < m)
    (h63 : n + m ≤ maxLen) (hbytes : (n + m) * bytes ≤ 140737488355328) :
    ∃ v' w', (Builtin.append_ #[t, t] ty #[.slice (some b) n n, .slice (some a) m c]).run P w = .ok v' w' ∧ w'.ownsRow 0 e size v' (n + m) (olds ++ news) ∧ w.grownBy w' none ∧ ∀ k, v'.ownBlock = some k → w.heap.size ≤ k := by
  subst hsize; subst hby
  have hsm : n + m ≤ 9223372036854775807 := by simp only [maxLen] at h63; omega
  have hr := run_append_grow (P := P) w t ty e i z ht hi hz b n n olds hlo holds a m c news hl hnews (by omega) (by omega) (growslice_fits (by omega) hbytes)
  have hlen : (olds ++ news).length = (n + m) * i.size := by rw [List.length_append, hlo, hl, Nat.add_mul]
  have hge := grownCap_ge w (n + m) n e
  refine ⟨_, _, hr, ⟨hlen, .inr ⟨_, _, _, rfl, Nat.zero_le _, heap_alloc_new w.drew _, hge, grownCap_le_maxLen w (n + m) n e h63, ?_, ?_⟩⟩, ⟨rfl, rfl, rfl, by simp, fun k hk _ => heap_alloc_old w.drew _ hk⟩, fun k hk => ?_⟩
  · simp only [Array.size_append, List.size_toArray, size_zeroCells, hzs, hlo, hl, ← Nat.add_mul]
    congr 1; omega
  · simp only [Array.toList_append]
    rw [← hlen]
    exact List.take_left
  · simp [Value.ownBlock] at hk; omega
theorem cflat_len {cs : List (List Value)} {sz : Nat} (h : ∀ c ∈ cs, c.length = sz) : cs.flatten.length = cs.length * sz := by
  induction cs with
  | nil => simp
  | cons c cs ih => rw [List.flatten_cons, List.length_append, h c (by simp), ih fun c hc => h c (by simp [hc]), List.length_cons, Nat.add_mul]; omega
theorem flat_cells {cs : List (List Value)} {sz b off : Nat} (h0 : 0 < sz) (h : ∀ c ∈ cs, c.length = sz) (hc : ∀ (i : Nat) (c : List Value), cs[i]? = some c → CellsAt w b (ix off i sz) c) : ∀ j u, cs.flatten[j]? = some u → w.cell? ((⟨b, off, none⟩ : Addr).add j) = some u := by
  intro j u hj
  rw [add_mk]
  have hjl : j < cs.length * sz := by rw [← cflat_len h]; exact (List.getElem?_eq_some_iff.1 hj).1
  have hq : j / sz < cs.length := Nat.div_lt_of_lt_mul (by rw [Nat.mul_comm]; exact hjl)
  have hr : j % sz < sz := Nat.mod_lt _ h0
  have hce : cs[j / sz]? = some cs[j / sz] := by simp [hq]
  have hcl := h cs[j / sz] (by simp)
  have hce2 : (cs[j / sz])[j % sz]? = some ((cs[j / sz])[j % sz]'(by omega)) := by simp
  have := flatten_get cs (j / sz) (j % sz) _ _ h hce hce2
  have hdm : j / sz * sz + j % sz = j := by rw [Nat.mul_comm]; exact Nat.div_add_mod j sz
  rw [hdm, hj] at this
  have hu : (cs[j / sz])[j % sz]'(by omega) = u := by simpa using this.symm
  have h5 := hc _ _ hce (j % sz) u (by rw [hce2, hu])
  have e1 : ix off (j / sz) sz + j % sz = off + j := by rw [ix_eq]; omega
  rw [e1] at h5; exact h5
/-- 'append(slices.Clip(xs), ys...)' -/
theorem q_catClip {enc : α → List Value} [hE : Enc T enc] {x y : Operand} {ts e e' bytes lo' : Nat} {z : List Value} {S Sx Sy : Nat → Prop} {v vy : Value} {xs ys zs : List α} [TS : TSlice P ts e T.sz] [TE : TElem P e bytes z] (hz : Nat.beq z.length T.sz = true) (h0 : Nat.blt 0 T.sz = true) (hbytes : Nat.ble bytes 1000 = true)
    (hx : ev E x = some v) (hs : IsSlice T w Sx v xs) (hf : FullS v) (hy : ev E y = some vy) (hys : Own T w lo' Sy e' vy ys) (hne : ys ≠ [])
    (hlen : catL xs ys = some zs) (hd : dOK N (some sd) = true)
    (h : ∀ v' w1, Own T w1 0 S e v' zs → w.grownBy w1 (Value.ownBlock (.slice none 0 0)) → NewRow w (.slice none 0 0) v' (xs.length + ys.length) → eseq P N X K rest (Env.set E sd v') w1) :
    eseq P N X K (⟨none, some sd, .call { callee := .builtin .append, args := #[x, y], argTypes := #[ts, ts] }, t, m⟩ :: rest) E w := by
  obtain ⟨ad, cap, rfl, hc, hnil, hsp, hel⟩ := hs
  have hfc : xs.length = cap := hf
  subst hfc
  have hz' : z.length = T.sz := by simpa using hz
  have h0' : 0 < T.sz := by simpa [Nat.blt_eq] using h0
  have hb' : bytes ≤ 1000 := by simpa using hbytes
  cases ad with
  | none =>
    have hx0 : xs = [] := List.length_eq_zero_iff.1 (hnil rfl)
    subst hx0
    exact q_catOwn (lo := 0) (S := S) (xs := []) hz h0 hbytes hx (Own.nil T w 0 S e) hy (Sy := fun _ => False) (lo' := lo') (e' := e') ⟨by obtain ⟨cells, h1, h2, h3⟩ := hys.row; exact ⟨cells, h1, h2, fun i c u hc hu => (hE.R _ _ _ _).2 ((hE.R _ _ _ _).1 (h3 i c u hc hu))⟩⟩ (fun k hk => hk.elim) hlen (Nat.zero_le _) hd (fun _ k hk => by cases hk) h
  | some a0 =>
    obtain ⟨h1, rfl⟩ := catL_eq hlen
    obtain ⟨inf, zv, i1, i2, i3, i4⟩ := TE.parts
    obtain ⟨inf', i5, i6⟩ := TS.size
    rw [i1] at i5; cases i5
    have hol : ∀ c ∈ xs.map enc, c.length = T.sz := fun c hc => by
      obtain ⟨u, _, rfl⟩ := List.mem_map.1 hc
      exact T.len ((hE.R w (fun _ => True) _ _).2 rfl)
    have holds : ∀ j u, (xs.map enc).flatten[j]? = some u → w.cell? (a0.add j) = some u := by
      intro j u hj
      have hxn : xs ≠ [] := by rintro rfl; simp at hj
      have hpos : 0 < xs.length := List.length_pos_iff.2 hxn
      obtain ⟨b, off, hb, _⟩ := hel 0 hpos
      cases hb
      refine flat_cells (w := w) h0' hol (fun i c hic => ?_) j u hj
      rw [List.getElem?_map] at hic
      cases hxi : xs[i]? with
      | none => rw [hxi] at hic; cases hic
      | some u0 =>
        rw [hxi] at hic
        simp only [Option.map_some, Option.some.injEq] at hic
        subst hic
        obtain ⟨hi, hu⟩ := List.getElem?_eq_some_iff.1 hxi
        obtain ⟨b', off', hb', h5⟩ := hel i hi
        cases hb'
        obtain ⟨_, _, cs, h6, h7⟩ := h5
        rw [hu] at h7
        rw [← (hE.R _ _ _ _).1 h7]; exact h6
    obtain ⟨cells, hl, hrow, hcR⟩ := hys.row
    rcases hrow.2 with ⟨rfl, hn⟩ | ⟨g, cap, cur, rfl, _⟩
    · exact absurd (List.length_eq_zero_iff.1 hn) hne
    have hcl : ∀ c ∈ cells, c.length = T.sz := fun c hc1 => by
      obtain ⟨k, hk, rfl⟩ := List.getElem_of_mem hc1
      exact T.len (hcR k cells[k] (ys[k]'(by omega)) (by simp) (by simp))
    have hnews := hrow.cells (g := g) rfl
    refine q_eff rfl fun a ha d => ?_
    have hl1 : xs.length + ys.length ≤ maxLen := by unfold maxLen; omega
    have hl2 : (xs.length + ys.length) * bytes ≤ 140737488355328 := by
      have := Nat.mul_le_mul h1 hb'; omega
    obtain ⟨v', w', hr, ho, hg, hblk⟩ := run_append_clip (P := P) (w.atd d) ts t e inf zv T.sz bytes TS.under i1 i3 i6 i2 (by rw [i4]; simpa using hz') a0 xs.length (xs.map enc).flatten (by rw [cflat_len hol]; simp) holds ⟨g, 0, none⟩ ys.length cap cells.flatten hrow.1 hnews (List.length_pos_iff.2 hne) hl1 hl2
    have hrun : (execOp a.eval (QOp.oper ⟨none, some sd, .call { callee := .builtin .append, args := #[x, y], argTypes := #[ts, ts] }, t, m⟩)).run P (w.atd d) = .ok (.value v') w' := by
      simp [execOp, QOp.oper, resolve, invoke, builtin, ha.eval hx, ha.eval hy, hr]
    unfold Oper.wp
    rw [hrun]
    refine ⟨v', w', w'.drawn, rfl, rfl, hd, (fun hmm => ⟨hg.os, hg.tape, hg.output, hg.size, fun k hk hx => hg.block k hk (by simp)⟩), h v' w' ?_ ⟨hg.os, hg.tape, hg.output, hg.size, fun k hk _ => hg.block k hk (by simp)⟩ ⟨fun k hk => .inr (hblk k hk), fun g n0 cap hv => by cases hv⟩⟩
    refine ⟨xs.map enc ++ cells, by simp [hl], by rw [List.flatten_append, List.length_append]; exact Row.of ho, fun i c u hc hu => ?_⟩
    refine (hE.R _ _ _ _).2 ?_
    rcases Nat.lt_or_ge i xs.length with hi | hi
    · rw [List.getElem?_append_left (by simpa using hi)] at hc
      rw [List.getElem?_append_left hi] at hu
      rw [List.getElem?_map, hu] at hc
      simpa using hc.symm
    · rw [List.getElem?_append_right (by simpa using hi)] at hc
      rw [List.getElem?_append_right hi] at hu
      rw [List.length_map] at hc
      exact (hE.R _ _ _ _).1 (hcR _ c u hc hu)
/-! a part of a slice of one's own, cut to its length, and what lies behind the next element appended to it -/
def clipV : Value → Nat → Value
  | .slice a _ _, n => .slice a n n
  | v, _ => v
theorem clipV_own (v : Value) (n : Nat) : (clipV v n).ownBlock = v.ownBlock := by
  unfold clipV; split
  · rename_i a _ _; cases a <;> rfl
  · rfl
theorem Own.clip {lo : Nat} {S : Nat → Prop} {e : TypeId} {v : Value} {xs ys : List α} {j : Int} (h : Own T w lo S e v xs) (hj : takeL xs j = some ys) : Own T w lo S e (clipV v j.toNat) ys := by
  obtain ⟨h0, h1, rfl⟩ := takeL_eq hj
  have hk : j.toNat ≤ xs.length := by omega
  generalize j.toNat = k at hk
  obtain ⟨cells, hl, ⟨hlen, hrow⟩, hRx⟩ := h.row
  have hcl : ∀ c ∈ cells, c.length = T.sz := fun c hc => by
    obtain ⟨q, hq, rfl⟩ := List.getElem_of_mem hc
    exact T.len (hRx q cells[q] (xs[q]'(by omega)) (by simp) (by simp))
  have hlk : (xs.take k).length = k := by simp; omega
  have hfk : (cells.take k).flatten.length = k * T.sz := by rw [flat_len _ fun c hc => hcl c (List.mem_of_mem_take hc), List.length_take, Nat.min_eq_left (by omega)]
  refine ⟨cells.take k, by simp [hl], ?_, fun i c x hc hx => ?_⟩
  · rw [hlk]
    refine ⟨hfk, ?_⟩
    rcases hrow with ⟨rfl, h2⟩ | ⟨g, cap, cur, rfl, h3, h4, h5, h6, h7, h8⟩
    · have : k = 0 := by omega
      subst this
      exact .inl ⟨rfl, rfl⟩
    · refine .inr ⟨g, k, cur, rfl, h3, h4, Nat.le_refl _, by omega, Nat.le_trans (Nat.mul_le_mul_right _ (by omega)) h7, ?_⟩
      rw [flat_take _ _ hcl, ← h8, List.take_take, Nat.min_eq_left (Nat.mul_le_mul_right _ hk)]
  · rw [clipV_own]
    have hi : i < k := by have := (List.getElem?_eq_some_iff.1 hx).1; omega
    rw [List.getElem?_take_of_lt hi] at hc hx
    exact hRx i c x hc hx
theorem q_clipO {x hi mx : Operand} {ts e e' l0 : Nat} {S : Nat → Prop} {v : Value} {xs ys : List α} {k' k'' : IntKind} {j : Int} (TS : TSlice P ts e T.sz) (hx : ev E x = some v) (hown : Own T w l0 S e' v xs) (hh : ev E hi = some (.int k' j)) (hmx : ev E mx = some (.int k'' j)) (hj : takeL xs j = some ys)
    (hd : dOK N (some sd) = true) (h : eseq P N X K rest (Env.set E sd (clipV v j.toNat)) w) : eseq P N X K (⟨none, some sd, .slice ts x none (some hi) (some mx), t, m⟩ :: rest) E w := by
  obtain ⟨h0, h1, rfl⟩ := takeL_eq hj
  obtain ⟨n, rfl⟩ := Int.eq_ofNat_of_zero_le h0
  obtain ⟨ad, cap, rfl, h2, _⟩ := hown.isSlice
  obtain ⟨inf, h5, h6⟩ := TS.size
  have hn : n ≤ xs.length := by simpa using h1
  refine q_pure _ rfl hd (fun a ha w' => ?_) h
  simp [execOp, QOp.oper, ha.eval hx, ha.eval hh, ha.eval hmx, Instr.sliceAt, Instr.slice, Instr.sliceBounds, run_sliceBound (show n ≤ cap by omega), run_sliceBound (Nat.le_refl n), run_under TS.under, run_size h5, clipV]
  intro _
  obtain ⟨cells, hl, ⟨hlen, hrow⟩, hRx⟩ := hown.row
  rcases hrow with ⟨he, _⟩ | ⟨g, cap', cur, he, _⟩
  · simp only [Value.slice.injEq] at he; rw [he.1]; rfl
  · simp only [Value.slice.injEq] at he; rw [he.1]; rfl
theorem q_cutO {enc : α → List Value} [hE : Enc T enc] {x y : Operand} {ts e bytes lo : Nat} {z : List Value} {S : Nat → Prop} {v : Value} {xs us bs zs : List α} {i j : Int} [TS : TSlice P ts e T.sz] [TE : TElem P e bytes z] (hz : z.length = T.sz) (h0 : Nat.blt 0 T.sz = true) (hbytes : Nat.ble bytes 1000 = true)
    (hx : ev E x = some (clipV v i.toNat)) (hown : Own T w lo S e v xs) (hy : ev E y = some (sufV T.sz v j.toNat)) (ha : takeL xs i = some us) (hb : dropL xs j = some bs)
    (hlen : catL us bs = some zs) (hlo : lo ≤ w.heap.size) (hd : dOK N (some sd) = true) (hm : m = true → ∀ k, v.ownBlock = some k → X k)
    (h : ∀ v' w1, Own T w1 lo S e v' zs → w.grownBy w1 v.ownBlock → (∀ k, v'.ownBlock = some k → v.ownBlock = some k ∨ w.heap.size ≤ k) → eseq P N X K rest (Env.set E sd v') w1) :
    eseq P N X K (⟨none, some sd, .call { callee := .builtin .append, args := #[x, y], argTypes := #[ts, ts] }, t, m⟩ :: rest) E w := by
  obtain ⟨h1, rfl⟩ := catL_eq hlen
  have hc := hown.clip ha
  obtain ⟨g0, g1, rfl⟩ := dropL_eq hb
  have hs := hown.isSlice
  obtain ⟨ad, cap, rfl, h2, _⟩ := id hs
  have hcut := hs.cut j.toNat xs.length g1 (Nat.le_refl _)
  rw [List.take_of_length_le (by simp)] at hcut
  have hsuf : IsSlice T w (fun k => S k ∨ lo ≤ k) (sufV T.sz (.slice ad xs.length cap) j.toNat) (xs.drop j.toNat) := hcut
  refine q_appendS hz h0 hbytes hx hc hy hsuf (fun c u hcu => (hE.R _ _ _ _).2 ((hE.R _ _ _ _).1 hcu)) h1 hlo hd (fun h k hk => hm h k (by rwa [clipV_own] at hk)) fun v' w1 ho hg hn => h v' w1 ho (by rwa [clipV_own] at hg) fun k hk => ?_
  have := hn.blk k hk
  rwa [clipV_own] at this
theorem Sep.setOwnB {F R0 R : Nat → Prop} {w0 w w' : World} {cs : List HP} (h : Sep F R0 R w0 w cs) (i : Nat) {S : Nat → Prop} {e : TypeId} {v v' : Value} {xs ys : List α} (hi : cs[i]? = some (HP.own T S e v xs)) (ho : Own T w' 0 S e v' ys) (hg : w.grownBy w' v.ownBlock)
    (hb : ∀ k, v'.ownBlock = some k → v.ownBlock = some k ∨ w.heap.size ≤ k) : Sep F R0 R w0 w' (cs.set i (.own T S e v' ys)) :=
  h.set i hi (StepF.of_grown hg fun k hk => hk) ho (fun k hk => (hb k hk).imp (fun h => h) fun h1 => ⟨h1, (ho.lt k hk).2⟩) (fun k hk => h.dep _ (List.mem_of_getElem? hi) k hk)
end
end Go.Mine
