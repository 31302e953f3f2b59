/- Chapter 32, plain: drawn lineages. -/
import Derived.Test.YtbmjcbhappjnaaaA32m
import Derived.Test.YtbmjcbhappjnaaaP32a
set_option linter.unusedSimpArgs false
set_option linter.unusedVariables false
namespace Go.Mine
open Go.RowKit
theorem next_o {fuel : Nat} {c : List Int} {i n : Int} (h : COk c i) (hn : 0 < n) : Ok (make_Codes_Next fuel n c i) fun r => 0 ≤ r.1 ∧ r.1 < n ∧ COk c r.2 := by
  obtain ⟨x, j, h1, h2, h3, h4, -⟩ := next_ok (fuel := fuel) h hn
  exact ⟨_, h1, h2, h3, h4⟩
theorem int_o {fuel : Nat} {c : List Int} {i : Int} (h : COk c i) : Ok (make_Codes_Int fuel c i) fun r => I64 r.1 ∧ COk c r.2 := by
  unfold make_Codes_Int
  refine (next_o h (by omega)).bind fun r ⟨_, _, h1⟩ => Ok.iteE (fun _ => ?_) fun _ => ?_
  · refine (next_o h1 (by simp)).bind fun r2 ⟨h2, h3, h4⟩ => (Ok.at h2 h3).bind fun x hx => Ok.ret ⟨?_, h4⟩
    have := List.mem_of_getElem? hx
    simp only [List.mem_cons, List.not_mem_nil, or_false] at this
    rcases this with h | h | h | h | h | h | h | h | h | h <;> subst h <;> simp only [I64] <;> omega
  · refine (next_o h1 (by omega)).bind fun r2 ⟨h2, h3, h4⟩ => Ok.ret ⟨?_, h4⟩
    simp only
    rw [w64_id (by omega) (by omega)]; exact ⟨by omega, by omega⟩
/-- an arc of a pattern -/
structure ArcI (n : Nat) (lens : List Int) (a : Arc) : Prop where
  fr : 0 ≤ a.fr ∧ a.fr < n
  to : 0 ≤ a.to ∧ a.to < n
  ix : 0 ≤ a.ix ∧ a.ix ≤ nI lens a.fr
  rcv : 0 ≤ a.rcv ∧ a.rcv ≤ nI lens a.to
structure PatI (n : Nat) (B : Nat) (p : Pat) : Prop where
  len : p.lens.length = n
  ck : p.ckpts.length = n
  rng : ∀ x ∈ p.lens, 0 ≤ x ∧ x ≤ B
  row : ∀ r ∈ p.ckpts, 0 < r.length ∧ r.length ≤ B + 1
  arc : ∀ a ∈ p.arcs, ArcI n p.lens a
  al : p.arcs.length ≤ B
theorem PatI.mono {n B C : Nat} {p : Pat} (h : PatI n B p) (hc : B ≤ C) : PatI n C p :=
  ⟨h.len, h.ck, fun x hx => by have := h.rng x hx; omega, fun r hr => by have := h.row r hr; omega, h.arc, by have := h.al; omega⟩
theorem proc_o {fuel : Nat} {p : Pat} {q : Int} : ref16_proc fuel p q = some (decide (0 ≤ q) && decide (q < (p.lens.length : Int))) := by
  unfold ref16_proc; simp [andM_some]
theorem mark_o {fuel : Nat} {n B : Nat} {p : Pat} {q : Int} (h : PatI n B p) (h0 : 0 ≤ q) (h1 : q < n) (hB : B ≤ 100000) (hn : n ≤ 100) : Ok (ref16_Mark fuel p q) fun p' => PatI n (B + 1) p' := by
  have h' := h
  obtain ⟨hl, hk, hr, hw, ha, hal⟩ := h'
  unfold ref16_Mark
  rw [proc_o, Option.bind_some]
  refine Ok.ite (fun hc => Ok.ret (h.mono (by omega))) fun _ => ?_
  refine (Ok.at h0 (by omega)).bind fun x hx => ?_
  have hxr := hw x (List.mem_of_getElem? hx)
  rw [w64_id (by omega) (by omega)]
  refine (Ok.at (by omega) (by omega)).bind fun y hy => (Ok.at h0 (by omega)).bind fun z hz => Ok.iteE (fun _ => Ok.ret (h.mono (by omega))) fun _ => ?_
  refine (Ok.cat (by simp; omega)).bind fun c hc => ?_
  unfold ref16_Mark_J1
  subst hc
  refine (Ok.at h0 (by omega)).bind fun z2 hz2 => (Ok.cat (by simp; omega)).bind fun c2 hc2 => ?_
  subst hc2
  refine (Ok.snoc (by first | omega | (simp; omega))).bind fun c3 hc3 => ?_
  subst hc3
  refine (Ok.at h0 (by simp; omega)).bind fun y2 hy2 => (Ok.set h0 (by simp; omega)).bind fun c4 hc4 => Ok.ret ?_
  subst hc4
  refine ⟨hl, by simp [hk], fun x hx => by have := hr x hx; omega, fun r hr2 => ?_, ha, by simp only; omega⟩
  rcases mem_set hr2 with h5 | rfl
  · have := hw r (by simpa using h5); omega
  · simp; omega
theorem ArcI.grow {n : Nat} {lens : List Int} {q x : Int} {a : Arc} (h : ArcI n lens a) (h0 : 0 ≤ q) (h1 : q < lens.length) (hx : nI lens q ≤ x) : ArcI n (lens.set q.toNat x) a := by
  obtain ⟨a1, a2, a3, a4⟩ := h
  refine ⟨a1, a2, ?_, ?_⟩
  · rw [nI_set h0 h1 a1.1]; split
    · rename_i e; rw [e] at a3; omega
    · exact a3
  · rw [nI_set h0 h1 a2.1]; split
    · rename_i e; rw [e] at a4; omega
    · exact a4
theorem append_o {fuel : Nat} {n B : Nat} {p : Pat} {q s i : Int} (h : PatI n B p) (h0 : 0 ≤ q) (h1 : q < n) (hB : B ≤ 100000) (hn : n ≤ 100) : Ok (ref16_Append fuel p q s i) fun r => r.2 = true → PatI n (B + 1) r.1 := by
  obtain ⟨hl, hk, hr, hw, ha, hal⟩ := h
  unfold ref16_Append
  rw [proc_o, Option.bind_some]
  refine Ok.bind (Q := fun b => True) (Ok.orM (fun _ => (Ok.at h0 (by omega)).bind fun x hx => Ok.ret trivial) fun _ => trivial) fun b _ => Ok.ite (fun _ => Ok.ret (by simp)) fun _ => ?_
  refine (Ok.cat (by simp; omega)).bind fun c1 e1 => (Ok.cat (by simp; omega)).bind fun c2 e2 => ?_
  subst e1 e2
  simp only [List.nil_append]
  unfold ref16_Append_J1
  refine (Ok.at h0 (by omega)).bind fun x hx => (Ok.at h0 (by omega)).bind fun x2 hx2 => (Ok.set h0 (by omega)).bind fun l hl2 => ?_
  have hxr := hr x (List.mem_of_getElem? hx)
  rw [w64_id (by omega) (by omega)] at hl2
  subst hl2
  have key : ∀ arcs, (∀ a ∈ arcs, ArcI n (p.lens.set q.toNat (x + 1)) a) → arcs.length ≤ B + 1 → PatI n (B + 1) ⟨p.lens.set q.toNat (x + 1), p.ckpts, arcs⟩ := fun arcs h5 h6 =>
    ⟨by simp [hl], hk, fun y hy => by
      rcases mem_set hy with h7 | rfl
      · have := hr y h7; omega
      · omega, fun r hr2 => by have := hw r hr2; omega, h5, h6⟩
  have grow : ∀ a ∈ p.arcs, ArcI n (p.lens.set q.toNat (x + 1)) a := fun a h5 => (ha a h5).grow h0 (by omega) (by rw [nI_some hx]; omega)
  refine Ok.iteE (fun _ => Ok.ret fun _ => key _ grow (by omega)) fun _ => ?_
  rw [proc_o, Option.bind_some]
  simp only [orM_some, Option.bind_some]
  refine Ok.bind (Q := fun b => b = false → (0 ≤ s ∧ s < n ∧ s ≠ q ∧ 0 ≤ i ∧ i ≤ nI p.lens s)) (Ok.orM (fun hc => ?_) fun _ => by simp) fun b hb => ?_
  · simp at hc
    refine (Ok.at (by omega) (by omega)).bind fun y hy => Ok.ret fun h5 => ?_
    rw [nI_some hy]; simp at h5; omega
  · refine Ok.ite (fun _ => Ok.ret (by simp)) fun hc => ?_
    have hb2 := hb (by simp at hc; exact hc.1)
    refine (Ok.at h0 (by simp; omega)).bind fun y hy => (Ok.snoc (by omega)).bind fun c3 e3 => Ok.ret fun _ => ?_
    subst e3
    refine key _ (fun a h5 => ?_) (by simp; omega)
    rcases List.mem_append.1 h5 with h6 | h6
    · exact grow a h6
    · obtain rfl : a = _ := by simpa using h6
      have hyx : y = x + 1 := by rw [getElem?_set' (by omega)] at hy; simpa using hy.symm
      refine ⟨⟨hb2.1, hb2.2.1⟩, ⟨h0, h1⟩, ⟨hb2.2.2.2.1, ?_⟩, ⟨by simp only; omega, ?_⟩⟩
      · simp only; rw [nI_set h0 (by omega) hb2.1, if_neg hb2.2.2.1]; exact hb2.2.2.2.2
      · simp only; rw [nI_set h0 (by omega) h0, if_pos rfl]; omega
theorem with_o {fuel : Nat} {n B : Nat} {p : Pat} {q s i : Int} (h : PatI n B p) (h0 : 0 ≤ q) (h1 : q < n) (hB : B ≤ 100000) (hn : n ≤ 100) : Ok (make_with fuel p q s i) fun p' => PatI n (B + 1) p' := by
  unfold make_with
  refine (append_o (p := p) h h0 h1 hB hn).bind fun r hr => Ok.ite (fun e => Ok.ret (hr e)) fun _ => Ok.ret (h.mono (by omega))
theorem pattern_o {fuel : Nat} {c : List Int} {i : Int} {m : Nat} (h : COk c i) (hm : m ≤ 1000) (hf : 1000000 < fuel) : Ok (make_Codes_Pattern fuel m c i) fun r => ∃ n : Nat, 2 ≤ n ∧ n ≤ 4 ∧ PatI n m r.1 ∧ COk c r.2 := by
  unfold make_Codes_Pattern
  refine (next_o h (by omega)).bind fun r ⟨r0, r1, hc⟩ => ?_
  obtain ⟨n, hn⟩ : ∃ n : Nat, 2 + r.1 = n := ⟨(2 + r.1).toNat, by omega⟩
  have hw : w64 (2 + r.1) = n := by rw [hn, w64_id (by omega) (by omega)]
  rw [hw]
  refine (Ok.mk (by omega) (by omega)).bind fun x hx => ?_
  refine Ok.bind (Ok.for_ n (fun k s => s = (List.replicate k [0], (k : Int))) (Q := fun t => t = List.replicate n [0]) rfl (by omega) fun k s hk e => ?_) fun t ht => ?_
  · subst e
    simp only [make_Codes_Pattern_B2, hw]
    refine Ok.iteP (fun hk2 => ?_) fun hk2 => Ok.ret ?_
    · refine (Ok.snoc (by simp; omega)).bind fun y hy => Ok.ret ⟨by omega, ?_⟩
      rw [hy, w64_nat (by omega), List.replicate_succ']
    · obtain rfl : k = n := by omega
      rfl
  · subst ht
    simp only [make_Codes_Pattern_K1]
    refine Ok.bind (Ok.for_ m (fun k s => PatI n k ⟨s.2.1, s.2.2.1, s.2.2.2.1⟩ ∧ COk c s.1 ∧ s.2.2.2.2 = (k : Int)) (Q := fun t => PatI n m ⟨t.2.1, t.2.2.1, t.2.2.2⟩ ∧ COk c t.1) ⟨?_, hc, rfl⟩ (by omega) ?_) fun t ht => ?_
    · subst hx
      refine ⟨by simp, by simp, fun y hy => ?_, fun y hy => ?_, fun a ha => by simp at ha, by simp⟩
      · have := List.eq_of_mem_replicate hy; omega
      · have := List.eq_of_mem_replicate hy; subst this; simp
    · rintro k ⟨i1, l, ck, ars, i2⟩ hk ⟨hp, hc1, he⟩
      simp only at hp hc1 he
      subst he
      simp only [make_Codes_Pattern_B1, make_Codes_Left, hw]
      refine Ok.bind (Q := fun b => b = true → k < m) (Ok.andM (fun hb => Ok.ret fun _ => by simpa using hb) fun _ => by simp) fun b hb => Ok.ite (fun hb2 => ?_) fun _ => Ok.ret ⟨hp.mono hk, hc1⟩
      have hkm := hb hb2
      have hn4 : n ≤ 4 := by omega
      have hn2 : 2 ≤ n := by omega
      refine (next_o hc1 (by omega)).bind fun q ⟨q0, q1, hc2⟩ => (next_o hc2 (by omega)).bind fun kd ⟨_, _, hc3⟩ => Ok.iteP (fun _ => ?_) fun _ => Ok.iteE (fun _ => ?_) fun _ => Ok.iteE (fun _ => ?_) fun _ => ?_
      · refine (mark_o hp q0 q1 (by omega) (by omega)).bind fun p' hp' => Ok.ret ⟨hkm, hp', hc3, w64_nat (by omega)⟩
      · refine (with_o hp q0 q1 (by omega) (by omega)).bind fun p' hp' => Ok.ret ⟨hkm, hp', hc3, w64_nat (by omega)⟩
      · have e1 : w64 ((n : Int) - 1) = (n : Int) - 1 := w64_id (by omega) (by omega)
        rw [e1]
        refine (next_o hc3 (by omega)).bind fun s ⟨s0, s1, hc4⟩ => ?_
        have e2 : w64 (w64 (q.1 + 1) + s.1) = q.1 + 1 + s.1 := by rw [w64_id (i := q.1 + 1) (by omega) (by omega), w64_id (by omega) (by omega)]
        rw [e2]
        refine (Ok.rem (by omega)).bind fun z hz => ?_
        have z0 : 0 ≤ z := by rw [hz]; exact Int.tmod_nonneg _ (by omega)
        have z1 : z < n := by rw [hz]; exact Int.tmod_lt_of_pos _ (by omega)
        refine (Ok.at z0 (by have := hp.len; simp only at this; omega)).bind fun y hy => ?_
        have hyr := hp.rng y (List.mem_of_getElem? hy)
        rw [w64_id (i := y + 1) (by omega) (by omega)]
        refine (next_o hc4 (by omega)).bind fun ix ⟨i0, i1', hc5⟩ => (Ok.snoc (by have := hp.al; simp only at this; omega)).bind fun as2 has => Ok.ret ⟨hkm, ?_, hc5, w64_nat (by omega)⟩
        subst has
        refine ⟨hp.len, hp.ck, fun x hx => by have := hp.rng x hx; omega, fun r hr => by have := hp.row r hr; omega, fun a ha => ?_, by have := hp.al; simp only at this; simp; omega⟩
        rcases List.mem_append.1 ha with h6 | h6
        · exact hp.arc a h6
        · obtain rfl : a = _ := by simpa using h6
          have hqr : 0 ≤ nI l q.1 := by
            unfold nI
            cases e9 : l[q.1.toNat]? with
            | none => simp
            | some w => have := hp.rng w (List.mem_of_getElem? e9); simp; omega
          exact ⟨⟨z0, z1⟩, ⟨q0, q1⟩, ⟨i0, by simp only; rw [nI_some hy]; omega⟩, ⟨by simp, hqr⟩⟩
      · have e1 : w64 ((n : Int) - 1) = (n : Int) - 1 := w64_id (by omega) (by omega)
        rw [e1]
        refine (next_o hc3 (by omega)).bind fun s ⟨s0, s1, hc4⟩ => ?_
        have e2 : w64 (w64 (q.1 + 1) + s.1) = q.1 + 1 + s.1 := by rw [w64_id (i := q.1 + 1) (by omega) (by omega), w64_id (by omega) (by omega)]
        rw [e2]
        refine (Ok.rem (by omega)).bind fun z hz => ?_
        have z0 : 0 ≤ z := by rw [hz]; exact Int.tmod_nonneg _ (by omega)
        have z1 : z < n := by rw [hz]; exact Int.tmod_lt_of_pos _ (by omega)
        have hll := hp.len
        simp only at hll
        refine (Ok.at z0 (by omega)).bind fun y hy => (Ok.at z0 (by omega)).bind fun y2 hy2 => ?_
        obtain rfl : y = y2 := by rw [hy] at hy2; exact Option.some.inj hy2
        have hyr := hp.rng y (List.mem_of_getElem? hy)
        rw [w64_id (i := y + 1) (by omega) (by omega)]
        refine (next_o hc4 (by omega)).bind fun ix ⟨i0, i1', hc5⟩ => (with_o hp q0 q1 (by omega) (by omega)).bind fun p' hp' => Ok.ret ⟨hkm, hp', hc5, w64_nat (by omega)⟩
    · exact Ok.ret ⟨n, by omega, by omega, ht.1, ht.2⟩
end Go.Mine
