/- The rollback-dependency graph, plain: reaching by a stack, the least intervals, and the cut to which processes go back. -/
import Derived.Test.YtljpjekifbamfaaP20c
set_option linter.unusedSimpArgs false
set_option linter.unusedVariables false
namespace Go.Mine
open Go.RowKit
theorem visitR_g {fuel n : Nat} {p : Pat} {m : List (List Bool)} {st : List Pt} {x : Pt} (hs : Shp n p m) (hx : VN n p x) (hl : st.length < 1000000) : visitR fuel x m st = some (if bm m x = true then (m, st) else (setM m x, st ++ [x])) := by
  have hr := hs.int hx.p0 hx.p1; have hlen := hs.len
  have h0 := hx.p0; have h1 := hx.p1; have h2 := hx.i0; have h3 := hx.i1
  unfold visitR
  rw [orM_some, Option.bind_some, orM_some, Option.bind_some, hx.at1 hs, Option.bind_some, orM_some, Option.bind_some, if_neg (by simp; omega), Option.bind_some, hx.at2 hs, Option.bind_some, Option.bind_some, hx.set2 hs, Option.bind_some, hx.set1 hs, Option.bind_some, snoc_ok (by omega), Option.bind_some]
  cases bm m x
  · simp [hx.at2 hs]
  · simp
/-- while there is a stack: marked, and closed but for what lies on it -/
structure DS (n : Nat) (p : Pat) (l : List Pt) (m : List (List Bool)) (st : List Pt) : Prop where
  shp : Shp n p m
  stk : ∀ x ∈ st, VN n p x ∧ bm m x = true
  sound : ∀ x, VN n p x → bm m x = true → Rch n p l x
  num : cnt m + st.length ≤ 330
theorem DS.visit {n : Nat} {p : Pat} {l : List Pt} {m : List (List Bool)} {st : List Pt} (h : DS n p l m st) {x : Pt} (hx : VN n p x) (hr : Rch n p l x) (hb : bm m x = false) : DS n p l (setM m x) (st ++ [x]) := by
  refine ⟨h.shp.set hx, fun y hy => ?_, fun y hy hby => ?_, ?_⟩
  · rcases List.mem_append.1 hy with hy | hy
    · obtain ⟨h1, h2⟩ := h.stk y hy; exact ⟨h1, by rw [bm_setM h.shp hx h1, h2]; simp⟩
    · simp at hy; subst hy; exact ⟨hx, by rw [bm_setM h.shp hx hx]; simp⟩
  · rw [bm_setM h.shp hx hy] at hby
    simp only [Bool.or_eq_true, decide_eq_true_eq] at hby
    rcases hby with rfl | hby
    · exact hr
    · exact h.sound y hy hby
  · have := cnt_setM h.shp hx hb; have := h.num; simp; omega
theorem reach_g {fuel n B : Nat} {p : Pat} {l : List Pt} (h : PatG n B p) (hn : n ≤ 5) (hB : B ≤ 64) (hf : 1000000 < fuel) (hl : ∀ x ∈ l, VN n p x) (hll : l.length ≤ 1000) : Ok (rgraph_Reach fuel p l) (RSpec n p l) := by
  have hk := h.ck
  have hw : ∀ q, (ckR p q).length ≤ 65 := fun q => by have := h.ckW q; omega
  unfold rgraph_Reach
  rw [show (⟨p.lens, p.ckpts, p.arcs⟩ : Pat) = p from rfl, check_g h hn hB hf, Option.bind_some, if_neg (by simp), mkL_nat (by omega), Option.bind_some]
  refine Ok.bind (Q := fun t => t = noM n p) (Ok.for_ n (fun k s => s.2 = (k : Int) ∧ s.1 = (noM n p).take k ++ List.replicate (n - k) []) ⟨rfl, by simp [hk]⟩ (by omega) ?_) fun t ht => ?_
  · rintro k ⟨m, i⟩ hk2 ⟨hi, hm⟩
    simp only at hi hm
    subst hi hm
    have hlen : (noM n p).length = n := by simp [noM]
    simp only [rgraph_Reach_B4]
    refine Ok.iteP (fun hkl => ?_) (fun hkl => Ok.ret ?_)
    · have := hw (k : Int)
      rw [ati_ck (by omega) (by omega), Option.bind_some, w64_nat (by omega), mkL_nat (by omega), Option.bind_some]
      refine (Ok.at (by omega) (by simp [hlen]; omega)).bind fun _ _ => (Ok.set (by omega) (by simp [hlen]; omega)).bind fun r hr => Ok.ret ⟨by omega, w64_nat (by omega), ?_⟩
      rw [hr, Int.toNat_natCast, noM_take (by omega), List.append_assoc, List.set_append_right _ _ (by simp [hlen]; omega)]
      congr 1
      have e1 : k - ((noM n p).take k).length = 0 := by simp [hlen]; omega
      rw [e1, show n - k = (n - (k + 1)) + 1 by omega, List.replicate_succ]
      rfl
    · have e : k = n := by omega
      subst e
      simp only [Nat.sub_self, List.replicate_zero, List.append_nil, Sum.elim_inr]
      exact List.take_of_length_le (by omega)
  · subst ht
    simp only [rgraph_Reach_K1]
    refine Ok.bind (Q := fun t => DS n p l t.1 t.2 ∧ (∀ x ∈ l, bm t.1 x = true) ∧ ∀ x, VN n p x → bm t.1 x = true → x ∈ t.2) (Ok.for_ l.length (fun k s => s.2.2 = (k : Int) ∧ DS n p l s.1 s.2.1 ∧ (∀ x ∈ l.take k, bm s.1 x = true) ∧ ∀ x, VN n p x → bm s.1 x = true → x ∈ s.2.1)
      ⟨rfl, ⟨noM_shp, by simp, (fun x hx hb => by simp only at hb; rw [noM_bm hx] at hb; cases hb), by have := (noM_shp (n := n) (p := p)).cnt_le hn hw; simpa using this⟩, by simp, (fun x hx hb => by simp only at hb; rw [noM_bm hx] at hb; cases hb)⟩ (by omega) ?_) ?_
    · rintro k ⟨m, st, i⟩ hk2 ⟨hi, hd, h1, h2⟩
      simp only at hi hd h1 h2
      subst hi
      simp only [rgraph_Reach_B3]
      refine Ok.iteP (fun hkl => ?_) (fun hkl => Ok.ret ?_)
      · have hkl' : k < l.length := by omega
        have hx := hl l[k] (List.getElem_mem _)
        rw [ati_get hkl', Option.bind_some, visitR_g (x := l[k]) hd.shp hx (by have := hd.num; omega), Option.bind_some]
        cases hb : bm m l[k] with
        | true =>
          simp only [if_true]
          refine Ok.ret ⟨by omega, w64_nat (by omega), hd, fun y hy => ?_, h2⟩
          rcases mem_take_succ'.1 hy with h3 | h3
          · exact h1 y h3
          · rw [List.getElem?_eq_getElem hkl'] at h3; cases h3; exact hb
        | false =>
          simp only [Bool.false_eq_true, if_false]
          refine Ok.ret ⟨by omega, w64_nat (by omega), hd.visit hx (.start (List.getElem_mem _)) hb, fun y hy => ?_, fun y hy hby => ?_⟩
          · have hyv : VN n p y := hl y (List.mem_of_mem_take hy)
            simp only
            rw [bm_setM hd.shp hx hyv]
            rcases mem_take_succ'.1 hy with h3 | h3
            · simp [h1 y h3]
            · rw [List.getElem?_eq_getElem hkl'] at h3; cases h3; simp
          · simp only at hby ⊢
            rw [bm_setM hd.shp hx hy] at hby
            simp only [Bool.or_eq_true, decide_eq_true_eq] at hby
            rcases hby with rfl | hby
            · simp
            · simp [h2 y hy hby]
      · have e : k = l.length := by omega
        subst e
        rw [List.take_length] at h1
        exact ⟨hd, h1, h2⟩
    · rintro ⟨m0, st0⟩ ⟨hd0, hst0, hon0⟩
      simp only at hd0 hst0 hon0
      simp only [rgraph_Reach_K2]
      rw [show (⟨p.lens, p.ckpts, p.arcs⟩ : Pat) = p from rfl]
      refine (edges_g h hn hB hf).bind fun E hE => ?_
      have hEl := hE.2.2
      refine Ok.bind (Q := RSpec n p l) (Ok.run (fun k s => cnt s.1 + s.2.length ≤ k ∧ DS n p l s.1 s.2 ∧ (∀ x ∈ l, bm s.1 x = true) ∧ ∀ x, VN n p x → bm s.1 x = true → x ∈ s.2 ∨ ∀ e ∈ E, e.x0 = x → bm s.1 e.x1 = true) (m := cnt m0 + st0.length) ⟨Nat.le_refl _, hd0, hst0, fun x hx hb => .inl (hon0 x hx hb)⟩ (by have := hd0.num; omega) ?_) fun m hm => Ok.ret hm
      rintro k ⟨m, st⟩ ⟨hkm, hd, hst, hcl⟩
      simp only at hkm hd hst hcl
      simp only [rgraph_Reach_B1]
      refine Ok.iteP (fun hp => ?_) (fun hp => Ok.ret (RSpec.of h hl hd.shp hst hd.sound fun e he hb => ?_))
      · have hp' : 0 < st.length := by omega
        have hnum := hd.num
        rw [w64_id (by omega) (by omega), show (st.length : Int) - 1 = ((st.length - 1 : Nat) : Int) by omega, ati_get (by omega), Option.bind_some]
        refine (Ok.take (by omega) (by omega)).bind fun st1 hst1 => ?_
        rw [Int.toNat_natCast] at hst1
        have hx := hd.stk _ (List.getElem_mem (show st.length - 1 < st.length by omega))
        have hsx : st = st1 ++ [st[st.length - 1]'(by omega)] := by
          rw [hst1]
          have := List.take_add_one (l := st) (i := st.length - 1)
          rw [show st.length - 1 + 1 = st.length by omega, List.take_length] at this
          rw [List.getElem?_eq_getElem (by omega)] at this
          exact this
        generalize st[st.length - 1]'(by omega) = x at hx hsx
        have hl1 : st1.length + 1 = st.length := by rw [hsx]; simp
        refine Ok.bind (Q := fun t => cnt t.1 + t.2.length = cnt m + st1.length ∧ DS n p l t.1 t.2 ∧ (∀ y ∈ l, bm t.1 y = true) ∧ (∀ y, VN n p y → bm t.1 y = true → y ∈ t.2 ∨ ∀ e ∈ E, e.x0 = y → bm t.1 e.x1 = true))
          (Ok.for_ E.length (fun i s => s.2.2 = (i : Int) ∧ cnt s.1 + s.2.1.length = cnt m + st1.length ∧ DS n p l s.1 s.2.1 ∧ (∀ y ∈ l, bm s.1 y = true) ∧ (∀ y, VN n p y → bm s.1 y = true → y ≠ x → y ∈ s.2.1 ∨ ∀ e ∈ E, e.x0 = y → bm s.1 e.x1 = true) ∧ bm s.1 x = true ∧ ∀ e ∈ E.take i, e.x0 = x → bm s.1 e.x1 = true)
            ⟨rfl, rfl, ⟨hd.shp, fun y hy => hd.stk y (by rw [hsx]; simp [hy]), hd.sound, by simp only; omega⟩, hst, fun y hy hb hne => ?_, hx.2, by simp⟩ (by omega) ?_) ?_
        · rcases hcl y hy hb with h3 | h3
          · rw [hsx] at h3
            rcases List.mem_append.1 h3 with h4 | h4
            · exact .inl h4
            · simp at h4; exact absurd h4 hne
          · exact .inr h3
        · rintro i ⟨m1, s1, i1⟩ hi ⟨e1, hn1, hd1, hst1', hcl1, hbx, hex⟩
          simp only at e1 hn1 hd1 hst1' hcl1 hbx hex
          subst e1
          simp only [rgraph_Reach_B2]
          refine Ok.iteP (fun hil => ?_) (fun hil => Ok.ret ?_)
          · have hil' : i < E.length := by omega
            have he := (hE.2.1 E[i]).1 (List.getElem_mem _)
            have hv := he.vn h
            rw [ati_get hil', Option.bind_some, eq2]
            refine Ok.iteP (fun hc => ?_) (fun hc => Ok.ret ⟨by omega, w64_nat (by omega), hn1, hd1, hst1', hcl1, hbx, fun e he2 hex2 => ?_⟩)
            · rw [visitR_g (x := E[i].x1) hd1.shp hv.2 (by have := hd1.num; omega), Option.bind_some]
              have hmem : ∀ e ∈ E.take (i + 1), e.x0 = x → e ∈ E.take i ∨ e = E[i] := fun e he2 _ => by
                rcases mem_take_succ'.1 he2 with h4 | h4
                · exact .inl h4
                · rw [List.getElem?_eq_getElem hil'] at h4; cases h4; exact .inr rfl
              cases hb : bm m1 (E[i]).x1 with
              | true =>
                simp only [if_true]
                refine Ok.ret ⟨by omega, w64_nat (by omega), hn1, hd1, hst1', hcl1, hbx, fun e he2 hex2 => ?_⟩
                rcases hmem e he2 hex2 with h4 | rfl
                · exact hex e h4 hex2
                · exact hb
              | false =>
                simp only [Bool.false_eq_true, if_false]
                have hcnt := cnt_setM hd1.shp hv.2 hb
                have hge : ∀ y, VN n p y → bm m1 y = true → bm (setM m1 (E[i]).x1) y = true := fun y hy hby => by rw [bm_setM hd1.shp hv.2 hy, hby]; simp
                refine Ok.ret ⟨by omega, w64_nat (by omega), by simp; omega, hd1.visit hv.2 (.step (by rw [hc]; exact hd1.sound x hx.1 hbx) he) hb, fun y hy => hge y (hl y hy) (hst1' y hy), fun y hy hby hne => ?_, hge x hx.1 hbx, fun e he2 hex2 => ?_⟩
                · simp only at hby ⊢
                  rw [bm_setM hd1.shp hv.2 hy] at hby
                  simp only [Bool.or_eq_true, decide_eq_true_eq] at hby
                  rcases hby with rfl | hby
                  · exact .inl (by simp)
                  · rcases hcl1 y hy hby hne with h4 | h4
                    · exact .inl (by simp [h4])
                    · exact .inr fun e he2 hey => hge _ (((hE.2.1 e).1 he2).vn h).2 (h4 e he2 hey)
                · simp only
                  rcases hmem e he2 hex2 with h4 | rfl
                  · exact hge _ (((hE.2.1 e).1 (List.mem_of_mem_take h4)).vn h).2 (hex e h4 hex2)
                  · rw [bm_setM hd1.shp hv.2 hv.2]; simp
            · rcases mem_take_succ'.1 he2 with h4 | h4
              · exact hex e h4 hex2
              · rw [List.getElem?_eq_getElem hil'] at h4; cases h4; exact absurd hex2 hc
          · have e : i = E.length := by omega
            subst e
            rw [List.take_length] at hex
            refine ⟨hn1, hd1, hst1', fun y hy hby => ?_⟩
            by_cases hyx : y = x
            · subst hyx; exact .inr hex
            · exact hcl1 y hy hby hyx
        · rintro ⟨m1, s1⟩ ⟨hn1, hd1, hst1', hcl1⟩
          simp only at hn1 hd1 hst1' hcl1
          simp only [rgraph_Reach_K4]
          exact Ok.ret ⟨cnt m1 + s1.length, by omega, Nat.le_refl _, hd1, hst1', hcl1⟩
      · have hp' : st = [] := List.length_eq_zero_iff.1 (by omega)
        subst hp'
        rcases hcl e.x0 (he.vn h).1 hb with h3 | h3
        · cases h3
        · exact h3 e ((hE.2.1 e).2 he) rfl
/-! the least interval of each process -/
def fst1 (r : List Bool) : Nat := r.findIdx (· == true)
def undL (m : List (List Bool)) : List Int := m.map fun r => (fst1 r : Int)
theorem fst1_le {r : List Bool} : fst1 r ≤ r.length := List.findIdx_le_length
theorem fst1_of {r : List Bool} {k : Nat} (hk : k ≤ r.length) (h1 : ∀ i, i < k → r[i]? ≠ some true) (h2 : k < r.length → r[k]? = some true) : fst1 r = k := by
  unfold fst1
  rcases Nat.lt_or_ge k r.length with h | h
  · rw [List.findIdx_eq h]
    have := h2 h
    rw [List.getElem?_eq_getElem h] at this
    refine ⟨by simpa using this, fun j hj => ?_⟩
    have := h1 j hj
    rw [List.getElem?_eq_getElem (by omega)] at this
    simpa using this
  · have : k = r.length := by omega
    subst this
    rw [List.findIdx_eq_length]
    intro b hb
    obtain ⟨i, hi, rfl⟩ := List.getElem_of_mem hb
    have := h1 i hi
    rw [List.getElem?_eq_getElem hi] at this
    simpa using this
theorem indexB_g {fuel : Nat} {r : List Bool} (hw : r.length ≤ 1000) (hf : 1000000 < fuel) : IndexB fuel r true = some (if fst1 r < r.length then (fst1 r : Int) else -1) := by
  unfold IndexB
  refine Ok.eq ?_
  refine Ok.bind (Q := fun t => match t with | .inl _ => fst1 r = r.length | .inr k => k = (fst1 r : Int) ∧ fst1 r < r.length) (Ok.for_ r.length (fun k s => s = (k : Int) ∧ ∀ i, i < k → r[i]? ≠ some true) ⟨rfl, fun i hi => by omega⟩ (by omega) ?_) ?_
  · rintro k s hk ⟨rfl, h1⟩
    unfold IndexB_B1
    refine Ok.iteP (fun hkl => ?_) (fun hkl => Ok.ret ?_)
    · have hkl' : k < r.length := by omega
      rw [ati_get hkl', Option.bind_some]
      refine Ok.ite (fun hc => Ok.ret ?_) (fun hc => Ok.ret ⟨by omega, w64_nat (by omega), fun i hi => ?_⟩)
      · have e : fst1 r = k := fst1_of hk h1 fun _ => by rw [List.getElem?_eq_getElem hkl']; simpa using hc
        exact ⟨by rw [e], by rw [e]; exact hkl'⟩
      · rcases Nat.lt_succ_iff_lt_or_eq.1 hi with h3 | rfl
        · exact h1 i h3
        · rw [List.getElem?_eq_getElem hkl']; simpa using hc
    · have e : k = r.length := by omega
      subst e
      exact fst1_of (Nat.le_refl _) h1 fun h => by omega
  · rintro (u | k) ht
    · simp only [Sum.elim_inl, IndexB_K1]; simp only at ht; rw [if_neg (by omega)]; exact Ok.ret rfl
    · simp only at ht; rw [if_pos ht.2, ht.1]; exact Ok.ret rfl
theorem undone_g {fuel n B : Nat} {p : Pat} {l : List Pt} (h : PatG n B p) (hn : n ≤ 5) (hB : B ≤ 64) (hf : 1000000 < fuel) (hl : ∀ x ∈ l, VN n p x) (hll : l.length ≤ 1000) : Ok (rgraph_Undone fuel p l) fun u => ∃ m, RSpec n p l m ∧ u = undL m := by
  have hw : ∀ q, (ckR p q).length ≤ 65 := fun q => by have := h.ckW q; omega
  unfold rgraph_Undone
  rw [show (⟨p.lens, p.ckpts, p.arcs⟩ : Pat) = p from rfl]
  refine (reach_g h hn hB hf hl hll).bind fun m hm => ?_
  have hlen := hm.1.len
  refine Ok.bind (Q := fun t => t = undL m) (Ok.for_ m.length (fun k s => s.2 = (k : Int) ∧ s.1 = (undL m).take k) ⟨rfl, by simp⟩ (by omega) ?_) fun t ht => Ok.ret ⟨m, hm, ht⟩
  rintro k ⟨u, i⟩ hk ⟨hi, hu⟩
  simp only at hi hu
  subst hi hu
  simp only [rgraph_Undone_B1]
  refine Ok.iteP (fun hkl => ?_) (fun hkl => Ok.ret ?_)
  · have hkl' : k < m.length := by omega
    have hr : rw2 m (k : Int) = m[k] := by simp [rw2, hkl']
    have hrl := hm.1.row k (by omega)
    rw [hr] at hrl
    have := hw (k : Int)
    have hst : (undL m).take (k + 1) = (undL m).take k ++ [(fst1 m[k] : Int)] := by rw [List.take_add_one]; simp [undL, hkl']
    have hul : (undL m).length = m.length := by simp [undL]
    rw [ati_get hkl', Option.bind_some, indexB_g (by omega) hf, Option.bind_some]
    have hfl := fst1_le (r := m[k])
    split
    · rename_i hlt
      refine Ok.iteP (fun hc => by omega) (fun hc => ?_)
      simp only [rgraph_Undone_J1]
      refine (Ok.snoc (by simp; omega)).bind fun v hv => Ok.ret ⟨by omega, w64_nat (by omega), by rw [hst]; exact hv⟩
    · rename_i hge
      refine Ok.iteP (fun hc => ?_) (fun hc => by omega)
      simp only [rgraph_Undone_J1]
      refine (Ok.snoc (by simp; omega)).bind fun v hv => Ok.ret ⟨by omega, w64_nat (by omega), by rw [hst, show fst1 m[k] = (m[k]).length by omega]; exact hv⟩
  · exact List.take_of_length_le (by simp [undL]; omega)
theorem rundone_g {fuel n B : Nat} {p : Pat} {l : List Pt} (h : PatG n B p) (hn : n ≤ 5) (hB : B ≤ 64) (hf : 1000000 < fuel) (hl : ∀ x ∈ l, VN n p x) (hll : l.length ≤ 1000) : Ok (ref20_Undone fuel p l) fun u => ∃ m, RSpec n p l m ∧ u = undL m := by
  have hw : ∀ q, (ckR p q).length ≤ 65 := fun q => by have := h.ckW q; omega
  unfold ref20_Undone
  rw [show (⟨p.lens, p.ckpts, p.arcs⟩ : Pat) = p from rfl]
  refine (rreach_g h hn hB hf hl hll).bind fun m hm => ?_
  have hlen := hm.1.len
  refine Ok.bind (Q := fun t => t = undL m) (Ok.for_ m.length (fun k s => s.2 = (k : Int) ∧ s.1 = (undL m).take k) ⟨rfl, by simp⟩ (by omega) ?_) fun t ht => Ok.ret ⟨m, hm, ht⟩
  rintro k ⟨u, i⟩ hk ⟨hi, hu⟩
  simp only at hi hu
  subst hi hu
  simp only [ref20_Undone_B1]
  refine Ok.iteP (fun hkl => ?_) (fun hkl => Ok.ret ?_)
  · have hkl' : k < m.length := by omega
    have hr : rw2 m (k : Int) = m[k] := by simp [rw2, hkl']
    have hrl := hm.1.row k (by omega)
    rw [hr] at hrl
    have := hw (k : Int)
    have hst : (undL m).take (k + 1) = (undL m).take k ++ [(fst1 m[k] : Int)] := by rw [List.take_add_one]; simp [undL, hkl']
    have hul : (undL m).length = m.length := by simp [undL]
    refine Ok.bind (Q := fun t => t = (fst1 m[k] : Int)) (Ok.for_ (m[k]).length (fun j s => s = (j : Int) ∧ ∀ i, i < j → (m[k])[i]? ≠ some true) ⟨rfl, fun i hi => by omega⟩ (by omega) ?_) fun t ht => ?_
    · rintro j s hj ⟨rfl, h1⟩
      unfold ref20_Undone_B2
      rw [ati_get hkl', Option.bind_some]
      refine Ok.bind (Q := fun b => b = decide (j < (m[k]).length ∧ (m[k])[j]? ≠ some true)) (Ok.andM (fun hp => ?_) fun hp => ?_) fun b hb => ?_
      · have hp' : j < (m[k]).length := by simpa using hp
        rw [Option.bind_some, ati_get hp', Option.bind_some]
        refine Ok.ret ?_
        rw [List.getElem?_eq_getElem hp']
        cases (m[k])[j] <;> simp [hp']
      · have : ¬ j < (m[k]).length := by simpa using hp
        simp [this]
      · subst hb
        refine Ok.ite (fun hc => Ok.ret ?_) (fun hc => Ok.ret ?_)
        · simp only [decide_eq_true_eq] at hc
          refine ⟨hc.1, w64_nat (by omega), fun i hi => ?_⟩
          rcases Nat.lt_succ_iff_lt_or_eq.1 hi with h3 | rfl
          · exact h1 i h3
          · exact hc.2
        · simp only [decide_eq_false_iff_not] at hc
          have e : fst1 m[k] = j := fst1_of hj h1 fun hlt => by
            cases e2 : (m[k])[j]? with
            | none => rw [List.getElem?_eq_none_iff] at e2; omega
            | some b => cases b with
              | true => rfl
              | false => exact absurd ⟨hlt, by rw [e2]; simp⟩ hc
          show (j : Int) = _
          rw [e]
    · subst ht
      simp only [ref20_Undone_K2]
      refine (Ok.snoc (by simp; omega)).bind fun v hv => Ok.ret ⟨by omega, w64_nat (by omega), by rw [hst]; exact hv⟩
  · exact List.take_of_length_le (by simp [undL]; omega)
/-! the cut to which processes go back -/
def lastN (p : Pat) (failed : List Int) : List Pt := failed.map fun q => ⟨q, ((ckR p q).length : Int)⟩
def recQ (p : Pat) (q : Int) (u : Int) : Int := if ((ckR p q).length : Int) < u then nI p.lens q else nI (ckR p q) (u - 1)
/-- the cut: behind the last interval that stays -/
def RecS (n : Nat) (p : Pat) (l : List Pt) (x : List Int) : Prop := x.length = n ∧ ∀ q : Nat, q < n → ∃ u : Nat, 1 ≤ u ∧ u ≤ (ckR p q).length + 1 ∧ (∀ i : Nat, i ≤ (ckR p q).length → (Rch n p l ⟨q, i⟩ ↔ u ≤ i)) ∧ nI x q = recQ p q u
theorem RecS.uniq {n : Nat} {p : Pat} {l : List Pt} {x y : List Int} (h : RecS n p l x) (h' : RecS n p l y) : x = y := by
  refine list_ext_nI (by rw [h.1, h'.1]) fun q hq => ?_
  obtain ⟨u, h1, h2, h3, h4⟩ := h.2 q (by rw [h.1] at hq; exact hq)
  obtain ⟨v, k1, k2, k3, k4⟩ := h'.2 q (by rw [h.1] at hq; exact hq)
  have : u = v := by
    rcases Nat.lt_trichotomy u v with hlt | he | hlt
    · exfalso
      have := (k3 u (by omega)).1 ((h3 u (by omega)).2 (Nat.le_refl _)); omega
    · exact he
    · exfalso
      have := (h3 v (by omega)).1 ((k3 v (by omega)).2 (Nat.le_refl _)); omega
  rw [h4, k4, this]
theorem RSpec.und {n B : Nat} {p : Pat} (h : PatG n B p) {l : List Pt} {m : List (List Bool)} (hm : RSpec n p l m) (hp : ∀ x ∈ l, 1 ≤ x.index) {q : Nat} (hq : q < n) : 1 ≤ fst1 (rw2 m q) ∧ fst1 (rw2 m q) ≤ (ckR p q).length + 1 ∧ (∀ i : Nat, i ≤ (ckR p q).length → (Rch n p l ⟨q, i⟩ ↔ fst1 (rw2 m q) ≤ i)) := by
  have hrl := hm.1.row q hq
  have hbm : ∀ i : Nat, i ≤ (ckR p q).length → (Rch n p l ⟨q, i⟩ ↔ (rw2 m q)[i]? = some true) := fun i hi => by
    have hv : VN n p ⟨(q : Int), (i : Int)⟩ := ⟨by simp only; omega, by simp only; omega, by simp only; omega, by simp only; omega⟩
    rw [← hm.2 _ hv]
    unfold bm
    simp only [Int.toNat_natCast]
    rw [List.getElem?_eq_getElem (by omega)]; simp
  have hle : fst1 (rw2 m q) ≤ (ckR p q).length + 1 := by have := fst1_le (r := rw2 m q); omega
  have hno : ∀ i, i < fst1 (rw2 m q) → ¬ (rw2 m q)[i]? = some true := fun i hi e => by
    obtain ⟨h1, h2⟩ := List.getElem?_eq_some_iff.1 e
    have := List.not_of_lt_findIdx hi
    simp [h2] at this
  have hyes : fst1 (rw2 m q) ≤ (ckR p q).length → (rw2 m q)[fst1 (rw2 m q)]? = some true := fun hl => by
    have h1 : fst1 (rw2 m q) < (rw2 m q).length := by omega
    have := List.findIdx_getElem (w := h1)
    rw [List.getElem?_eq_getElem h1]
    have e : (rw2 m q)[fst1 (rw2 m q)] = true := by simpa [fst1] using this
    rw [e]
  refine ⟨?_, hle, fun i hi => ⟨fun hr => ?_, fun hu => ?_⟩⟩
  · rcases Nat.eq_zero_or_pos (fst1 (rw2 m q)) with h0 | h0
    · exfalso
      have h1 := hyes (by omega)
      rw [h0] at h1
      have := Rch.pos h hp ((hbm 0 (by omega)).2 h1)
      simp at this
    · exact h0
  · rcases Nat.lt_or_ge i (fst1 (rw2 m q)) with h1 | h1
    · exact absurd ((hbm i hi).1 hr) (hno i h1)
    · exact h1
  · have h1 := (hbm _ (by omega)).2 (hyes (by omega))
    have := Rch.up hq h1 (i - fst1 (rw2 m q)) (by omega)
    rwa [show fst1 (rw2 m q) + (i - fst1 (rw2 m q)) = i by omega] at this
theorem dindex_g {fuel n B : Nat} {p : Pat} (h : PatG n B p) {q k : Int} (h0 : 0 ≤ q) (h1 : q < n) (hk : 0 ≤ k) (hk1 : k < (ckR p q).length) : depend_Index fuel p q k = some (nI (ckR p q) k) := by
  have hc := h.ck; have hl := h.len
  unfold depend_Index
  rw [orM_some, Option.bind_some, orM_some, Option.bind_some, orM_some, Option.bind_some, if_neg (by simp; omega), ati_ck h0 (by omega), Option.bind_some, if_pos (by simpa using hk1), Option.bind_some, ati_nI hk hk1]
  rfl
theorem rindex_g {fuel n B : Nat} {p : Pat} (h : PatG n B p) {q k : Int} (h0 : 0 ≤ q) (h1 : q < n) (hk : 0 ≤ k) (hk1 : k < (ckR p q).length) : ref19_Index fuel p q k = some (nI (ckR p q) k) := by
  have hc := h.ck; have hl := h.len
  unfold ref19_Index
  rw [ati_ck h0 (by omega), Option.bind_some, if_neg (by simp; omega), Option.bind_some, ati_nI hk hk1]
  rfl
theorem lastN_vn {n B : Nat} {p : Pat} (h : PatG n B p) {failed : List Int} (hfl : ∀ q ∈ failed, 0 ≤ q ∧ q < n) : (∀ x ∈ lastN p failed, VN n p x) ∧ ∀ x ∈ lastN p failed, 1 ≤ x.index := by
  constructor
  · intro x hx
    obtain ⟨q, hq, rfl⟩ := List.mem_map.1 hx
    have := hfl q hq
    exact ⟨this.1, this.2, by simp only; omega, Int.le_refl _⟩
  · intro x hx
    obtain ⟨q, hq, rfl⟩ := List.mem_map.1 hx
    have := hfl q hq
    have := (h.ckI this.1 this.2).pos
    simp only; omega
theorem recovery_g {fuel n B : Nat} {p : Pat} {failed : List Int} (h : PatG n B p) (hn : n ≤ 5) (hB : B ≤ 64) (hf : 1000000 < fuel) (hfl : ∀ q ∈ failed, 0 ≤ q ∧ q < n) (hll : failed.length ≤ 1000) : Ok (rgraph_Recovery fuel p failed) (RecS n p (lastN p failed)) := by
  have hk := h.ck; have hlen := h.len
  have hw : ∀ q, (ckR p q).length ≤ 65 := fun q => by have := h.ckW q; omega
  unfold rgraph_Recovery
  rw [show (⟨p.lens, p.ckpts, p.arcs⟩ : Pat) = p from rfl, check_g h hn hB hf, Option.bind_some, if_neg (by simp)]
  refine Ok.bind (Q := fun t => t = lastN p failed) (Ok.for_ failed.length (fun k s => s.2 = (k : Int) ∧ s.1 = (lastN p failed).take k) ⟨rfl, by simp⟩ (by omega) ?_) fun t ht => ?_
  · rintro k ⟨l, i⟩ hk2 ⟨hi, hl⟩
    simp only at hi hl
    subst hi hl
    simp only [rgraph_Recovery_B2]
    refine Ok.iteP (fun hkl => ?_) (fun hkl => Ok.ret ?_)
    · have hkl' : k < failed.length := by omega
      have hq := hfl failed[k] (List.getElem_mem _)
      rw [ati_get hkl', Option.bind_some, andM_some, Option.bind_some, if_pos (by simp; omega), ati_ck hq.1 (by omega), Option.bind_some]
      refine (Ok.snoc (by simp [lastN]; omega)).bind fun v hv => Ok.ret ⟨by omega, w64_nat (by omega), ?_⟩
      rw [hv, List.take_add_one]; simp [lastN, hkl']
    · exact List.take_of_length_le (by simp [lastN]; omega)
  · subst ht
    obtain ⟨hv, hp⟩ := lastN_vn h hfl
    simp only [rgraph_Recovery_K1]
    rw [show (⟨p.lens, p.ckpts, p.arcs⟩ : Pat) = p from rfl]
    refine (undone_g h hn hB hf hv (by simpa [lastN] using hll)).bind fun u ⟨m, hm, hu⟩ => ?_
    have hml := hm.1.len
    have hul : u.length = n := by rw [hu]; simp [undL, hml]
    have hun : ∀ q : Nat, q < n → nI u q = (fst1 (rw2 m q) : Int) := fun q hq => by rw [hu]; simp [nI, undL, rw2, hml, hq]
    refine Ok.bind (Q := RecS n p (lastN p failed)) (Ok.for_ n (fun k s => s.2 = (k : Int) ∧ s.1.length = n ∧ (∀ q : Nat, q < k → nI s.1 q = recQ p q (fst1 (rw2 m q))) ∧ ∀ q : Nat, k ≤ q → q < n → nI s.1 q = (fst1 (rw2 m q) : Int)) ⟨rfl, hul, fun q hq => by omega, fun q _ hq => hun q hq⟩ (by omega) ?_) fun t ht => Ok.ret ht
    rintro k ⟨x, i⟩ hk2 ⟨hi, hxl, hx1, hx2⟩
    simp only at hi hxl hx1 hx2
    subst hi
    simp only [rgraph_Recovery_B1]
    refine Ok.iteP (fun hkl => ?_) (fun hkl => Ok.ret ?_)
    · have hkn : k < n := by omega
      obtain ⟨g1, g2, g3⟩ := hm.und h hp hkn
      rw [ati_nI (by omega) (by omega), Option.bind_some, ati_ck (by omega) (by omega), Option.bind_some, hx2 k (Nat.le_refl _) hkn]
      have hdone : ∀ v, v = recQ p k (fst1 (rw2 m k)) → ∀ y, y = x.set k v → y.length = n ∧ (∀ q : Nat, q < k + 1 → nI y q = recQ p q (fst1 (rw2 m q))) ∧ ∀ q : Nat, k + 1 ≤ q → q < n → nI y q = (fst1 (rw2 m q) : Int) := fun v hv y hy => by
        subst hy
        have hset : ∀ q : Nat, nI (x.set k v) q = if (q : Int) = k then v else nI x q := fun q => by
          have := nI_set (xs := x) (i := (k : Int)) (j := (q : Int)) (x := v) (by omega) (by omega) (by omega)
          simpa using this
        refine ⟨by simp [hxl], fun q hq => ?_, fun q hq1 hq2 => ?_⟩
        · rw [hset q]
          split
          · rename_i e; have : q = k := by omega
            subst this; exact hv
          · exact hx1 q (by omega)
        · rw [hset q, if_neg (by omega)]; exact hx2 q (by omega) hq2
      refine Ok.iteP (fun hc => ?_) (fun hc => ?_)
      · rw [ati_nI (by omega) (by omega), Option.bind_some, Option.bind_some]
        refine (Ok.set (by omega) (by omega)).bind fun y hy => Ok.ret ⟨by omega, w64_nat (by omega), ?_⟩
        rw [Int.toNat_natCast] at hy
        exact hdone _ (by unfold recQ; rw [if_pos hc]) y hy
      · rw [show (⟨p.lens, p.ckpts, p.arcs⟩ : Pat) = p from rfl, w64_id (by have := hw k; omega) (by have := hw k; omega), dindex_g h (by omega) (by omega) (by omega) (by omega), Option.bind_some, Option.bind_some]
        refine (Ok.set (by omega) (by omega)).bind fun y hy => Ok.ret ⟨by omega, w64_nat (by omega), ?_⟩
        rw [Int.toNat_natCast] at hy
        exact hdone _ (by unfold recQ; rw [if_neg hc]) y hy
    · refine ⟨hxl, fun q hq => ?_⟩
      obtain ⟨g1, g2, g3⟩ := hm.und h hp hq
      exact ⟨_, g1, g2, g3, hx1 q (by omega)⟩
theorem rrecovery_g {fuel n B : Nat} {p : Pat} {failed : List Int} (h : PatG n B p) (hn : n ≤ 5) (hB : B ≤ 64) (hf : 1000000 < fuel) (hfl : ∀ q ∈ failed, 0 ≤ q ∧ q < n) (hll : failed.length ≤ 1000) : Ok (ref20_Recovery fuel p failed) (RecS n p (lastN p failed)) := by
  have hk := h.ck; have hlen := h.len
  have hw : ∀ q, (ckR p q).length ≤ 65 := fun q => by have := h.ckW q; omega
  unfold ref20_Recovery
  refine Ok.bind (Q := fun t => t = lastN p failed) (Ok.for_ failed.length (fun k s => s.2 = (k : Int) ∧ s.1 = (lastN p failed).take k) ⟨rfl, by simp⟩ (by omega) ?_) fun t ht => ?_
  · rintro k ⟨l, i⟩ hk2 ⟨hi, hl⟩
    simp only at hi hl
    subst hi hl
    simp only [ref20_Recovery_B2]
    refine Ok.iteP (fun hkl => ?_) (fun hkl => Ok.ret ?_)
    · have hkl' : k < failed.length := by omega
      have hq := hfl failed[k] (List.getElem_mem _)
      rw [ati_get hkl', Option.bind_some, Option.bind_some, ati_ck hq.1 (by omega), Option.bind_some]
      refine (Ok.snoc (by simp [lastN]; omega)).bind fun v hv => Ok.ret ⟨by omega, w64_nat (by omega), ?_⟩
      rw [hv, List.take_add_one]; simp [lastN, hkl']
    · exact List.take_of_length_le (by simp [lastN]; omega)
  · subst ht
    obtain ⟨hv, hp⟩ := lastN_vn h hfl
    simp only [ref20_Recovery_K1]
    rw [show (⟨p.lens, p.ckpts, p.arcs⟩ : Pat) = p from rfl]
    refine (rundone_g h hn hB hf hv (by simpa [lastN] using hll)).bind fun u ⟨m, hm, hu⟩ => ?_
    have hml := hm.1.len
    have hul : u.length = n := by rw [hu]; simp [undL, hml]
    have hun : ∀ q : Nat, q < n → nI u q = (fst1 (rw2 m q) : Int) := fun q hq => by rw [hu]; simp [nI, undL, rw2, hml, hq]
    refine Ok.bind (Q := RecS n p (lastN p failed)) (Ok.for_ n (fun k s => s.2 = (k : Int) ∧ s.1.length = k ∧ ∀ q : Nat, q < k → nI s.1 q = recQ p q (fst1 (rw2 m q))) ⟨rfl, rfl, fun q hq => by omega⟩ (by omega) ?_) fun t ht => Ok.ret ht
    rintro k ⟨x, i⟩ hk2 ⟨hi, hxl, hx1⟩
    simp only at hi hxl hx1
    subst hi
    simp only [ref20_Recovery_B1]
    refine Ok.iteP (fun hkl => ?_) (fun hkl => Ok.ret ?_)
    · have hkn : k < n := by omega
      obtain ⟨g1, g2, g3⟩ := hm.und h hp hkn
      rw [ati_nI (by omega) (by omega), Option.bind_some, ati_ck (by omega) (by omega), Option.bind_some, hun k hkn]
      have hdone : ∀ v, v = recQ p k (fst1 (rw2 m k)) → ∀ y, y = x ++ [v] → y.length = k + 1 ∧ ∀ q : Nat, q < k + 1 → nI y q = recQ p q (fst1 (rw2 m q)) := fun v hv y hy => by
        subst hy
        refine ⟨by simp [hxl], fun q hq => ?_⟩
        unfold nI
        rcases Nat.lt_or_ge q k with h1 | h1
        · rw [Int.toNat_natCast, List.getElem?_append_left (by omega)]
          have := hx1 q h1; unfold nI at this; rwa [Int.toNat_natCast] at this
        · have : q = k := by omega
          subst this
          rw [Int.toNat_natCast, List.getElem?_append_right (by omega), hxl]; simpa using hv
      refine Ok.iteP (fun hc => ?_) (fun hc => ?_)
      · rw [ati_nI (by omega) (by omega), Option.bind_some]
        refine (Ok.snoc (by omega)).bind fun y hy => Ok.ret ⟨by omega, w64_nat (by omega), ?_⟩
        exact hdone _ (by unfold recQ; rw [if_pos hc]) y hy
      · rw [Option.bind_some, show (⟨p.lens, p.ckpts, p.arcs⟩ : Pat) = p from rfl, w64_id (by have := hw k; omega) (by have := hw k; omega), rindex_g h (by omega) (by omega) (by omega) (by omega), Option.bind_some]
        refine (Ok.snoc (by omega)).bind fun y hy => Ok.ret ⟨by omega, w64_nat (by omega), ?_⟩
        exact hdone _ (by unfold recQ; rw [if_neg hc]) y hy
    · have e : k = n := by omega
      subst e
      refine ⟨hxl, fun q hq => ?_⟩
      obtain ⟨g1, g2, g3⟩ := hm.und h hp hq
      exact ⟨_, g1, g2, g3, hx1 q hq⟩
/-- the cut lies inside, and it is consistent -/
theorem RecS.good {n B : Nat} {p : Pat} (h : PatG n B p) {l : List Pt} {x : List Int} (hx : RecS n p l x) : CutG n p.lens x ∧ Cons p.arcs x := by
  have hrow : ∀ q : Nat, q < n → 0 ≤ nI x q ∧ nI x q ≤ nI p.lens q := fun q hq => by
    obtain ⟨u, h1, h2, h3, h4⟩ := hx.2 q hq
    have hc := h.ckI (q := (q : Int)) (by omega) (by omega)
    rw [h4]; unfold recQ
    split
    · exact ⟨(h.nI_rng q).1, Int.le_refl _⟩
    · rename_i hlt
      have hu : u - 1 < (ckR p q).length := by omega
      rw [show ((u : Int) - 1) = ((u - 1 : Nat) : Int) by omega, nI_get hu]
      exact ⟨hc.nonneg _ (List.getElem_mem _), hc.le _ (List.getElem_mem _)⟩
  refine ⟨⟨hx.1, hrow⟩, fun a ha => ?_⟩
  rw [orph_not]
  rintro ⟨hr, hto, hfr⟩
  have hag := h.arc a ha
  obtain ⟨f, hf⟩ := Int.eq_ofNat_of_zero_le hag.fr.1
  obtain ⟨g, hg⟩ := Int.eq_ofNat_of_zero_le hag.to.1
  have hfn : f < n := by have := hag.fr.2; omega
  have hgn : g < n := by have := hag.to.2; omega
  obtain ⟨u, u1, u2, u3, u4⟩ := hx.2 f hfn
  obtain ⟨v, v1, v2, v3, v4⟩ := hx.2 g hgn
  have hcf := h.ckI (q := (f : Int)) (by omega) (by omega)
  have hcg := h.ckI (q := (g : Int)) (by omega) (by omega)
  rw [hf, u4] at hfr; rw [hg, v4] at hto
  have hix := hag.ix.2; have hrv := hag.rcv
  rw [hf] at hix
  unfold recQ at hfr hto
  split at hfr
  · omega
  rename_i hlu
  have hu : u - 1 < (ckR p f).length := by omega
  rw [show ((u : Int) - 1) = ((u - 1 : Nat) : Int) by omega, nI_get hu] at hfr
  have hiv := (ivl_lt hcf.asc hu).1 hfr
  have hile := ivl_le (r := ckR p f) (k := a.ix)
  have hreach := (u3 (ivl (ckR p f) a.ix) hile).2 (by omega)
  have hreach2 : Rch n p l (arcE p a).x1 := Rch.step (e := arcE p a) (by simp only [arcE]; rw [hf]; exact hreach) (.inr ⟨a, ha, hr, rfl⟩)
  simp only [arcE] at hreach2
  rw [hg] at hreach2
  have hjle := ivl_le (r := ckR p g) (k := a.rcv)
  have hvle := (v3 (ivl (ckR p g) a.rcv) hjle).1 hreach2
  split at hto
  · omega
  have hv : v - 1 < (ckR p g).length := by omega
  rw [show ((v : Int) - 1) = ((v - 1 : Nat) : Int) by omega, nI_get hv] at hto
  have := (ivl_lt hcg.asc (k := a.rcv) hv).2 (by omega)
  omega
end Go.Mine
