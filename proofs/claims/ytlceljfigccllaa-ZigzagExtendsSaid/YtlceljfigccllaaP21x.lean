/- Zigzag paths, plain: the reference's extensions. -/
import Derived.Test.YtlceljfigccllaaA21e
import Derived.Test.YtlceljfigccllaaP21p
set_option linter.unusedSimpArgs false
set_option linter.unusedVariables false
namespace Go.Mine
open Go.RowKit
theorem rextendable_g {n B : Nat} {p : Pat} (h : PatG n B p) (hn : n ≤ 5) (hB : B ≤ 64) {l : List Pt} (hl : ∀ x ∈ l, VN n p x) (hll : l.length ≤ 1000) : Ok (ref21_Extendable 10000000 p l) fun b => b = true ↔ ExtP p l := by
  unfold ref21_Extendable
  refine Ok.bind (Q := fun t => match t with | .inl _ => ExtP p l | .inr b => b = false ∧ ¬ ExtP p l) (Ok.for_ l.length (fun k s => s = (k : Int) ∧ ∀ x ∈ l.take k, ∀ z ∈ l, (x.proc = z.proc → x.index = z.index) ∧ ¬ zpath p x z) ⟨rfl, by simp⟩ (by omega) ?_) ?_
  · rintro k s hk ⟨rfl, h1⟩
    unfold ref21_Extendable_B1
    refine Ok.iteP (fun hkl => ?_) (fun hkl => Ok.ret ?_)
    · have hkl' : k < l.length := by omega
      have hv := hl l[k] (List.getElem_mem _)
      refine Ok.bind (Q := fun t => match t with | .inl _ => ∀ z ∈ l, ((l[k]).proc = z.proc → (l[k]).index = z.index) ∧ ¬ zpath p l[k] z | .inr b => b = false ∧ ¬ ExtP p l) (Ok.for_ l.length (fun j s => s = (j : Int) ∧ ∀ z ∈ l.take j, ((l[k]).proc = z.proc → (l[k]).index = z.index) ∧ ¬ zpath p l[k] z) ⟨rfl, by simp⟩ (by omega) ?_) ?_
      · rintro j s hj ⟨rfl, h2⟩
        unfold ref21_Extendable_B2
        refine Ok.iteP (fun hjl => ?_) (fun hjl => Ok.ret ?_)
        · have hjl' : j < l.length := by omega
          have hvj := hl l[j] (List.getElem_mem _)
          rw [ati_get hkl', ati_get hjl']
          simp only [Option.bind_some, andM_some, show (⟨p.lens, p.ckpts, p.arcs⟩ : Pat) = p from rfl]
          rw [rpath_g h hn hB hv hvj]
          simp only [Option.bind_some, orM_some]
          refine Ok.ite (fun hc => Ok.ret ⟨rfl, fun hx => ?_⟩) (fun hc => Ok.ret ⟨hjl', w64_nat (by omega), fun z hz => ?_⟩)
          · simp only [Bool.or_eq_true, Bool.and_eq_true, beq_iff_eq, bne_iff_ne, ne_eq] at hc
            rcases hc with ⟨h5, h6⟩ | h5
            · exact h6 (hx.1 _ (List.getElem_mem _) _ (List.getElem_mem _) h5)
            · exact hx.2 _ (List.getElem_mem _) _ (List.getElem_mem _) (zpB_iff.1 h5)
          · rw [mem_take_succ', List.getElem?_eq_getElem hjl', Option.some.injEq] at hz
            rcases hz with h5 | rfl
            · exact h2 z h5
            · simp only [Bool.or_eq_false_iff, Bool.and_eq_false_iff, beq_eq_false_iff_ne, ne_eq, bne_eq_false_iff_eq] at hc
              refine ⟨fun e => ?_, fun hz => ?_⟩
              · rcases hc.1 with h6 | h6
                · exact absurd e h6
                · exact h6
              · rw [zpB_iff.2 hz] at hc; cases hc.2
        · rw [show j = l.length by omega, List.take_length] at h2; exact h2
      · rintro (u | b) ht
        · refine Ok.ret ⟨hkl', w64_nat (by omega), fun x hx => ?_⟩
          rw [mem_take_succ', List.getElem?_eq_getElem hkl', Option.some.injEq] at hx
          rcases hx with h5 | rfl
          · exact h1 x h5
          · exact ht
        · exact Ok.ret ht
    · rw [show k = l.length by omega, List.take_length] at h1
      exact ⟨fun x hx z hz => (h1 x hx z hz).1, fun x hx z hz => (h1 x hx z hz).2⟩
  · rintro (u | b) ht
    · exact Ok.ret ⟨fun _ => ht, fun _ => rfl⟩
    · exact Ok.ret ⟨(fun h5 => by rw [ht.1] at h5; cases h5), fun h5 => absurd h5 ht.2⟩
/-- as far as the reference has lowered -/
structure LowS (n : Nat) (p : Pat) (l : List Pt) (y : List Int) : Prop where
  num : NumV n p y
  best : ∀ z, Good n p l z → Le z y
  low : ∀ x ∈ l, nI y x.proc ≤ x.index
theorem LowS.dec {n B : Nat} {p : Pat} (h : PatG n B p) {l : List Pt} {y : List Int} (hy : LowS n p l y) {a : Arc} (ha : a ∈ p.arcs) (ho : orph a (cutOf n p y) = true) {t : Nat} (ht : a.to = t) (htn : t < n) : 1 ≤ nI y t ∧ LowS n p l (y.set t (nI y t - 1)) := by
  have hag := h.arc a ha
  have hf0 := hag.fr.1; have hf1 := hag.fr.2
  unfold orph at ho
  simp only [Bool.and_eq_true, decide_eq_true_eq] at ho
  rw [nI_cut hf0 hf1, ht, nI_cut (by omega) (by omega)] at ho
  obtain ⟨⟨o1, o2⟩, o3⟩ := ho
  have hyt := hy.num.2 t htn
  have h1 : 1 ≤ nI y t := by
    rcases Int.lt_or_le 0 (nI y t) with h5 | h5
    · omega
    · have e : nI y t = 0 := by omega
      rw [e, cidx_zero h (by omega) (by omega)] at o2
      have := hag.rcv.1; omega
  obtain ⟨d1, d2, d3⟩ := hy.num.dec htn h1
  refine ⟨h1, d1, fun z hz q hq => ?_, fun x hx => ?_⟩
  · have hb := hy.best z hz q hq
    rw [d3 q]
    split
    · rename_i e; subst e
      rcases Int.lt_or_le (nI z q) (nI y q) with h5 | h5
      · omega
      · exfalso
        have e : nI z q = nI y q := by omega
        have hno := hz.2.1 a ha
        have : orph a (cutOf n p z) = true := by
          unfold orph
          simp only [Bool.and_eq_true, decide_eq_true_eq]
          rw [nI_cut hf0 hf1, ht, nI_cut (by omega) (by omega), e]
          refine ⟨⟨o1, o2⟩, ?_⟩
          obtain ⟨f, hf⟩ := Int.eq_ofNat_of_zero_le hf0
          have hfn : f < n := by omega
          have hzf := hz.1.2 f hfn; have hyf := hy.num.2 f hfn
          have hbf := hy.best z hz f (by rw [hz.1.1]; exact hfn)
          obtain ⟨i, hi⟩ := Int.eq_ofNat_of_zero_le hzf.1
          obtain ⟨j, hj⟩ := Int.eq_ofNat_of_zero_le hyf.1
          have := cidx_mono h (q := (f : Int)) (i := i) (j := j) (by omega) (by omega) (by omega)
          rw [hf] at o3 ⊢
          rw [hj] at o3; rw [hi]
          omega
        rw [this] at hno; cases hno
    · exact hb
  · have hl := hy.low x hx
    rcases Int.lt_or_le x.proc 0 with h5 | h5
    · have e : nI (y.set t (nI y t - 1)) x.proc = if 0 = t then nI y t - 1 else nI y (0 : Nat) := by
        rw [← d3 0]; unfold nI; rw [show x.proc.toNat = 0 by omega]; rfl
      rw [e]
      have e2 : nI y x.proc = nI y (0 : Nat) := by unfold nI; rw [show x.proc.toNat = 0 by omega]; rfl
      rw [e2] at hl
      split
      · rename_i e3; subst e3; omega
      · exact hl
    · obtain ⟨q, hq⟩ := Int.eq_ofNat_of_zero_le h5
      rw [hq] at hl ⊢
      rw [d3 q]
      split
      · rename_i e3; subst e3; omega
      · exact hl
theorem rextension_g {n B : Nat} {p : Pat} (h : PatG n B p) (hn : n ≤ 5) (hB : B ≤ 64) {l : List Pt} (hl : ∀ x ∈ l, VN n p x) (hll : l.length ≤ 1000) : Ok (ref21_Extension 10000000 p l) (ExtS n p l) := by
  have hk := h.ck; have hal := h.al
  unfold ref21_Extension
  refine Ok.bind (Q := fun y => y.length = n ∧ ∀ q : Nat, q < n → nI y q = (ckR p q).length) (Ok.for_ n (fun k s => s.2 = (k : Int) ∧ s.1 = (List.range k).map fun (q : Nat) => ((ckR p q).length : Int)) ⟨rfl, rfl⟩ (by omega) ?_) fun y0 ⟨y1, y2⟩ => ?_
  · rintro k ⟨y, i⟩ hk2 ⟨hi, hy⟩
    simp only at hi hy
    subst hi hy
    simp only [ref21_Extension_B5]
    refine Ok.iteP (fun hkl => ?_) (fun hkl => Ok.ret ?_)
    · rw [ati_ck (by omega) hkl, Option.bind_some]
      refine (Ok.snoc (by simp; omega)).bind fun y' hy' => Ok.ret ⟨by omega, w64_nat (by omega), ?_⟩
      subst hy'
      simp only; rw [List.range_succ, List.map_append]; rfl
    · rw [show k = n by omega]
      exact ⟨by simp, fun q hq => nI_map hq⟩
  · unfold ref21_Extension_K1
    have hlow0 : LowS n p [] y0 := ⟨⟨y1, fun q hq => by rw [y2 q hq]; omega⟩, fun z hz q hq => by
      have hqn : q < n := by rw [hz.1.1] at hq; exact hq
      rw [y2 q hqn]; exact (hz.1.2 q hqn).2, by simp⟩
    refine Ok.bind (Q := LowS n p l) (Ok.for_ l.length (fun k s => s.2 = (k : Int) ∧ LowS n p (l.take k) s.1) ⟨rfl, by simpa using hlow0⟩ (by omega) ?_) fun y hy => ?_
    · rintro k ⟨y, i⟩ hk2 ⟨hi, hy⟩
      simp only at hi hy
      subst hi
      have hyl := hy.num.1
      simp only [ref21_Extension_B4]
      refine Ok.iteP (fun hkl => ?_) (fun hkl => Ok.ret (by rw [show k = l.length by omega, List.take_length] at hy; exact hy))
      have hkl' : k < l.length := by omega
      have hv := hl l[k] (List.getElem_mem _)
      have p1 := hv.p1
      have hmem : ∀ e, e ∈ l.take (k + 1) ↔ e ∈ l.take k ∨ e = l[k] := fun e => by rw [mem_take_succ', List.getElem?_eq_getElem hkl', Option.some.injEq, eq_comm (a := l[k])]
      rw [ati_get hkl']
      simp only [Option.bind_some]
      rw [ati_nI hv.p0 (by omega)]
      simp only [Option.bind_some]
      refine (Ok.set hv.p0 (by omega)).bind fun y' hy' => Ok.ret ⟨hkl', w64_nat (by omega), ?_⟩
      have hset : ∀ j : Int, 0 ≤ j → nI y' j = if j = (l[k]).proc then min (nI y (l[k]).proc) (l[k]).index else nI y j := fun j hj => by rw [hy']; exact nI_set hv.p0 (by omega) hj
      refine ⟨⟨by simp only [hy']; simp [hyl], fun q hq => ?_⟩, fun z hz q hq => ?_, fun x hx => ?_⟩
      · simp only
        rw [hset q (by omega)]
        split
        · rename_i e; have := hy.num.2 q hq; rw [← e]; have := hv.i0; omega
        · exact hy.num.2 q hq
      · have hz' : Good n p (l.take k) z := ⟨hz.1, hz.2.1, fun x hx => hz.2.2 x ((hmem x).2 (.inl hx))⟩
        have hb := hy.best z hz' q hq
        simp only
        rw [hset q (by omega)]
        split
        · rename_i e
          have := hz.2.2 l[k] ((hmem _).2 (.inr rfl))
          rw [← e] at this ⊢; omega
        · exact hb
      · have hvx := hl x (List.mem_of_mem_take hx)
        simp only
        rw [hset x.proc hvx.p0]
        rcases (hmem x).1 hx with h5 | rfl
        · have := hy.low x h5
          split
          · rename_i e; rw [← e]; omega
          · exact this
        · rw [if_pos rfl]; omega
    · unfold ref21_Extension_K2
      refine Ok.bind (Q := fun z => LowS n p l z ∧ Cons p.arcs (cutOf n p z)) (Ok.run (fun m s => LowS n p l s.1 ∧ (s.2 = true → m = smN s.1 + 1) ∧ (s.2 = false → Cons p.arcs (cutOf n p s.1))) (m := smN y + 1) ⟨hy, fun _ => rfl, fun h5 => by cases h5⟩ (by have := hy.num.sm h hn hB; omega) ?_) fun z ⟨hz, hzc⟩ => ?_
      · rintro m ⟨y, c⟩ ⟨hy, hc1, hc2⟩
        simp only at hy hc1 hc2
        simp only [ref21_Extension_B2]
        refine Ok.ite (fun hc => ?_) (fun hc => Ok.ret ⟨hy, hc2 hc⟩)
        have hm := hc1 hc
        refine Ok.bind (Q := fun s => LowS n p l s.1 ∧ (s.2 = false → s.1 = y ∧ Cons p.arcs (cutOf n p y)) ∧ (s.2 = true → smN s.1 < smN y)) (Ok.for_ p.arcs.length (fun k s => s.2.2 = (k : Int) ∧ LowS n p l s.1 ∧ (s.2.1 = false → s.1 = y ∧ ∀ a ∈ p.arcs.take k, orph a (cutOf n p y) = false) ∧ (s.2.1 = true → smN s.1 < smN y)) ⟨rfl, hy, fun _ => ⟨rfl, by simp⟩, fun h5 => by cases h5⟩ (by omega) ?_) ?_
        · rintro k ⟨x, c', i⟩ hk2 ⟨hi, hx, hf, ht⟩
          simp only at hi hx hf ht
          subst hi
          have hxl := hx.num.1
          simp only [ref21_Extension_B3, show (⟨p.lens, p.ckpts, p.arcs⟩ : Pat) = p from rfl]
          refine Ok.iteP (fun hkl => ?_) (fun hkl => Ok.ret ⟨hx, fun h5 => ?_, ht⟩)
          · have hkl' : k < p.arcs.length := by omega
            have hin : p.arcs[k] ∈ p.arcs := List.getElem_mem _
            have hag := h.arc p.arcs[k] hin
            have f0 := hag.fr.1; have f1 := hag.fr.2; have t0 := hag.to.1; have t1 := hag.to.2; have r0 := hag.rcv.1
            obtain ⟨f, hfe⟩ := Int.eq_ofNat_of_zero_le f0
            obtain ⟨t, hte⟩ := Int.eq_ofNat_of_zero_le t0
            have hfn : f < n := by omega
            have htn : t < n := by omega
            have hxf := hx.num.2 f hfn; have hxt := hx.num.2 t htn
            have hwt := h.ckW t
            rw [ati_get hkl']
            simp only [Option.bind_some]
            rw [ati_nI t0 (by omega), ati_nI f0 (by omega)]
            simp only [Option.bind_some]
            rw [rindex_a h t0 t1 (by rw [hte]; exact hxt.1), rindex_a h f0 f1 (by rw [hfe]; exact hxf.1)]
            simp only [Option.bind_some, andM_some]
            have horph : (decide (0 < (p.arcs[k]).rcv) && decide ((p.arcs[k]).rcv ≤ cidx p (p.arcs[k]).to (nI x (p.arcs[k]).to)) && decide (cidx p (p.arcs[k]).fr (nI x (p.arcs[k]).fr) < (p.arcs[k]).ix)) = orph p.arcs[k] (cutOf n p x) := by
              unfold orph
              rw [nI_cut t0 t1, nI_cut f0 f1]
              congr 2
              rw [decide_eq_decide]; omega
            rw [horph]
            refine Ok.ite (fun ho => ?_) (fun ho => Ok.ret ⟨hkl', w64_nat (by omega), hx, fun h5 => ?_, ht⟩)
            · obtain ⟨d1, d2⟩ := hx.dec h hin ho hte htn
              obtain ⟨_, d3, _⟩ := hx.num.dec htn d1
              refine (Ok.set t0 (by omega)).bind fun x' hx' => Ok.ret ⟨hkl', w64_nat (by omega), ?_⟩
              rw [hte, Int.toNat_natCast, w64_id (by omega) (by omega)] at hx'
              subst hx'
              refine ⟨d2, (fun h5 => by cases h5), fun _ => ?_⟩
              show smN (x.set t (nI x t - 1)) < smN y
              cases c' with
              | false => rw [← (hf rfl).1]; omega
              | true => have := ht rfl; omega
            · obtain ⟨e, hall⟩ := hf h5
              refine ⟨e, fun a ha => ?_⟩
              rw [mem_take_succ', List.getElem?_eq_getElem hkl', Option.some.injEq] at ha
              rcases ha with h6 | rfl
              · exact hall a h6
              · rw [e] at ho; exact ho
          · obtain ⟨e, hall⟩ := hf h5
            rw [show k = p.arcs.length by omega, List.take_length] at hall
            exact ⟨e, hall⟩
        · rintro ⟨x, c'⟩ ⟨hx, hf, ht⟩
          simp only at hx hf ht
          simp only [ref21_Extension_K5]
          cases c' with
          | false =>
            obtain ⟨e, hcc⟩ := hf rfl
            subst e
            exact Ok.ret ⟨0, by omega, hx, (fun h5 => by cases h5), fun _ => hcc⟩
          | true => exact Ok.ret ⟨smN x + 1, by have := ht rfl; omega, hx, fun _ => rfl, fun h5 => by cases h5⟩
      · unfold ref21_Extension_K3
        have hzl := hz.num.1
        refine Ok.bind (Q := fun t => match t with | .inl _ => Cnt l z | .inr r => r = ([], false) ∧ ¬ Cnt l z) (Ok.for_ l.length (fun k s => s = (k : Int) ∧ ∀ x ∈ l.take k, nI z x.proc = x.index) ⟨rfl, by simp⟩ (by omega) ?_) ?_
        · rintro k s hk2 ⟨rfl, h1⟩
          unfold ref21_Extension_B1
          refine Ok.iteP (fun hkl => ?_) (fun hkl => Ok.ret (by rw [show k = l.length by omega, List.take_length] at h1; exact h1))
          have hkl' : k < l.length := by omega
          have hv := hl l[k] (List.getElem_mem _)
          rw [ati_get hkl']
          simp only [Option.bind_some]
          rw [ati_nI hv.p0 (by have := hv.p1; omega), Option.bind_some]
          refine Ok.iteN (fun hne => Ok.ret ⟨rfl, fun hc => hne (hc _ (List.getElem_mem _))⟩) (fun he => Ok.ret ⟨hkl', w64_nat (by omega), fun x hx => ?_⟩)
          rw [mem_take_succ', List.getElem?_eq_getElem hkl', Option.some.injEq] at hx
          rcases hx with h6 | rfl
          · exact h1 x h6
          · exact he
        · rintro (u | r) ht
          · exact Ok.ret (.inl ⟨rfl, ⟨hz.num, hzc, ht⟩, hz.best⟩)
          · obtain ⟨rfl, hnc⟩ := ht
            refine Ok.ret (.inr ⟨rfl, fun w hw => hnc fun x hx => ?_⟩)
            have h1 := hz.low x hx
            have hv := hl x hx
            obtain ⟨q, hq⟩ := Int.eq_ofNat_of_zero_le hv.p0
            have h2 := hz.best w hw q (by rw [hw.1.1]; have := hv.p1; omega)
            have h3 := hw.2.2 x hx
            rw [hq] at h1 h3 ⊢
            omega
end Go.Mine
