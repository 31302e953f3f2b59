/- The laws of chapter 33 in plain words: CascadeLate, CascadeAgrees, CascadeIdle. -/
import Derived.Test.YtddohdppmejjoaaP33g
import Derived.Test.YtddohdppmejjoaaP33s
import Derived.Test.YtddohdppmejjoaaA33h
set_option linter.unusedSimpArgs false
set_option linter.unusedVariables false
namespace Go.Mine
theorem late33 {c : List Int} (hc : ∀ x ∈ c, U8 x) : law33_CascadeLate 10000000 c = some true := by
  refine Ok.eq ?_
  unfold law33_CascadeLate
  rw [awake33, Option.bind_some, if_neg (by decide)]
  refine (settled33 hc (by omega)).bind fun r ⟨h1, hq, n, X, h2, h3, h⟩ => ?_
  rw [h1, if_neg (by decide)]
  have hlen := h.len
  have hfl := h.flight
  refine Ok.bind (Q := fun t => Sum.elim (fun _ => True) (fun _ => False) t) (Ok.for_ r.1.flight.length (fun k t => t = (k : Int)) rfl (by omega) ?_) ?_
  · rintro k _ hk rfl
    unfold law33_CascadeLate_B1
    refine Ok.iteP (fun hl => ?_) fun hl => Ok.ret trivial
    have hk' : k < r.1.flight.length := by omega
    refine (Ok.at (by omega) hl).bind fun x hx => ?_
    rw [Int.toNat_natCast] at hx
    have hm := h.ci.mail x (mem_of_getElem? hx)
    have hto := hm.to_
    have hpl : InR r.1.branches.length x.to := by rw [hlen]; exact hto
    have hw := hq x (mem_of_getElem? hx)
    have e1 : decide (x.to < 0) = false := by have := hto.1; simp; omega
    have e2 : decide ((r.1.branches.length : Int) ≤ x.to) = false := by have := hpl.2; simp; omega
    have hsm := h.small hto
    have hen := h.ends (by omega) (by omega) hto
    simp only [e1, e2, hw, orM_false, Option.bind_some]
    rw [if_neg (by decide)]
    refine (Ok.at hto.1 hpl.2).bind fun b hb => ?_
    rw [h.get hto] at hb; cases hb
    rw [undone_eq (by omega) (by omega), Option.bind_some]
    refine (h.stepReceive (p := 0) (by omega) (by omega) (by omega) hx).bind fun t ht => ?_
    rcases ht with ⟨h4, _⟩ | ⟨h4, hR⟩
    · rw [h4, if_pos (by decide), if_neg (by decide)]
      exact Ok.ret ⟨hk', w64_nat (by omega)⟩
    · rw [h4, if_neg (by decide)]
      rcases hR with ⟨h5, _⟩ | ⟨_, hR⟩
      · rw [hw] at h5; cases h5
      simp only [Prod.mk.injEq] at hR
      obtain ⟨hR1, _⟩ := hR
      have hl2 : t.1.branches.length = r.1.branches.length := by rw [hR1]; split <;> simp
      have e3 : ((t.1.branches.length : Int) != (r.1.branches.length : Int)) = false := by rw [hl2]; simp
      have hb2 : t.1.branches[x.to.toNat]? = some (if undB (brs r.1.branches x.to).ends x.frm x.sent = true then brs r.1.branches x.to else evS (brs r.1.branches x.to) ⟨1, 0, x.frm, x.sent, 0, 0⟩) := by
        rw [hR1]
        split
        · exact h.get hto
        · rw [List.getElem?_set_self (by have := hpl.1; have := hpl.2; omega)]
      refine Ok.bind (Q := fun b => b = false) (Ok.orM (fun _ => ?_) fun hh => by rw [e3] at hh; cases hh) fun b hb => ?_
      · refine (Ok.at hto.1 (by rw [hl2]; exact hpl.2)).bind fun b1 hb1 => ?_
        rw [hb2] at hb1; cases hb1
        refine (Ok.at hto.1 hpl.2).bind fun b2 hb2 => ?_
        rw [h.get hto] at hb2; cases hb2
        refine Ok.ret ?_
        show (undB (brs r.1.branches x.to).ends x.frm x.sent != _) = false
        by_cases hu : undB (brs r.1.branches x.to).ends x.frm x.sent = true
        · rw [if_pos hu, hu]; simp
        · have hu' : undB (brs r.1.branches x.to).ends x.frm x.sent = false := by simpa using hu
          rw [if_neg hu, hu', len_evS]
          simp
          try omega
      · subst hb
        rw [if_neg (by decide)]
        exact Ok.ret ⟨hk', w64_nat (by omega)⟩
  · rintro (t | t) ht
    · exact Ok.ret rfl
    · exact ht.elim
theorem agrees33 {c : List Int} (hc : ∀ x ∈ c, U8 x) : law33_CascadeAgrees 10000000 c = some true := by
  refine Ok.eq ?_
  unfold law33_CascadeAgrees
  rw [awake33, Option.bind_some, if_neg (by decide)]
  refine (play33 (m := 70) hc (by omega) (by omega)).bind fun r ⟨h1, n, X, h2, h3, h⟩ => ?_
  rw [h1, if_neg (by decide)]
  refine (h.settle (by omega) (by omega) (by omega)).bind fun d ⟨hq, _, ⟨X', h'⟩, _⟩ => ?_
  have hlen := h.len
  have hlen' := h'.len
  have hfl := h'.flight
  have hS := h'.smallL (by omega) (by omega)
  rw [lineages33 (by omega) (by omega), Option.bind_some, quiet33 (by omega) (by omega) hq, Option.bind_some]
  have e1 : ((d.branches.length : Int) != (r.1.branches.length : Int)) = false := by rw [hlen, hlen']; simp
  simp only [Bool.not_true, orM_false, e1, Option.bind_some]
  have e2 : List.map (fun x => x.events) d.branches = lns d.branches := rfl
  rw [e2, full33 (by rw [lns_length]; omega) (by rw [lns_length]; omega), Option.bind_some]
  refine Ok.bind (Q := fun b => b = false) ((cons_o hS (by omega)).bind fun b hb => Ok.ret ?_) fun b hb => ?_
  · rw [hb.2 (h'.consAll hq)]; rfl
  subst hb
  rw [if_neg (by decide)]
  refine Ok.bind (Q := fun t => Sum.elim (fun _ => True) (fun _ => False) t) (Ok.for_ d.branches.length (fun k t => t = (k : Int)) rfl (by omega) ?_) ?_
  · rintro k _ hk rfl
    unfold law33_CascadeAgrees_B1
    refine Ok.iteP (fun hl => ?_) fun hl => Ok.ret trivial
    have hk' : k < d.branches.length := by omega
    have hkr : InR n (k : Int) := ⟨by omega, by omega⟩
    refine Ok.bind (Q := fun t => Sum.elim (fun _ => True) (fun _ => False) t) (Ok.for_ (lns d.branches).length (fun j t => t = (j : Int)) rfl (by rw [lns_length]; omega) ?_) ?_
    · rintro j _ hj rfl
      unfold law33_CascadeAgrees_B2
      refine Ok.iteP (fun hl2 => ?_) fun hl2 => Ok.ret trivial
      have hj' : j < d.branches.length := by rw [lns_length] at hl2; omega
      have hjr : InR n (j : Int) := ⟨by omega, by omega⟩
      have hsm := h'.small hjr
      have hen := h'.ends (by omega) (by omega) hkr
      refine (Ok.at (by omega) hl).bind fun b hb => ?_
      rw [h'.get hkr] at hb; cases hb
      refine (Ok.at (by omega) hl2).bind fun l hl3 => ?_
      rw [lns_get ⟨hjr.1, by omega⟩] at hl3; cases hl3
      refine (Ok.at (by omega) hl2).bind fun l hl3 => ?_
      rw [lns_get ⟨hjr.1, by omega⟩] at hl3; cases hl3
      refine (kept_ok (by omega) (by omega) (by omega)).bind fun z hz => ?_
      have := hz.all fun i hi hu => by
        have hd := h'.ci.dead hkr hu
        refine h'.ci.pres hjr (by simp only [labAt]; omega) ?_ hd
        refine ⟨(brs d.branches (j : Int)).events[i], ?_, ?_⟩
        · simp only [labAt]
          rw [show ((i : Int) + 1 - 1).toNat = i by omega]
          exact List.getElem?_eq_getElem hi
        · simp [labAt, List.getElem?_eq_getElem hi]
      subst this
      rw [if_neg (by simp)]
      exact Ok.ret ⟨by omega, w64_nat (by omega)⟩
    · rintro (t | t) ht
      · exact Ok.ret ⟨by omega, w64_nat (by omega)⟩
      · exact ht.elim
  · rintro (t | t) ht
    · exact Ok.ret rfl
    · exact ht.elim
/-- a step back to the end takes nothing -/
theorem idle33 {c : List Int} {w : Int} (hc : ∀ x ∈ c, U8 x) (hw : U8 w) : law33_CascadeIdle 10000000 c w = some true := by
  refine Ok.eq ?_
  unfold law33_CascadeIdle
  rw [awake33, Option.bind_some, if_neg (by decide)]
  refine (settled33 hc (by omega)).bind fun r ⟨h1, hq, n, X, h2, h3, h⟩ => ?_
  rw [h1, if_neg (by decide)]
  have hlen := h.len
  have hfl := h.flight
  have hw0 := hw.1
  have hw1 := hw.2
  rw [w64_id (by omega) (by omega)]
  refine (Ok.rem (by omega)).bind fun p hp => ?_
  have hpr : InR n p := ⟨by rw [hp]; exact Int.tmod_nonneg _ hw0, by rw [hp, ← hlen]; exact Int.tmod_lt_of_pos _ (by omega)⟩
  have hpl : InR r.1.branches.length p := by rw [hlen]; exact hpr
  refine (h.stepFlush (o := 0) (by omega) (by omega) hpr).bind fun d ⟨d1, d2, d3⟩ => ?_
  have hd := h.flush hpr
  have d2 : d.1.branches = r.1.branches.set p.toNat (flB (brs r.1.branches p)) := d2
  rw [← d2, ← d3] at hd
  refine (hd.stepCrash (o := 0) (by omega) (by omega) (by omega) hpr).bind fun f ⟨f1, f2⟩ => ?_
  obtain ⟨X', hf⟩ := hd.crash hpr (by omega) f2
  have hlenf : f.1.branches.length = n := hf.len
  rw [d1, f1]
  have e1 : ((f.1.branches.length : Int) != (r.1.branches.length : Int)) = false := by rw [hlen, hlenf]; simp
  simp only [bne_self_eq_false, orM_false, e1, Option.bind_some]
  rw [if_neg (by decide)]
  refine (h.settle (by omega) (by omega) (by omega)).bind fun c1 ⟨_, k2, _, _⟩ => ?_
  rw [k2 hq]
  have hbe : ∀ b ∈ r.1.branches, b.events.length ≤ 1000000 ∧ b.ends.length ≤ 1000000 := fun b hb => by
    obtain ⟨j, hj, rfl⟩ := List.mem_iff_getElem.1 hb
    have hjr : InR n (j : Int) := ⟨by omega, by omega⟩
    have := h.get hjr
    rw [Int.toNat_natCast, List.getElem?_eq_getElem hj, Option.some.injEq] at this
    rw [this]
    have := h.small hjr
    have := h.ends (by omega) (by omega) hjr
    omega
  rw [same33 (by omega) (by omega) (by omega) (fun b hb => (hbe b hb).1) (fun b hb => (hbe b hb).2)]
  simp only [Option.bind_some, andM_true]
  have hS := h.smallL (by omega) (by omega)
  have hcut := h.consAll hq
  have hzf : ∀ q, InR n q → nI ((lns r.1.branches).map fun r => (r.length : Int)) q = (brs r.1.branches q).events.length := fun q hq => by
    unfold nI; rw [List.getElem?_map, lns_get (by rw [hlen]; exact hq)]; rfl
  have hG : LowP (lns r.1.branches) ((lns r.1.branches).map fun r => (r.length : Int)) ((lns r.1.branches).map fun r => (r.length : Int)) := by
    have hcl : ∀ j, j < (lns r.1.branches).length → clampI (lns r.1.branches) ((lns r.1.branches).map fun r => (r.length : Int)) j = nI ((lns r.1.branches).map fun r => (r.length : Int)) j := fun j hj => by
      have hj' := hj
      rw [lns_length] at hj'
      unfold clampI
      rw [if_pos (by simpa using hj), rl_lns hj', hzf j ⟨by omega, by omega⟩]
      omega
    exact ⟨hcut, fun j hj => by rw [hcl j hj]; exact Int.le_refl _, fun z _ hz j hj => by rw [← hcl j hj]; exact hz j hj⟩
  have hbd : ∀ q, (brs d.1.branches q).events = (brs r.1.branches q).events := fun q => by
    rw [d2, brs_set hpl]
    by_cases e : q = p
    · subst e; rw [upd_self]; rfl
    · rw [upd_ne e]
  have hbe2 : ∀ q, (brs d.1.branches q).ends = (brs r.1.branches q).ends := fun q => by
    rw [d2, brs_set hpl]
    by_cases e : q = p
    · subst e; rw [upd_self]; rfl
    · rw [upd_ne e]
  have hst : (brs d.1.branches p).stable = (brs r.1.branches p).events.length := by rw [d2, brs_set hpl, upd_self]; rfl
  have hJ0 : JI n (brs r.1.branches) (nI ((lns r.1.branches).map fun r => (r.length : Int))) (nI ((lns r.1.branches).map fun r => (r.length : Int))) (brs d.1.branches) d.1.flight :=
    ⟨fun q hq => by rw [hbd]; exact (List.take_length).symm, fun q hq => by rw [hbd, hzf q hq]; exact Int.le_refl _, fun q hq => by rw [hbd, hzf q hq]; exact Int.le_refl _, fun q _ p l hu => .inl (by rw [hbe2] at hu; exact hu), fun x hx hw => by rw [d3] at hx; rw [hq x hx] at hw; cases hw⟩
  have hJ1 := JI.crash hd hJ0 hpr (by rw [hst, hzf p hpr]; exact Int.le_refl _) f2
  refine Ok.bind (Q := fun b => b = true) ((hf.settle (by omega) (by omega) (by omega)).bind fun g ⟨g1, _, ⟨X2, hg⟩, gJ⟩ => ?_) fun b hb => ?_
  · have hleng := hg.len
    have := h.settled hq (by simp [lns, hlen]) (fun j hj => by rw [hzf j ⟨by omega, by omega⟩]; omega) hG hg g1 (gJ _ _ _ (GoodG.of h hG) hJ1)
    have hL : lns g.branches = lns r.1.branches := by
      refine List.ext_getElem (by rw [lns_length, lns_length]; omega) fun j a b => ?_
      rw [lns_length] at a
      have hjr : InR n (j : Int) := ⟨by omega, by omega⟩
      have e1 := lns_get (bs := g.branches) (q := (j : Int)) ⟨hjr.1, by omega⟩
      have e2 := lns_get (bs := r.1.branches) (q := (j : Int)) ⟨hjr.1, by omega⟩
      rw [Int.toNat_natCast, List.getElem?_eq_getElem (by rw [lns_length]; omega), Option.some.injEq] at e1 e2
      rw [e1, e2, this.2 _ hjr, hzf _ hjr]
      simp
    rw [lineages33 (by omega) (by omega), Option.bind_some, lineages33 (by omega) (by omega), Option.bind_some]
    have e1 : List.map (fun x => x.events) g.branches = lns g.branches := rfl
    have e2 : List.map (fun x => x.events) r.1.branches = lns r.1.branches := rfl
    rw [e1, e2, hL, samelin_refl (by rw [lns_length]; omega) (by rw [lns_length]; omega) (fun l hl => by
      obtain ⟨b, hb, rfl⟩ := List.mem_map.1 hl
      have := h.tot
      have : totB b ≤ tot r.1.branches := le_sum totB hb
      unfold totB at this
      omega)]
    exact Ok.ret rfl
  subst hb
  rw [andM_true]
  have hinc : (brs f.1.branches p).inc = (brs r.1.branches p).inc + 1 := by
    obtain ⟨rr, _, _, t1, _⟩ := f2
    simp only at t1
    rw [t1, brs_set (by rw [hd.len]; exact hpr), upd_self]
    simp only [goB]
    rw [d2, brs_set hpl, upd_self]; rfl
  refine Ok.bind (Q := fun b => b = true) ?_ fun b hb => Ok.ret hb
  refine (Ok.at hpr.1 (by have := hpr.2; omega)).bind fun b1 hb1 => ?_
  rw [hf.get hpr] at hb1; cases hb1
  refine (Ok.at hpr.1 hpl.2).bind fun b1 hb1 => ?_
  rw [h.get hpr] at hb1; cases hb1
  have := h.small hpr
  have := h.ci.inc0 p hpr
  rw [hinc, w64_id (by omega) (by omega)]
  exact Ok.ret (by simp)
end Go.Mine
