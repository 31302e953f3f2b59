/- The laws of chapter 33 in plain words: CascadeSettles, CascadeOrders. -/
import Derived.Test.YtddohdppmejjoaaP33g
import Derived.Test.YtddohdppmejjoaaP33s
import Derived.Test.YtddohdppmejjoaaA33h
set_option linter.unusedSimpArgs false
set_option linter.unusedVariables false
namespace Go.Mine
theorem lns_eq {n : Nat} {bs bs' : List Branch} (h1 : bs.length = n) (h2 : bs'.length = n) (h : ∀ q, InR n q → (brs bs q).events = (brs bs' q).events) : lns bs = lns bs' := by
  refine List.ext_getElem (by rw [lns_length, lns_length]; omega) fun j a b => ?_
  rw [lns_length] at a
  have hjr : InR n (j : Int) := ⟨by omega, by omega⟩
  have e1 := lns_get (bs := bs) (q := (j : Int)) ⟨hjr.1, by omega⟩
  have e2 := lns_get (bs := bs') (q := (j : Int)) ⟨hjr.1, by omega⟩
  rw [Int.toNat_natCast, List.getElem?_eq_getElem (by rw [lns_length]; omega), Option.some.injEq] at e1 e2
  rw [e1, e2, h _ hjr]
theorem shr_o {a k : Int} (h : 0 ≤ k) : Ok (shrK .u8 a k) fun _ => True := by
  unfold shrK; rw [if_neg (by omega)]; exact Ok.ret trivial
theorem JI.withU {n : Int} {C B : Int → Branch} {G U U' : Int → Int} {fl : List Letter} (h : JI n C G U B fl) (hi : ∀ q, InR n q → ((B q).events.length : Int) ≤ U' q) : JI n C G U' B fl := ⟨h.pre, h.lo, hi, h.ends, h.news⟩
theorem beginnings33 {fuel : Nat} {m l : List (List Evt)} (hf : m.length < fuel) (hl : m.length ≤ 1000000) (hlen : m.length = l.length) (h : ∀ (j : Nat) r, m[j]? = some r → r.length < fuel ∧ r.length ≤ 1000000 ∧ ∃ r0, l[j]? = some r0 ∧ r = r0.take r.length) : law33_beginnings fuel m l = some true := by
  refine Ok.eq ?_
  unfold law33_beginnings
  refine Ok.bind (Q := fun t => Sum.elim (fun _ => True) (fun _ => False) t) (Ok.for_ m.length (fun k t => t = (k : Int)) rfl hf ?_) ?_
  · rintro k _ hk rfl
    unfold law33_beginnings_B1
    refine Ok.iteP (fun h1 => ?_) fun h1 => Ok.ret trivial
    have hk' : k < m.length := by omega
    have hm : m[k]? = some m[k] := List.getElem?_eq_getElem hk'
    obtain ⟨g1, g2, r0, g3, g4⟩ := h k _ hm
    have g5 : (m[k]).length ≤ r0.length := by have := congrArg List.length g4; rw [List.length_take] at this; omega
    have a1 : ati m (k : Int) = some m[k] := ati_get hk'
    have a2 : ati l (k : Int) = some r0 := by rw [ati_cast]; exact g3
    refine Ok.bind (Q := fun b => b = false) ?_ fun b hb => ?_
    · rw [a1, a2]
      refine Ok.orM (fun _ => ?_) fun h2 => ?_
      · exact Ok.ret (by simp; omega)
      · exfalso; simp at h2; omega
    subst hb
    rw [if_neg (by decide)]
    refine Ok.bind (Q := fun t => Sum.elim (fun _ => True) (fun _ => False) t) (Ok.for_ (m[k]).length (fun j t => t = (j : Int)) rfl g1 ?_) ?_
    · rintro j _ hj rfl
      unfold law33_beginnings_B2
      rw [a1, Option.bind_some]
      refine Ok.iteP (fun h2 => ?_) fun h2 => Ok.ret trivial
      have hj' : j < (m[k]).length := by omega
      have e0 : r0[j]? = some (m[k])[j] := by
        have e := List.getElem?_eq_getElem hj'
        rw [← e]
        conv => rhs; rw [g4]
        rw [List.getElem?_take_of_lt hj']
      have b1 : ati m[k] (j : Int) = some (m[k])[j] := ati_get hj'
      have b2 : ati r0 (j : Int) = some (m[k])[j] := by rw [ati_cast]; exact e0
      simp only [a1, a2, b1, b2, Option.bind_some, beq_self_eq_true, Bool.and_self, Bool.not_true, Bool.false_eq_true, if_false]
      exact Ok.ret ⟨by omega, w64_nat (by omega)⟩
    · rintro (t | t) ht
      · exact Ok.ret ⟨hk', w64_nat (by omega)⟩
      · exact ht.elim
  · rintro (t | t) ht
    · show Ok (law33_beginnings_K1 fuel m l) _
      unfold law33_beginnings_K1
      exact Ok.ret (by simp [hlen])
    · exact ht.elim
/-- behind some crashes: processes are between the cut and where they were -/
def CrI (n s : Nat) (bs0 bs : List Branch) (fl : List Letter) : Prop := (∃ X, MS n s X bs fl) ∧ (∀ q, InR n q → (brs bs q).events.length ≤ (brs bs0 q).events.length) ∧
  ∀ G : Int → Int, (∀ q, InR n q → G q ≤ (brs bs q).events.length) → JI n (brs bs0) G (fun q => (brs bs0 q).events.length) (brs bs) fl
theorem CrI.start {n s : Nat} {X : Ends33} {bs : List Branch} {fl : List Letter} (h : MS n s X bs fl) (hq : Quiet33 fl) : CrI n s bs bs fl :=
  ⟨⟨X, h⟩, fun _ _ => Nat.le_refl _, fun G hG => JI.start h hq hG fun _ _ => Int.le_refl _⟩
theorem CrI.more {n s s' : Nat} {bs0 bs : List Branch} {fl : List Letter} (h : CrI n s bs0 bs fl) (hs : s ≤ s') : CrI n s' bs0 bs fl := ⟨⟨h.1.choose, h.1.choose_spec.more hs⟩, h.2⟩
theorem CrI.crash {n s : Nat} {bs0 bs : List Branch} {fl : List Letter} (h : CrI n s bs0 bs fl) (hn : n ≤ 5) {p : Int} (hp : InR n p) {t : List Branch × List Letter} (ht : GoS bs fl p (brs bs p).stable (brs bs p) t) :
    CrI n (s + 1) bs0 t.1 t.2 ∧ ∀ q, InR n q → ((brs t.1 q).events.length : Int) = if q = p then (brs bs p).stable else (brs bs q).events.length := by
  obtain ⟨⟨X, hm⟩, hle, hJ⟩ := h
  have hpl : InR bs.length p := by rw [hm.len]; exact hp
  have hst := hm.ci.stab p hp
  have hl : ∀ q, InR n q → ((brs t.1 q).events.length : Int) = if q = p then (brs bs p).stable else (brs bs q).events.length := fun q hq => by
    obtain ⟨r, _, _, e1, _⟩ := ht
    rw [e1, brs_set hpl]
    by_cases e : q = p
    · subst e; rw [upd_self, if_pos rfl, len_goB]; omega
    · rw [upd_ne e, if_neg e]
  refine ⟨⟨hm.crash hp hn ht, fun q hq => ?_, fun G hG => ?_⟩, hl⟩
  · have := hl q hq
    have := hle q hq
    split at *
    · rename_i e; subst e; omega
    · omega
  · have hG' : ∀ q, InR n q → G q ≤ (brs bs q).events.length := fun q hq => by
      have h1 := hG q hq
      have h2 := hl q hq
      split at h2
      · rename_i e; subst e; omega
      · omega
    refine JI.crash hm (hJ G hG') hp ?_ ht
    have h1 := hG p hp
    have h2 := hl p hp
    rw [if_pos rfl] at h2
    omega
theorem nI_lens {n : Nat} {bs : List Branch} (hlen : bs.length = n) {q : Int} (hq : InR n q) : nI ((lns bs).map fun r => (r.length : Int)) q = (brs bs q).events.length := by
  unfold nI; rw [List.getElem?_map, lns_get (by rw [hlen]; exact hq)]; rfl
/-- the end of it: the greatest consistent cut -/
theorem CrI.fin {n s0 s s1 : Nat} {X0 : Ends33} {bs0 : List Branch} {fl0 : List Letter} (h0 : MS n s0 X0 bs0 fl0) (q0 : Quiet33 fl0) {bs : List Branch} {fl : List Letter} (h : CrI n s bs0 bs fl) {x G : List Int} (hx : x.length = n) (hxl : ∀ q, InR n q → nI x q = (brs bs q).events.length)
    (hG : LowP (lns bs0) x G) {X1 : Ends33} {bs1 : List Branch} {fl1 : List Letter} (h1 : MS n s1 X1 bs1 fl1) (hq1 : Quiet33 fl1) (hJ : ∀ C G U, GoodG n C G → JI n C G U (brs bs) fl → JI n C G U (brs bs1) fl1) :
    (lns bs1).map (fun r => (r.length : Int)) = G ∧ ∀ q, InR n q → (brs bs1 q).events = (brs bs0 q).events.take (nI G q).toNat := by
  obtain ⟨⟨X, hm⟩, hle, hJ0⟩ := h
  have hlen0 := h0.len
  refine h0.settled q0 hx (fun j hj => ?_) hG h1 hq1 (hJ _ _ _ (GoodG.of h0 hG) ((hJ0 _ fun q hq => ?_).withU fun q hq => ?_))
  · have hr : InR n (j : Int) := ⟨by omega, by omega⟩
    rw [hxl _ hr]
    have := hle _ hr
    omega
  · obtain ⟨j, rfl⟩ := Int.eq_ofNat_of_zero_le hq.1
    have hj : j < n := by have := hq.2; omega
    have := hG.le j (by rw [lns_length]; omega)
    unfold clampI at this
    rw [if_pos (by omega), hxl _ hq] at this
    omega
  · rw [hxl _ hq]; exact Int.le_refl _
theorem settles33 {c : List Int} {w : Int} (hc : ∀ x ∈ c, U8 x) : law33_CascadeSettles 10000000 c w = some true := by
  refine Ok.eq ?_
  unfold law33_CascadeSettles
  rw [awake33, Option.bind_some, if_neg (by decide)]
  refine (settled33 hc (by omega)).bind fun r ⟨h1, hq, n, X, h2, h3, h⟩ => ?_
  rw [h1, if_neg (by decide)]
  have hlen := h.len
  have hS := h.smallL (by omega) (by omega)
  rw [lineages33 (by omega) (by omega), Option.bind_some]
  have e0 : List.map (fun x => x.events) r.1.branches = lns r.1.branches := rfl
  rw [e0, full33 (by rw [lns_length]; omega) (by rw [lns_length]; omega), Option.bind_some]
  refine Ok.bind (Q := fun t => Sum.elim (fun t => CrI n 60 r.1.branches t.1 t.2.1 ∧ t.2.2.length = n ∧ ∀ q, InR n q → nI t.2.2 q = (brs t.1 q).events.length) (fun _ => False) t)
    (Ok.for_ (lns r.1.branches).length (fun k t => t.2.2.2 = (k : Int) ∧ CrI n (50 + k) r.1.branches t.1 t.2.1 ∧ t.2.2.1.length = n ∧ (∀ q, InR n q → nI t.2.2.1 q = (brs t.1 q).events.length) ∧ ∀ q, InR n q → (k : Int) ≤ q → (brs t.1 q).events.length = (brs r.1.branches q).events.length)
      ⟨rfl, CrI.start h hq, by simp [lns, hlen], fun q hq => nI_lens hlen hq, fun _ _ _ => rfl⟩ (by rw [lns_length]; omega) ?_) ?_
  · rintro k ⟨bs, fl, x, i⟩ hk ⟨hi, hI, hx, hxl, hsame⟩
    simp only at hi hI hx hxl hsame ⊢
    subst hi
    rw [lns_length] at hk
    unfold law33_CascadeSettles_B1
    refine Ok.iteP (fun hl => ?_) fun hl => Ok.ret ⟨hI.more (by omega), hx, hxl⟩
    rw [lns_length] at hl
    have hk' : k < r.1.branches.length := by omega
    have hkr : InR n (k : Int) := ⟨by omega, by omega⟩
    refine (shr_o (by omega)).bind fun y _ => ?_
    refine Ok.ite (fun _ => ?_) fun _ => ?_
    · exact Ok.ret ⟨by rw [lns_length]; omega, w64_nat (by omega), hI.more (by omega), hx, hxl, fun q h1 h2 => hsame q h1 (by omega)⟩
    · obtain ⟨X1, hm⟩ := hI.1
      have hlb := hm.len
      have hst := hm.ci.stab _ hkr
      have hsk := hsame _ hkr (by omega)
      have ab : ati bs (k : Int) = some (brs bs (k : Int)) := by rw [ati_cast]; have := hm.get hkr; rwa [Int.toNat_natCast] at this
      have al : ati (lns r.1.branches) (k : Int) = some (brs r.1.branches (k : Int)).events := by
        rw [ati_cast]; have := lns_get (bs := r.1.branches) (q := (k : Int)) ⟨by omega, by omega⟩; rwa [Int.toNat_natCast] at this
      rw [ab, Option.bind_some]
      refine Ok.bind (Q := fun b => b = false) ?_ fun b hb => ?_
      · rw [al]
        refine Ok.orM (fun _ => ?_) fun h4 => ?_
        · exact Ok.ret (by simp; omega)
        · exfalso; simp at h4; omega
      subst hb
      rw [if_neg (by decide), Option.bind_some]
      refine (Ok.at (by omega) (by omega)).bind fun _ _ => ?_
      refine (Ok.set (by omega) (by omega)).bind fun x2 hx2 => ?_
      rw [Int.toNat_natCast] at hx2
      refine (hm.stepCrash (o := 0) (by omega) (by omega) (by omega) hkr).bind fun t ⟨t1, t2⟩ => ?_
      rw [t1, if_neg (by decide)]
      obtain ⟨c1, c2⟩ := hI.crash (by omega) hkr t2
      simp only at c2
      refine Ok.ret ⟨by rw [lns_length]; omega, w64_nat (by omega), c1, by rw [hx2]; simp [hx], fun q hqr => ?_, fun q hqr hk2 => ?_⟩
      · simp only
        have := nI_set (xs := x) (i := (k : Int)) (j := q) (x := (brs bs (k : Int)).stable) (by omega) (by omega) hqr.1
        rw [Int.toNat_natCast] at this
        rw [hx2, this, c2 q hqr]
        split
        · rfl
        · exact hxl q hqr
      · have := c2 q hqr
        rw [if_neg (by omega)] at this
        have := hsame q hqr (by omega)
        simp only
        omega
  · rintro (⟨bs, fl, x⟩ | t) ht
    · obtain ⟨hI, hx, hxl⟩ := ht
      simp only at hI hx hxl
      obtain ⟨X1, hm⟩ := hI.1
      show Ok (law33_CascadeSettles_K1 10000000 (lns r.1.branches) bs fl x) _
      unfold law33_CascadeSettles_K1
      refine (lower_o hS (by omega) (by omega)).bind fun G hG => ?_
      refine (hm.settle (by omega) (by omega) (by omega)).bind fun d ⟨hqd, _, ⟨X2, hd⟩, hJ⟩ => ?_
      have hld := hd.len
      obtain ⟨f1, f2⟩ := hI.fin h hq hx hxl hG hd hqd hJ
      rw [lineages33 (by omega) (by omega), Option.bind_some]
      have e1 : List.map (fun x => x.events) d.branches = lns d.branches := rfl
      rw [e1, full33 (by rw [lns_length]; omega) (by rw [lns_length]; omega), Option.bind_some, f1]
      rw [sameints_o (by have := hG.cons.1; rw [lns_length] at this; omega) (by have := hG.cons.1; rw [lns_length] at this; omega)]
      simp only [decide_true, Option.bind_some, andM_true]
      rw [beginnings33 (by rw [lns_length]; omega) (by rw [lns_length]; omega) (by rw [lns_length, lns_length]; omega) (fun j l hl => by
        have hj : j < d.branches.length := by have := (List.getElem?_eq_some_iff.1 hl).1; rwa [lns_length] at this
        have hjr : InR n (j : Int) := ⟨by omega, by omega⟩
        have e2 := lns_get (bs := d.branches) (q := (j : Int)) ⟨hjr.1, by omega⟩
        have e3 := lns_get (bs := r.1.branches) (q := (j : Int)) ⟨hjr.1, by omega⟩
        rw [Int.toNat_natCast] at e2 e3
        rw [hl, Option.some.injEq] at e2
        subst e2
        have hsm := hd.small hjr
        refine ⟨by omega, by omega, _, e3, ?_⟩
        have e4 := f2 _ hjr
        have e5 := congrArg List.length e4
        rw [List.length_take] at e5
        rw [e4]
        rw [List.length_take, List.take_eq_take_iff]
        omega)]
      exact Ok.ret rfl
    · exact ht.elim
theorem orders33 {c o : List Int} {w : Int} (hc : ∀ x ∈ c, U8 x) (ho : ∀ x ∈ o, U8 x) : law33_CascadeOrders 10000000 c w o = some true := by
  refine Ok.eq ?_
  unfold law33_CascadeOrders
  rw [awake33, Option.bind_some]
  simp only [Bool.not_true, orM_false, Option.bind_some]
  refine Ok.ite (fun hl => Ok.ret hl) fun hl => ?_
  have hol : o.length ≤ 400 := by simp at hl; omega
  refine (settled33 hc (by omega)).bind fun r ⟨h1, hq, n, X, h2, h3, h⟩ => ?_
  rw [h1, if_neg (by decide)]
  have hlen := h.len
  have hS := h.smallL (by omega) (by omega)
  refine Ok.bind (Q := fun t => CrI n 60 r.1.branches t.1 t.2)
    (Ok.for_ n (fun k t => t.2.2 = (k : Int) ∧ CrI n (50 + k) r.1.branches t.1 t.2.1) ⟨rfl, CrI.start h hq⟩ (by omega) ?_) ?_
  · rintro k ⟨bs, fl, i⟩ hk ⟨hi, hI⟩
    simp only at hi hI ⊢
    subst hi
    obtain ⟨X1, hm⟩ := hI.1
    have hlb := hm.len
    unfold law33_CascadeOrders_B2
    refine Ok.iteP (fun hl => ?_) fun hl => Ok.ret (hI.more (by omega))
    have hkr : InR n (k : Int) := ⟨by omega, by omega⟩
    refine (hm.stepCrash (o := 0) (by omega) (by omega) (by omega) hkr).bind fun t ⟨t1, t2⟩ => ?_
    refine (shr_o (by omega)).bind fun y _ => ?_
    refine Ok.bind (Q := fun _ => True) (Ok.andM (fun _ => Ok.ret trivial) fun _ => trivial) fun b _ => ?_
    refine Ok.ite (fun _ => ?_) fun _ => ?_
    · exact Ok.ret ⟨by omega, w64_nat (by omega), (hI.crash (by omega) hkr t2).1⟩
    · exact Ok.ret ⟨by omega, w64_nat (by omega), hI.more (by omega)⟩
  · rintro ⟨bs, fl⟩ hI
    simp only at hI
    obtain ⟨X1, hm⟩ := hI.1
    have hlb := hm.len
    show Ok (law33_CascadeOrders_K1 10000000 o bs fl) _
    unfold law33_CascadeOrders_K1
    refine Ok.bind (Q := fun t => (∃ X, MS n 60 X t.1 t.2) ∧ ∀ C G U, GoodG n C G → JI n C G U (brs bs) fl → JI n C G U (brs t.1) t.2)
      (Ok.for_ o.length (fun k t => t.2.2 = (k : Int) ∧ (∃ X, MS n 60 X t.1 t.2.1) ∧ ∀ C G U, GoodG n C G → JI n C G U (brs bs) fl → JI n C G U (brs t.1) t.2.1) ⟨rfl, ⟨X1, hm⟩, fun _ _ _ _ h => h⟩ (by omega) ?_) ?_
    · rintro k ⟨bs1, fl1, i⟩ hk ⟨hi, ⟨X2, hm2⟩, hJ⟩
      simp only at hi hm2 hJ ⊢
      subst hi
      unfold law33_CascadeOrders_B1
      refine Ok.iteP (fun hl => ?_) fun hl => Ok.ret ⟨⟨X2, hm2⟩, hJ⟩
      have hk' : k < o.length := by omega
      have stay : Ok (some (Sum.inl (bs1, fl1, w64 ((k : Int) + 1))) : Option ((List Branch × List Letter × Int) ⊕ (List Branch × List Letter))) fun y => Sum.elim (fun t => k < o.length ∧ t.2.2 = ((k + 1 : Nat) : Int) ∧ (∃ X, MS n 60 X t.1 t.2.1) ∧ ∀ C G U, GoodG n C G → JI n C G U (brs bs) fl → JI n C G U (brs t.1) t.2.1) (fun t => (∃ X, MS n 60 X t.1 t.2) ∧ ∀ C G U, GoodG n C G → JI n C G U (brs bs) fl → JI n C G U (brs t.1) t.2) y :=
        Ok.ret ⟨hk', w64_nat (by omega), ⟨X2, hm2⟩, hJ⟩
      have j1 : ∀ z : Int, 0 ≤ z → Ok (law33_CascadeOrders_J1 10000000 fl1 bs1 (k : Int) z) fun y => Sum.elim (fun t => k < o.length ∧ t.2.2 = ((k + 1 : Nat) : Int) ∧ (∃ X, MS n 60 X t.1 t.2.1) ∧ ∀ C G U, GoodG n C G → JI n C G U (brs bs) fl → JI n C G U (brs t.1) t.2.1) (fun t => (∃ X, MS n 60 X t.1 t.2) ∧ ∀ C G U, GoodG n C G → JI n C G U (brs bs) fl → JI n C G U (brs t.1) t.2) y := fun z hz => by
        obtain ⟨z, rfl⟩ := Int.eq_ofNat_of_zero_le hz
        unfold law33_CascadeOrders_J1
        refine Ok.bind (Q := fun b => b = true → ∃ x, fl1[z]? = some x ∧ x.news = true) (Ok.andM (fun hb => ?_) fun _ h => by cases h) fun b hb => ?_
        · refine (Ok.at (by omega) (by simpa using hb)).bind fun x hx => Ok.ret fun hw => ⟨x, ?_, hw⟩
          rwa [Int.toNat_natCast] at hx
        refine Ok.ite (fun hb1 => ?_) fun _ => stay
        obtain ⟨x, hx, hw⟩ := hb hb1
        refine (hm2.stepReceive (p := 0) (by omega) (by omega) (by omega) hx).bind fun t ht => ?_
        rcases ht with ⟨_, hw2⟩ | ⟨t1, t2⟩
        · rw [hw] at hw2; cases hw2
        rw [t1, if_pos (by decide)]
        exact Ok.ret ⟨hk', w64_nat (by omega), (hm2.news hx hw (by omega) t2).1, fun C G U hg hj => JI.recv hm2 hg (hJ C G U hg hj) hx hw t2⟩
      refine Ok.iteP (fun h5 => ?_) fun _ => j1 0 (by omega)
      refine (Ok.at (by omega) hl).bind fun v hv => ?_
      have hu := ho v (mem_of_getElem? hv)
      have u0 := hu.1
      have u1 := hu.2
      rw [w64_id (by omega) (by omega)]
      refine (Ok.rem (by omega)).bind fun z hz => j1 z ?_
      rw [hz]; exact Int.tmod_nonneg _ u0
    · rintro ⟨bs1, fl1⟩ ⟨⟨X2, hm2⟩, hJ⟩
      simp only at hm2 hJ
      have hlb1 := hm2.len
      show Ok (law33_CascadeOrders_K2 10000000 bs fl bs1 fl1) _
      unfold law33_CascadeOrders_K2
      obtain ⟨G, _, hG⟩ := lower_o (fuel := 10000000) (x := (lns bs).map fun r => (r.length : Int)) hS (by simp [lns]; omega) (by omega)
      have hxl : ∀ q, InR n q → nI ((lns bs).map fun r => (r.length : Int)) q = (brs bs q).events.length := fun q hq => nI_lens hlb hq
      refine (hm.settle (by omega) (by omega) (by omega)).bind fun d ⟨hqd, _, ⟨X3, hd⟩, hJd⟩ => ?_
      have hld := hd.len
      have f1 := (hI.fin h hq (by simp [lns, hlb]) hxl hG hd hqd hJd).2
      rw [lineages33 (by omega) (by omega), Option.bind_some]
      refine (hm2.settle (by omega) (by omega) (by omega)).bind fun d2 ⟨hqd2, _, ⟨X4, hd2⟩, hJd2⟩ => ?_
      have hld2 := hd2.len
      have f2 := (hI.fin h hq (by simp [lns, hlb]) hxl hG hd2 hqd2 fun C G U hg hj => hJd2 C G U hg (hJ C G U hg hj)).2
      rw [lineages33 (by omega) (by omega), Option.bind_some]
      have e1 : List.map (fun x => x.events) d.branches = lns d.branches := rfl
      have e2 : List.map (fun x => x.events) d2.branches = lns d2.branches := rfl
      rw [e1, e2, lns_eq (bs := d2.branches) (bs' := d.branches) hld2 hld fun q hq => by rw [f1 q hq, f2 q hq]]
      rw [samelin_refl (by rw [lns_length]; omega) (by rw [lns_length]; omega) (fun l hl => by
        obtain ⟨b, hb, rfl⟩ := List.mem_map.1 hl
        have := hd.tot
        have : totB b ≤ tot d.branches := le_sum totB hb
        unfold totB at this
        omega)]
      exact Ok.ret rfl
end Go.Mine
