/- The machine of package cascade: its steps, and how it settles. -/
import Derived.Test.YtddohdppmejjoaaP33e
import Derived.Test.YtddohdppmejjoaaA33g
import Derived.Test.YtddohdppmejjoaaP33a
import Derived.Test.YtddohdppmejjoaaPmk
set_option linter.unusedSimpArgs false
set_option linter.unusedVariables false
namespace Go.Mine
theorem MS.more {n s s' : Nat} {X : Ends33} {bs : List Branch} {fl : List Letter} (h : MS n s X bs fl) (hs : s ≤ s') : MS n s' X bs fl := ⟨⟨h.len, h.ci, by have := h.tot; omega, by have := h.meas; omega⟩, h.clean⟩
section
variable {n s fuel : Nat} {X : Ends33} {bs : List Branch} {fl : List Letter}
theorem MC.small' (h : MC n s X bs fl) (hn : n ≤ 5) (hs : s ≤ 99) : bs.length ≤ 1000 ∧ fl.length ≤ 1000 := by have := h.len; have := h.flight; omega
theorem MS.goBack (h : MS n s X bs fl) (hn : n ≤ 5) (hs : s ≤ 99) (hf : 1000000 < fuel) {p : Int} (hp : InR n p) : Ok (machine_goBack fuel p (brs bs p).stable bs fl) (GoS bs fl p (brs bs p).stable (brs bs p)) := by
  have h1 := h.small hp
  have h2 := h.ends hn hs hp
  have h3 := h.small' hn hs
  have h4 := h.ci.inc0 p hp
  have h5 := h.ci.stab p hp
  exact goBack33 hf hp.1 (h.get hp) h5.1 h5.2 (by omega) h4 (by omega) h3.1 (by omega)
theorem MS.receive (h : MS n s X bs fl) (hn : n ≤ 5) (hs : s ≤ 99) (hf : 1000000 < fuel) {i : Nat} {x : Letter} (hx : fl[i]? = some x) : Ok (machine_receive fuel (i : Int) bs fl) (RecS bs fl i x (brs bs x.to)) := by
  have hp := (h.ci.mail x (mem_of_getElem? hx)).to_
  have h1 := h.small hp
  have h2 := h.ends hn hs hp
  have h3 := h.small' hn hs
  have h4 := h.ci.inc0 _ hp
  exact receive33 hf hx hp.1 (h.get hp) (by omega) (by omega) h4 (by omega) h3.1 (by omega)
theorem refuse_crash {p o : Int} (h0 : 0 ≤ p) (h1 : p < bs.length) : cascade_refusal fuel ⟨bs, fl⟩ ⟨4, p, o⟩ = some 0 := by
  unfold cascade_refusal cascade_refusal_J1
  have e1 : decide (p < 0) = false := by simp; omega
  have e2 : decide ((bs.length : Int) ≤ p) = false := by simp; omega
  simp [orM, e1, e2]
  try omega
theorem refuse_flush {p o : Int} (h0 : 0 ≤ p) (h1 : p < bs.length) : cascade_refusal fuel ⟨bs, fl⟩ ⟨3, p, o⟩ = some 0 := by
  unfold cascade_refusal cascade_refusal_J1
  have e1 : decide (p < 0) = false := by simp; omega
  have e2 : decide ((bs.length : Int) ≤ p) = false := by simp; omega
  simp [orM, e1, e2]
  try omega
/-- a crash -/
theorem MS.stepCrash (h : MS n s X bs fl) (hn : n ≤ 5) (hs : s ≤ 99) (hf : 1000000 < fuel) {p o : Int} (hp : InR n p) :
    Ok (cascade_Step fuel (⟨bs, fl⟩ : Cascade) (⟨4, p, o⟩ : Shock)) fun r => r.2 = 0 ∧ GoS bs fl p (brs bs p).stable (brs bs p) (r.1.branches, r.1.flight) := by
  have hpl : InR bs.length p := by rw [h.len]; exact hp
  have h3 := h.small' hn hs
  unfold cascade_Step
  dsimp only
  rw [refuse_crash hpl.1 hpl.2, Option.bind_some, if_neg (by simp)]
  rw [copied33 (by omega) (by omega), Option.bind_some]
  rw [if_neg (by decide), if_neg (by decide), if_neg (by decide), if_pos (by decide)]
  refine (Ok.at hp.1 hpl.2).bind fun a ha => ?_
  rw [h.get hp] at ha; cases ha
  refine (h.goBack hn hs hf hp).bind fun t ht => ?_
  exact Ok.ret ⟨rfl, ht⟩
/-- a flush -/
theorem MS.stepFlush (h : MS n s X bs fl) (hn : n ≤ 5) (hs : s ≤ 99) {p o : Int} (hp : InR n p) :
    Ok (cascade_Step fuel (⟨bs, fl⟩ : Cascade) (⟨3, p, o⟩ : Shock)) fun r => r.2 = 0 ∧ r.1.branches = bs.set p.toNat { brs bs p with stable := ((brs bs p).events.length : Int) } ∧ r.1.flight = fl := by
  have hpl : InR bs.length p := by rw [h.len]; exact hp
  have h3 := h.small' hn hs
  unfold cascade_Step
  dsimp only
  rw [refuse_flush hpl.1 hpl.2, Option.bind_some, if_neg (by simp)]
  rw [copied33 (by omega) (by omega), Option.bind_some]
  rw [if_neg (by decide), if_neg (by decide), if_pos (by decide)]
  refine (Ok.at hp.1 hpl.2).bind fun a ha => ?_
  rw [h.get hp] at ha; cases ha
  refine (Ok.set hp.1 hpl.2).bind fun y hy => ?_
  subst hy
  exact Ok.ret ⟨rfl, rfl, rfl⟩
/-- a letter is taken -/
theorem MS.stepReceive (h : MS n s X bs fl) (hn : n ≤ 5) (hs : s ≤ 99) (hf : 1000000 < fuel) {i : Nat} {x : Letter} {p : Int} (hx : fl[i]? = some x) :
    Ok (cascade_Step fuel (⟨bs, fl⟩ : Cascade) (⟨2, p, (i : Int)⟩ : Shock)) fun r => (r.2 = 4 ∧ x.news = false) ∨ (r.2 = 0 ∧ RecS bs fl i x (brs bs x.to) (r.1.branches, r.1.flight)) := by
  have hp := (h.ci.mail x (mem_of_getElem? hx)).to_
  have hpl : InR bs.length x.to := by rw [h.len]; exact hp
  have hi := (List.getElem?_eq_some_iff.1 hx).1
  have h3 := h.small' hn hs
  unfold cascade_Step
  dsimp only
  have hr : Ok (cascade_refusal fuel ⟨bs, fl⟩ ⟨2, p, (i : Int)⟩) fun r => (r = 4 ∧ x.news = false) ∨ r = 0 := by
    unfold cascade_refusal
    dsimp only
    rw [if_neg (by decide), if_pos (by decide)]
    have e1 : decide ((i : Int) < 0) = false := by simp
    have e2 : decide ((fl.length : Int) ≤ (i : Int)) = false := by simp; omega
    simp only [e1, e2, orM_false, Option.bind_some]
    rw [if_neg (by decide)]
    refine (Ok.at (by omega) (by omega)).bind fun a ha => ?_
    rw [Int.toNat_natCast, hx] at ha; cases ha
    refine Ok.bind (Q := fun b => b = true → x.news = false) (Ok.andM (fun h1 => ?_) fun h1 => ?_) fun b hb => ?_
    · refine (Ok.at hp.1 hpl.2).bind fun a ha => Ok.ret fun _ => by simpa using h1
    · intro h2; cases h2
    · exact Ok.ite (fun h1 => Ok.ret (.inl ⟨rfl, hb h1⟩)) fun _ => Ok.ret (.inr rfl)
  refine hr.bind fun r hr => ?_
  rcases hr with ⟨rfl, hw⟩ | rfl
  · rw [if_pos (by decide)]
    exact Ok.ret (.inl ⟨rfl, hw⟩)
  · rw [if_neg (by decide)]
    rw [copied33 (by omega) (by omega), Option.bind_some]
    rw [if_neg (by decide), if_pos (by decide)]
    refine (h.receive hn hs hf hx).bind fun t ht => ?_
    exact Ok.ret (.inr ⟨rfl, ht⟩)
/-- any step that is not refused keeps the invariant -/
theorem MS.step (h : MS n s X bs fl) (hn : n ≤ 5) (hs : s ≤ 99) (hf : 1000000 < fuel) (k : Shock) : Ok (cascade_Step fuel (⟨bs, fl⟩ : Cascade) k) fun r => r.2 = 0 → ∃ X', MS n (s + 1) X' r.1.branches r.1.flight := by
  obtain ⟨kind, p, o⟩ := k
  have h3 := h.small' hn hs
  have hlen := h.len
  by_cases k4 : kind = 4
  · subst k4
    by_cases hp : InR n p
    · refine (h.stepCrash hn hs hf hp).mono fun r ⟨_, hr⟩ _ => h.crash hp hn hr
    · have e : (decide (p < 0) || decide ((bs.length : Int) ≤ p)) = true := by unfold InR at hp; simp; omega
      unfold cascade_Step
      dsimp only
      have hr : Ok (cascade_refusal fuel ⟨bs, fl⟩ ⟨4, p, o⟩) fun r => r ≠ 0 := by
        unfold cascade_refusal cascade_refusal_J1
        dsimp only
        rw [if_neg (by decide), if_neg (by decide), if_neg (by decide), if_pos (by decide)]
        simp only [orM_some, Option.bind_some, e]
        exact Ok.ret (by decide)
      refine hr.bind fun r hr => ?_
      rw [if_pos (by simpa using hr)]
      exact Ok.ret fun h => absurd h hr
  by_cases k3 : kind = 3
  · subst k3
    by_cases hp : InR n p
    · refine (h.stepFlush hn hs hp).mono fun r ⟨_, hr1, hr2⟩ _ => ⟨X, ?_⟩
      rw [hr1, hr2]; exact h.flush hp
    · have e : (decide (p < 0) || decide ((bs.length : Int) ≤ p)) = true := by unfold InR at hp; simp; omega
      unfold cascade_Step
      dsimp only
      have hr : Ok (cascade_refusal fuel ⟨bs, fl⟩ ⟨3, p, o⟩) fun r => r ≠ 0 := by
        unfold cascade_refusal cascade_refusal_J1
        dsimp only
        rw [if_neg (by decide), if_neg (by decide), if_pos (by decide), if_pos (by decide)]
        simp only [orM_some, Option.bind_some, e]
        exact Ok.ret (by decide)
      refine hr.bind fun r hr => ?_
      rw [if_pos (by simpa using hr)]
      exact Ok.ret fun h => absurd h hr
  by_cases k2 : kind = 2
  · subst k2
    by_cases ho : InR fl.length o
    · obtain ⟨i, rfl⟩ := Int.eq_ofNat_of_zero_le ho.1
      have hi : i < fl.length := by have := ho.2; omega
      refine (h.stepReceive hn hs hf (List.getElem?_eq_getElem hi)).mono fun r hr h0 => ?_
      rcases hr with ⟨hr, _⟩ | ⟨_, hr⟩
      · rw [hr] at h0; cases h0
      · cases hw : (fl[i]).news
        · exact ⟨X, h.msg (List.getElem?_eq_getElem hi) hw hr⟩
        · obtain ⟨X', h'⟩ := (h.news (List.getElem?_eq_getElem hi) hw hn hr).1
          exact ⟨X', h'.more (by omega)⟩
    · have e : (decide (o < 0) || decide ((fl.length : Int) ≤ o)) = true := by unfold InR at ho; simp; omega
      unfold cascade_Step
      dsimp only
      have hr : Ok (cascade_refusal fuel ⟨bs, fl⟩ ⟨2, p, o⟩) fun r => r ≠ 0 := by
        unfold cascade_refusal
        dsimp only
        rw [if_neg (by decide), if_pos (by decide)]
        simp only [orM_some, Option.bind_some, e]
        exact Ok.ret (by decide)
      refine hr.bind fun r hr => ?_
      rw [if_pos (by simpa using hr)]
      exact Ok.ret fun h => absurd h hr
  by_cases k1 : kind = 1
  · subst k1
    by_cases hp : InR n p ∧ InR n o ∧ o ≠ p
    · obtain ⟨hp, ho, hne⟩ := hp
      have hpl : InR bs.length p := by rw [h.len]; exact hp
      unfold cascade_Step
      dsimp only
      have hr : Ok (cascade_refusal fuel ⟨bs, fl⟩ ⟨1, p, o⟩) fun r => r = 4 ∨ r = 0 := by
        unfold cascade_refusal
        dsimp only
        rw [if_pos (by decide)]
        have e : (((decide (p < 0) || decide ((bs.length : Int) ≤ p)) || decide (o < 0)) || decide ((bs.length : Int) ≤ o) || (o == p)) = false := by unfold InR at hp ho; simp; omega
        simp only [orM_some, Option.bind_some, e]
        rw [if_neg (by decide)]
        refine (Ok.at hp.1 hpl.2).bind fun a ha => ?_
        exact Ok.ite (fun _ => Ok.ret (.inl rfl)) fun _ => Ok.ret (.inr rfl)
      refine hr.bind fun r hr => ?_
      rcases hr with rfl | rfl
      · rw [if_pos (by decide)]
        exact Ok.ret fun h => by cases h
      · rw [if_neg (by decide)]
        rw [copied33 (by omega) (by omega), Option.bind_some]
        rw [if_pos (by decide)]
        have := h.small hp
        dsimp only
        rw [send33 hp.1 (h.get hp) (by omega) (by omega), Option.bind_some]
        exact Ok.ret fun _ => ⟨X, h.send hp ho hne⟩
    · have e : (((decide (p < 0) || decide ((bs.length : Int) ≤ p)) || decide (o < 0)) || decide ((bs.length : Int) ≤ o) || (o == p)) = true := by
        unfold InR at hp
        simp
        omega
      unfold cascade_Step
      dsimp only
      have hr : Ok (cascade_refusal fuel ⟨bs, fl⟩ ⟨1, p, o⟩) fun r => r ≠ 0 := by
        unfold cascade_refusal
        dsimp only
        rw [if_pos (by decide)]
        simp only [orM_some, Option.bind_some, e]
        exact Ok.ret (by decide)
      refine hr.bind fun r hr => ?_
      rw [if_pos (by simpa using hr)]
      exact Ok.ret fun h => absurd h hr
  · unfold cascade_Step cascade_refusal cascade_refusal_J1
    have e1 : (kind == 1) = false := by simpa using k1
    have e2 : (kind == 2) = false := by simpa using k2
    have e3 : (kind == 3) = false := by simpa using k3
    have e4 : (kind == 4) = false := by simpa using k4
    simp only [e1, e2, e3, e4]
    exact Ok.ret fun h => by cases h
/-- the news is delivered -/
theorem MS.settle (h : MS n s X bs fl) (hn : n ≤ 5) (hs : s ≤ 99) (hf : 1000000 < fuel) : Ok (cascade_Settle fuel (⟨bs, fl⟩ : Cascade)) fun c => Quiet33 c.flight ∧ (Quiet33 fl → c = ⟨bs, fl⟩) ∧ (∃ X', MS n s X' c.branches c.flight) ∧
    ∀ C G U, GoodG n C G → JI n C G U (brs bs) fl → JI n C G U (brs c.branches) c.flight := by
  have h3 := h.small' hn hs
  have hm := h.meas
  have nq : ∀ {fl : List Letter} {r : Int}, NewsS fl r → r < 0 → Quiet33 fl := fun {fl r} hr h0 => by
    rcases hr with ⟨_, h⟩ | ⟨k, x, rfl, _⟩
    · intro x hx
      obtain ⟨j, hj, rfl⟩ := List.mem_iff_getElem.1 hx
      exact h j _ (List.getElem?_eq_getElem hj)
    · omega
  unfold cascade_Settle
  show Ok ((machine_copied fuel ⟨⟨bs, fl⟩⟩).bind _) _
  rw [copied33 (by omega) (by omega), Option.bind_some]
  dsimp only
  refine (news33 (by omega) (by omega)).bind fun r hr => ?_
  refine Ok.bind (Q := fun t => Quiet33 t.2 ∧ (Quiet33 fl → t = (bs, fl)) ∧ (∃ X', MS n s X' t.1 t.2) ∧ ∀ C G U, GoodG n C G → JI n C G U (brs bs) fl → JI n C G U (brs t.1) t.2)
    (Ok.run (fun m t => Go.Mine.meas t.1 t.2.1 = m ∧ (Quiet33 fl → (t.1, t.2.1) = (bs, fl)) ∧ NewsS t.2.1 t.2.2 ∧ (∃ X', MS n s X' t.1 t.2.1) ∧ ∀ C G U, GoodG n C G → JI n C G U (brs bs) fl → JI n C G U (brs t.1) t.2.1) (m := Go.Mine.meas bs fl) ⟨rfl, fun _ => rfl, hr, ⟨X, h⟩, fun _ _ _ _ h => h⟩ (by omega) ?_) ?_
  · rintro m ⟨bs1, fl1, r1⟩ ⟨hme, hq, hr1, ⟨X1, h1⟩, hJ⟩
    simp only at hme hq hr1 h1 hJ ⊢
    unfold cascade_Settle_B1
    refine Ok.iteP (fun h0 => ?_) fun h0 => ?_
    · rcases hr1 with ⟨rfl, _⟩ | ⟨k, x, rfl, hx, hw, _⟩
      · omega
      refine (h1.receive hn hs hf hx).bind fun t ht => ?_
      obtain ⟨⟨X2, h2⟩, hlt⟩ := h1.news hx hw hn ht
      have h4 := h2.small' hn hs
      refine (news33 (by omega) (by omega)).bind fun r2 hr2 => Ok.ret ⟨_, ?_, rfl, fun hq' => ?_, hr2, ⟨X2, h2⟩, fun C G U hg hj => JI.recv h1 hg (hJ C G U hg hj) hx hw ht⟩
      · simp only; omega
      · exfalso
        have e := hq hq'
        simp only [Prod.mk.injEq] at e
        have := hq' x (by rw [← e.2]; exact mem_of_getElem? hx)
        rw [hw] at this; cases this
    · exact Ok.ret ⟨nq hr1 (by omega), hq, ⟨X1, h1⟩, hJ⟩
  · rintro ⟨bs1, fl1⟩ ⟨hq1, hq2, hX, hJ⟩
    refine Ok.ret ⟨hq1, fun hq => ?_, hX, hJ⟩
    have := hq2 hq
    simp only [Prod.mk.injEq] at this
    rw [this.1, this.2]
end
/-- the lineages of a machine -/
theorem lineages33 {fuel : Nat} {bs : List Branch} {fl : List Letter} (hf : bs.length < fuel) (hl : bs.length ≤ 1000000) : cascade_Lineages fuel (⟨bs, fl⟩ : Cascade) = some (bs.map (·.events)) := by
  refine Ok.eq ?_
  unfold cascade_Lineages
  refine Ok.bind (Q := fun l => l = bs.map (·.events)) (Ok.for_ bs.length (fun k t => t = ((bs.take k).map (·.events), (k : Int))) (by simp) hf ?_) fun l hl => Ok.ret hl
  rintro k t hk rfl
  unfold cascade_Lineages_B1
  refine Ok.iteP (fun h => ?_) fun h => ?_
  · simp only at h
    have hk' : k < bs.length := by omega
    refine (Ok.at (by omega) h).bind fun x hx => ?_
    simp only [Int.toNat_natCast] at hx
    refine (Ok.snoc (by simp; omega)).bind fun y hy => ?_
    subst hy
    refine Ok.ret ⟨hk', ?_⟩
    rw [w64_nat (by omega), List.take_add_one, hx]; simp
  · simp only at h
    refine Ok.ret ?_
    show _ = _
    rw [List.take_of_length_le (by omega)]
/-- shocks are drawn -/
theorem shocks33 {fuel : Nat} {c : List Int} {i a : Int} {m : Nat} (h : COk c i) (ha : 2 ≤ a) (ha2 : a ≤ 100) (hm : m ≤ 1000) (hf : 1000000 < fuel) : Ok (make_Codes_Shocks fuel a (m : Int) c i) fun r => r.1.length ≤ m ∧ COk c r.2 := by
  unfold make_Codes_Shocks
  refine Ok.bind (Q := fun t => t.2.length ≤ m ∧ COk c t.1) (Ok.run (fun k t => COk c t.1 ∧ t.2.length + k = m) (m := m) ⟨h, by simp⟩ (by omega) ?_) fun t ht => Ok.ret ht
  rintro k ⟨j, l⟩ ⟨hc, hk⟩
  simp only at hc hk
  unfold make_Codes_Shocks_B1
  have fin : ∀ {x : Shock} {j' : Int}, COk c j' → (l.length : Int) < m → Ok ((snoc l x).bind fun y => some (Sum.inl (j', y) : (Int × List Shock) ⊕ (Int × List Shock))) fun o => Sum.elim (fun t' => ∃ m', m' < k ∧ COk c t'.1 ∧ t'.2.length + m' = m) (fun t => t.2.length ≤ m ∧ COk c t.1) o := fun hc' hl => by
    refine (Ok.snoc (by omega)).bind fun y hy => ?_
    subst hy
    exact Ok.ret ⟨k - 1, by omega, hc', by simp; omega⟩
  refine Ok.bind (Q := fun b => b = true → (l.length : Int) < m) (Ok.andM (fun h1 => ?_) fun _ h2 => by cases h2) fun b hb => ?_
  · unfold make_Codes_Left
    exact Ok.ret fun _ => by simpa using h1
  refine Ok.ite (fun h1 => ?_) fun h1 => Ok.ret ⟨by simp only; omega, hc⟩
  have hl := hb h1
  refine (Ok.next hc (by omega)).bind fun ⟨x1, j1⟩ ⟨_, _, h2, _⟩ => ?_
  refine (Ok.next h2 (by omega)).bind fun ⟨x2, j2⟩ ⟨_, _, h3, _⟩ => ?_
  simp only at h2 h3 ⊢
  refine Ok.iteP (fun _ => ?_) fun _ => ?_
  · refine (Ok.next h3 (by omega)).bind fun ⟨x3, j3⟩ ⟨_, _, h4, _⟩ => ?_
    simp only at h4 ⊢
    refine (Ok.rem (by omega)).bind fun x4 _ => fin h4 hl
  refine Ok.iteP (fun _ => ?_) fun _ => ?_
  · refine (Ok.next h3 (by omega)).bind fun ⟨x3, j3⟩ ⟨_, _, h4, _⟩ => fin h4 hl
  refine Ok.iteP (fun _ => fin h3 hl) fun _ => ?_
  refine Ok.iteP (fun _ => fin h3 hl) fun _ => ?_
  refine (int_ok h3).bind fun ⟨x3, j3⟩ h4 => ?_
  refine (int_ok h4).bind fun ⟨x4, j4⟩ h5 => ?_
  refine (int_ok h5).bind fun ⟨x5, j5⟩ h6 => fin h6 hl
/-- the first machine -/
theorem MS.first {n : Nat} : MS n 0 (fun _ _ => 0) (List.replicate n zb33) [] := by
  have hb : ∀ p, brs (List.replicate n zb33) p = zb33 := fun p => by
    unfold brs
    split
    · rfl
    · rw [List.getElem?_replicate]; split <;> rfl
  refine ⟨⟨by simp, ⟨fun p _ => ?_, fun p _ => ?_, fun p _ k e he => ?_, fun x hx => (by cases hx), fun q _ k e he => ?_, fun p q _ _ j h0 h1 => ?_, fun q _ e he => ?_, fun q _ => ?_⟩, ?_, ?_⟩, fun p _ j y hy => ?_⟩
  · rw [hb]; exact Int.le_refl _
  · rw [hb]; simp [zb33]
  · rw [hb] at he; simp [zb33] at he
  · rw [hb] at he; simp [zb33] at he
  · rw [hb] at h1; simp only [zb33] at h1; omega
  · rw [hb] at he; simp [zb33] at he
  · rw [hb]; exact List.Pairwise.nil
  · have : ∀ k, tot (List.replicate k zb33) = 0 := fun k => by
      induction k with
      | zero => rfl
      | succ k ih => unfold tot at *; rw [List.replicate_succ, List.map_cons, List.sum_cons, ih]; rfl
    rw [this]; omega
  · have : ∀ k, nev (List.replicate k zb33) = 0 := fun k => by
      induction k with
      | zero => rfl
      | succ k ih => unfold nev at *; rw [List.replicate_succ, List.map_cons, List.sum_cons, ih]; rfl
    unfold Go.Mine.meas; rw [this]; simp
  · rw [hb] at hy; simp [zb33] at hy
end Go.Mine
