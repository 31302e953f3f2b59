/- What the steps of the machine of package cascade do, in plain words. -/
import Derived.Test.YtddohdppmejjoaaA33f
import Derived.Test.YtddohdppmejjoaaP31b
set_option linter.unusedSimpArgs false
set_option linter.unusedVariables false
namespace Go.Mine
/-- an event of a process -/
def evS (b : Branch) (e : Evt) : Branch := { b with events := b.events ++ [{ e with inc := b.inc }] }
theorem event33 {fuel : Nat} {bs : List Branch} {fl : List Letter} {p : Int} {e : Evt} {b : Branch} (h0 : 0 ≤ p) (hb : bs[p.toNat]? = some b) (hl : b.events.length ≤ 1000000) :
    machine_event fuel p e bs fl = some (bs.set p.toNat (evS b e)) := by
  have hp : p < bs.length := by have := (List.getElem?_eq_some_iff.1 hb).1; omega
  refine Ok.eq ?_
  unfold machine_event clipEvents
  refine (Ok.at h0 hp).bind fun a ha => ?_
  rw [hb] at ha; cases ha
  refine (Ok.ret (Q := fun l => l = b.events) rfl).bind fun l hl' => ?_
  subst hl'
  refine (Ok.snoc (by omega)).bind fun l hl' => ?_
  subst hl'
  refine (Ok.set h0 hp).bind fun l hl' => ?_
  subst hl'
  exact Ok.ret rfl
theorem copied33 {fuel : Nat} {bs : List Branch} {fl : List Letter} (h1 : bs.length ≤ 1000000) (h2 : fl.length ≤ 1000000) :
    machine_copied fuel (⟨⟨bs, fl⟩⟩ : CascadeMachine) = some ⟨⟨bs, fl⟩⟩ := by
  refine Ok.eq ?_
  unfold machine_copied cloneBranches cloneLetters
  refine (Ok.cat (by simp; omega)).bind fun l hl => ?_
  subst hl
  refine (Ok.cat (by simp; omega)).bind fun l hl => ?_
  subst hl
  exact Ok.ret (by simp)
/-- the place of the first letter that is news -/
def NewsS (fl : List Letter) (r : Int) : Prop := (r = -1 ∧ ∀ (j : Nat) (y : Letter), fl[j]? = some y → y.news = false) ∨ ∃ (k : Nat) (x : Letter), r = k ∧ fl[k]? = some x ∧ x.news = true ∧ ∀ (j : Nat) (y : Letter), j < k → fl[j]? = some y → y.news = false
theorem news33 {fuel : Nat} {bs : List Branch} {fl : List Letter} (hf : fl.length < fuel) (hl : fl.length ≤ 1000000) : Ok (cascade_news fuel (⟨bs, fl⟩ : Cascade)) (NewsS fl) := by
  unfold cascade_news IndexNews
  refine Ok.bind (Q := NewsS fl) ?_ fun r hr => Ok.ret hr
  show Ok ((iter (fun s => IndexNews_B1 fuel fl s) fuel 0).bind _) _
  refine (Ok.for_ fl.length (fun k s => s = (k : Int) ∧ ∀ (j : Nat) (y : Letter), j < k → fl[j]? = some y → y.news = false) (Q := fun t => Sum.elim (fun _ => ∀ (j : Nat) (y : Letter), fl[j]? = some y → y.news = false) (fun t => NewsS fl t) t) ⟨rfl, fun j y h => by omega⟩ hf ?_).bind ?_
  · rintro k s hk ⟨rfl, hn⟩
    unfold IndexNews_B1
    refine Ok.iteP (fun h => ?_) fun h => ?_
    · have hk' : k < fl.length := by omega
      refine (Ok.at (by omega) h).bind fun x hx => ?_
      rw [Int.toNat_natCast] at hx
      unfold cascade_news_1
      refine (Ok.ret (Q := fun b => b = x.news) rfl).bind fun b hb => ?_
      subst hb
      refine Ok.ite (fun h2 => ?_) fun h2 => ?_
      · exact Ok.ret (show NewsS fl _ from .inr ⟨k, x, rfl, hx, h2, hn⟩)
      · refine Ok.ret ⟨hk', w64_nat (by omega), fun j y hj hy => ?_⟩
        rcases Nat.lt_or_ge j k with h3 | h3
        · exact hn j y h3 hy
        · obtain rfl : j = k := by omega
          rw [hx] at hy; cases hy; exact h2
    · refine Ok.ret (show ∀ (j : Nat) (y : Letter), fl[j]? = some y → y.news = false from fun j y hy => ?_)
      exact hn j y (by have := (List.getElem?_eq_some_iff.1 hy).1; omega) hy
  · rintro t ht
    cases t with
    | inl u => exact Ok.ret (.inl ⟨rfl, ht⟩)
    | inr r => exact Ok.ret ht
/-- an event that received what is known to be undone -/
noncomputable def badE (ends : List EndI) (e : Evt) : Bool := e.kind == 1 && undB ends e.frm e.sent
def BadS (ends : List EndI) (evs : List Evt) (r : Int) : Prop := (r = -1 ∧ ∀ (j : Nat) (y : Evt), evs[j]? = some y → badE ends y = false) ∨ ∃ (k : Nat) (x : Evt), r = k ∧ evs[k]? = some x ∧ badE ends x = true ∧ ∀ (j : Nat) (y : Evt), j < k → evs[j]? = some y → badE ends y = false
theorem bad33 {fuel : Nat} {evs evs' : List Evt} {i st : Int} {ends : List EndI} (hf : evs.length < fuel) (hl : evs.length ≤ 1000000) (hfe : ends.length < fuel) (he : ends.length ≤ 1000000) : Ok (IndexUndone fuel evs i evs' st ends) (BadS ends evs) := by
  unfold IndexUndone
  refine (Ok.for_ evs.length (fun k s => s = (k : Int) ∧ ∀ (j : Nat) (y : Evt), j < k → evs[j]? = some y → badE ends y = false) (Q := fun t => Sum.elim (fun _ => ∀ (j : Nat) (y : Evt), evs[j]? = some y → badE ends y = false) (fun t => BadS ends evs t) t) ⟨rfl, fun j y h => by omega⟩ hf ?_).bind ?_
  · rintro k s hk ⟨rfl, hn⟩
    unfold IndexUndone_B1
    refine Ok.iteP (fun h => ?_) fun h => ?_
    · have hk' : k < evs.length := by omega
      refine (Ok.at (by omega) h).bind fun x hx => ?_
      rw [Int.toNat_natCast] at hx
      refine Ok.bind (Q := fun b => b = badE ends x) ?_ fun b hb => ?_
      · unfold cascade_machine_check_1 badE
        rw [undone_eq hfe he]
        cases h1 : (x.kind == 1)
        · exact ⟨false, by simp [andM], by simp⟩
        · exact ⟨undB ends x.frm x.sent, by simp [andM], by simp⟩
      · subst hb
        refine Ok.ite (fun h2 => ?_) fun h2 => ?_
        · exact Ok.ret (show BadS ends evs _ from .inr ⟨k, x, rfl, hx, h2, hn⟩)
        · refine Ok.ret ⟨hk', w64_nat (by omega), fun j y hj hy => ?_⟩
          rcases Nat.lt_or_ge j k with h3 | h3
          · exact hn j y h3 hy
          · obtain rfl : j = k := by omega
            rw [hx] at hy; cases hy; exact h2
    · refine Ok.ret (show ∀ (j : Nat) (y : Evt), evs[j]? = some y → badE ends y = false from fun j y hy => ?_)
      exact hn j y (by have := (List.getElem?_eq_some_iff.1 hy).1; omega) hy
  · rintro t ht
    cases t with
    | inl u => exact Ok.ret (.inl ⟨rfl, ht⟩)
    | inr r => exact Ok.ret ht
theorem send33 {fuel : Nat} {bs : List Branch} {fl : List Letter} {p q : Int} {b : Branch} (h0 : 0 ≤ p) (hb : bs[p.toNat]? = some b) (hl : b.events.length ≤ 1000000) (hfl : fl.length ≤ 1000000) :
    machine_send fuel p q bs fl = some (bs.set p.toNat (evS b ⟨2, 0, 0, ⟨0, 0⟩, 0, 0⟩), fl ++ [⟨p, q, false, ⟨b.inc, ((b.events.length + 1 : Nat) : Int)⟩, ⟨0, 0, 0⟩⟩]) := by
  have hp : p < bs.length := by have := (List.getElem?_eq_some_iff.1 hb).1; omega
  refine Ok.eq ?_
  unfold machine_send
  rw [event33 h0 hb hl, Option.bind_some]
  refine (Ok.at h0 (by rw [List.length_set]; exact hp)).bind fun a ha => ?_
  rw [List.getElem?_set_self (by omega)] at ha; cases ha
  refine (Ok.snoc (by omega)).bind fun l hl' => ?_
  subst hl'
  exact Ok.ret (by simp [evS])
/-- a process that went back -/
def goB (b : Branch) (x : Int) (r : List EndI) : Branch := { inc := b.inc + 1, events := b.events.take x.toNat, stable := min b.stable x, ends := r }
/-- the news of it -/
def newsL (p : Nat) (e : EndI) (n : Nat) : List Letter := ((List.range n).filter (· != p)).map fun (q : Nat) => (⟨(p : Int), (q : Int), true, ⟨0, 0⟩, e⟩ : Letter)
theorem newsL_succ {p : Nat} {e : EndI} {n : Nat} : newsL p e (n + 1) = newsL p e n ++ if n = p then [] else [⟨(p : Int), (n : Int), true, ⟨0, 0⟩, e⟩] := by
  unfold newsL
  rw [List.range_succ, List.filter_append, List.map_append]
  congr 1
  by_cases h : n = p <;> simp [h]
theorem newsL_len {p : Nat} {e : EndI} {n : Nat} : (newsL p e n).length ≤ n := by
  unfold newsL
  rw [List.length_map]
  exact Nat.le_trans (List.length_filter_le _ _) (by simp)
/-- a process goes back to an index, and tells the others -/
def GoS (bs : List Branch) (fl : List Letter) (p x : Int) (b : Branch) (t : List Branch × List Letter) : Prop :=
  ∃ r, Red (b.ends ++ [⟨p, b.inc, x⟩]) r ∧ r.length ≤ b.ends.length + 1 ∧ t.1 = bs.set p.toNat (goB b x r) ∧ t.2 = fl ++ newsL p.toNat ⟨p, b.inc, x⟩ bs.length
theorem goBack33 {fuel : Nat} {bs : List Branch} {fl : List Letter} {p x : Int} {b : Branch} (hf : 1000000 < fuel) (h0 : 0 ≤ p) (hb : bs[p.toNat]? = some b) (hx0 : 0 ≤ x) (hx : x ≤ b.events.length) (he : b.ends.length ≤ 1000) (hi0 : 0 ≤ b.inc) (hi : b.inc ≤ 1000000)
    (hn : bs.length ≤ 1000) (hfl : fl.length ≤ 1000000) : Ok (machine_goBack fuel p x bs fl) (GoS bs fl p x b) := by
  have hp : p < bs.length := by have := (List.getElem?_eq_some_iff.1 hb).1; omega
  obtain ⟨q, rfl⟩ := Int.eq_ofNat_of_zero_le h0
  unfold machine_goBack
  refine (Ok.at h0 hp).bind fun a ha => ?_
  rw [hb] at ha; cases ha
  refine (Ok.take hx0 hx).bind fun l hl => ?_
  subst hl
  refine (Ok.ret (Q := fun y => y = _) rfl).bind fun y hy => ?_
  subst hy
  refine (Ok.set h0 hp).bind fun b1 hb1 => ?_
  subst hb1
  refine (Ok.ret (Q := fun y => y = _) rfl).bind fun y hy => ?_
  subst hy
  refine (Ok.set h0 (by simpa using hp)).bind fun b1 hb1 => ?_
  subst hb1
  refine (add_ok hf he).bind fun r hr => ?_
  refine (Ok.ret (Q := fun y => y = _) rfl).bind fun y hy => ?_
  subst hy
  refine (Ok.set h0 (by simpa using hp)).bind fun b1 hb1 => ?_
  subst hb1
  refine (Ok.ret (Q := fun y => y = _) rfl).bind fun y hy => ?_
  subst hy
  refine (Ok.set h0 (by simpa using hp)).bind fun b1 hb1 => ?_
  subst hb1
  simp only [List.set_set, Int.toNat_natCast, List.length_set] at *
  refine (Ok.for_ bs.length (fun k s => s = (fl ++ newsL q ⟨q, b.inc, x⟩ k, (k : Int))) (Q := fun t => t = fl ++ newsL q ⟨q, b.inc, x⟩ bs.length) (by simp [newsL]) (by omega) ?_).bind ?_
  · rintro k s hk rfl
    unfold machine_goBack_B1
    refine Ok.iteP (fun h => ?_) fun h => ?_
    · simp only [List.length_set] at h
      have hk' : k < bs.length := by omega
      refine Ok.iteN (fun h2 => ?_) fun h2 => ?_
      · refine (Ok.snoc (by have := newsL_len (p := q) (e := ⟨q, b.inc, x⟩) (n := k); simp; omega)).bind fun l hl => ?_
        subst hl
        refine Ok.ret ⟨hk', ?_⟩
        rw [newsL_succ, if_neg (by omega), w64_nat (by omega)]; simp
      · refine Ok.ret ⟨hk', ?_⟩
        rw [newsL_succ, if_pos (by omega), w64_nat (by omega)]; simp
    · simp only [List.length_set] at h
      obtain rfl : k = bs.length := by omega
      exact Ok.ret rfl
  · rintro t rfl
    refine Ok.ret ⟨r, hr.1, hr.2, ?_, rfl⟩
    have hw : w64 (b.inc + 1) = b.inc + 1 := by
      obtain ⟨m, hm⟩ := Int.eq_ofNat_of_zero_le hi0
      rw [hm]; exact w64_nat (by omega)
    simp [goB, hw]
/-- a process looks for what it must go back behind -/
def ChkS (bs : List Branch) (fl : List Letter) (p : Int) (b : Branch) (t : List Branch × List Letter) : Prop :=
  ((∀ (j : Nat) (y : Evt), b.events[j]? = some y → badE b.ends y = false) ∧ t = (bs, fl)) ∨
  ∃ (k : Nat) (e : Evt), b.events[k]? = some e ∧ badE b.ends e = true ∧ (∀ (j : Nat) (y : Evt), j < k → b.events[j]? = some y → badE b.ends y = false) ∧ GoS bs fl p k b t
theorem check33 {fuel : Nat} {bs : List Branch} {fl : List Letter} {p : Int} {b : Branch} (hf : 1000000 < fuel) (h0 : 0 ≤ p) (hb : bs[p.toNat]? = some b) (hl : b.events.length ≤ 1000000) (he : b.ends.length ≤ 1000) (hi0 : 0 ≤ b.inc) (hi : b.inc ≤ 1000000)
    (hn : bs.length ≤ 1000) (hfl : fl.length ≤ 1000000) : Ok (machine_check fuel p bs fl) (ChkS bs fl p b) := by
  have hp : p < bs.length := by have := (List.getElem?_eq_some_iff.1 hb).1; omega
  unfold machine_check
  refine (Ok.at h0 hp).bind fun a ha => ?_
  rw [hb] at ha; cases ha
  refine (bad33 (by omega) hl (by omega) (by omega)).bind fun r hr => ?_
  refine Ok.iteP (fun h => ?_) fun h => ?_
  · rcases hr with ⟨rfl, _⟩ | ⟨k, e, rfl, h1, h2, h3⟩
    · omega
    · have hk : k < b.events.length := (List.getElem?_eq_some_iff.1 h1).1
      exact (goBack33 hf h0 hb (by omega) (by omega) he hi0 hi hn hfl).bind fun t ht => Ok.ret (.inr ⟨k, e, h1, h2, h3, ht⟩)
  · rcases hr with ⟨rfl, h1⟩ | ⟨k, e, rfl, h1, h2, h3⟩
    · exact Ok.ret (.inl ⟨h1, rfl⟩)
    · omega
/-- a letter arrives -/
def RecS (bs : List Branch) (fl : List Letter) (i : Nat) (x : Letter) (b : Branch) (t : List Branch × List Letter) : Prop :=
  (x.news = true ∧ ∃ r, Red (b.ends ++ [x.end_]) r ∧ r.length ≤ b.ends.length + 1 ∧ ChkS (bs.set x.to.toNat { b with ends := r }) (fl.take i ++ fl.drop (i + 1)) x.to { b with ends := r } t) ∨
  (x.news = false ∧ t = (if undB b.ends x.frm x.sent = true then bs else bs.set x.to.toNat (evS b ⟨1, 0, x.frm, x.sent, 0, 0⟩), fl.take i ++ fl.drop (i + 1)))
theorem receive33 {fuel : Nat} {bs : List Branch} {fl : List Letter} {i : Nat} {x : Letter} {b : Branch} (hf : 1000000 < fuel) (hx : fl[i]? = some x) (h0 : 0 ≤ x.to) (hb : bs[x.to.toNat]? = some b) (hl : b.events.length ≤ 1000000) (he : b.ends.length ≤ 999) (hi0 : 0 ≤ b.inc) (hi : b.inc ≤ 1000000)
    (hn : bs.length ≤ 1000) (hfl : fl.length ≤ 1000000) : Ok (machine_receive fuel (i : Int) bs fl) (RecS bs fl i x b) := by
  have hp : x.to < bs.length := by have := (List.getElem?_eq_some_iff.1 hb).1; omega
  have hil : i < fl.length := (List.getElem?_eq_some_iff.1 hx).1
  unfold machine_receive
  refine (Ok.at (by omega) (by omega)).bind fun a ha => ?_
  rw [Int.toNat_natCast, hx] at ha; cases ha
  refine (Ok.take (by omega) (by omega)).bind fun l1 hl1 => ?_
  rw [Int.toNat_natCast] at hl1
  subst hl1
  rw [w64_nat (by omega)]
  have hd : dropL fl ((i + 1 : Nat) : Int) = some (fl.drop (i + 1)) := by unfold dropL; rw [if_pos (by omega), Int.toNat_natCast]
  rw [hd, Option.bind_some]
  refine (Ok.cat (by simp; omega)).bind fun l2 hl2 => ?_
  subst hl2
  refine (Ok.at h0 hp).bind fun a ha => ?_
  rw [hb] at ha; cases ha
  refine Ok.ite (fun h => ?_) fun h => ?_
  · refine (add_ok hf (by omega)).bind fun r hr => ?_
    refine (Ok.ret (Q := fun y => y = { b with ends := r }) rfl).bind fun y hy => ?_
    subst hy
    refine (Ok.set h0 hp).bind fun b1 hb1 => ?_
    subst hb1
    refine (check33 (b := { b with ends := r }) hf h0 (by rw [List.getElem?_set_self (by omega)]) hl (by have := hr.2; simp; omega) hi0 hi (by simpa using hn) (by simp; omega)).bind fun t ht => Ok.ret (.inl ⟨h, r, hr.1, hr.2, ht⟩)
  · rw [undone_eq (by omega) (by omega), Option.bind_some]
    refine Ok.ite (fun h2 => ?_) fun h2 => ?_
    · rw [event33 h0 hb hl, Option.bind_some]
      refine Ok.ret (.inr ⟨h, ?_⟩)
      simp at h2
      simp [h2]
    · refine Ok.ret (.inr ⟨h, ?_⟩)
      simp at h2
      simp [h2]
end Go.Mine
