/- Branches whose events are rows of one's own: a list of headers and a family of rows. -/
import Derived.Test.YtddohdppmejjoaaAcdat
import Derived.Test.YtddohdppmejjoaaClip
set_option linter.unusedSimpArgs false
set_option linter.unusedVariables false
namespace Go.Mine
open Go.RowKit
/-- a branch whose list of events is a mere header -/
def brV : Ty (Branch × Value) := Ty.via (Ty.pair Ty.int (Ty.pair Ty.raw (Ty.pair Ty.int (Ty.slice endITy)))) fun a => (a.1.inc, a.2, a.1.stable, a.1.ends)
theorem brV_F0 {w : World} {S : Nat → Prop} {b o : Nat} {a : Branch × Value} (h : Elt brV w S b o a) : Elt Ty.int w S b (o + 0) a.1.inc := h.via.fst
theorem brV_F1 {w : World} {S : Nat → Prop} {b o : Nat} {a : Branch × Value} (h : Elt brV w S b o a) : Elt Ty.raw w S b (o + 1) a.2 := h.via.snd.fst
theorem brV_F3 {w : World} {S : Nat → Prop} {b o : Nat} {a : Branch × Value} (h : Elt brV w S b o a) : Elt (Ty.slice endITy) w S b (o + 3) a.1.ends := h.via.snd.snd.snd
theorem brV_R {w : World} {S : Nat → Prop} {a : Branch × Value} {cs : List Value} (h : brV.R w S cs a) : ∃ v1, cs = [.int .i64 a.1.inc, a.2, .int .i64 a.1.stable, v1] ∧ oneV a.2 = true ∧ IsSlice endITy w S v1 a.1.ends := by
  obtain ⟨_, _, rfl, rfl, _, _, rfl, ⟨rfl, h1⟩, _, _, rfl, rfl, v1, rfl, h2⟩ := h
  exact ⟨v1, rfl, h1, h2⟩
theorem brV_mk {w : World} {S : Nat → Prop} {a : Branch × Value} {v1 : Value} (h1 : oneV a.2 = true) (h2 : IsSlice endITy w S v1 a.1.ends) : brV.R w S [.int .i64 a.1.inc, a.2, .int .i64 a.1.stable, v1] a :=
  ⟨[_], _, rfl, rfl, ⟨[_], _, rfl, ⟨rfl, h1⟩, ⟨[_], _, rfl, rfl, ⟨_, rfl, h2⟩⟩⟩⟩
theorem ati_fst {α β : Type} {xs : List (α × β)} {bs : List α} {i : Int} {b : α} (h : xs.map Prod.fst = bs) (ha : ati bs i = some b) : ∃ u, ati xs i = some (b, u) := by
  subst h
  obtain ⟨h0, h1, h2⟩ := ati_lt ha
  rw [List.length_map] at h1
  rw [List.getElem?_map, List.getElem?_eq_getElem h1] at h2
  refine ⟨(xs[i.toNat]'h1).2, ?_⟩
  unfold ati
  rw [if_neg (by omega), List.getElem?_eq_getElem h1]
  have := Option.some.inj h2
  rw [← this]
theorem ati_mapE {α β : Type} (f : α → β) {xs : List α} {i : Int} {a : α} (ha : ati xs i = some a) : ati (xs.map f) i = some (f a) := by
  obtain ⟨h0, h1, h2⟩ := ati_lt ha
  unfold ati
  rw [if_neg (by omega), List.getElem?_map, h2]; rfl
theorem nth_snd {α : Type} {xs : List (α × Value)} {i : Int} {b : α} {u : Value} (ha : ati xs i = some (b, u)) : nth (xs.map Prod.snd) i.toNat = u := by
  obtain ⟨h0, h1, h2⟩ := ati_lt ha
  have h3 : (xs.map Prod.snd)[i.toNat]? = some u := by rw [List.getElem?_map, h2]; rfl
  rw [some_nth (by simpa using h1)] at h3
  exact Option.some.inj h3
section
variable {F R0 R : Nat → Prop} {w0 w w' : World} {cs : List HP} {e eo : TypeId} {v u u' : Value} {xs : List (Branch × Value)} {bs bs' : List Branch} {S : Nat → Prop} {i : Int} {b y : Branch} {evs : List Evt}
/-- the rows will not change any more -/
theorem Sep.brFreeze (h : Sep F R0 R w0 w cs) (i f : Nat) (hi : cs[i]? = some (HP.own brV S eo v xs)) (hf : cs[f]? = some (HP.famS evtTy (fun _ => False) e (xs.map Prod.snd) (bs.map (·.events)))) (hne : i < f) (hx : xs.map Prod.fst = bs) :
    ∃ R', Sep F R0 R' w0 w ((cs.eraseIdx f).set i (HP.own branchTy R' eo v bs)) ∧ ∀ k, R k → R' k := by
  have h1 : FamIn evtTy (fun _ => False) e (xs.map Prod.snd) (bs.map (·.events)) w := h.get f hf
  have ho : Own brV w 0 S eo v xs := h.get i hi
  obtain ⟨R', hR, hm, hf'⟩ := h.freezeO f hf
  have hi' : (cs.eraseIdx f)[i]? = some (HP.own brV S eo v xs) := by rw [List.getElem?_eraseIdx_of_lt hne]; exact hi
  have hl : xs.length = bs.length := by rw [← hx]; simp
  have hown : Own branchTy w 0 R' eo v bs := by
    obtain ⟨cells, hc, hrow, hr⟩ := ho.row
    refine ⟨cells, by omega, by rw [← hl]; exact hrow, fun j c x hj hxj => ?_⟩
    have hjl : j < xs.length := by have := (List.getElem?_eq_some_iff.1 hxj).1; omega
    have hxj' : xs[j]? = some (x, (xs[j]'hjl).2) := by
      rw [← hx, List.getElem?_map, List.getElem?_eq_getElem hjl] at hxj
      rw [List.getElem?_eq_getElem hjl]
      have := Option.some.inj hxj
      rw [← this]
    generalize (xs[j]'hjl).2 = uu at hxj'
    have hcR := hr j c (x, uu) hj hxj'
    obtain ⟨v1, rfl, g1, g2⟩ := brV_R hcR
    have hO : Own evtTy w 0 (fun _ => False) e uu x.events := h1.2.1 j uu x.events (by rw [List.getElem?_map, hxj']; rfl) (by rw [List.getElem?_map, hxj]; rfl)
    have hfe : ∀ k, uu.ownBlock = some k → R' k := fun k hk => hf' k ⟨j, uu, by rw [List.getElem?_map, hxj']; rfl, hk⟩
    have off : ∀ k, R' k → some k ≠ v.ownBlock := fun k hk he => hR.off i hi' k hk he.symm
    refine ⟨[_], _, rfl, rfl, ⟨[_], _, rfl, ⟨_, rfl, ?_⟩, ⟨[_], _, rfl, rfl, ⟨_, rfl, ?_⟩⟩⟩⟩
    · exact (Own.reads hO).mono fun k hk _ => hk.elim (fun h => h.elim) fun hk => ⟨hfe k hk, off k (hfe k hk)⟩
    · exact g2.mono fun k hk _ => ⟨hm k (h.depR i hi k hk.1), hk.2⟩
  exact ⟨R', hR.set i hi' (StepF.refl _ _) (c' := HP.own branchTy R' eo v bs) hown (fun k hk => .inl hk) (fun k hk => hk), hm⟩
theorem seti_map {α β : Type} (f : α → β) {xs ys : List α} {i : Int} {a : α} (h : seti xs i a = some ys) : seti (xs.map f) i (f a) = some (ys.map f) := by
  obtain ⟨h0, h1, rfl⟩ := seti_eq h
  unfold seti
  rw [if_pos ⟨h0, by simp; omega⟩, List.map_set]
theorem seti_pair {α β : Type} {xs : List (α × β)} {bs bs' : List α} {i : Int} {b : α} {u : β} (hx : xs.map Prod.fst = bs) (h : seti bs i b = some bs') : ∃ ys, seti xs i (b, u) = some ys ∧ ys.map Prod.fst = bs' ∧ ys.map Prod.snd = (xs.map Prod.snd).set i.toNat u := by
  obtain ⟨h0, h1, rfl⟩ := seti_eq h
  subst hx
  rw [List.length_map] at h1
  refine ⟨xs.set i.toNat (b, u), ?_, by rw [List.map_set], by rw [List.map_set]⟩
  unfold seti
  rw [if_pos ⟨h0, by omega⟩]
end
section
variable {P : Program} {N : Fr} {X : Nat → Prop} {K : Env → World → Prop} {E : Env} {w : World} {t : TypeId} {m : Bool} {rest : List QOp} {sd : Nat} {α : Type} {T : Ty α}
theorem q_cutT {enc : α → List Value} [hE : Enc T enc] {x y : Operand} {ts e bytes lo : Nat} {z : List Value} {S : Nat → Prop} {v : Value} {xs us bs zs : List α} {i j : Int} [TS : TSlice P ts e T.sz] [TE : TElem P e bytes z] (hz : z.length = T.sz) (h0 : Nat.blt 0 T.sz = true) (hbytes : Nat.ble bytes 1000 = true)
    (hx : ev E x = some (truncV v i.toNat)) (hown : Own T w lo S e v xs) (hy : ev E y = some (sufV T.sz v j.toNat)) (ha : takeL xs i = some us) (hb : dropL xs j = some bs)
    (hlen : catL us bs = some zs) (hlo : lo ≤ w.heap.size) (hd : dOK N (some sd) = true) (hm : m = true → ∀ k, v.ownBlock = some k → X k)
    (h : ∀ v' w1, Own T w1 lo S e v' zs → w.grownBy w1 v.ownBlock → (∀ k, v'.ownBlock = some k → v.ownBlock = some k ∨ w.heap.size ≤ k) → eseq P N X K rest (Env.set E sd v') w1) :
    eseq P N X K (⟨none, some sd, .call { callee := .builtin .append, args := #[x, y], argTypes := #[ts, ts] }, t, m⟩ :: rest) E w := by
  obtain ⟨h1, rfl⟩ := catL_eq hlen
  have hc := hown.trunc ha
  obtain ⟨g0, g1, rfl⟩ := dropL_eq hb
  have hs := hown.isSlice
  obtain ⟨ad, cap, rfl, h2, _⟩ := id hs
  have hcut := hs.cut j.toNat xs.length g1 (Nat.le_refl _)
  rw [List.take_of_length_le (by simp)] at hcut
  have hsuf : IsSlice T w (fun k => S k ∨ lo ≤ k) (sufV T.sz (.slice ad xs.length cap) j.toNat) (xs.drop j.toNat) := hcut
  refine q_appendS hz h0 hbytes hx hc hy hsuf (fun c u hcu => (hE.R _ _ _ _).2 ((hE.R _ _ _ _).1 hcu)) h1 hlo hd (fun h k hk => hm h k (by rwa [truncV_own] at hk)) fun v' w1 ho hg hn => h v' w1 ho (by rwa [truncV_own] at hg) fun k hk => ?_
  have := hn.blk k hk
  rwa [truncV_own] at this
end
end Go.Mine
