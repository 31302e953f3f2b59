/- Vectors of chapter 26: Merge, news, the rules. -/
import Derived.Test.YtbmjcbhappjnaaaData
set_option linter.unusedSimpArgs false
set_option linter.unusedVariables false
namespace Go.Mine
open Go.RowKit
theorem ext_nth {α : Type} [Inhabited α] {a b : List α} (hl : a.length = b.length) (h : ∀ i, i < a.length → nth a i = nth b i) : a = b := by
  refine List.ext_getElem hl fun i h1 h2 => ?_
  have := h i h1
  rwa [nth_eq h1, nth_eq h2] at this
theorem nth_take {α : Type} [Inhabited α] {a : List α} {k i : Nat} (h : i < k) : nth (a.take k) i = nth a i := by simp [nth, List.getElem?_take, h]
/-- the greater elements of two vectors -/
def mergeV (a b : List Int) : List Int := (List.range a.length).map fun i => if i < b.length then max (nth a i) (nth b i) else nth a i
theorem mergeV_length {a b : List Int} : (mergeV a b).length = a.length := by simp [mergeV]
theorem nth_mergeV {a b : List Int} {i : Nat} (h : i < a.length) : nth (mergeV a b) i = if i < b.length then max (nth a i) (nth b i) else nth a i := by
  rw [nth_eq (by rw [mergeV_length]; exact h)]; simp [mergeV]
theorem mergeV_nil {a : List Int} : mergeV a [] = a := ext_nth mergeV_length fun i hi => by rw [mergeV_length] at hi; rw [nth_mergeV hi]; simp
theorem mergeV_step {a b : List Int} {k : Nat} (h1 : k < a.length) (h2 : k < b.length) : (mergeV a (b.take k)).set k (max (nth (mergeV a (b.take k)) k) (nth b k)) = mergeV a (b.take (k + 1)) := by
  refine ext_nth (by simp [mergeV_length]) fun i hi => ?_
  simp [mergeV_length] at hi
  have hk : nth (mergeV a (b.take k)) k = nth a k := by rw [nth_mergeV h1, if_neg (by simp; omega)]
  rw [nth_setC (by rw [mergeV_length]; exact h1), hk]
  by_cases hik : i = k
  · subst hik
    rw [if_pos rfl, nth_mergeV hi, if_pos (by simp; omega), nth_take (by omega)]
  · rw [if_neg hik, nth_mergeV hi, nth_mergeV hi]
    by_cases hlt : i < k
    · rw [if_pos (by simp; omega), if_pos (by simp; omega), nth_take hlt, nth_take (by omega)]
    · rw [if_neg (by simp; omega), if_neg (by simp; omega)]
theorem mergeV_take {a b : List Int} {k : Nat} (h : a.length ≤ k ∨ b.length ≤ k) : mergeV a (b.take k) = mergeV a b := by
  refine ext_nth (by simp [mergeV_length]) fun i hi => ?_
  rw [mergeV_length] at hi
  rw [nth_mergeV hi, nth_mergeV hi]
  by_cases hb : i < b.length
  · rw [if_pos (by simp; omega), if_pos hb, nth_take (by omega)]
  · rw [if_neg (by simp; omega), if_neg hb]
/-- has a vector a new dependency? -/
def newV (a b : List Int) : Bool := !decide (mergeV a b = a)
theorem newV_true {a b : List Int} {i : Nat} (h1 : i < a.length) (h2 : i < b.length) (h : nth a i < nth b i) : newV a b = true := by
  unfold newV
  have : mergeV a b ≠ a := fun e => by
    have h3 := nth_mergeV (b := b) h1
    rw [e, if_pos h2] at h3; omega
  simp [this]
theorem newV_false {a b : List Int} (h : ∀ i, i < a.length → i < b.length → nth b i ≤ nth a i) : newV a b = false := by
  unfold newV
  have : mergeV a b = a := ext_nth mergeV_length fun i hi => by
    rw [mergeV_length] at hi
    rw [nth_mergeV hi]
    split
    · rename_i h2; have := h i hi h2; omega
    · rfl
  simp [this]
/-- which receive events force a checkpoint -/
def forcesV (rule : Int) (a b : List Int) (sent act : Bool) : Bool :=
  if rule = 1 then act else if rule = 2 then sent else if rule = 3 then act && newV a b else if rule = 4 then sent && newV a b else false
section
variable {α : Type} {T : Ty α} {F R R0 : Nat → Prop} {w w' w0 : World} {cs : List HP} {e : TypeId} {v : Value} {xs : List α}
theorem Sep.newOwn (h : Sep F R0 R w0 w cs) (hB : Below w.heap.size w w') (ho : Own T w' 0 (fun _ => False) e v xs) (hv : ∀ k, v.ownBlock = some k → w.heap.size ≤ k) : Sep F R0 R w0 w' (.own T (fun _ => False) e v xs :: cs) :=
  h.new hB ho (fun k hk => ⟨hv k hk, (ho.lt k hk).2⟩) fun k hk => hk.elim
end
end Go.Mine
namespace Go.Proofs.Ytbmjcbhappjnaaa
open Go.RowKit Go.Mine
attribute [local irreducible] eseq ewp
variable {w : World}

theorem clone26 {F R : Nat → Prop} {v : Value} {xs : List Int} (h : Sep F R R w w []) (hx : IsSlice Ty.int w R v xs) (hl : xs.length ≤ 1000000) :
    Gives Try.prog 90 [v] w fun v' w' => Sep F R R w w' [HP.own Ty.int (fun _ => False) 3 v' xs] := by
  have hS := h
  have hx0 := hx
  obtain ⟨ad, c, rfl, hc0, hnil, -, -⟩ := hx0
  refine fn_of Try.func90 rfl Try.ntmps90 (Nat.le_of_ble_eq_true rfl) ?_
  have hT := Below.refl w.heap.size w
  refine e_seq fun K hK => ?_
  refine e_region_text rfl ?_
  refine q_assign rfl rfl ?_
  refine eseq_nil ?_
  refine hK _ _ ?_; clear hK
  refine e_seq fun K hK => ?_
  refine e_seq fun K hK => ?_
  refine e_region_text rfl ?_
  refine q_move rfl rfl ?_
  refine q_eqlNil rfl rfl rfl ?_
  refine eseq_nil ?_
  refine hK _ _ ?_; clear hK
  refine e_cond rfl (fun hb => ?_) (fun hb => ?_)
  · skip
    have e1 : ad = none := by simpa using hb
    have e2 := hnil e1
    have e3 : xs = [] := List.eq_nil_of_length_eq_zero (by omega)
    subst e3
    refine e_seq fun K hK => ?_
    refine e_region_text rfl ?_
    refine q_assign rfl rfl ?_
    refine eseq_nil ?_
    refine hK _ _ ?_; clear hK
    refine e_ret ?_
    exact ⟨_, res1 rfl rfl, hS.nilOwn0 Ty.int 3⟩
  refine e_skip ?_
  refine hK _ _ ?_; clear hK
  refine e_seq fun K hK => ?_
  refine e_region_text rfl ?_
  refine q_slice0 rfl fun wz bz hgz hbz hBz => ?_
  replace hx := hx.ext hBz
  replace hS := hS.newOwn hBz (Own.empty Ty.int hbz (Nat.zero_le _)) (fun k hk => by cases hk; exact hgz)
  refine q_move rfl rfl ?_
  refine q_appendS rfl rfl rfl rfl (hS.own 0 rfl) rfl (hx) (Enc.any) (by first | omega | (simp; omega)) (Nat.zero_le _) rfl (fun h => by cases h) fun v7 w1 hw1 hgr1 hnw1 => ?_
  have hk1 := hS.keptOwn 0 rfl hgr1
  replace hx := hx.kept hk1
  replace hS := hS.setOwn 0 rfl hw1 hgr1 hnw1; simp only [List.set] at hS
  refine q_assign rfl rfl ?_
  refine eseq_nil ?_
  refine hK _ _ ?_; clear hK
  refine e_ret ?_
  simp only [List.nil_append] at hS
  exact ⟨_, res1 rfl rfl, hS⟩

theorem merge26 {F R : Nat → Prop} {v1 v2 : Value} {a b : List Int} (h : Sep F R R w w []) (h1 : IsSlice Ty.int w R v1 a) (h2 : IsSlice Ty.int w R v2 b) (hl : a.length ≤ 1000000) (hl2 : b.length ≤ 1000000) :
    Gives Try.prog 92 [v1, v2] w fun v' w' => Sep F R R w w' [HP.own Ty.int (fun _ => False) 3 v' (mergeV a b)] := by
  have hS := h
  refine fn_of Try.func92 rfl Try.ntmps92 (Nat.le_of_ble_eq_true rfl) ?_
  have hT := Below.refl w.heap.size w
  refine e_seq fun K hK => ?_
  refine e_region_text rfl ?_
  refine q_assign rfl rfl ?_
  refine eseq_nil ?_
  refine hK _ _ ?_; clear hK
  refine e_seq fun K hK => ?_
  refine e_region_text rfl ?_
  refine q_move rfl rfl ?_
  refine q_call rfl (clone26 (Sep.enter (As := []) hS) h1 hl) rfl ?_
  rintro v8 wc hC; refine ⟨(fun h => by cases h), ?_⟩
  have hkc := hC.keptR (Sep.offFeet (As := []) hS)
  replace h2 := h2.kept hkc
  replace hS := Sep.leave (As := []) hS hC
  replace hS : Sep F R R w wc [HP.own Ty.int (fun _ => False) 3 v8 a] := hS
  refine q_assign rfl rfl ?_
  refine eseq_nil ?_
  refine hK _ _ ?_; clear hK
  refine e_seq fun K hK => ?_
  refine e_seq fun K hK => ?_
  refine e_region_text rfl ?_
  refine q_move rfl rfl ?_
  refine q_lenS rfl (hS.isl 0 rfl) rfl ?_
  refine q_move rfl rfl ?_
  refine q_lenS rfl h2 rfl ?_
  refine q_min rfl rfl rfl ?_
  refine q_move rfl rfl ?_
  refine eseq_nil ?_
  refine hK _ _ ?_; clear hK
  refine e_block ?_
  have h20 := h2
  obtain ⟨ad2, c2, rfl, -, -, -, -⟩ := h20
  refine e_loop (fun m E wx => ∃ k : Nat, k ≤ min a.length b.length ∧ Sep F R R w wx [HP.own Ty.int (fun _ => False) 3 v8 (mergeV a (b.take k))] ∧ IsSlice Ty.int wx R (.slice ad2 b.length c2) b ∧ m = min a.length b.length - k ∧ E = [(1, .slice ad2 b.length c2), (5, v8), (13, .int .i64 (min (a.length : Int) b.length)), (14, .int .i64 k)]) _ ⟨_, ⟨0, Nat.zero_le _, by rw [List.take_zero, mergeV_nil]; exact hS, h2, rfl, rfl⟩, Sub.cons rfl (Sub.cons rfl (Sub.cons rfl (Sub.cons rfl (Sub.nil _))))⟩ ?_
  clear hS h2 hC hkc
  rintro m E wx ⟨k, hk, hS, h2, rfl, rfl⟩
  refine e_seq fun K hK => ?_
  refine e_region_text rfl ?_
  refine q_lss rfl rfl rfl ?_
  refine eseq_nil ?_
  refine hK _ _ ?_; clear hK
  refine e_seq fun K hK => ?_
  refine e_cond rfl (fun hc => ?_) (fun hc => ?_)
  · skip
    have hlt : k < a.length ∧ k < b.length := by simp at hc; omega
    obtain ⟨g, cap, cur, hv, hb, hcl⟩ := (hS.own 0 rfl).form (by rw [mergeV_length]; omega)
    subst hv
    have hml := mergeV_length (a := a) (b := b.take k)
    refine e_skip ?_
    refine hK _ _ ?_; clear hK
    refine e_seq fun K hK => ?_
    refine e_block ?_
    refine e_seq fun K hK => ?_
    refine e_region_text rfl ?_
    refine q_move rfl rfl ?_
    refine q_assign rfl rfl ?_
    refine eseq_nil ?_
    refine hK _ _ ?_; clear hK
    refine e_region_draw mixed (fun _ => False) [0, 0, 0, 0, 12, 28, 0, 0, 192, 448, 1020, 2047, 4095] [] [0, 1, 2, 3, 4, 5, 6, 7, 8, 9, 10, 11, 12] (by kernel_rfl) ?_
    refine q_move rfl rfl ?_
    refine q_move rfl rfl ?_
    refine q_move rfl rfl ?_
    refine q_move rfl rfl ?_
    first | refine q_indexn rfl rfl (by omega) rfl ?_ | refine q_index rfl rfl ⟨by omega, by omega⟩ rfl ?_
    refine q_load rfl (Own.cellAt (hS.own 0 rfl) k 0 (by omega) rfl) rfl ?_
    refine q_move rfl rfl ?_
    refine q_move rfl rfl ?_
    first | refine q_indexSn (by infer_instance) rfl h2 rfl (by first | omega | decide) rfl fun b25 o25 f25 => ?_ | refine q_indexS (by infer_instance) rfl h2 rfl (by first | omega | decide) (by first | omega | decide) rfl fun b25 o25 f25 => ?_
    refine q_load rfl (El.intCell f25) rfl ?_
    refine q_max rfl rfl rfl ?_
    first | refine q_indexn rfl rfl (by omega) rfl ?_ | refine q_index rfl rfl ⟨by omega, by omega⟩ rfl ?_
    refine q_storeOwn (i := k) (j := 0) rfl rfl (hS.own 0 rfl) (by omega) rfl rfl rfl (fun _ h => h.elim) (max (nth (mergeV a (b.take k)) k) (nth b k)) rfl fun ws hws hOs => ?_
    have hks := hS.keptOwnO 0 rfl hOs
    replace h2 := h2.kept hks
    replace hS := hS.putOwn 0 rfl hws hOs; simp only [List.set] at hS
    refine eseq_nil ?_
    refine hK _ _ ?_; clear hK
    refine e_region_text rfl ?_
    refine q_add rfl rfl (wr64 (by omega) (by omega)) rfl ?_
    refine q_move rfl rfl ?_
    refine eseq_nil ?_
    rw [mergeV_step hlt.1 hlt.2] at hS
    exact ⟨_, _, by omega, ⟨k + 1, by omega, hS, h2, rfl, rfl⟩, Sub.cons rfl (Sub.cons rfl (Sub.cons rfl (Sub.cons rfl (Sub.nil _))))⟩
  · skip
    have hge : a.length ≤ k ∨ b.length ≤ k := by simp at hc; omega
    refine e_exit ?_
    clear hK
    refine hK _ _ ?_; clear hK
    refine e_seq fun K hK => ?_
    refine e_region_text rfl ?_
    refine q_move rfl rfl ?_
    refine q_assign rfl rfl ?_
    refine eseq_nil ?_
    refine hK _ _ ?_; clear hK
    refine e_ret ?_
    rw [mergeV_take hge] at hS
    exact ⟨_, res1 rfl rfl, hS⟩
end Go.Proofs.Ytbmjcbhappjnaaa
