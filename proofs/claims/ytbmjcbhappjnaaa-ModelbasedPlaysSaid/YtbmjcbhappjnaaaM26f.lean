/- The beginning of the computation of chapter 26. -/
import Derived.Test.YtbmjcbhappjnaaaM26e
set_option linter.unusedSimpArgs false
set_option linter.unusedVariables false
namespace Go.Mine
open Go.RowKit
theorem Own.oneCell {w : World} {b : Nat} {x : Cell} {e : TypeId} (hb : Blk w b [x.v] e) : Own Ty.cell w 0 (fun _ => False) e (.slice (some ⟨b, 0, none⟩) 1 1) [x] :=
  Own.ofBlk (cells := [[x.v]]) hb rfl (by decide) rfl fun i c y hc hy => by
    cases i with
    | zero => simp at hc hy; subst hc; subst hy; rfl
    | succ i => simp at hc
theorem Own.zeroActors {w : World} {b n : Nat} {e : TypeId} (hb : Blk w b (List.replicate n [.slice none 0 0, .bool false, .bool false]).flatten e) (hn : n ≤ 1000) : Own actorTy w 0 (fun _ => False) e (.slice (some ⟨b, 0, none⟩) n n) (List.replicate n (default : ActorC)) :=
  Own.ofBlk hb (by simp) (by omega) (by simp) fun i c y hc hy => by
    rw [List.getElem?_replicate] at hc hy
    split at hc
    · rename_i h; rw [if_pos h] at hy; cases hc; cases hy; exact actorR.2 rfl
    · cases hc
/-- the vectors that are laid -/
structure Half (w : World) (R : Nat → Prop) (n k : Nat) (vc : List (List Cell)) (ac : List ActorC) : Prop where
  vlen : vc.length = k
  vecs : ∀ q, q < k → Vecs w R (nth vc q) [List.replicate n 0]
  alen : ac.length = n
  vec : ∀ q, q < k → IsSlice Ty.int w R (nth ac q).vec.v (unitV n q)
  sent : ∀ q, q < n → (nth ac q).sent = false
  act : ∀ q, q < n → (nth ac q).act = false
section
variable {w w' : World} {R R' : Nat → Prop} {n k : Nat} {vc : List (List Cell)} {ac : List ActorC}
theorem Half.kept (h : Half w R n k vc ac) (hk : Kept R w w') : Half w' R n k vc ac := { h with vecs := fun q hq => (h.vecs q hq).kept hk, vec := fun q hq => (h.vec q hq).kept hk }
theorem Half.ext (h : Half w R n k vc ac) (hB : Below w.heap.size w w') : Half w' R n k vc ac := { h with vecs := fun q hq => (h.vecs q hq).ext hB, vec := fun q hq => (h.vec q hq).ext hB }
theorem Half.mono (h : Half w R n k vc ac) (hn : ∀ k, R k → k < w.heap.size → R' k) : Half w R' n k vc ac := { h with vecs := fun q hq => (h.vecs q hq).mono hn, vec := fun q hq => (h.vec q hq).mono hn }
theorem Half.start : Half w R n 0 [] (List.replicate n default) :=
  ⟨rfl, fun q hq => absurd hq (Nat.not_lt_zero _), by simp, fun q hq => absurd hq (Nat.not_lt_zero _), fun q hq => by rw [nth]; simp [hq]; rfl, fun q hq => by rw [nth]; simp [hq]; rfl⟩
theorem Half.next {u z : Cell} (h : Half w R n k vc ac) (hk : k < n) (hz : IsSlice Ty.int w R z.v (List.replicate n 0)) (hu : IsSlice Ty.int w R u.v (unitV n k)) : Half w R n (k + 1) (vc ++ [[z]]) (ac.set k { nth ac k with vec := u }) := by
  have ga := h.alen; have gv := h.vlen
  refine ⟨by simp [gv], fun q hq => ?_, by simpa using ga, fun q hq => ?_, fun q hq => ?_, fun q hq => ?_⟩
  · rw [nth_snocC, gv]
    split
    · exact ⟨rfl, fun i hi => by obtain rfl : i = 0 := (by simp at hi; omega); exact hz⟩
    · exact h.vecs q (by omega)
  · rw [nth_setC (by omega)]
    split
    · subst q; exact hu
    · exact h.vec q (by omega)
  · rw [nth_setC (by omega)]
    split
    · subst q; exact h.sent k hk
    · exact h.sent q hq
  · rw [nth_setC (by omega)]
    split
    · subst q; exact h.act k hk
    · exact h.act q hq
end
end Go.Mine
namespace Go.Proofs.Ytbmjcbhappjnaaa
open Go.RowKit Go.Mine
attribute [local irreducible] eseq ewp nth
variable {w : World} {F R : Nat → Prop} {n : Nat} {rule : Int}

def halfParts (n : Nat) (rule : Int) (B gL gP : Nat) (vC vV vF : Value) (vsC vsV vsF : List Value) (k : Nat) (vc : List (List Cell)) (ac : List ActorC) : List HP :=
  [HP.own Ty.raw (fun _ => False) 27 vC vsC, HP.fam Ty.int 3 vsC (List.replicate k [0]), HP.own Ty.raw (fun _ => False) 28 vV vsV, HP.fam Ty.cell 27 vsV vc, HP.own Ty.raw (fun _ => False) 99 vF vsF, HP.fam Ty.bool 4 vsF (List.replicate k [false]),
   HP.blk B [.slice (some ⟨gL, 0, none⟩) n n, vC, .slice none 0 0, .slice none 0 0, vV, vF, .slice (some ⟨gP, 0, none⟩) n n, .slice none 0 0, .func (.func (condF rule)) #[] #[]] 95,
   HP.blk gL ((List.replicate n 0).map encI) 3, HP.own actorTy (fun _ => False) 89 (.slice (some ⟨gP, 0, none⟩) n n) ac]

theorem begin26 (h : Sep F R R w w []) (n : Nat) (hn1 : 1 ≤ n) (hn : n ≤ 100) (rule : Int) :
    Gives Try.prog 43 [.int .i64 n, .int .i64 rule] w fun v w' => ∃ R1 x, v = .pointer (some ⟨x.B, 0, none⟩) ∧ Sep F R R1 w w' (compParts n rule x (C26.start n)) ∧ Held w' R1 n x (C26.start n) := by
  have hS := h
  refine fn_of Try.func43 rfl Try.ntmps43 (Nat.le_of_ble_eq_true rfl) ?_
  have hT := Below.refl w.heap.size w
  refine e_seq fun K hK => ?_
  refine e_region_text rfl ?_
  refine q_assign rfl rfl ?_
  refine eseq_nil ?_
  refine hK _ _ ?_; clear hK
  refine e_seq fun K hK => ?_
  refine e_region_tree mixed 7 rfl ?_
  refine a_meet (J := fun E' w' => ∃ gP, Sep F R R w w' [HP.own actorTy (fun _ => False) 89 (.slice (some ⟨gP, 0, none⟩) n n) (List.replicate n default)] ∧ Sub [(0, .int .i64 n), (8, .slice (some ⟨gP, 0, none⟩) n n), (10, .func (.func (condF rule)) #[] #[])] E') 3 #[true, true, true, true, false, false, false] ?_ ?_
  · rintro E' w' ⟨gP, hS, hsub⟩
    refine eany_sub hsub ?_
    refine a_one rfl 4 (by kernel_rfl) rfl ?_; refine q_build (Parts.cons rfl rfl (Parts.cons rfl rfl Parts.nil)) rfl rfl ?_; refine eseq_nil ?_
    refine a_one rfl 5 (by kernel_rfl) rfl ?_; refine q_boxB rfl rfl rfl fun wb B hgb hbb hBb => ?_
    replace hbb : Blk wb B [.slice none 0 0, .slice none 0 0, .slice none 0 0, .slice none 0 0, .slice none 0 0, .slice none 0 0, .slice (some ⟨gP, 0, none⟩) n n, .slice none 0 0, .func (.func (condF rule)) #[] #[]] 95 := hbb
    replace hS := hS.newBlk hBb hgb hbb
    refine eseq_nil ?_
    refine a_one rfl 6 (by kernel_rfl) rfl ?_; refine q_assign rfl rfl ?_; refine eseq_nil ?_; refine a_done (by kernel_rfl) ?_
    refine hK _ _ ?_; clear hK
    refine e_seq fun K hK => ?_
    refine e_region_text rfl ?_
    refine q_move rfl rfl ?_
    refine q_move rfl rfl ?_
    refine q_make (z := [.int .i64 0]) (sz := 1) (n := n) rfl rfl rfl rfl (by omega) rfl fun w1 bl1 hg1 hb1 hB1 => ?_
    rw [replicate_ints] at hb1
    replace hS := hS.newBlk hB1 hg1 hb1
    refine q_nilCheck rfl rfl ?_
    refine q_field rfl rfl ?_
    refine q_field rfl rfl ?_
    refine q_field rfl rfl ?_
    refine q_store rfl rfl (hS.blk 1 rfl) (Nat.le_of_ble_eq_true rfl) rfl rfl rfl fun w2 hb2 hO2 => ?_
    have hk2 := hS.keptBlk 1 rfl hO2
    replace hS := hS.setBlk 1 rfl hb2 hO2; simp only [List.set] at hS
    refine eseq_nil ?_
    refine hK _ _ ?_; clear hK
    refine e_seq fun K hK => ?_
    refine e_seq fun K hK => ?_
    refine e_region_text rfl ?_
    refine q_move rfl rfl ?_
    refine q_move rfl rfl ?_
    refine eseq_nil ?_
    refine hK _ _ ?_; clear hK
    refine e_block ?_
    replace hS := ((((((hS.nilFam Ty.bool 4).nilOwn0 Ty.raw 99).nilFam Ty.cell 27).nilOwn0 Ty.raw 28).nilFam Ty.int 3).nilOwn0 Ty.raw 27)
    have hS2 := hS.order [0, 1, 2, 3, 4, 5, 7, 6, 8] 9 rfl (by decide)
    simp only [List.map_cons, List.map_nil, List.getD_cons_zero, List.getD_cons_succ] at hS2
    refine e_loop (fun m E wx => ∃ (k : Nat) (R1 : Nat → Prop) (vC vV vF : Value) (vsC vsV vsF : List Value) (vc : List (List Cell)) (ac : List ActorC), k ≤ n ∧ Sep F R R1 w wx (halfParts n rule B bl1 gP vC vV vF vsC vsV vsF k vc ac) ∧ Half wx R1 n k vc ac ∧ m = n - k ∧ E = [(0, .int .i64 n), (5, .pointer (some ⟨B, 0, none⟩)), (20, .int .i64 n), (21, .int .i64 k)]) _ ⟨_, ⟨0, R, _, _, _, [], [], [], [], _, by omega, hS2, Half.start, rfl, rfl⟩, Sub.cons rfl (Sub.cons rfl (Sub.cons rfl (Sub.cons rfl (Sub.nil _))))⟩ ?_
    clear hS hS2
    rintro m E wx ⟨k, R1, vC, vV, vF, vsC, vsV, vsF, vc, ac, hk, hS, hH, rfl, rfl⟩
    simp only [halfParts] at hS
    have l1 := hS.famLen 1 rfl; have l2 := hS.famLen 3 rfl; have l3 := hS.famLen 5 rfl; have l4 := hH.vlen; have l5 := hH.alen
    simp only [List.length_replicate] at l1 l3
    refine e_seq fun K hK => ?_
    refine e_region_text rfl ?_
    refine q_lss rfl rfl rfl ?_
    refine eseq_nil ?_
    refine hK _ _ ?_; clear hK
    refine e_seq fun K hK => ?_
    refine e_cond rfl (fun hc => ?_) (fun hc => ?_)
    · skip
      have hlt : k < n := by simpa using hc
      refine e_skip ?_
      refine hK _ _ ?_; clear hK
      refine e_seq fun K hK => ?_
      refine e_block ?_
      refine e_seq fun K hK => ?_
      refine e_region_text rfl ?_
      refine q_move rfl rfl ?_
      refine q_assign rfl rfl ?_
      refine eseq_nil ?_
      refine hK _ _ ?_; clear hK
      refine e_seq fun K hK => ?_
      refine e_region_text rfl ?_
      refine q_move rfl rfl ?_
      refine q_move rfl rfl ?_
      refine q_nilCheck rfl rfl ?_
      refine q_field rfl rfl ?_
      refine q_field rfl rfl ?_
      refine q_field rfl rfl ?_
      refine q_load rfl (Blk.cell (hS.blk 6 rfl) rfl) rfl ?_
      refine q_slice1 rfl rfl rfl rfl rfl rfl fun wi bi hgi hbi hBi => ?_
      replace hH := hH.ext hBi
      replace hS := hS.famPush 1 rfl hBi (Own.oneInt hbi) (fun k hk => by cases hk; exact hgi); simp only [List.set, ← List.replicate_succ'] at hS
      refine q_slice1 rfl rfl rfl rfl rfl rfl fun w3 bl3 hg3 hb3 hB3 => ?_
      replace hH := hH.ext hB3
      replace hS := hS.below hB3
      refine q_append1 (u := (.slice (some ⟨bi, 0, none⟩) 1 1)) rfl rfl rfl rfl (hS.own 0 rfl) rfl hb3 (⟨rfl, rfl⟩) (by omega) (Nat.zero_le _) rfl (fun h => by cases h) fun v33 w4 hw4 hgr4 hnw4 => ?_
      have hk4 := hS.keptOwn 0 rfl hgr4
      replace hH := hH.kept hk4
      replace hS := hS.setOwn 0 rfl hw4 hgr4 hnw4; simp only [List.set] at hS
      refine q_nilCheck rfl rfl ?_
      refine q_field rfl rfl ?_
      refine q_field rfl rfl ?_
      refine q_field rfl rfl ?_
      refine q_store rfl rfl (hS.blk 6 rfl) (Nat.le_of_ble_eq_true rfl) (hS.own 0 rfl).one rfl rfl fun w5 hb5 hO5 => ?_
      have hk5 := hS.keptBlk 6 rfl hO5
      replace hH := hH.kept hk5
      replace hS := hS.setBlk 6 rfl hb5 hO5; simp only [List.set] at hS
      refine eseq_nil ?_
      refine hK _ _ ?_; clear hK
      refine e_seq fun K hK => ?_
      refine e_region_draw mixed (fun _ => False) [0, 0, 2, 6, 14, 30, 0, 64, 192, 448, 1022, 2047, 4095, 8191, 16383] [7, 8, 9] [0, 1, 2, 3, 4, 5, 6, 7, 8, 9, 10, 11, 12, 13, 14] (by kernel_rfl) ?_
      refine q_move rfl rfl ?_
      refine q_move rfl rfl ?_
      refine q_nilCheck rfl rfl ?_
      refine q_field rfl rfl ?_
      refine q_field rfl rfl ?_
      refine q_load rfl (Blk.cell (hS.blk 6 rfl) rfl) rfl ?_
      refine q_move rfl rfl ?_
      refine q_make (z := [.int .i64 0]) (sz := 1) (n := n) rfl rfl rfl rfl (by omega) rfl fun w6 bl6 hg6 hb6 hB6 => ?_
      rw [replicate_ints] at hb6
      replace hH := hH.ext hB6
      replace hS := hS.newBlk hB6 hg6 hb6
      have hz0 := hS.jsl 0 rfl
      obtain ⟨R2, hS, hm2, hf2⟩ := hS.freezeO 0 rfl; simp only [List.eraseIdx] at hS
      replace hH := hH.mono fun k hk _ => hm2 k hk
      have hz := hz0.mono (S' := R2) fun k hk _ => hk.elim (fun h => hm2 k h) (fun h => hf2 k h)
      rw [List.length_replicate] at hz
      refine q_slice1 rfl (cells_one hz.one) rfl rfl rfl rfl fun wj bj hgj hbj hBj => ?_
      replace hH := hH.ext hBj
      replace hz := hz.ext hBj
      replace hS := hS.famPush 3 rfl hBj (Own.oneCell (x := ⟨_, hz.one⟩) hbj) (fun k hk => by cases hk; exact hgj); simp only [List.set] at hS
      refine q_slice1 rfl rfl rfl rfl rfl rfl fun w7 bl7 hg7 hb7 hB7 => ?_
      replace hH := hH.ext hB7
      replace hz := hz.ext hB7
      replace hS := hS.below hB7
      refine q_append1 (u := (.slice (some ⟨bj, 0, none⟩) 1 1)) rfl rfl rfl rfl (hS.own 2 rfl) rfl hb7 (⟨rfl, rfl⟩) (by omega) (Nat.zero_le _) rfl (fun h => by cases h) fun v48 w8 hw8 hgr8 hnw8 => ?_
      have hk8 := hS.keptOwn 2 rfl hgr8
      replace hH := hH.kept hk8
      replace hz := hz.kept hk8
      replace hS := hS.setOwn 2 rfl hw8 hgr8 hnw8; simp only [List.set] at hS
      refine q_nilCheck rfl rfl ?_
      refine q_field rfl rfl ?_
      refine q_field rfl rfl ?_
      refine q_store rfl rfl (hS.blk 6 rfl) (Nat.le_of_ble_eq_true rfl) (hS.own 2 rfl).one rfl rfl fun w9 hb9 hO9 => ?_
      have hk9 := hS.keptBlk 6 rfl hO9
      replace hH := hH.kept hk9
      replace hz := hz.kept hk9
      replace hS := hS.setBlk 6 rfl hb9 hO9; simp only [List.set] at hS
      refine eseq_nil ?_
      refine hK _ _ ?_; clear hK
      refine e_seq fun K hK => ?_
      refine e_region_text rfl ?_
      refine q_move rfl rfl ?_
      refine q_move rfl rfl ?_
      refine q_nilCheck rfl rfl ?_
      refine q_field rfl rfl ?_
      refine q_field rfl rfl ?_
      refine q_load rfl (Blk.cell (hS.blk 6 rfl) rfl) rfl ?_
      refine q_slice1 rfl rfl rfl rfl rfl rfl fun wl bl hgl hbl hBl => ?_
      replace hH := hH.ext hBl
      replace hz := hz.ext hBl
      replace hS := hS.famPush 5 rfl hBl (Own.oneBool hbl) (fun k hk => by cases hk; exact hgl); simp only [List.set, ← List.replicate_succ'] at hS
      refine q_slice1 rfl rfl rfl rfl rfl rfl fun w10 bl10 hg10 hb10 hB10 => ?_
      replace hH := hH.ext hB10
      replace hz := hz.ext hB10
      replace hS := hS.below hB10
      refine q_append1 (u := (.slice (some ⟨bl, 0, none⟩) 1 1)) rfl rfl rfl rfl (hS.own 4 rfl) rfl hb10 (⟨rfl, rfl⟩) (by omega) (Nat.zero_le _) rfl (fun h => by cases h) fun v60 w11 hw11 hgr11 hnw11 => ?_
      have hk11 := hS.keptOwn 4 rfl hgr11
      replace hH := hH.kept hk11
      replace hz := hz.kept hk11
      replace hS := hS.setOwn 4 rfl hw11 hgr11 hnw11; simp only [List.set] at hS
      refine q_nilCheck rfl rfl ?_
      refine q_field rfl rfl ?_
      refine q_field rfl rfl ?_
      refine q_store rfl rfl (hS.blk 6 rfl) (Nat.le_of_ble_eq_true rfl) (hS.own 4 rfl).one rfl rfl fun w12 hb12 hO12 => ?_
      have hk12 := hS.keptBlk 6 rfl hO12
      replace hH := hH.kept hk12
      replace hz := hz.kept hk12
      replace hS := hS.setBlk 6 rfl hb12 hO12; simp only [List.set] at hS
      refine eseq_nil ?_
      refine hK _ _ ?_; clear hK
      refine e_seq fun K hK => ?_
      refine e_region_draw mixed (fun _ => False) [0, 1, 3, 7, 0, 0, 32, 127, 255, 511] [6] [0, 1, 2, 3, 4, 5, 6, 7, 8, 9] (by kernel_rfl) ?_
      refine q_move rfl rfl ?_
      refine q_nilCheck rfl rfl ?_
      refine q_field rfl rfl ?_
      refine q_load rfl (Blk.cell (hS.blk 6 rfl) rfl) rfl ?_
      refine q_move rfl rfl ?_
      refine q_move rfl rfl ?_
      refine q_make (z := [.int .i64 0]) (sz := 1) (n := n) rfl rfl rfl rfl (by omega) rfl fun w13 bl13 hg13 hb13 hB13 => ?_
      rw [replicate_ints] at hb13
      replace hH := hH.ext hB13
      replace hz := hz.ext hB13
      replace hS := hS.newBlk hB13 hg13 hb13
      first | refine q_indexn rfl rfl (by omega) rfl ?_ | refine q_index rfl rfl ⟨by omega, by omega⟩ rfl ?_
      refine q_field rfl rfl ?_
      refine q_storeOwn rfl rfl (hS.own 9 rfl) (by first | omega | (simp; omega)) rfl rfl rfl (fun _ h => h.elim) ({ nth ac k with vec := ⟨.slice (some ⟨bl13, 0, none⟩) n n, rfl⟩ }) rfl fun w14 hw14 hO14 => ?_
      have hk14 := hS.keptOwnO 9 rfl hO14
      replace hH := hH.kept hk14
      replace hz := hz.kept hk14
      replace hS := hS.putOwn 9 rfl hw14 hO14; simp only [List.set] at hS
      refine eseq_nil ?_
      refine hK _ _ ?_; clear hK
      refine e_region_text rfl ?_
      refine q_move rfl rfl ?_
      refine q_nilCheck rfl rfl ?_
      refine q_field rfl rfl ?_
      refine q_load rfl (Blk.cell (hS.blk 7 rfl) rfl) rfl ?_
      refine q_move rfl rfl ?_
      first | refine q_indexn rfl rfl (by omega) rfl ?_ | refine q_index rfl rfl ⟨by omega, by omega⟩ rfl ?_
      refine q_field rfl rfl ?_
      refine q_load rfl (Own.cellAt (hS.own 9 rfl) _ 0 (by first | omega | (simp; omega)) rfl) rfl ?_
      have e1 : nth (ac.set k { nth ac k with vec := ⟨.slice (some ⟨bl13, 0, none⟩) n n, rfl⟩ }) k = { nth ac k with vec := ⟨.slice (some ⟨bl13, 0, none⟩) n n, rfl⟩ } := by rw [nth_setC (by omega), if_pos rfl]
      rw [e1]
      refine q_move rfl rfl ?_
      first | refine q_indexn rfl rfl (by omega) rfl ?_ | refine q_index rfl rfl ⟨by omega, by omega⟩ rfl ?_
      refine q_storeIx rfl rfl (hS.blk 0 rfl) (by first | omega | (simp; omega)) rfl fun w15 hb15 hO15 => ?_
      have hk15 := hS.keptBlk 0 rfl hO15
      replace hH := hH.kept hk15
      replace hz := hz.kept hk15
      replace hS := hS.setBlk 0 rfl hb15 hO15; simp only [List.set] at hS
      refine eseq_nil ?_
      refine hK _ _ ?_; clear hK
      refine e_region_text rfl ?_
      refine q_add rfl rfl (wr64 (by omega) (by omega)) rfl ?_
      refine q_move rfl rfl ?_
      refine eseq_nil ?_
      have hu0 := hS.jsl 0 rfl
      obtain ⟨R3, hS, hm3, hf3⟩ := hS.freezeO 0 rfl; simp only [List.eraseIdx] at hS
      replace hH := hH.mono fun k hk _ => hm3 k hk
      replace hz := hz.mono (S' := R3) fun k hk _ => hm3 k hk
      have hu := hu0.mono (S' := R3) fun k hk _ => hk.elim (fun h => hm3 k h) (fun h => hf3 k h)
      rw [List.length_set, List.length_replicate] at hu
      exact ⟨_, _, by omega, ⟨k + 1, R3, _, _, _, _, _, _, _, _, by omega, hS, hH.next (u := ⟨_, rfl⟩) (z := ⟨_, rfl⟩) hlt hz hu, rfl, rfl⟩, Sub.cons rfl (Sub.cons rfl (Sub.cons rfl (Sub.cons rfl (Sub.nil _))))⟩
    · skip
      have hge : k = n := by simp at hc; omega
      subst hge
      refine e_exit ?_
      clear hK
      refine hK _ _ ?_; clear hK
      refine e_seq fun K hK => ?_
      refine e_region_text rfl ?_
      refine q_move rfl rfl ?_
      refine q_assign rfl rfl ?_
      refine eseq_nil ?_
      refine hK _ _ ?_; clear hK
      refine e_ret ?_
      obtain ⟨gC, capC, jC, rfl, hcC, hS1⟩ := hS.rawBlk 0 rfl (by omega)
      obtain ⟨gV, capV, jV, rfl, hcV, hS2⟩ := hS1.rawBlk 2 rfl (by omega)
      obtain ⟨gF, capF, jF, rfl, hcF, hS3⟩ := hS2.rawBlk 4 rfl (by omega)
      have hS4 := (hS3.nilOwn0 arcTy 107).nilOwn0 noteTy 150
      rw [l1, l2, l3, l4] at hS4
      simp only [List.set] at hS4
      have hS5 := hS4.order [8, 9, 2, 3, 1, 4, 5, 6, 7, 10, 0] 11 rfl (by decide)
      simp only [List.map_cons, List.map_nil, List.getD_cons_zero, List.getD_cons_succ] at hS5
      refine ⟨_, res1 rfl rfl, R1, ⟨B, _, gC, gV, gF, gP, capC, capV, capF, vsC, vsV, vsF, jC, jV, jF, .slice none 0 0, .slice none 0 0, vc, ac, []⟩, rfl, hS5, ?_⟩
      refine ⟨⟨by simp only; omega, by simp only; omega, by simp only; omega⟩, hH.vlen, fun q hq => ?_, hH.alen, fun q hq => ?_, fun q hq => ?_, fun q hq => ?_, rfl, fun i hi => absurd hi (Nat.not_lt_zero _), fun i hi => absurd hi (Nat.not_lt_zero _)⟩
      · simp only [C26.start]; rw [nth_rep hq]; exact hH.vecs q hq
      · have e : nth (C26.start k).now q = unitV k q := by
          show nth ((List.range k).map (unitV k)) q = _
          rw [nth_eq (by simpa using hq)]; simp
        rw [e]; exact hH.vec q hq
      · simp only [C26.start]; rw [nth_rep hq]; exact hH.sent q hq
      · simp only [C26.start]; rw [nth_rep hq]; exact hH.act q hq
  · intro key
    refine a_two rfl 0 2 (by kernel_rfl) rfl rfl ?_ ?_
    · refine q_move rfl rfl ?_; refine eseq_nil ?_
      refine a_two rfl 1 2 (by kernel_rfl) rfl rfl ?_ ?_
      · refine q_make (z := [.slice none 0 0, .bool false, .bool false]) (sz := 3) (n := n) rfl rfl rfl rfl (by omega) rfl fun wm gP hgm hbm hBm => ?_; replace hS := hS.newOwn hBm (Own.zeroActors hbm (by omega)) (fun k hk => by cases hk; exact hgm); refine eseq_nil ?_
        refine a_one rfl 2 (by kernel_rfl) rfl ?_; refine q_move rfl rfl ?_; refine eseq_nil ?_
        refine a_one rfl 3 (by kernel_rfl) rfl ?_; refine q_call rfl (selected26 rule) rfl ?_; rintro _ wc ⟨rfl, hBc⟩; refine ⟨(fun h => by cases h), ?_⟩; replace hS := hS.below hBc; refine eseq_nil ?_
        exact key _ _ ⟨gP, hS, Sub.cons rfl (Sub.cons rfl (Sub.cons rfl (Sub.nil _)))⟩
      · refine q_move rfl rfl ?_; refine eseq_nil ?_
        refine a_two rfl 1 3 (by kernel_rfl) rfl rfl ?_ ?_
        · refine q_make (z := [.slice none 0 0, .bool false, .bool false]) (sz := 3) (n := n) rfl rfl rfl rfl (by omega) rfl fun wm gP hgm hbm hBm => ?_; replace hS := hS.newOwn hBm (Own.zeroActors hbm (by omega)) (fun k hk => by cases hk; exact hgm); refine eseq_nil ?_
          refine a_one rfl 3 (by kernel_rfl) rfl ?_; refine q_call rfl (selected26 rule) rfl ?_; rintro _ wc ⟨rfl, hBc⟩; refine ⟨(fun h => by cases h), ?_⟩; replace hS := hS.below hBc; refine eseq_nil ?_
          exact key _ _ ⟨gP, hS, Sub.cons rfl (Sub.cons rfl (Sub.cons rfl (Sub.nil _)))⟩
        · refine q_call rfl (selected26 rule) rfl ?_; rintro _ wc ⟨rfl, hBc⟩; refine ⟨(fun h => by cases h), ?_⟩; replace hS := hS.below hBc; refine eseq_nil ?_
          refine a_one rfl 1 (by kernel_rfl) rfl ?_; refine q_make (z := [.slice none 0 0, .bool false, .bool false]) (sz := 3) (n := n) rfl rfl rfl rfl (by omega) rfl fun wm gP hgm hbm hBm => ?_; replace hS := hS.newOwn hBm (Own.zeroActors hbm (by omega)) (fun k hk => by cases hk; exact hgm); refine eseq_nil ?_
          exact key _ _ ⟨gP, hS, Sub.cons rfl (Sub.cons rfl (Sub.cons rfl (Sub.nil _)))⟩
    · refine q_move rfl rfl ?_; refine eseq_nil ?_
      refine a_two rfl 0 3 (by kernel_rfl) rfl rfl ?_ ?_
      · refine q_move rfl rfl ?_; refine eseq_nil ?_
        refine a_two rfl 1 3 (by kernel_rfl) rfl rfl ?_ ?_
        · refine q_make (z := [.slice none 0 0, .bool false, .bool false]) (sz := 3) (n := n) rfl rfl rfl rfl (by omega) rfl fun wm gP hgm hbm hBm => ?_; replace hS := hS.newOwn hBm (Own.zeroActors hbm (by omega)) (fun k hk => by cases hk; exact hgm); refine eseq_nil ?_
          refine a_one rfl 3 (by kernel_rfl) rfl ?_; refine q_call rfl (selected26 rule) rfl ?_; rintro _ wc ⟨rfl, hBc⟩; refine ⟨(fun h => by cases h), ?_⟩; replace hS := hS.below hBc; refine eseq_nil ?_
          exact key _ _ ⟨gP, hS, Sub.cons rfl (Sub.cons rfl (Sub.cons rfl (Sub.nil _)))⟩
        · refine q_call rfl (selected26 rule) rfl ?_; rintro _ wc ⟨rfl, hBc⟩; refine ⟨(fun h => by cases h), ?_⟩; replace hS := hS.below hBc; refine eseq_nil ?_
          refine a_one rfl 1 (by kernel_rfl) rfl ?_; refine q_make (z := [.slice none 0 0, .bool false, .bool false]) (sz := 3) (n := n) rfl rfl rfl rfl (by omega) rfl fun wm gP hgm hbm hBm => ?_; replace hS := hS.newOwn hBm (Own.zeroActors hbm (by omega)) (fun k hk => by cases hk; exact hgm); refine eseq_nil ?_
          exact key _ _ ⟨gP, hS, Sub.cons rfl (Sub.cons rfl (Sub.cons rfl (Sub.nil _)))⟩
      · refine q_call rfl (selected26 rule) rfl ?_; rintro _ wc ⟨rfl, hBc⟩; refine ⟨(fun h => by cases h), ?_⟩; replace hS := hS.below hBc; refine eseq_nil ?_
        refine a_one rfl 0 (by kernel_rfl) rfl ?_; refine q_move rfl rfl ?_; refine eseq_nil ?_
        refine a_one rfl 1 (by kernel_rfl) rfl ?_; refine q_make (z := [.slice none 0 0, .bool false, .bool false]) (sz := 3) (n := n) rfl rfl rfl rfl (by omega) rfl fun wm gP hgm hbm hBm => ?_; replace hS := hS.newOwn hBm (Own.zeroActors hbm (by omega)) (fun k hk => by cases hk; exact hgm); refine eseq_nil ?_
        exact key _ _ ⟨gP, hS, Sub.cons rfl (Sub.cons rfl (Sub.cons rfl (Sub.nil _)))⟩
end Go.Proofs.Ytbmjcbhappjnaaa
