/- The beginning of the indexed computation. -/
import Derived.Test.YtdpleaifhdlciaaW25e
import Derived.Test.YtdpleaifhdlciaaDeeds
set_option linter.unusedSimpArgs false
namespace Go.Mine
open Go.RowKit

/-- rows that may still be none -/
def RawAt {α : Type} (T : Ty α) (w : World) (own : Nat → Nat) (t : Nat) (eo e : TypeId) (v : Value) (xss : List (List α)) : Prop :=
  ∃ vs, OwnAt Ty.raw w own t eo v vs ∧ vs.length = xss.length ∧ ∀ i u xs, vs[i]? = some u → xss[i]? = some xs → OwnAt T w own (t + 1 + i) e u xs
section
variable {α : Type} {T : Ty α} {w w' wi wa w1 w2 : World} {own own' : Nat → Nat} {t B : Nat} {tt : Nat → Prop} {e eo : TypeId} {v v' ui : Value} {xss : List (List α)} {x : List α} {vs : List Value}
theorem RawAt.nil : RawAt T w own t eo e (.slice none 0 0) [] := ⟨[], ⟨Own.nil _ _ _ _ _, fun k hk => by cases hk⟩, rfl, fun i u xs h => by simp at h⟩
theorem RawAt.step (h : RawAt T w own t eo e v xss) (hl : Spares own own' w w' tt) (ht : ∀ i, i ≤ xss.length → tt (t + i)) : RawAt T w' own' t eo e v xss := by
  obtain ⟨vs, h1, h2, h3⟩ := h
  refine ⟨vs, h1.step hl (ht 0 (by omega)), h2, fun i u xs hi hx => (h3 i u xs hi hx).step hl ?_⟩
  have : i < xss.length := (List.getElem?_eq_some_iff.1 hx).1
  have := ht (1 + i) (by omega)
  rwa [show t + (1 + i) = t + 1 + i from by omega] at this
theorem RawAt.rows (h : RawAt T w own t eo e v xss) (hne : 0 < xss.length) : RowsAt T w own t eo e v xss := by
  obtain ⟨vs, h1, h2, h3⟩ := h
  obtain ⟨cells, hl, ⟨hlen, hrow⟩, hR⟩ := h1.1.row
  have hf := flat_raw cells vs hl fun i c x hc hx => (hR i c x hc hx).1
  rcases hrow with ⟨rfl, h0⟩ | ⟨g, cap, cur, rfl, _, h4, h5, h6, h7, h8⟩
  · omega
  · refine ⟨g, cap, vs, cur.toList.drop vs.length, by rw [h2], by omega, h1.2 g rfl, ?_, h2, h3⟩
    rw [hf] at h8
    have : vs ++ cur.toList.drop vs.length = cur.toList := by
      have h9 : cur.toList.take vs.length = vs := by simpa [Ty.raw] using h8
      calc vs ++ cur.toList.drop vs.length = cur.toList.take vs.length ++ cur.toList.drop vs.length := by rw [h9]
        _ = _ := List.take_append_drop _ _
    unfold Blk; rw [this]; simpa using h4
theorem RawAt.append (h : OwnAt Ty.raw w own t eo v vs) (hl : vs.length = xss.length) (hr : ∀ i u xs, vs[i]? = some u → xss[i]? = some xs → OwnAt T w own (t + 1 + i) e u xs)
    (hui : Own T wi 0 (fun _ => False) e ui x) (hun : ∀ k, ui.ownBlock = some k → w.heap.size ≤ k) (hBi : Below w.heap.size w wi) (hBa : Below wi.heap.size wi wa) (hg1 : wa.grownBy w1 v.ownBlock) (hown : Own Ty.raw w1 0 (fun _ => False) eo v' (vs ++ [ui]))
    (hnew : ∀ k, v'.ownBlock = some k → v.ownBlock = some k ∨ wa.heap.size ≤ k) (hO : Only w1 w2 B) (hB : own B = 1) (hBw : B < w.heap.size) (ht : 100 ≤ t) :
    RawAt T w2 (retag (retag own w.heap.size wi.heap.size (t + 1 + xss.length)) wi.heap.size w1.heap.size t) t eo e v' (xss ++ [x]) ∧
      Spares own (retag (retag own w.heap.size wi.heap.size (t + 1 + xss.length)) wi.heap.size w1.heap.size t) w w2 (fun y => y ≠ t ∧ y ≠ 1) := by
  have hs1 := hBi.size
  have S1 : Spares own (retag own w.heap.size wi.heap.size (t + 1 + xss.length)) w wi (fun _ => True) := ⟨hBi.size, fun k hk => retag_old hk, fun k hk _ => hBi.block k hk⟩
  have hu : OwnAt T wi (retag own w.heap.size wi.heap.size (t + 1 + xss.length)) (t + 1 + xss.length) e ui x := ⟨hui, fun k hk => by
    have h1 := hun k hk; have h2 := (hui.lt k hk).2
    simp [retag, h2, show ¬ k < w.heap.size from by omega]⟩
  obtain ⟨ha, S2⟩ := (h.step S1 trivial).append hBa hg1 hown hnew
  have hBo : retag (retag own w.heap.size wi.heap.size (t + 1 + xss.length)) wi.heap.size w1.heap.size t B = 1 := by rw [retag_old (by omega), retag_old hBw]; exact hB
  have S3 : Spares (retag (retag own w.heap.size wi.heap.size (t + 1 + xss.length)) wi.heap.size w1.heap.size t) (retag (retag own w.heap.size wi.heap.size (t + 1 + xss.length)) wi.heap.size w1.heap.size t) w1 w2 (fun y => y ≠ 1) :=
    ⟨hO.size, fun _ _ => rfl, fun k hk hy => hO.block k hk (by rintro rfl; exact hy hBo)⟩
  have hs2 := S2.size
  refine ⟨⟨vs ++ [ui], ha.step S3 (by omega), by simp [hl], fun i u xs hi hx => ?_⟩, ⟨Nat.le_trans S1.size (Nat.le_trans S2.size S3.size), fun k hk => by rw [retag_old (by omega), retag_old hk], fun k hk hy => ?_⟩⟩
  · rcases Nat.lt_or_ge i xss.length with hlt | hge
    · rw [List.getElem?_append_left (by omega)] at hi hx
      exact (((hr i u xs hi hx).step S1 trivial).step S2 (by omega)).step S3 (by omega)
    · have hi2 : i = xss.length := by have := (List.getElem?_eq_some_iff.1 hx).1; simp at this; omega
      subst hi2
      rw [List.getElem?_append_right (by omega), ← hl] at hi
      simp at hi hx
      subst hi; subst hx
      exact (hu.step S2 (by omega)).step S3 (by omega)
  · have e1 : k < wi.heap.size := by omega
    rw [S3.block k (by omega) (by rw [retag_old e1, retag_old hk]; exact hy.2), S2.block k e1 (by rw [retag_old hk]; exact hy.1), hBi.block k hk]
theorem RawAt.grow {lo : Nat} (h : OwnAt Ty.raw w own t eo v vs) (hl : vs.length = xss.length) (hr : ∀ i u xs, vs[i]? = some u → xss[i]? = some xs → OwnAt T w own (t + 1 + i) e u xs)
    (hui : Own T wi 0 (fun _ => False) e ui x) (hun : ∀ k, ui.ownBlock = some k → w.heap.size ≤ k) (hBi : Below w.heap.size w wi) (hBa : Below wi.heap.size wi wa) (hg1 : wa.grownBy w1 v.ownBlock) (hown : Own Ty.raw w1 0 (fun _ => False) eo v' (vs ++ [ui]))
    (hnew : ∀ k, v'.ownBlock = some k → v.ownBlock = some k ∨ wa.heap.size ≤ k) (hO : Only w1 w2 B) (hB : own B = 1) (hBw : B < w.heap.size) (ht : 100 ≤ t) (hlow : ∀ k, own k ≠ 0 → lo ≤ k ∧ k < w.heap.size) :
    ∃ own2, RawAt T w2 own2 t eo e v' (xss ++ [x]) ∧ Spares own own2 w w2 (fun y => y ≠ t ∧ y ≠ 1) ∧ own2 B = 1 ∧ (∀ k, own2 k ≠ 0 → lo ≤ k ∧ k < w2.heap.size) ∧ Below lo w w2 := by
  obtain ⟨h1, h2⟩ := RawAt.append h hl hr hui hun hBi hBa hg1 hown hnew hO hB hBw ht
  have s1 := hBi.size; have s2 := hBa.size; have s3 := hg1.size; have s4 := hO.size
  have hlB := hlow B (by omega)
  refine ⟨_, h1, h2, by rw [retag_old (by omega), retag_old hBw]; exact hB, fun k hk => ?_, ?_⟩
  · unfold retag at hk
    split at hk
    · split at hk
      · have := hlow k hk; omega
      · omega
    · split at hk
      · omega
      · exact absurd rfl hk
  · refine ((hBi.mono (by omega)).trans (hBa.mono (by omega))).trans (Below.trans (Below.grown (Below.refl lo wa) hg1 (by omega) fun k hk => (hlow k (by have := h.2 k hk; omega)).1) ?_)
    exact Below.onlyB (Below.refl lo w1) hO (by omega) hlB.1
end
/-- a computation whose rows are still being laid -/
structure HalfAt (w : World) (B lo : Nat) (own : Nat → Nat) (T0 : TypeId) (ls ns : List Int) (cs ks : List (List Int)) (fs : List (List Bool)) (vL vC vK vF vT : Value) : Prop where
  blk : Blk w B [vL, vC, .slice none 0 0, vK, .slice none 0 0, vF, vT, .slice none 0 0] T0
  tag : own B = 1
  low : ∀ k, own k ≠ 0 → lo ≤ k ∧ k < w.heap.size
  lens : IntsAt w own 2 3 vL ls
  now : IntsAt w own 4 3 vT ns
  ckpts : RawAt Ty.int w own 100 28 3 vC cs
  clocks : RawAt Ty.int w own 200 28 3 vK ks
  forced : RawAt Ty.bool w own 300 43 4 vF fs
  few : cs.length ≤ 50 ∧ ks.length ≤ 50 ∧ fs.length ≤ 50
end Go.Mine
namespace Go.Proofs.Ytdpleaifhdlciaa
open Go.RowKit Go.Mine
attribute [local irreducible] eseq ewp
variable {w : World} {B lo : Nat} {own : Nat → Nat} {T0 : TypeId} {c : Comp} {vL vC vA vK vF vT vG : Value}

theorem begin25 (n : Nat) (h1 : 1 ≤ n) (h50 : n ≤ 50) : Gives Try.prog 32 [.int .i64 n] w fun v w' => ∃ B own vL vC vA vK vF vT vG, v = .pointer (some ⟨B, 0, none⟩) ∧ CompAt w' B w.heap.size own 71 94 (Comp.start n) vL vC vA vK vF vT vG ∧ Below w.heap.size w w' := by
  refine fn_of Try.func32 rfl Try.ntmps32 (Nat.le_of_ble_eq_true rfl) ?_
  have hT := Below.refl w.heap.size w
  refine e_seq fun K hK => ?_
  refine e_region_text rfl ?_
  refine q_assign rfl rfl ?_
  refine eseq_nil ?_
  refine hK _ _ ?_; clear hK
  refine e_seq fun K hK => ?_
  refine e_region_text rfl ?_
  refine q_move rfl rfl ?_
  refine q_make (z := [.int .i64 0]) (sz := 1) (n := n) rfl rfl rfl rfl (by omega) rfl fun wq gN hgN0 hgN hBN => ?_
  have hzN := Nat.le_trans hT.size hgN0
  replace hT := hT.trans (Below.mono hBN hT.size)
  refine q_build (Parts.cons rfl rfl Parts.nil) rfl rfl ?_
  refine q_boxB rfl rfl rfl fun w1 bl1 hg1 hb1 hB1 => ?_
  have hz1hT := Nat.le_trans hT.size hg1
  replace hT := hT.trans (Below.mono hB1 hT.size)
  refine q_assign rfl rfl ?_
  refine eseq_nil ?_
  refine hK _ _ ?_; clear hK
  refine e_seq fun K hK => ?_
  refine e_region_text rfl ?_
  refine q_move rfl rfl ?_
  refine q_move rfl rfl ?_
  have hbb1 := hb1
  replace hb1 : Blk w1 bl1 [.slice none 0 0, .slice none 0 0, .slice none 0 0, .slice none 0 0, .slice none 0 0, .slice none 0 0, .slice (some ⟨gN, 0, none⟩) n n, .slice none 0 0] 71 := hb1
  refine q_make (z := [.int .i64 0]) (sz := 1) (n := n) rfl rfl rfl rfl (by omega) rfl fun wr gL hgL0 hgL hBL => ?_
  have hzL := Nat.le_trans hT.size hgL0
  replace hb1 := hb1.ext hBL
  replace hT := hT.trans (Below.mono hBL hT.size)
  refine q_nilCheck rfl rfl ?_
  refine q_field rfl rfl ?_
  refine q_field rfl rfl ?_
  refine q_field rfl rfl ?_
  refine q_store rfl rfl hb1 (Nat.le_of_ble_eq_true rfl) rfl rfl rfl fun w2 hb2 hO2 => ?_
  simp only [List.set] at hb2
  replace hT := Below.onlyB hT hO2 hb1.lt (by omega)
  refine eseq_nil ?_
  refine hK _ _ ?_; clear hK
  refine e_seq fun K hK => ?_
  refine e_seq fun K hK => ?_
  refine e_region_text rfl ?_
  refine q_move rfl rfl ?_
  refine q_move rfl rfl ?_
  refine eseq_nil ?_
  refine hK _ _ ?_; clear hK
  refine e_block ?_
  have h0 : HalfAt w2 bl1 w.heap.size (fun k => if k = bl1 then 1 else if k = gL then 2 else if k = gN then 4 else 0) 71 (List.replicate n 0) (List.replicate n 0) [] [] [] (.slice (some ⟨gL, 0, none⟩) n n) (.slice none 0 0) (.slice none 0 0) (.slice none 0 0) (.slice (some ⟨gN, 0, none⟩) n n) := by
    have e1 := hgN.lt; have e2 := hgL.lt; have e3 := hb1.lt; have e4 := hB1.size; have e5 := hBL.size; have e6 := hO2.size
    have e7 : gN ≠ bl1 := by omega
    have e8 : gL ≠ bl1 := by have := hbb1.lt; omega
    have e9 : gN ≠ gL := by omega
    refine ⟨hb2, by simp, fun k hk => ?_, ⟨gL, by simp, by simp [e8], ?_⟩, ⟨gN, by simp, by simp [e7, e9], ?_⟩, RawAt.nil, RawAt.nil, RawAt.nil, by simp⟩
    · split at hk
      · omega
      · split at hk
        · omega
        · split at hk
          · omega
          · exact absurd rfl hk
    · rw [← replicate_ints]; exact hgL.only hO2 e8
    · rw [← replicate_ints]; exact (((hgN.ext hB1).ext hBL).only hO2 e7)
  refine e_loop (fun m E wx => ∃ (k : Nat) (own : Nat → Nat) (vL vC vK vF vT : Value), k ≤ n ∧ HalfAt wx bl1 w.heap.size own 71 (List.replicate n 0) (List.replicate n 0) (List.replicate k [0]) (List.replicate k [0]) (List.replicate k [false]) vL vC vK vF vT ∧
    m = n - k ∧ Below w.heap.size w wx ∧ E = [(3, .pointer (some ⟨bl1, 0, none⟩)), (15, .int .i64 n), (16, .int .i64 k)]) n ⟨_, ⟨0, _, _, _, _, _, _, by omega, h0, by omega, hT, rfl⟩, Sub.cons rfl (Sub.cons rfl (Sub.cons rfl (Sub.nil _)))⟩ ?_
  rintro m E wl ⟨k, own, vL, vC, vK, vF, vT, hk, hh, rfl, hTl, rfl⟩
  have hbb := hh.blk
  refine e_seq fun K hK => ?_
  refine e_region_text rfl ?_
  refine q_lss rfl rfl rfl ?_
  refine eseq_nil ?_
  refine hK _ _ ?_; clear hK
  refine e_seq fun K hK => ?_
  refine e_cond rfl (fun hif => ?_) (fun hif => ?_)
  · skip
    have hlt : k < n := by simpa using hif
    refine e_skip ?_
    refine hK _ _ ?_; clear hK
    refine e_seq fun K hK => ?_
    refine e_block ?_
    refine e_seq fun K hK => ?_
    refine e_region_text rfl ?_
    refine q_move rfl rfl ?_
    refine q_move rfl rfl ?_
    refine q_nilCheck rfl rfl ?_
    refine q_field rfl rfl ?_
    refine q_field rfl rfl ?_
    refine q_field rfl rfl ?_
    refine q_load rfl (Blk.cell hbb rfl) rfl ?_
    obtain ⟨vs3, ho3, hl3, hr3⟩ := hh.ckpts
    have hvl3 : vs3.length = k := by simpa using hl3
    refine q_slice1 rfl rfl rfl rfl rfl rfl fun wi3 bi3 hgi3 hbi3 hBi3 => ?_
    refine q_slice1 rfl rfl rfl rfl rfl rfl fun wa3 ba3 hga3 hba3 hBa3 => ?_
    refine q_append1 (T := Ty.raw) (u := .slice (some ⟨bi3, 0, none⟩) 1 1) rfl rfl rfl rfl ((ho3.1.ext hBi3).ext hBa3) rfl hba3 ⟨rfl, rfl⟩ (by omega) (Nat.zero_le _) rfl (fun h => by cases h) fun u3 wb3 hown3 hgr3 hnw3 => ?_
    have hbB3 := ((hbb.ext hBi3).ext hBa3).grown hgr3 (fun e => by have e1 := ho3.2 bl1 e.symm; have e2 := hh.tag; omega)
    refine q_nilCheck rfl rfl ?_
    refine q_field rfl rfl ?_
    refine q_field rfl rfl ?_
    refine q_field rfl rfl ?_
    refine q_store rfl rfl hbB3 (Nat.le_of_ble_eq_true rfl) hown3.one rfl rfl fun w3 hb3 hO3 => ?_
    simp only [List.set] at hb3
    obtain ⟨own3, hR3, hS3, ht3, hlo3, hT3⟩ := RawAt.grow ho3 hl3 hr3 (Own.oneInt hbi3) (fun k hk => by cases hk; exact hgi3) hBi3 hBa3 hgr3 hown3 hnw3.blk hO3 hh.tag hh.blk.lt (by omega) hh.low
    rw [← List.replicate_succ'] at hR3
    have h3n := HalfAt.mk hb3 ht3 hlo3 (hh.lens.step hS3 (by omega)) (hh.now.step hS3 (by omega)) hR3 (hh.clocks.step hS3 (by intro i hi; simp at hi; omega)) (hh.forced.step hS3 (by intro i hi; simp at hi; omega)) (by simp; omega)
    have hbb3 := h3n.blk
    refine eseq_nil ?_
    refine hK _ _ ?_; clear hK
    refine e_seq fun K hK => ?_
    refine e_region_text rfl ?_
    refine q_move rfl rfl ?_
    refine q_move rfl rfl ?_
    refine q_nilCheck rfl rfl ?_
    refine q_field rfl rfl ?_
    refine q_field rfl rfl ?_
    refine q_load rfl (Blk.cell hbb3 rfl) rfl ?_
    obtain ⟨vs4, ho4, hl4, hr4⟩ := h3n.clocks
    have hvl4 : vs4.length = k := by simpa using hl4
    refine q_slice1 rfl rfl rfl rfl rfl rfl fun wi4 bi4 hgi4 hbi4 hBi4 => ?_
    refine q_slice1 rfl rfl rfl rfl rfl rfl fun wa4 ba4 hga4 hba4 hBa4 => ?_
    refine q_append1 (T := Ty.raw) (u := .slice (some ⟨bi4, 0, none⟩) 1 1) rfl rfl rfl rfl ((ho4.1.ext hBi4).ext hBa4) rfl hba4 ⟨rfl, rfl⟩ (by omega) (Nat.zero_le _) rfl (fun h => by cases h) fun u4 wb4 hown4 hgr4 hnw4 => ?_
    have hbB4 := ((hbb3.ext hBi4).ext hBa4).grown hgr4 (fun e => by have e1 := ho4.2 bl1 e.symm; have e2 := h3n.tag; omega)
    refine q_nilCheck rfl rfl ?_
    refine q_field rfl rfl ?_
    refine q_field rfl rfl ?_
    refine q_store rfl rfl hbB4 (Nat.le_of_ble_eq_true rfl) hown4.one rfl rfl fun w4 hb4 hO4 => ?_
    simp only [List.set] at hb4
    obtain ⟨own4, hR4, hS4, ht4, hlo4, hT4⟩ := RawAt.grow ho4 hl4 hr4 (Own.oneInt hbi4) (fun k hk => by cases hk; exact hgi4) hBi4 hBa4 hgr4 hown4 hnw4.blk hO4 h3n.tag h3n.blk.lt (by omega) h3n.low
    rw [← List.replicate_succ'] at hR4
    have h4n := HalfAt.mk hb4 ht4 hlo4 (h3n.lens.step hS4 (by omega)) (h3n.now.step hS4 (by omega)) (h3n.ckpts.step hS4 (by intro i hi; simp at hi; omega)) hR4 (h3n.forced.step hS4 (by intro i hi; simp at hi; omega)) (by simp; omega)
    have hbb4 := h4n.blk
    refine eseq_nil ?_
    refine hK _ _ ?_; clear hK
    refine e_region_text rfl ?_
    refine q_move rfl rfl ?_
    refine q_move rfl rfl ?_
    refine q_nilCheck rfl rfl ?_
    refine q_field rfl rfl ?_
    refine q_field rfl rfl ?_
    refine q_load rfl (Blk.cell hbb4 rfl) rfl ?_
    obtain ⟨vs5, ho5, hl5, hr5⟩ := h4n.forced
    have hvl5 : vs5.length = k := by simpa using hl5
    refine q_slice1 rfl rfl rfl rfl rfl rfl fun wi5 bi5 hgi5 hbi5 hBi5 => ?_
    refine q_slice1 rfl rfl rfl rfl rfl rfl fun wa5 ba5 hga5 hba5 hBa5 => ?_
    refine q_append1 (T := Ty.raw) (u := .slice (some ⟨bi5, 0, none⟩) 1 1) rfl rfl rfl rfl ((ho5.1.ext hBi5).ext hBa5) rfl hba5 ⟨rfl, rfl⟩ (by omega) (Nat.zero_le _) rfl (fun h => by cases h) fun u5 wb5 hown5 hgr5 hnw5 => ?_
    have hbB5 := ((hbb4.ext hBi5).ext hBa5).grown hgr5 (fun e => by have e1 := ho5.2 bl1 e.symm; have e2 := h4n.tag; omega)
    refine q_nilCheck rfl rfl ?_
    refine q_field rfl rfl ?_
    refine q_field rfl rfl ?_
    refine q_store rfl rfl hbB5 (Nat.le_of_ble_eq_true rfl) hown5.one rfl rfl fun w5 hb5 hO5 => ?_
    simp only [List.set] at hb5
    obtain ⟨own5, hR5, hS5, ht5, hlo5, hT5⟩ := RawAt.grow ho5 hl5 hr5 (Own.oneBool hbi5) (fun k hk => by cases hk; exact hgi5) hBi5 hBa5 hgr5 hown5 hnw5.blk hO5 h4n.tag h4n.blk.lt (by omega) h4n.low
    rw [← List.replicate_succ'] at hR5
    have h5n := HalfAt.mk hb5 ht5 hlo5 (h4n.lens.step hS5 (by omega)) (h4n.now.step hS5 (by omega)) (h4n.ckpts.step hS5 (by intro i hi; simp at hi; omega)) (h4n.clocks.step hS5 (by intro i hi; simp at hi; omega)) hR5 (by simp; omega)
    refine eseq_nil ?_
    refine hK _ _ ?_; clear hK
    refine e_region_text rfl ?_
    refine q_add rfl rfl (wr64 (by omega) (by omega)) rfl ?_
    refine q_move rfl rfl ?_
    refine eseq_nil ?_
    exact ⟨n - (k + 1), _, by omega, ⟨k + 1, own5, _, _, _, _, _, by omega, h5n, rfl, ((hTl.trans hT3).trans hT4).trans hT5, rfl⟩, Sub.cons rfl (Sub.cons rfl (Sub.cons rfl (Sub.nil _)))⟩
  · skip
    have hge : k = n := by simp at hif; omega
    refine e_exit ?_
    clear hK
    refine hK _ _ ?_; clear hK
    refine e_seq fun K hK => ?_
    refine e_region_text rfl ?_
    refine q_move rfl rfl ?_
    refine q_assign rfl rfl ?_
    refine eseq_nil ?_
    refine hK _ _ ?_; clear hK
    refine e_ret ?_
    subst hge
    refine ⟨_, res1 rfl rfl, bl1, own, vL, vC, _, vK, vF, vT, _, rfl, ⟨hbb, hh.tag, hh.low, hh.lens, ⟨Own.nil _ _ _ _ _, fun k hk => by cases hk⟩, hh.now, ⟨Own.nil _ _ _ _ _, fun k hk => by cases hk⟩, hh.ckpts.rows (by simp; omega), hh.clocks.rows (by simp; omega), hh.forced.rows (by simp; omega), hh.few⟩, hTl⟩
end Go.Proofs.Ytdpleaifhdlciaa
