/- Play of the indexed computation. -/
import Derived.Test.YtdpleaifhdlciaaW25f
set_option linter.unusedSimpArgs false
namespace Go.Mine
open Go.RowKit
/-- a result that lies in a variable, and another -/
theorem resC2 {P : Program} {E : Env} {w : World} {fn : Func} {s s' : Nat} {tt : TypeId} {b n : Nat} {vs : List Value} {v' : Value} [T : TAgg P tt n] (h : fn.results = #[.cell s tt, .tmp s']) (hs : Env.find E s = some (.pointer (some ⟨b, 0, none⟩))) (hc : CellsAt w b 0 vs) (hn : vs.length = n) (hs' : Env.find E s' = some v') :
    Res P fn E w (.tuple #[.agg vs.toArray, v']) := fun a N d ha => by
  obtain ⟨de, h1, h2⟩ := T.under
  obtain ⟨inf, h3, h4⟩ := T.size
  have hA := run_isAgg h1 (w.atd d)
  rw [h2] at hA
  have hc' : CellsAt (w.atd d) b (0 + 0) vs := fun j v hj => hc j v hj
  have hl := run_loadCellsFrom (P := P) vs 0 #[] (w.atd d) hc'
  rw [hn, ← h4] at hl
  simp [results, h, ha.slot s _ hs, ha.slot s' _ hs', asAddr, loadVar, hA, run_size h3, loadCells, hl]
/-- a history as a value -/
structure Hist where
  lens : List Int
  ckpts : List (List Int)
  arcs : List Arc
  clocks : List (List Int)
  vecs : List (List (List Int))
  forced : List (List Bool)
deriving DecidableEq
structure HistAt (w : World) (S : Nat → Prop) (vL vC vA vK vV vF : Value) (h : Hist) : Prop where
  lens : IsSlice Ty.int w S vL h.lens
  ckpts : IsSlice Ty.int.slice w S vC h.ckpts
  arcs : IsSlice arcTy w S vA h.arcs
  clocks : IsSlice Ty.int.slice w S vK h.clocks
  vecs : IsSlice Ty.int.slice.slice w S vV h.vecs
  forced : IsSlice Ty.bool.slice w S vF h.forced
theorem HistAt.kept {w w' : World} {S : Nat → Prop} {vL vC vA vK vV vF : Value} {h : Hist} (hh : HistAt w S vL vC vA vK vV vF h) (hk : Kept S w w') : HistAt w' S vL vC vA vK vV vF h :=
  ⟨hh.lens.kept hk, hh.ckpts.kept hk, hh.arcs.kept hk, hh.clocks.kept hk, hh.vecs.kept hk, hh.forced.kept hk⟩
theorem HistAt.mono {w : World} {S S' : Nat → Prop} {vL vC vA vK vV vF : Value} {h : Hist} (hh : HistAt w S vL vC vA vK vV vF h) (hs : ∀ k, S k → S' k) : HistAt w S' vL vC vA vK vV vF h :=
  ⟨hh.lens.mono fun k hk _ => hs k hk, hh.ckpts.mono fun k hk _ => hs k hk, hh.arcs.mono fun k hk _ => hs k hk, hh.clocks.mono fun k hk _ => hs k hk, hh.vecs.mono fun k hk _ => hs k hk, hh.forced.mono fun k hk _ => hs k hk⟩
theorem HistAt.ext {w w' : World} {S : Nat → Prop} {vL vC vA vK vV vF : Value} {h : Hist} (hh : HistAt w S vL vC vA vK vV vF h) (hB : Below w.heap.size w w') : HistAt w' S vL vC vA vK vV vF h := hh.kept (.of_ext hB)
section
variable {α : Type} {T : Ty α} {w : World} {own : Nat → Nat} {t lo : Nat} {e eo : TypeId} {v : Value} {xs : List α} {xss : List (List α)}
theorem OwnAt.isLo (h : OwnAt T w own t e v xs) (hlow : ∀ k, own k ≠ 0 → lo ≤ k) (ht : t ≠ 0) : IsSlice T w (fun k => lo ≤ k) v xs :=
  (Own.raise h.1 fun k hk => hlow k (by rw [h.2 k hk]; exact ht)).isSlice.mono fun k hk _ => hk.elim (fun h => h.elim) id
theorem RowsAt.isLo (h : RowsAt T w own t eo e v xss) (hlow : ∀ k, own k ≠ 0 → lo ≤ k) (ht : t ≠ 0) : IsSlice T.slice w (fun k => lo ≤ k) v xss := by
  obtain ⟨g, cap, vs, junk, rfl, h2, h3, h4, h5, h6⟩ := h
  refine ⟨_, cap, rfl, h2, fun h => (by cases h), fun a ha _ => (by cases ha; rfl), fun i hi => ⟨g, 0, rfl, hlow g (by omega), h4.lt, ?_⟩⟩
  have hv : vs[i]? = some (vs[i]'(by omega)) := by simp [h5, hi]
  refine ⟨[vs[i]'(by omega)], fun j u hj => ?_, _, rfl, (h6 i _ _ hv (by simp)).isLo hlow (by omega)⟩
  cases j with
  | zero =>
    simp at hj; subst hj
    have e1 : ix 0 i (Ty.slice T).sz + 0 = i := by simp [ix, Ty.slice]
    rw [e1]
    exact h4.cell (by rw [List.getElem?_append_left (by omega)]; exact hv)
  | succ j => simp at hj
theorem IntsAt.isLo {xs : List Int} (h : IntsAt w own t e v xs) (hlow : ∀ k, own k ≠ 0 → lo ≤ k) (ht : t ≠ 0) : IsSlice Ty.int w (fun k => lo ≤ k) v xs := by
  obtain ⟨g, rfl, h2, h3⟩ := h
  exact h3.ints (hlow g (by omega)) (Nat.le_refl _)
end
def Comp.hist (c : Comp) : Hist := ⟨c.lens, c.ckpts, c.arcs, c.clocks, [], c.forced⟩
theorem CompAt.hist {w : World} {B lo : Nat} {own : Nat → Nat} {T0 eG : TypeId} {c : Comp} {vL vC vA vK vF vT vG : Value} (h : CompAt w B lo own T0 eG c vL vC vA vK vF vT vG) : HistAt w (fun k => lo ≤ k) vL vC vA vK (.slice none 0 0) vF c.hist :=
  have hl := fun k hk => (h.low k hk).1
  ⟨h.lens.isLo hl (by omega), h.ckpts.isLo hl (by omega), h.arcs.isLo hl (by omega), h.clocks.isLo hl (by omega), .nil _ _ _, h.forced.isLo hl (by omega)⟩
def Hist.none : Hist := ⟨[], [], [], [], [], []⟩
/-- what Play answers -/
def playE (n : Int) (l : List Deed) : Hist × Int := if decide (n < 1) || decide (5 < n) then (.none, 3) else if 200 < l.length then (.none, 4) else ((Comp.run n.toNat l).hist, 0)
end Go.Mine
namespace Go.Proofs.Ytdpleaifhdlciaa
open Go.RowKit Go.Mine
attribute [local irreducible] eseq ewp
variable {w : World} {B lo : Nat} {own : Nat → Nat} {T0 : TypeId} {c : Comp} {vL vC vA vK vF vT vG : Value}

theorem play25 {S : Nat → Prop} {vD : Value} {l : List Deed} (n : Int) (hD : IsSlice deedTy w S vD l) (hll : l.length ≤ 1000000000) :
    Gives Try.prog 14 [.int .i64 n, vD] w fun v w' => ∃ vL vC vA vK vV vF, v = .tuple #[.agg #[vL, vC, vA, vK, vV, vF], .int .i64 (playE n l).2] ∧ HistAt w' (fun k => w.heap.size ≤ k) vL vC vA vK vV vF (playE n l).1 ∧ Below w.heap.size w w' := by
  replace hD := hD.old
  have hD0 := hD
  refine fn_of Try.func14 rfl Try.ntmps14 (Nat.le_of_ble_eq_true rfl) ?_
  have hT := Below.refl w.heap.size w
  refine e_seq fun K hK => ?_
  refine e_region_text rfl ?_
  refine q_allocB rfl fun w1 bl1 hg1 hb1 hB1 => ?_
  have hz1hT := Nat.le_trans hT.size hg1
  replace hD := hD.ext hB1
  replace hT := hT.trans (Below.mono hB1 hT.size)
  refine q_assign rfl rfl ?_
  refine eseq_nil ?_
  refine hK _ _ ?_; clear hK
  refine e_seq fun K hK => ?_
  refine e_seq fun K hK => ?_
  refine e_region_text rfl ?_
  refine q_move rfl rfl ?_
  refine q_lss rfl rfl rfl ?_
  refine q_move rfl rfl ?_
  refine g_or 2 rfl trivial rfl rfl ?_; apply Exists.intro; refine ⟨fun hg => ?_, fun hg => ?_, fun wm2 hBm2 => ?_⟩
  · have hg0 := hg
    refine g_skip rfl rfl rfl ?_
    refine g_skip rfl rfl rfl ?_
    exact eseq_nil ⟨rfl, Sub.set rfl (Sub.set rfl (Sub.bool true rfl hg0))⟩
  · have hg0 := hg
    have hTm2 := Below.refl (World.heap w1).size w1
    try simp at hg
    refine g_run rfl ?_; refine q_move rfl rfl ?_
    refine g_run rfl ?_; refine q_gtr rfl rfl rfl ?_
    exact eseq_nil ⟨hTm2, Sub.set rfl (Sub.set rfl (Sub.bool false rfl hg0)), rfl⟩
  replace hD := hD.ext hBm2
  replace hb1 := hb1.ext hBm2
  replace hT := hT.trans (Below.mono hBm2 hT.size)
  refine eseq_nil ?_
  refine hK _ _ ?_; clear hK
  refine e_cond rfl (fun hc1 => ?_) (fun hc1 => ?_)
  · skip
    refine e_seq fun K hK => ?_
    refine e_region_text rfl ?_
    refine q_build Parts.nil rfl rfl ?_
    refine q_storeAgg rfl rfl hb1 rfl (Nat.le_of_ble_eq_true rfl) (by first | exact all_cons rfl (all_cons rfl (all_cons rfl (all_cons rfl (all_cons rfl (all_cons rfl (all_nil)))))) | (simp [oneV]; done) | simp [oneV, setN]) rfl rfl fun w3 hb3 hO3 => ?_
    simp only [setN, List.set] at hb3
    replace hD := hD.kept (.of_only hO3 (fun k (hk : k < _) => by omega))
    replace hT := Below.onlyB hT hO3 hb1.lt (by omega)
    refine q_assign rfl rfl ?_
    refine eseq_nil ?_
    refine hK _ _ ?_; clear hK
    refine e_ret ?_
    have e1 : playE n l = (.none, 3) := by rw [playE, if_pos hc1]
    rw [e1]
    exact ⟨_, resC2 rfl rfl (hb3.cellsAt 0 6 rfl) rfl rfl, _, _, _, _, _, _, rfl, ⟨.nil _ _ _, .nil _ _ _, .nil _ _ _, .nil _ _ _, .nil _ _ _, .nil _ _ _⟩, hT⟩
  have hn : 1 ≤ n ∧ n ≤ 5 := by simp at hc1; omega
  refine e_skip ?_
  refine hK _ _ ?_; clear hK
  refine e_seq fun K hK => ?_
  refine e_seq fun K hK => ?_
  refine e_region_text rfl ?_
  refine q_move rfl rfl ?_
  refine q_lenS rfl hD rfl ?_
  refine q_gtr rfl rfl rfl ?_
  refine eseq_nil ?_
  refine hK _ _ ?_; clear hK
  refine e_cond rfl (fun hc2 => ?_) (fun hc2 => ?_)
  · skip
    refine e_seq fun K hK => ?_
    refine e_region_text rfl ?_
    refine q_build Parts.nil rfl rfl ?_
    refine q_storeAgg rfl rfl hb1 rfl (Nat.le_of_ble_eq_true rfl) (by first | exact all_cons rfl (all_cons rfl (all_cons rfl (all_cons rfl (all_cons rfl (all_cons rfl (all_nil)))))) | (simp [oneV]; done) | simp [oneV, setN]) rfl rfl fun w4 hb4 hO4 => ?_
    simp only [setN, List.set] at hb4
    replace hD := hD.kept (.of_only hO4 (fun k (hk : k < _) => by omega))
    replace hT := Below.onlyB hT hO4 hb1.lt (by omega)
    refine q_assign rfl rfl ?_
    refine eseq_nil ?_
    refine hK _ _ ?_; clear hK
    refine e_ret ?_
    have e1 : playE n l = (.none, 4) := by rw [playE, if_neg (by rw [hc1]; simp), if_pos (by simp at hc2; omega)]
    rw [e1]
    exact ⟨_, resC2 rfl rfl (hb4.cellsAt 0 6 rfl) rfl rfl, _, _, _, _, _, _, rfl, ⟨.nil _ _ _, .nil _ _ _, .nil _ _ _, .nil _ _ _, .nil _ _ _, .nil _ _ _⟩, hT⟩
  have hl2 : l.length ≤ 200 := by simp at hc2; omega
  obtain ⟨nn, rfl⟩ := Int.eq_ofNat_of_zero_le (show 0 ≤ n by omega)
  have hplay : playE nn l = ((Comp.run nn l).hist, 0) := by rw [playE, if_neg (by rw [hc1]; simp), if_neg (by omega)]; simp
  refine e_skip ?_
  refine hK _ _ ?_; clear hK
  refine e_seq fun K hK => ?_
  refine e_region_text rfl ?_
  refine q_move rfl rfl ?_
  have hb1b := hb1.lt
  have hTm := hT
  refine q_call rfl (begin25 nn (by omega) (by omega)) rfl ?_
  rintro _ wb ⟨B, own, vL, vC, vA, vK, vF, vT, vG, rfl, hc, hTb⟩; refine ⟨(fun h => by cases h), ?_⟩
  have hb10 := hb1
  replace hD := hD.ext hTb
  replace hb1 := hb1.ext hTb
  replace hT := hT.trans (Below.mono hTb hT.size)
  refine q_assign rfl rfl ?_
  refine eseq_nil ?_
  refine hK _ _ ?_; clear hK
  refine e_seq fun K hK => ?_
  refine e_seq fun K hK => ?_
  refine e_region_text rfl ?_
  refine q_move rfl rfl ?_
  refine q_lenS rfl hD rfl ?_
  refine q_move rfl rfl ?_
  refine eseq_nil ?_
  refine hK _ _ ?_; clear hK
  refine e_block ?_
  refine e_loop (fun m E wx => ∃ (k : Nat) (own : Nat → Nat) (vL vC vA vK vF vT vG : Value), k ≤ l.length ∧ CompAt wx B wm2.heap.size own 71 94 (Comp.run nn (l.take k)) vL vC vA vK vF vT vG ∧
    m = l.length - k ∧ Below wm2.heap.size wm2 wx ∧ E = [(4, .pointer (some ⟨bl1, 0, none⟩)), (6, .pointer (some ⟨B, 0, none⟩)), (22, vD), (23, .int .i64 l.length), (24, .int .i64 k)]) l.length ⟨_, ⟨0, own, vL, vC, vA, vK, vF, vT, vG, by omega, hc, by omega, hTb, rfl⟩, Sub.cons rfl (Sub.cons rfl (Sub.cons rfl (Sub.cons rfl (Sub.cons rfl (Sub.nil _)))))⟩ ?_
  clear hc hTb hb1 hT hD own vL vC vA vK vF vT vG
  rintro m E wx ⟨k, own, vL, vC, vA, vK, vF, vT, vG, hk, hc, rfl, hTx, rfl⟩
  have hTw : Below w.heap.size w wx := hTm.trans (hTx.mono hTm.size)
  have hD := hD0.ext hTw
  have hb1 := hb10.ext hTx
  have hbb := hc.blk
  have hxs := hTx.size
  have hws := hTm.size
  have hBlo := (hc.low B (by have := hc.tag; omega))
  refine e_seq fun K hK => ?_
  refine e_region_text rfl ?_
  refine q_lss rfl rfl rfl ?_
  refine eseq_nil ?_
  refine hK _ _ ?_; clear hK
  refine e_seq fun K hK => ?_
  refine e_cond rfl (fun hif => ?_) (fun hif => ?_)
  · skip
    have hlt : k < l.length := by simpa using hif
    refine e_skip ?_
    refine hK _ _ ?_; clear hK
    refine e_seq fun K hK => ?_
    refine e_block ?_
    refine e_seq fun K hK => ?_
    refine e_region_text rfl ?_
    first | refine q_indexSn (by infer_instance) rfl hD rfl (by first | omega | decide) rfl fun b26 o26 f26 => ?_ | refine q_indexS (by infer_instance) rfl hD rfl (by first | omega | decide) (by first | omega | decide) rfl fun b26 o26 f26 => ?_
    refine q_loadAgg rfl (ActL f26) rfl rfl ?_
    refine q_allocB rfl fun w5 bl5 hg5 hb5 hB5 => ?_
    have hz5hTw := Nat.le_trans hTw.size hg5
    replace hbb := hbb.ext hB5
    replace hD := hD.ext hB5
    replace f26 := f26.ext hB5
    replace hTw := hTw.trans (Below.mono hB5 hTw.size)
    refine q_storeAgg rfl rfl hb5 rfl (Nat.le_of_ble_eq_true rfl) (by first | exact all_cons rfl (all_cons rfl (all_cons rfl (all_nil))) | (simp [oneV]; done) | simp [oneV, setN]) rfl rfl fun w6 hb6 hO6 => ?_
    simp only [setN, List.set] at hb6
    replace hbb := hbb.only hO6 (by omega)
    replace hD := hD.kept (.of_only hO6 (fun k (hk : k < _) => by omega))
    replace f26 := f26.kept (.of_only hO6 (fun k (hk : k < _) => by omega))
    replace hTw := Below.onlyB hTw hO6 hb5.lt (by omega)
    refine eseq_nil ?_
    refine hK _ _ ?_; clear hK
    refine e_seq fun K hK => ?_
    refine e_region_text rfl ?_
    refine q_field rfl rfl ?_
    refine q_load rfl (Blk.cell hb6 rfl) rfl ?_
    refine eseq_nil ?_
    refine hK _ _ ?_; clear hK
    refine e_block ?_
    refine e_seq fun K hK => ?_
    refine e_region_text rfl ?_
    refine q_eql rfl rfl rfl ?_
    refine q_assign rfl rfl ?_
    refine eseq_nil ?_
    refine hK _ _ ?_; clear hK
    have hBx : Below wx.heap.size wx w6 := Below.onlyB hB5 hO6 hb5.lt hg5
    have hc6 := CompAt.ext hc hBx
    have hinv : (Comp.run nn (l.take k)).Inv nn (k + 1) k := by
      have := Comp.Inv.run (n := nn) (l := l.take k) (by simp; omega)
      rwa [show (l.take k).length = k from by simp; omega] at this
    have hrun : Comp.run nn (l.take (k + 1)) = (Comp.run nn (l.take k)).deed (nth l k) := by rw [Comp.run, foldl_take hlt, nth_eq hlt]; rfl
    generalize Comp.run nn (l.take k) = c at hc hc6 hinv hrun
    generalize nth l k = a at *
    have hlr : ∀ q, q < nn → 0 ≤ nth c.lens q ∧ nth c.lens q ≤ 1000 := fun q hq => by have := hinv.lens q hq; omega
    have har := hinv.arcs
    have hfl := hinv.fly
    have hx6s := hBx.size
    have hTx6 : Below wm2.heap.size wm2 w6 := hTx.trans (hBx.mono hxs)
    refine e_cond rfl (fun hk1 => ?_) (fun hk1 => ?_)
    · skip
      have hk1 : a.kind = 1 := by simpa using hk1
      refine e_region_text rfl ?_
      refine q_move rfl rfl ?_
      refine q_field rfl rfl ?_
      refine q_load rfl (Blk.cell hb6 rfl) rfl ?_
      refine q_field rfl rfl ?_
      refine q_load rfl (Blk.cell hb6 rfl) rfl ?_
      refine q_call rfl (send25 hc6 hinv.good a.proc a.other hlr (by omega) (by omega)) rfl ?_
      rintro _ wy ⟨rfl, ⟨own2, uL, uC, uA, uK, uF, uT, uG, hcy, hSy⟩, hTy⟩; refine ⟨(fun h => by cases h), ?_⟩
      refine eseq_nil ?_
      refine hK _ _ ?_; clear hK
      refine e_region_text rfl ?_
      refine q_add rfl rfl (wr64 (by omega) (by omega)) rfl ?_
      refine q_move rfl rfl ?_
      refine eseq_nil ?_
      refine ⟨l.length - (k + 1), _, by omega, ⟨k + 1, own2, uL, uC, uA, uK, uF, uT, uG, by omega, ?_, rfl, hTx6.trans hTy, rfl⟩, Sub.cons rfl (Sub.cons rfl (Sub.cons rfl (Sub.cons rfl (Sub.cons rfl (Sub.nil _)))))⟩
      rw [hrun, Comp.deed, if_pos hk1]; exact hcy
    · skip
      have hk1 : ¬ a.kind = 1 := by simpa using hk1
      refine e_seq fun K hK => ?_
      refine e_region_text rfl ?_
      refine q_eql rfl rfl rfl ?_
      refine q_assign rfl rfl ?_
      refine eseq_nil ?_
      refine hK _ _ ?_; clear hK
      refine e_cond rfl (fun hk2 => ?_) (fun hk2 => ?_)
      · skip
        have hk2 : a.kind = 2 := by simpa using hk2
        refine e_region_text rfl ?_
        refine q_move rfl rfl ?_
        refine q_field rfl rfl ?_
        refine q_load rfl (Blk.cell hb6 rfl) rfl ?_
        refine q_call rfl (receive25 hc6 hinv.good (by omega) a.other hlr (by omega) (fun q hq => by have := hinv.rows q hq; omega) (fun i hi => by have h1 := hinv.letters _ (nth_mem hi); have h2 := hinv.tos _ (nth_mem (show (nth c.fly i).arc.toNat < c.arcs.length by omega)); exact ⟨h1.1, h1.2.1, h2.1, h2.2⟩)) rfl ?_
        rintro _ wy ⟨rfl, ⟨own2, uL, uC, uA, uK, uF, uT, uG, hcy, hSy⟩, hTy⟩; refine ⟨(fun h => by cases h), ?_⟩
        refine eseq_nil ?_
        refine hK _ _ ?_; clear hK
        refine e_region_text rfl ?_
        refine q_add rfl rfl (wr64 (by omega) (by omega)) rfl ?_
        refine q_move rfl rfl ?_
        refine eseq_nil ?_
        refine ⟨l.length - (k + 1), _, by omega, ⟨k + 1, own2, uL, uC, uA, uK, uF, uT, uG, by omega, ?_, rfl, hTx6.trans hTy, rfl⟩, Sub.cons rfl (Sub.cons rfl (Sub.cons rfl (Sub.cons rfl (Sub.cons rfl (Sub.nil _)))))⟩
        rw [hrun, Comp.deed, if_neg hk1, if_pos hk2]; exact hcy
      · skip
        have hk2 : ¬ a.kind = 2 := by simpa using hk2
        refine e_seq fun K hK => ?_
        refine e_region_text rfl ?_
        refine q_eql rfl rfl rfl ?_
        refine q_assign rfl rfl ?_
        refine eseq_nil ?_
        refine hK _ _ ?_; clear hK
        refine e_cond rfl (fun hk3 => ?_) (fun hk3 => ?_)
        · skip
          have hk3 : a.kind = 3 := by simpa using hk3
          have hng := hinv.good.now
          refine e_seq fun K hK => ?_
          refine e_region_text rfl ?_
          refine q_move rfl rfl ?_
          refine q_field rfl rfl ?_
          refine q_load rfl (Blk.cell hb6 rfl) rfl ?_
          refine q_call rfl (process25 hc6 a.proc) rfl ?_
          rintro _ w7 ⟨rfl, hB7⟩; refine ⟨fun _ => .of_below hB7, ?_⟩
          replace hbb := hbb.ext hB7
          replace hD := hD.ext hB7
          replace f26 := f26.ext hB7
          replace hb6 := hb6.ext hB7
          replace hTw := hTw.trans (Below.mono hB7 hTw.size)
          refine eseq_nil ?_
          refine hK _ _ ?_; clear hK
          refine e_cond rfl (fun hp => ?_) (fun hp => ?_)
          · skip
            have hpn : 0 ≤ a.proc ∧ a.proc < nn := by simp at hp; omega
            obtain ⟨pq, hpq⟩ := Int.eq_ofNat_of_zero_le hpn.1
            have hpq2 : a.proc.toNat = pq := by omega
            have hcm := CompAt.ext hc6 ‹Below w6.heap.size w6 _›
            have hTxm := hTx6.trans (Below.mono ‹Below w6.heap.size w6 _› (by omega))
            have hnow := hinv.now a.proc.toNat (by omega)
            obtain ⟨gN, hvN, htN, hgN⟩ := id hcm.now
            subst hvN
            have hbe := hcm.blk
            have hlB := hcm.low B (by have := hcm.tag; omega)
            have hBN : B ≠ gN := by rintro rfl; have := hcm.tag; omega
            have hNl := (hcm.low gN (by omega)).1
            have hN8 : bl5 ≠ gN := by rintro rfl; have := (hc.low bl5 (by omega)).2; omega
            have hgNl := hgN.lt
            refine e_seq fun K hK => ?_
            refine e_region_draw mixed (fun _ => False) [0, 1, 3, 7, 0, 16, 63, 127, 255, 511, 1023] [] [0, 1, 2, 3, 4, 5, 6, 7, 8, 9, 10] (by kernel_rfl) ?_
            refine q_move rfl rfl ?_
            refine q_nilCheck rfl rfl ?_
            refine q_field rfl rfl ?_
            refine q_load rfl (Blk.cell hbe rfl) rfl ?_
            refine q_field rfl rfl ?_
            refine q_load rfl (Blk.cell hb6 rfl) rfl ?_
            first | refine q_indexn rfl rfl (by omega) rfl ?_ | refine q_index rfl rfl ⟨by omega, by omega⟩ rfl ?_
            refine q_load rfl (Blk.intAt hgN (by first | omega | (simp; omega))) rfl ?_
            refine q_add rfl rfl (wr64 (by omega) (by omega)) rfl ?_
            first | refine q_indexn rfl rfl (by omega) rfl ?_ | refine q_index rfl rfl ⟨by omega, by omega⟩ rfl ?_
            refine q_storeIx rfl rfl hgN (by first | omega | (simp; omega)) rfl fun w8 hb8 hO8 => ?_
            replace hbe := hbe.only hO8 (by omega)
            replace hb6 := hb6.only hO8 (by omega)
            refine eseq_nil ?_
            refine hK _ _ ?_; clear hK
            refine e_region_text rfl ?_
            refine q_move rfl rfl ?_
            refine q_field rfl rfl ?_
            refine q_load rfl (Blk.cell hb6 rfl) rfl ?_
            obtain ⟨hN9, hS9⟩ := IntsAt.set (own := own) (i := pq) (x := nth c.now pq + 1) htN hO8 (by rw [hpq2] at hb8; exact hb8)
            have hf9 := hcm.few
            have h9 : CompAt w8 B wm2.heap.size own 71 94 (c.bump pq) vL vC vA vK vF (.slice (some ⟨gN, 0, none⟩) c.now.length c.now.length) vG :=
              ⟨hbe, hcm.tag, fun k hk => ⟨(hcm.low k hk).1, Nat.lt_of_lt_of_le (hcm.low k hk).2 hO8.size⟩, hcm.lens.step hS9 (by omega), hcm.arcs.step hS9 (by omega), hN9, hcm.fly.step hS9 (by omega), hcm.ckpts.step hS9 (by intro i hi; omega), hcm.clocks.step hS9 (by intro i hi; omega), hcm.forced.step hS9 (by intro i hi; omega), hf9⟩
            have hgd : (c.bump pq).Good nn := ⟨hinv.good.lens, hinv.good.ckpts, hinv.good.clocks, hinv.good.forced, by simpa [Comp.bump] using hng, hinv.good.rows⟩
            refine q_call (by first | rfl | (rw [← hpq]; rfl)) (checkpoint25 h9 hgd (by omega) pq (by omega) false) rfl ?_
            rintro _ wy ⟨rfl, ⟨own2, uL, uC, uA, uK, uF, uT, uG, hcy, hSy⟩, hTy⟩; refine ⟨(fun h => by cases h), ?_⟩
            refine eseq_nil ?_
            refine hK _ _ ?_; clear hK
            refine e_region_text rfl ?_
            refine q_add rfl rfl (wr64 (by omega) (by omega)) rfl ?_
            refine q_move rfl rfl ?_
            refine eseq_nil ?_
            refine ⟨l.length - (k + 1), _, by omega, ⟨k + 1, own2, uL, uC, uA, uK, uF, uT, uG, by omega, ?_, rfl, (Below.onlyB hTxm hO8 hgNl hNl).trans hTy, rfl⟩, Sub.cons rfl (Sub.cons rfl (Sub.cons rfl (Sub.cons rfl (Sub.cons rfl (Sub.nil _)))))⟩
            rw [hrun, Comp.deed, if_neg hk1, if_neg hk2, if_pos hk3, Comp.tick, if_pos hp, hpq2]; exact hcy
          · skip
            refine e_skip ?_
            refine hK _ _ ?_; clear hK
            refine e_region_text rfl ?_
            refine q_add rfl rfl (wr64 (by omega) (by omega)) rfl ?_
            refine q_move rfl rfl ?_
            refine eseq_nil ?_
            refine ⟨l.length - (k + 1), _, by omega, ⟨k + 1, own, vL, vC, vA, vK, vF, vT, vG, by omega, ?_, rfl, ?_, rfl⟩, Sub.cons rfl (Sub.cons rfl (Sub.cons rfl (Sub.cons rfl (Sub.cons rfl (Sub.nil _)))))⟩
            · rw [hrun, Comp.deed, if_neg hk1, if_neg hk2, if_pos hk3, Comp.tick, if_neg (by rw [hp]; simp)]; exact CompAt.ext hc6 ‹Below w6.heap.size w6 _›
            · exact hTx6.trans (Below.mono ‹Below w6.heap.size w6 _› (by omega))
        · skip
          have hk3 : ¬ a.kind = 3 := by simpa using hk3
          refine e_skip ?_
          refine hK _ _ ?_; clear hK
          refine e_region_text rfl ?_
          refine q_add rfl rfl (wr64 (by omega) (by omega)) rfl ?_
          refine q_move rfl rfl ?_
          refine eseq_nil ?_
          refine ⟨l.length - (k + 1), _, by omega, ⟨k + 1, own, vL, vC, vA, vK, vF, vT, vG, by omega, ?_, rfl, hTx6, rfl⟩, Sub.cons rfl (Sub.cons rfl (Sub.cons rfl (Sub.cons rfl (Sub.cons rfl (Sub.nil _)))))⟩
          rw [hrun, Comp.deed, if_neg hk1, if_neg hk2, if_neg hk3]; exact hc6
  · skip
    have hge : k = l.length := by simp at hif; omega
    have hh := hc.hist
    rw [hge, List.take_length] at hh
    have hone : ∀ v ∈ [vL, vC, vA, vK, .slice none 0 0, vF], oneV v = true := by
      intro v hv; simp at hv
      rcases hv with rfl | rfl | rfl | rfl | rfl | rfl
      · exact hh.lens.one
      · exact hh.ckpts.one
      · exact hh.arcs.one
      · exact hh.clocks.one
      · rfl
      · exact hh.forced.one
    refine e_exit ?_
    clear hK
    refine hK _ _ ?_; clear hK
    refine e_seq fun K hK => ?_
    refine e_region_text rfl ?_
    refine q_move rfl rfl ?_
    refine q_nilCheck rfl rfl ?_
    refine q_field rfl rfl ?_
    refine q_loadAgg rfl (Blk.cellsAt hbb 0 6 rfl) rfl rfl ?_
    refine q_storeAgg rfl rfl hb1 rfl (Nat.le_of_ble_eq_true rfl) hone rfl rfl fun w7 hb7 hO7 => ?_
    refine q_assign rfl rfl ?_
    refine eseq_nil ?_
    refine hK _ _ ?_; clear hK
    refine e_ret ?_
    rw [hplay]
    exact ⟨_, resC2 rfl rfl (hb7.cellsAt 0 6 rfl) rfl rfl, _, _, _, _, _, _, rfl, (hh.kept (.of_only hO7 fun k hk => by omega)).mono fun k hk => by omega, Below.onlyB hTw hO7 hb1.lt (by omega)⟩
end Go.Proofs.Ytdpleaifhdlciaa
