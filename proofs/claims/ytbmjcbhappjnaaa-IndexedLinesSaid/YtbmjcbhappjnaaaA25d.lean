/- Printed walks: A25d. -/
import Derived.Test.YtbmjcbhappjnaaaA25
import Derived.Test.YtbmjcbhappjnaaaA23
import Derived.Test.YtbmjcbhappjnaaaA16c
import Derived.Test.YtbmjcbhappjnaaaAacts
import Derived.Test.YtbmjcbhappjnaaaA18a
set_option linter.unusedVariables false
set_option linter.unusedSimpArgs false
namespace Go.Mine
open Go.RowKit
def law25_awake (fuel : Nat) : Option (Bool) :=
  (indexed_Play fuel 2 ([(⟨1, 0, 1⟩ : Deed), (⟨3, 0, 0⟩ : Deed), (⟨1, 0, 1⟩ : Deed), (⟨2, 0, 0⟩ : Deed), (⟨2, 0, 0⟩ : Deed)])).bind fun r106 => (andM (r106.2 == 0) ((ref23_SameLists fuel r106.1.pat.ckpts ([[0, 1], [0, 1]])).bind fun r143 => some r143)).bind fun x133 => (andM x133 ((ref23_SameLists fuel r106.1.clocks ([[0, 1], [0, 1]])).bind fun r167 => some r167)).bind fun x157 => (andM x157 (some ((r106.1.forced.length : Int) == 2))).bind fun x171 => (andM x171 ((ati r106.1.forced 1).bind fun x177 => some ((x177.length : Int) == 2))).bind fun x176 => (andM x176 ((ati r106.1.forced 1).bind fun x185 => (ati x185 1).bind fun x186 => some x186)).bind fun x184 => (andM x184 ((ati r106.1.forced 0).bind fun x195 => (ati x195 1).bind fun x196 => some (!x196))).bind fun x194 => some x194
def law25_draw (fuel : Nat) (a0 : (List Int)) : Option (Int × (List Deed)) :=
  (make_New fuel a0 200).bind fun r19 => (make_Codes_Next fuel 3 r19.1 r19.2).bind fun r24 => (make_Codes_Acts fuel (w64 (2 + r24.1)) 60 r19.1 r24.2).bind fun r27 => some (w64 (2 + r24.1), r27.1)
def law25_sound_K1 (fuel : Nat) (a0 : Hist) : Option (Bool) :=
  (ref16_Check fuel (⟨a0.pat.lens, a0.pat.ckpts, a0.pat.arcs⟩ : Pat)).bind fun r288 => some (r288 == 0)
def law25_sound_B1 (fuel : Nat) (a1 : Int) (a0 : Hist) (x239 : Int) : Option ((Int) ⊕ (Unit ⊕ (Bool))) :=
  (if (decide (x239 < a1)) = true then (ati a0.clocks x239).bind fun x294 => (ati a0.pat.ckpts x239).bind fun x297 => (orM ((x294.length : Int) != (x297.length : Int)) ((ati a0.forced x239).bind fun x310 => (ati a0.pat.ckpts x239).bind fun x313 => some ((x310.length : Int) != (x313.length : Int)))).bind fun x309 => (if x309 = true then some (Sum.inr (Sum.inr false)) else some (Sum.inl (w64 (x239 + 1)))) else some (Sum.inr (Sum.inl ())))
def law25_sound (fuel : Nat) (a0 : Hist) (a1 : Int) : Option (Bool) :=
  (orM ((a0.pat.lens.length : Int) != a1) (some ((a0.pat.ckpts.length : Int) != a1))).bind fun x171 => (orM x171 (some ((a0.clocks.length : Int) != a1))).bind fun x175 => (orM x175 (some ((a0.forced.length : Int) != a1))).bind fun x179 => (if x179 = true then some false else (iter (fun s => law25_sound_B1 fuel a1 a0 s) fuel 0).bind (fun t => Sum.elim (fun t => law25_sound_K1 fuel a0) (fun t => some t) t))
def indexed_Line_1 (fuel : Nat) (a0 : Int) (c1_0 : Int) : Option (Bool) :=
  some (decide (c1_0 ≤ a0))
def IndexLine_K1 (fuel : Nat) : Option (Int) :=
  some (-1)
def IndexLine_B1 (fuel : Nat) (a0 : (List Int)) (c1a_0 : Int) (x95 : Int) : Option ((Int) ⊕ (Unit ⊕ (Int))) :=
  (if (decide (x95 < (a0.length : Int))) = true then (ati a0 x95).bind fun x122 => (indexed_Line_1 fuel x122 c1a_0).bind fun r125 => (if r125 = true then some (Sum.inr (Sum.inr x95)) else some (Sum.inl (w64 (x95 + 1)))) else some (Sum.inr (Sum.inl ())))
def IndexLine (fuel : Nat) (a0 : (List Int)) (c1a_0 : Int) : Option (Int) :=
  (iter (fun s => IndexLine_B1 fuel a0 c1a_0 s) fuel 0).bind (fun t => Sum.elim (fun t => IndexLine_K1 fuel) (fun t => some t) t)
def indexed_Line_K1 (fuel : Nat) (x539 : (List Int)) : Option ((List Int)) :=
  some x539
def indexed_Line_J1 (fuel : Nat) (x438 : (List Int)) (x440 : Int) (x588 : Int) : Option (((List Int) × Int) ⊕ ((List Int))) :=
  (snoc x438 x588).bind fun x593 => some (Sum.inl (x593, (w64 (x440 + 1))))
def indexed_Line_B1 (fuel : Nat) (a0 : Hist) (a1 : Int) (x438 : (List Int)) (x440 : Int) : Option (((List Int) × Int) ⊕ ((List Int))) :=
  (if (decide (x440 < (a0.pat.lens.length : Int))) = true then (ati a0.pat.lens x440).bind fun x547 => (andM (decide (x440 < (a0.clocks.length : Int))) (some (decide (x440 < (a0.pat.ckpts.length : Int))))).bind fun x598 => (if x598 = true then (ati a0.clocks x440).bind fun x601 => (IndexLine fuel x601 a1).bind fun r605 => (andM (decide (0 ≤ r605)) ((ati a0.pat.ckpts x440).bind fun x614 => some (decide (r605 < (x614.length : Int))))).bind fun x613 => (if x613 = true then (ati a0.pat.ckpts x440).bind fun x618 => (ati x618 r605).bind fun x621 => indexed_Line_J1 fuel x438 x440 x621 else indexed_Line_J1 fuel x438 x440 x547) else indexed_Line_J1 fuel x438 x440 x547) else some (Sum.inr x438))
def indexed_Line (fuel : Nat) (a0 : Hist) (a1 : Int) : Option ((List Int)) :=
  (iter (fun s => indexed_Line_B1 fuel a0 a1 s.1 s.2) fuel (([] : List Int), 0)).bind (fun t => indexed_Line_K1 fuel t)
def ref25_Line_K1 (fuel : Nat) (x795 : (List Int)) : Option ((List Int)) :=
  some x795
def ref25_Line_K2 (fuel : Nat) (x640 : (List Int)) (x641 : Int) (x914 : Int) : Option (((List Int) × Int) ⊕ ((List Int))) :=
  (snoc x640 x914).bind fun x918 => some (Sum.inl (x918, (w64 (x641 + 1))))
def ref25_Line_B2 (fuel : Nat) (a0 : Hist) (x641 : Int) (a1 : Int) (x866 : Int) (x867 : Int) : Option ((Int × Int) ⊕ (Int)) :=
  (if (decide (0 ≤ x867)) = true then (ati a0.clocks x641).bind fun x924 => (ati x924 x867).bind fun x927 => (if (decide (a1 ≤ x927)) = true then (ati a0.pat.ckpts x641).bind fun x930 => (ati x930 x867).bind fun x933 => some (Sum.inl (x933, (w64 (x867 - 1)))) else some (Sum.inl (x866, (w64 (x867 - 1))))) else some (Sum.inr x866))
def ref25_Line_B1 (fuel : Nat) (a0 : Hist) (a1 : Int) (x640 : (List Int)) (x641 : Int) : Option (((List Int) × Int) ⊕ ((List Int))) :=
  (if (decide (x641 < (a0.pat.lens.length : Int))) = true then (ati a0.pat.lens x641).bind fun x803 => (ati a0.clocks x641).bind fun x807 => (iter (fun s => ref25_Line_B2 fuel a0 x641 a1 s.1 s.2) fuel (x803, (w64 ((x807.length : Int) - 1)))).bind (fun t => ref25_Line_K2 fuel x640 x641 t) else some (Sum.inr x640))
def ref25_Line (fuel : Nat) (a0 : Hist) (a1 : Int) : Option ((List Int)) :=
  (iter (fun s => ref25_Line_B1 fuel a0 a1 s.1 s.2) fuel (([] : List Int), 0)).bind (fun t => ref25_Line_K1 fuel t)
def law25_IndexedLines_K1 (fuel : Nat) (r225 : (Hist × Int)) (a1 : Int) : Option (Bool) :=
  (indexed_Line fuel (⟨(⟨r225.1.pat.lens, r225.1.pat.ckpts, r225.1.pat.arcs⟩ : Pat), r225.1.clocks, ([] : List (List (List Int))), r225.1.forced⟩ : Hist) a1).bind fun r380 => (ref25_Line fuel (⟨(⟨r225.1.pat.lens, r225.1.pat.ckpts, r225.1.pat.arcs⟩ : Pat), r225.1.clocks, ([] : List (List (List Int))), r225.1.forced⟩ : Hist) a1).bind fun r383 => (ref23_SameInts fuel r380 r383).bind fun r386 => some r386
def law25_IndexedLines_B1 (fuel : Nat) (r225 : (Hist × Int)) (x316 : Int) : Option ((Int) ⊕ (Unit ⊕ (Bool))) :=
  (if (decide (x316 ≤ 20)) = true then (indexed_Line fuel (⟨(⟨r225.1.pat.lens, r225.1.pat.ckpts, r225.1.pat.arcs⟩ : Pat), r225.1.clocks, ([] : List (List (List Int))), r225.1.forced⟩ : Hist) x316).bind fun r393 => (ref25_Line fuel (⟨(⟨r225.1.pat.lens, r225.1.pat.ckpts, r225.1.pat.arcs⟩ : Pat), r225.1.clocks, ([] : List (List (List Int))), r225.1.forced⟩ : Hist) x316).bind fun r397 => (ref23_SameInts fuel r393 r397).bind fun r400 => (orM (!r400) ((cut_Valid fuel (⟨r225.1.pat.lens, r225.1.pat.ckpts, r225.1.pat.arcs⟩ : Pat) r393).bind fun r408 => some (!r408))).bind fun x406 => (orM x406 ((cut_Consistent fuel (⟨r225.1.pat.lens, r225.1.pat.ckpts, r225.1.pat.arcs⟩ : Pat) r393).bind fun r416 => some (!r416))).bind fun x414 => (if x414 = true then some (Sum.inr (Sum.inr false)) else some (Sum.inl (w64 (x316 + 1)))) else some (Sum.inr (Sum.inl ())))
def law25_IndexedLines (fuel : Nat) (a0 : (List Int)) (a1 : Int) : Option (Bool) :=
  (law25_awake fuel).bind fun r215 => (if (!r215) = true then some false else (law25_draw fuel a0).bind fun r220 => (indexed_Play fuel r220.1 r220.2).bind fun r225 => (orM (r225.2 != 0) ((law25_sound fuel (⟨(⟨r225.1.pat.lens, r225.1.pat.ckpts, r225.1.pat.arcs⟩ : Pat), r225.1.clocks, ([] : List (List (List Int))), r225.1.forced⟩ : Hist) r220.1).bind fun r247 => some (!r247))).bind fun x245 => (if x245 = true then some false else (iter (fun s => law25_IndexedLines_B1 fuel r225 s) fuel (-1)).bind (fun t => Sum.elim (fun t => law25_IndexedLines_K1 fuel r225 a1) (fun t => some t) t)))
end Go.Mine
namespace Go.Proofs.Ytbmjcbhappjnaaa
open Go.RowKit Go.Mine
attribute [local irreducible] eseq ewp iter
theorem law25_awake_w {F R : Nat → Prop} {w : World} {fuel : Nat} {r : (Bool)} (hS : Sep F R R w w []) (h : law25_awake fuel = some r) :
    Gives Try.prog 20 [] w fun u w1 => ∃ (R1 : Nat → Prop), u = .bool r ∧ Sep F R R1 w w1 [] := by
  refine fn_of Try.func20 rfl Try.ntmps20 (Nat.le_of_ble_eq_true rfl) ?_
  unfold law25_awake at h
  refine e_seq fun K100 hK100 => ?_
  refine e_region_text rfl ?_
  refine q_assign rfl rfl ?_
  refine eseq_nil ?_
  refine hK100 _ _ ?_
  refine e_seq fun K101 hK101 => ?_
  refine e_region_text rfl ?_
  refine q_build (Parts.cons rfl rfl (Parts.cons rfl rfl (Parts.cons rfl rfl Parts.nil))) rfl rfl ?_
  refine q_build (Parts.cons rfl rfl (Parts.cons rfl rfl Parts.nil)) rfl rfl ?_
  refine q_build (Parts.cons rfl rfl (Parts.cons rfl rfl (Parts.cons rfl rfl Parts.nil))) rfl rfl ?_
  refine q_build (Parts.cons rfl rfl (Parts.cons rfl rfl Parts.nil)) rfl rfl ?_
  refine q_build (Parts.cons rfl rfl (Parts.cons rfl rfl Parts.nil)) rfl rfl ?_
  refine q_litO (T := deedTy) (S := (fun _ => False)) (cells := [[.int .i64 1, .int .i64 0, .int .i64 1], [.int .i64 3, .int .i64 0, .int .i64 0], [.int .i64 1, .int .i64 0, .int .i64 1], [.int .i64 2, .int .i64 0, .int .i64 0], [.int .i64 2, .int .i64 0, .int .i64 0]]) (ys := [(⟨1, 0, 1⟩ : Deed), (⟨3, 0, 0⟩ : Deed), (⟨1, 0, 1⟩ : Deed), (⟨2, 0, 0⟩ : Deed), (⟨2, 0, 0⟩ : Deed)]) ((Parts.cons rfl rfl (Parts.cons rfl rfl (Parts.cons rfl rfl (Parts.cons rfl rfl (Parts.cons rfl rfl Parts.nil)))))) rfl rfl rfl rfl rfl rfl rfl (fun w1 hB => ⟨⟨[_], _, rfl, rfl, ⟨[_], _, rfl, rfl, rfl⟩⟩, ⟨[_], _, rfl, rfl, ⟨[_], _, rfl, rfl, rfl⟩⟩, ⟨[_], _, rfl, rfl, ⟨[_], _, rfl, rfl, rfl⟩⟩, ⟨[_], _, rfl, rfl, ⟨[_], _, rfl, rfl, rfl⟩⟩, ⟨[_], _, rfl, rfl, ⟨[_], _, rfl, rfl, rfl⟩⟩, trivial⟩) (fun _ h => h.elim) rfl fun w102 v102 ho102 hv102 hB102 => ?_
  replace hS := hS.newOwnS hB102 ho102 hv102 (fun _ h => h.elim)
  obtain ⟨R105, hS, hm105, f105⟩ := hS.freezeOwn 0 rfl; simp only [List.eraseIdx] at hS
  obtain ⟨r106, hr106, h⟩ := Option.of_bind h
  refine q_call rfl (indexed_Play_w (Sep.enter (As := []) hS) f105 hr106) rfl ?_
  rintro _ w104 ⟨v107, v108, v109, v110, v111, v112, v114, v115, R104, rfl, hC104⟩
  have hB104 : Below (World.heap w102).size w102 w104 := hC104.stepB0
  refine ⟨fun _ => .of_below hB104, ?_⟩
  replace f105 := (f105.ext hB104).mono fun k hk _ => hC104.ro0 k hk
  replace hS := Sep.leave (As := []) hS hC104; simp only [List.cons_append, List.nil_append] at hS
  refine q_move rfl rfl ?_
  refine q_extract rfl rfl rfl ?_
  refine q_extract rfl rfl rfl ?_
  refine q_allocB rfl fun w116 bl116 hg116 hb116 hB116 => ?_
  replace hS := hS.newBlk hB116 hg116 hb116
  refine q_storeAgg rfl rfl (hS.blk 0 rfl) rfl (Nat.le_of_ble_eq_true rfl) (all_cons (hS.own 1 rfl).one (all_cons (hS.own 2 rfl).one (all_cons (hS.own 4 rfl).one (all_cons (hS.own 5 rfl).one (all_cons rfl (all_cons (hS.own 7 rfl).one (all_nil))))))) rfl rfl fun w118 hb118 hO118 => ?_
  simp only [setN, List.set, List.take, List.drop] at hb118
  have hk118 := hS.keptBlk 0 rfl hO118
  replace hS := hS.setBlk 0 rfl hb118 hO118; simp only [List.set] at hS
  refine q_assign rfl rfl ?_
  refine eseq_nil ?_
  refine hK101 _ _ ?_
  refine e_seq fun K119 hK119 => ?_
  refine e_region_text rfl ?_
  refine q_move rfl rfl ?_
  refine q_eql rfl rfl rfl ?_
  refine q_move rfl rfl ?_
  obtain ⟨x133, hx132, h⟩ := Option.of_bind h
  refine g_andM 7 hx132 rfl trivial rfl rfl ?_ ?_ ?_
  · intro hg132 hx132
    clear h
    have hT132 := Below.refl (World.heap w118).size w118
    refine g_run rfl ?_; refine q_field rfl rfl ?_
    refine g_run rfl ?_; refine q_field rfl rfl ?_
    refine g_run rfl ?_; refine q_load rfl (Blk.cell (hS.blk 0 rfl) rfl) rfl ?_
    refine g_run rfl ?_; refine q_litO (T := Ty.int) (S := (fun _ => False)) (cells := [[.int .i64 0], [.int .i64 1]]) (ys := [0, 1]) ((Parts.cons rfl rfl (Parts.cons rfl rfl Parts.nil))) rfl rfl rfl rfl rfl rfl rfl (fun w1 hB => ⟨rfl, rfl, trivial⟩) (fun _ h => h.elim) rfl fun w134 v134 ho134 hv134 hB134 => ?_
    replace hT132 := hT132.trans (Below.mono hB134 hT132.size)
    replace hS := hS.newOwnS hB134 ho134 hv134 (fun _ h => h.elim)
    refine g_run rfl ?_; refine q_litO (T := Ty.int) (S := (fun _ => False)) (cells := [[.int .i64 0], [.int .i64 1]]) (ys := [0, 1]) ((Parts.cons rfl rfl (Parts.cons rfl rfl Parts.nil))) rfl rfl rfl rfl rfl rfl rfl (fun w1 hB => ⟨rfl, rfl, trivial⟩) (fun _ h => h.elim) rfl fun w136 v136 ho136 hv136 hB136 => ?_
    replace hT132 := hT132.trans (Below.mono hB136 hT132.size)
    replace hS := hS.newOwnS hB136 ho136 hv136 (fun _ h => h.elim)
    refine g_run rfl ?_; refine q_litO (T := Ty.raw) (S := (fun _ => False)) (cells := [[v134], [v136]]) (ys := [v134, v136]) ((Parts.cons rfl (cells_one (hS.own 1 rfl).one) (Parts.cons rfl (cells_one (hS.own 0 rfl).one) Parts.nil))) rfl rfl rfl rfl rfl rfl rfl (fun w1 hB => ⟨⟨rfl, (hS.own 1 rfl).one⟩, ⟨rfl, (hS.own 0 rfl).one⟩, trivial⟩) (fun _ h => h.elim) rfl fun w138 v138 ho138 hv138 hB138 => ?_
    replace hT132 := hT132.trans (Below.mono hB138 hT132.size)
    replace hS := hS.newOwnS hB138 ho138 hv138 (fun _ h => h.elim)
    replace hS := hS.pickB [2, 0, 1, 3, 4, 5, 6, 7, 8, 9, 10, 11] 12 rfl rfl; simp only [List.map_cons, List.map_nil, List.getD_cons_zero, List.getD_cons_succ] at hS
    replace hS := hS.famOne
    replace hS := hS.pickB [2, 0, 1, 3, 4, 5, 6, 7, 8, 9, 10, 11] 12 rfl rfl; simp only [List.map_cons, List.map_nil, List.getD_cons_zero, List.getD_cons_succ] at hS
    replace hS := hS.famOne
    replace hS := hS.pickB [1, 0, 2, 3, 4, 5, 6, 7, 8, 9, 10, 11] 12 rfl rfl; simp only [List.map_cons, List.map_nil, List.getD_cons_zero, List.getD_cons_succ] at hS
    replace hS := hS.famCat; simp only [List.cons_append, List.nil_append] at hS
    obtain ⟨r143, hr143, hx132⟩ := Option.of_bind hx132
    refine g_run rfl ?_; refine q_call rfl (ref23_SameLists_w (Sep.all w138) ((hS.rowsI 4 5 rfl rfl (by decide))).old ((hS.rowsI 1 0 rfl rfl (by decide))).old hr143) rfl ?_
    rintro _ w142 ⟨R142, rfl, hC142⟩
    have hB142 : Below (World.heap w138).size w138 w142 := hC142.stepBF
    refine ⟨fun _ => .of_below hB142, ?_⟩
    replace hT132 := hT132.trans (Below.mono hB142 hT132.size)
    replace hS := hS.below hB142
    cases hx132
    exact eseq_nil ⟨hT132, Sub.set rfl (Sub.set rfl (Sub.set rfl (Sub.set rfl (Sub.set rfl (Sub.set rfl (Sub.set rfl (Sub.bool true rfl hg132))))))), rfl⟩
  · intro hg132
    refine g_skip rfl rfl rfl ?_
    refine g_skip rfl rfl rfl ?_
    refine g_skip rfl rfl rfl ?_
    refine g_skip rfl rfl rfl ?_
    refine g_skip rfl rfl rfl ?_
    refine g_skip rfl rfl rfl ?_
    refine g_skip rfl rfl rfl ?_
    exact eseq_nil ⟨rfl, Sub.set rfl (Sub.set rfl (Sub.set rfl (Sub.set rfl (Sub.set rfl (Sub.set rfl (Sub.set rfl (Sub.bool false rfl hg132)))))))⟩
  intro wm132 hBm132; clear hx132
  replace hS := hS.below hBm132
  refine q_move rfl rfl ?_
  obtain ⟨x157, hx156, h⟩ := Option.of_bind h
  refine g_andM 6 hx156 rfl trivial rfl rfl ?_ ?_ ?_
  · intro hg156 hx156
    clear h
    have hT156 := Below.refl (World.heap wm132).size wm132
    refine g_run rfl ?_; refine q_field rfl rfl ?_
    refine g_run rfl ?_; refine q_load rfl (Blk.cell (hS.blk 0 rfl) rfl) rfl ?_
    refine g_run rfl ?_; refine q_litO (T := Ty.int) (S := (fun _ => False)) (cells := [[.int .i64 0], [.int .i64 1]]) (ys := [0, 1]) ((Parts.cons rfl rfl (Parts.cons rfl rfl Parts.nil))) rfl rfl rfl rfl rfl rfl rfl (fun w1 hB => ⟨rfl, rfl, trivial⟩) (fun _ h => h.elim) rfl fun w158 v158 ho158 hv158 hB158 => ?_
    replace hT156 := hT156.trans (Below.mono hB158 hT156.size)
    replace hS := hS.newOwnS hB158 ho158 hv158 (fun _ h => h.elim)
    refine g_run rfl ?_; refine q_litO (T := Ty.int) (S := (fun _ => False)) (cells := [[.int .i64 0], [.int .i64 1]]) (ys := [0, 1]) ((Parts.cons rfl rfl (Parts.cons rfl rfl Parts.nil))) rfl rfl rfl rfl rfl rfl rfl (fun w1 hB => ⟨rfl, rfl, trivial⟩) (fun _ h => h.elim) rfl fun w160 v160 ho160 hv160 hB160 => ?_
    replace hT156 := hT156.trans (Below.mono hB160 hT156.size)
    replace hS := hS.newOwnS hB160 ho160 hv160 (fun _ h => h.elim)
    refine g_run rfl ?_; refine q_litO (T := Ty.raw) (S := (fun _ => False)) (cells := [[v158], [v160]]) (ys := [v158, v160]) ((Parts.cons rfl (cells_one (hS.own 1 rfl).one) (Parts.cons rfl (cells_one (hS.own 0 rfl).one) Parts.nil))) rfl rfl rfl rfl rfl rfl rfl (fun w1 hB => ⟨⟨rfl, (hS.own 1 rfl).one⟩, ⟨rfl, (hS.own 0 rfl).one⟩, trivial⟩) (fun _ h => h.elim) rfl fun w162 v162 ho162 hv162 hB162 => ?_
    replace hT156 := hT156.trans (Below.mono hB162 hT156.size)
    replace hS := hS.newOwnS hB162 ho162 hv162 (fun _ h => h.elim)
    replace hS := hS.pickB [2, 0, 1, 3, 4, 5, 6, 7, 8, 9, 10, 11] 12 rfl rfl; simp only [List.map_cons, List.map_nil, List.getD_cons_zero, List.getD_cons_succ] at hS
    replace hS := hS.famOne
    replace hS := hS.pickB [2, 0, 1, 3, 4, 5, 6, 7, 8, 9, 10, 11] 12 rfl rfl; simp only [List.map_cons, List.map_nil, List.getD_cons_zero, List.getD_cons_succ] at hS
    replace hS := hS.famOne
    replace hS := hS.pickB [1, 0, 2, 3, 4, 5, 6, 7, 8, 9, 10, 11] 12 rfl rfl; simp only [List.map_cons, List.map_nil, List.getD_cons_zero, List.getD_cons_succ] at hS
    replace hS := hS.famCat; simp only [List.cons_append, List.nil_append] at hS
    obtain ⟨r167, hr167, hx156⟩ := Option.of_bind hx156
    refine g_run rfl ?_; refine q_call rfl (ref23_SameLists_w (Sep.all w162) ((hS.rowsI 7 8 rfl rfl (by decide))).old ((hS.rowsI 1 0 rfl rfl (by decide))).old hr167) rfl ?_
    rintro _ w166 ⟨R166, rfl, hC166⟩
    have hB166 : Below (World.heap w162).size w162 w166 := hC166.stepBF
    refine ⟨fun _ => .of_below hB166, ?_⟩
    replace hT156 := hT156.trans (Below.mono hB166 hT156.size)
    replace hS := hS.below hB166
    cases hx156
    exact eseq_nil ⟨hT156, Sub.set rfl (Sub.set rfl (Sub.set rfl (Sub.set rfl (Sub.set rfl (Sub.set rfl (Sub.bool true rfl hg156)))))), rfl⟩
  · intro hg156
    refine g_skip rfl rfl rfl ?_
    refine g_skip rfl rfl rfl ?_
    refine g_skip rfl rfl rfl ?_
    refine g_skip rfl rfl rfl ?_
    refine g_skip rfl rfl rfl ?_
    refine g_skip rfl rfl rfl ?_
    exact eseq_nil ⟨rfl, Sub.set rfl (Sub.set rfl (Sub.set rfl (Sub.set rfl (Sub.set rfl (Sub.set rfl (Sub.bool false rfl hg156))))))⟩
  intro wm156 hBm156; clear hx156
  replace hS := hS.below hBm156
  refine q_move rfl rfl ?_
  obtain ⟨x171, hx170, h⟩ := Option.of_bind h
  refine g_andM 4 hx170 rfl trivial rfl rfl ?_ ?_ ?_
  · intro hg170 hx170
    clear h
    have hT170 := Below.refl (World.heap wm156).size wm156
    refine g_run rfl ?_; refine q_field rfl rfl ?_
    refine g_run rfl ?_; refine q_load rfl (Blk.cell (hS.blk 0 rfl) rfl) rfl ?_
    refine g_run rfl ?_; refine q_lenR rfl (hS.own 7 rfl) (hS.famLen 8 rfl) rfl ?_
    refine g_run rfl ?_; refine q_eql rfl rfl rfl ?_
    cases hx170
    exact eseq_nil ⟨hT170, Sub.set rfl (Sub.set rfl (Sub.set rfl (Sub.set rfl (Sub.bool true rfl hg170)))), rfl⟩
  · intro hg170
    refine g_skip rfl rfl rfl ?_
    refine g_skip rfl rfl rfl ?_
    refine g_skip rfl rfl rfl ?_
    refine g_skip rfl rfl rfl ?_
    exact eseq_nil ⟨rfl, Sub.set rfl (Sub.set rfl (Sub.set rfl (Sub.set rfl (Sub.bool false rfl hg170))))⟩
  intro wm170 hBm170; clear hx170
  replace hS := hS.below hBm170
  refine q_move rfl rfl ?_
  obtain ⟨x176, hx175, h⟩ := Option.of_bind h
  refine g_andM 6 hx175 rfl trivial rfl rfl ?_ ?_ ?_
  · intro hg175 hx175
    clear h
    have hT175 := Below.refl (World.heap wm170).size wm170
    refine g_run rfl ?_; refine q_field rfl rfl ?_
    refine g_run rfl ?_; refine q_load rfl (Blk.cell (hS.blk 0 rfl) rfl) rfl ?_
    obtain ⟨x177, hx177, hx175⟩ := Option.of_bind hx175
    have hax177 := ati_nth (hS.famLen 8 rfl) hx177
    refine g_run rfl ?_; refine q_indexO (T := Ty.raw) (by infer_instance) rfl (hS.own 7 rfl) rfl hax177 rfl ?_
    refine g_run rfl ?_; refine q_load rfl (Elt.rawCell ((hS.own 7 rfl).elt hax177)) rfl ?_
    refine g_run rfl ?_; refine q_lenS rfl (hS.famI 8 rfl hx177) rfl ?_
    refine g_run rfl ?_; refine q_eql rfl rfl rfl ?_
    cases hx175
    exact eseq_nil ⟨hT175, Sub.set rfl (Sub.set rfl (Sub.set rfl (Sub.set rfl (Sub.set rfl (Sub.set rfl (Sub.bool true rfl hg175)))))), rfl⟩
  · intro hg175
    refine g_skip rfl rfl rfl ?_
    refine g_skip rfl rfl rfl ?_
    refine g_skip rfl rfl rfl ?_
    refine g_skip rfl rfl rfl ?_
    refine g_skip rfl rfl rfl ?_
    refine g_skip rfl rfl rfl ?_
    exact eseq_nil ⟨rfl, Sub.set rfl (Sub.set rfl (Sub.set rfl (Sub.set rfl (Sub.set rfl (Sub.set rfl (Sub.bool false rfl hg175))))))⟩
  intro wm175 hBm175; clear hx175
  replace hS := hS.below hBm175
  refine q_move rfl rfl ?_
  obtain ⟨x184, hx183, h⟩ := Option.of_bind h
  refine g_andM 6 hx183 rfl trivial rfl rfl ?_ ?_ ?_
  · intro hg183 hx183
    clear h
    have hT183 := Below.refl (World.heap wm175).size wm175
    refine g_run rfl ?_; refine q_field rfl rfl ?_
    refine g_run rfl ?_; refine q_load rfl (Blk.cell (hS.blk 0 rfl) rfl) rfl ?_
    obtain ⟨x185, hx185, hx183⟩ := Option.of_bind hx183
    have hax185 := ati_nth (hS.famLen 8 rfl) hx185
    refine g_run rfl ?_; refine q_indexO (T := Ty.raw) (by infer_instance) rfl (hS.own 7 rfl) rfl hax185 rfl ?_
    refine g_run rfl ?_; refine q_load rfl (Elt.rawCell ((hS.own 7 rfl).elt hax185)) rfl ?_
    obtain ⟨x186, hx186, hx183⟩ := Option.of_bind hx183
    refine g_run rfl ?_; refine q_indexO (by infer_instance) rfl (hS.famO 8 rfl hx185) rfl hx186 rfl ?_
    have f187 := (hS.famOR 8 rfl hx185).elt hx186
    refine g_run rfl ?_; refine q_load rfl (Elt.boolCell f187) rfl ?_
    cases hx183
    exact eseq_nil ⟨hT183, Sub.set rfl (Sub.set rfl (Sub.set rfl (Sub.set rfl (Sub.set rfl (Sub.set rfl (Sub.bool true rfl hg183)))))), rfl⟩
  · intro hg183
    refine g_skip rfl rfl rfl ?_
    refine g_skip rfl rfl rfl ?_
    refine g_skip rfl rfl rfl ?_
    refine g_skip rfl rfl rfl ?_
    refine g_skip rfl rfl rfl ?_
    refine g_skip rfl rfl rfl ?_
    exact eseq_nil ⟨rfl, Sub.set rfl (Sub.set rfl (Sub.set rfl (Sub.set rfl (Sub.set rfl (Sub.set rfl (Sub.bool false rfl hg183))))))⟩
  intro wm183 hBm183; clear hx183
  replace hS := hS.below hBm183
  refine q_move rfl rfl ?_
  obtain ⟨x194, hx193, h⟩ := Option.of_bind h
  refine g_andM 7 hx193 rfl trivial rfl rfl ?_ ?_ ?_
  · intro hg193 hx193
    clear h
    have hT193 := Below.refl (World.heap wm183).size wm183
    refine g_run rfl ?_; refine q_field rfl rfl ?_
    refine g_run rfl ?_; refine q_load rfl (Blk.cell (hS.blk 0 rfl) rfl) rfl ?_
    obtain ⟨x195, hx195, hx193⟩ := Option.of_bind hx193
    have hax195 := ati_nth (hS.famLen 8 rfl) hx195
    refine g_run rfl ?_; refine q_indexO (T := Ty.raw) (by infer_instance) rfl (hS.own 7 rfl) rfl hax195 rfl ?_
    refine g_run rfl ?_; refine q_load rfl (Elt.rawCell ((hS.own 7 rfl).elt hax195)) rfl ?_
    obtain ⟨x196, hx196, hx193⟩ := Option.of_bind hx193
    refine g_run rfl ?_; refine q_indexO (by infer_instance) rfl (hS.famO 8 rfl hx195) rfl hx196 rfl ?_
    have f197 := (hS.famOR 8 rfl hx195).elt hx196
    refine g_run rfl ?_; refine q_load rfl (Elt.boolCell f197) rfl ?_
    refine g_run rfl ?_; refine q_not rfl rfl ?_
    cases hx193
    exact eseq_nil ⟨hT193, Sub.set rfl (Sub.set rfl (Sub.set rfl (Sub.set rfl (Sub.set rfl (Sub.set rfl (Sub.set rfl (Sub.bool true rfl hg193))))))), rfl⟩
  · intro hg193
    refine g_skip rfl rfl rfl ?_
    refine g_skip rfl rfl rfl ?_
    refine g_skip rfl rfl rfl ?_
    refine g_skip rfl rfl rfl ?_
    refine g_skip rfl rfl rfl ?_
    refine g_skip rfl rfl rfl ?_
    refine g_skip rfl rfl rfl ?_
    exact eseq_nil ⟨rfl, Sub.set rfl (Sub.set rfl (Sub.set rfl (Sub.set rfl (Sub.set rfl (Sub.set rfl (Sub.set rfl (Sub.bool false rfl hg193)))))))⟩
  intro wm193 hBm193; clear hx193
  replace hS := hS.below hBm193
  refine q_assign rfl rfl ?_
  refine eseq_nil ?_
  refine hK119 _ _ ?_
  refine e_ret ?_
  obtain rfl := Option.some.inj h
  exact ⟨_, res1 rfl rfl, _, rfl, (hS.pickB [] 9 rfl rfl)⟩
theorem law25_draw_w {F R : Nat → Prop} {w : World} {fuel : Nat} {a0 : (List Int)} {v1 : Value} {r : (Int × (List Deed))} (hS : Sep F R R w w []) (f1 : IsSlice Ty.u8 w R v1 a0) (h : law25_draw fuel a0 = some r) :
    Gives Try.prog 21 [v1] w fun u w1 => ∃ (v15 : Value), ∃ (R1 : Nat → Prop), u = .tuple #[.int .i64 r.1, v15] ∧ Sep F R R1 w w1 [HP.own deedTy (fun _ => False) 80 v15 r.2] := by
  refine fn_of Try.func21 rfl Try.ntmps21 (Nat.le_of_ble_eq_true rfl) ?_
  unfold law25_draw at h
  refine e_seq fun K16 hK16 => ?_
  refine e_region_text rfl ?_
  refine q_assign rfl rfl ?_
  refine q_assign rfl rfl ?_
  refine eseq_nil ?_
  refine hK16 _ _ ?_
  refine e_seq fun K17 hK17 => ?_
  refine e_region_text rfl ?_
  refine q_move rfl rfl ?_
  obtain ⟨r19, hr19, h⟩ := Option.of_bind h
  refine q_call rfl (make_New_w (Sep.enter (As := []) hS) f1 hr19) rfl ?_
  rintro _ w18 ⟨B20, v21, R18, rfl, hC18, f21⟩
  have hB18 : Below (World.heap w).size w w18 := hC18.stepB0
  refine ⟨fun _ => .of_below hB18, ?_⟩
  replace f1 := (f1.ext hB18).mono fun k hk _ => hC18.ro0 k hk
  replace hS := Sep.leave (As := []) hS hC18; simp only [List.cons_append, List.nil_append] at hS
  refine q_assign rfl rfl ?_
  refine eseq_nil ?_
  refine hK17 _ _ ?_
  refine e_seq fun K22 hK22 => ?_
  refine e_region_text rfl ?_
  refine q_move rfl rfl ?_
  obtain ⟨r24, hr24, h⟩ := Option.of_bind h
  refine q_call rfl (make_Codes_Next_w (Sep.enter (As := [_]) hS) f21 hr24) rfl ?_
  rintro _ w23 ⟨R23, rfl, hC23⟩
  refine ⟨(fun h => by cases h), ?_⟩
  have hk23 := hC23.keptR (Sep.offFeet (As := [_]) hS)
  replace f21 := (f21.kept hk23).mono fun k hk _ => hC23.ro0 k hk
  replace hS := Sep.leave (As := [_]) hS hC23; simp only [List.cons_append, List.nil_append] at hS
  refine q_addW rfl rfl rfl ?_
  refine q_assign rfl rfl ?_
  refine eseq_nil ?_
  refine hK22 _ _ ?_
  refine e_seq fun K25 hK25 => ?_
  refine e_region_text rfl ?_
  refine q_move rfl rfl ?_
  refine q_move rfl rfl ?_
  refine q_move rfl rfl ?_
  obtain ⟨r27, hr27, h⟩ := Option.of_bind h
  refine q_call rfl (make_Codes_Acts_w (Sep.enter (As := [_]) hS) f21 hr27) rfl ?_
  rintro v28 w26 ⟨_, R26, rfl, hC26⟩
  refine ⟨(fun h => by cases h), ?_⟩
  have hk26 := hC26.keptR (Sep.offFeet (As := [_]) hS)
  replace f21 := (f21.kept hk26).mono fun k hk _ => hC26.ro0 k hk
  replace hS := Sep.leave (As := [_]) hS hC26; simp only [List.cons_append, List.nil_append] at hS
  refine q_assign rfl rfl ?_
  refine q_assign rfl rfl ?_
  refine eseq_nil ?_
  refine hK25 _ _ ?_
  refine e_ret ?_
  obtain rfl := Option.some.inj h
  exact ⟨_, res2 rfl rfl rfl, v28, _, rfl, (hS.pickB [1] 2 rfl rfl)⟩
theorem law25_sound_w {F R : Nat → Prop} {w : World} {fuel : Nat} {a0 : Hist} {a1 : Int} {v1 : Value} {v2 : Value} {v3 : Value} {v4 : Value} {v5 : Value} {v6 : Value} {r : (Bool)} (hS : Sep F R R w w []) (f1 : IsSlice Ty.int w R v1 a0.pat.lens) (f2 : IsSlice (Ty.slice Ty.int) w R v2 a0.pat.ckpts) (f3 : IsSlice arcTy w R v3 a0.pat.arcs) (f4 : IsSlice (Ty.slice Ty.int) w R v4 a0.clocks) (f5 : IsSlice (Ty.slice (Ty.slice Ty.int)) w R v5 a0.vecs) (f6 : IsSlice (Ty.slice Ty.bool) w R v6 a0.forced) (h : law25_sound fuel a0 a1 = some r) :
    Gives Try.prog 23 [.agg #[v1, v2, v3, v4, v5, v6], .int .i64 a1] w fun u w1 => ∃ (R1 : Nat → Prop), u = .bool r ∧ Sep F R R1 w w1 [] := by
  refine fn_of Try.func23 rfl Try.ntmps23 (Nat.le_of_ble_eq_true rfl) ?_
  unfold law25_sound at h
  refine e_seq fun K163 hK163 => ?_
  refine e_region_text rfl ?_
  refine q_boxB rfl rfl rfl fun w164 bl164 hg164 hb164 hB164 => ?_
  replace f1 := f1.ext hB164
  replace f2 := f2.ext hB164
  replace f3 := f3.ext hB164
  replace f4 := f4.ext hB164
  replace f5 := f5.ext hB164
  replace f6 := f6.ext hB164
  replace hS := hS.newBlk hB164 hg164 hb164
  refine q_assign rfl rfl ?_
  refine eseq_nil ?_
  refine hK163 _ _ ?_
  refine e_seq fun K166 hK166 => ?_
  refine e_seq fun K167 hK167 => ?_
  refine e_region_text rfl ?_
  refine q_field rfl rfl ?_
  refine q_field rfl rfl ?_
  refine q_load rfl (Blk.cell (hS.blk 0 rfl) rfl) rfl ?_
  refine q_lenS rfl f1 rfl ?_
  refine q_move rfl rfl ?_
  refine q_neq rfl rfl rfl ?_
  refine q_move rfl rfl ?_
  obtain ⟨x171, hx170, h⟩ := Option.of_bind h
  refine g_orM 6 hx170 rfl trivial rfl rfl ?_ ?_ ?_
  · intro hg170
    refine g_skip rfl rfl rfl ?_
    refine g_skip rfl rfl rfl ?_
    refine g_skip rfl rfl rfl ?_
    refine g_skip rfl rfl rfl ?_
    refine g_skip rfl rfl rfl ?_
    refine g_skip rfl rfl rfl ?_
    exact eseq_nil ⟨rfl, Sub.set rfl (Sub.set rfl (Sub.set rfl (Sub.set rfl (Sub.set rfl (Sub.set rfl (Sub.bool true rfl hg170))))))⟩
  · intro hg170 hx170
    clear h
    have hT170 := Below.refl (World.heap w164).size w164
    refine g_run rfl ?_; refine q_field rfl rfl ?_
    refine g_run rfl ?_; refine q_field rfl rfl ?_
    refine g_run rfl ?_; refine q_load rfl (Blk.cell (hS.blk 0 rfl) rfl) rfl ?_
    refine g_run rfl ?_; refine q_lenS rfl f2 rfl ?_
    refine g_run rfl ?_; refine q_move rfl rfl ?_
    refine g_run rfl ?_; refine q_neq rfl rfl rfl ?_
    cases hx170
    exact eseq_nil ⟨hT170, Sub.set rfl (Sub.set rfl (Sub.set rfl (Sub.set rfl (Sub.set rfl (Sub.set rfl (Sub.bool false rfl hg170)))))), rfl⟩
  intro wm170 hBm170; clear hx170
  replace hS := hS.below hBm170
  replace f1 := f1.ext hBm170
  replace f2 := f2.ext hBm170
  replace f3 := f3.ext hBm170
  replace f4 := f4.ext hBm170
  replace f5 := f5.ext hBm170
  replace f6 := f6.ext hBm170
  refine q_move rfl rfl ?_
  obtain ⟨x175, hx174, h⟩ := Option.of_bind h
  refine g_orM 5 hx174 rfl trivial rfl rfl ?_ ?_ ?_
  · intro hg174
    refine g_skip rfl rfl rfl ?_
    refine g_skip rfl rfl rfl ?_
    refine g_skip rfl rfl rfl ?_
    refine g_skip rfl rfl rfl ?_
    refine g_skip rfl rfl rfl ?_
    exact eseq_nil ⟨rfl, Sub.set rfl (Sub.set rfl (Sub.set rfl (Sub.set rfl (Sub.set rfl (Sub.bool true rfl hg174)))))⟩
  · intro hg174 hx174
    clear h
    have hT174 := Below.refl (World.heap wm170).size wm170
    refine g_run rfl ?_; refine q_field rfl rfl ?_
    refine g_run rfl ?_; refine q_load rfl (Blk.cell (hS.blk 0 rfl) rfl) rfl ?_
    refine g_run rfl ?_; refine q_lenS rfl f4 rfl ?_
    refine g_run rfl ?_; refine q_move rfl rfl ?_
    refine g_run rfl ?_; refine q_neq rfl rfl rfl ?_
    cases hx174
    exact eseq_nil ⟨hT174, Sub.set rfl (Sub.set rfl (Sub.set rfl (Sub.set rfl (Sub.set rfl (Sub.bool false rfl hg174))))), rfl⟩
  intro wm174 hBm174; clear hx174
  replace hS := hS.below hBm174
  replace f1 := f1.ext hBm174
  replace f2 := f2.ext hBm174
  replace f3 := f3.ext hBm174
  replace f4 := f4.ext hBm174
  replace f5 := f5.ext hBm174
  replace f6 := f6.ext hBm174
  refine q_move rfl rfl ?_
  obtain ⟨x179, hx178, h⟩ := Option.of_bind h
  refine g_orM 5 hx178 rfl trivial rfl rfl ?_ ?_ ?_
  · intro hg178
    refine g_skip rfl rfl rfl ?_
    refine g_skip rfl rfl rfl ?_
    refine g_skip rfl rfl rfl ?_
    refine g_skip rfl rfl rfl ?_
    refine g_skip rfl rfl rfl ?_
    exact eseq_nil ⟨rfl, Sub.set rfl (Sub.set rfl (Sub.set rfl (Sub.set rfl (Sub.set rfl (Sub.bool true rfl hg178)))))⟩
  · intro hg178 hx178
    clear h
    have hT178 := Below.refl (World.heap wm174).size wm174
    refine g_run rfl ?_; refine q_field rfl rfl ?_
    refine g_run rfl ?_; refine q_load rfl (Blk.cell (hS.blk 0 rfl) rfl) rfl ?_
    refine g_run rfl ?_; refine q_lenS rfl f6 rfl ?_
    refine g_run rfl ?_; refine q_move rfl rfl ?_
    refine g_run rfl ?_; refine q_neq rfl rfl rfl ?_
    cases hx178
    exact eseq_nil ⟨hT178, Sub.set rfl (Sub.set rfl (Sub.set rfl (Sub.set rfl (Sub.set rfl (Sub.bool false rfl hg178))))), rfl⟩
  intro wm178 hBm178; clear hx178
  replace hS := hS.below hBm178
  replace f1 := f1.ext hBm178
  replace f2 := f2.ext hBm178
  replace f3 := f3.ext hBm178
  replace f4 := f4.ext hBm178
  replace f5 := f5.ext hBm178
  replace f6 := f6.ext hBm178
  refine eseq_nil ?_
  refine hK167 _ _ ?_
  refine e_cond rfl (fun hc180 => ?_) (fun hc180 => ?_)
  · replace h := (if_pos hc180).symm.trans h
    refine e_seq fun K181 hK181 => ?_
    refine e_region_text rfl ?_
    refine q_assign rfl rfl ?_
    refine eseq_nil ?_
    refine hK181 _ _ ?_
    refine e_ret ?_
    obtain rfl := Option.some.inj h
    exact ⟨_, res1 rfl rfl, _, rfl, (hS.pickB [] 1 rfl rfl)⟩
  · replace h := (if_neg (not_true hc180)).symm.trans h
    refine e_skip ?_
    refine hK166 _ _ ?_
    refine e_seq fun K182 hK182 => ?_
    refine e_seq fun K183 hK183 => ?_
    refine e_region_text rfl ?_
    refine q_assign rfl rfl ?_
    refine eseq_nil ?_
    refine hK183 _ _ ?_
    refine e_block ?_
    obtain ⟨tl184, ht184, h⟩ := Option.of_bind h
    have hX184_0 : ∀ (R278 : Nat → Prop) (w279 : World) (E_ : Env), law25_sound_K1 fuel a0 = some r → Sep F R R278 w w279 [HP.blk bl164 [v1, v2, v3, v4, v5, v6] 35] → IsSlice Ty.int w279 R278 v1 a0.pat.lens → IsSlice (Ty.slice Ty.int) w279 R278 v2 a0.pat.ckpts → IsSlice arcTy w279 R278 v3 a0.pat.arcs → IsSlice (Ty.slice Ty.int) w279 R278 v4 a0.clocks → IsSlice (Ty.slice (Ty.slice Ty.int)) w279 R278 v5 a0.vecs → IsSlice (Ty.slice Ty.bool) w279 R278 v6 a0.forced → Sub [(2, .pointer (some ⟨bl164, 0, none⟩))] E_ → K182 E_ w279 := by
      intro R278 w279 E_ h hS f280 f281 f282 f283 f284 f285 hsub
      refine hK182 _ _ (e_sub hsub ?_); clear hsub
      unfold law25_sound_K1 at h
      refine e_seq fun K286 hK286 => ?_
      refine e_region_text rfl ?_
      refine q_field rfl rfl ?_
      refine q_loadAgg rfl (Blk.cellsAt (hS.blk 0 rfl) 0 3 rfl) rfl rfl ?_
      obtain ⟨r288, hr288, h⟩ := Option.of_bind h
      refine q_call rfl (ref16_Check_w (a0 := (⟨a0.pat.lens, a0.pat.ckpts, a0.pat.arcs⟩ : Pat)) (Sep.enter (As := []) hS) f280 f281 f282 hr288) rfl ?_
      rintro _ w287 ⟨R287, rfl, hC287⟩
      have hB287 : Below (World.heap w279).size w279 w287 := hC287.stepB0
      refine ⟨fun _ => .of_below hB287, ?_⟩
      replace f280 := (f280.ext hB287).mono fun k hk _ => hC287.ro0 k hk
      replace f281 := (f281.ext hB287).mono fun k hk _ => hC287.ro0 k hk
      replace f282 := (f282.ext hB287).mono fun k hk _ => hC287.ro0 k hk
      replace hS := Sep.leave (As := []) hS hC287; simp only [List.cons_append, List.nil_append] at hS
      refine q_eql rfl rfl rfl ?_
      refine q_assign rfl rfl ?_
      refine eseq_nil ?_
      refine hK286 _ _ ?_
      refine e_ret ?_
      obtain rfl := Option.some.inj h
      exact ⟨_, res1 rfl rfl, _, rfl, (hS.pickB [] 1 rfl rfl)⟩
    refine e_loop (fun m_ E_ w232 => ∃ (x239 : Int), ∃ (R231 : Nat → Prop), iter (fun s => law25_sound_B1 fuel a1 a0 s) m_ x239 = some tl184 ∧ Sep F R R231 w w232 [HP.blk bl164 [v1, v2, v3, v4, v5, v6] 35] ∧ IsSlice Ty.int w232 R231 v1 a0.pat.lens ∧ IsSlice (Ty.slice Ty.int) w232 R231 v2 a0.pat.ckpts ∧ IsSlice arcTy w232 R231 v3 a0.pat.arcs ∧ IsSlice (Ty.slice Ty.int) w232 R231 v4 a0.clocks ∧ IsSlice (Ty.slice (Ty.slice Ty.int)) w232 R231 v5 a0.vecs ∧ IsSlice (Ty.slice Ty.bool) w232 R231 v6 a0.forced ∧ E_ = [(1, .int .i64 a1), (2, .pointer (some ⟨bl164, 0, none⟩)), (5, .int .i64 x239)]) _ ⟨_, ⟨0, _, ht184, hS, f1, f2, f3, f4, f5, f6, rfl⟩, Sub.cons rfl (Sub.cons rfl (Sub.cons rfl (Sub.nil _)))⟩ ?_
    clear ht184 hS
    rintro m184 _ w232 ⟨x239, R231, ht184, hS, f233, f234, f235, f236, f237, f238, rfl⟩
    obtain ⟨m184, rfl, o184, ho184, ht184⟩ := iter_some ht184
    replace ho184 : law25_sound_B1 fuel a1 a0 x239 = some o184 := ho184
    unfold law25_sound_B1 at ho184
    refine e_seq fun K289 hK289 => ?_
    refine e_seq fun K290 hK290 => ?_
    refine e_region_text rfl ?_
    refine q_move rfl rfl ?_
    refine q_move rfl rfl ?_
    refine q_lss rfl rfl rfl ?_
    refine eseq_nil ?_
    refine hK290 _ _ ?_
    refine e_cond rfl (fun hc291 => ?_) (fun hc291 => ?_)
    · replace ho184 := (if_pos hc291).symm.trans ho184
      refine e_skip ?_
      refine hK289 _ _ ?_
      refine e_seq fun K292 hK292 => ?_
      refine e_block ?_
      refine e_seq fun K293 hK293 => ?_
      refine e_region_draw mixed (fun _ => False) [0, 1, 0, 7, 15, 31, 0, 64, 192, 0, 960, 1984, 4032, 8191, 16383, 32767, 65535, 32767, 262143, 524287, 1048575, 32767, 2129919, 6324223, 32767, 31490047, 65044479, 132153343, 268435455, 536870911] [] [0, 1, 2, 3, 4, 5, 6, 7, 8, 9, 10, 11, 12, 13, 14, 15, 16, 17, 18, 19, 20, 21, 22, 23, 24, 25, 26, 27, 28, 29] (by kernel_rfl) ?_
      refine q_field rfl rfl ?_
      refine q_load rfl (Blk.cell (hS.blk 0 rfl) rfl) rfl ?_
      refine q_move rfl rfl ?_
      obtain ⟨x294, hx294, ho184⟩ := Option.of_bind ho184
      refine q_atS (by infer_instance) rfl f236 rfl hx294 rfl fun b295 o295 hm295 f295 => ?_
      refine q_loadE rfl f295 rfl (fun v296 f296 => ?_)
      refine q_lenS rfl f296 rfl ?_
      refine q_field rfl rfl ?_
      refine q_field rfl rfl ?_
      refine q_load rfl (Blk.cell (hS.blk 0 rfl) rfl) rfl ?_
      refine q_move rfl rfl ?_
      obtain ⟨x297, hx297, ho184⟩ := Option.of_bind ho184
      refine q_atS (by infer_instance) rfl f234 rfl hx297 rfl fun b298 o298 hm298 f298 => ?_
      refine q_loadE rfl f298 rfl (fun v299 f299 => ?_)
      refine q_lenS rfl f299 rfl ?_
      refine q_neq rfl rfl rfl ?_
      refine q_move rfl rfl ?_
      obtain ⟨x309, hx308, ho184⟩ := Option.of_bind ho184
      refine g_orM 14 hx308 rfl trivial rfl rfl ?_ ?_ ?_
      · intro hg308
        refine g_skip rfl rfl rfl ?_
        refine g_skip rfl rfl rfl ?_
        refine g_skip rfl rfl rfl ?_
        refine g_skip rfl rfl rfl ?_
        refine g_skip rfl rfl rfl ?_
        refine g_skip rfl rfl rfl ?_
        refine g_skip rfl rfl rfl ?_
        refine g_skip rfl rfl rfl ?_
        refine g_skip rfl rfl rfl ?_
        refine g_skip rfl rfl rfl ?_
        refine g_skip rfl rfl rfl ?_
        refine g_skip rfl rfl rfl ?_
        refine g_skip rfl rfl rfl ?_
        refine g_skip rfl rfl rfl ?_
        exact eseq_nil ⟨rfl, Sub.set rfl (Sub.set rfl (Sub.set rfl (Sub.set rfl (Sub.set rfl (Sub.set rfl (Sub.set rfl (Sub.set rfl (Sub.set rfl (Sub.set rfl (Sub.set rfl (Sub.set rfl (Sub.set rfl (Sub.set rfl (Sub.bool true rfl hg308))))))))))))))⟩
      · intro hg308 hx308
        clear ho184
        have hT308 := Below.refl (World.heap w232).size w232
        refine g_run rfl ?_; refine q_field rfl rfl ?_
        refine g_run rfl ?_; refine q_load rfl (Blk.cell (hS.blk 0 rfl) rfl) rfl ?_
        refine g_run rfl ?_; refine q_move rfl rfl ?_
        obtain ⟨x310, hx310, hx308⟩ := Option.of_bind hx308
        refine g_run rfl ?_; refine q_atS (by infer_instance) rfl f238 rfl hx310 rfl fun b311 o311 hm311 f311 => ?_
        refine g_run rfl ?_; refine q_loadE rfl f311 rfl (fun v312 f312 => ?_)
        refine g_run rfl ?_; refine q_lenS rfl f312 rfl ?_
        refine g_run rfl ?_; refine q_field rfl rfl ?_
        refine g_run rfl ?_; refine q_field rfl rfl ?_
        refine g_run rfl ?_; refine q_load rfl (Blk.cell (hS.blk 0 rfl) rfl) rfl ?_
        refine g_run rfl ?_; refine q_move rfl rfl ?_
        obtain ⟨x313, hx313, hx308⟩ := Option.of_bind hx308
        refine g_run rfl ?_; refine q_atS (by infer_instance) rfl f234 rfl hx313 rfl fun b314 o314 hm314 f314 => ?_
        refine g_run rfl ?_; refine q_loadE rfl f314 rfl (fun v315 f315 => ?_)
        refine g_run rfl ?_; refine q_lenS rfl f315 rfl ?_
        refine g_run rfl ?_; refine q_neq rfl rfl rfl ?_
        cases hx308
        exact eseq_nil ⟨hT308, Sub.set rfl (Sub.set rfl (Sub.set rfl (Sub.set rfl (Sub.set rfl (Sub.set rfl (Sub.set rfl (Sub.set rfl (Sub.set rfl (Sub.set rfl (Sub.set rfl (Sub.set rfl (Sub.set rfl (Sub.set rfl (Sub.bool false rfl hg308)))))))))))))), rfl⟩
      intro wm308 hBm308; clear hx308
      replace hS := hS.below hBm308
      replace f233 := f233.ext hBm308
      replace f234 := f234.ext hBm308
      replace f235 := f235.ext hBm308
      replace f236 := f236.ext hBm308
      replace f237 := f237.ext hBm308
      replace f238 := f238.ext hBm308
      refine eseq_nil ?_
      refine hK293 _ _ ?_
      refine e_cond rfl (fun hc316 => ?_) (fun hc316 => ?_)
      · replace ho184 := (if_pos hc316).symm.trans ho184
        refine e_seq fun K317 hK317 => ?_
        refine e_region_text rfl ?_
        refine q_assign rfl rfl ?_
        refine eseq_nil ?_
        refine hK317 _ _ ?_
        refine e_ret ?_
        obtain rfl := Option.some.inj ho184
        obtain rfl := Option.some.inj ht184
        obtain rfl := Option.some.inj h
        exact ⟨_, res1 rfl rfl, _, rfl, (hS.pickB [] 1 rfl rfl)⟩
      · replace ho184 := (if_neg (not_true hc316)).symm.trans ho184
        refine e_skip ?_
        refine hK292 _ _ ?_
        refine e_region_text rfl ?_
        refine q_move rfl rfl ?_
        refine q_addW rfl rfl rfl ?_
        refine q_assign rfl rfl ?_
        refine eseq_nil ?_
        obtain rfl := Option.some.inj ho184
        exact ⟨m184, _, Nat.lt_succ_self _, ⟨(w64 (x239 + 1)), _, ht184, hS, f233, f234, f235, f236, f237, f238, rfl⟩, Sub.cons rfl (Sub.cons rfl (Sub.cons rfl (Sub.nil _)))⟩
    · replace ho184 := (if_neg (not_true hc291)).symm.trans ho184
      refine e_exit ?_
      obtain rfl := Option.some.inj ho184
      obtain rfl := Option.some.inj ht184
      exact hX184_0  _ _ _ h hS f233 f234 f235 f236 f237 f238 (Sub.cons rfl (Sub.nil _))
theorem indexed_Line_1_w {F R : Nat → Prop} {w : World} {fuel : Nat} {a0 : Int} {c1_0 : Int} {B1 : Nat} {r : (Bool)} (hS : Sep F R R w w []) (f1 : Lent w R B1 [.int .i64 c1_0] 3) (h : indexed_Line_1 fuel a0 c1_0 = some r) :
    Gives Try.prog 59 [.int .i64 a0, .pointer (some ⟨B1, 0, none⟩)] w fun u w1 => ∃ (R1 : Nat → Prop), u = .bool r ∧ Sep F R R1 w w1 [] := by
  refine fn_of Try.func59 rfl Try.ntmps59 (Nat.le_of_ble_eq_true rfl) ?_
  unfold indexed_Line_1 at h
  refine e_seq fun K4 hK4 => ?_
  refine e_region_text rfl ?_
  refine q_assign rfl rfl ?_
  refine eseq_nil ?_
  refine hK4 _ _ ?_
  refine e_seq fun K5 hK5 => ?_
  refine e_region_text rfl ?_
  refine q_move rfl rfl ?_
  refine q_load rfl (Blk.cell f1.blk rfl) rfl ?_
  refine q_geq rfl rfl rfl ?_
  refine q_assign rfl rfl ?_
  refine eseq_nil ?_
  refine hK5 _ _ ?_
  refine e_ret ?_
  obtain rfl := Option.some.inj h
  exact ⟨_, res1 rfl rfl, _, rfl, hS⟩
theorem IndexLine_w {F R : Nat → Prop} {w : World} {fuel : Nat} {a0 : (List Int)} {c1a_0 : Int} {v1 : Value} {B1_0 : Nat} {r : (Int)} (hS : Sep F R R w w []) (f1 : IsSlice Ty.int w R v1 a0) (f2 : Lent w R B1_0 [.int .i64 c1a_0] 3) (h : IndexLine fuel a0 c1a_0 = some r) :
    Gives Try.prog 58 [v1, .func (.func 59) #[] #[.pointer (some ⟨B1_0, 0, none⟩)]] w fun u w1 => ∃ (R1 : Nat → Prop), u = .int .i64 r ∧ Sep F R R1 w w1 [] := by
  refine fn_of Try.func58 rfl Try.ntmps58 (Nat.le_of_ble_eq_true rfl) ?_
  unfold IndexLine at h
  refine e_seq fun K66 hK66 => ?_
  refine e_region_text rfl ?_
  refine q_assign rfl rfl ?_
  refine eseq_nil ?_
  refine hK66 _ _ ?_
  refine e_seq fun K67 hK67 => ?_
  refine e_seq fun K68 hK68 => ?_
  refine e_region_text rfl ?_
  refine q_move rfl rfl ?_
  refine q_lenS rfl f1 rfl ?_
  refine q_move rfl rfl ?_
  refine eseq_nil ?_
  refine hK68 _ _ ?_
  refine e_block ?_
  obtain ⟨tl69, ht69, h⟩ := Option.of_bind h
  have hX69_0 : ∀ (R113 : Nat → Prop) (w114 : World) (E_ : Env), IndexLine_K1 fuel = some r → Sep F R R113 w w114 [] → Sub [] E_ → K67 E_ w114 := by
    intro R113 w114 E_ h hS  hsub
    refine hK67 _ _ (e_sub hsub ?_); clear hsub
    unfold IndexLine_K1 at h
    refine e_seq fun K115 hK115 => ?_
    refine e_region_text rfl ?_
    refine q_assign rfl rfl ?_
    refine eseq_nil ?_
    refine hK115 _ _ ?_
    refine e_ret ?_
    obtain rfl := Option.some.inj h
    exact ⟨_, res1 rfl rfl, _, rfl, hS⟩
  refine e_loop (fun m_ E_ w92 => ∃ (x95 : Int), ∃ (R91 : Nat → Prop), iter (fun s => IndexLine_B1 fuel a0 c1a_0 s) m_ x95 = some tl69 ∧ Sep F R R91 w w92 [] ∧ IsSlice Ty.int w92 R91 v1 a0 ∧ Lent w92 R91 B1_0 [.int .i64 c1a_0] 3 ∧ E_ = [(0, v1), (1, .func (.func 59) #[] #[.pointer (some ⟨B1_0, 0, none⟩)]), (7, .int .i64 (a0.length : Int)), (8, .int .i64 x95)]) _ ⟨_, ⟨0, _, ht69, hS, f1, f2, rfl⟩, Sub.cons rfl (Sub.cons rfl (Sub.cons rfl (Sub.cons rfl (Sub.nil _))))⟩ ?_
  clear ht69 hS
  rintro m69 _ w92 ⟨x95, R91, ht69, hS, f93, f94, rfl⟩
  obtain ⟨m69, rfl, o69, ho69, ht69⟩ := iter_some ht69
  replace ho69 : IndexLine_B1 fuel a0 c1a_0 x95 = some o69 := ho69
  unfold IndexLine_B1 at ho69
  refine e_seq fun K116 hK116 => ?_
  refine e_region_text rfl ?_
  refine q_lss rfl rfl rfl ?_
  refine eseq_nil ?_
  refine hK116 _ _ ?_
  refine e_seq fun K117 hK117 => ?_
  refine e_cond rfl (fun hc118 => ?_) (fun hc118 => ?_)
  · replace ho69 := (if_pos hc118).symm.trans ho69
    refine e_skip ?_
    refine hK117 _ _ ?_
    refine e_seq fun K119 hK119 => ?_
    refine e_block ?_
    refine e_seq fun K120 hK120 => ?_
    refine e_region_text rfl ?_
    refine q_move rfl rfl ?_
    refine q_assign rfl rfl ?_
    refine eseq_nil ?_
    refine hK120 _ _ ?_
    refine e_seq fun K121 hK121 => ?_
    refine e_region_text rfl ?_
    refine q_move rfl rfl ?_
    refine q_move rfl rfl ?_
    refine q_move rfl rfl ?_
    obtain ⟨x122, hx122, ho69⟩ := Option.of_bind ho69
    refine q_atS (by infer_instance) rfl f93 rfl hx122 rfl fun b123 o123 hm123 f123 => ?_
    refine q_load rfl (Elt.intCell f123) rfl ?_
    obtain ⟨r125, hr125, ho69⟩ := Option.of_bind ho69
    refine q_callC rfl rfl (indexed_Line_1_w (Sep.enter (As := []) hS) f94 hr125) rfl ?_
    rintro _ w124 ⟨R124, rfl, hC124⟩
    have hB124 : Below (World.heap w92).size w92 w124 := hC124.stepB0
    refine ⟨fun _ => .of_below hB124, ?_⟩
    replace f93 := (f93.ext hB124).mono fun k hk _ => hC124.ro0 k hk
    replace f94 := (f94.ext hB124).mono fun k hk _ => hC124.ro0 k hk
    replace hS := Sep.leave (As := []) hS hC124; simp only [List.cons_append, List.nil_append] at hS
    refine eseq_nil ?_
    refine hK121 _ _ ?_
    refine e_cond rfl (fun hc126 => ?_) (fun hc126 => ?_)
    · replace ho69 := (if_pos hc126).symm.trans ho69
      refine e_seq fun K127 hK127 => ?_
      refine e_region_text rfl ?_
      refine q_move rfl rfl ?_
      refine q_assign rfl rfl ?_
      refine eseq_nil ?_
      refine hK127 _ _ ?_
      refine e_ret ?_
      obtain rfl := Option.some.inj ho69
      obtain rfl := Option.some.inj ht69
      obtain rfl := Option.some.inj h
      exact ⟨_, res1 rfl rfl, _, rfl, hS⟩
    · replace ho69 := (if_neg (not_true hc126)).symm.trans ho69
      refine e_skip ?_
      refine hK119 _ _ ?_
      refine e_region_text rfl ?_
      refine q_addW rfl rfl rfl ?_
      refine q_move rfl rfl ?_
      refine eseq_nil ?_
      obtain rfl := Option.some.inj ho69
      exact ⟨m69, _, Nat.lt_succ_self _, ⟨(w64 (x95 + 1)), _, ht69, hS, f93, f94, rfl⟩, Sub.cons rfl (Sub.cons rfl (Sub.cons rfl (Sub.cons rfl (Sub.nil _))))⟩
  · replace ho69 := (if_neg (not_true hc118)).symm.trans ho69
    refine e_exit ?_
    obtain rfl := Option.some.inj ho69
    obtain rfl := Option.some.inj ht69
    exact hX69_0  _ _ _ h hS  (Sub.nil _)
theorem indexed_Line_w {F R : Nat → Prop} {w : World} {fuel : Nat} {a0 : Hist} {a1 : Int} {v1 : Value} {v2 : Value} {v3 : Value} {v4 : Value} {v5 : Value} {v6 : Value} {r : ((List Int))} (hS : Sep F R R w w []) (f1 : IsSlice Ty.int w R v1 a0.pat.lens) (f2 : IsSlice (Ty.slice Ty.int) w R v2 a0.pat.ckpts) (f3 : IsSlice arcTy w R v3 a0.pat.arcs) (f4 : IsSlice (Ty.slice Ty.int) w R v4 a0.clocks) (f5 : IsSlice (Ty.slice (Ty.slice Ty.int)) w R v5 a0.vecs) (f6 : IsSlice (Ty.slice Ty.bool) w R v6 a0.forced) (h : indexed_Line fuel a0 a1 = some r) :
    Gives Try.prog 24 [.agg #[v1, v2, v3, v4, v5, v6], .int .i64 a1] w fun u w1 => ∃ (v315 : Value), ∃ (R1 : Nat → Prop), u = v315 ∧ Sep F R R1 w w1 [HP.own Ty.int (fun _ => False) 3 v315 r] := by
  refine fn_of Try.func24 rfl Try.ntmps24 (Nat.le_of_ble_eq_true rfl) ?_
  unfold indexed_Line at h
  refine e_seq fun K316 hK316 => ?_
  refine e_region_text rfl ?_
  refine q_boxB rfl rfl rfl fun w317 bl317 hg317 hb317 hB317 => ?_
  replace f1 := f1.ext hB317
  replace f2 := f2.ext hB317
  replace f3 := f3.ext hB317
  replace f4 := f4.ext hB317
  replace f5 := f5.ext hB317
  replace f6 := f6.ext hB317
  replace hS := hS.newBlk hB317 hg317 hb317
  refine q_boxB rfl rfl rfl fun w319 bl319 hg319 hb319 hB319 => ?_
  replace f1 := f1.ext hB319
  replace f2 := f2.ext hB319
  replace f3 := f3.ext hB319
  replace f4 := f4.ext hB319
  replace f5 := f5.ext hB319
  replace f6 := f6.ext hB319
  replace hS := hS.newBlk hB319 hg319 hb319
  refine q_assign rfl rfl ?_
  refine eseq_nil ?_
  refine hK316 _ _ ?_
  refine e_seq fun K321 hK321 => ?_
  refine e_region_text rfl ?_
  refine q_assign rfl rfl ?_
  refine eseq_nil ?_
  refine hK321 _ _ ?_
  refine e_seq fun K322 hK322 => ?_
  refine e_seq fun K323 hK323 => ?_
  refine e_region_text rfl ?_
  refine q_field rfl rfl ?_
  refine q_field rfl rfl ?_
  refine q_load rfl (Blk.cell (hS.blk 1 rfl) rfl) rfl ?_
  refine q_lenS rfl f1 rfl ?_
  refine q_move rfl rfl ?_
  refine eseq_nil ?_
  refine hK323 _ _ ?_
  refine e_block ?_
  obtain ⟨tl324, ht324, h⟩ := Option.of_bind h
  have hX324_0 : ∀ (x539 : (List Int)) (v538 : Value) (R535 : Nat → Prop) (w536 : World) (E_ : Env), indexed_Line_K1 fuel x539 = some r → Sep F R R535 w w536 [HP.own Ty.int (fun _ => False) 3 v538 x539] → Sub [(5, v538)] E_ → K322 E_ w536 := by
    intro x539 v538 R535 w536 E_ h hS  hsub
    refine hK322 _ _ (e_sub hsub ?_); clear hsub
    unfold indexed_Line_K1 at h
    refine e_seq fun K540 hK540 => ?_
    refine e_region_text rfl ?_
    refine q_move rfl rfl ?_
    refine q_assign rfl rfl ?_
    refine eseq_nil ?_
    refine hK540 _ _ ?_
    refine e_ret ?_
    obtain rfl := Option.some.inj h
    exact ⟨_, res1 rfl rfl, v538, _, rfl, hS⟩
  replace hS := hS.nilOwn0 Ty.int 3
  refine e_loop (fun m_ E_ w429 => ∃ (x438 : (List Int)), ∃ (x440 : Int), ∃ (v437 : Value), ∃ (R428 : Nat → Prop), iter (fun s => indexed_Line_B1 fuel a0 a1 s.1 s.2) m_ (x438, x440) = some tl324 ∧ Sep F R R428 w w429 [HP.blk bl317 [v1, v2, v3, v4, v5, v6] 35, HP.blk bl319 [.int .i64 a1] 3, HP.own Ty.int (fun _ => False) 3 v437 x438] ∧ IsSlice Ty.int w429 R428 v1 a0.pat.lens ∧ IsSlice (Ty.slice Ty.int) w429 R428 v2 a0.pat.ckpts ∧ IsSlice arcTy w429 R428 v3 a0.pat.arcs ∧ IsSlice (Ty.slice Ty.int) w429 R428 v4 a0.clocks ∧ IsSlice (Ty.slice (Ty.slice Ty.int)) w429 R428 v5 a0.vecs ∧ IsSlice (Ty.slice Ty.bool) w429 R428 v6 a0.forced ∧ IsSlice Ty.int w429 R428 v1 a0.pat.lens ∧ E_ = [(2, .pointer (some ⟨bl317, 0, none⟩)), (3, .pointer (some ⟨bl319, 0, none⟩)), (5, v437), (11, v1), (12, .int .i64 (a0.pat.lens.length : Int)), (13, .int .i64 x440)]) _ ⟨_, ⟨([] : List Int), 0, (.slice none 0 0), _, ht324, (hS.pickB [2, 1, 0] 3 rfl rfl), f1, f2, f3, f4, f5, f6, f1, rfl⟩, Sub.cons rfl (Sub.cons rfl (Sub.cons rfl (Sub.cons rfl (Sub.cons rfl (Sub.cons rfl (Sub.nil _))))))⟩ ?_
  clear ht324 hS
  rintro m324 _ w429 ⟨x438, x440, v437, R428, ht324, hS, f430, f431, f432, f433, f434, f435, f439, rfl⟩
  obtain ⟨m324, rfl, o324, ho324, ht324⟩ := iter_some ht324
  replace ho324 : indexed_Line_B1 fuel a0 a1 x438 x440 = some o324 := ho324
  unfold indexed_Line_B1 at ho324
  refine e_seq fun K542 hK542 => ?_
  refine e_region_text rfl ?_
  refine q_lss rfl rfl rfl ?_
  refine eseq_nil ?_
  refine hK542 _ _ ?_
  refine e_seq fun K543 hK543 => ?_
  refine e_cond rfl (fun hc544 => ?_) (fun hc544 => ?_)
  · replace ho324 := (if_pos hc544).symm.trans ho324
    refine e_skip ?_
    refine hK543 _ _ ?_
    refine e_seq fun K545 hK545 => ?_
    refine e_block ?_
    refine e_seq fun K546 hK546 => ?_
    refine e_region_text rfl ?_
    refine q_move rfl rfl ?_
    obtain ⟨x547, hx547, ho324⟩ := Option.of_bind ho324
    refine q_atS (by infer_instance) rfl f439 rfl hx547 rfl fun b548 o548 hm548 f548 => ?_
    refine q_load rfl (Elt.intCell f548) rfl ?_
    refine q_assign rfl rfl ?_
    refine q_assign rfl rfl ?_
    refine eseq_nil ?_
    refine hK546 _ _ ?_
    refine e_seq fun K549 hK549 => ?_
    have hJ549 : ∀ (x588 : Int) (R579 : Nat → Prop) (w580 : World) (E_ : Env), indexed_Line_J1 fuel x438 x440 x588 = some o324 → Sep F R R579 w w580 [HP.blk bl317 [v1, v2, v3, v4, v5, v6] 35, HP.blk bl319 [.int .i64 a1] 3, HP.own Ty.int (fun _ => False) 3 v437 x438] → IsSlice Ty.int w580 R579 v1 a0.pat.lens → IsSlice (Ty.slice Ty.int) w580 R579 v2 a0.pat.ckpts → IsSlice arcTy w580 R579 v3 a0.pat.arcs → IsSlice (Ty.slice Ty.int) w580 R579 v4 a0.clocks → IsSlice (Ty.slice (Ty.slice Ty.int)) w580 R579 v5 a0.vecs → IsSlice (Ty.slice Ty.bool) w580 R579 v6 a0.forced → IsSlice Ty.int w580 R579 v1 a0.pat.lens → Sub [(2, .pointer (some ⟨bl317, 0, none⟩)), (3, .pointer (some ⟨bl319, 0, none⟩)), (5, v437), (7, .int .i64 x588), (11, v1), (12, .int .i64 (a0.pat.lens.length : Int)), (13, .int .i64 x440)] E_ → K549 E_ w580 := by
      intro x588 R579 w580 E_ ho324 hS f581 f582 f583 f584 f585 f586 f589 hsub
      refine hK549 _ _ (e_sub hsub ?_); clear hsub
      unfold indexed_Line_J1 at ho324
      refine e_region_text rfl ?_
      refine q_move rfl rfl ?_
      refine q_move rfl rfl ?_
      refine q_litO (T := Ty.int) (S := (fun _ => False)) (cells := [[.int .i64 x588]]) (ys := [x588]) ((Parts.cons rfl rfl Parts.nil)) rfl rfl rfl rfl rfl rfl rfl (fun w1 hB => ⟨rfl, trivial⟩) (fun _ h => h.elim) rfl fun w590 v590 ho590 hv590 hB590 => ?_
      replace f581 := f581.ext hB590
      replace f582 := f582.ext hB590
      replace f583 := f583.ext hB590
      replace f584 := f584.ext hB590
      replace f585 := f585.ext hB590
      replace f586 := f586.ext hB590
      replace f589 := f589.ext hB590
      replace hS := hS.newOwnS hB590 ho590 hv590 (fun _ h => h.elim)
      obtain ⟨x593, hx593, ho324⟩ := Option.of_bind ho324
      refine q_catOwn (T := Ty.int) rfl rfl rfl rfl (hS.own 3 rfl) rfl (hS.own 0 rfl) (fun _ h _ => h.elim) (snoc_cat hx593) (Nat.zero_le _) rfl (fun h => by cases h) fun v592 w592 hw592 hgr592 hnw592 => ?_
      have hk592 := hS.keptOwn 3 rfl hgr592
      replace f581 := f581.kept hk592
      replace f582 := f582.kept hk592
      replace f583 := f583.kept hk592
      replace f584 := f584.kept hk592
      replace f585 := f585.kept hk592
      replace f586 := f586.kept hk592
      replace f589 := f589.kept hk592
      replace hS := hS.setOwn 3 rfl hw592 hgr592 hnw592; simp only [List.set] at hS
      refine q_assign rfl rfl ?_
      refine eseq_nil ?_
      refine hK545 _ _ ?_
      refine e_region_text rfl ?_
      refine q_addW rfl rfl rfl ?_
      refine q_move rfl rfl ?_
      refine eseq_nil ?_
      obtain rfl := Option.some.inj ho324
      exact ⟨m324, _, Nat.lt_succ_self _, ⟨x593, (w64 (x440 + 1)), v592, _, ht324, (hS.pickB [1, 2, 3] 4 rfl rfl), f581, f582, f583, f584, f585, f586, f589, rfl⟩, Sub.cons rfl (Sub.cons rfl (Sub.cons rfl (Sub.cons rfl (Sub.cons rfl (Sub.cons rfl (Sub.nil _))))))⟩
    refine e_seq fun K594 hK594 => ?_
    refine e_region_text rfl ?_
    refine q_move rfl rfl ?_
    refine q_field rfl rfl ?_
    refine q_load rfl (Blk.cell (hS.blk 0 rfl) rfl) rfl ?_
    refine q_lenS rfl f433 rfl ?_
    refine q_lss rfl rfl rfl ?_
    refine q_move rfl rfl ?_
    obtain ⟨x598, hx597, ho324⟩ := Option.of_bind ho324
    refine g_andM 6 hx597 rfl trivial rfl rfl ?_ ?_ ?_
    · intro hg597 hx597
      clear ho324
      have hT597 := Below.refl (World.heap w429).size w429
      refine g_run rfl ?_; refine q_move rfl rfl ?_
      refine g_run rfl ?_; refine q_field rfl rfl ?_
      refine g_run rfl ?_; refine q_field rfl rfl ?_
      refine g_run rfl ?_; refine q_load rfl (Blk.cell (hS.blk 0 rfl) rfl) rfl ?_
      refine g_run rfl ?_; refine q_lenS rfl f431 rfl ?_
      refine g_run rfl ?_; refine q_lss rfl rfl rfl ?_
      cases hx597
      exact eseq_nil ⟨hT597, Sub.set rfl (Sub.set rfl (Sub.set rfl (Sub.set rfl (Sub.set rfl (Sub.set rfl (Sub.bool true rfl hg597)))))), rfl⟩
    · intro hg597
      refine g_skip rfl rfl rfl ?_
      refine g_skip rfl rfl rfl ?_
      refine g_skip rfl rfl rfl ?_
      refine g_skip rfl rfl rfl ?_
      refine g_skip rfl rfl rfl ?_
      refine g_skip rfl rfl rfl ?_
      exact eseq_nil ⟨rfl, Sub.set rfl (Sub.set rfl (Sub.set rfl (Sub.set rfl (Sub.set rfl (Sub.set rfl (Sub.bool false rfl hg597))))))⟩
    intro wm597 hBm597; clear hx597
    replace hS := hS.below hBm597
    replace f430 := f430.ext hBm597
    replace f431 := f431.ext hBm597
    replace f432 := f432.ext hBm597
    replace f433 := f433.ext hBm597
    replace f434 := f434.ext hBm597
    replace f435 := f435.ext hBm597
    replace f439 := f439.ext hBm597
    refine eseq_nil ?_
    refine hK594 _ _ ?_
    refine e_cond rfl (fun hc599 => ?_) (fun hc599 => ?_)
    · replace ho324 := (if_pos hc599).symm.trans ho324
      refine e_seq fun K600 hK600 => ?_
      refine e_region_text rfl ?_
      refine q_field rfl rfl ?_
      refine q_load rfl (Blk.cell (hS.blk 0 rfl) rfl) rfl ?_
      refine q_move rfl rfl ?_
      obtain ⟨x601, hx601, ho324⟩ := Option.of_bind ho324
      refine q_atS (by infer_instance) rfl f433 rfl hx601 rfl fun b602 o602 hm602 f602 => ?_
      refine q_loadE rfl f602 rfl (fun v603 f603 => ?_)
      refine q_makeFunc rfl rfl ?_
      obtain ⟨r605, hr605, ho324⟩ := Option.of_bind ho324
      refine q_call rfl (IndexLine_w (Sep.all wm597) (f603).old (Lent.of (hS.blk 1 rfl)) hr605) rfl ?_
      rintro _ w604 ⟨R604, rfl, hC604⟩
      have hB604 : Below (World.heap wm597).size wm597 w604 := hC604.stepBF
      refine ⟨fun _ => .of_below hB604, ?_⟩
      replace f430 := f430.ext hB604
      replace f431 := f431.ext hB604
      replace f432 := f432.ext hB604
      replace f433 := f433.ext hB604
      replace f434 := f434.ext hB604
      replace f435 := f435.ext hB604
      replace f439 := f439.ext hB604
      replace f603 := f603.ext hB604
      replace hS := hS.below hB604
      refine q_assign rfl rfl ?_
      refine eseq_nil ?_
      refine hK600 _ _ ?_
      refine e_seq fun K606 hK606 => ?_
      refine e_region_text rfl ?_
      refine q_move rfl rfl ?_
      refine q_geq rfl rfl rfl ?_
      refine q_move rfl rfl ?_
      obtain ⟨x613, hx612, ho324⟩ := Option.of_bind ho324
      refine g_andM 9 hx612 rfl trivial rfl rfl ?_ ?_ ?_
      · intro hg612 hx612
        clear ho324
        have hT612 := Below.refl (World.heap w604).size w604
        refine g_run rfl ?_; refine q_move rfl rfl ?_
        refine g_run rfl ?_; refine q_field rfl rfl ?_
        refine g_run rfl ?_; refine q_field rfl rfl ?_
        refine g_run rfl ?_; refine q_load rfl (Blk.cell (hS.blk 0 rfl) rfl) rfl ?_
        refine g_run rfl ?_; refine q_move rfl rfl ?_
        obtain ⟨x614, hx614, hx612⟩ := Option.of_bind hx612
        refine g_run rfl ?_; refine q_atS (by infer_instance) rfl f431 rfl hx614 rfl fun b615 o615 hm615 f615 => ?_
        refine g_run rfl ?_; refine q_loadE rfl f615 rfl (fun v616 f616 => ?_)
        refine g_run rfl ?_; refine q_lenS rfl f616 rfl ?_
        refine g_run rfl ?_; refine q_lss rfl rfl rfl ?_
        cases hx612
        exact eseq_nil ⟨hT612, Sub.set rfl (Sub.set rfl (Sub.set rfl (Sub.set rfl (Sub.set rfl (Sub.set rfl (Sub.set rfl (Sub.set rfl (Sub.set rfl (Sub.bool true rfl hg612))))))))), rfl⟩
      · intro hg612
        refine g_skip rfl rfl rfl ?_
        refine g_skip rfl rfl rfl ?_
        refine g_skip rfl rfl rfl ?_
        refine g_skip rfl rfl rfl ?_
        refine g_skip rfl rfl rfl ?_
        refine g_skip rfl rfl rfl ?_
        refine g_skip rfl rfl rfl ?_
        refine g_skip rfl rfl rfl ?_
        refine g_skip rfl rfl rfl ?_
        exact eseq_nil ⟨rfl, Sub.set rfl (Sub.set rfl (Sub.set rfl (Sub.set rfl (Sub.set rfl (Sub.set rfl (Sub.set rfl (Sub.set rfl (Sub.set rfl (Sub.bool false rfl hg612)))))))))⟩
      intro wm612 hBm612; clear hx612
      replace hS := hS.below hBm612
      replace f430 := f430.ext hBm612
      replace f431 := f431.ext hBm612
      replace f432 := f432.ext hBm612
      replace f433 := f433.ext hBm612
      replace f434 := f434.ext hBm612
      replace f435 := f435.ext hBm612
      replace f439 := f439.ext hBm612
      refine eseq_nil ?_
      refine hK606 _ _ ?_
      refine e_cond rfl (fun hc617 => ?_) (fun hc617 => ?_)
      · replace ho324 := (if_pos hc617).symm.trans ho324
        refine e_region_text rfl ?_
        refine q_field rfl rfl ?_
        refine q_field rfl rfl ?_
        refine q_load rfl (Blk.cell (hS.blk 0 rfl) rfl) rfl ?_
        refine q_move rfl rfl ?_
        obtain ⟨x618, hx618, ho324⟩ := Option.of_bind ho324
        refine q_atS (by infer_instance) rfl f431 rfl hx618 rfl fun b619 o619 hm619 f619 => ?_
        refine q_loadE rfl f619 rfl (fun v620 f620 => ?_)
        refine q_move rfl rfl ?_
        obtain ⟨x621, hx621, ho324⟩ := Option.of_bind ho324
        refine q_atS (by infer_instance) rfl f620 rfl hx621 rfl fun b622 o622 hm622 f622 => ?_
        refine q_load rfl (Elt.intCell f622) rfl ?_
        refine q_assign rfl rfl ?_
        refine eseq_nil ?_
        exact hJ549 x621 _ _ _ ho324 hS f430 f431 f432 f433 f434 f435 f439 (Sub.cons rfl (Sub.cons rfl (Sub.cons rfl (Sub.cons rfl (Sub.cons rfl (Sub.cons rfl (Sub.cons rfl (Sub.nil _))))))))
      · replace ho324 := (if_neg (not_true hc617)).symm.trans ho324
        refine e_skip ?_
        exact hJ549 x547 _ _ _ ho324 hS f430 f431 f432 f433 f434 f435 f439 (Sub.cons rfl (Sub.cons rfl (Sub.cons rfl (Sub.cons rfl (Sub.cons rfl (Sub.cons rfl (Sub.cons rfl (Sub.nil _))))))))
    · replace ho324 := (if_neg (not_true hc599)).symm.trans ho324
      refine e_skip ?_
      exact hJ549 x547 _ _ _ ho324 hS f430 f431 f432 f433 f434 f435 f439 (Sub.cons rfl (Sub.cons rfl (Sub.cons rfl (Sub.cons rfl (Sub.cons rfl (Sub.cons rfl (Sub.cons rfl (Sub.nil _))))))))
  · replace ho324 := (if_neg (not_true hc544)).symm.trans ho324
    refine e_exit ?_
    obtain rfl := Option.some.inj ho324
    obtain rfl := Option.some.inj ht324
    exact hX324_0 x438 v437 _ _ _ h (hS.pickB [2] 3 rfl rfl)  (Sub.cons rfl (Sub.nil _))
theorem ref25_Line_w {F R : Nat → Prop} {w : World} {fuel : Nat} {a0 : Hist} {a1 : Int} {v1 : Value} {v2 : Value} {v3 : Value} {v4 : Value} {v5 : Value} {v6 : Value} {r : ((List Int))} (hS : Sep F R R w w []) (f1 : IsSlice Ty.int w R v1 a0.pat.lens) (f2 : IsSlice (Ty.slice Ty.int) w R v2 a0.pat.ckpts) (f3 : IsSlice arcTy w R v3 a0.pat.arcs) (f4 : IsSlice (Ty.slice Ty.int) w R v4 a0.clocks) (f5 : IsSlice (Ty.slice (Ty.slice Ty.int)) w R v5 a0.vecs) (f6 : IsSlice (Ty.slice Ty.bool) w R v6 a0.forced) (h : ref25_Line fuel a0 a1 = some r) :
    Gives Try.prog 26 [.agg #[v1, v2, v3, v4, v5, v6], .int .i64 a1] w fun u w1 => ∃ (v471 : Value), ∃ (R1 : Nat → Prop), u = v471 ∧ Sep F R R1 w w1 [HP.own Ty.int (fun _ => False) 3 v471 r] := by
  refine fn_of Try.func26 rfl Try.ntmps26 (Nat.le_of_ble_eq_true rfl) ?_
  unfold ref25_Line at h
  refine e_seq fun K472 hK472 => ?_
  refine e_region_text rfl ?_
  refine q_boxB rfl rfl rfl fun w473 bl473 hg473 hb473 hB473 => ?_
  replace f1 := f1.ext hB473
  replace f2 := f2.ext hB473
  replace f3 := f3.ext hB473
  replace f4 := f4.ext hB473
  replace f5 := f5.ext hB473
  replace f6 := f6.ext hB473
  replace hS := hS.newBlk hB473 hg473 hb473
  refine q_assign rfl rfl ?_
  refine eseq_nil ?_
  refine hK472 _ _ ?_
  refine e_seq fun K475 hK475 => ?_
  refine e_region_text rfl ?_
  refine q_assign rfl rfl ?_
  refine eseq_nil ?_
  refine hK475 _ _ ?_
  refine e_seq fun K476 hK476 => ?_
  refine e_seq fun K477 hK477 => ?_
  refine e_region_text rfl ?_
  refine q_assign rfl rfl ?_
  refine eseq_nil ?_
  refine hK477 _ _ ?_
  refine e_block ?_
  obtain ⟨tl478, ht478, h⟩ := Option.of_bind h
  have hX478_0 : ∀ (x795 : (List Int)) (v794 : Value) (R791 : Nat → Prop) (w792 : World) (E_ : Env), ref25_Line_K1 fuel x795 = some r → Sep F R R791 w w792 [HP.own Ty.int (fun _ => False) 3 v794 x795] → Sub [(5, v794)] E_ → K476 E_ w792 := by
    intro x795 v794 R791 w792 E_ h hS  hsub
    refine hK476 _ _ (e_sub hsub ?_); clear hsub
    unfold ref25_Line_K1 at h
    refine e_seq fun K796 hK796 => ?_
    refine e_region_text rfl ?_
    refine q_move rfl rfl ?_
    refine q_assign rfl rfl ?_
    refine eseq_nil ?_
    refine hK796 _ _ ?_
    refine e_ret ?_
    obtain rfl := Option.some.inj h
    exact ⟨_, res1 rfl rfl, v794, _, rfl, hS⟩
  replace hS := hS.nilOwn0 Ty.int 3
  refine e_loop (fun m_ E_ w631 => ∃ (x640 : (List Int)), ∃ (x641 : Int), ∃ (v639 : Value), ∃ (R630 : Nat → Prop), iter (fun s => ref25_Line_B1 fuel a0 a1 s.1 s.2) m_ (x640, x641) = some tl478 ∧ Sep F R R630 w w631 [HP.blk bl473 [v1, v2, v3, v4, v5, v6] 35, HP.own Ty.int (fun _ => False) 3 v639 x640] ∧ IsSlice Ty.int w631 R630 v1 a0.pat.lens ∧ IsSlice (Ty.slice Ty.int) w631 R630 v2 a0.pat.ckpts ∧ IsSlice arcTy w631 R630 v3 a0.pat.arcs ∧ IsSlice (Ty.slice Ty.int) w631 R630 v4 a0.clocks ∧ IsSlice (Ty.slice (Ty.slice Ty.int)) w631 R630 v5 a0.vecs ∧ IsSlice (Ty.slice Ty.bool) w631 R630 v6 a0.forced ∧ E_ = [(1, .int .i64 a1), (2, .pointer (some ⟨bl473, 0, none⟩)), (5, v639), (6, .int .i64 x641)]) _ ⟨_, ⟨([] : List Int), 0, (.slice none 0 0), _, ht478, (hS.pickB [1, 0] 2 rfl rfl), f1, f2, f3, f4, f5, f6, rfl⟩, Sub.cons rfl (Sub.cons rfl (Sub.cons rfl (Sub.cons rfl (Sub.nil _))))⟩ ?_
  clear ht478 hS
  rintro m478 _ w631 ⟨x640, x641, v639, R630, ht478, hS, f632, f633, f634, f635, f636, f637, rfl⟩
  obtain ⟨m478, rfl, o478, ho478, ht478⟩ := iter_some ht478
  replace ho478 : ref25_Line_B1 fuel a0 a1 x640 x641 = some o478 := ho478
  unfold ref25_Line_B1 at ho478
  refine e_seq fun K798 hK798 => ?_
  refine e_seq fun K799 hK799 => ?_
  refine e_region_text rfl ?_
  refine q_move rfl rfl ?_
  refine q_field rfl rfl ?_
  refine q_field rfl rfl ?_
  refine q_load rfl (Blk.cell (hS.blk 0 rfl) rfl) rfl ?_
  refine q_lenS rfl f632 rfl ?_
  refine q_lss rfl rfl rfl ?_
  refine eseq_nil ?_
  refine hK799 _ _ ?_
  refine e_cond rfl (fun hc800 => ?_) (fun hc800 => ?_)
  · replace ho478 := (if_pos hc800).symm.trans ho478
    refine e_skip ?_
    refine hK798 _ _ ?_
    refine e_seq fun K801 hK801 => ?_
    refine e_block ?_
    refine e_seq fun K802 hK802 => ?_
    refine e_region_text rfl ?_
    refine q_field rfl rfl ?_
    refine q_field rfl rfl ?_
    refine q_load rfl (Blk.cell (hS.blk 0 rfl) rfl) rfl ?_
    refine q_move rfl rfl ?_
    obtain ⟨x803, hx803, ho478⟩ := Option.of_bind ho478
    refine q_atS (by infer_instance) rfl f632 rfl hx803 rfl fun b804 o804 hm804 f804 => ?_
    refine q_load rfl (Elt.intCell f804) rfl ?_
    refine q_assign rfl rfl ?_
    refine eseq_nil ?_
    refine hK802 _ _ ?_
    refine e_seq fun K805 hK805 => ?_
    refine e_seq fun K806 hK806 => ?_
    refine e_region_text rfl ?_
    refine q_field rfl rfl ?_
    refine q_load rfl (Blk.cell (hS.blk 0 rfl) rfl) rfl ?_
    refine q_move rfl rfl ?_
    obtain ⟨x807, hx807, ho478⟩ := Option.of_bind ho478
    refine q_atS (by infer_instance) rfl f635 rfl hx807 rfl fun b808 o808 hm808 f808 => ?_
    refine q_loadE rfl f808 rfl (fun v809 f809 => ?_)
    refine q_lenS rfl f809 rfl ?_
    refine q_subW rfl rfl rfl ?_
    refine q_assign rfl rfl ?_
    refine eseq_nil ?_
    refine hK806 _ _ ?_
    refine e_block ?_
    obtain ⟨tl810, ht810, ho478⟩ := Option.of_bind ho478
    have hX810_2 : ∀ (x914 : Int) (R905 : Nat → Prop) (w906 : World) (E_ : Env), ref25_Line_K2 fuel x640 x641 x914 = some o478 → Sep F R R905 w w906 [HP.blk bl473 [v1, v2, v3, v4, v5, v6] 35, HP.own Ty.int (fun _ => False) 3 v639 x640] → IsSlice Ty.int w906 R905 v1 a0.pat.lens → IsSlice (Ty.slice Ty.int) w906 R905 v2 a0.pat.ckpts → IsSlice arcTy w906 R905 v3 a0.pat.arcs → IsSlice (Ty.slice Ty.int) w906 R905 v4 a0.clocks → IsSlice (Ty.slice (Ty.slice Ty.int)) w906 R905 v5 a0.vecs → IsSlice (Ty.slice Ty.bool) w906 R905 v6 a0.forced → Sub [(1, .int .i64 a1), (2, .pointer (some ⟨bl473, 0, none⟩)), (5, v639), (6, .int .i64 x641), (7, .int .i64 x914)] E_ → K805 E_ w906 := by
      intro x914 R905 w906 E_ ho478 hS f907 f908 f909 f910 f911 f912 hsub
      refine hK805 _ _ (e_sub hsub ?_); clear hsub
      unfold ref25_Line_K2 at ho478
      refine e_region_text rfl ?_
      refine q_move rfl rfl ?_
      refine q_move rfl rfl ?_
      refine q_litO (T := Ty.int) (S := (fun _ => False)) (cells := [[.int .i64 x914]]) (ys := [x914]) ((Parts.cons rfl rfl Parts.nil)) rfl rfl rfl rfl rfl rfl rfl (fun w1 hB => ⟨rfl, trivial⟩) (fun _ h => h.elim) rfl fun w915 v915 ho915 hv915 hB915 => ?_
      replace f907 := f907.ext hB915
      replace f908 := f908.ext hB915
      replace f909 := f909.ext hB915
      replace f910 := f910.ext hB915
      replace f911 := f911.ext hB915
      replace f912 := f912.ext hB915
      replace hS := hS.newOwnS hB915 ho915 hv915 (fun _ h => h.elim)
      obtain ⟨x918, hx918, ho478⟩ := Option.of_bind ho478
      refine q_catOwn (T := Ty.int) rfl rfl rfl rfl (hS.own 2 rfl) rfl (hS.own 0 rfl) (fun _ h _ => h.elim) (snoc_cat hx918) (Nat.zero_le _) rfl (fun h => by cases h) fun v917 w917 hw917 hgr917 hnw917 => ?_
      have hk917 := hS.keptOwn 2 rfl hgr917
      replace f907 := f907.kept hk917
      replace f908 := f908.kept hk917
      replace f909 := f909.kept hk917
      replace f910 := f910.kept hk917
      replace f911 := f911.kept hk917
      replace f912 := f912.kept hk917
      replace hS := hS.setOwn 2 rfl hw917 hgr917 hnw917; simp only [List.set] at hS
      refine q_assign rfl rfl ?_
      refine eseq_nil ?_
      refine hK801 _ _ ?_
      refine e_region_text rfl ?_
      refine q_move rfl rfl ?_
      refine q_addW rfl rfl rfl ?_
      refine q_assign rfl rfl ?_
      refine eseq_nil ?_
      obtain rfl := Option.some.inj ho478
      exact ⟨m478, _, Nat.lt_succ_self _, ⟨x918, (w64 (x641 + 1)), v917, _, ht478, (hS.pickB [1, 2] 3 rfl rfl), f907, f908, f909, f910, f911, f912, rfl⟩, Sub.cons rfl (Sub.cons rfl (Sub.cons rfl (Sub.cons rfl (Sub.nil _))))⟩
    refine e_loop (fun m_ E_ w858 => ∃ (x866 : Int), ∃ (x867 : Int), ∃ (R857 : Nat → Prop), iter (fun s => ref25_Line_B2 fuel a0 x641 a1 s.1 s.2) m_ (x866, x867) = some tl810 ∧ Sep F R R857 w w858 [HP.blk bl473 [v1, v2, v3, v4, v5, v6] 35, HP.own Ty.int (fun _ => False) 3 v639 x640] ∧ IsSlice Ty.int w858 R857 v1 a0.pat.lens ∧ IsSlice (Ty.slice Ty.int) w858 R857 v2 a0.pat.ckpts ∧ IsSlice arcTy w858 R857 v3 a0.pat.arcs ∧ IsSlice (Ty.slice Ty.int) w858 R857 v4 a0.clocks ∧ IsSlice (Ty.slice (Ty.slice Ty.int)) w858 R857 v5 a0.vecs ∧ IsSlice (Ty.slice Ty.bool) w858 R857 v6 a0.forced ∧ E_ = [(1, .int .i64 a1), (2, .pointer (some ⟨bl473, 0, none⟩)), (5, v639), (6, .int .i64 x641), (7, .int .i64 x866), (8, .int .i64 x867)]) _ ⟨_, ⟨x803, (w64 ((x807.length : Int) - 1)), _, ht810, hS, f632, f633, f634, f635, f636, f637, rfl⟩, Sub.cons rfl (Sub.cons rfl (Sub.cons rfl (Sub.cons rfl (Sub.cons rfl (Sub.cons rfl (Sub.nil _))))))⟩ ?_
    clear ht810 hS
    rintro m810 _ w858 ⟨x866, x867, R857, ht810, hS, f859, f860, f861, f862, f863, f864, rfl⟩
    obtain ⟨m810, rfl, o810, ho810, ht810⟩ := iter_some ht810
    replace ho810 : ref25_Line_B2 fuel a0 x641 a1 x866 x867 = some o810 := ho810
    unfold ref25_Line_B2 at ho810
    refine e_seq fun K919 hK919 => ?_
    refine e_seq fun K920 hK920 => ?_
    refine e_region_text rfl ?_
    refine q_move rfl rfl ?_
    refine q_geq rfl rfl rfl ?_
    refine eseq_nil ?_
    refine hK920 _ _ ?_
    refine e_cond rfl (fun hc921 => ?_) (fun hc921 => ?_)
    · replace ho810 := (if_pos hc921).symm.trans ho810
      refine e_skip ?_
      refine hK919 _ _ ?_
      refine e_seq fun K922 hK922 => ?_
      refine e_block ?_
      refine e_seq fun K923 hK923 => ?_
      refine e_region_text rfl ?_
      refine q_field rfl rfl ?_
      refine q_load rfl (Blk.cell (hS.blk 0 rfl) rfl) rfl ?_
      refine q_move rfl rfl ?_
      obtain ⟨x924, hx924, ho810⟩ := Option.of_bind ho810
      refine q_atS (by infer_instance) rfl f862 rfl hx924 rfl fun b925 o925 hm925 f925 => ?_
      refine q_loadE rfl f925 rfl (fun v926 f926 => ?_)
      refine q_move rfl rfl ?_
      obtain ⟨x927, hx927, ho810⟩ := Option.of_bind ho810
      refine q_atS (by infer_instance) rfl f926 rfl hx927 rfl fun b928 o928 hm928 f928 => ?_
      refine q_load rfl (Elt.intCell f928) rfl ?_
      refine q_move rfl rfl ?_
      refine q_geq rfl rfl rfl ?_
      refine eseq_nil ?_
      refine hK923 _ _ ?_
      refine e_cond rfl (fun hc929 => ?_) (fun hc929 => ?_)
      · replace ho810 := (if_pos hc929).symm.trans ho810
        refine e_region_text rfl ?_
        refine q_field rfl rfl ?_
        refine q_field rfl rfl ?_
        refine q_load rfl (Blk.cell (hS.blk 0 rfl) rfl) rfl ?_
        refine q_move rfl rfl ?_
        obtain ⟨x930, hx930, ho810⟩ := Option.of_bind ho810
        refine q_atS (by infer_instance) rfl f860 rfl hx930 rfl fun b931 o931 hm931 f931 => ?_
        refine q_loadE rfl f931 rfl (fun v932 f932 => ?_)
        refine q_move rfl rfl ?_
        obtain ⟨x933, hx933, ho810⟩ := Option.of_bind ho810
        refine q_atS (by infer_instance) rfl f932 rfl hx933 rfl fun b934 o934 hm934 f934 => ?_
        refine q_load rfl (Elt.intCell f934) rfl ?_
        refine q_assign rfl rfl ?_
        refine eseq_nil ?_
        refine hK922 _ _ ?_
        refine e_region_text rfl ?_
        refine q_move rfl rfl ?_
        refine q_subW rfl rfl rfl ?_
        refine q_assign rfl rfl ?_
        refine eseq_nil ?_
        obtain rfl := Option.some.inj ho810
        exact ⟨m810, _, Nat.lt_succ_self _, ⟨x933, (w64 (x867 - 1)), _, ht810, hS, f859, f860, f861, f862, f863, f864, rfl⟩, Sub.cons rfl (Sub.cons rfl (Sub.cons rfl (Sub.cons rfl (Sub.cons rfl (Sub.cons rfl (Sub.nil _))))))⟩
      · replace ho810 := (if_neg (not_true hc929)).symm.trans ho810
        refine e_skip ?_
        refine hK922 _ _ ?_
        refine e_region_text rfl ?_
        refine q_move rfl rfl ?_
        refine q_subW rfl rfl rfl ?_
        refine q_assign rfl rfl ?_
        refine eseq_nil ?_
        obtain rfl := Option.some.inj ho810
        exact ⟨m810, _, Nat.lt_succ_self _, ⟨x866, (w64 (x867 - 1)), _, ht810, hS, f859, f860, f861, f862, f863, f864, rfl⟩, Sub.cons rfl (Sub.cons rfl (Sub.cons rfl (Sub.cons rfl (Sub.cons rfl (Sub.cons rfl (Sub.nil _))))))⟩
    · replace ho810 := (if_neg (not_true hc921)).symm.trans ho810
      refine e_exit ?_
      obtain rfl := Option.some.inj ho810
      obtain rfl := Option.some.inj ht810
      exact hX810_2 x866 _ _ _ ho478 hS f859 f860 f861 f862 f863 f864 (Sub.cons rfl (Sub.cons rfl (Sub.cons rfl (Sub.cons rfl (Sub.cons rfl (Sub.nil _))))))
  · replace ho478 := (if_neg (not_true hc800)).symm.trans ho478
    refine e_exit ?_
    obtain rfl := Option.some.inj ho478
    obtain rfl := Option.some.inj ht478
    exact hX478_0 x640 v639 _ _ _ h (hS.pickB [1] 2 rfl rfl)  (Sub.cons rfl (Sub.nil _))
theorem law25_IndexedLines_w {F R : Nat → Prop} {w : World} {fuel : Nat} {a0 : (List Int)} {a1 : Int} {v1 : Value} {r : (Bool)} (hS : Sep F R R w w []) (f1 : IsSlice Ty.u8 w R v1 a0) (h : law25_IndexedLines fuel a0 a1 = some r) :
    Gives Try.prog 5 [v1, .int .i64 a1] w fun u w1 => ∃ (R1 : Nat → Prop), u = .bool r ∧ Sep F R R1 w w1 [] := by
  refine fn_of Try.func5 rfl Try.ntmps5 (Nat.le_of_ble_eq_true rfl) ?_
  unfold law25_IndexedLines at h
  refine e_seq fun K211 hK211 => ?_
  refine e_region_text rfl ?_
  refine q_assign rfl rfl ?_
  refine eseq_nil ?_
  refine hK211 _ _ ?_
  refine e_seq fun K212 hK212 => ?_
  refine e_seq fun K213 hK213 => ?_
  refine e_region_text rfl ?_
  obtain ⟨r215, hr215, h⟩ := Option.of_bind h
  refine q_call rfl (law25_awake_w (Sep.enter (As := []) hS)  hr215) rfl ?_
  rintro _ w214 ⟨R214, rfl, hC214⟩
  have hB214 : Below (World.heap w).size w w214 := hC214.stepB0
  refine ⟨fun _ => .of_below hB214, ?_⟩
  replace f1 := (f1.ext hB214).mono fun k hk _ => hC214.ro0 k hk
  replace hS := Sep.leave (As := []) hS hC214; simp only [List.cons_append, List.nil_append] at hS
  refine q_not rfl rfl ?_
  refine eseq_nil ?_
  refine hK213 _ _ ?_
  refine e_cond rfl (fun hc216 => ?_) (fun hc216 => ?_)
  · replace h := (if_pos hc216).symm.trans h
    refine e_seq fun K217 hK217 => ?_
    refine e_region_text rfl ?_
    refine q_assign rfl rfl ?_
    refine eseq_nil ?_
    refine hK217 _ _ ?_
    refine e_ret ?_
    obtain rfl := Option.some.inj h
    exact ⟨_, res1 rfl rfl, _, rfl, hS⟩
  · replace h := (if_neg (not_true hc216)).symm.trans h
    refine e_skip ?_
    refine hK212 _ _ ?_
    refine e_seq fun K218 hK218 => ?_
    refine e_region_text rfl ?_
    refine q_move rfl rfl ?_
    obtain ⟨r220, hr220, h⟩ := Option.of_bind h
    refine q_call rfl (law25_draw_w (Sep.enter (As := []) hS) f1 hr220) rfl ?_
    rintro _ w219 ⟨v221, R219, rfl, hC219⟩
    have hB219 : Below (World.heap w214).size w214 w219 := hC219.stepB0
    refine ⟨fun _ => .of_below hB219, ?_⟩
    replace f1 := (f1.ext hB219).mono fun k hk _ => hC219.ro0 k hk
    replace hS := Sep.leave (As := []) hS hC219; simp only [List.cons_append, List.nil_append] at hS
    refine q_move rfl rfl ?_
    refine q_extract rfl rfl rfl ?_
    refine q_extract rfl rfl rfl ?_
    refine q_assign rfl rfl ?_
    refine q_assign rfl rfl ?_
    refine eseq_nil ?_
    refine hK218 _ _ ?_
    refine e_seq fun K222 hK222 => ?_
    refine e_region_text rfl ?_
    refine q_move rfl rfl ?_
    refine q_move rfl rfl ?_
    obtain ⟨R224, hS, hm224, f224⟩ := hS.freezeOwn 0 rfl; simp only [List.eraseIdx] at hS
    obtain ⟨r225, hr225, h⟩ := Option.of_bind h
    refine q_call rfl (indexed_Play_w (Sep.enter (As := []) hS) f224 hr225) rfl ?_
    rintro _ w223 ⟨v226, v227, v228, v229, v230, v231, v233, v234, R223, rfl, hC223⟩
    have hB223 : Below (World.heap w219).size w219 w223 := hC223.stepB0
    refine ⟨fun _ => .of_below hB223, ?_⟩
    replace f224 := (f224.ext hB223).mono fun k hk _ => hC223.ro0 k hk
    replace hS := Sep.leave (As := []) hS hC223; simp only [List.cons_append, List.nil_append] at hS
    refine q_move rfl rfl ?_
    refine q_extract rfl rfl rfl ?_
    refine q_extract rfl rfl rfl ?_
    refine q_allocB rfl fun w235 bl235 hg235 hb235 hB235 => ?_
    replace hS := hS.newBlk hB235 hg235 hb235
    refine q_storeAgg rfl rfl (hS.blk 0 rfl) rfl (Nat.le_of_ble_eq_true rfl) (all_cons (hS.own 1 rfl).one (all_cons (hS.own 2 rfl).one (all_cons (hS.own 4 rfl).one (all_cons (hS.own 5 rfl).one (all_cons rfl (all_cons (hS.own 7 rfl).one (all_nil))))))) rfl rfl fun w237 hb237 hO237 => ?_
    simp only [setN, List.set, List.take, List.drop] at hb237
    have hk237 := hS.keptBlk 0 rfl hO237
    replace hS := hS.setBlk 0 rfl hb237 hO237; simp only [List.set] at hS
    refine q_assign rfl rfl ?_
    refine eseq_nil ?_
    refine hK222 _ _ ?_
    refine e_seq fun K238 hK238 => ?_
    refine e_seq fun K239 hK239 => ?_
    refine e_region_text rfl ?_
    refine q_move rfl rfl ?_
    refine q_neq rfl rfl rfl ?_
    refine q_move rfl rfl ?_
    obtain ⟨x245, hx244, h⟩ := Option.of_bind h
    refine g_orM 4 hx244 rfl trivial rfl rfl ?_ ?_ ?_
    · intro hg244
      refine g_skip rfl rfl rfl ?_
      refine g_skip rfl rfl rfl ?_
      refine g_skip rfl rfl rfl ?_
      refine g_skip rfl rfl rfl ?_
      exact eseq_nil ⟨rfl, Sub.set rfl (Sub.set rfl (Sub.set rfl (Sub.set rfl (Sub.bool true rfl hg244))))⟩
    · intro hg244 hx244
      clear h
      have hT244 := Below.refl (World.heap w237).size w237
      refine g_run rfl ?_; refine q_loadAgg rfl (Blk.cellsAt (hS.blk 0 rfl) 0 6 rfl) rfl rfl ?_
      refine g_run rfl ?_; refine q_move rfl rfl ?_
      obtain ⟨r247, hr247, hx244⟩ := Option.of_bind hx244
      refine g_run rfl ?_; refine q_call rfl (law25_sound_w (a0 := (⟨(⟨r225.1.pat.lens, r225.1.pat.ckpts, r225.1.pat.arcs⟩ : Pat), r225.1.clocks, ([] : List (List (List Int))), r225.1.forced⟩ : Hist)) (Sep.all w237) ((hS.isl 1 rfl)).old ((hS.rowsI 2 3 rfl rfl (by decide))).old ((hS.isl 4 rfl)).old ((hS.rowsI 5 6 rfl rfl (by decide))).old ((IsSlice.nil (Ty.slice (Ty.slice Ty.int)) _ (fun _ => False))).old ((hS.rowsI 7 8 rfl rfl (by decide))).old hr247) rfl ?_
      rintro _ w246 ⟨R246, rfl, hC246⟩
      have hB246 : Below (World.heap w237).size w237 w246 := hC246.stepBF
      refine ⟨fun _ => .of_below hB246, ?_⟩
      replace hT244 := hT244.trans (Below.mono hB246 hT244.size)
      replace hS := hS.below hB246
      refine g_run rfl ?_; refine q_not rfl rfl ?_
      cases hx244
      exact eseq_nil ⟨hT244, Sub.set rfl (Sub.set rfl (Sub.set rfl (Sub.set rfl (Sub.bool false rfl hg244)))), rfl⟩
    intro wm244 hBm244; clear hx244
    replace hS := hS.below hBm244
    refine eseq_nil ?_
    refine hK239 _ _ ?_
    refine e_cond rfl (fun hc248 => ?_) (fun hc248 => ?_)
    · replace h := (if_pos hc248).symm.trans h
      refine e_seq fun K249 hK249 => ?_
      refine e_region_text rfl ?_
      refine q_assign rfl rfl ?_
      refine eseq_nil ?_
      refine hK249 _ _ ?_
      refine e_ret ?_
      obtain rfl := Option.some.inj h
      exact ⟨_, res1 rfl rfl, _, rfl, (hS.pickB [] 9 rfl rfl)⟩
    · replace h := (if_neg (not_true hc248)).symm.trans h
      refine e_skip ?_
      refine hK238 _ _ ?_
      refine e_seq fun K250 hK250 => ?_
      refine e_seq fun K251 hK251 => ?_
      refine e_region_text rfl ?_
      refine q_assign rfl rfl ?_
      refine eseq_nil ?_
      refine hK251 _ _ ?_
      refine e_block ?_
      obtain ⟨tl252, ht252, h⟩ := Option.of_bind h
      have hX252_0 : ∀ (R360 : Nat → Prop) (w361 : World) (E_ : Env), law25_IndexedLines_K1 fuel r225 a1 = some r → Sep F R R360 w w361 [HP.blk bl235 [v226, v227, v229, v230, .slice none 0 0, v233] 35, HP.own Ty.int (fun _ => False) 3 v226 r225.1.pat.lens, HP.own Ty.raw (fun _ => False) 27 v227 v228, HP.famS Ty.int (fun _ => False) 3 v228 r225.1.pat.ckpts, HP.own arcTy (fun _ => False) 107 v229 r225.1.pat.arcs, HP.own Ty.raw (fun _ => False) 27 v230 v231, HP.famS Ty.int (fun _ => False) 3 v231 r225.1.clocks, HP.own Ty.raw (fun _ => False) 99 v233 v234, HP.famS Ty.bool (fun _ => False) 4 v234 r225.1.forced] → Sub [(1, .int .i64 a1), (7, .pointer (some ⟨bl235, 0, none⟩))] E_ → K250 E_ w361 := by
        intro R360 w361 E_ h hS  hsub
        refine hK250 _ _ (e_sub hsub ?_); clear hsub
        unfold law25_IndexedLines_K1 at h
        refine e_seq fun K370 hK370 => ?_
        refine e_region_draw mixed (fun _ => False) [0, 0, 3, 0, 0, 31, 63, 127] [2] [0, 1, 3, 4, 2, 5, 6, 7] (by kernel_rfl) ?_
        refine q_loadAgg rfl (Blk.cellsAt (hS.blk 0 rfl) 0 6 rfl) rfl rfl ?_
        refine q_move rfl rfl ?_
        refine q_loadAgg rfl (Blk.cellsAt (hS.blk 0 rfl) 0 6 rfl) rfl rfl ?_
        refine q_move rfl rfl ?_
        obtain ⟨r380, hr380, h⟩ := Option.of_bind h
        refine q_call rfl (indexed_Line_w (a0 := (⟨(⟨r225.1.pat.lens, r225.1.pat.ckpts, r225.1.pat.arcs⟩ : Pat), r225.1.clocks, ([] : List (List (List Int))), r225.1.forced⟩ : Hist)) (Sep.all w361) ((hS.isl 1 rfl)).old ((hS.rowsI 2 3 rfl rfl (by decide))).old ((hS.isl 4 rfl)).old ((hS.rowsI 5 6 rfl rfl (by decide))).old ((IsSlice.nil (Ty.slice (Ty.slice Ty.int)) _ (fun _ => False))).old ((hS.rowsI 7 8 rfl rfl (by decide))).old hr380) rfl ?_
        rintro v381 w379 ⟨_, R379, rfl, hC379⟩
        have hB379 : Below (World.heap w361).size w361 w379 := hC379.stepBF
        refine ⟨fun _ => .of_below hB379, ?_⟩
        replace hS := hS.newOwnS hB379 (hC379.own 0 rfl) (hC379.fresh 0 rfl) (fun _ h => h.elim)
        obtain ⟨r383, hr383, h⟩ := Option.of_bind h
        refine q_call rfl (ref25_Line_w (a0 := (⟨(⟨r225.1.pat.lens, r225.1.pat.ckpts, r225.1.pat.arcs⟩ : Pat), r225.1.clocks, ([] : List (List (List Int))), r225.1.forced⟩ : Hist)) (Sep.all w379) ((hS.isl 2 rfl)).old ((hS.rowsI 3 4 rfl rfl (by decide))).old ((hS.isl 5 rfl)).old ((hS.rowsI 6 7 rfl rfl (by decide))).old ((IsSlice.nil (Ty.slice (Ty.slice Ty.int)) _ (fun _ => False))).old ((hS.rowsI 8 9 rfl rfl (by decide))).old hr383) rfl ?_
        rintro v384 w382 ⟨_, R382, rfl, hC382⟩
        have hB382 : Below (World.heap w379).size w379 w382 := hC382.stepBF
        refine ⟨fun _ => .of_below hB382, ?_⟩
        replace hS := hS.newOwnS hB382 (hC382.own 0 rfl) (hC382.fresh 0 rfl) (fun _ h => h.elim)
        obtain ⟨r386, hr386, h⟩ := Option.of_bind h
        refine q_call rfl (ref23_SameInts_w (Sep.all w382) ((hS.isl 1 rfl)).old ((hS.isl 0 rfl)).old hr386) rfl ?_
        rintro _ w385 ⟨R385, rfl, hC385⟩
        have hB385 : Below (World.heap w382).size w382 w385 := hC385.stepBF
        refine ⟨fun _ => .of_below hB385, ?_⟩
        replace hS := hS.below hB385
        refine q_assign rfl rfl ?_
        refine eseq_nil ?_
        refine hK370 _ _ ?_
        refine e_ret ?_
        obtain rfl := Option.some.inj h
        exact ⟨_, res1 rfl rfl, _, rfl, (hS.pickB [] 11 rfl rfl)⟩
      refine e_loop (fun m_ E_ w307 => ∃ (x316 : Int), ∃ (R306 : Nat → Prop), iter (fun s => law25_IndexedLines_B1 fuel r225 s) m_ x316 = some tl252 ∧ Sep F R R306 w w307 [HP.blk bl235 [v226, v227, v229, v230, .slice none 0 0, v233] 35, HP.own Ty.int (fun _ => False) 3 v226 r225.1.pat.lens, HP.own Ty.raw (fun _ => False) 27 v227 v228, HP.famS Ty.int (fun _ => False) 3 v228 r225.1.pat.ckpts, HP.own arcTy (fun _ => False) 107 v229 r225.1.pat.arcs, HP.own Ty.raw (fun _ => False) 27 v230 v231, HP.famS Ty.int (fun _ => False) 3 v231 r225.1.clocks, HP.own Ty.raw (fun _ => False) 99 v233 v234, HP.famS Ty.bool (fun _ => False) 4 v234 r225.1.forced] ∧ E_ = [(1, .int .i64 a1), (7, .pointer (some ⟨bl235, 0, none⟩)), (9, .int .i64 x316)]) _ ⟨_, ⟨(-1), _, ht252, hS, rfl⟩, Sub.cons rfl (Sub.cons rfl (Sub.cons rfl (Sub.nil _)))⟩ ?_
      clear ht252 hS
      rintro m252 _ w307 ⟨x316, R306, ht252, hS, rfl⟩
      obtain ⟨m252, rfl, o252, ho252, ht252⟩ := iter_some ht252
      replace ho252 : law25_IndexedLines_B1 fuel r225 x316 = some o252 := ho252
      unfold law25_IndexedLines_B1 at ho252
      refine e_seq fun K387 hK387 => ?_
      refine e_seq fun K388 hK388 => ?_
      refine e_region_text rfl ?_
      refine q_move rfl rfl ?_
      refine q_leq rfl rfl rfl ?_
      refine eseq_nil ?_
      refine hK388 _ _ ?_
      refine e_cond rfl (fun hc389 => ?_) (fun hc389 => ?_)
      · replace ho252 := (if_pos hc389).symm.trans ho252
        refine e_skip ?_
        refine hK387 _ _ ?_
        refine e_seq fun K390 hK390 => ?_
        refine e_block ?_
        refine e_seq fun K391 hK391 => ?_
        refine e_region_text rfl ?_
        refine q_loadAgg rfl (Blk.cellsAt (hS.blk 0 rfl) 0 6 rfl) rfl rfl ?_
        refine q_move rfl rfl ?_
        obtain ⟨r393, hr393, ho252⟩ := Option.of_bind ho252
        refine q_call rfl (indexed_Line_w (a0 := (⟨(⟨r225.1.pat.lens, r225.1.pat.ckpts, r225.1.pat.arcs⟩ : Pat), r225.1.clocks, ([] : List (List (List Int))), r225.1.forced⟩ : Hist)) (Sep.all w307) ((hS.isl 1 rfl)).old ((hS.rowsI 2 3 rfl rfl (by decide))).old ((hS.isl 4 rfl)).old ((hS.rowsI 5 6 rfl rfl (by decide))).old ((IsSlice.nil (Ty.slice (Ty.slice Ty.int)) _ (fun _ => False))).old ((hS.rowsI 7 8 rfl rfl (by decide))).old hr393) rfl ?_
        rintro v394 w392 ⟨_, R392, rfl, hC392⟩
        have hB392 : Below (World.heap w307).size w307 w392 := hC392.stepBF
        refine ⟨fun _ => .of_below hB392, ?_⟩
        replace hS := hS.newOwnS hB392 (hC392.own 0 rfl) (hC392.fresh 0 rfl) (fun _ h => h.elim)
        refine q_assign rfl rfl ?_
        refine eseq_nil ?_
        refine hK391 _ _ ?_
        refine e_seq fun K395 hK395 => ?_
        refine e_region_text rfl ?_
        refine q_move rfl rfl ?_
        refine q_loadAgg rfl (Blk.cellsAt (hS.blk 1 rfl) 0 6 rfl) rfl rfl ?_
        refine q_move rfl rfl ?_
        obtain ⟨r397, hr397, ho252⟩ := Option.of_bind ho252
        refine q_call rfl (ref25_Line_w (a0 := (⟨(⟨r225.1.pat.lens, r225.1.pat.ckpts, r225.1.pat.arcs⟩ : Pat), r225.1.clocks, ([] : List (List (List Int))), r225.1.forced⟩ : Hist)) (Sep.all w392) ((hS.isl 2 rfl)).old ((hS.rowsI 3 4 rfl rfl (by decide))).old ((hS.isl 5 rfl)).old ((hS.rowsI 6 7 rfl rfl (by decide))).old ((IsSlice.nil (Ty.slice (Ty.slice Ty.int)) _ (fun _ => False))).old ((hS.rowsI 8 9 rfl rfl (by decide))).old hr397) rfl ?_
        rintro v398 w396 ⟨_, R396, rfl, hC396⟩
        have hB396 : Below (World.heap w392).size w392 w396 := hC396.stepBF
        refine ⟨fun _ => .of_below hB396, ?_⟩
        replace hS := hS.newOwnS hB396 (hC396.own 0 rfl) (hC396.fresh 0 rfl) (fun _ h => h.elim)
        obtain ⟨r400, hr400, ho252⟩ := Option.of_bind ho252
        refine q_call rfl (ref23_SameInts_w (Sep.all w396) ((hS.isl 1 rfl)).old ((hS.isl 0 rfl)).old hr400) rfl ?_
        rintro _ w399 ⟨R399, rfl, hC399⟩
        have hB399 : Below (World.heap w396).size w396 w399 := hC399.stepBF
        refine ⟨fun _ => .of_below hB399, ?_⟩
        replace hS := hS.below hB399
        refine q_not rfl rfl ?_
        refine q_move rfl rfl ?_
        obtain ⟨x406, hx405, ho252⟩ := Option.of_bind ho252
        refine g_orM 5 hx405 rfl trivial rfl rfl ?_ ?_ ?_
        · intro hg405
          refine g_skip rfl rfl rfl ?_
          refine g_skip rfl rfl rfl ?_
          refine g_skip rfl rfl rfl ?_
          refine g_skip rfl rfl rfl ?_
          refine g_skip rfl rfl rfl ?_
          exact eseq_nil ⟨rfl, Sub.set rfl (Sub.set rfl (Sub.set rfl (Sub.set rfl (Sub.set rfl (Sub.bool true rfl hg405)))))⟩
        · intro hg405 hx405
          clear ho252
          have hT405 := Below.refl (World.heap w399).size w399
          refine g_run rfl ?_; refine q_field rfl rfl ?_
          refine g_run rfl ?_; refine q_loadAgg rfl (Blk.cellsAt (hS.blk 2 rfl) 0 3 rfl) rfl rfl ?_
          refine g_run rfl ?_; refine q_move rfl rfl ?_
          obtain ⟨r408, hr408, hx405⟩ := Option.of_bind hx405
          refine g_run rfl ?_; refine q_call rfl (cut_Valid_w (a0 := (⟨r225.1.pat.lens, r225.1.pat.ckpts, r225.1.pat.arcs⟩ : Pat)) (Sep.all w399) ((hS.isl 3 rfl)).old ((hS.rowsI 4 5 rfl rfl (by decide))).old ((hS.isl 6 rfl)).old ((hS.isl 1 rfl)).old hr408) rfl ?_
          rintro _ w407 ⟨R407, rfl, hC407⟩
          have hB407 : Below (World.heap w399).size w399 w407 := hC407.stepBF
          refine ⟨fun _ => .of_below hB407, ?_⟩
          replace hT405 := hT405.trans (Below.mono hB407 hT405.size)
          replace hS := hS.below hB407
          refine g_run rfl ?_; refine q_not rfl rfl ?_
          cases hx405
          exact eseq_nil ⟨hT405, Sub.set rfl (Sub.set rfl (Sub.set rfl (Sub.set rfl (Sub.set rfl (Sub.bool false rfl hg405))))), rfl⟩
        intro wm405 hBm405; clear hx405
        replace hS := hS.below hBm405
        refine q_move rfl rfl ?_
        obtain ⟨x414, hx413, ho252⟩ := Option.of_bind ho252
        refine g_orM 5 hx413 rfl trivial rfl rfl ?_ ?_ ?_
        · intro hg413
          refine g_skip rfl rfl rfl ?_
          refine g_skip rfl rfl rfl ?_
          refine g_skip rfl rfl rfl ?_
          refine g_skip rfl rfl rfl ?_
          refine g_skip rfl rfl rfl ?_
          exact eseq_nil ⟨rfl, Sub.set rfl (Sub.set rfl (Sub.set rfl (Sub.set rfl (Sub.set rfl (Sub.bool true rfl hg413)))))⟩
        · intro hg413 hx413
          clear ho252
          have hT413 := Below.refl (World.heap wm405).size wm405
          refine g_run rfl ?_; refine q_field rfl rfl ?_
          refine g_run rfl ?_; refine q_loadAgg rfl (Blk.cellsAt (hS.blk 2 rfl) 0 3 rfl) rfl rfl ?_
          refine g_run rfl ?_; refine q_move rfl rfl ?_
          obtain ⟨r416, hr416, hx413⟩ := Option.of_bind hx413
          refine g_run rfl ?_; refine q_call rfl (cut_Consistent_w (a0 := (⟨r225.1.pat.lens, r225.1.pat.ckpts, r225.1.pat.arcs⟩ : Pat)) (Sep.all wm405) ((hS.isl 3 rfl)).old ((hS.rowsI 4 5 rfl rfl (by decide))).old ((hS.isl 6 rfl)).old ((hS.isl 1 rfl)).old hr416) rfl ?_
          rintro _ w415 ⟨R415, rfl, hC415⟩
          have hB415 : Below (World.heap wm405).size wm405 w415 := hC415.stepBF
          refine ⟨fun _ => .of_below hB415, ?_⟩
          replace hT413 := hT413.trans (Below.mono hB415 hT413.size)
          replace hS := hS.below hB415
          refine g_run rfl ?_; refine q_not rfl rfl ?_
          cases hx413
          exact eseq_nil ⟨hT413, Sub.set rfl (Sub.set rfl (Sub.set rfl (Sub.set rfl (Sub.set rfl (Sub.bool false rfl hg413))))), rfl⟩
        intro wm413 hBm413; clear hx413
        replace hS := hS.below hBm413
        refine eseq_nil ?_
        refine hK395 _ _ ?_
        refine e_cond rfl (fun hc417 => ?_) (fun hc417 => ?_)
        · replace ho252 := (if_pos hc417).symm.trans ho252
          refine e_seq fun K418 hK418 => ?_
          refine e_region_text rfl ?_
          refine q_assign rfl rfl ?_
          refine eseq_nil ?_
          refine hK418 _ _ ?_
          refine e_ret ?_
          obtain rfl := Option.some.inj ho252
          obtain rfl := Option.some.inj ht252
          obtain rfl := Option.some.inj h
          exact ⟨_, res1 rfl rfl, _, rfl, (hS.pickB [] 11 rfl rfl)⟩
        · replace ho252 := (if_neg (not_true hc417)).symm.trans ho252
          refine e_skip ?_
          refine hK390 _ _ ?_
          refine e_region_text rfl ?_
          refine q_move rfl rfl ?_
          refine q_addW rfl rfl rfl ?_
          refine q_assign rfl rfl ?_
          refine eseq_nil ?_
          obtain rfl := Option.some.inj ho252
          exact ⟨m252, _, Nat.lt_succ_self _, ⟨(w64 (x316 + 1)), _, ht252, (hS.pickB [2, 3, 4, 5, 6, 7, 8, 9, 10] 11 rfl rfl), rfl⟩, Sub.cons rfl (Sub.cons rfl (Sub.cons rfl (Sub.nil _)))⟩
      · replace ho252 := (if_neg (not_true hc389)).symm.trans ho252
        refine e_exit ?_
        obtain rfl := Option.some.inj ho252
        obtain rfl := Option.some.inj ht252
        exact hX252_0  _ _ _ h hS  (Sub.cons rfl (Sub.cons rfl (Sub.nil _)))
end Go.Proofs.Ytbmjcbhappjnaaa
