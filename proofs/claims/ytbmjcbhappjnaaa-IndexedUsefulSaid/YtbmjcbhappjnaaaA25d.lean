/- Printed walks: A25d. -/
import Derived.Test.YtbmjcbhappjnaaaA25
import Derived.Test.YtbmjcbhappjnaaaA23
import Derived.Test.YtbmjcbhappjnaaaA16c
import Derived.Test.YtbmjcbhappjnaaaAacts
import Derived.Test.YtbmjcbhappjnaaaA18a
set_option linter.unusedVariables false
set_option linter.unusedSimpArgs false
namespace Go.Mine
open Go.RowKit
def law25_awake (fuel : Nat) : Option (Bool) :=
  (indexed_Play fuel 2 ([(⟨1, 0, 1⟩ : Deed), (⟨3, 0, 0⟩ : Deed), (⟨1, 0, 1⟩ : Deed), (⟨2, 0, 0⟩ : Deed), (⟨2, 0, 0⟩ : Deed)])).bind fun r106 => (andM (r106.2 == 0) ((ref23_SameLists fuel r106.1.pat.ckpts ([[0, 1], [0, 1]])).bind fun r143 => some r143)).bind fun x133 => (andM x133 ((ref23_SameLists fuel r106.1.clocks ([[0, 1], [0, 1]])).bind fun r167 => some r167)).bind fun x157 => (andM x157 (some ((r106.1.forced.length : Int) == 2))).bind fun x171 => (andM x171 ((ati r106.1.forced 1).bind fun x177 => some ((x177.length : Int) == 2))).bind fun x176 => (andM x176 ((ati r106.1.forced 1).bind fun x185 => (ati x185 1).bind fun x186 => some x186)).bind fun x184 => (andM x184 ((ati r106.1.forced 0).bind fun x195 => (ati x195 1).bind fun x196 => some (!x196))).bind fun x194 => some x194
def law25_draw (fuel : Nat) (a0 : (List Int)) : Option (Int × (List Deed)) :=
  (make_New fuel a0 200).bind fun r19 => (make_Codes_Next fuel 3 r19.1 r19.2).bind fun r24 => (make_Codes_Acts fuel (w64 (2 + r24.1)) 60 r19.1 r24.2).bind fun r27 => some (w64 (2 + r24.1), r27.1)
def law25_sound_K1 (fuel : Nat) (a0 : Hist) : Option (Bool) :=
  (ref16_Check fuel (⟨a0.pat.lens, a0.pat.ckpts, a0.pat.arcs⟩ : Pat)).bind fun r288 => some (r288 == 0)
def law25_sound_B1 (fuel : Nat) (a1 : Int) (a0 : Hist) (x239 : Int) : Option ((Int) ⊕ (Unit ⊕ (Bool))) :=
  (if (decide (x239 < a1)) = true then (ati a0.clocks x239).bind fun x294 => (ati a0.pat.ckpts x239).bind fun x297 => (orM ((x294.length : Int) != (x297.length : Int)) ((ati a0.forced x239).bind fun x310 => (ati a0.pat.ckpts x239).bind fun x313 => some ((x310.length : Int) != (x313.length : Int)))).bind fun x309 => (if x309 = true then some (Sum.inr (Sum.inr false)) else some (Sum.inl (w64 (x239 + 1)))) else some (Sum.inr (Sum.inl ())))
def law25_sound (fuel : Nat) (a0 : Hist) (a1 : Int) : Option (Bool) :=
  (orM ((a0.pat.lens.length : Int) != a1) (some ((a0.pat.ckpts.length : Int) != a1))).bind fun x171 => (orM x171 (some ((a0.clocks.length : Int) != a1))).bind fun x175 => (orM x175 (some ((a0.forced.length : Int) != a1))).bind fun x179 => (if x179 = true then some false else (iter (fun s => law25_sound_B1 fuel a1 a0 s) fuel 0).bind (fun t => Sum.elim (fun t => law25_sound_K1 fuel a0) (fun t => some t) t))
def indexed_Line_1 (fuel : Nat) (a0 : Int) (c1_0 : Int) : Option (Bool) :=
  some (decide (c1_0 ≤ a0))
def IndexLine_K1 (fuel : Nat) : Option (Int) :=
  some (-1)
def IndexLine_B1 (fuel : Nat) (a0 : (List Int)) (c1a_0 : Int) (x95 : Int) : Option ((Int) ⊕ (Unit ⊕ (Int))) :=
  (if (decide (x95 < (a0.length : Int))) = true then (ati a0 x95).bind fun x122 => (indexed_Line_1 fuel x122 c1a_0).bind fun r125 => (if r125 = true then some (Sum.inr (Sum.inr x95)) else some (Sum.inl (w64 (x95 + 1)))) else some (Sum.inr (Sum.inl ())))
def IndexLine (fuel : Nat) (a0 : (List Int)) (c1a_0 : Int) : Option (Int) :=
  (iter (fun s => IndexLine_B1 fuel a0 c1a_0 s) fuel 0).bind (fun t => Sum.elim (fun t => IndexLine_K1 fuel) (fun t => some t) t)
def indexed_Line_K1 (fuel : Nat) (x539 : (List Int)) : Option ((List Int)) :=
  some x539
def indexed_Line_J1 (fuel : Nat) (x438 : (List Int)) (x440 : Int) (x588 : Int) : Option (((List Int) × Int) ⊕ ((List Int))) :=
  (snoc x438 x588).bind fun x593 => some (Sum.inl (x593, (w64 (x440 + 1))))
def indexed_Line_B1 (fuel : Nat) (a0 : Hist) (a1 : Int) (x438 : (List Int)) (x440 : Int) : Option (((List Int) × Int) ⊕ ((List Int))) :=
  (if (decide (x440 < (a0.pat.lens.length : Int))) = true then (ati a0.pat.lens x440).bind fun x547 => (andM (decide (x440 < (a0.clocks.length : Int))) (some (decide (x440 < (a0.pat.ckpts.length : Int))))).bind fun x598 => (if x598 = true then (ati a0.clocks x440).bind fun x601 => (IndexLine fuel x601 a1).bind fun r605 => (andM (decide (0 ≤ r605)) ((ati a0.pat.ckpts x440).bind fun x614 => some (decide (r605 < (x614.length : Int))))).bind fun x613 => (if x613 = true then (ati a0.pat.ckpts x440).bind fun x618 => (ati x618 r605).bind fun x621 => indexed_Line_J1 fuel x438 x440 x621 else indexed_Line_J1 fuel x438 x440 x547) else indexed_Line_J1 fuel x438 x440 x547) else some (Sum.inr x438))
def indexed_Line (fuel : Nat) (a0 : Hist) (a1 : Int) : Option ((List Int)) :=
  (iter (fun s => indexed_Line_B1 fuel a0 a1 s.1 s.2) fuel (([] : List Int), 0)).bind (fun t => indexed_Line_K1 fuel t)
def ref25_Line_K1 (fuel : Nat) (x795 : (List Int)) : Option ((List Int)) :=
  some x795
def ref25_Line_K2 (fuel : Nat) (x640 : (List Int)) (x641 : Int) (x914 : Int) : Option (((List Int) × Int) ⊕ ((List Int))) :=
  (snoc x640 x914).bind fun x918 => some (Sum.inl (x918, (w64 (x641 + 1))))
def ref25_Line_B2 (fuel : Nat) (a0 : Hist) (x641 : Int) (a1 : Int) (x866 : Int) (x867 : Int) : Option ((Int × Int) ⊕ (Int)) :=
  (if (decide (0 ≤ x867)) = true then (ati a0.clocks x641).bind fun x924 => (ati x924 x867).bind fun x927 => (if (decide (a1 ≤ x927)) = true then (ati a0.pat.ckpts x641).bind fun x930 => (ati x930 x867).bind fun x933 => some (Sum.inl (x933, (w64 (x867 - 1)))) else some (Sum.inl (x866, (w64 (x867 - 1))))) else some (Sum.inr x866))
def ref25_Line_B1 (fuel : Nat) (a0 : Hist) (a1 : Int) (x640 : (List Int)) (x641 : Int) : Option (((List Int) × Int) ⊕ ((List Int))) :=
  (if (decide (x641 < (a0.pat.lens.length : Int))) = true then (ati a0.pat.lens x641).bind fun x803 => (ati a0.clocks x641).bind fun x807 => (iter (fun s => ref25_Line_B2 fuel a0 x641 a1 s.1 s.2) fuel (x803, (w64 ((x807.length : Int) - 1)))).bind (fun t => ref25_Line_K2 fuel x640 x641 t) else some (Sum.inr x640))
def ref25_Line (fuel : Nat) (a0 : Hist) (a1 : Int) : Option ((List Int)) :=
  (iter (fun s => ref25_Line_B1 fuel a0 a1 s.1 s.2) fuel (([] : List Int), 0)).bind (fun t => ref25_Line_K1 fuel t)
def law25_IndexedLines_K1 (fuel : Nat) (r225 : (Hist × Int)) (a1 : Int) : Option (Bool) :=
  (indexed_Line fuel (⟨(⟨r225.1.pat.lens, r225.1.pat.ckpts, r225.1.pat.arcs⟩ : Pat), r225.1.clocks, ([] : List (List (List Int))), r225.1.forced⟩ : Hist) a1).bind fun r380 => (ref25_Line fuel (⟨(⟨r225.1.pat.lens, r225.1.pat.ckpts, r225.1.pat.arcs⟩ : Pat), r225.1.clocks, ([] : List (List (List Int))), r225.1.forced⟩ : Hist) a1).bind fun r383 => (ref23_SameInts fuel r380 r383).bind fun r386 => some r386
def law25_IndexedLines_B1 (fuel : Nat) (r225 : (Hist × Int)) (x316 : Int) : Option ((Int) ⊕ (Unit ⊕ (Bool))) :=
  (if (decide (x316 ≤ 20)) = true then (indexed_Line fuel (⟨(⟨r225.1.pat.lens, r225.1.pat.ckpts, r225.1.pat.arcs⟩ : Pat), r225.1.clocks, ([] : List (List (List Int))), r225.1.forced⟩ : Hist) x316).bind fun r393 => (ref25_Line fuel (⟨(⟨r225.1.pat.lens, r225.1.pat.ckpts, r225.1.pat.arcs⟩ : Pat), r225.1.clocks, ([] : List (List (List Int))), r225.1.forced⟩ : Hist) x316).bind fun r397 => (ref23_SameInts fuel r393 r397).bind fun r400 => (orM (!r400) ((cut_Valid fuel (⟨r225.1.pat.lens, r225.1.pat.ckpts, r225.1.pat.arcs⟩ : Pat) r393).bind fun r408 => some (!r408))).bind fun x406 => (orM x406 ((cut_Consistent fuel (⟨r225.1.pat.lens, r225.1.pat.ckpts, r225.1.pat.arcs⟩ : Pat) r393).bind fun r416 => some (!r416))).bind fun x414 => (if x414 = true then some (Sum.inr (Sum.inr false)) else some (Sum.inl (w64 (x316 + 1)))) else some (Sum.inr (Sum.inl ())))
def law25_IndexedLines (fuel : Nat) (a0 : (List Int)) (a1 : Int) : Option (Bool) :=
  (law25_awake fuel).bind fun r215 => (if (!r215) = true then some false else (law25_draw fuel a0).bind fun r220 => (indexed_Play fuel r220.1 r220.2).bind fun r225 => (orM (r225.2 != 0) ((law25_sound fuel (⟨(⟨r225.1.pat.lens, r225.1.pat.ckpts, r225.1.pat.arcs⟩ : Pat), r225.1.clocks, ([] : List (List (List Int))), r225.1.forced⟩ : Hist) r220.1).bind fun r247 => some (!r247))).bind fun x245 => (if x245 = true then some false else (iter (fun s => law25_IndexedLines_B1 fuel r225 s) fuel (-1)).bind (fun t => Sum.elim (fun t => law25_IndexedLines_K1 fuel r225 a1) (fun t => some t) t)))
end Go.Mine
namespace Go.Proofs.Ytbmjcbhappjnaaa
open Go.RowKit Go.Mine
attribute [local irreducible] eseq ewp iter
theorem law25_awake_w {F R : Nat → Prop} {w : World} {fuel : Nat} {r : (Bool)} (hS : Sep F R R w w []) (h : law25_awake fuel = some r) :
    Gives Try.prog 20 [] w fun u w1 => ∃ (R1 : Nat → Prop), u = .bool r ∧ Sep F R R1 w w1 [] := by
  refine fn_of Try.func20 rfl Try.ntmps20 (Nat.le_of_ble_eq_true rfl) ?_
  unfold law25_awake at h
  refine e_seq fun K100 hK100 => ?_
  refine e_region_text rfl ?_
  refine q_assign rfl rfl ?_
  refine eseq_nil ?_
  refine hK100 _ _ ?_
  refine e_seq fun K101 hK101 => ?_
  refine e_region_text rfl ?_
  refine q_build (Parts.cons rfl rfl (Parts.cons rfl rfl (Parts.cons rfl rfl Parts.nil))) rfl rfl ?_
  refine q_build (Parts.cons rfl rfl (Parts.cons rfl rfl Parts.nil)) rfl rfl ?_
  refine q_build (Parts.cons rfl rfl (Parts.cons rfl rfl (Parts.cons rfl rfl Parts.nil))) rfl rfl ?_
  refine q_build (Parts.cons rfl rfl (Parts.cons rfl rfl Parts.nil)) rfl rfl ?_
  refine q_build (Parts.cons rfl rfl (Parts.cons rfl rfl Parts.nil)) rfl rfl ?_
  refine q_litO (T := deedTy) (S := (fun _ => False)) (cells := [[.int .i64 1, .int .i64 0, .int .i64 1], [.int .i64 3, .int .i64 0, .int .i64 0], [.int .i64 1, .int .i64 0, .int .i64 1], [.int .i64 2, .int .i64 0, .int .i64 0], [.int .i64 2, .int .i64 0, .int .i64 0]]) (ys := [(⟨1, 0, 1⟩ : Deed), (⟨3, 0, 0⟩ : Deed), (⟨1, 0, 1⟩ : Deed), (⟨2, 0, 0⟩ : Deed), (⟨2, 0, 0⟩ : Deed)]) ((Parts.cons rfl rfl (Parts.cons rfl rfl (Parts.cons rfl rfl (Parts.cons rfl rfl (Parts.cons rfl rfl Parts.nil)))))) rfl rfl rfl rfl rfl rfl rfl (fun w1 hB => ⟨⟨[_], _, rfl, rfl, ⟨[_], _, rfl, rfl, rfl⟩⟩, ⟨[_], _, rfl, rfl, ⟨[_], _, rfl, rfl, rfl⟩⟩, ⟨[_], _, rfl, rfl, ⟨[_], _, rfl, rfl, rfl⟩⟩, ⟨[_], _, rfl, rfl, ⟨[_], _, rfl, rfl, rfl⟩⟩, ⟨[_], _, rfl, rfl, ⟨[_], _, rfl, rfl, rfl⟩⟩, trivial⟩) (fun _ h => h.elim) rfl fun w102 v102 ho102 hv102 hB102 => ?_
  replace hS := hS.newOwnS hB102 ho102 hv102 (fun _ h => h.elim)
  obtain ⟨R105, hS, hm105, f105⟩ := hS.freezeOwn 0 rfl; simp only [List.eraseIdx] at hS
  obtain ⟨r106, hr106, h⟩ := Option.of_bind h
  refine q_call rfl (indexed_Play_w (Sep.enter (As := []) hS) f105 hr106) rfl ?_
  rintro _ w104 ⟨v107, v108, v109, v110, v111, v112, v114, v115, R104, rfl, hC104⟩
  have hB104 : Below (World.heap w102).size w102 w104 := hC104.stepB0
  refine ⟨fun _ => .of_below hB104, ?_⟩
  replace f105 := (f105.ext hB104).mono fun k hk _ => hC104.ro0 k hk
  replace hS := Sep.leave (As := []) hS hC104; simp only [List.cons_append, List.nil_append] at hS
  refine q_move rfl rfl ?_
  refine q_extract rfl rfl rfl ?_
  refine q_extract rfl rfl rfl ?_
  refine q_allocB rfl fun w116 bl116 hg116 hb116 hB116 => ?_
  replace hS := hS.newBlk hB116 hg116 hb116
  refine q_storeAgg rfl rfl (hS.blk 0 rfl) rfl (Nat.le_of_ble_eq_true rfl) (all_cons (hS.own 1 rfl).one (all_cons (hS.own 2 rfl).one (all_cons (hS.own 4 rfl).one (all_cons (hS.own 5 rfl).one (all_cons rfl (all_cons (hS.own 7 rfl).one (all_nil))))))) rfl rfl fun w118 hb118 hO118 => ?_
  simp only [setN, List.set, List.take, List.drop] at hb118
  have hk118 := hS.keptBlk 0 rfl hO118
  replace hS := hS.setBlk 0 rfl hb118 hO118; simp only [List.set] at hS
  refine q_assign rfl rfl ?_
  refine eseq_nil ?_
  refine hK101 _ _ ?_
  refine e_seq fun K119 hK119 => ?_
  refine e_region_text rfl ?_
  refine q_move rfl rfl ?_
  refine q_eql rfl rfl rfl ?_
  refine q_move rfl rfl ?_
  obtain ⟨x133, hx132, h⟩ := Option.of_bind h
  refine g_andM 7 hx132 rfl trivial rfl rfl ?_ ?_ ?_
  · intro hg132 hx132
    clear h
    have hT132 := Below.refl (World.heap w118).size w118
    refine g_run rfl ?_; refine q_field rfl rfl ?_
    refine g_run rfl ?_; refine q_field rfl rfl ?_
    refine g_run rfl ?_; refine q_load rfl (Blk.cell (hS.blk 0 rfl) rfl) rfl ?_
    refine g_run rfl ?_; refine q_litO (T := Ty.int) (S := (fun _ => False)) (cells := [[.int .i64 0], [.int .i64 1]]) (ys := [0, 1]) ((Parts.cons rfl rfl (Parts.cons rfl rfl Parts.nil))) rfl rfl rfl rfl rfl rfl rfl (fun w1 hB => ⟨rfl, rfl, trivial⟩) (fun _ h => h.elim) rfl fun w134 v134 ho134 hv134 hB134 => ?_
    replace hT132 := hT132.trans (Below.mono hB134 hT132.size)
    replace hS := hS.newOwnS hB134 ho134 hv134 (fun _ h => h.elim)
    refine g_run rfl ?_; refine q_litO (T := Ty.int) (S := (fun _ => False)) (cells := [[.int .i64 0], [.int .i64 1]]) (ys := [0, 1]) ((Parts.cons rfl rfl (Parts.cons rfl rfl Parts.nil))) rfl rfl rfl rfl rfl rfl rfl (fun w1 hB => ⟨rfl, rfl, trivial⟩) (fun _ h => h.elim) rfl fun w136 v136 ho136 hv136 hB136 => ?_
    replace hT132 := hT132.trans (Below.mono hB136 hT132.size)
    replace hS := hS.newOwnS hB136 ho136 hv136 (fun _ h => h.elim)
    refine g_run rfl ?_; refine q_litO (T := Ty.raw) (S := (fun _ => False)) (cells := [[v134], [v136]]) (ys := [v134, v136]) ((Parts.cons rfl (cells_one (hS.own 1 rfl).one) (Parts.cons rfl (cells_one (hS.own 0 rfl).one) Parts.nil))) rfl rfl rfl rfl rfl rfl rfl (fun w1 hB => ⟨⟨rfl, (hS.own 1 rfl).one⟩, ⟨rfl, (hS.own 0 rfl).one⟩, trivial⟩) (fun _ h => h.elim) rfl fun w138 v138 ho138 hv138 hB138 => ?_
    replace hT132 := hT132.trans (Below.mono hB138 hT132.size)
    replace hS := hS.newOwnS hB138 ho138 hv138 (fun _ h => h.elim)
    replace hS := hS.pickB [2, 0, 1, 3, 4, 5, 6, 7, 8, 9, 10, 11] 12 rfl rfl; simp only [List.map_cons, List.map_nil, List.getD_cons_zero, List.getD_cons_succ] at hS
    replace hS := hS.famOne
    replace hS := hS.pickB [2, 0, 1, 3, 4, 5, 6, 7, 8, 9, 10, 11] 12 rfl rfl; simp only [List.map_cons, List.map_nil, List.getD_cons_zero, List.getD_cons_succ] at hS
    replace hS := hS.famOne
    replace hS := hS.pickB [1, 0, 2, 3, 4, 5, 6, 7, 8, 9, 10, 11] 12 rfl rfl; simp only [List.map_cons, List.map_nil, List.getD_cons_zero, List.getD_cons_succ] at hS
    replace hS := hS.famCat; simp only [List.cons_append, List.nil_append] at hS
    obtain ⟨r143, hr143, hx132⟩ := Option.of_bind hx132
    refine g_run rfl ?_; refine q_call rfl (ref23_SameLists_w (Sep.all w138) ((hS.rowsI 4 5 rfl rfl (by decide))).old ((hS.rowsI 1 0 rfl rfl (by decide))).old hr143) rfl ?_
    rintro _ w142 ⟨R142, rfl, hC142⟩
    have hB142 : Below (World.heap w138).size w138 w142 := hC142.stepBF
    refine ⟨fun _ => .of_below hB142, ?_⟩
    replace hT132 := hT132.trans (Below.mono hB142 hT132.size)
    replace hS := hS.below hB142
    cases hx132
    exact eseq_nil ⟨hT132, Sub.set rfl (Sub.set rfl (Sub.set rfl (Sub.set rfl (Sub.set rfl (Sub.set rfl (Sub.set rfl (Sub.bool true rfl hg132))))))), rfl⟩
  · intro hg132
    refine g_skip rfl rfl rfl ?_
    refine g_skip rfl rfl rfl ?_
    refine g_skip rfl rfl rfl ?_
    refine g_skip rfl rfl rfl ?_
    refine g_skip rfl rfl rfl ?_
    refine g_skip rfl rfl rfl ?_
    refine g_skip rfl rfl rfl ?_
    exact eseq_nil ⟨rfl, Sub.set rfl (Sub.set rfl (Sub.set rfl (Sub.set rfl (Sub.set rfl (Sub.set rfl (Sub.set rfl (Sub.bool false rfl hg132)))))))⟩
  intro wm132 hBm132; clear hx132
  replace hS := hS.below hBm132
  refine q_move rfl rfl ?_
  obtain ⟨x157, hx156, h⟩ := Option.of_bind h
  refine g_andM 6 hx156 rfl trivial rfl rfl ?_ ?_ ?_
  · intro hg156 hx156
    clear h
    have hT156 := Below.refl (World.heap wm132).size wm132
    refine g_run rfl ?_; refine q_field rfl rfl ?_
    refine g_run rfl ?_; refine q_load rfl (Blk.cell (hS.blk 0 rfl) rfl) rfl ?_
    refine g_run rfl ?_; refine q_litO (T := Ty.int) (S := (fun _ => False)) (cells := [[.int .i64 0], [.int .i64 1]]) (ys := [0, 1]) ((Parts.cons rfl rfl (Parts.cons rfl rfl Parts.nil))) rfl rfl rfl rfl rfl rfl rfl (fun w1 hB => ⟨rfl, rfl, trivial⟩) (fun _ h => h.elim) rfl fun w158 v158 ho158 hv158 hB158 => ?_
    replace hT156 := hT156.trans (Below.mono hB158 hT156.size)
    replace hS := hS.newOwnS hB158 ho158 hv158 (fun _ h => h.elim)
    refine g_run rfl ?_; refine q_litO (T := Ty.int) (S := (fun _ => False)) (cells := [[.int .i64 0], [.int .i64 1]]) (ys := [0, 1]) ((Parts.cons rfl rfl (Parts.cons rfl rfl Parts.nil))) rfl rfl rfl rfl rfl rfl rfl (fun w1 hB => ⟨rfl, rfl, trivial⟩) (fun _ h => h.elim) rfl fun w160 v160 ho160 hv160 hB160 => ?_
    replace hT156 := hT156.trans (Below.mono hB160 hT156.size)
    replace hS := hS.newOwnS hB160 ho160 hv160 (fun _ h => h.elim)
    refine g_run rfl ?_; refine q_litO (T := Ty.raw) (S := (fun _ => False)) (cells := [[v158], [v160]]) (ys := [v158, v160]) ((Parts.cons rfl (cells_one (hS.own 1 rfl).one) (Parts.cons rfl (cells_one (hS.own 0 rfl).one) Parts.nil))) rfl rfl rfl rfl rfl rfl rfl (fun w1 hB => ⟨⟨rfl, (hS.own 1 rfl).one⟩, ⟨rfl, (hS.own 0 rfl).one⟩, trivial⟩) (fun _ h => h.elim) rfl fun w162 v162 ho162 hv162 hB162 => ?_
    replace hT156 := hT156.trans (Below.mono hB162 hT156.size)
    replace hS := hS.newOwnS hB162 ho162 hv162 (fun _ h => h.elim)
    replace hS := hS.pickB [2, 0, 1, 3, 4, 5, 6, 7, 8, 9, 10, 11] 12 rfl rfl; simp only [List.map_cons, List.map_nil, List.getD_cons_zero, List.getD_cons_succ] at hS
    replace hS := hS.famOne
    replace hS := hS.pickB [2, 0, 1, 3, 4, 5, 6, 7, 8, 9, 10, 11] 12 rfl rfl; simp only [List.map_cons, List.map_nil, List.getD_cons_zero, List.getD_cons_succ] at hS
    replace hS := hS.famOne
    replace hS := hS.pickB [1, 0, 2, 3, 4, 5, 6, 7, 8, 9, 10, 11] 12 rfl rfl; simp only [List.map_cons, List.map_nil, List.getD_cons_zero, List.getD_cons_succ] at hS
    replace hS := hS.famCat; simp only [List.cons_append, List.nil_append] at hS
    obtain ⟨r167, hr167, hx156⟩ := Option.of_bind hx156
    refine g_run rfl ?_; refine q_call rfl (ref23_SameLists_w (Sep.all w162) ((hS.rowsI 7 8 rfl rfl (by decide))).old ((hS.rowsI 1 0 rfl rfl (by decide))).old hr167) rfl ?_
    rintro _ w166 ⟨R166, rfl, hC166⟩
    have hB166 : Below (World.heap w162).size w162 w166 := hC166.stepBF
    refine ⟨fun _ => .of_below hB166, ?_⟩
    replace hT156 := hT156.trans (Below.mono hB166 hT156.size)
    replace hS := hS.below hB166
    cases hx156
    exact eseq_nil ⟨hT156, Sub.set rfl (Sub.set rfl (Sub.set rfl (Sub.set rfl (Sub.set rfl (Sub.set rfl (Sub.bool true rfl hg156)))))), rfl⟩
  · intro hg156
    refine g_skip rfl rfl rfl ?_
    refine g_skip rfl rfl rfl ?_
    refine g_skip rfl rfl rfl ?_
    refine g_skip rfl rfl rfl ?_
    refine g_skip rfl rfl rfl ?_
    refine g_skip rfl rfl rfl ?_
    exact eseq_nil ⟨rfl, Sub.set rfl (Sub.set rfl (Sub.set rfl (Sub.set rfl (Sub.set rfl (Sub.set rfl (Sub.bool false rfl hg156))))))⟩
  intro wm156 hBm156; clear hx156
  replace hS := hS.below hBm156
  refine q_move rfl rfl ?_
  obtain ⟨x171, hx170, h⟩ := Option.of_bind h
  refine g_andM 4 hx170 rfl trivial rfl rfl ?_ ?_ ?_
  · intro hg170 hx170
    clear h
    have hT170 := Below.refl (World.heap wm156).size wm156
    refine g_run rfl ?_; refine q_field rfl rfl ?_
    refine g_run rfl ?_; refine q_load rfl (Blk.cell (hS.blk 0 rfl) rfl) rfl ?_
    refine g_run rfl ?_; refine q_lenR rfl (hS.own 7 rfl) (hS.famLen 8 rfl) rfl ?_
    refine g_run rfl ?_; refine q_eql rfl rfl rfl ?_
    cases hx170
    exact eseq_nil ⟨hT170, Sub.set rfl (Sub.set rfl (Sub.set rfl (Sub.set rfl (Sub.bool true rfl hg170)))), rfl⟩
  · intro hg170
    refine g_skip rfl rfl rfl ?_
    refine g_skip rfl rfl rfl ?_
    refine g_skip rfl rfl rfl ?_
    refine g_skip rfl rfl rfl ?_
    exact eseq_nil ⟨rfl, Sub.set rfl (Sub.set rfl (Sub.set rfl (Sub.set rfl (Sub.bool false rfl hg170))))⟩
  intro wm170 hBm170; clear hx170
  replace hS := hS.below hBm170
  refine q_move rfl rfl ?_
  obtain ⟨x176, hx175, h⟩ := Option.of_bind h
  refine g_andM 6 hx175 rfl trivial rfl rfl ?_ ?_ ?_
  · intro hg175 hx175
    clear h
    have hT175 := Below.refl (World.heap wm170).size wm170
    refine g_run rfl ?_; refine q_field rfl rfl ?_
    refine g_run rfl ?_; refine q_load rfl (Blk.cell (hS.blk 0 rfl) rfl) rfl ?_
    obtain ⟨x177, hx177, hx175⟩ := Option.of_bind hx175
    have hax177 := ati_nth (hS.famLen 8 rfl) hx177
    refine g_run rfl ?_; refine q_indexO (T := Ty.raw) (by infer_instance) rfl (hS.own 7 rfl) rfl hax177 rfl ?_
    refine g_run rfl ?_; refine q_load rfl (Elt.rawCell ((hS.own 7 rfl).elt hax177)) rfl ?_
    refine g_run rfl ?_; refine q_lenS rfl (hS.famI 8 rfl hx177) rfl ?_
    refine g_run rfl ?_; refine q_eql rfl rfl rfl ?_
    cases hx175
    exact eseq_nil ⟨hT175, Sub.set rfl (Sub.set rfl (Sub.set rfl (Sub.set rfl (Sub.set rfl (Sub.set rfl (Sub.bool true rfl hg175)))))), rfl⟩
  · intro hg175
    refine g_skip rfl rfl rfl ?_
    refine g_skip rfl rfl rfl ?_
    refine g_skip rfl rfl rfl ?_
    refine g_skip rfl rfl rfl ?_
    refine g_skip rfl rfl rfl ?_
    refine g_skip rfl rfl rfl ?_
    exact eseq_nil ⟨rfl, Sub.set rfl (Sub.set rfl (Sub.set rfl (Sub.set rfl (Sub.set rfl (Sub.set rfl (Sub.bool false rfl hg175))))))⟩
  intro wm175 hBm175; clear hx175
  replace hS := hS.below hBm175
  refine q_move rfl rfl ?_
  obtain ⟨x184, hx183, h⟩ := Option.of_bind h
  refine g_andM 6 hx183 rfl trivial rfl rfl ?_ ?_ ?_
  · intro hg183 hx183
    clear h
    have hT183 := Below.refl (World.heap wm175).size wm175
    refine g_run rfl ?_; refine q_field rfl rfl ?_
    refine g_run rfl ?_; refine q_load rfl (Blk.cell (hS.blk 0 rfl) rfl) rfl ?_
    obtain ⟨x185, hx185, hx183⟩ := Option.of_bind hx183
    have hax185 := ati_nth (hS.famLen 8 rfl) hx185
    refine g_run rfl ?_; refine q_indexO (T := Ty.raw) (by infer_instance) rfl (hS.own 7 rfl) rfl hax185 rfl ?_
    refine g_run rfl ?_; refine q_load rfl (Elt.rawCell ((hS.own 7 rfl).elt hax185)) rfl ?_
    obtain ⟨x186, hx186, hx183⟩ := Option.of_bind hx183
    refine g_run rfl ?_; refine q_indexO (by infer_instance) rfl (hS.famO 8 rfl hx185) rfl hx186 rfl ?_
    have f187 := (hS.famOR 8 rfl hx185).elt hx186
    refine g_run rfl ?_; refine q_load rfl (Elt.boolCell f187) rfl ?_
    cases hx183
    exact eseq_nil ⟨hT183, Sub.set rfl (Sub.set rfl (Sub.set rfl (Sub.set rfl (Sub.set rfl (Sub.set rfl (Sub.bool true rfl hg183)))))), rfl⟩
  · intro hg183
    refine g_skip rfl rfl rfl ?_
    refine g_skip rfl rfl rfl ?_
    refine g_skip rfl rfl rfl ?_
    refine g_skip rfl rfl rfl ?_
    refine g_skip rfl rfl rfl ?_
    refine g_skip rfl rfl rfl ?_
    exact eseq_nil ⟨rfl, Sub.set rfl (Sub.set rfl (Sub.set rfl (Sub.set rfl (Sub.set rfl (Sub.set rfl (Sub.bool false rfl hg183))))))⟩
  intro wm183 hBm183; clear hx183
  replace hS := hS.below hBm183
  refine q_move rfl rfl ?_
  obtain ⟨x194, hx193, h⟩ := Option.of_bind h
  refine g_andM 7 hx193 rfl trivial rfl rfl ?_ ?_ ?_
  · intro hg193 hx193
    clear h
    have hT193 := Below.refl (World.heap wm183).size wm183
    refine g_run rfl ?_; refine q_field rfl rfl ?_
    refine g_run rfl ?_; refine q_load rfl (Blk.cell (hS.blk 0 rfl) rfl) rfl ?_
    obtain ⟨x195, hx195, hx193⟩ := Option.of_bind hx193
    have hax195 := ati_nth (hS.famLen 8 rfl) hx195
    refine g_run rfl ?_; refine q_indexO (T := Ty.raw) (by infer_instance) rfl (hS.own 7 rfl) rfl hax195 rfl ?_
    refine g_run rfl ?_; refine q_load rfl (Elt.rawCell ((hS.own 7 rfl).elt hax195)) rfl ?_
    obtain ⟨x196, hx196, hx193⟩ := Option.of_bind hx193
    refine g_run rfl ?_; refine q_indexO (by infer_instance) rfl (hS.famO 8 rfl hx195) rfl hx196 rfl ?_
    have f197 := (hS.famOR 8 rfl hx195).elt hx196
    refine g_run rfl ?_; refine q_load rfl (Elt.boolCell f197) rfl ?_
    refine g_run rfl ?_; refine q_not rfl rfl ?_
    cases hx193
    exact eseq_nil ⟨hT193, Sub.set rfl (Sub.set rfl (Sub.set rfl (Sub.set rfl (Sub.set rfl (Sub.set rfl (Sub.set rfl (Sub.bool true rfl hg193))))))), rfl⟩
  · intro hg193
    refine g_skip rfl rfl rfl ?_
    refine g_skip rfl rfl rfl ?_
    refine g_skip rfl rfl rfl ?_
    refine g_skip rfl rfl rfl ?_
    refine g_skip rfl rfl rfl ?_
    refine g_skip rfl rfl rfl ?_
    refine g_skip rfl rfl rfl ?_
    exact eseq_nil ⟨rfl, Sub.set rfl (Sub.set rfl (Sub.set rfl (Sub.set rfl (Sub.set rfl (Sub.set rfl (Sub.set rfl (Sub.bool false rfl hg193)))))))⟩
  intro wm193 hBm193; clear hx193
  replace hS := hS.below hBm193
  refine q_assign rfl rfl ?_
  refine eseq_nil ?_
  refine hK119 _ _ ?_
  refine e_ret ?_
  obtain rfl := Option.some.inj h
  exact ⟨_, res1 rfl rfl, _, rfl, (hS.pickB [] 9 rfl rfl)⟩
theorem law25_draw_w {F R : Nat → Prop} {w : World} {fuel : Nat} {a0 : (List Int)} {v1 : Value} {r : (Int × (List Deed))} (hS : Sep F R R w w []) (f1 : IsSlice Ty.u8 w R v1 a0) (h : law25_draw fuel a0 = some r) :
    Gives Try.prog 21 [v1] w fun u w1 => ∃ (v15 : Value), ∃ (R1 : Nat → Prop), u = .tuple #[.int .i64 r.1, v15] ∧ Sep F R R1 w w1 [HP.own deedTy (fun _ => False) 80 v15 r.2] := by
  refine fn_of Try.func21 rfl Try.ntmps21 (Nat.le_of_ble_eq_true rfl) ?_
  unfold law25_draw at h
  refine e_seq fun K16 hK16 => ?_
  refine e_region_text rfl ?_
  refine q_assign rfl rfl ?_
  refine q_assign rfl rfl ?_
  refine eseq_nil ?_
  refine hK16 _ _ ?_
  refine e_seq fun K17 hK17 => ?_
  refine e_region_text rfl ?_
  refine q_move rfl rfl ?_
  obtain ⟨r19, hr19, h⟩ := Option.of_bind h
  refine q_call rfl (make_New_w (Sep.enter (As := []) hS) f1 hr19) rfl ?_
  rintro _ w18 ⟨B20, v21, R18, rfl, hC18, f21⟩
  have hB18 : Below (World.heap w).size w w18 := hC18.stepB0
  refine ⟨fun _ => .of_below hB18, ?_⟩
  replace f1 := (f1.ext hB18).mono fun k hk _ => hC18.ro0 k hk
  replace hS := Sep.leave (As := []) hS hC18; simp only [List.cons_append, List.nil_append] at hS
  refine q_assign rfl rfl ?_
  refine eseq_nil ?_
  refine hK17 _ _ ?_
  refine e_seq fun K22 hK22 => ?_
  refine e_region_text rfl ?_
  refine q_move rfl rfl ?_
  obtain ⟨r24, hr24, h⟩ := Option.of_bind h
  refine q_call rfl (make_Codes_Next_w (Sep.enter (As := [_]) hS) f21 hr24) rfl ?_
  rintro _ w23 ⟨R23, rfl, hC23⟩
  refine ⟨(fun h => by cases h), ?_⟩
  have hk23 := hC23.keptR (Sep.offFeet (As := [_]) hS)
  replace f21 := (f21.kept hk23).mono fun k hk _ => hC23.ro0 k hk
  replace hS := Sep.leave (As := [_]) hS hC23; simp only [List.cons_append, List.nil_append] at hS
  refine q_addW rfl rfl rfl ?_
  refine q_assign rfl rfl ?_
  refine eseq_nil ?_
  refine hK22 _ _ ?_
  refine e_seq fun K25 hK25 => ?_
  refine e_region_text rfl ?_
  refine q_move rfl rfl ?_
  refine q_move rfl rfl ?_
  refine q_move rfl rfl ?_
  obtain ⟨r27, hr27, h⟩ := Option.of_bind h
  refine q_call rfl (make_Codes_Acts_w (Sep.enter (As := [_]) hS) f21 hr27) rfl ?_
  rintro v28 w26 ⟨_, R26, rfl, hC26⟩
  refine ⟨(fun h => by cases h), ?_⟩
  have hk26 := hC26.keptR (Sep.offFeet (As := [_]) hS)
  replace f21 := (f21.kept hk26).mono fun k hk _ => hC26.ro0 k hk
  replace hS := Sep.leave (As := [_]) hS hC26; simp only [List.cons_append, List.nil_append] at hS
  refine q_assign rfl rfl ?_
  refine q_assign rfl rfl ?_
  refine eseq_nil ?_
  refine hK25 _ _ ?_
  refine e_ret ?_
  obtain rfl := Option.some.inj h
  exact ⟨_, res2 rfl rfl rfl, v28, _, rfl, (hS.pickB [1] 2 rfl rfl)⟩
theorem law25_sound_w {F R : Nat → Prop} {w : World} {fuel : Nat} {a0 : Hist} {a1 : Int} {v1 : Value} {v2 : Value} {v3 : Value} {v4 : Value} {v5 : Value} {v6 : Value} {r : (Bool)} (hS : Sep F R R w w []) (f1 : IsSlice Ty.int w R v1 a0.pat.lens) (f2 : IsSlice (Ty.slice Ty.int) w R v2 a0.pat.ckpts) (f3 : IsSlice arcTy w R v3 a0.pat.arcs) (f4 : IsSlice (Ty.slice Ty.int) w R v4 a0.clocks) (f5 : IsSlice (Ty.slice (Ty.slice Ty.int)) w R v5 a0.vecs) (f6 : IsSlice (Ty.slice Ty.bool) w R v6 a0.forced) (h : law25_sound fuel a0 a1 = some r) :
    Gives Try.prog 23 [.agg #[v1, v2, v3, v4, v5, v6], .int .i64 a1] w fun u w1 => ∃ (R1 : Nat → Prop), u = .bool r ∧ Sep F R R1 w w1 [] := by
  refine fn_of Try.func23 rfl Try.ntmps23 (Nat.le_of_ble_eq_true rfl) ?_
  unfold law25_sound at h
  refine e_seq fun K163 hK163 => ?_
  refine e_region_text rfl ?_
  refine q_boxB rfl rfl rfl fun w164 bl164 hg164 hb164 hB164 => ?_
  replace f1 := f1.ext hB164
  replace f2 := f2.ext hB164
  replace f3 := f3.ext hB164
  replace f4 := f4.ext hB164
  replace f5 := f5.ext hB164
  replace f6 := f6.ext hB164
  replace hS := hS.newBlk hB164 hg164 hb164
  refine q_assign rfl rfl ?_
  refine eseq_nil ?_
  refine hK163 _ _ ?_
  refine e_seq fun K166 hK166 => ?_
  refine e_seq fun K167 hK167 => ?_
  refine e_region_text rfl ?_
  refine q_field rfl rfl ?_
  refine q_field rfl rfl ?_
  refine q_load rfl (Blk.cell (hS.blk 0 rfl) rfl) rfl ?_
  refine q_lenS rfl f1 rfl ?_
  refine q_move rfl rfl ?_
  refine q_neq rfl rfl rfl ?_
  refine q_move rfl rfl ?_
  obtain ⟨x171, hx170, h⟩ := Option.of_bind h
  refine g_orM 6 hx170 rfl trivial rfl rfl ?_ ?_ ?_
  · intro hg170
    refine g_skip rfl rfl rfl ?_
    refine g_skip rfl rfl rfl ?_
    refine g_skip rfl rfl rfl ?_
    refine g_skip rfl rfl rfl ?_
    refine g_skip rfl rfl rfl ?_
    refine g_skip rfl rfl rfl ?_
    exact eseq_nil ⟨rfl, Sub.set rfl (Sub.set rfl (Sub.set rfl (Sub.set rfl (Sub.set rfl (Sub.set rfl (Sub.bool true rfl hg170))))))⟩
  · intro hg170 hx170
    clear h
    have hT170 := Below.refl (World.heap w164).size w164
    refine g_run rfl ?_; refine q_field rfl rfl ?_
    refine g_run rfl ?_; refine q_field rfl rfl ?_
    refine g_run rfl ?_; refine q_load rfl (Blk.cell (hS.blk 0 rfl) rfl) rfl ?_
    refine g_run rfl ?_; refine q_lenS rfl f2 rfl ?_
    refine g_run rfl ?_; refine q_move rfl rfl ?_
    refine g_run rfl ?_; refine q_neq rfl rfl rfl ?_
    cases hx170
    exact eseq_nil ⟨hT170, Sub.set rfl (Sub.set rfl (Sub.set rfl (Sub.set rfl (Sub.set rfl (Sub.set rfl (Sub.bool false rfl hg170)))))), rfl⟩
  intro wm170 hBm170; clear hx170
  replace hS := hS.below hBm170
  replace f1 := f1.ext hBm170
  replace f2 := f2.ext hBm170
  replace f3 := f3.ext hBm170
  replace f4 := f4.ext hBm170
  replace f5 := f5.ext hBm170
  replace f6 := f6.ext hBm170
  refine q_move rfl rfl ?_
  obtain ⟨x175, hx174, h⟩ := Option.of_bind h
  refine g_orM 5 hx174 rfl trivial rfl rfl ?_ ?_ ?_
  · intro hg174
    refine g_skip rfl rfl rfl ?_
    refine g_skip rfl rfl rfl ?_
    refine g_skip rfl rfl rfl ?_
    refine g_skip rfl rfl rfl ?_
    refine g_skip rfl rfl rfl ?_
    exact eseq_nil ⟨rfl, Sub.set rfl (Sub.set rfl (Sub.set rfl (Sub.set rfl (Sub.set rfl (Sub.bool true rfl hg174)))))⟩
  · intro hg174 hx174
    clear h
    have hT174 := Below.refl (World.heap wm170).size wm170
    refine g_run rfl ?_; refine q_field rfl rfl ?_
    refine g_run rfl ?_; refine q_load rfl (Blk.cell (hS.blk 0 rfl) rfl) rfl ?_
    refine g_run rfl ?_; refine q_lenS rfl f4 rfl ?_
    refine g_run rfl ?_; refine q_move rfl rfl ?_
    refine g_run rfl ?_; refine q_neq rfl rfl rfl ?_
    cases hx174
    exact eseq_nil ⟨hT174, Sub.set rfl (Sub.set rfl (Sub.set rfl (Sub.set rfl (Sub.set rfl (Sub.bool false rfl hg174))))), rfl⟩
  intro wm174 hBm174; clear hx174
  replace hS := hS.below hBm174
  replace f1 := f1.ext hBm174
  replace f2 := f2.ext hBm174
  replace f3 := f3.ext hBm174
  replace f4 := f4.ext hBm174
  replace f5 := f5.ext hBm174
  replace f6 := f6.ext hBm174
  refine q_move rfl rfl ?_
  obtain ⟨x179, hx178, h⟩ := Option.of_bind h
  refine g_orM 5 hx178 rfl trivial rfl rfl ?_ ?_ ?_
  · intro hg178
    refine g_skip rfl rfl rfl ?_
    refine g_skip rfl rfl rfl ?_
    refine g_skip rfl rfl rfl ?_
    refine g_skip rfl rfl rfl ?_
    refine g_skip rfl rfl rfl ?_
    exact eseq_nil ⟨rfl, Sub.set rfl (Sub.set rfl (Sub.set rfl (Sub.set rfl (Sub.set rfl (Sub.bool true rfl hg178)))))⟩
  · intro hg178 hx178
    clear h
    have hT178 := Below.refl (World.heap wm174).size wm174
    refine g_run rfl ?_; refine q_field rfl rfl ?_
    refine g_run rfl ?_; refine q_load rfl (Blk.cell (hS.blk 0 rfl) rfl) rfl ?_
    refine g_run rfl ?_; refine q_lenS rfl f6 rfl ?_
    refine g_run rfl ?_; refine q_move rfl rfl ?_
    refine g_run rfl ?_; refine q_neq rfl rfl rfl ?_
    cases hx178
    exact eseq_nil ⟨hT178, Sub.set rfl (Sub.set rfl (Sub.set rfl (Sub.set rfl (Sub.set rfl (Sub.bool false rfl hg178))))), rfl⟩
  intro wm178 hBm178; clear hx178
  replace hS := hS.below hBm178
  replace f1 := f1.ext hBm178
  replace f2 := f2.ext hBm178
  replace f3 := f3.ext hBm178
  replace f4 := f4.ext hBm178
  replace f5 := f5.ext hBm178
  replace f6 := f6.ext hBm178
  refine eseq_nil ?_
  refine hK167 _ _ ?_
  refine e_cond rfl (fun hc180 => ?_) (fun hc180 => ?_)
  · replace h := (if_pos hc180).symm.trans h
    refine e_seq fun K181 hK181 => ?_
    refine e_region_text rfl ?_
    refine q_assign rfl rfl ?_
    refine eseq_nil ?_
    refine hK181 _ _ ?_
    refine e_ret ?_
    obtain rfl := Option.some.inj h
    exact ⟨_, res1 rfl rfl, _, rfl, (hS.pickB [] 1 rfl rfl)⟩
  · replace h := (if_neg (not_true hc180)).symm.trans h
    refine e_skip ?_
    refine hK166 _ _ ?_
    refine e_seq fun K182 hK182 => ?_
    refine e_seq fun K183 hK183 => ?_
    refine e_region_text rfl ?_
    refine q_assign rfl rfl ?_
    refine eseq_nil ?_
    refine hK183 _ _ ?_
    refine e_block ?_
    obtain ⟨tl184, ht184, h⟩ := Option.of_bind h
    have hX184_0 : ∀ (R278 : Nat → Prop) (w279 : World) (E_ : Env), law25_sound_K1 fuel a0 = some r → Sep F R R278 w w279 [HP.blk bl164 [v1, v2, v3, v4, v5, v6] 35] → IsSlice Ty.int w279 R278 v1 a0.pat.lens → IsSlice (Ty.slice Ty.int) w279 R278 v2 a0.pat.ckpts → IsSlice arcTy w279 R278 v3 a0.pat.arcs → IsSlice (Ty.slice Ty.int) w279 R278 v4 a0.clocks → IsSlice (Ty.slice (Ty.slice Ty.int)) w279 R278 v5 a0.vecs → IsSlice (Ty.slice Ty.bool) w279 R278 v6 a0.forced → Sub [(2, .pointer (some ⟨bl164, 0, none⟩))] E_ → K182 E_ w279 := by
      intro R278 w279 E_ h hS f280 f281 f282 f283 f284 f285 hsub
      refine hK182 _ _ (e_sub hsub ?_); clear hsub
      unfold law25_sound_K1 at h
      refine e_seq fun K286 hK286 => ?_
      refine e_region_text rfl ?_
      refine q_field rfl rfl ?_
      refine q_loadAgg rfl (Blk.cellsAt (hS.blk 0 rfl) 0 3 rfl) rfl rfl ?_
      obtain ⟨r288, hr288, h⟩ := Option.of_bind h
      refine q_call rfl (ref16_Check_w (a0 := (⟨a0.pat.lens, a0.pat.ckpts, a0.pat.arcs⟩ : Pat)) (Sep.enter (As := []) hS) f280 f281 f282 hr288) rfl ?_
      rintro _ w287 ⟨R287, rfl, hC287⟩
      have hB287 : Below (World.heap w279).size w279 w287 := hC287.stepB0
      refine ⟨fun _ => .of_below hB287, ?_⟩
      replace f280 := (f280.ext hB287).mono fun k hk _ => hC287.ro0 k hk
      replace f281 := (f281.ext hB287).mono fun k hk _ => hC287.ro0 k hk
      replace f282 := (f282.ext hB287).mono fun k hk _ => hC287.ro0 k hk
      replace hS := Sep.leave (As := []) hS hC287; simp only [List.cons_append, List.nil_append] at hS
      refine q_eql rfl rfl rfl ?_
      refine q_assign rfl rfl ?_
      refine eseq_nil ?_
      refine hK286 _ _ ?_
      refine e_ret ?_
      obtain rfl := Option.some.inj h
      exact ⟨_, res1 rfl rfl, _, rfl, (hS.pickB [] 1 rfl rfl)⟩
    refine e_loop (fun m_ E_ w232 => ∃ (x239 : Int), ∃ (R231 : Nat → Prop), iter (fun s => law25_sound_B1 fuel a1 a0 s) m_ x239 = some tl184 ∧ Sep F R R231 w w232 [HP.blk bl164 [v1, v2, v3, v4, v5, v6] 35] ∧ IsSlice Ty.int w232 R231 v1 a0.pat.lens ∧ IsSlice (Ty.slice Ty.int) w232 R231 v2 a0.pat.ckpts ∧ IsSlice arcTy w232 R231 v3 a0.pat.arcs ∧ IsSlice (Ty.slice Ty.int) w232 R231 v4 a0.clocks ∧ IsSlice (Ty.slice (Ty.slice Ty.int)) w232 R231 v5 a0.vecs ∧ IsSlice (Ty.slice Ty.bool) w232 R231 v6 a0.forced ∧ E_ = [(1, .int .i64 a1), (2, .pointer (some ⟨bl164, 0, none⟩)), (5, .int .i64 x239)]) _ ⟨_, ⟨0, _, ht184, hS, f1, f2, f3, f4, f5, f6, rfl⟩, Sub.cons rfl (Sub.cons rfl (Sub.cons rfl (Sub.nil _)))⟩ ?_
    clear ht184 hS
    rintro m184 _ w232 ⟨x239, R231, ht184, hS, f233, f234, f235, f236, f237, f238, rfl⟩
    obtain ⟨m184, rfl, o184, ho184, ht184⟩ := iter_some ht184
    replace ho184 : law25_sound_B1 fuel a1 a0 x239 = some o184 := ho184
    unfold law25_sound_B1 at ho184
    refine e_seq fun K289 hK289 => ?_
    refine e_seq fun K290 hK290 => ?_
    refine e_region_text rfl ?_
    refine q_move rfl rfl ?_
    refine q_move rfl rfl ?_
    refine q_lss rfl rfl rfl ?_
    refine eseq_nil ?_
    refine hK290 _ _ ?_
    refine e_cond rfl (fun hc291 => ?_) (fun hc291 => ?_)
    · replace ho184 := (if_pos hc291).symm.trans ho184
      refine e_skip ?_
      refine hK289 _ _ ?_
      refine e_seq fun K292 hK292 => ?_
      refine e_block ?_
      refine e_seq fun K293 hK293 => ?_
      refine e_region_draw mixed (fun _ => False) [0, 1, 0, 7, 15, 31, 0, 64, 192, 0, 960, 1984, 4032, 8191, 16383, 32767, 65535, 32767, 262143, 524287, 1048575, 32767, 2129919, 6324223, 32767, 31490047, 65044479, 132153343, 268435455, 536870911] [] [0, 1, 2, 3, 4, 5, 6, 7, 8, 9, 10, 11, 12, 13, 14, 15, 16, 17, 18, 19, 20, 21, 22, 23, 24, 25, 26, 27, 28, 29] (by kernel_rfl) ?_
      refine q_field rfl rfl ?_
      refine q_load rfl (Blk.cell (hS.blk 0 rfl) rfl) rfl ?_
      refine q_move rfl rfl ?_
      obtain ⟨x294, hx294, ho184⟩ := Option.of_bind ho184
      refine q_atS (by infer_instance) rfl f236 rfl hx294 rfl fun b295 o295 hm295 f295 => ?_
      refine q_loadE rfl f295 rfl (fun v296 f296 => ?_)
      refine q_lenS rfl f296 rfl ?_
      refine q_field rfl rfl ?_
      refine q_field rfl rfl ?_
      refine q_load rfl (Blk.cell (hS.blk 0 rfl) rfl) rfl ?_
      refine q_move rfl rfl ?_
      obtain ⟨x297, hx297, ho184⟩ := Option.of_bind ho184
      refine q_atS (by infer_instance) rfl f234 rfl hx297 rfl fun b298 o298 hm298 f298 => ?_
      refine q_loadE rfl f298 rfl (fun v299 f299 => ?_)
      refine q_lenS rfl f299 rfl ?_
      refine q_neq rfl rfl rfl ?_
      refine q_move rfl rfl ?_
      obtain ⟨x309, hx308, ho184⟩ := Option.of_bind ho184
      refine g_orM 14 hx308 rfl trivial rfl rfl ?_ ?_ ?_
      · intro hg308
        refine g_skip rfl rfl rfl ?_
        refine g_skip rfl rfl rfl ?_
        refine g_skip rfl rfl rfl ?_
        refine g_skip rfl rfl rfl ?_
        refine g_skip rfl rfl rfl ?_
        refine g_skip rfl rfl rfl ?_
        refine g_skip rfl rfl rfl ?_
        refine g_skip rfl rfl rfl ?_
        refine g_skip rfl rfl rfl ?_
        refine g_skip rfl rfl rfl ?_
        refine g_skip rfl rfl rfl ?_
        refine g_skip rfl rfl rfl ?_
        refine g_skip rfl rfl rfl ?_
        refine g_skip rfl rfl rfl ?_
        exact eseq_nil ⟨rfl, Sub.set rfl (Sub.set rfl (Sub.set rfl (Sub.set rfl (Sub.set rfl (Sub.set rfl (Sub.set rfl (Sub.set rfl (Sub.set rfl (Sub.set rfl (Sub.set rfl (Sub.set rfl (Sub.set rfl (Sub.set rfl (Sub.bool true rfl hg308))))))))))))))⟩
      · intro hg308 hx308
        clear ho184
        have hT308 := Below.refl (World.heap w232).size w232
        refine g_run rfl ?_; refine q_field rfl rfl ?_
        refine g_run rfl ?_; refine q_load rfl (Blk.cell (hS.blk 0 rfl) rfl) rfl ?_
        refine g_run rfl ?_; refine q_move rfl rfl ?_
        obtain ⟨x310, hx310, hx308⟩ := Option.of_bind hx308
        refine g_run rfl ?_; refine q_atS (by infer_instance) rfl f238 rfl hx310 rfl fun b311 o311 hm311 f311 => ?_
        refine g_run rfl ?_; refine q_loadE rfl f311 rfl (fun v312 f312 => ?_)
        refine g_run rfl ?_; refine q_lenS rfl f312 rfl ?_
        refine g_run rfl ?_; refine q_field rfl rfl ?_
        refine g_run rfl ?_; refine q_field rfl rfl ?_
        refine g_run rfl ?_; refine q_load rfl (Blk.cell (hS.blk 0 rfl) rfl) rfl ?_
        refine g_run rfl ?_; refine q_move rfl rfl ?_
        obtain ⟨x313, hx313, hx308⟩ := Option.of_bind hx308
        refine g_run rfl ?_; refine q_atS (by infer_instance) rfl f234 rfl hx313 rfl fun b314 o314 hm314 f314 => ?_
        refine g_run rfl ?_; refine q_loadE rfl f314 rfl (fun v315 f315 => ?_)
        refine g_run rfl ?_; refine q_lenS rfl f315 rfl ?_
        refine g_run rfl ?_; refine q_neq rfl rfl rfl ?_
        cases hx308
        exact eseq_nil ⟨hT308, Sub.set rfl (Sub.set rfl (Sub.set rfl (Sub.set rfl (Sub.set rfl (Sub.set rfl (Sub.set rfl (Sub.set rfl (Sub.set rfl (Sub.set rfl (Sub.set rfl (Sub.set rfl (Sub.set rfl (Sub.set rfl (Sub.bool false rfl hg308)))))))))))))), rfl⟩
      intro wm308 hBm308; clear hx308
      replace hS := hS.below hBm308
      replace f233 := f233.ext hBm308
      replace f234 := f234.ext hBm308
      replace f235 := f235.ext hBm308
      replace f236 := f236.ext hBm308
      replace f237 := f237.ext hBm308
      replace f238 := f238.ext hBm308
      refine eseq_nil ?_
      refine hK293 _ _ ?_
      refine e_cond rfl (fun hc316 => ?_) (fun hc316 => ?_)
      · replace ho184 := (if_pos hc316).symm.trans ho184
        refine e_seq fun K317 hK317 => ?_
        refine e_region_text rfl ?_
        refine q_assign rfl rfl ?_
        refine eseq_nil ?_
        refine hK317 _ _ ?_
        refine e_ret ?_
        obtain rfl := Option.some.inj ho184
        obtain rfl := Option.some.inj ht184
        obtain rfl := Option.some.inj h
        exact ⟨_, res1 rfl rfl, _, rfl, (hS.pickB [] 1 rfl rfl)⟩
      · replace ho184 := (if_neg (not_true hc316)).symm.trans ho184
        refine e_skip ?_
        refine hK292 _ _ ?_
        refine e_region_text rfl ?_
        refine q_move rfl rfl ?_
        refine q_addW rfl rfl rfl ?_
        refine q_assign rfl rfl ?_
        refine eseq_nil ?_
        obtain rfl := Option.some.inj ho184
        exact ⟨m184, _, Nat.lt_succ_self _, ⟨(w64 (x239 + 1)), _, ht184, hS, f233, f234, f235, f236, f237, f238, rfl⟩, Sub.cons rfl (Sub.cons rfl (Sub.cons rfl (Sub.nil _)))⟩
    · replace ho184 := (if_neg (not_true hc291)).symm.trans ho184
      refine e_exit ?_
      obtain rfl := Option.some.inj ho184
      obtain rfl := Option.some.inj ht184
      exact hX184_0  _ _ _ h hS f233 f234 f235 f236 f237 f238 (Sub.cons rfl (Sub.nil _))
end Go.Proofs.Ytbmjcbhappjnaaa
