/- Printed walks: A26f. -/
import Derived.Test.YtbmjcbhappjnaaaA26d
import Derived.Test.YtbmjcbhappjnaaaDel
set_option linter.unusedVariables false
set_option linter.unusedSimpArgs false
namespace Go.Mine
open Go.RowKit
def law26_ModelbasedFirst_K1 (fuel : Nat) (x474 : (List Hist)) : Option (Bool) :=
  (ati x474 1).bind fun x520 => (ati x474 2).bind fun x529 => (ati x474 3).bind fun x538 => (ati x474 4).bind fun x547 => (law26_some fuel x520).bind fun r557 => (law26_some fuel x529).bind fun r559 => (law26_some fuel x538).bind fun r561 => (law26_some fuel x547).bind fun r563 => (orM (!r563) ((andM r559 (some r561)).bind fun x572 => some x572)).bind fun x570 => (andM x570 ((andM (!r559) (some (!r561))).bind fun x582 => (orM x582 (some r557)).bind fun x584 => some x584)).bind fun x580 => some x580
def law26_ModelbasedFirst_B1 (fuel : Nat) (r331 : (Int × Int × (List Deed))) (x408 : (List Deed)) (x410 : (List Hist)) (x411 : Int) : Option (((List Deed) × (List Hist) × Int) ⊕ (((List Hist)) ⊕ (Bool))) :=
  (if (decide (x411 ≤ 4)) = true then (modelbased_Play fuel r331.1 x411 x408).bind fun r592 => (orM (r592.2 != 0) ((law26_sound fuel (⟨(⟨r592.1.pat.lens, r592.1.pat.ckpts, r592.1.pat.arcs⟩ : Pat), r592.1.clocks, r592.1.vecs, r592.1.forced⟩ : Hist) r331.1).bind fun r611 => some (!r611))).bind fun x609 => (if x609 = true then some (Sum.inr (Sum.inr false)) else (ati x410 x411).bind fun x615 => (seti x410 x411 (⟨(⟨r592.1.pat.lens, r592.1.pat.ckpts, r592.1.pat.arcs⟩ : Pat), r592.1.clocks, r592.1.vecs, r592.1.forced⟩ : Hist)).bind fun x617 => (ati x617 1).bind fun x623 => (ati x617 1).bind fun x630 => (ref16_Same fuel (⟨r592.1.pat.lens, x623.pat.ckpts, r592.1.pat.arcs⟩ : Pat) x630.pat).bind fun r638 => (if (!r638) = true then some (Sum.inr (Sum.inr false)) else some (Sum.inl (x408, x617, (w64 (x411 + 1)))))) else some (Sum.inr (Sum.inl x410)))
def law26_ModelbasedFirst (fuel : Nat) (a0 : (List Int)) : Option (Bool) :=
  (law26_awake fuel).bind fun r326 => (if (!r326) = true then some false else (law26_draw fuel a0).bind fun r331 => (iter (fun s => law26_ModelbasedFirst_B1 fuel r331 s.1 s.2.1 s.2.2) fuel (r331.2.2, (List.replicate 5 (⟨(⟨([] : List Int), ([] : List (List Int)), ([] : List Arc)⟩ : Pat), ([] : List (List Int)), ([] : List (List (List Int))), ([] : List (List Bool))⟩ : Hist)), 1)).bind (fun t => Sum.elim (fun t => law26_ModelbasedFirst_K1 fuel t) (fun t => some t) t))
end Go.Mine
namespace Go.Proofs.Ytbmjcbhappjnaaa
open Go.RowKit Go.Mine
attribute [local irreducible] eseq ewp iter
theorem law26_ModelbasedFirst_w {F R : Nat → Prop} {w : World} {fuel : Nat} {a0 : (List Int)} {v1 : Value} {r : (Bool)} (hS : Sep F R R w w []) (f1 : IsSlice Ty.u8 w R v1 a0) (h : law26_ModelbasedFirst fuel a0 = some r) :
    Gives Try.prog 4 [v1] w fun u w1 => ∃ (R1 : Nat → Prop), u = .bool r ∧ Sep F R R1 w w1 [] := by
  refine fn_of Try.func4 rfl Try.ntmps4 (Nat.le_of_ble_eq_true rfl) ?_
  unfold law26_ModelbasedFirst at h
  refine e_seq fun K322 hK322 => ?_
  refine e_region_text rfl ?_
  refine q_assign rfl rfl ?_
  refine eseq_nil ?_
  refine hK322 _ _ ?_
  refine e_seq fun K323 hK323 => ?_
  refine e_seq fun K324 hK324 => ?_
  refine e_region_text rfl ?_
  obtain ⟨r326, hr326, h⟩ := Option.of_bind h
  refine q_call rfl (law26_awake_w (Sep.enter (As := []) hS)  hr326) rfl ?_
  rintro _ w325 ⟨R325, rfl, hC325⟩
  have hB325 : Below (World.heap w).size w w325 := hC325.stepB0
  refine ⟨fun _ => .of_below hB325, ?_⟩
  replace f1 := (f1.ext hB325).mono fun k hk _ => hC325.ro0 k hk
  replace hS := Sep.leave (As := []) hS hC325; simp only [List.cons_append, List.nil_append] at hS
  refine q_not rfl rfl ?_
  refine eseq_nil ?_
  refine hK324 _ _ ?_
  refine e_cond rfl (fun hc327 => ?_) (fun hc327 => ?_)
  · replace h := (if_pos hc327).symm.trans h
    refine e_seq fun K328 hK328 => ?_
    refine e_region_text rfl ?_
    refine q_assign rfl rfl ?_
    refine eseq_nil ?_
    refine hK328 _ _ ?_
    refine e_ret ?_
    obtain rfl := Option.some.inj h
    exact ⟨_, res1 rfl rfl, _, rfl, hS⟩
  · replace h := (if_neg (not_true hc327)).symm.trans h
    refine e_skip ?_
    refine hK323 _ _ ?_
    refine e_seq fun K329 hK329 => ?_
    refine e_region_text rfl ?_
    refine q_move rfl rfl ?_
    obtain ⟨r331, hr331, h⟩ := Option.of_bind h
    refine q_call rfl (law26_draw_w (Sep.enter (As := []) hS) f1 hr331) rfl ?_
    rintro _ w330 ⟨v332, R330, rfl, hC330⟩
    have hB330 : Below (World.heap w325).size w325 w330 := hC330.stepB0
    refine ⟨fun _ => .of_below hB330, ?_⟩
    replace f1 := (f1.ext hB330).mono fun k hk _ => hC330.ro0 k hk
    replace hS := Sep.leave (As := []) hS hC330; simp only [List.cons_append, List.nil_append] at hS
    refine q_move rfl rfl ?_
    refine q_extract rfl rfl rfl ?_
    refine q_extract rfl rfl rfl ?_
    refine q_extract rfl rfl rfl ?_
    refine q_assign rfl rfl ?_
    refine q_assign rfl rfl ?_
    refine q_assign rfl rfl ?_
    refine eseq_nil ?_
    refine hK329 _ _ ?_
    refine e_seq fun K333 hK333 => ?_
    refine e_region_text rfl ?_
    refine q_allocB rfl fun w334 bl334 hg334 hb334 hB334 => ?_
    replace hS := hS.newOwnS hB334 (Own.zeroArr (T := histTy) (n := 5) (zx := (⟨(⟨([] : List Int), ([] : List (List Int)), ([] : List Arc)⟩ : Pat), ([] : List (List Int)), ([] : List (List (List Int))), ([] : List (List Bool))⟩ : Hist)) (S := R330) hb334 rfl rfl (by decide)) (fun k hk => by cases hk; exact hg334) (fun _ h => h)
    refine eseq_nil ?_
    refine hK333 _ _ ?_
    refine e_seq fun K336 hK336 => ?_
    refine e_seq fun K337 hK337 => ?_
    refine e_region_text rfl ?_
    refine q_assign rfl rfl ?_
    refine eseq_nil ?_
    refine hK337 _ _ ?_
    refine e_block ?_
    obtain ⟨tl338, ht338, h⟩ := Option.of_bind h
    have hX338_0 : ∀ (x474 : (List Hist)) (R472 : Nat → Prop) (w473 : World) (E_ : Env), law26_ModelbasedFirst_K1 fuel x474 = some r → Sep F R R472 w w473 [HP.own histTy R472 41 (.slice (some ⟨bl334, 0, none⟩) 5 5) x474] → Sub [(6, .pointer (some ⟨bl334, 0, none⟩))] E_ → K336 E_ w473 := by
      intro x474 R472 w473 E_ h hS  hsub
      refine hK336 _ _ (e_sub hsub ?_); clear hsub
      unfold law26_ModelbasedFirst_K1 at h
      refine e_seq fun K475 hK475 => ?_
      refine e_region_draw mixed (fun _ => False) [0, 1, 3, 0, 8, 31, 0, 64, 255, 0, 512, 2047, 4095, 8191, 16383, 32767] [2, 5, 8] [0, 1, 3, 4, 6, 7, 9, 10, 2, 5, 8, 11, 12, 13, 14, 15] (by kernel_rfl) ?_
      obtain ⟨x520, hx520, h⟩ := Option.of_bind h
      refine q_indexArr (by infer_instance) rfl (hS.own 0 rfl) rfl hx520 rfl ?_
      have f521 := (hS.ownR 0 rfl).elt hx520
      obtain ⟨v522, v523, v524, v525, v526, v527, hc528, f522, f523, f524, f525, f526, f527⟩ := Hist_open f521
      refine q_loadAgg rfl hc528 rfl rfl ?_
      obtain ⟨x529, hx529, h⟩ := Option.of_bind h
      refine q_indexArr (by infer_instance) rfl (hS.own 0 rfl) rfl hx529 rfl ?_
      have f530 := (hS.ownR 0 rfl).elt hx529
      obtain ⟨v531, v532, v533, v534, v535, v536, hc537, f531, f532, f533, f534, f535, f536⟩ := Hist_open f530
      refine q_loadAgg rfl hc537 rfl rfl ?_
      obtain ⟨x538, hx538, h⟩ := Option.of_bind h
      refine q_indexArr (by infer_instance) rfl (hS.own 0 rfl) rfl hx538 rfl ?_
      have f539 := (hS.ownR 0 rfl).elt hx538
      obtain ⟨v540, v541, v542, v543, v544, v545, hc546, f540, f541, f542, f543, f544, f545⟩ := Hist_open f539
      refine q_loadAgg rfl hc546 rfl rfl ?_
      obtain ⟨x547, hx547, h⟩ := Option.of_bind h
      refine q_indexArr (by infer_instance) rfl (hS.own 0 rfl) rfl hx547 rfl ?_
      have f548 := (hS.ownR 0 rfl).elt hx547
      obtain ⟨v549, v550, v551, v552, v553, v554, hc555, f549, f550, f551, f552, f553, f554⟩ := Hist_open f548
      refine q_loadAgg rfl hc555 rfl rfl ?_
      obtain ⟨r557, hr557, h⟩ := Option.of_bind h
      refine q_call rfl (law26_some_w (a0 := x520) (Sep.enter (As := []) hS) f522 f523 f524 f525 f526 f527 hr557) rfl ?_
      rintro _ w556 ⟨R556, rfl, hC556⟩
      have hB556 : Below (World.heap w473).size w473 w556 := hC556.stepB0
      refine ⟨fun _ => .of_below hB556, ?_⟩
      replace f522 := (f522.ext hB556).mono fun k hk _ => hC556.ro0 k hk
      replace f523 := (f523.ext hB556).mono fun k hk _ => hC556.ro0 k hk
      replace f524 := (f524.ext hB556).mono fun k hk _ => hC556.ro0 k hk
      replace f525 := (f525.ext hB556).mono fun k hk _ => hC556.ro0 k hk
      replace f526 := (f526.ext hB556).mono fun k hk _ => hC556.ro0 k hk
      replace f527 := (f527.ext hB556).mono fun k hk _ => hC556.ro0 k hk
      replace f531 := (f531.ext hB556).mono fun k hk _ => hC556.ro0 k hk
      replace f532 := (f532.ext hB556).mono fun k hk _ => hC556.ro0 k hk
      replace f533 := (f533.ext hB556).mono fun k hk _ => hC556.ro0 k hk
      replace f534 := (f534.ext hB556).mono fun k hk _ => hC556.ro0 k hk
      replace f535 := (f535.ext hB556).mono fun k hk _ => hC556.ro0 k hk
      replace f536 := (f536.ext hB556).mono fun k hk _ => hC556.ro0 k hk
      replace f540 := (f540.ext hB556).mono fun k hk _ => hC556.ro0 k hk
      replace f541 := (f541.ext hB556).mono fun k hk _ => hC556.ro0 k hk
      replace f542 := (f542.ext hB556).mono fun k hk _ => hC556.ro0 k hk
      replace f543 := (f543.ext hB556).mono fun k hk _ => hC556.ro0 k hk
      replace f544 := (f544.ext hB556).mono fun k hk _ => hC556.ro0 k hk
      replace f545 := (f545.ext hB556).mono fun k hk _ => hC556.ro0 k hk
      replace f549 := (f549.ext hB556).mono fun k hk _ => hC556.ro0 k hk
      replace f550 := (f550.ext hB556).mono fun k hk _ => hC556.ro0 k hk
      replace f551 := (f551.ext hB556).mono fun k hk _ => hC556.ro0 k hk
      replace f552 := (f552.ext hB556).mono fun k hk _ => hC556.ro0 k hk
      replace f553 := (f553.ext hB556).mono fun k hk _ => hC556.ro0 k hk
      replace f554 := (f554.ext hB556).mono fun k hk _ => hC556.ro0 k hk
      replace hS := Sep.leave (As := []) hS hC556; simp only [List.cons_append, List.nil_append] at hS
      obtain ⟨r559, hr559, h⟩ := Option.of_bind h
      refine q_call rfl (law26_some_w (a0 := x529) (Sep.enter (As := []) hS) f531 f532 f533 f534 f535 f536 hr559) rfl ?_
      rintro _ w558 ⟨R558, rfl, hC558⟩
      have hB558 : Below (World.heap w556).size w556 w558 := hC558.stepB0
      refine ⟨fun _ => .of_below hB558, ?_⟩
      replace f531 := (f531.ext hB558).mono fun k hk _ => hC558.ro0 k hk
      replace f532 := (f532.ext hB558).mono fun k hk _ => hC558.ro0 k hk
      replace f533 := (f533.ext hB558).mono fun k hk _ => hC558.ro0 k hk
      replace f534 := (f534.ext hB558).mono fun k hk _ => hC558.ro0 k hk
      replace f535 := (f535.ext hB558).mono fun k hk _ => hC558.ro0 k hk
      replace f536 := (f536.ext hB558).mono fun k hk _ => hC558.ro0 k hk
      replace f540 := (f540.ext hB558).mono fun k hk _ => hC558.ro0 k hk
      replace f541 := (f541.ext hB558).mono fun k hk _ => hC558.ro0 k hk
      replace f542 := (f542.ext hB558).mono fun k hk _ => hC558.ro0 k hk
      replace f543 := (f543.ext hB558).mono fun k hk _ => hC558.ro0 k hk
      replace f544 := (f544.ext hB558).mono fun k hk _ => hC558.ro0 k hk
      replace f545 := (f545.ext hB558).mono fun k hk _ => hC558.ro0 k hk
      replace f549 := (f549.ext hB558).mono fun k hk _ => hC558.ro0 k hk
      replace f550 := (f550.ext hB558).mono fun k hk _ => hC558.ro0 k hk
      replace f551 := (f551.ext hB558).mono fun k hk _ => hC558.ro0 k hk
      replace f552 := (f552.ext hB558).mono fun k hk _ => hC558.ro0 k hk
      replace f553 := (f553.ext hB558).mono fun k hk _ => hC558.ro0 k hk
      replace f554 := (f554.ext hB558).mono fun k hk _ => hC558.ro0 k hk
      replace hS := Sep.leave (As := []) hS hC558; simp only [List.cons_append, List.nil_append] at hS
      obtain ⟨r561, hr561, h⟩ := Option.of_bind h
      refine q_call rfl (law26_some_w (a0 := x538) (Sep.enter (As := []) hS) f540 f541 f542 f543 f544 f545 hr561) rfl ?_
      rintro _ w560 ⟨R560, rfl, hC560⟩
      have hB560 : Below (World.heap w558).size w558 w560 := hC560.stepB0
      refine ⟨fun _ => .of_below hB560, ?_⟩
      replace f540 := (f540.ext hB560).mono fun k hk _ => hC560.ro0 k hk
      replace f541 := (f541.ext hB560).mono fun k hk _ => hC560.ro0 k hk
      replace f542 := (f542.ext hB560).mono fun k hk _ => hC560.ro0 k hk
      replace f543 := (f543.ext hB560).mono fun k hk _ => hC560.ro0 k hk
      replace f544 := (f544.ext hB560).mono fun k hk _ => hC560.ro0 k hk
      replace f545 := (f545.ext hB560).mono fun k hk _ => hC560.ro0 k hk
      replace f549 := (f549.ext hB560).mono fun k hk _ => hC560.ro0 k hk
      replace f550 := (f550.ext hB560).mono fun k hk _ => hC560.ro0 k hk
      replace f551 := (f551.ext hB560).mono fun k hk _ => hC560.ro0 k hk
      replace f552 := (f552.ext hB560).mono fun k hk _ => hC560.ro0 k hk
      replace f553 := (f553.ext hB560).mono fun k hk _ => hC560.ro0 k hk
      replace f554 := (f554.ext hB560).mono fun k hk _ => hC560.ro0 k hk
      replace hS := Sep.leave (As := []) hS hC560; simp only [List.cons_append, List.nil_append] at hS
      obtain ⟨r563, hr563, h⟩ := Option.of_bind h
      refine q_call rfl (law26_some_w (a0 := x547) (Sep.enter (As := []) hS) f549 f550 f551 f552 f553 f554 hr563) rfl ?_
      rintro _ w562 ⟨R562, rfl, hC562⟩
      have hB562 : Below (World.heap w560).size w560 w562 := hC562.stepB0
      refine ⟨fun _ => .of_below hB562, ?_⟩
      replace f549 := (f549.ext hB562).mono fun k hk _ => hC562.ro0 k hk
      replace f550 := (f550.ext hB562).mono fun k hk _ => hC562.ro0 k hk
      replace f551 := (f551.ext hB562).mono fun k hk _ => hC562.ro0 k hk
      replace f552 := (f552.ext hB562).mono fun k hk _ => hC562.ro0 k hk
      replace f553 := (f553.ext hB562).mono fun k hk _ => hC562.ro0 k hk
      replace f554 := (f554.ext hB562).mono fun k hk _ => hC562.ro0 k hk
      replace hS := Sep.leave (As := []) hS hC562; simp only [List.cons_append, List.nil_append] at hS
      refine q_assign rfl rfl ?_
      refine q_assign rfl rfl ?_
      refine q_assign rfl rfl ?_
      refine q_assign rfl rfl ?_
      refine eseq_nil ?_
      refine hK475 _ _ ?_
      refine e_seq fun K564 hK564 => ?_
      refine e_region_text rfl ?_
      refine q_move rfl rfl ?_
      refine q_not rfl rfl ?_
      refine q_move rfl rfl ?_
      obtain ⟨x570, hx569, h⟩ := Option.of_bind h
      refine g_orM 4 hx569 rfl trivial rfl rfl ?_ ?_ ?_
      · intro hg569
        refine g_skip rfl rfl rfl ?_
        refine g_skip rfl rfl rfl ?_
        refine g_skipU rfl rfl ?_
        refine g_skip rfl rfl rfl ?_
        exact eseq_nil ⟨rfl, Sub.set rfl (Sub.set rfl (Sub.set rfl (Sub.set rfl (Sub.bool true rfl hg569))))⟩
      · intro hg569 hx569
        clear h
        have hT569 := Below.refl (World.heap w562).size w562
        refine g_run rfl ?_; refine q_move rfl rfl ?_
        refine g_run rfl ?_; refine q_move rfl rfl ?_
        obtain ⟨x572, hx571, hx569⟩ := Option.of_bind hx569
        refine g_andM 1 hx571 rfl rfl rfl rfl ?_ ?_ ?_
        · intro hg571 hx571
          clear hx569
          have hT571 := Below.refl (World.heap w562).size w562
          refine g_run rfl ?_; refine q_move rfl rfl ?_
          cases hx571
          exact eseq_nil ⟨hT571, Sub.set rfl (Sub.bool true rfl hg571), rfl⟩
        · intro hg571
          refine g_skip rfl rfl rfl ?_
          exact eseq_nil ⟨rfl, Sub.set rfl (Sub.bool false rfl hg571)⟩
        intro wm571 hBm571; clear hx571
        replace hS := hS.below hBm571
        replace hT569 := hT569.trans (Below.mono hBm571 hT569.size)
        cases hx569
        exact eseq_nil ⟨hT569, Sub.set rfl (Sub.set rfl (Sub.set rfl (Sub.bool false rfl hg569))), rfl⟩
      intro wm569 hBm569; clear hx569
      replace hS := hS.below hBm569
      refine q_move rfl rfl ?_
      obtain ⟨x580, hx579, h⟩ := Option.of_bind h
      refine g_andM 9 hx579 rfl trivial rfl rfl ?_ ?_ ?_
      · intro hg579 hx579
        clear h
        have hT579 := Below.refl (World.heap wm569).size wm569
        refine g_run rfl ?_; refine q_move rfl rfl ?_
        refine g_run rfl ?_; refine q_not rfl rfl ?_
        refine g_run rfl ?_; refine q_move rfl rfl ?_
        obtain ⟨x582, hx581, hx579⟩ := Option.of_bind hx579
        refine g_andM 2 hx581 rfl rfl rfl rfl ?_ ?_ ?_
        · intro hg581 hx581
          clear hx579
          have hT581 := Below.refl (World.heap wm569).size wm569
          refine g_run rfl ?_; refine q_move rfl rfl ?_
          refine g_run rfl ?_; refine q_not rfl rfl ?_
          cases hx581
          exact eseq_nil ⟨hT581, Sub.set rfl (Sub.set rfl (Sub.bool true rfl hg581)), rfl⟩
        · intro hg581
          refine g_skip rfl rfl rfl ?_
          refine g_skip rfl rfl rfl ?_
          exact eseq_nil ⟨rfl, Sub.set rfl (Sub.set rfl (Sub.bool false rfl hg581))⟩
        intro wm581 hBm581; clear hx581
        replace hS := hS.below hBm581
        replace hT579 := hT579.trans (Below.mono hBm581 hT579.size)
        refine g_run rfl ?_; refine q_move rfl rfl ?_
        obtain ⟨x584, hx583, hx579⟩ := Option.of_bind hx579
        refine g_orM 1 hx583 rfl rfl rfl rfl ?_ ?_ ?_
        · intro hg583
          refine g_skip rfl rfl rfl ?_
          exact eseq_nil ⟨rfl, Sub.set rfl (Sub.bool true rfl hg583)⟩
        · intro hg583 hx583
          clear hx579
          have hT583 := Below.refl (World.heap wm581).size wm581
          refine g_run rfl ?_; refine q_move rfl rfl ?_
          cases hx583
          exact eseq_nil ⟨hT583, Sub.set rfl (Sub.bool false rfl hg583), rfl⟩
        intro wm583 hBm583; clear hx583
        replace hS := hS.below hBm583
        replace hT579 := hT579.trans (Below.mono hBm583 hT579.size)
        cases hx579
        exact eseq_nil ⟨hT579, Sub.set rfl (Sub.set rfl (Sub.set rfl (Sub.set rfl (Sub.set rfl (Sub.set rfl (Sub.bool true rfl hg579)))))), rfl⟩
      · intro hg579
        refine g_skip rfl rfl rfl ?_
        refine g_skip rfl rfl rfl ?_
        refine g_skip rfl rfl rfl ?_
        refine g_skipU rfl rfl ?_
        refine g_skipU rfl rfl ?_
        refine g_skip rfl rfl rfl ?_
        refine g_skip rfl rfl rfl ?_
        refine g_skipU rfl rfl ?_
        refine g_skip rfl rfl rfl ?_
        exact eseq_nil ⟨rfl, Sub.set rfl (Sub.set rfl (Sub.set rfl (Sub.set rfl (Sub.set rfl (Sub.set rfl (Sub.set rfl (Sub.set rfl (Sub.set rfl (Sub.bool false rfl hg579)))))))))⟩
      intro wm579 hBm579; clear hx579
      replace hS := hS.below hBm579
      refine q_assign rfl rfl ?_
      refine eseq_nil ?_
      refine hK564 _ _ ?_
      refine e_ret ?_
      obtain rfl := Option.some.inj h
      exact ⟨_, res1 rfl rfl, _, rfl, (hS.pickB [] 1 rfl rfl)⟩
    obtain ⟨R585, hS, hm585, f585⟩ := hS.freezeOwn 1 rfl; simp only [List.eraseIdx] at hS
    replace hS := hS.ownMono 0 rfl; simp only [List.set] at hS
    refine e_loop (fun m_ E_ w406 => ∃ (x408 : (List Deed)), ∃ (x410 : (List Hist)), ∃ (x411 : Int), ∃ (v407 : Value), ∃ (R405 : Nat → Prop), iter (fun s => law26_ModelbasedFirst_B1 fuel r331 s.1 s.2.1 s.2.2) m_ (x408, x410, x411) = some tl338 ∧ Sep F R R405 w w406 [HP.own histTy R405 41 (.slice (some ⟨bl334, 0, none⟩) 5 5) x410] ∧ IsSlice deedTy w406 R405 v407 x408 ∧ E_ = [(3, .int .i64 r331.1), (5, v407), (6, .pointer (some ⟨bl334, 0, none⟩)), (7, .int .i64 x411)]) _ ⟨_, ⟨r331.2.2, (List.replicate 5 (⟨(⟨([] : List Int), ([] : List (List Int)), ([] : List Arc)⟩ : Pat), ([] : List (List Int)), ([] : List (List (List Int))), ([] : List (List Bool))⟩ : Hist)), 1, v332, _, ht338, hS, f585, rfl⟩, Sub.cons rfl (Sub.cons rfl (Sub.cons rfl (Sub.cons rfl (Sub.nil _))))⟩ ?_
    clear ht338 hS
    rintro m338 _ w406 ⟨x408, x410, x411, v407, R405, ht338, hS, f409, rfl⟩
    obtain ⟨m338, rfl, o338, ho338, ht338⟩ := iter_some ht338
    replace ho338 : law26_ModelbasedFirst_B1 fuel r331 x408 x410 x411 = some o338 := ho338
    unfold law26_ModelbasedFirst_B1 at ho338
    refine e_seq fun K586 hK586 => ?_
    refine e_seq fun K587 hK587 => ?_
    refine e_region_text rfl ?_
    refine q_move rfl rfl ?_
    refine q_leq rfl rfl rfl ?_
    refine eseq_nil ?_
    refine hK587 _ _ ?_
    refine e_cond rfl (fun hc588 => ?_) (fun hc588 => ?_)
    · replace ho338 := (if_pos hc588).symm.trans ho338
      refine e_skip ?_
      refine hK586 _ _ ?_
      refine e_seq fun K589 hK589 => ?_
      refine e_block ?_
      refine e_seq fun K590 hK590 => ?_
      refine e_region_text rfl ?_
      refine q_move rfl rfl ?_
      refine q_move rfl rfl ?_
      refine q_move rfl rfl ?_
      obtain ⟨r592, hr592, ho338⟩ := Option.of_bind ho338
      refine q_call rfl (modelbased_Play_w (Sep.enter (As := []) hS) f409 hr592) rfl ?_
      rintro _ w591 ⟨v593, v594, v595, v596, v597, v598, R591, rfl, hC591, f593, f594, f595, f596, f597, f598⟩
      have hB591 : Below (World.heap w406).size w406 w591 := hC591.stepB0
      refine ⟨fun _ => .of_below hB591, ?_⟩
      replace f409 := (f409.ext hB591).mono fun k hk _ => hC591.ro0 k hk
      replace hS := Sep.leave (As := []) hS hC591; simp only [List.cons_append, List.nil_append] at hS
      refine q_move rfl rfl ?_
      refine q_extract rfl rfl rfl ?_
      refine q_extract rfl rfl rfl ?_
      refine q_allocB rfl fun w599 bl599 hg599 hb599 hB599 => ?_
      replace f409 := f409.ext hB599
      replace f593 := f593.ext hB599
      replace f594 := f594.ext hB599
      replace f595 := f595.ext hB599
      replace f596 := f596.ext hB599
      replace f597 := f597.ext hB599
      replace f598 := f598.ext hB599
      replace hS := hS.newBlk hB599 hg599 hb599
      refine q_storeAgg rfl rfl (hS.blk 0 rfl) rfl (Nat.le_of_ble_eq_true rfl) (all_cons f593.one (all_cons f594.one (all_cons f595.one (all_cons f596.one (all_cons f597.one (all_cons f598.one (all_nil))))))) rfl rfl fun w601 hb601 hO601 => ?_
      simp only [setN, List.set, List.take, List.drop] at hb601
      have hk601 := hS.keptBlk 0 rfl hO601
      replace f409 := f409.kept hk601
      replace f593 := f593.kept hk601
      replace f594 := f594.kept hk601
      replace f595 := f595.kept hk601
      replace f596 := f596.kept hk601
      replace f597 := f597.kept hk601
      replace f598 := f598.kept hk601
      replace hS := hS.setBlk 0 rfl hb601 hO601; simp only [List.set] at hS
      refine q_assign rfl rfl ?_
      refine eseq_nil ?_
      refine hK590 _ _ ?_
      refine e_seq fun K602 hK602 => ?_
      refine e_seq fun K603 hK603 => ?_
      refine e_region_text rfl ?_
      refine q_move rfl rfl ?_
      refine q_neq rfl rfl rfl ?_
      refine q_move rfl rfl ?_
      obtain ⟨x609, hx608, ho338⟩ := Option.of_bind ho338
      refine g_orM 4 hx608 rfl trivial rfl rfl ?_ ?_ ?_
      · intro hg608
        refine g_skip rfl rfl rfl ?_
        refine g_skip rfl rfl rfl ?_
        refine g_skip rfl rfl rfl ?_
        refine g_skip rfl rfl rfl ?_
        exact eseq_nil ⟨rfl, Sub.set rfl (Sub.set rfl (Sub.set rfl (Sub.set rfl (Sub.bool true rfl hg608))))⟩
      · intro hg608 hx608
        clear ho338
        have hT608 := Below.refl (World.heap w601).size w601
        refine g_run rfl ?_; refine q_loadAgg rfl (Blk.cellsAt (hS.blk 0 rfl) 0 6 rfl) rfl rfl ?_
        refine g_run rfl ?_; refine q_move rfl rfl ?_
        obtain ⟨r611, hr611, hx608⟩ := Option.of_bind hx608
        refine g_run rfl ?_; refine q_call rfl (law26_sound_w (a0 := (⟨(⟨r592.1.pat.lens, r592.1.pat.ckpts, r592.1.pat.arcs⟩ : Pat), r592.1.clocks, r592.1.vecs, r592.1.forced⟩ : Hist)) (Sep.enter (As := []) hS) f593 f594 f595 f596 f597 f598 hr611) rfl ?_
        rintro _ w610 ⟨R610, rfl, hC610⟩
        have hB610 : Below (World.heap w601).size w601 w610 := hC610.stepB0
        refine ⟨fun _ => .of_below hB610, ?_⟩
        replace f409 := (f409.ext hB610).mono fun k hk _ => hC610.ro0 k hk
        replace f593 := (f593.ext hB610).mono fun k hk _ => hC610.ro0 k hk
        replace f594 := (f594.ext hB610).mono fun k hk _ => hC610.ro0 k hk
        replace f595 := (f595.ext hB610).mono fun k hk _ => hC610.ro0 k hk
        replace f596 := (f596.ext hB610).mono fun k hk _ => hC610.ro0 k hk
        replace f597 := (f597.ext hB610).mono fun k hk _ => hC610.ro0 k hk
        replace f598 := (f598.ext hB610).mono fun k hk _ => hC610.ro0 k hk
        replace hT608 := hT608.trans (Below.mono hB610 hT608.size)
        replace hS := Sep.leave (As := []) hS hC610; simp only [List.cons_append, List.nil_append] at hS
        refine g_run rfl ?_; refine q_not rfl rfl ?_
        cases hx608
        exact eseq_nil ⟨hT608, Sub.set rfl (Sub.set rfl (Sub.set rfl (Sub.set rfl (Sub.bool false rfl hg608)))), rfl⟩
      intro wm608 hBm608; clear hx608
      replace hS := hS.below hBm608
      replace f409 := f409.ext hBm608
      replace f593 := f593.ext hBm608
      replace f594 := f594.ext hBm608
      replace f595 := f595.ext hBm608
      replace f596 := f596.ext hBm608
      replace f597 := f597.ext hBm608
      replace f598 := f598.ext hBm608
      refine eseq_nil ?_
      refine hK603 _ _ ?_
      refine e_cond rfl (fun hc612 => ?_) (fun hc612 => ?_)
      · replace ho338 := (if_pos hc612).symm.trans ho338
        refine e_seq fun K613 hK613 => ?_
        refine e_region_text rfl ?_
        refine q_assign rfl rfl ?_
        refine eseq_nil ?_
        refine hK613 _ _ ?_
        refine e_ret ?_
        obtain rfl := Option.some.inj ho338
        obtain rfl := Option.some.inj ht338
        obtain rfl := Option.some.inj h
        exact ⟨_, res1 rfl rfl, _, rfl, (hS.pickB [] 2 rfl rfl)⟩
      · replace ho338 := (if_neg (not_true hc612)).symm.trans ho338
        refine e_skip ?_
        refine hK602 _ _ ?_
        refine e_seq fun K614 hK614 => ?_
        refine e_region_text rfl ?_
        refine q_move rfl rfl ?_
        refine q_loadAgg rfl (Blk.cellsAt (hS.blk 0 rfl) 0 6 rfl) rfl rfl ?_
        obtain ⟨x615, hx615, ho338⟩ := Option.of_bind ho338
        refine q_indexArr (by infer_instance) rfl (hS.own 1 rfl) rfl hx615 rfl ?_
        replace hS := hS.ownMono 1 rfl; simp only [List.set] at hS
        obtain ⟨x617, hx617, ho338⟩ := Option.of_bind ho338
        refine q_storeOA (T := histTy) (j := 0) rfl rfl (hS.own 1 rfl) hx615 hx617 rfl rfl (all_cons f593.one (all_cons f594.one (all_cons f595.one (all_cons f596.one (all_cons f597.one (all_cons f598.one (all_nil))))))) rfl (fun cs_ hc_ => by obtain ⟨u0_, u1_, u2_, u3_, u4_, u5_, rfl, g0_, g1_, g2_, g3_, g4_, g5_⟩ := Hist_R hc_; show histTy.R _ _ [v593, v594, v595, v596, v597, v598] _; exact ⟨_, _, rfl, ⟨_, _, rfl, ⟨_, rfl, (f593.mono (hS.ownOff 1 rfl))⟩, ⟨_, _, rfl, ⟨_, rfl, (f594.mono (hS.ownOff 1 rfl))⟩, ⟨_, rfl, (f595.mono (hS.ownOff 1 rfl))⟩⟩⟩, ⟨_, _, rfl, ⟨_, rfl, (f596.mono (hS.ownOff 1 rfl))⟩, ⟨_, _, rfl, ⟨_, rfl, (f597.mono (hS.ownOff 1 rfl))⟩, ⟨_, rfl, (f598.mono (hS.ownOff 1 rfl))⟩⟩⟩⟩) fun w616 ho616 hO616 => ?_
        have hk616 := hS.keptO 1 rfl hx615 hO616
        replace f409 := f409.kept hk616
        replace f593 := f593.kept hk616
        replace f594 := f594.kept hk616
        replace f595 := f595.kept hk616
        replace f596 := f596.kept hk616
        replace f597 := f597.kept hk616
        replace f598 := f598.kept hk616
        replace hS := hS.putO 1 rfl hx615 ho616 hO616; simp only [List.set] at hS
        refine eseq_nil ?_
        refine hK614 _ _ ?_
        refine e_seq fun K618 hK618 => ?_
        refine e_region_text rfl ?_
        refine q_field rfl rfl ?_
        refine q_loadAgg rfl (Blk.cellsAt (hS.blk 0 rfl) 0 3 rfl) rfl rfl ?_
        refine q_allocB rfl fun w619 bl619 hg619 hb619 hB619 => ?_
        replace f409 := f409.ext hB619
        replace f593 := f593.ext hB619
        replace f594 := f594.ext hB619
        replace f595 := f595.ext hB619
        replace hS := hS.newBlk hB619 hg619 hb619
        refine q_storeAgg rfl rfl (hS.blk 0 rfl) rfl (Nat.le_of_ble_eq_true rfl) (all_cons f593.one (all_cons f594.one (all_cons f595.one (all_nil)))) rfl rfl fun w621 hb621 hO621 => ?_
        simp only [setN, List.set, List.take, List.drop] at hb621
        have hk621 := hS.keptBlk 0 rfl hO621
        replace f409 := f409.kept hk621
        replace f593 := f593.kept hk621
        replace f594 := f594.kept hk621
        replace f595 := f595.kept hk621
        replace hS := hS.setBlk 0 rfl hb621 hO621; simp only [List.set] at hS
        refine eseq_nil ?_
        refine hK618 _ _ ?_
        refine e_seq fun K622 hK622 => ?_
        refine e_region_text rfl ?_
        obtain ⟨x623, hx623, ho338⟩ := Option.of_bind ho338
        refine q_indexArr (by infer_instance) rfl (hS.own 2 rfl) rfl hx623 rfl ?_
        refine q_field rfl rfl ?_
        refine q_field rfl rfl ?_
        have f624 := (hS.ownR 2 rfl).elt hx623
        have f625 := Hist_F0 f624
        have f626 := Pat_F1 f625
        refine q_loadE rfl f626 rfl (fun v627 f627 => ?_)
        refine q_field rfl rfl ?_
        refine q_store rfl rfl (hS.blk 0 rfl) (Nat.le_of_ble_eq_true rfl) f627.one rfl rfl fun w628 hb628 hO628 => ?_
        have hk628 := hS.keptBlk 0 rfl hO628
        replace f409 := f409.kept hk628
        replace f593 := f593.kept hk628
        replace f627 := f627.kept hk628
        replace f595 := f595.kept hk628
        replace hS := hS.setBlk 0 rfl hb628 hO628; simp only [List.set] at hS
        refine eseq_nil ?_
        refine hK622 _ _ ?_
        refine e_seq fun K629 hK629 => ?_
        refine e_region_text rfl ?_
        refine q_loadAgg rfl (Blk.cellsAt (hS.blk 0 rfl) 0 3 rfl) rfl rfl ?_
        obtain ⟨x630, hx630, ho338⟩ := Option.of_bind ho338
        refine q_indexArr (by infer_instance) rfl (hS.own 2 rfl) rfl hx630 rfl ?_
        refine q_field rfl rfl ?_
        have f631 := (hS.ownR 2 rfl).elt hx630
        have f632 := Hist_F0 f631
        obtain ⟨v633, v634, v635, hc636, f633, f634, f635⟩ := Pat_open f632
        refine q_loadAgg rfl hc636 rfl rfl ?_
        obtain ⟨r638, hr638, ho338⟩ := Option.of_bind ho338
        refine q_call rfl (ref16_Same_w (a0 := (⟨r592.1.pat.lens, x623.pat.ckpts, r592.1.pat.arcs⟩ : Pat)) (a1 := x630.pat) (Sep.enter (As := []) hS) f593 f627 f595 f633 f634 f635 hr638) rfl ?_
        rintro _ w637 ⟨R637, rfl, hC637⟩
        have hB637 : Below (World.heap w628).size w628 w637 := hC637.stepB0
        refine ⟨fun _ => .of_below hB637, ?_⟩
        replace f409 := (f409.ext hB637).mono fun k hk _ => hC637.ro0 k hk
        replace f593 := (f593.ext hB637).mono fun k hk _ => hC637.ro0 k hk
        replace f627 := (f627.ext hB637).mono fun k hk _ => hC637.ro0 k hk
        replace f595 := (f595.ext hB637).mono fun k hk _ => hC637.ro0 k hk
        replace f633 := (f633.ext hB637).mono fun k hk _ => hC637.ro0 k hk
        replace f634 := (f634.ext hB637).mono fun k hk _ => hC637.ro0 k hk
        replace f635 := (f635.ext hB637).mono fun k hk _ => hC637.ro0 k hk
        replace hS := Sep.leave (As := []) hS hC637; simp only [List.cons_append, List.nil_append] at hS
        refine q_not rfl rfl ?_
        refine eseq_nil ?_
        refine hK629 _ _ ?_
        refine e_cond rfl (fun hc639 => ?_) (fun hc639 => ?_)
        · replace ho338 := (if_pos hc639).symm.trans ho338
          refine e_seq fun K640 hK640 => ?_
          refine e_region_text rfl ?_
          refine q_assign rfl rfl ?_
          refine eseq_nil ?_
          refine hK640 _ _ ?_
          refine e_ret ?_
          obtain rfl := Option.some.inj ho338
          obtain rfl := Option.some.inj ht338
          obtain rfl := Option.some.inj h
          exact ⟨_, res1 rfl rfl, _, rfl, (hS.pickB [] 3 rfl rfl)⟩
        · replace ho338 := (if_neg (not_true hc639)).symm.trans ho338
          refine e_skip ?_
          refine hK589 _ _ ?_
          refine e_region_text rfl ?_
          refine q_move rfl rfl ?_
          refine q_addW rfl rfl rfl ?_
          refine q_assign rfl rfl ?_
          refine eseq_nil ?_
          replace hS := hS.ownMono 2 rfl; simp only [List.set] at hS
          obtain rfl := Option.some.inj ho338
          exact ⟨m338, _, Nat.lt_succ_self _, ⟨x408, x617, (w64 (x411 + 1)), v407, _, ht338, (hS.pickB [2] 3 rfl rfl), f409, rfl⟩, Sub.cons rfl (Sub.cons rfl (Sub.cons rfl (Sub.cons rfl (Sub.nil _))))⟩
    · replace ho338 := (if_neg (not_true hc588)).symm.trans ho338
      refine e_exit ?_
      obtain rfl := Option.some.inj ho338
      obtain rfl := Option.some.inj ht338
      exact hX338_0 x410 _ _ _ h hS  (Sub.cons rfl (Sub.nil _))
end Go.Proofs.Ytbmjcbhappjnaaa
