/- Printed walks: A32c. -/
import Derived.Test.YtbmjcbhappjnaaaA32m
import Derived.Test.YtbmjcbhappjnaaaA17
set_option linter.unusedVariables false
set_option linter.unusedSimpArgs false
namespace Go.Mine
open Go.RowKit
def law32_OrphanClocks_K2 (fuel : Nat) : Option (Bool) :=
  some true
def law32_OrphanClocks_K3 (fuel : Nat) (x2450 : (List Arc)) (x2454 : Int) : Option (((List Arc) × Int) ⊕ (Unit ⊕ (Bool))) :=
  some (Sum.inl (x2450, (w64 (x2454 + 1))))
def law32_OrphanClocks_K4 (fuel : Nat) (x3044 : Int) : Option ((Int) ⊕ (Unit ⊕ (Bool))) :=
  some (Sum.inl (w64 (x3044 + 1)))
def law32_OrphanClocks_B3 (fuel : Nat) (x1975 : (List (List Evt))) (r1986 : ((List (List (List Lab))) × Bool)) (x2454 : Int) (x3044 : Int) (r3191 : ((List Int))) (x3251 : Int) : Option ((Int) ⊕ (Unit ⊕ (Bool))) :=
  (if (decide (x3251 < (x1975.length : Int))) = true then (ati r1986.1 x2454).bind fun x3291 => (ati x3291 x3044).bind fun x3292 => (ati x3292 x3251).bind fun x3295 => (ati r3191 x3251).bind fun x3298 => (if (!((x3295.inc == 0) && ((x3295.index == x3298) && true))) = true then some (Sum.inr (Sum.inr false)) else some (Sum.inl (w64 (x3251 + 1)))) else some (Sum.inr (Sum.inl ())))
def law32_OrphanClocks_B2 (fuel : Nat) (x1975 : (List (List Evt))) (x2454 : Int) (r1717 : ((List (List Evt)) × Pat × Int)) (x2450 : (List Arc)) (r1986 : ((List (List (List Lab))) × Bool)) (x3044 : Int) : Option ((Int) ⊕ (Unit ⊕ (Bool))) :=
  (ati x1975 x2454).bind fun x3184 => (if (decide (x3044 ≤ (x3184.length : Int))) = true then (causal_Clock fuel (⟨r1717.2.1.lens, r1717.2.1.ckpts, x2450⟩ : Pat) x2454 x3044).bind fun r3191 => (ati r1986.1 x2454).bind fun x3195 => (ati x3195 x3044).bind fun x3196 => (orM ((x3196.length : Int) != (x1975.length : Int)) (some ((r3191.length : Int) != (x1975.length : Int)))).bind fun x3202 => (if x3202 = true then some (Sum.inr (Sum.inr false)) else (iter (fun s => law32_OrphanClocks_B3 fuel x1975 r1986 x2454 x3044 r3191 s) fuel 0).bind (fun t => Sum.elim (fun t => law32_OrphanClocks_K4 fuel x3044) (fun t => some (Sum.inr (Sum.inr t))) t)) else some (Sum.inr (Sum.inl ())))
def law32_OrphanClocks_B1 (fuel : Nat) (x1975 : (List (List Evt))) (r1986 : ((List (List (List Lab))) × Bool)) (r1717 : ((List (List Evt)) × Pat × Int)) (x2450 : (List Arc)) (x2454 : Int) : Option (((List Arc) × Int) ⊕ (Unit ⊕ (Bool))) :=
  (if (decide (x2454 < (x1975.length : Int))) = true then (ati r1986.1 x2454).bind fun x2891 => (ati x1975 x2454).bind fun x2892 => (if ((x2891.length : Int) != (w64 ((x2892.length : Int) + 1))) = true then some (Sum.inr (Sum.inr false)) else (iter (fun s => law32_OrphanClocks_B2 fuel x1975 x2454 r1717 x2450 r1986 s) fuel 0).bind (fun t => Sum.elim (fun t => law32_OrphanClocks_K3 fuel x2450 x2454) (fun t => some (Sum.inr (Sum.inr t))) t)) else some (Sum.inr (Sum.inl ())))
def law32_OrphanClocks_K1 (fuel : Nat) (r1717 : ((List (List Evt)) × Pat × Int)) (x1975 : (List (List Evt))) : Option (Bool) :=
  (Track fuel x1975).bind fun r1986 => (orM (!r1986.2) (some ((r1986.1.length : Int) != (x1975.length : Int)))).bind fun x1994 => (if x1994 = true then some false else (iter (fun s => law32_OrphanClocks_B1 fuel x1975 r1986 r1717 s.1 s.2) fuel (r1717.2.1.arcs, 0)).bind (fun t => Sum.elim (fun t => law32_OrphanClocks_K2 fuel) (fun t => some t) t))
def law32_OrphanClocks_K5 (fuel : Nat) (x1858 : Int) (x3382 : (List (List Evt))) : Option (((List (List Evt)) × Int) ⊕ ((List (List Evt)))) :=
  some (Sum.inl (x3382, (w64 (x1858 + 1))))
def law32_OrphanClocks_B5 (fuel : Nat) (x1858 : Int) (x3345 : (List (List Evt))) (x3351 : Int) : Option (((List (List Evt)) × Int) ⊕ ((List (List Evt)))) :=
  (ati x3345 x1858).bind fun x3390 => (if (decide (x3351 < (x3390.length : Int))) = true then (ati x3345 x1858).bind fun x3393 => (ati x3345 x1858).bind fun x3394 => (ati x3393 x3351).bind fun x3395 => (seti x3393 x3351 ({ x3395 with inc := 0 })).bind fun x3397 => (seti x3345 x1858 x3397).bind fun x3398 => (ati x3397 x3351).bind fun x3399 => (seti x3397 x3351 ({ x3399 with sent := { x3399.sent with inc := 0 } })).bind fun x3401 => (seti x3398 x1858 x3401).bind fun x3402 => some (Sum.inl (x3402, (w64 (x3351 + 1)))) else some (Sum.inr x3345))
def law32_OrphanClocks_B4 (fuel : Nat) (x1852 : (List (List Evt))) (x1858 : Int) : Option (((List (List Evt)) × Int) ⊕ ((List (List Evt)))) :=
  (if (decide (x1858 < (x1852.length : Int))) = true then (iter (fun s => law32_OrphanClocks_B5 fuel x1858 s.1 s.2) fuel (x1852, 0)).bind (fun t => law32_OrphanClocks_K5 fuel x1858 t) else some (Sum.inr x1852))
def law32_OrphanClocks (fuel : Nat) (a0 : (List Int)) : Option (Bool) :=
  (law32_awake fuel).bind fun r1707 => (if (!r1707) = true then some false else (make_New fuel a0 120).bind fun r1712 => (make_Codes_Lineages fuel 20 r1712.1 r1712.2).bind fun r1717 => (iter (fun s => law32_OrphanClocks_B4 fuel s.1 s.2) fuel (r1717.1, 0)).bind (fun t => law32_OrphanClocks_K1 fuel r1717 t))
end Go.Mine
namespace Go.Proofs.Ytbmjcbhappjnaaa
open Go.RowKit Go.Mine
attribute [local irreducible] eseq ewp iter
theorem law32_OrphanClocks_w {F R : Nat → Prop} {w : World} {fuel : Nat} {a0 : (List Int)} {v1 : Value} {r : (Bool)} (hS : Sep F R R w w []) (f1 : IsSlice Ty.u8 w R v1 a0) (h : law32_OrphanClocks fuel a0 = some r) :
    Gives Try.prog 6 [v1] w fun u w1 => ∃ (R1 : Nat → Prop), u = .bool r ∧ Sep F R R1 w w1 [] := by
  refine fn_of Try.func6 rfl Try.ntmps6 (Nat.le_of_ble_eq_true rfl) ?_
  unfold law32_OrphanClocks at h
  refine e_seq fun K1703 hK1703 => ?_
  refine e_region_text rfl ?_
  refine q_assign rfl rfl ?_
  refine eseq_nil ?_
  refine hK1703 _ _ ?_
  refine e_seq fun K1704 hK1704 => ?_
  refine e_seq fun K1705 hK1705 => ?_
  refine e_region_text rfl ?_
  obtain ⟨r1707, hr1707, h⟩ := Option.of_bind h
  refine q_call rfl (law32_awake_w (Sep.enter (As := []) hS)  hr1707) rfl ?_
  rintro _ w1706 ⟨R1706, rfl, hC1706⟩
  have hB1706 : Below (World.heap w).size w w1706 := hC1706.stepB0
  refine ⟨fun _ => .of_below hB1706, ?_⟩
  replace f1 := (f1.ext hB1706).mono fun k hk _ => hC1706.ro0 k hk
  replace hS := Sep.leave (As := []) hS hC1706; simp only [List.cons_append, List.nil_append] at hS
  refine q_not rfl rfl ?_
  refine eseq_nil ?_
  refine hK1705 _ _ ?_
  refine e_cond rfl (fun hc1708 => ?_) (fun hc1708 => ?_)
  · replace h := (if_pos hc1708).symm.trans h
    refine e_seq fun K1709 hK1709 => ?_
    refine e_region_text rfl ?_
    refine q_assign rfl rfl ?_
    refine eseq_nil ?_
    refine hK1709 _ _ ?_
    refine e_ret ?_
    obtain rfl := Option.some.inj h
    exact ⟨_, res1 rfl rfl, _, rfl, hS⟩
  · replace h := (if_neg (not_true hc1708)).symm.trans h
    refine e_skip ?_
    refine hK1704 _ _ ?_
    refine e_seq fun K1710 hK1710 => ?_
    refine e_region_text rfl ?_
    refine q_move rfl rfl ?_
    obtain ⟨r1712, hr1712, h⟩ := Option.of_bind h
    refine q_call rfl (make_New_w (Sep.enter (As := []) hS) f1 hr1712) rfl ?_
    rintro _ w1711 ⟨B1713, v1714, R1711, rfl, hC1711, f1714⟩
    have hB1711 : Below (World.heap w1706).size w1706 w1711 := hC1711.stepB0
    refine ⟨fun _ => .of_below hB1711, ?_⟩
    replace f1 := (f1.ext hB1711).mono fun k hk _ => hC1711.ro0 k hk
    replace hS := Sep.leave (As := []) hS hC1711; simp only [List.cons_append, List.nil_append] at hS
    refine q_assign rfl rfl ?_
    refine eseq_nil ?_
    refine hK1710 _ _ ?_
    refine e_seq fun K1715 hK1715 => ?_
    refine e_region_text rfl ?_
    refine q_move rfl rfl ?_
    obtain ⟨r1717, hr1717, h⟩ := Option.of_bind h
    refine q_call rfl (make_Codes_Lineages_w (Sep.enter (As := [_]) hS) f1714 hr1717) rfl ?_
    rintro _ w1716 ⟨v1718, v1719, v1720, v1721, v1722, R1716, rfl, hC1716, f1720, f1721⟩
    refine ⟨(fun h => by cases h), ?_⟩
    have hk1716 := hC1716.keptR (Sep.offFeet (As := [_]) hS)
    replace f1714 := (f1714.kept hk1716).mono fun k hk _ => hC1716.ro0 k hk
    replace hS := Sep.leave (As := [_]) hS hC1716; simp only [List.cons_append, List.nil_append] at hS
    refine q_move rfl rfl ?_
    refine q_extract rfl rfl rfl ?_
    refine q_extract rfl rfl rfl ?_
    refine q_allocB rfl fun w1723 bl1723 hg1723 hb1723 hB1723 => ?_
    replace f1720 := f1720.ext hB1723
    replace f1721 := f1721.ext hB1723
    replace hS := hS.newBlk hB1723 hg1723 hb1723
    refine q_assign rfl rfl ?_
    refine q_storeAgg rfl rfl (hS.blk 0 rfl) rfl (Nat.le_of_ble_eq_true rfl) (all_cons f1720.one (all_cons f1721.one (all_cons (hS.own 4 rfl).one (all_nil)))) rfl rfl fun w1725 hb1725 hO1725 => ?_
    simp only [setN, List.set, List.take, List.drop] at hb1725
    have hk1725 := hS.keptBlk 0 rfl hO1725
    replace f1720 := f1720.kept hk1725
    replace f1721 := f1721.kept hk1725
    replace hS := hS.setBlk 0 rfl hb1725 hO1725; simp only [List.set] at hS
    refine eseq_nil ?_
    refine hK1715 _ _ ?_
    refine e_seq fun K1726 hK1726 => ?_
    refine e_seq fun K1727 hK1727 => ?_
    refine e_region_text rfl ?_
    refine q_assign rfl rfl ?_
    refine eseq_nil ?_
    refine hK1727 _ _ ?_
    refine e_block ?_
    obtain ⟨tl1728, ht1728, h⟩ := Option.of_bind h
    have hX1728_0 : ∀ (x1975 : (List (List Evt))) (v1973 : Value) (v1974 : List Value) (R1971 : Nat → Prop) (w1972 : World) (E_ : Env), law32_OrphanClocks_K1 fuel r1717 x1975 = some r → Sep F R R1971 w w1972 [HP.own Ty.raw (fun _ => False) 58 v1973 v1974, HP.famS evtTy (fun _ => False) 62 v1974 x1975, HP.blk bl1723 [v1720, v1721, v1722] 31, HP.own arcTy (fun _ => False) 107 v1722 r1717.2.1.arcs] → IsSlice Ty.int w1972 R1971 v1720 r1717.2.1.lens → IsSlice (Ty.slice Ty.int) w1972 R1971 v1721 r1717.2.1.ckpts → Sub [(4, v1973), (5, .pointer (some ⟨bl1723, 0, none⟩))] E_ → K1726 E_ w1972 := by
      intro x1975 v1973 v1974 R1971 w1972 E_ h hS f1978 f1979 hsub
      refine hK1726 _ _ (e_sub hsub ?_); clear hsub
      unfold law32_OrphanClocks_K1 at h
      refine e_seq fun K1981 hK1981 => ?_
      refine e_region_text rfl ?_
      refine q_move rfl rfl ?_
      obtain ⟨R1983, hS, hm1983⟩ := hS.rowsFreeze
      replace f1978 := f1978.mono fun k hk _ => hm1983 k hk
      replace f1979 := f1979.mono fun k hk _ => hm1983 k hk
      obtain ⟨R1985, hS, hm1985, f1985⟩ := hS.freezeOwn 0 rfl; simp only [List.eraseIdx] at hS
      replace f1978 := f1978.mono fun k hk _ => hm1985 k hk
      replace f1979 := f1979.mono fun k hk _ => hm1985 k hk
      obtain ⟨r1986, hr1986, h⟩ := Option.of_bind h
      refine q_call rfl (Track_w (Sep.enter (As := []) hS) f1985 hr1986) rfl ?_
      rintro _ w1982 ⟨v1987, v1988, R1982, rfl, hC1982⟩
      have hB1982 : Below (World.heap w1972).size w1972 w1982 := hC1982.stepB0
      refine ⟨fun _ => .of_below hB1982, ?_⟩
      replace f1985 := (f1985.ext hB1982).mono fun k hk _ => hC1982.ro0 k hk
      replace f1978 := (f1978.ext hB1982).mono fun k hk _ => hC1982.ro0 k hk
      replace f1979 := (f1979.ext hB1982).mono fun k hk _ => hC1982.ro0 k hk
      replace hS := Sep.leave (As := []) hS hC1982; simp only [List.cons_append, List.nil_append] at hS
      refine q_move rfl rfl ?_
      refine q_extract rfl rfl rfl ?_
      refine q_extract rfl rfl rfl ?_
      refine q_assign rfl rfl ?_
      refine q_assign rfl rfl ?_
      refine eseq_nil ?_
      refine hK1981 _ _ ?_
      refine e_seq fun K1989 hK1989 => ?_
      refine e_seq fun K1990 hK1990 => ?_
      refine e_region_text rfl ?_
      refine q_move rfl rfl ?_
      refine q_not rfl rfl ?_
      refine q_move rfl rfl ?_
      obtain ⟨x1994, hx1993, h⟩ := Option.of_bind h
      refine g_orM 5 hx1993 rfl trivial rfl rfl ?_ ?_ ?_
      · intro hg1993
        refine g_skip rfl rfl rfl ?_
        refine g_skip rfl rfl rfl ?_
        refine g_skip rfl rfl rfl ?_
        refine g_skip rfl rfl rfl ?_
        refine g_skip rfl rfl rfl ?_
        exact eseq_nil ⟨rfl, Sub.set rfl (Sub.set rfl (Sub.set rfl (Sub.set rfl (Sub.set rfl (Sub.bool true rfl hg1993)))))⟩
      · intro hg1993 hx1993
        clear h
        have hT1993 := Below.refl (World.heap w1982).size w1982
        refine g_run rfl ?_; refine q_move rfl rfl ?_
        refine g_run rfl ?_; refine q_lenR rfl (hS.own 0 rfl) (hS.famLen 1 rfl) rfl ?_
        refine g_run rfl ?_; refine q_move rfl rfl ?_
        refine g_run rfl ?_; refine q_lenS rfl f1985 rfl ?_
        refine g_run rfl ?_; refine q_neq rfl rfl rfl ?_
        cases hx1993
        exact eseq_nil ⟨hT1993, Sub.set rfl (Sub.set rfl (Sub.set rfl (Sub.set rfl (Sub.set rfl (Sub.bool false rfl hg1993))))), rfl⟩
      intro wm1993 hBm1993; clear hx1993
      replace hS := hS.below hBm1993
      replace f1985 := f1985.ext hBm1993
      replace f1978 := f1978.ext hBm1993
      replace f1979 := f1979.ext hBm1993
      refine eseq_nil ?_
      refine hK1990 _ _ ?_
      refine e_cond rfl (fun hc1995 => ?_) (fun hc1995 => ?_)
      · replace h := (if_pos hc1995).symm.trans h
        refine e_seq fun K1996 hK1996 => ?_
        refine e_region_text rfl ?_
        refine q_assign rfl rfl ?_
        refine eseq_nil ?_
        refine hK1996 _ _ ?_
        refine e_ret ?_
        obtain rfl := Option.some.inj h
        exact ⟨_, res1 rfl rfl, _, rfl, (hS.pickB [] 4 rfl rfl)⟩
      · replace h := (if_neg (not_true hc1995)).symm.trans h
        refine e_skip ?_
        refine hK1989 _ _ ?_
        refine e_seq fun K1997 hK1997 => ?_
        refine e_seq fun K1998 hK1998 => ?_
        refine e_region_text rfl ?_
        refine q_assign rfl rfl ?_
        refine eseq_nil ?_
        refine hK1998 _ _ ?_
        refine e_block ?_
        obtain ⟨tl1999, ht1999, h⟩ := Option.of_bind h
        have hX1999_4 : ∀ (R2881 : Nat → Prop) (w2882 : World) (E_ : Env), law32_OrphanClocks_K2 fuel = some r → Sep F R R2881 w w2882 [] → Sub [] E_ → K1997 E_ w2882 := by
          intro R2881 w2882 E_ h hS  hsub
          refine hK1997 _ _ (e_sub hsub ?_); clear hsub
          unfold law32_OrphanClocks_K2 at h
          refine e_seq fun K2883 hK2883 => ?_
          refine e_region_text rfl ?_
          refine q_assign rfl rfl ?_
          refine eseq_nil ?_
          refine hK2883 _ _ ?_
          refine e_ret ?_
          obtain rfl := Option.some.inj h
          exact ⟨_, res1 rfl rfl, _, rfl, hS⟩
        obtain ⟨R2884, hS, hm2884, f2884⟩ := hS.freezeOwn 3 rfl; simp only [List.eraseIdx] at hS
        replace f1985 := f1985.mono fun k hk _ => hm2884 k hk
        replace f1978 := f1978.mono fun k hk _ => hm2884 k hk
        replace f1979 := f1979.mono fun k hk _ => hm2884 k hk
        replace hS := hS.famMono 1 rfl; simp only [List.set] at hS
        refine e_loop (fun m_ E_ w2445 => ∃ (x2450 : (List Arc)), ∃ (x2454 : Int), ∃ (v2449 : Value), ∃ (R2444 : Nat → Prop), iter (fun s => law32_OrphanClocks_B1 fuel x1975 r1986 r1717 s.1 s.2) m_ (x2450, x2454) = some tl1999 ∧ Sep F R R2444 w w2445 [HP.blk bl1723 [v1720, v1721, v2449] 31, HP.own Ty.raw (fun _ => False) 66 v1987 v1988, HP.famS (Ty.slice labTy) R2444 68 v1988 r1986.1] ∧ IsSlice (Ty.slice evtTy) w2445 R2444 v1973 x1975 ∧ IsSlice Ty.int w2445 R2444 v1720 r1717.2.1.lens ∧ IsSlice (Ty.slice Ty.int) w2445 R2444 v1721 r1717.2.1.ckpts ∧ IsSlice arcTy w2445 R2444 v2449 x2450 ∧ E_ = [(4, v1973), (5, .pointer (some ⟨bl1723, 0, none⟩)), (8, v1987), (10, .int .i64 x2454)]) _ ⟨_, ⟨r1717.2.1.arcs, 0, v1722, _, ht1999, (hS.pickB [2, 0, 1] 3 rfl rfl), f1985, f1978, f1979, f2884, rfl⟩, Sub.cons rfl (Sub.cons rfl (Sub.cons rfl (Sub.cons rfl (Sub.nil _))))⟩ ?_
        clear ht1999 hS
        rintro m1999 _ w2445 ⟨x2450, x2454, v2449, R2444, ht1999, hS, f2446, f2447, f2448, f2451, rfl⟩
        obtain ⟨m1999, rfl, o1999, ho1999, ht1999⟩ := iter_some ht1999
        replace ho1999 : law32_OrphanClocks_B1 fuel x1975 r1986 r1717 x2450 x2454 = some o1999 := ho1999
        unfold law32_OrphanClocks_B1 at ho1999
        refine e_seq fun K2885 hK2885 => ?_
        refine e_seq fun K2886 hK2886 => ?_
        refine e_region_text rfl ?_
        refine q_move rfl rfl ?_
        refine q_move rfl rfl ?_
        refine q_lenS rfl f2446 rfl ?_
        refine q_lss rfl rfl rfl ?_
        refine eseq_nil ?_
        refine hK2886 _ _ ?_
        refine e_cond rfl (fun hc2887 => ?_) (fun hc2887 => ?_)
        · replace ho1999 := (if_pos hc2887).symm.trans ho1999
          refine e_skip ?_
          refine hK2885 _ _ ?_
          refine e_seq fun K2888 hK2888 => ?_
          refine e_block ?_
          refine e_seq fun K2889 hK2889 => ?_
          refine e_seq fun K2890 hK2890 => ?_
          refine e_region_draw mixed (fun _ => False) [0, 0, 3, 7, 15, 0, 0, 96, 224, 480, 992, 2047] [] [0, 1, 2, 3, 4, 5, 6, 7, 8, 9, 10, 11] (by kernel_rfl) ?_
          refine q_move rfl rfl ?_
          refine q_move rfl rfl ?_
          obtain ⟨x2891, hx2891, ho1999⟩ := Option.of_bind ho1999
          have hax2891 := ati_nth (hS.famLen 2 rfl) hx2891
          refine q_indexO (T := Ty.raw) (by infer_instance) rfl (hS.own 1 rfl) rfl hax2891 rfl ?_
          refine q_load rfl (Elt.rawCell ((hS.own 1 rfl).elt hax2891)) rfl ?_
          refine q_lenS rfl (hS.famI 2 rfl hx2891) rfl ?_
          refine q_move rfl rfl ?_
          refine q_move rfl rfl ?_
          obtain ⟨x2892, hx2892, ho1999⟩ := Option.of_bind ho1999
          refine q_atS (by infer_instance) rfl f2446 rfl hx2892 rfl fun b2893 o2893 hm2893 f2893 => ?_
          refine q_loadE rfl f2893 rfl (fun v2894 f2894 => ?_)
          refine q_lenS rfl f2894 rfl ?_
          refine q_addW rfl rfl rfl ?_
          refine q_neq rfl rfl rfl ?_
          refine eseq_nil ?_
          refine hK2890 _ _ ?_
          refine e_cond rfl (fun hc2895 => ?_) (fun hc2895 => ?_)
          · replace ho1999 := (if_pos hc2895).symm.trans ho1999
            refine e_seq fun K2896 hK2896 => ?_
            refine e_region_text rfl ?_
            refine q_assign rfl rfl ?_
            refine eseq_nil ?_
            refine hK2896 _ _ ?_
            refine e_ret ?_
            obtain rfl := Option.some.inj ho1999
            obtain rfl := Option.some.inj ht1999
            obtain rfl := Option.some.inj h
            exact ⟨_, res1 rfl rfl, _, rfl, (hS.pickB [] 3 rfl rfl)⟩
          · replace ho1999 := (if_neg (not_true hc2895)).symm.trans ho1999
            refine e_skip ?_
            refine hK2889 _ _ ?_
            refine e_seq fun K2897 hK2897 => ?_
            refine e_region_text rfl ?_
            refine q_assign rfl rfl ?_
            refine eseq_nil ?_
            refine hK2897 _ _ ?_
            refine e_block ?_
            obtain ⟨tl2898, ht2898, ho1999⟩ := Option.of_bind ho1999
            have hX2898_6 : ∀ (R3174 : Nat → Prop) (w3175 : World) (E_ : Env), law32_OrphanClocks_K3 fuel x2450 x2454 = some o1999 → Sep F R R3174 w w3175 [HP.blk bl1723 [v1720, v1721, v2449] 31, HP.own Ty.raw (fun _ => False) 66 v1987 v1988, HP.famS (Ty.slice labTy) R3174 68 v1988 r1986.1] → IsSlice (Ty.slice evtTy) w3175 R3174 v1973 x1975 → IsSlice Ty.int w3175 R3174 v1720 r1717.2.1.lens → IsSlice (Ty.slice Ty.int) w3175 R3174 v1721 r1717.2.1.ckpts → IsSlice arcTy w3175 R3174 v2449 x2450 → Sub [(4, v1973), (5, .pointer (some ⟨bl1723, 0, none⟩)), (8, v1987), (10, .int .i64 x2454)] E_ → K2888 E_ w3175 := by
              intro R3174 w3175 E_ ho1999 hS f3176 f3177 f3178 f3179 hsub
              refine hK2888 _ _ (e_sub hsub ?_); clear hsub
              unfold law32_OrphanClocks_K3 at ho1999
              refine e_region_text rfl ?_
              refine q_move rfl rfl ?_
              refine q_addW rfl rfl rfl ?_
              refine q_assign rfl rfl ?_
              refine eseq_nil ?_
              obtain rfl := Option.some.inj ho1999
              exact ⟨m1999, _, Nat.lt_succ_self _, ⟨x2450, (w64 (x2454 + 1)), v2449, _, ht1999, hS, f3176, f3177, f3178, f3179, rfl⟩, Sub.cons rfl (Sub.cons rfl (Sub.cons rfl (Sub.cons rfl (Sub.nil _))))⟩
            refine e_loop (fun m_ E_ w3037 => ∃ (x3044 : Int), ∃ (R3036 : Nat → Prop), iter (fun s => law32_OrphanClocks_B2 fuel x1975 x2454 r1717 x2450 r1986 s) m_ x3044 = some tl2898 ∧ Sep F R R3036 w w3037 [HP.blk bl1723 [v1720, v1721, v2449] 31, HP.own Ty.raw (fun _ => False) 66 v1987 v1988, HP.famS (Ty.slice labTy) R3036 68 v1988 r1986.1] ∧ IsSlice (Ty.slice evtTy) w3037 R3036 v1973 x1975 ∧ IsSlice Ty.int w3037 R3036 v1720 r1717.2.1.lens ∧ IsSlice (Ty.slice Ty.int) w3037 R3036 v1721 r1717.2.1.ckpts ∧ IsSlice arcTy w3037 R3036 v2449 x2450 ∧ E_ = [(4, v1973), (5, .pointer (some ⟨bl1723, 0, none⟩)), (8, v1987), (10, .int .i64 x2454), (11, .int .i64 x3044)]) _ ⟨_, ⟨0, _, ht2898, hS, f2446, f2447, f2448, f2451, rfl⟩, Sub.cons rfl (Sub.cons rfl (Sub.cons rfl (Sub.cons rfl (Sub.cons rfl (Sub.nil _)))))⟩ ?_
            clear ht2898 hS
            rintro m2898 _ w3037 ⟨x3044, R3036, ht2898, hS, f3038, f3039, f3040, f3041, rfl⟩
            obtain ⟨m2898, rfl, o2898, ho2898, ht2898⟩ := iter_some ht2898
            replace ho2898 : law32_OrphanClocks_B2 fuel x1975 x2454 r1717 x2450 r1986 x3044 = some o2898 := ho2898
            unfold law32_OrphanClocks_B2 at ho2898
            refine e_seq fun K3182 hK3182 => ?_
            refine e_seq fun K3183 hK3183 => ?_
            refine e_region_text rfl ?_
            refine q_move rfl rfl ?_
            refine q_move rfl rfl ?_
            refine q_move rfl rfl ?_
            obtain ⟨x3184, hx3184, ho2898⟩ := Option.of_bind ho2898
            refine q_atS (by infer_instance) rfl f3038 rfl hx3184 rfl fun b3185 o3185 hm3185 f3185 => ?_
            refine q_loadE rfl f3185 rfl (fun v3186 f3186 => ?_)
            refine q_lenS rfl f3186 rfl ?_
            refine q_leq rfl rfl rfl ?_
            refine eseq_nil ?_
            refine hK3183 _ _ ?_
            refine e_cond rfl (fun hc3187 => ?_) (fun hc3187 => ?_)
            · replace ho2898 := (if_pos hc3187).symm.trans ho2898
              refine e_skip ?_
              refine hK3182 _ _ ?_
              refine e_seq fun K3188 hK3188 => ?_
              refine e_block ?_
              refine e_seq fun K3189 hK3189 => ?_
              refine e_region_text rfl ?_
              refine q_loadAgg rfl (Blk.cellsAt (hS.blk 0 rfl) 0 3 rfl) rfl rfl ?_
              refine q_move rfl rfl ?_
              refine q_move rfl rfl ?_
              obtain ⟨r3191, hr3191, ho2898⟩ := Option.of_bind ho2898
              refine q_call rfl (causal_Clock_w (a0 := (⟨r1717.2.1.lens, r1717.2.1.ckpts, x2450⟩ : Pat)) (Sep.enter (As := []) hS) f3039 f3040 f3041 hr3191) rfl ?_
              rintro v3192 w3190 ⟨_, R3190, rfl, hC3190, f3192⟩
              have hB3190 : Below (World.heap w3037).size w3037 w3190 := hC3190.stepB0
              refine ⟨fun _ => .of_below hB3190, ?_⟩
              replace f3038 := (f3038.ext hB3190).mono fun k hk _ => hC3190.ro0 k hk
              replace f3039 := (f3039.ext hB3190).mono fun k hk _ => hC3190.ro0 k hk
              replace f3040 := (f3040.ext hB3190).mono fun k hk _ => hC3190.ro0 k hk
              replace f3041 := (f3041.ext hB3190).mono fun k hk _ => hC3190.ro0 k hk
              replace hS := Sep.leave (As := []) hS hC3190; simp only [List.cons_append, List.nil_append] at hS
              refine q_assign rfl rfl ?_
              refine eseq_nil ?_
              refine hK3189 _ _ ?_
              refine e_seq fun K3193 hK3193 => ?_
              refine e_seq fun K3194 hK3194 => ?_
              refine e_region_text rfl ?_
              refine q_move rfl rfl ?_
              refine q_move rfl rfl ?_
              obtain ⟨x3195, hx3195, ho2898⟩ := Option.of_bind ho2898
              have hax3195 := ati_nth (hS.famLen 2 rfl) hx3195
              refine q_indexO (T := Ty.raw) (by infer_instance) rfl (hS.own 1 rfl) rfl hax3195 rfl ?_
              refine q_load rfl (Elt.rawCell ((hS.own 1 rfl).elt hax3195)) rfl ?_
              refine q_move rfl rfl ?_
              obtain ⟨x3196, hx3196, ho2898⟩ := Option.of_bind ho2898
              refine q_indexO (by infer_instance) rfl (hS.famO 2 rfl hx3195) rfl hx3196 rfl ?_
              have f3197 := (hS.famOR 2 rfl hx3195).elt hx3196
              refine q_loadE rfl f3197 rfl (fun v3198 f3198 => ?_)
              refine q_lenS rfl f3198 rfl ?_
              refine q_move rfl rfl ?_
              refine q_lenS rfl f3038 rfl ?_
              refine q_neq rfl rfl rfl ?_
              refine q_move rfl rfl ?_
              obtain ⟨x3202, hx3201, ho2898⟩ := Option.of_bind ho2898
              refine g_orM 5 hx3201 rfl trivial rfl rfl ?_ ?_ ?_
              · intro hg3201
                refine g_skip rfl rfl rfl ?_
                refine g_skip rfl rfl rfl ?_
                refine g_skip rfl rfl rfl ?_
                refine g_skip rfl rfl rfl ?_
                refine g_skip rfl rfl rfl ?_
                exact eseq_nil ⟨rfl, Sub.set rfl (Sub.set rfl (Sub.set rfl (Sub.set rfl (Sub.set rfl (Sub.bool true rfl hg3201)))))⟩
              · intro hg3201 hx3201
                clear ho2898
                have hT3201 := Below.refl (World.heap w3190).size w3190
                refine g_run rfl ?_; refine q_move rfl rfl ?_
                refine g_run rfl ?_; refine q_lenS rfl f3192 rfl ?_
                refine g_run rfl ?_; refine q_move rfl rfl ?_
                refine g_run rfl ?_; refine q_lenS rfl f3038 rfl ?_
                refine g_run rfl ?_; refine q_neq rfl rfl rfl ?_
                cases hx3201
                exact eseq_nil ⟨hT3201, Sub.set rfl (Sub.set rfl (Sub.set rfl (Sub.set rfl (Sub.set rfl (Sub.bool false rfl hg3201))))), rfl⟩
              intro wm3201 hBm3201; clear hx3201
              replace hS := hS.below hBm3201
              replace f3038 := f3038.ext hBm3201
              replace f3039 := f3039.ext hBm3201
              replace f3040 := f3040.ext hBm3201
              replace f3041 := f3041.ext hBm3201
              replace f3192 := f3192.ext hBm3201
              refine eseq_nil ?_
              refine hK3194 _ _ ?_
              refine e_cond rfl (fun hc3203 => ?_) (fun hc3203 => ?_)
              · replace ho2898 := (if_pos hc3203).symm.trans ho2898
                refine e_seq fun K3204 hK3204 => ?_
                refine e_region_text rfl ?_
                refine q_assign rfl rfl ?_
                refine eseq_nil ?_
                refine hK3204 _ _ ?_
                refine e_ret ?_
                obtain rfl := Option.some.inj ho2898
                obtain rfl := Option.some.inj ht2898
                obtain rfl := Option.some.inj ho1999
                obtain rfl := Option.some.inj ht1999
                obtain rfl := Option.some.inj h
                exact ⟨_, res1 rfl rfl, _, rfl, (hS.pickB [] 3 rfl rfl)⟩
              · replace ho2898 := (if_neg (not_true hc3203)).symm.trans ho2898
                refine e_skip ?_
                refine hK3193 _ _ ?_
                refine e_seq fun K3205 hK3205 => ?_
                refine e_region_text rfl ?_
                refine q_assign rfl rfl ?_
                refine eseq_nil ?_
                refine hK3205 _ _ ?_
                refine e_block ?_
                obtain ⟨tl3206, ht3206, ho2898⟩ := Option.of_bind ho2898
                have hX3206_8 : ∀ (R3278 : Nat → Prop) (w3279 : World) (E_ : Env), law32_OrphanClocks_K4 fuel x3044 = some o2898 → Sep F R R3278 w w3279 [HP.blk bl1723 [v1720, v1721, v2449] 31, HP.own Ty.raw (fun _ => False) 66 v1987 v1988, HP.famS (Ty.slice labTy) R3278 68 v1988 r1986.1] → IsSlice (Ty.slice evtTy) w3279 R3278 v1973 x1975 → IsSlice Ty.int w3279 R3278 v1720 r1717.2.1.lens → IsSlice (Ty.slice Ty.int) w3279 R3278 v1721 r1717.2.1.ckpts → IsSlice arcTy w3279 R3278 v2449 x2450 → Sub [(4, v1973), (5, .pointer (some ⟨bl1723, 0, none⟩)), (8, v1987), (10, .int .i64 x2454), (11, .int .i64 x3044)] E_ → K3188 E_ w3279 := by
                  intro R3278 w3279 E_ ho2898 hS f3280 f3281 f3282 f3283 hsub
                  refine hK3188 _ _ (e_sub hsub ?_); clear hsub
                  unfold law32_OrphanClocks_K4 at ho2898
                  refine e_region_text rfl ?_
                  refine q_move rfl rfl ?_
                  refine q_addW rfl rfl rfl ?_
                  refine q_assign rfl rfl ?_
                  refine eseq_nil ?_
                  obtain rfl := Option.some.inj ho2898
                  exact ⟨m2898, _, Nat.lt_succ_self _, ⟨(w64 (x3044 + 1)), _, ht2898, hS, f3280, f3281, f3282, f3283, rfl⟩, Sub.cons rfl (Sub.cons rfl (Sub.cons rfl (Sub.cons rfl (Sub.cons rfl (Sub.nil _)))))⟩
                replace hS := hS.famMono 2 rfl; simp only [List.set] at hS
                refine e_loop (fun m_ E_ w3243 => ∃ (x3251 : Int), ∃ (R3242 : Nat → Prop), iter (fun s => law32_OrphanClocks_B3 fuel x1975 r1986 x2454 x3044 r3191 s) m_ x3251 = some tl3206 ∧ Sep F R R3242 w w3243 [HP.blk bl1723 [v1720, v1721, v2449] 31, HP.own Ty.raw (fun _ => False) 66 v1987 v1988, HP.famS (Ty.slice labTy) R3242 68 v1988 r1986.1] ∧ IsSlice (Ty.slice evtTy) w3243 R3242 v1973 x1975 ∧ IsSlice Ty.int w3243 R3242 v1720 r1717.2.1.lens ∧ IsSlice (Ty.slice Ty.int) w3243 R3242 v1721 r1717.2.1.ckpts ∧ IsSlice arcTy w3243 R3242 v2449 x2450 ∧ IsSlice Ty.int w3243 R3242 v3192 r3191 ∧ E_ = [(4, v1973), (5, .pointer (some ⟨bl1723, 0, none⟩)), (8, v1987), (10, .int .i64 x2454), (11, .int .i64 x3044), (12, v3192), (13, .int .i64 x3251)]) _ ⟨_, ⟨0, _, ht3206, hS, f3038, f3039, f3040, f3041, f3192, rfl⟩, Sub.cons rfl (Sub.cons rfl (Sub.cons rfl (Sub.cons rfl (Sub.cons rfl (Sub.cons rfl (Sub.cons rfl (Sub.nil _)))))))⟩ ?_
                clear ht3206 hS
                rintro m3206 _ w3243 ⟨x3251, R3242, ht3206, hS, f3244, f3245, f3246, f3247, f3250, rfl⟩
                obtain ⟨m3206, rfl, o3206, ho3206, ht3206⟩ := iter_some ht3206
                replace ho3206 : law32_OrphanClocks_B3 fuel x1975 r1986 x2454 x3044 r3191 x3251 = some o3206 := ho3206
                unfold law32_OrphanClocks_B3 at ho3206
                refine e_seq fun K3286 hK3286 => ?_
                refine e_seq fun K3287 hK3287 => ?_
                refine e_region_text rfl ?_
                refine q_move rfl rfl ?_
                refine q_move rfl rfl ?_
                refine q_lenS rfl f3244 rfl ?_
                refine q_lss rfl rfl rfl ?_
                refine eseq_nil ?_
                refine hK3287 _ _ ?_
                refine e_cond rfl (fun hc3288 => ?_) (fun hc3288 => ?_)
                · replace ho3206 := (if_pos hc3288).symm.trans ho3206
                  refine e_skip ?_
                  refine hK3286 _ _ ?_
                  refine e_seq fun K3289 hK3289 => ?_
                  refine e_block ?_
                  refine e_seq fun K3290 hK3290 => ?_
                  refine e_region_draw mixed (fun _ => False) [0, 0, 3, 7, 0, 31, 63, 0, 255, 511, 0, 0, 3072, 7168, 15360, 32767] [] [0, 1, 2, 3, 4, 5, 6, 7, 8, 9, 10, 11, 12, 13, 14, 15] (by kernel_rfl) ?_
                  refine q_move rfl rfl ?_
                  refine q_move rfl rfl ?_
                  obtain ⟨x3291, hx3291, ho3206⟩ := Option.of_bind ho3206
                  have hax3291 := ati_nth (hS.famLen 2 rfl) hx3291
                  refine q_indexO (T := Ty.raw) (by infer_instance) rfl (hS.own 1 rfl) rfl hax3291 rfl ?_
                  refine q_load rfl (Elt.rawCell ((hS.own 1 rfl).elt hax3291)) rfl ?_
                  refine q_move rfl rfl ?_
                  obtain ⟨x3292, hx3292, ho3206⟩ := Option.of_bind ho3206
                  refine q_indexO (by infer_instance) rfl (hS.famO 2 rfl hx3291) rfl hx3292 rfl ?_
                  have f3293 := (hS.famOR 2 rfl hx3291).elt hx3292
                  refine q_loadE rfl f3293 rfl (fun v3294 f3294 => ?_)
                  refine q_move rfl rfl ?_
                  obtain ⟨x3295, hx3295, ho3206⟩ := Option.of_bind ho3206
                  refine q_atS (by infer_instance) rfl f3294 rfl hx3295 rfl fun b3296 o3296 hm3296 f3296 => ?_
                  have hc3297 := Lab_open f3296
                  refine q_loadAgg rfl hc3297 rfl rfl ?_
                  refine q_move rfl rfl ?_
                  refine q_move rfl rfl ?_
                  obtain ⟨x3298, hx3298, ho3206⟩ := Option.of_bind ho3206
                  refine q_atS (by infer_instance) rfl f3250 rfl hx3298 rfl fun b3299 o3299 hm3299 f3299 => ?_
                  refine q_load rfl (Elt.intCell f3299) rfl ?_
                  refine q_build (Parts.cons rfl rfl Parts.nil) rfl rfl ?_
                  refine q_neqA eqT60 (by kernel_rfl) rfl rfl rfl ?_
                  refine eseq_nil ?_
                  refine hK3290 _ _ ?_
                  refine e_cond rfl (fun hc3300 => ?_) (fun hc3300 => ?_)
                  · replace ho3206 := (if_pos hc3300).symm.trans ho3206
                    refine e_seq fun K3301 hK3301 => ?_
                    refine e_region_text rfl ?_
                    refine q_assign rfl rfl ?_
                    refine eseq_nil ?_
                    refine hK3301 _ _ ?_
                    refine e_ret ?_
                    obtain rfl := Option.some.inj ho3206
                    obtain rfl := Option.some.inj ht3206
                    obtain rfl := Option.some.inj ho2898
                    obtain rfl := Option.some.inj ht2898
                    obtain rfl := Option.some.inj ho1999
                    obtain rfl := Option.some.inj ht1999
                    obtain rfl := Option.some.inj h
                    exact ⟨_, res1 rfl rfl, _, rfl, (hS.pickB [] 3 rfl rfl)⟩
                  · replace ho3206 := (if_neg (not_true hc3300)).symm.trans ho3206
                    refine e_skip ?_
                    refine hK3289 _ _ ?_
                    refine e_region_text rfl ?_
                    refine q_move rfl rfl ?_
                    refine q_addW rfl rfl rfl ?_
                    refine q_assign rfl rfl ?_
                    refine eseq_nil ?_
                    obtain rfl := Option.some.inj ho3206
                    exact ⟨m3206, _, Nat.lt_succ_self _, ⟨(w64 (x3251 + 1)), _, ht3206, hS, f3244, f3245, f3246, f3247, f3250, rfl⟩, Sub.cons rfl (Sub.cons rfl (Sub.cons rfl (Sub.cons rfl (Sub.cons rfl (Sub.cons rfl (Sub.cons rfl (Sub.nil _)))))))⟩
                · replace ho3206 := (if_neg (not_true hc3288)).symm.trans ho3206
                  refine e_exit ?_
                  obtain rfl := Option.some.inj ho3206
                  obtain rfl := Option.some.inj ht3206
                  exact hX3206_8  _ _ _ ho2898 hS f3244 f3245 f3246 f3247 (Sub.cons rfl (Sub.cons rfl (Sub.cons rfl (Sub.cons rfl (Sub.cons rfl (Sub.nil _))))))
            · replace ho2898 := (if_neg (not_true hc3187)).symm.trans ho2898
              refine e_exit ?_
              obtain rfl := Option.some.inj ho2898
              obtain rfl := Option.some.inj ht2898
              exact hX2898_6  _ _ _ ho1999 hS f3038 f3039 f3040 f3041 (Sub.cons rfl (Sub.cons rfl (Sub.cons rfl (Sub.cons rfl (Sub.nil _)))))
        · replace ho1999 := (if_neg (not_true hc2887)).symm.trans ho1999
          refine e_exit ?_
          obtain rfl := Option.some.inj ho1999
          obtain rfl := Option.some.inj ht1999
          exact hX1999_4  _ _ _ h (hS.pickB [] 3 rfl rfl)  (Sub.nil _)
    refine e_loop (fun m_ E_ w1849 => ∃ (x1852 : (List (List Evt))), ∃ (x1858 : Int), ∃ (v1850 : Value), ∃ (v1851 : List Value), ∃ (R1848 : Nat → Prop), iter (fun s => law32_OrphanClocks_B4 fuel s.1 s.2) m_ (x1852, x1858) = some tl1728 ∧ Sep F R R1848 w w1849 [HP.own Ty.raw (fun _ => False) 58 v1850 v1851, HP.famS evtTy (fun _ => False) 62 v1851 x1852, HP.blk bl1723 [v1720, v1721, v1722] 31, HP.own arcTy (fun _ => False) 107 v1722 r1717.2.1.arcs] ∧ IsSlice Ty.int w1849 R1848 v1720 r1717.2.1.lens ∧ IsSlice (Ty.slice Ty.int) w1849 R1848 v1721 r1717.2.1.ckpts ∧ E_ = [(4, v1850), (5, .pointer (some ⟨bl1723, 0, none⟩)), (6, .int .i64 x1858)]) _ ⟨_, ⟨r1717.1, 0, v1718, v1719, _, ht1728, (hS.pickB [2, 3, 0, 4] 5 rfl rfl), f1720, f1721, rfl⟩, Sub.cons rfl (Sub.cons rfl (Sub.cons rfl (Sub.nil _)))⟩ ?_
    clear ht1728 hS
    rintro m1728 _ w1849 ⟨x1852, x1858, v1850, v1851, R1848, ht1728, hS, f1855, f1856, rfl⟩
    obtain ⟨m1728, rfl, o1728, ho1728, ht1728⟩ := iter_some ht1728
    replace ho1728 : law32_OrphanClocks_B4 fuel x1852 x1858 = some o1728 := ho1728
    unfold law32_OrphanClocks_B4 at ho1728
    refine e_seq fun K3302 hK3302 => ?_
    refine e_seq fun K3303 hK3303 => ?_
    refine e_region_text rfl ?_
    refine q_move rfl rfl ?_
    refine q_move rfl rfl ?_
    refine q_lenR rfl (hS.own 0 rfl) (hS.famLen 1 rfl) rfl ?_
    refine q_lss rfl rfl rfl ?_
    refine eseq_nil ?_
    refine hK3303 _ _ ?_
    refine e_cond rfl (fun hc3304 => ?_) (fun hc3304 => ?_)
    · replace ho1728 := (if_pos hc3304).symm.trans ho1728
      refine e_skip ?_
      refine hK3302 _ _ ?_
      refine e_seq fun K3305 hK3305 => ?_
      refine e_block ?_
      refine e_seq fun K3306 hK3306 => ?_
      refine e_region_text rfl ?_
      refine q_assign rfl rfl ?_
      refine eseq_nil ?_
      refine hK3306 _ _ ?_
      refine e_block ?_
      obtain ⟨tl3307, ht3307, ho1728⟩ := Option.of_bind ho1728
      have hX3307_2 : ∀ (x3382 : (List (List Evt))) (v3380 : Value) (v3381 : List Value) (R3378 : Nat → Prop) (w3379 : World) (E_ : Env), law32_OrphanClocks_K5 fuel x1858 x3382 = some o1728 → Sep F R R3378 w w3379 [HP.own Ty.raw (fun _ => False) 58 v3380 v3381, HP.famS evtTy (fun _ => False) 62 v3381 x3382, HP.blk bl1723 [v1720, v1721, v1722] 31, HP.own arcTy (fun _ => False) 107 v1722 r1717.2.1.arcs] → IsSlice Ty.int w3379 R3378 v1720 r1717.2.1.lens → IsSlice (Ty.slice Ty.int) w3379 R3378 v1721 r1717.2.1.ckpts → Sub [(4, v3380), (5, .pointer (some ⟨bl1723, 0, none⟩)), (6, .int .i64 x1858)] E_ → K3305 E_ w3379 := by
        intro x3382 v3380 v3381 R3378 w3379 E_ ho1728 hS f3385 f3386 hsub
        refine hK3305 _ _ (e_sub hsub ?_); clear hsub
        unfold law32_OrphanClocks_K5 at ho1728
        refine e_region_text rfl ?_
        refine q_move rfl rfl ?_
        refine q_addW rfl rfl rfl ?_
        refine q_assign rfl rfl ?_
        refine eseq_nil ?_
        obtain rfl := Option.some.inj ho1728
        exact ⟨m1728, _, Nat.lt_succ_self _, ⟨x3382, (w64 (x1858 + 1)), v3380, v3381, _, ht1728, hS, f3385, f3386, rfl⟩, Sub.cons rfl (Sub.cons rfl (Sub.cons rfl (Sub.nil _)))⟩
      refine e_loop (fun m_ E_ w3342 => ∃ (x3345 : (List (List Evt))), ∃ (x3351 : Int), ∃ (v3343 : Value), ∃ (v3344 : List Value), ∃ (R3341 : Nat → Prop), iter (fun s => law32_OrphanClocks_B5 fuel x1858 s.1 s.2) m_ (x3345, x3351) = some tl3307 ∧ Sep F R R3341 w w3342 [HP.own Ty.raw (fun _ => False) 58 v3343 v3344, HP.famS evtTy (fun _ => False) 62 v3344 x3345, HP.blk bl1723 [v1720, v1721, v1722] 31, HP.own arcTy (fun _ => False) 107 v1722 r1717.2.1.arcs] ∧ IsSlice Ty.int w3342 R3341 v1720 r1717.2.1.lens ∧ IsSlice (Ty.slice Ty.int) w3342 R3341 v1721 r1717.2.1.ckpts ∧ E_ = [(4, v3343), (5, .pointer (some ⟨bl1723, 0, none⟩)), (6, .int .i64 x1858), (7, .int .i64 x3351)]) _ ⟨_, ⟨x1852, 0, v1850, v1851, _, ht3307, hS, f1855, f1856, rfl⟩, Sub.cons rfl (Sub.cons rfl (Sub.cons rfl (Sub.cons rfl (Sub.nil _))))⟩ ?_
      clear ht3307 hS
      rintro m3307 _ w3342 ⟨x3345, x3351, v3343, v3344, R3341, ht3307, hS, f3348, f3349, rfl⟩
      obtain ⟨m3307, rfl, o3307, ho3307, ht3307⟩ := iter_some ht3307
      replace ho3307 : law32_OrphanClocks_B5 fuel x1858 x3345 x3351 = some o3307 := ho3307
      unfold law32_OrphanClocks_B5 at ho3307
      refine e_seq fun K3388 hK3388 => ?_
      refine e_seq fun K3389 hK3389 => ?_
      refine e_region_text rfl ?_
      refine q_move rfl rfl ?_
      refine q_move rfl rfl ?_
      refine q_move rfl rfl ?_
      obtain ⟨x3390, hx3390, ho3307⟩ := Option.of_bind ho3307
      have hax3390 := ati_nth (hS.famLen 1 rfl) hx3390
      refine q_indexO (T := Ty.raw) (by infer_instance) rfl (hS.own 0 rfl) rfl hax3390 rfl ?_
      refine q_load rfl (Elt.rawCell ((hS.own 0 rfl).elt hax3390)) rfl ?_
      refine q_lenS rfl (hS.famI 1 rfl hx3390) rfl ?_
      refine q_lss rfl rfl rfl ?_
      refine eseq_nil ?_
      refine hK3389 _ _ ?_
      refine e_cond rfl (fun hc3391 => ?_) (fun hc3391 => ?_)
      · replace ho3307 := (if_pos hc3391).symm.trans ho3307
        refine e_skip ?_
        refine hK3388 _ _ ?_
        refine e_seq fun K3392 hK3392 => ?_
        refine e_block ?_
        refine e_region_draw mixed (fun _ => False) [0, 0, 3, 7, 0, 0, 0, 96, 224, 0, 511, 1535, 3583, 8191, 16383, 32767, 65535] [] [0, 1, 2, 3, 4, 5, 6, 7, 8, 9, 10, 11, 12, 13, 14, 15, 16] (by kernel_rfl) ?_
        refine q_move rfl rfl ?_
        refine q_move rfl rfl ?_
        obtain ⟨x3393, hx3393, ho3307⟩ := Option.of_bind ho3307
        have hax3393 := ati_nth (hS.famLen 1 rfl) hx3393
        refine q_indexO (T := Ty.raw) (by infer_instance) rfl (hS.own 0 rfl) rfl hax3393 rfl ?_
        refine q_load rfl (Elt.rawCell ((hS.own 0 rfl).elt hax3393)) rfl ?_
        refine q_move rfl rfl ?_
        refine q_move rfl rfl ?_
        refine q_move rfl rfl ?_
        obtain ⟨x3394, hx3394, ho3307⟩ := Option.of_bind ho3307
        have hax3394 := ati_nth (hS.famLen 1 rfl) hx3394
        refine q_indexO (T := Ty.raw) (by infer_instance) rfl (hS.own 0 rfl) rfl hax3394 rfl ?_
        refine q_load rfl (Elt.rawCell ((hS.own 0 rfl).elt hax3394)) rfl ?_
        refine q_move rfl rfl ?_
        obtain ⟨x3395, hx3395, ho3307⟩ := Option.of_bind ho3307
        refine q_indexO (by infer_instance) rfl (hS.famO 1 rfl hx3393) rfl hx3395 rfl ?_
        refine q_field rfl rfl ?_
        obtain ⟨x3397, hx3397, ho3307⟩ := Option.of_bind ho3307
        obtain ⟨x3398, hx3398, ho3307⟩ := Option.of_bind ho3307
        refine q_storeO (T := evtTy) (j := 1) rfl rfl (hS.famO 1 rfl hx3393) hx3395 hx3397 rfl rfl rfl (Enc.setL rfl) fun w3396 ho3396 hO3396 => ?_
        have hk3396 := hS.famKeptC 1 rfl hx3393 hx3395 hO3396
        replace f3348 := f3348.kept hk3396
        replace f3349 := f3349.kept hk3396
        replace hS := hS.famCellM 1 rfl hx3393 hx3395 hx3398 ho3396 hO3396; simp only [List.set] at hS
        have hr3396 := ati_seti_same hx3398
        obtain ⟨x3399, hx3399, ho3307⟩ := Option.of_bind ho3307
        refine q_indexO (by infer_instance) rfl (hS.famO 1 rfl hr3396) rfl hx3399 rfl ?_
        refine q_field rfl rfl ?_
        refine q_field rfl rfl ?_
        obtain ⟨x3401, hx3401, ho3307⟩ := Option.of_bind ho3307
        obtain ⟨x3402, hx3402, ho3307⟩ := Option.of_bind ho3307
        refine q_storeO (T := evtTy) (j := 3) rfl rfl (hS.famO 1 rfl hr3396) hx3399 hx3401 rfl rfl rfl (Enc.setL rfl) fun w3400 ho3400 hO3400 => ?_
        have hk3400 := hS.famKeptC 1 rfl hr3396 hx3399 hO3400
        replace f3348 := f3348.kept hk3400
        replace f3349 := f3349.kept hk3400
        replace hS := hS.famCellM 1 rfl hr3396 hx3399 hx3402 ho3400 hO3400; simp only [List.set] at hS
        have hr3400 := ati_seti_same hx3402
        refine eseq_nil ?_
        refine hK3392 _ _ ?_
        refine e_region_text rfl ?_
        refine q_move rfl rfl ?_
        refine q_addW rfl rfl rfl ?_
        refine q_assign rfl rfl ?_
        refine eseq_nil ?_
        obtain rfl := Option.some.inj ho3307
        exact ⟨m3307, _, Nat.lt_succ_self _, ⟨x3402, (w64 (x3351 + 1)), v3343, v3344, _, ht3307, hS, f3348, f3349, rfl⟩, Sub.cons rfl (Sub.cons rfl (Sub.cons rfl (Sub.cons rfl (Sub.nil _))))⟩
      · replace ho3307 := (if_neg (not_true hc3391)).symm.trans ho3307
        refine e_exit ?_
        obtain rfl := Option.some.inj ho3307
        obtain rfl := Option.some.inj ht3307
        exact hX3307_2 x3345 v3343 v3344 _ _ _ ho1728 hS f3348 f3349 (Sub.cons rfl (Sub.cons rfl (Sub.cons rfl (Sub.nil _))))
    · replace ho1728 := (if_neg (not_true hc3304)).symm.trans ho1728
      refine e_exit ?_
      obtain rfl := Option.some.inj ho1728
      obtain rfl := Option.some.inj ht1728
      exact hX1728_0 x1852 v1850 v1851 _ _ _ h hS f1855 f1856 (Sub.cons rfl (Sub.cons rfl (Sub.nil _)))
end Go.Proofs.Ytbmjcbhappjnaaa
