/- Printed walks: A31b. -/
import Derived.Test.YtddohdppmejjoaaA31a
set_option linter.unusedVariables false
set_option linter.unusedSimpArgs false
namespace Go.Mine
open Go.RowKit
def ref31_Merge_K1 (fuel : Nat) (x1607 : (List EndI)) : Option ((List EndI)) :=
  some x1607
def ref31_Merge_K3 (fuel : Nat) (x1284 : (List EndI)) (x1615 : EndI) (x1285 : Int) (x1831 : Int) : Option (((List EndI) × Int) ⊕ ((List EndI))) :=
  (snoc x1284 (⟨0, 0, 0⟩ : EndI)).bind fun x1836 => (dropL x1836 (w64 (x1831 + 1))).bind fun x1838 => (dropL x1836 x1831).bind fun x1839 => (some (shiftL x1836 (w64 (x1831 + 1)).toNat (x1831).toNat)).bind fun x1841 => (ati x1841 x1831).bind fun x1842 => (seti x1841 x1831 (⟨x1615.proc, x1615.inc, x1615.index⟩ : EndI)).bind fun x1844 => some (Sum.inl (x1844, (w64 (x1285 + 1))))
def ref31_Merge_B2 (fuel : Nat) (x1284 : (List EndI)) (x1615 : EndI) (x1788 : Int) : Option ((Int) ⊕ (Int)) :=
  (andM (decide (0 < x1788)) ((ati x1284 (w64 (x1788 - 1))).bind fun x1864 => (orM (decide (x1615.proc < x1864.proc)) ((ati x1284 (w64 (x1788 - 1))).bind fun x1869 => (andM (x1869.proc == x1615.proc) ((ati x1284 (w64 (x1788 - 1))).bind fun x1874 => some (decide (x1615.inc < x1874.inc)))).bind fun x1873 => some x1873)).bind fun x1868 => some x1868)).bind fun x1863 => (if x1863 = true then some (Sum.inl (w64 (x1788 - 1))) else some (Sum.inr x1788))
def ref31_Merge_K2 (fuel : Nat) (x1284 : (List EndI)) (x1285 : Int) (x1615 : EndI) (x1735 : Bool) : Option (((List EndI) × Int) ⊕ ((List EndI))) :=
  (if (!x1735) = true then some (Sum.inl (x1284, (w64 (x1285 + 1)))) else (iter (fun s => ref31_Merge_B2 fuel x1284 x1615 s) fuel (x1284.length : Int)).bind (fun t => ref31_Merge_K3 fuel x1284 x1615 x1285 t))
def ref31_Merge_B3 (fuel : Nat) (x966 : (List EndI)) (x1615 : EndI) (x1285 : Int) (x1681 : Bool) (x1682 : Int) : Option ((Bool × Int) ⊕ (Bool)) :=
  (if (decide (x1682 < (x966.length : Int))) = true then (ati x966 x1682).bind fun x1883 => (andM (!((x1883.proc == x1615.proc) && ((x1883.inc == x1615.inc) && ((x1883.index == x1615.index) && true)))) ((ati x966 x1682).bind fun x1895 => (ref31_implied fuel (⟨x1615.proc, x1615.inc, x1615.index⟩ : EndI) x1895).bind fun r1899 => some r1899)).bind fun x1894 => (orM x1894 ((andM (decide (x1682 < x1285)) ((ati x966 x1682).bind fun x1911 => some ((x1911.proc == x1615.proc) && ((x1911.inc == x1615.inc) && ((x1911.index == x1615.index) && true))))).bind fun x1910 => some x1910)).bind fun x1908 => (if x1908 = true then some (Sum.inl (false, (w64 (x1682 + 1)))) else some (Sum.inl (x1681, (w64 (x1682 + 1))))) else some (Sum.inr x1681))
def ref31_Merge_B1 (fuel : Nat) (x966 : (List EndI)) (x1284 : (List EndI)) (x1285 : Int) : Option (((List EndI) × Int) ⊕ ((List EndI))) :=
  (if (decide (x1285 < (x966.length : Int))) = true then (ati x966 x1285).bind fun x1615 => (iter (fun s => ref31_Merge_B3 fuel x966 x1615 x1285 s.1 s.2) fuel (true, 0)).bind (fun t => ref31_Merge_K2 fuel x1284 x1285 x1615 t) else some (Sum.inr x1284))
def ref31_Merge (fuel : Nat) (a0 : (List EndI)) (a1 : (List EndI)) : Option ((List EndI)) :=
  (catL ([] : List EndI) a0).bind fun x964 => (catL x964 a1).bind fun x966 => (iter (fun s => ref31_Merge_B1 fuel x966 s.1 s.2) fuel (([] : List EndI), 0)).bind (fun t => ref31_Merge_K1 fuel t)
def ref31_Add (fuel : Nat) (a0 : (List EndI)) (a1 : EndI) : Option ((List EndI)) :=
  (ref31_Merge fuel a0 ([(⟨a1.proc, a1.inc, a1.index⟩ : EndI)])).bind fun r19 => some r19
end Go.Mine
namespace Go.Proofs.Ytddohdppmejjoaa
open Go.RowKit Go.Mine
attribute [local irreducible] eseq ewp iter
theorem ref31_Merge_w {F R : Nat → Prop} {w : World} {fuel : Nat} {a0 : (List EndI)} {a1 : (List EndI)} {v1 : Value} {v2 : Value} {r : ((List EndI))} (hS : Sep F R R w w []) (f1 : IsSlice endITy w R v1 a0) (f2 : IsSlice endITy w R v2 a1) (h : ref31_Merge fuel a0 a1 = some r) :
    Gives Try.prog 62 [v1, v2] w fun u w1 => ∃ (v959 : Value), ∃ (R1 : Nat → Prop), u = v959 ∧ Sep F R R1 w w1 [HP.own endITy (fun _ => False) 41 v959 r] := by
  refine fn_of Try.func62 rfl Try.ntmps62 (Nat.le_of_ble_eq_true rfl) ?_
  unfold ref31_Merge at h
  refine e_seq fun K960 hK960 => ?_
  refine e_region_text rfl ?_
  refine q_assign rfl rfl ?_
  refine eseq_nil ?_
  refine hK960 _ _ ?_
  refine e_seq fun K961 hK961 => ?_
  refine e_region_text rfl ?_
  refine q_move rfl rfl ?_
  replace hS := hS.nilOwn0 endITy 41
  obtain ⟨x964, hx964, h⟩ := Option.of_bind h
  refine q_catE (T := endITy) rfl rfl rfl rfl (hS.own 0 rfl) rfl f1 hx964 (Nat.zero_le _) rfl (fun h => by cases h) fun v963 w963 hw963 hgr963 hnw963 => ?_
  have hk963 := hS.keptOwn 0 rfl hgr963
  replace f2 := f2.kept hk963
  replace f1 := f1.kept hk963
  replace hS := hS.setOwn 0 rfl hw963 hgr963 hnw963; simp only [List.set] at hS
  refine q_move rfl rfl ?_
  obtain ⟨x966, hx966, h⟩ := Option.of_bind h
  refine q_catE (T := endITy) rfl rfl rfl rfl (hS.own 0 rfl) rfl f2 hx966 (Nat.zero_le _) rfl (fun h => by cases h) fun v965 w965 hw965 hgr965 hnw965 => ?_
  have hk965 := hS.keptOwn 0 rfl hgr965
  replace f2 := f2.kept hk965
  replace hS := hS.setOwn 0 rfl hw965 hgr965 hnw965; simp only [List.set] at hS
  refine q_assign rfl rfl ?_
  refine eseq_nil ?_
  refine hK961 _ _ ?_
  refine e_seq fun K967 hK967 => ?_
  refine e_region_text rfl ?_
  refine q_assign rfl rfl ?_
  refine eseq_nil ?_
  refine hK967 _ _ ?_
  refine e_seq fun K968 hK968 => ?_
  refine e_seq fun K969 hK969 => ?_
  refine e_region_text rfl ?_
  refine q_assign rfl rfl ?_
  refine eseq_nil ?_
  refine hK969 _ _ ?_
  refine e_block ?_
  obtain ⟨tl970, ht970, h⟩ := Option.of_bind h
  have hX970_0 : ∀ (x1607 : (List EndI)) (v1606 : Value) (R1603 : Nat → Prop) (w1604 : World) (E_ : Env), ref31_Merge_K1 fuel x1607 = some r → Sep F R R1603 w w1604 [HP.own endITy (fun _ => False) 41 v1606 x1607] → Sub [(6, v1606)] E_ → K968 E_ w1604 := by
    intro x1607 v1606 R1603 w1604 E_ h hS  hsub
    refine hK968 _ _ (e_sub hsub ?_); clear hsub
    unfold ref31_Merge_K1 at h
    refine e_seq fun K1608 hK1608 => ?_
    refine e_region_text rfl ?_
    refine q_move rfl rfl ?_
    refine q_assign rfl rfl ?_
    refine eseq_nil ?_
    refine hK1608 _ _ ?_
    refine e_ret ?_
    obtain rfl := Option.some.inj h
    exact ⟨_, res1 rfl rfl, v1606, _, rfl, hS⟩
  replace hS := hS.nilOwn0 endITy 41
  refine e_loop (fun m_ E_ w1280 => ∃ (x1284 : (List EndI)), ∃ (x1285 : Int), ∃ (v1283 : Value), ∃ (R1279 : Nat → Prop), iter (fun s => ref31_Merge_B1 fuel x966 s.1 s.2) m_ (x1284, x1285) = some tl970 ∧ Sep F R R1279 w w1280 [HP.own endITy (fun _ => False) 41 v965 x966, HP.own endITy (fun _ => False) 41 v1283 x1284] ∧ E_ = [(5, v965), (6, v1283), (7, .int .i64 x1285)]) _ ⟨_, ⟨([] : List EndI), 0, (.slice none 0 0), _, ht970, (hS.pickB [1, 0] 2 rfl rfl), rfl⟩, Sub.cons rfl (Sub.cons rfl (Sub.cons rfl (Sub.nil _)))⟩ ?_
  clear ht970 hS
  rintro m970 _ w1280 ⟨x1284, x1285, v1283, R1279, ht970, hS, rfl⟩
  obtain ⟨m970, rfl, o970, ho970, ht970⟩ := iter_some ht970
  replace ho970 : ref31_Merge_B1 fuel x966 x1284 x1285 = some o970 := ho970
  unfold ref31_Merge_B1 at ho970
  refine e_seq fun K1610 hK1610 => ?_
  refine e_seq fun K1611 hK1611 => ?_
  refine e_region_text rfl ?_
  refine q_move rfl rfl ?_
  refine q_move rfl rfl ?_
  refine q_lenS rfl (hS.isl 0 rfl) rfl ?_
  refine q_lss rfl rfl rfl ?_
  refine eseq_nil ?_
  refine hK1611 _ _ ?_
  refine e_cond rfl (fun hc1612 => ?_) (fun hc1612 => ?_)
  · replace ho970 := (if_pos hc1612).symm.trans ho970
    refine e_skip ?_
    refine hK1610 _ _ ?_
    refine e_seq fun K1613 hK1613 => ?_
    refine e_block ?_
    refine e_seq fun K1614 hK1614 => ?_
    refine e_region_text rfl ?_
    refine q_move rfl rfl ?_
    refine q_move rfl rfl ?_
    obtain ⟨x1615, hx1615, ho970⟩ := Option.of_bind ho970
    refine q_indexO (by infer_instance) rfl (hS.own 0 rfl) rfl hx1615 rfl ?_
    have f1616 := (hS.ownR 0 rfl).elt hx1615
    have hc1617 := EndI_open f1616
    refine q_loadAgg rfl hc1617 rfl rfl ?_
    refine q_allocB rfl fun w1618 bl1618 hg1618 hb1618 hB1618 => ?_
    replace hS := hS.newBlk hB1618 hg1618 hb1618
    refine q_storeAgg rfl rfl (hS.blk 0 rfl) rfl (Nat.le_of_ble_eq_true rfl) (all_cons rfl (all_cons rfl (all_cons rfl (all_nil)))) rfl rfl fun w1620 hb1620 hO1620 => ?_
    simp only [setN, List.set, List.take, List.drop] at hb1620
    have hk1620 := hS.keptBlk 0 rfl hO1620
    replace hS := hS.setBlk 0 rfl hb1620 hO1620; simp only [List.set] at hS
    refine eseq_nil ?_
    refine hK1614 _ _ ?_
    refine e_seq fun K1621 hK1621 => ?_
    refine e_region_text rfl ?_
    refine q_assign rfl rfl ?_
    refine eseq_nil ?_
    refine hK1621 _ _ ?_
    refine e_seq fun K1622 hK1622 => ?_
    refine e_seq fun K1623 hK1623 => ?_
    refine e_region_text rfl ?_
    refine q_assign rfl rfl ?_
    refine eseq_nil ?_
    refine hK1623 _ _ ?_
    refine e_block ?_
    obtain ⟨tl1624, ht1624, ho970⟩ := Option.of_bind ho970
    have hX1624_2 : ∀ (x1735 : Bool) (R1731 : Nat → Prop) (w1732 : World) (E_ : Env), ref31_Merge_K2 fuel x1284 x1285 x1615 x1735 = some o970 → Sep F R R1731 w w1732 [HP.own endITy (fun _ => False) 41 v965 x966, HP.own endITy (fun _ => False) 41 v1283 x1284, HP.blk bl1618 [.int .i64 x1615.proc, .int .i64 x1615.inc, .int .i64 x1615.index] 41] → Sub [(5, v965), (6, v1283), (7, .int .i64 x1285), (8, .pointer (some ⟨bl1618, 0, none⟩)), (9, .bool x1735)] E_ → K1622 E_ w1732 := by
      intro x1735 R1731 w1732 E_ ho970 hS  hsub
      refine hK1622 _ _ (e_sub hsub ?_); clear hsub
      unfold ref31_Merge_K2 at ho970
      refine e_seq fun K1736 hK1736 => ?_
      refine e_seq fun K1737 hK1737 => ?_
      refine e_region_text rfl ?_
      refine q_move rfl rfl ?_
      refine q_not rfl rfl ?_
      refine eseq_nil ?_
      refine hK1737 _ _ ?_
      refine e_cond rfl (fun hc1738 => ?_) (fun hc1738 => ?_)
      · replace ho970 := (if_pos hc1738).symm.trans ho970
        refine e_exit ?_
        refine hK1613 _ _ ?_
        refine e_region_text rfl ?_
        refine q_move rfl rfl ?_
        refine q_addW rfl rfl rfl ?_
        refine q_assign rfl rfl ?_
        refine eseq_nil ?_
        obtain rfl := Option.some.inj ho970
        exact ⟨m970, _, Nat.lt_succ_self _, ⟨x1284, (w64 (x1285 + 1)), v1283, _, ht970, (hS.pickB [0, 1] 3 rfl rfl), rfl⟩, Sub.cons rfl (Sub.cons rfl (Sub.cons rfl (Sub.nil _)))⟩
      · replace ho970 := (if_neg (not_true hc1738)).symm.trans ho970
        refine e_skip ?_
        refine hK1736 _ _ ?_
        refine e_seq fun K1739 hK1739 => ?_
        refine e_region_text rfl ?_
        refine q_move rfl rfl ?_
        refine q_lenS rfl (hS.isl 1 rfl) rfl ?_
        refine q_assign rfl rfl ?_
        refine eseq_nil ?_
        refine hK1739 _ _ ?_
        refine e_seq fun K1740 hK1740 => ?_
        refine e_block ?_
        obtain ⟨tl1741, ht1741, ho970⟩ := Option.of_bind ho970
        have hX1741_4 : ∀ (x1831 : Int) (R1827 : Nat → Prop) (w1828 : World) (E_ : Env), ref31_Merge_K3 fuel x1284 x1615 x1285 x1831 = some o970 → Sep F R R1827 w w1828 [HP.own endITy (fun _ => False) 41 v965 x966, HP.own endITy (fun _ => False) 41 v1283 x1284, HP.blk bl1618 [.int .i64 x1615.proc, .int .i64 x1615.inc, .int .i64 x1615.index] 41] → Sub [(5, v965), (6, v1283), (7, .int .i64 x1285), (8, .pointer (some ⟨bl1618, 0, none⟩)), (11, .int .i64 x1831)] E_ → K1740 E_ w1828 := by
          intro x1831 R1827 w1828 E_ ho970 hS  hsub
          refine hK1740 _ _ (e_sub hsub ?_); clear hsub
          unfold ref31_Merge_K3 at ho970
          refine e_seq fun K1832 hK1832 => ?_
          refine e_region_text rfl ?_
          refine q_move rfl rfl ?_
          refine q_build Parts.nil rfl rfl ?_
          refine q_litO (T := endITy) (S := (fun _ => False)) (cells := [[.int .i64 0, .int .i64 0, .int .i64 0]]) (ys := [(⟨0, 0, 0⟩ : EndI)]) ((Parts.cons rfl rfl Parts.nil)) rfl rfl rfl rfl rfl rfl rfl (fun w1 hB => ⟨⟨[_], _, rfl, rfl, ⟨[_], _, rfl, rfl, rfl⟩⟩, trivial⟩) (fun _ h => h.elim) rfl fun w1833 v1833 ho1833 hv1833 hB1833 => ?_
          replace hS := hS.newOwnS hB1833 ho1833 hv1833 (fun _ h => h.elim)
          obtain ⟨x1836, hx1836, ho970⟩ := Option.of_bind ho970
          refine q_catOwn (T := endITy) rfl rfl rfl rfl (hS.own 2 rfl) rfl (hS.own 0 rfl) (fun _ h _ => h.elim) (snoc_cat hx1836) (Nat.zero_le _) rfl (fun h => by cases h) fun v1835 w1835 hw1835 hgr1835 hnw1835 => ?_
          have hk1835 := hS.keptOwn 2 rfl hgr1835
          replace hS := hS.setOwn 2 rfl hw1835 hgr1835 hnw1835; simp only [List.set] at hS
          refine q_assign rfl rfl ?_
          refine eseq_nil ?_
          refine hK1832 _ _ ?_
          refine e_seq fun K1837 hK1837 => ?_
          refine e_region_draw mixed (fun _ => False) [0, 0, 2, 7, 0, 0, 48, 127] [] [0, 1, 2, 3, 4, 5, 6, 7] (by kernel_rfl) ?_
          refine q_move rfl rfl ?_
          refine q_move rfl rfl ?_
          refine q_addW rfl rfl rfl ?_
          obtain ⟨x1838, hx1838, ho970⟩ := Option.of_bind ho970
          refine q_sufO (T := endITy) (by infer_instance) rfl (hS.own 2 rfl) rfl hx1838 rfl ?_
          refine q_move rfl rfl ?_
          refine q_move rfl rfl ?_
          obtain ⟨x1839, hx1839, ho970⟩ := Option.of_bind ho970
          refine q_sufO (T := endITy) (by infer_instance) rfl (hS.own 2 rfl) rfl hx1839 rfl ?_
          obtain ⟨x1841, hx1841, ho970⟩ := Option.of_bind ho970
          refine q_copySuf (T := endITy) rfl (hS.own 2 rfl) rfl (dropL_le hx1838) (dropL_le hx1839) rfl rfl fun w1840 ho1840 hst1840 => ?_
          rw [Option.some.inj hx1841] at ho1840
          have hk1840 := hS.keptF 2 rfl hst1840
          replace hS := hS.set 2 rfl hst1840 (c' := HP.own _ _ _ _ _) ho1840 (fun k hk => .inl hk) (fun k hk => hS.depR 2 rfl k hk); simp only [List.set] at hS
          refine eseq_nil ?_
          refine hK1837 _ _ ?_
          refine e_region_text rfl ?_
          refine q_move rfl rfl ?_
          refine q_move rfl rfl ?_
          refine q_loadAgg rfl (Blk.cellsAt (hS.blk 3 rfl) 0 3 rfl) rfl rfl ?_
          obtain ⟨x1842, hx1842, ho970⟩ := Option.of_bind ho970
          refine q_indexO (by infer_instance) rfl (hS.own 2 rfl) rfl hx1842 rfl ?_
          obtain ⟨x1844, hx1844, ho970⟩ := Option.of_bind ho970
          refine q_storeOA (T := endITy) (j := 0) rfl rfl (hS.own 2 rfl) hx1842 hx1844 rfl rfl (all_cons rfl (all_cons rfl (all_cons rfl (all_nil)))) rfl (Enc.setNL rfl) fun w1843 ho1843 hO1843 => ?_
          have hk1843 := hS.keptO 2 rfl hx1842 hO1843
          replace hS := hS.putO 2 rfl hx1842 ho1843 hO1843; simp only [List.set] at hS
          refine eseq_nil ?_
          refine hK1613 _ _ ?_
          refine e_region_text rfl ?_
          refine q_move rfl rfl ?_
          refine q_addW rfl rfl rfl ?_
          refine q_assign rfl rfl ?_
          refine eseq_nil ?_
          obtain rfl := Option.some.inj ho970
          exact ⟨m970, _, Nat.lt_succ_self _, ⟨x1844, (w64 (x1285 + 1)), v1835, _, ht970, (hS.pickB [1, 2] 4 rfl rfl), rfl⟩, Sub.cons rfl (Sub.cons rfl (Sub.cons rfl (Sub.nil _)))⟩
        refine e_loop (fun m_ E_ w1785 => ∃ (x1788 : Int), ∃ (R1784 : Nat → Prop), iter (fun s => ref31_Merge_B2 fuel x1284 x1615 s) m_ x1788 = some tl1741 ∧ Sep F R R1784 w w1785 [HP.own endITy (fun _ => False) 41 v965 x966, HP.own endITy (fun _ => False) 41 v1283 x1284, HP.blk bl1618 [.int .i64 x1615.proc, .int .i64 x1615.inc, .int .i64 x1615.index] 41] ∧ E_ = [(5, v965), (6, v1283), (7, .int .i64 x1285), (8, .pointer (some ⟨bl1618, 0, none⟩)), (11, .int .i64 x1788)]) _ ⟨_, ⟨(x1284.length : Int), _, ht1741, hS, rfl⟩, Sub.cons rfl (Sub.cons rfl (Sub.cons rfl (Sub.cons rfl (Sub.cons rfl (Sub.nil _)))))⟩ ?_
        clear ht1741 hS
        rintro m1741 _ w1785 ⟨x1788, R1784, ht1741, hS, rfl⟩
        obtain ⟨m1741, rfl, o1741, ho1741, ht1741⟩ := iter_some ht1741
        replace ho1741 : ref31_Merge_B2 fuel x1284 x1615 x1788 = some o1741 := ho1741
        unfold ref31_Merge_B2 at ho1741
        refine e_seq fun K1845 hK1845 => ?_
        refine e_seq fun K1846 hK1846 => ?_
        refine e_region_draw mixed (fun _ => False) [0, 1, 3, 7, 7, 23, 63, 127, 255, 7, 519, 2047, 4095, 8191, 8191, 24575, 65535, 131071, 262143, 8191, 532479, 2097151, 4194303, 8388607, 8388607, 25165823, 67108863, 134217727, 268435455, 8388607, 545259519, 2147483647, 4294967295, 8589934591, 17179869183] [] [0, 1, 2, 3, 4, 5, 6, 7, 8, 9, 10, 11, 12, 13, 14, 15, 16, 17, 18, 19, 20, 21, 22, 23, 24, 25, 26, 27, 28, 29, 30, 31, 32, 33, 34] (by kernel_rfl) ?_
        refine q_move rfl rfl ?_
        refine q_gtr rfl rfl rfl ?_
        refine q_move rfl rfl ?_
        obtain ⟨x1863, hx1862, ho1741⟩ := Option.of_bind ho1741
        refine g_andM 31 hx1862 rfl trivial rfl rfl ?_ ?_ ?_
        · intro hg1862 hx1862
          clear ho1741
          have hT1862 := Below.refl (World.heap w1785).size w1785
          refine g_run rfl ?_; refine q_move rfl rfl ?_
          refine g_run rfl ?_; refine q_move rfl rfl ?_
          refine g_run rfl ?_; refine q_subW rfl rfl rfl ?_
          obtain ⟨x1864, hx1864, hx1862⟩ := Option.of_bind hx1862
          refine g_run rfl ?_; refine q_indexO (by infer_instance) rfl (hS.own 1 rfl) rfl hx1864 rfl ?_
          refine g_run rfl ?_; refine q_field rfl rfl ?_
          have f1865 := (hS.ownR 1 rfl).elt hx1864
          have f1866 := EndI_F0 f1865
          refine g_run rfl ?_; refine q_load rfl (Elt.intCell f1866) rfl ?_
          refine g_run rfl ?_; refine q_field rfl rfl ?_
          refine g_run rfl ?_; refine q_load rfl (Blk.cell (hS.blk 2 rfl) rfl) rfl ?_
          refine g_run rfl ?_; refine q_gtr rfl rfl rfl ?_
          refine g_run rfl ?_; refine q_move rfl rfl ?_
          obtain ⟨x1868, hx1867, hx1862⟩ := Option.of_bind hx1862
          refine g_orM 20 hx1867 rfl rfl rfl rfl ?_ ?_ ?_
          · intro hg1867
            refine g_skip rfl rfl rfl ?_
            refine g_skip rfl rfl rfl ?_
            refine g_skip rfl rfl rfl ?_
            refine g_skip rfl rfl rfl ?_
            refine g_skip rfl rfl rfl ?_
            refine g_skip rfl rfl rfl ?_
            refine g_skip rfl rfl rfl ?_
            refine g_skip rfl rfl rfl ?_
            refine g_skip rfl rfl rfl ?_
            refine g_skip rfl rfl rfl ?_
            refine g_skipU rfl rfl ?_
            refine g_skipU rfl rfl ?_
            refine g_skipU rfl rfl ?_
            refine g_skipU rfl rfl ?_
            refine g_skipU rfl rfl ?_
            refine g_skipU rfl rfl ?_
            refine g_skipU rfl rfl ?_
            refine g_skipU rfl rfl ?_
            refine g_skipU rfl rfl ?_
            refine g_skip rfl rfl rfl ?_
            exact eseq_nil ⟨rfl, Sub.set rfl (Sub.set rfl (Sub.set rfl (Sub.set rfl (Sub.set rfl (Sub.set rfl (Sub.set rfl (Sub.set rfl (Sub.set rfl (Sub.set rfl (Sub.set rfl (Sub.set rfl (Sub.set rfl (Sub.set rfl (Sub.set rfl (Sub.set rfl (Sub.set rfl (Sub.set rfl (Sub.set rfl (Sub.set rfl (Sub.bool true rfl hg1867))))))))))))))))))))⟩
          · intro hg1867 hx1867
            clear hx1862
            have hT1867 := Below.refl (World.heap w1785).size w1785
            refine g_run rfl ?_; refine q_move rfl rfl ?_
            refine g_run rfl ?_; refine q_move rfl rfl ?_
            refine g_run rfl ?_; refine q_subW rfl rfl rfl ?_
            obtain ⟨x1869, hx1869, hx1867⟩ := Option.of_bind hx1867
            refine g_run rfl ?_; refine q_indexO (by infer_instance) rfl (hS.own 1 rfl) rfl hx1869 rfl ?_
            refine g_run rfl ?_; refine q_field rfl rfl ?_
            have f1870 := (hS.ownR 1 rfl).elt hx1869
            have f1871 := EndI_F0 f1870
            refine g_run rfl ?_; refine q_load rfl (Elt.intCell f1871) rfl ?_
            refine g_run rfl ?_; refine q_field rfl rfl ?_
            refine g_run rfl ?_; refine q_load rfl (Blk.cell (hS.blk 2 rfl) rfl) rfl ?_
            refine g_run rfl ?_; refine q_eql rfl rfl rfl ?_
            refine g_run rfl ?_; refine q_move rfl rfl ?_
            obtain ⟨x1873, hx1872, hx1867⟩ := Option.of_bind hx1867
            refine g_andM 9 hx1872 rfl rfl rfl rfl ?_ ?_ ?_
            · intro hg1872 hx1872
              clear hx1867
              have hT1872 := Below.refl (World.heap w1785).size w1785
              refine g_run rfl ?_; refine q_move rfl rfl ?_
              refine g_run rfl ?_; refine q_move rfl rfl ?_
              refine g_run rfl ?_; refine q_subW rfl rfl rfl ?_
              obtain ⟨x1874, hx1874, hx1872⟩ := Option.of_bind hx1872
              refine g_run rfl ?_; refine q_indexO (by infer_instance) rfl (hS.own 1 rfl) rfl hx1874 rfl ?_
              refine g_run rfl ?_; refine q_field rfl rfl ?_
              have f1875 := (hS.ownR 1 rfl).elt hx1874
              have f1876 := EndI_F1 f1875
              refine g_run rfl ?_; refine q_load rfl (Elt.intCell f1876) rfl ?_
              refine g_run rfl ?_; refine q_field rfl rfl ?_
              refine g_run rfl ?_; refine q_load rfl (Blk.cell (hS.blk 2 rfl) rfl) rfl ?_
              refine g_run rfl ?_; refine q_gtr rfl rfl rfl ?_
              cases hx1872
              exact eseq_nil ⟨hT1872, Sub.set rfl (Sub.set rfl (Sub.set rfl (Sub.set rfl (Sub.set rfl (Sub.set rfl (Sub.set rfl (Sub.set rfl (Sub.set rfl (Sub.bool true rfl hg1872))))))))), rfl⟩
            · intro hg1872
              refine g_skip rfl rfl rfl ?_
              refine g_skip rfl rfl rfl ?_
              refine g_skip rfl rfl rfl ?_
              refine g_skip rfl rfl rfl ?_
              refine g_skip rfl rfl rfl ?_
              refine g_skip rfl rfl rfl ?_
              refine g_skip rfl rfl rfl ?_
              refine g_skip rfl rfl rfl ?_
              refine g_skip rfl rfl rfl ?_
              exact eseq_nil ⟨rfl, Sub.set rfl (Sub.set rfl (Sub.set rfl (Sub.set rfl (Sub.set rfl (Sub.set rfl (Sub.set rfl (Sub.set rfl (Sub.set rfl (Sub.bool false rfl hg1872)))))))))⟩
            intro wm1872 hBm1872; clear hx1872
            replace hS := hS.below hBm1872
            replace hT1862 := hT1862.trans (Below.mono hBm1872 hT1862.size)
            replace hT1867 := hT1867.trans (Below.mono hBm1872 hT1867.size)
            cases hx1867
            exact eseq_nil ⟨hT1867, Sub.set rfl (Sub.set rfl (Sub.set rfl (Sub.set rfl (Sub.set rfl (Sub.set rfl (Sub.set rfl (Sub.set rfl (Sub.set rfl (Sub.set rfl (Sub.set rfl (Sub.bool false rfl hg1867))))))))))), rfl⟩
          intro wm1867 hBm1867; clear hx1867
          replace hS := hS.below hBm1867
          replace hT1862 := hT1862.trans (Below.mono hBm1867 hT1862.size)
          cases hx1862
          exact eseq_nil ⟨hT1862, Sub.set rfl (Sub.set rfl (Sub.set rfl (Sub.set rfl (Sub.set rfl (Sub.set rfl (Sub.set rfl (Sub.set rfl (Sub.set rfl (Sub.set rfl (Sub.set rfl (Sub.bool true rfl hg1862))))))))))), rfl⟩
        · intro hg1862
          refine g_skip rfl rfl rfl ?_
          refine g_skip rfl rfl rfl ?_
          refine g_skip rfl rfl rfl ?_
          refine g_skip rfl rfl rfl ?_
          refine g_skip rfl rfl rfl ?_
          refine g_skip rfl rfl rfl ?_
          refine g_skip rfl rfl rfl ?_
          refine g_skip rfl rfl rfl ?_
          refine g_skip rfl rfl rfl ?_
          refine g_skip rfl rfl rfl ?_
          refine g_skipU rfl rfl ?_
          refine g_skipU rfl rfl ?_
          refine g_skipU rfl rfl ?_
          refine g_skipU rfl rfl ?_
          refine g_skipU rfl rfl ?_
          refine g_skipU rfl rfl ?_
          refine g_skipU rfl rfl ?_
          refine g_skipU rfl rfl ?_
          refine g_skipU rfl rfl ?_
          refine g_skipU rfl rfl ?_
          refine g_skipU rfl rfl ?_
          refine g_skipU rfl rfl ?_
          refine g_skipU rfl rfl ?_
          refine g_skipU rfl rfl ?_
          refine g_skipU rfl rfl ?_
          refine g_skipU rfl rfl ?_
          refine g_skipU rfl rfl ?_
          refine g_skipU rfl rfl ?_
          refine g_skipU rfl rfl ?_
          refine g_skipU rfl rfl ?_
          refine g_skip rfl rfl rfl ?_
          exact eseq_nil ⟨rfl, Sub.set rfl (Sub.set rfl (Sub.set rfl (Sub.set rfl (Sub.set rfl (Sub.set rfl (Sub.set rfl (Sub.set rfl (Sub.set rfl (Sub.set rfl (Sub.set rfl (Sub.set rfl (Sub.set rfl (Sub.set rfl (Sub.set rfl (Sub.set rfl (Sub.set rfl (Sub.set rfl (Sub.set rfl (Sub.set rfl (Sub.set rfl (Sub.set rfl (Sub.set rfl (Sub.set rfl (Sub.set rfl (Sub.set rfl (Sub.set rfl (Sub.set rfl (Sub.set rfl (Sub.set rfl (Sub.set rfl (Sub.bool false rfl hg1862)))))))))))))))))))))))))))))))⟩
        intro wm1862 hBm1862; clear hx1862
        replace hS := hS.below hBm1862
        refine eseq_nil ?_
        refine hK1846 _ _ ?_
        refine e_cond rfl (fun hc1877 => ?_) (fun hc1877 => ?_)
        · replace ho1741 := (if_pos hc1877).symm.trans ho1741
          refine e_skip ?_
          refine hK1845 _ _ ?_
          refine e_block ?_
          refine e_region_text rfl ?_
          refine q_move rfl rfl ?_
          refine q_subW rfl rfl rfl ?_
          refine q_assign rfl rfl ?_
          refine eseq_nil ?_
          obtain rfl := Option.some.inj ho1741
          exact ⟨m1741, _, Nat.lt_succ_self _, ⟨(w64 (x1788 - 1)), _, ht1741, hS, rfl⟩, Sub.cons rfl (Sub.cons rfl (Sub.cons rfl (Sub.cons rfl (Sub.cons rfl (Sub.nil _)))))⟩
        · replace ho1741 := (if_neg (not_true hc1877)).symm.trans ho1741
          refine e_exit ?_
          obtain rfl := Option.some.inj ho1741
          obtain rfl := Option.some.inj ht1741
          exact hX1741_4 x1788 _ _ _ ho970 hS  (Sub.cons rfl (Sub.cons rfl (Sub.cons rfl (Sub.cons rfl (Sub.cons rfl (Sub.nil _))))))
    refine e_loop (fun m_ E_ w1678 => ∃ (x1681 : Bool), ∃ (x1682 : Int), ∃ (R1677 : Nat → Prop), iter (fun s => ref31_Merge_B3 fuel x966 x1615 x1285 s.1 s.2) m_ (x1681, x1682) = some tl1624 ∧ Sep F R R1677 w w1678 [HP.own endITy (fun _ => False) 41 v965 x966, HP.own endITy (fun _ => False) 41 v1283 x1284, HP.blk bl1618 [.int .i64 x1615.proc, .int .i64 x1615.inc, .int .i64 x1615.index] 41] ∧ E_ = [(5, v965), (6, v1283), (7, .int .i64 x1285), (8, .pointer (some ⟨bl1618, 0, none⟩)), (9, .bool x1681), (10, .int .i64 x1682)]) _ ⟨_, ⟨true, 0, _, ht1624, (hS.pickB [1, 2, 0] 3 rfl rfl), rfl⟩, Sub.cons rfl (Sub.cons rfl (Sub.cons rfl (Sub.cons rfl (Sub.cons rfl (Sub.cons rfl (Sub.nil _))))))⟩ ?_
    clear ht1624 hS
    rintro m1624 _ w1678 ⟨x1681, x1682, R1677, ht1624, hS, rfl⟩
    obtain ⟨m1624, rfl, o1624, ho1624, ht1624⟩ := iter_some ht1624
    replace ho1624 : ref31_Merge_B3 fuel x966 x1615 x1285 x1681 x1682 = some o1624 := ho1624
    unfold ref31_Merge_B3 at ho1624
    refine e_seq fun K1878 hK1878 => ?_
    refine e_seq fun K1879 hK1879 => ?_
    refine e_region_text rfl ?_
    refine q_move rfl rfl ?_
    refine q_move rfl rfl ?_
    refine q_lenS rfl (hS.isl 0 rfl) rfl ?_
    refine q_lss rfl rfl rfl ?_
    refine eseq_nil ?_
    refine hK1879 _ _ ?_
    refine e_cond rfl (fun hc1880 => ?_) (fun hc1880 => ?_)
    · replace ho1624 := (if_pos hc1880).symm.trans ho1624
      refine e_skip ?_
      refine hK1878 _ _ ?_
      refine e_seq fun K1881 hK1881 => ?_
      refine e_block ?_
      refine e_seq fun K1882 hK1882 => ?_
      refine e_region_draw mixed (fun _ => False) [0, 0, 3, 7, 0, 31, 63, 127, 127, 127, 895, 1919, 4095, 8191, 16383, 32767, 32767, 131071, 262143, 524287, 524287, 2097151, 4194303, 524287, 16777215, 33554431, 67108863] [] [0, 1, 2, 3, 4, 5, 6, 7, 8, 9, 10, 11, 12, 13, 14, 15, 16, 17, 18, 19, 20, 21, 22, 23, 24, 25, 26] (by kernel_rfl) ?_
      refine q_move rfl rfl ?_
      refine q_move rfl rfl ?_
      obtain ⟨x1883, hx1883, ho1624⟩ := Option.of_bind ho1624
      refine q_indexO (by infer_instance) rfl (hS.own 0 rfl) rfl hx1883 rfl ?_
      have f1884 := (hS.ownR 0 rfl).elt hx1883
      have hc1885 := EndI_open f1884
      refine q_loadAgg rfl hc1885 rfl rfl ?_
      refine q_loadAgg rfl (Blk.cellsAt (hS.blk 2 rfl) 0 3 rfl) rfl rfl ?_
      refine q_neqA eqT41 (by kernel_rfl) rfl rfl rfl ?_
      refine q_move rfl rfl ?_
      obtain ⟨x1894, hx1893, ho1624⟩ := Option.of_bind ho1624
      refine g_andM 6 hx1893 rfl trivial rfl rfl ?_ ?_ ?_
      · intro hg1893 hx1893
        clear ho1624
        have hT1893 := Below.refl (World.heap w1678).size w1678
        refine g_run rfl ?_; refine q_loadAgg rfl (Blk.cellsAt (hS.blk 2 rfl) 0 3 rfl) rfl rfl ?_
        refine g_run rfl ?_; refine q_move rfl rfl ?_
        refine g_run rfl ?_; refine q_move rfl rfl ?_
        obtain ⟨x1895, hx1895, hx1893⟩ := Option.of_bind hx1893
        refine g_run rfl ?_; refine q_indexO (by infer_instance) rfl (hS.own 0 rfl) rfl hx1895 rfl ?_
        have f1896 := (hS.ownR 0 rfl).elt hx1895
        have hc1897 := EndI_open f1896
        refine g_run rfl ?_; refine q_loadAgg rfl hc1897 rfl rfl ?_
        obtain ⟨r1899, hr1899, hx1893⟩ := Option.of_bind hx1893
        refine g_run rfl ?_; refine q_call rfl (ref31_implied_w (a0 := (⟨x1615.proc, x1615.inc, x1615.index⟩ : EndI)) (a1 := x1895) (Sep.enter (As := []) hS)  hr1899) rfl ?_
        rintro _ w1898 ⟨R1898, rfl, hC1898⟩
        have hB1898 : Below (World.heap w1678).size w1678 w1898 := hC1898.stepB0
        refine ⟨fun _ => .of_below hB1898, ?_⟩
        replace hT1893 := hT1893.trans (Below.mono hB1898 hT1893.size)
        replace hS := Sep.leave (As := []) hS hC1898; simp only [List.cons_append, List.nil_append] at hS
        cases hx1893
        exact eseq_nil ⟨hT1893, Sub.set rfl (Sub.set rfl (Sub.set rfl (Sub.set rfl (Sub.set rfl (Sub.set rfl (Sub.bool true rfl hg1893)))))), rfl⟩
      · intro hg1893
        refine g_skip rfl rfl rfl ?_
        refine g_skip rfl rfl rfl ?_
        refine g_skip rfl rfl rfl ?_
        refine g_skip rfl rfl rfl ?_
        refine g_skip rfl rfl rfl ?_
        refine g_skip rfl rfl rfl ?_
        exact eseq_nil ⟨rfl, Sub.set rfl (Sub.set rfl (Sub.set rfl (Sub.set rfl (Sub.set rfl (Sub.set rfl (Sub.bool false rfl hg1893))))))⟩
      intro wm1893 hBm1893; clear hx1893
      replace hS := hS.below hBm1893
      refine q_move rfl rfl ?_
      obtain ⟨x1908, hx1907, ho1624⟩ := Option.of_bind ho1624
      refine g_orM 11 hx1907 rfl trivial rfl rfl ?_ ?_ ?_
      · intro hg1907
        refine g_skip rfl rfl rfl ?_
        refine g_skip rfl rfl rfl ?_
        refine g_skip rfl rfl rfl ?_
        refine g_skip rfl rfl rfl ?_
        refine g_skipU rfl rfl ?_
        refine g_skipU rfl rfl ?_
        refine g_skipU rfl rfl ?_
        refine g_skipU rfl rfl ?_
        refine g_skipU rfl rfl ?_
        refine g_skipU rfl rfl ?_
        refine g_skip rfl rfl rfl ?_
        exact eseq_nil ⟨rfl, Sub.set rfl (Sub.set rfl (Sub.set rfl (Sub.set rfl (Sub.set rfl (Sub.set rfl (Sub.set rfl (Sub.set rfl (Sub.set rfl (Sub.set rfl (Sub.set rfl (Sub.bool true rfl hg1907)))))))))))⟩
      · intro hg1907 hx1907
        clear ho1624
        have hT1907 := Below.refl (World.heap wm1893).size wm1893
        refine g_run rfl ?_; refine q_move rfl rfl ?_
        refine g_run rfl ?_; refine q_move rfl rfl ?_
        refine g_run rfl ?_; refine q_lss rfl rfl rfl ?_
        refine g_run rfl ?_; refine q_move rfl rfl ?_
        obtain ⟨x1910, hx1909, hx1907⟩ := Option.of_bind hx1907
        refine g_andM 6 hx1909 rfl rfl rfl rfl ?_ ?_ ?_
        · intro hg1909 hx1909
          clear hx1907
          have hT1909 := Below.refl (World.heap wm1893).size wm1893
          refine g_run rfl ?_; refine q_move rfl rfl ?_
          refine g_run rfl ?_; refine q_move rfl rfl ?_
          obtain ⟨x1911, hx1911, hx1909⟩ := Option.of_bind hx1909
          refine g_run rfl ?_; refine q_indexO (by infer_instance) rfl (hS.own 0 rfl) rfl hx1911 rfl ?_
          have f1912 := (hS.ownR 0 rfl).elt hx1911
          have hc1913 := EndI_open f1912
          refine g_run rfl ?_; refine q_loadAgg rfl hc1913 rfl rfl ?_
          refine g_run rfl ?_; refine q_loadAgg rfl (Blk.cellsAt (hS.blk 2 rfl) 0 3 rfl) rfl rfl ?_
          refine g_run rfl ?_; refine q_eqlA eqT41 (by kernel_rfl) rfl rfl rfl ?_
          cases hx1909
          exact eseq_nil ⟨hT1909, Sub.set rfl (Sub.set rfl (Sub.set rfl (Sub.set rfl (Sub.set rfl (Sub.set rfl (Sub.bool true rfl hg1909)))))), rfl⟩
        · intro hg1909
          refine g_skip rfl rfl rfl ?_
          refine g_skip rfl rfl rfl ?_
          refine g_skip rfl rfl rfl ?_
          refine g_skip rfl rfl rfl ?_
          refine g_skip rfl rfl rfl ?_
          refine g_skip rfl rfl rfl ?_
          exact eseq_nil ⟨rfl, Sub.set rfl (Sub.set rfl (Sub.set rfl (Sub.set rfl (Sub.set rfl (Sub.set rfl (Sub.bool false rfl hg1909))))))⟩
        intro wm1909 hBm1909; clear hx1909
        replace hS := hS.below hBm1909
        replace hT1907 := hT1907.trans (Below.mono hBm1909 hT1907.size)
        cases hx1907
        exact eseq_nil ⟨hT1907, Sub.set rfl (Sub.set rfl (Sub.set rfl (Sub.set rfl (Sub.set rfl (Sub.bool false rfl hg1907))))), rfl⟩
      intro wm1907 hBm1907; clear hx1907
      replace hS := hS.below hBm1907
      refine eseq_nil ?_
      refine hK1882 _ _ ?_
      refine e_cond rfl (fun hc1914 => ?_) (fun hc1914 => ?_)
      · replace ho1624 := (if_pos hc1914).symm.trans ho1624
        refine e_region_text rfl ?_
        refine q_assign rfl rfl ?_
        refine eseq_nil ?_
        refine hK1881 _ _ ?_
        refine e_region_text rfl ?_
        refine q_move rfl rfl ?_
        refine q_addW rfl rfl rfl ?_
        refine q_assign rfl rfl ?_
        refine eseq_nil ?_
        obtain rfl := Option.some.inj ho1624
        exact ⟨m1624, _, Nat.lt_succ_self _, ⟨false, (w64 (x1682 + 1)), _, ht1624, hS, rfl⟩, Sub.cons rfl (Sub.cons rfl (Sub.cons rfl (Sub.cons rfl (Sub.cons rfl (Sub.cons rfl (Sub.nil _))))))⟩
      · replace ho1624 := (if_neg (not_true hc1914)).symm.trans ho1624
        refine e_skip ?_
        refine hK1881 _ _ ?_
        refine e_region_text rfl ?_
        refine q_move rfl rfl ?_
        refine q_addW rfl rfl rfl ?_
        refine q_assign rfl rfl ?_
        refine eseq_nil ?_
        obtain rfl := Option.some.inj ho1624
        exact ⟨m1624, _, Nat.lt_succ_self _, ⟨x1681, (w64 (x1682 + 1)), _, ht1624, hS, rfl⟩, Sub.cons rfl (Sub.cons rfl (Sub.cons rfl (Sub.cons rfl (Sub.cons rfl (Sub.cons rfl (Sub.nil _))))))⟩
    · replace ho1624 := (if_neg (not_true hc1880)).symm.trans ho1624
      refine e_exit ?_
      obtain rfl := Option.some.inj ho1624
      obtain rfl := Option.some.inj ht1624
      exact hX1624_2 x1681 _ _ _ ho970 hS  (Sub.cons rfl (Sub.cons rfl (Sub.cons rfl (Sub.cons rfl (Sub.cons rfl (Sub.nil _))))))
  · replace ho970 := (if_neg (not_true hc1612)).symm.trans ho970
    refine e_exit ?_
    obtain rfl := Option.some.inj ho970
    obtain rfl := Option.some.inj ht970
    exact hX970_0 x1284 v1283 _ _ _ h (hS.pickB [1] 2 rfl rfl)  (Sub.cons rfl (Sub.nil _))
theorem ref31_Add_w {F R : Nat → Prop} {w : World} {fuel : Nat} {a0 : (List EndI)} {a1 : EndI} {v1 : Value} {r : ((List EndI))} (hS : Sep F R R w w []) (f1 : IsSlice endITy w R v1 a0) (h : ref31_Add fuel a0 a1 = some r) :
    Gives Try.prog 47 [v1, .agg #[.int .i64 a1.proc, .int .i64 a1.inc, .int .i64 a1.index]] w fun u w1 => ∃ (v11 : Value), ∃ (R1 : Nat → Prop), u = v11 ∧ Sep F R R1 w w1 [HP.own endITy (fun _ => False) 41 v11 r] := by
  refine fn_of Try.func47 rfl Try.ntmps47 (Nat.le_of_ble_eq_true rfl) ?_
  unfold ref31_Add at h
  refine e_seq fun K12 hK12 => ?_
  refine e_region_text rfl ?_
  refine q_boxB rfl rfl rfl fun w13 bl13 hg13 hb13 hB13 => ?_
  replace f1 := f1.ext hB13
  replace hS := hS.newBlk hB13 hg13 hb13
  refine q_assign rfl rfl ?_
  refine eseq_nil ?_
  refine hK12 _ _ ?_
  refine e_seq fun K15 hK15 => ?_
  refine e_region_text rfl ?_
  refine q_move rfl rfl ?_
  refine q_loadAgg rfl (Blk.cellsAt (hS.blk 0 rfl) 0 3 rfl) rfl rfl ?_
  refine q_litO (T := endITy) (S := (fun _ => False)) (cells := [[.int .i64 a1.proc, .int .i64 a1.inc, .int .i64 a1.index]]) (ys := [(⟨a1.proc, a1.inc, a1.index⟩ : EndI)]) ((Parts.cons rfl rfl Parts.nil)) rfl rfl rfl rfl rfl rfl rfl (fun w1 hB => ⟨⟨[_], _, rfl, rfl, ⟨[_], _, rfl, rfl, rfl⟩⟩, trivial⟩) (fun _ h => h.elim) rfl fun w16 v16 ho16 hv16 hB16 => ?_
  replace f1 := f1.ext hB16
  replace hS := hS.newOwnS hB16 ho16 hv16 (fun _ h => h.elim)
  obtain ⟨r19, hr19, h⟩ := Option.of_bind h
  refine q_call rfl (ref31_Merge_w (Sep.all w16) (f1).old ((hS.isl 0 rfl)).old hr19) rfl ?_
  rintro v20 w18 ⟨_, R18, rfl, hC18⟩
  have hB18 : Below (World.heap w16).size w16 w18 := hC18.stepBF
  refine ⟨fun _ => .of_below hB18, ?_⟩
  replace f1 := f1.ext hB18
  replace hS := hS.newOwnS hB18 (hC18.own 0 rfl) (hC18.fresh 0 rfl) (fun _ h => h.elim)
  refine q_assign rfl rfl ?_
  refine eseq_nil ?_
  refine hK15 _ _ ?_
  refine e_ret ?_
  obtain rfl := Option.some.inj h
  exact ⟨_, res1 rfl rfl, v20, _, rfl, (hS.pickB [0] 3 rfl rfl)⟩
end Go.Proofs.Ytddohdppmejjoaa
