/- Printed walks: A25. -/
import Derived.Test.YtbmjcbhappjnaaaTypes
import Derived.Test.YtbmjcbhappjnaaaAcdat
import Derived.Test.YtbmjcbhappjnaaaDel
set_option linter.unusedVariables false
set_option linter.unusedSimpArgs false
namespace Go.Mine
open Go.RowKit
def indexed_Forces (fuel : Nat) (a0 : Int) (a1 : Int) : Option (Bool) :=
  some (decide (a0 < a1))
def indexed_begin_K1 (fuel : Nat) (x223 : (List Int)) (x217 : (List Int)) (x365 : (List (List Int))) (x370 : (List (List Int))) (x375 : (List (List Bool))) : Option ((List Int) × (List (List Int)) × (List Arc) × (List (List Int)) × (List (List (List Int))) × (List (List Bool)) × (List Int) × (List IndexedLetter)) :=
  some (x223, x365, ([] : List Arc), x370, ([] : List (List (List Int))), x375, x217, ([] : List IndexedLetter))
def indexed_begin_B1 (fuel : Nat) (a0 : Int) (x295 : (List (List Int))) (x300 : (List (List Int))) (x305 : (List (List Bool))) (x309 : Int) : Option (((List (List Int)) × (List (List Int)) × (List (List Bool)) × Int) ⊕ ((List (List Int)) × (List (List Int)) × (List (List Bool)))) :=
  (if (decide (x309 < a0)) = true then (snoc x295 ([0])).bind fun x397 => (snoc x300 ([0])).bind fun x406 => (snoc x305 ([false])).bind fun x414 => some (Sum.inl (x397, x406, x414, (w64 (x309 + 1)))) else some (Sum.inr (x295, x300, x305)))
def indexed_begin (fuel : Nat) (a0 : Int) : Option ((List Int) × (List (List Int)) × (List Arc) × (List (List Int)) × (List (List (List Int))) × (List (List Bool)) × (List Int) × (List IndexedLetter)) :=
  (mkL a0 (0 : Int)).bind fun x217 => (mkL a0 (0 : Int)).bind fun x223 => (iter (fun s => indexed_begin_B1 fuel a0 s.1 s.2.1 s.2.2.1 s.2.2.2) fuel (([] : List (List Int)), ([] : List (List Int)), ([] : List (List Bool)), 0)).bind (fun t => indexed_begin_K1 fuel x223 x217 t.1 t.2.1 t.2.2)
def indexed_computation_process (fuel : Nat) (a1 : Int) (c0_0 : (List Int)) (c0_1 : (List (List Int))) (c0_2 : (List Arc)) (c0_3 : (List (List Int))) (c0_4 : (List (List (List Int)))) (c0_5 : (List (List Bool))) (c0_6 : (List Int)) (c0_7 : (List IndexedLetter)) : Option (Bool) :=
  (andM (decide (0 ≤ a1)) (some (decide (a1 < (c0_6.length : Int))))).bind fun x21 => some x21
def indexed_computation_full (fuel : Nat) (a1 : Int) (c0_0 : (List Int)) (c0_1 : (List (List Int))) (c0_2 : (List Arc)) (c0_3 : (List (List Int))) (c0_4 : (List (List (List Int)))) (c0_5 : (List (List Bool))) (c0_6 : (List Int)) (c0_7 : (List IndexedLetter)) : Option (Bool) :=
  (ati c0_0 a1).bind fun x16 => some (decide (64 ≤ x16))
def indexed_computation_event (fuel : Nat) (a1 : Int) (c0_0 : (List Int)) (c0_1 : (List (List Int))) (c0_2 : (List Arc)) (c0_3 : (List (List Int))) (c0_4 : (List (List (List Int)))) (c0_5 : (List (List Bool))) (c0_6 : (List Int)) (c0_7 : (List IndexedLetter)) : Option (Int × (List Int)) :=
  (ati c0_0 a1).bind fun x26 => (ati c0_0 a1).bind fun x28 => (seti c0_0 a1 (w64 (x26 + 1))).bind fun x30 => (ati x30 a1).bind fun x32 => some (x32, x30)
def indexed_computation_checkpoint (fuel : Nat) (a1 : Int) (a2 : Bool) (c0_0 : (List Int)) (c0_1 : (List (List Int))) (c0_2 : (List Arc)) (c0_3 : (List (List Int))) (c0_4 : (List (List (List Int)))) (c0_5 : (List (List Bool))) (c0_6 : (List Int)) (c0_7 : (List IndexedLetter)) : Option ((List (List Int)) × (List (List Int)) × (List (List Bool))) :=
  (ati c0_1 a1).bind fun x99 => (ati c0_1 a1).bind fun x102 => (ati x102 (w64 ((x99.length : Int) - 1))).bind fun x103 => (ati c0_0 a1).bind fun x105 => (if (x103 == x105) = true then (ati c0_3 a1).bind fun x109 => (ati c0_6 a1).bind fun x110 => (ati x109 (w64 ((x99.length : Int) - 1))).bind fun x112 => (seti x109 (w64 ((x99.length : Int) - 1)) x110).bind fun x114 => (seti c0_3 a1 x114).bind fun x115 => some (c0_1, x115, c0_5) else (ati c0_1 a1).bind fun x127 => (ati c0_0 a1).bind fun x128 => (snoc x127 x128).bind fun x133 => (seti c0_1 a1 x133).bind fun x134 => (ati x134 a1).bind fun x135 => (ati c0_3 a1).bind fun x148 => (ati c0_6 a1).bind fun x149 => (snoc x148 x149).bind fun x154 => (seti c0_3 a1 x154).bind fun x155 => (ati x155 a1).bind fun x156 => (ati c0_5 a1).bind fun x166 => (snoc x166 a2).bind fun x170 => (seti c0_5 a1 x170).bind fun x171 => (ati x171 a1).bind fun x172 => some (x134, x155, x171))
def indexed_computation_send (fuel : Nat) (a1 : Int) (a2 : Int) (c0_0 : (List Int)) (c0_1 : (List (List Int))) (c0_2 : (List Arc)) (c0_3 : (List (List Int))) (c0_4 : (List (List (List Int)))) (c0_5 : (List (List Bool))) (c0_6 : (List Int)) (c0_7 : (List IndexedLetter)) : Option ((List Int) × (List Arc) × (List IndexedLetter)) :=
  (indexed_computation_process fuel a1 c0_0 c0_1 c0_2 c0_3 c0_4 c0_5 c0_6 c0_7).bind fun r78 => (orM (!r78) ((indexed_computation_process fuel a2 c0_0 c0_1 c0_2 c0_3 c0_4 c0_5 c0_6 c0_7).bind fun r86 => some (!r86))).bind fun x84 => (orM x84 (some (a1 == a2))).bind fun x90 => (orM x90 ((indexed_computation_full fuel a1 c0_0 c0_1 c0_2 c0_3 c0_4 c0_5 c0_6 c0_7).bind fun r98 => some r98)).bind fun x96 => (if x96 = true then some (c0_0, c0_2, c0_7) else (indexed_computation_event fuel a1 c0_0 c0_1 c0_2 c0_3 c0_4 c0_5 c0_6 c0_7).bind fun r103 => (ati c0_6 a1).bind fun x116 => (snoc c0_7 (⟨(c0_2.length : Int), x116⟩ : IndexedLetter)).bind fun x121 => (snoc c0_2 (⟨a1, r103.1, a2, 0⟩ : Arc)).bind fun x131 => some (r103.2, x131, x121))
def DeleteIL (fuel : Nat) (a1 a2 : Int) (c0_0 : List IndexedLetter) : Option (List IndexedLetter) := if 0 ≤ a1 ∧ a2 = a1 + 1 ∧ a2 ≤ c0_0.length ∧ c0_0.length ≤ 1000000 then some (c0_0.take a1.toNat ++ c0_0.drop (a1.toNat + 1)) else none
def indexed_computation_receive_J1 (fuel : Nat) (x140 : Arc) (c0_0 : (List Int)) (c0_2 : (List Arc)) (c0_4 : (List (List (List Int)))) (r150 : (List IndexedLetter)) (x133 : IndexedLetter) (x177 : (List (List Int))) (x183 : (List (List Int))) (x189 : (List (List Bool))) (x194 : (List Int)) : Option ((List Int) × (List (List Int)) × (List Arc) × (List (List Int)) × (List (List Bool)) × (List Int) × (List IndexedLetter)) :=
  (indexed_computation_event fuel x140.to c0_0 x177 c0_2 x183 c0_4 x189 x194 r150).bind fun r203 => (ati c0_2 x133.arc).bind fun x205 => (seti c0_2 x133.arc ({ x205 with rcv := r203.1 })).bind fun x207 => some (r203.2, x177, x207, x183, x189, x194, r150)
def indexed_computation_receive (fuel : Nat) (a1 : Int) (c0_0 : (List Int)) (c0_1 : (List (List Int))) (c0_2 : (List Arc)) (c0_3 : (List (List Int))) (c0_4 : (List (List (List Int)))) (c0_5 : (List (List Bool))) (c0_6 : (List Int)) (c0_7 : (List IndexedLetter)) : Option ((List Int) × (List (List Int)) × (List Arc) × (List (List Int)) × (List (List Bool)) × (List Int) × (List IndexedLetter)) :=
  (orM (decide (a1 < 0)) (some (decide ((c0_7.length : Int) ≤ a1)))).bind fun x130 => (if x130 = true then some (c0_0, c0_1, c0_2, c0_3, c0_5, c0_6, c0_7) else (ati c0_7 a1).bind fun x133 => (ati c0_2 x133.arc).bind fun x140 => (indexed_computation_full fuel x140.to c0_0 c0_1 c0_2 c0_3 c0_4 c0_5 c0_6 c0_7).bind fun r146 => (if r146 = true then some (c0_0, c0_1, c0_2, c0_3, c0_5, c0_6, c0_7) else (DeleteIL fuel a1 (w64 (a1 + 1)) c0_7).bind fun r150 => (ati c0_6 x140.to).bind fun x209 => (indexed_Forces fuel x209 x133.clock).bind fun r212 => (if r212 = true then (ati c0_6 x140.to).bind fun x215 => (seti c0_6 x140.to x133.clock).bind fun x217 => (indexed_computation_checkpoint fuel x140.to true c0_0 c0_1 c0_2 c0_3 c0_4 c0_5 x217 r150).bind fun r219 => indexed_computation_receive_J1 fuel x140 c0_0 c0_2 c0_4 r150 x133 r219.1 r219.2.1 r219.2.2 x217 else indexed_computation_receive_J1 fuel x140 c0_0 c0_2 c0_4 r150 x133 c0_1 c0_3 c0_5 c0_6)))
def indexed_Play_K1 (fuel : Nat) (x912 : (List Int)) (x915 : (List (List Int))) (x920 : (List Arc)) (x923 : (List (List Int))) (x928 : (List (List Bool))) (x933 : (List Int)) (x936 : (List IndexedLetter)) : Option (Hist × Int) :=
  some ((⟨(⟨x912, x915, x920⟩ : Pat), x923, ([] : List (List (List Int))), x928⟩ : Hist), 0)
def indexed_Play_B1 (fuel : Nat) (a1 : (List Deed)) (x724 : (List Int)) (x727 : (List (List Int))) (x732 : (List Arc)) (x735 : (List (List Int))) (x740 : (List (List Bool))) (x745 : (List Int)) (x748 : (List IndexedLetter)) (x750 : Int) : Option (((List Int) × (List (List Int)) × (List Arc) × (List (List Int)) × (List (List Bool)) × (List Int) × (List IndexedLetter) × Int) ⊕ ((List Int) × (List (List Int)) × (List Arc) × (List (List Int)) × (List (List Bool)) × (List Int) × (List IndexedLetter))) :=
  (if (decide (x750 < (a1.length : Int))) = true then (ati a1 x750).bind fun x946 => (if (x946.kind == 1) = true then (indexed_computation_send fuel x946.proc x946.other x724 x727 x732 x735 ([] : List (List (List Int))) x740 x745 x748).bind fun r956 => some (Sum.inl (r956.1, x727, r956.2.1, x735, x740, x745, r956.2.2, (w64 (x750 + 1)))) else (if (x946.kind == 2) = true then (indexed_computation_receive fuel x946.other x724 x727 x732 x735 ([] : List (List (List Int))) x740 x745 x748).bind fun r963 => some (Sum.inl (r963.1, r963.2.1, r963.2.2.1, r963.2.2.2.1, r963.2.2.2.2.1, r963.2.2.2.2.2.1, r963.2.2.2.2.2.2, (w64 (x750 + 1)))) else (if (x946.kind == 3) = true then (indexed_computation_process fuel x946.proc x724 x727 x732 x735 ([] : List (List (List Int))) x740 x745 x748).bind fun r978 => (if r978 = true then (ati x745 x946.proc).bind fun x981 => (ati x745 x946.proc).bind fun x983 => (seti x745 x946.proc (w64 (x981 + 1))).bind fun x985 => (indexed_computation_checkpoint fuel x946.proc false x724 x727 x732 x735 ([] : List (List (List Int))) x740 x985 x748).bind fun r987 => some (Sum.inl (x724, r987.1, x732, r987.2.1, r987.2.2, x985, x748, (w64 (x750 + 1)))) else some (Sum.inl (x724, x727, x732, x735, x740, x745, x748, (w64 (x750 + 1))))) else some (Sum.inl (x724, x727, x732, x735, x740, x745, x748, (w64 (x750 + 1))))))) else some (Sum.inr (x724, x727, x732, x735, x740, x745, x748)))
def indexed_Play (fuel : Nat) (a0 : Int) (a1 : (List Deed)) : Option (Hist × Int) :=
  (orM (decide (a0 < 1)) (some (decide (5 < a0)))).bind fun x503 => (if x503 = true then some ((⟨(⟨([] : List Int), ([] : List (List Int)), ([] : List Arc)⟩ : Pat), ([] : List (List Int)), ([] : List (List (List Int))), ([] : List (List Bool))⟩ : Hist), 3) else (if (decide (200 < (a1.length : Int))) = true then some ((⟨(⟨([] : List Int), ([] : List (List Int)), ([] : List Arc)⟩ : Pat), ([] : List (List Int)), ([] : List (List (List Int))), ([] : List (List Bool))⟩ : Hist), 4) else (indexed_begin fuel a0).bind fun r530 => (iter (fun s => indexed_Play_B1 fuel a1 s.1 s.2.1 s.2.2.1 s.2.2.2.1 s.2.2.2.2.1 s.2.2.2.2.2.1 s.2.2.2.2.2.2.1 s.2.2.2.2.2.2.2) fuel (r530.1, r530.2.1, ([] : List Arc), r530.2.2.2.1, r530.2.2.2.2.2.1, r530.2.2.2.2.2.2.1, ([] : List IndexedLetter), 0)).bind (fun t => indexed_Play_K1 fuel t.1 t.2.1 t.2.2.1 t.2.2.2.1 t.2.2.2.2.1 t.2.2.2.2.2.1 t.2.2.2.2.2.2)))
end Go.Mine
namespace Go.Proofs.Ytbmjcbhappjnaaa
open Go.RowKit Go.Mine
attribute [local irreducible] eseq ewp iter
theorem indexed_Forces_w {F R : Nat → Prop} {w : World} {fuel : Nat} {a0 : Int} {a1 : Int} {r : (Bool)} (hS : Sep F R R w w []) (h : indexed_Forces fuel a0 a1 = some r) :
    Gives Try.prog 103 [.int .i64 a0, .int .i64 a1] w fun u w1 => ∃ (R1 : Nat → Prop), u = .bool r ∧ Sep F R R1 w w1 [] := by
  refine fn_of Try.func103 rfl Try.ntmps103 (Nat.le_of_ble_eq_true rfl) ?_
  unfold indexed_Forces at h
  refine e_seq fun K3 hK3 => ?_
  refine e_region_text rfl ?_
  refine q_assign rfl rfl ?_
  refine eseq_nil ?_
  refine hK3 _ _ ?_
  refine e_seq fun K4 hK4 => ?_
  refine e_region_text rfl ?_
  refine q_move rfl rfl ?_
  refine q_move rfl rfl ?_
  refine q_gtr rfl rfl rfl ?_
  refine q_assign rfl rfl ?_
  refine eseq_nil ?_
  refine hK4 _ _ ?_
  refine e_ret ?_
  obtain rfl := Option.some.inj h
  exact ⟨_, res1 rfl rfl, _, rfl, hS⟩
theorem indexed_begin_w {F R : Nat → Prop} {w : World} {fuel : Nat} {a0 : Int} {r : ((List Int) × (List (List Int)) × (List Arc) × (List (List Int)) × (List (List (List Int))) × (List (List Bool)) × (List Int) × (List IndexedLetter))} (hS : Sep F R R w w []) (h : indexed_begin fuel a0 = some r) :
    Gives Try.prog 53 [.int .i64 a0] w fun u w1 => ∃ (B203 : Nat), ∃ (v204 : Value), ∃ (v205 : Value), ∃ (v206 : List Value), ∃ (v208 : Value), ∃ (v209 : List Value), ∃ (v211 : Value), ∃ (v212 : List Value), ∃ (v213 : Value), ∃ (R1 : Nat → Prop), u = .pointer (some ⟨B203, 0, none⟩) ∧ Sep F R R1 w w1 [HP.blk B203 [v204, v205, .slice none 0 0, v208, .slice none 0 0, v211, v213, .slice none 0 0] 112, HP.own Ty.int (fun _ => False) 3 v204 r.1, HP.own Ty.raw (fun _ => False) 27 v205 v206, HP.famS Ty.int (fun _ => False) 3 v206 r.2.1, HP.own Ty.raw (fun _ => False) 27 v208 v209, HP.famS Ty.int (fun _ => False) 3 v209 r.2.2.2.1, HP.own Ty.raw (fun _ => False) 99 v211 v212, HP.famS Ty.bool (fun _ => False) 4 v212 r.2.2.2.2.2.1, HP.own Ty.int (fun _ => False) 3 v213 r.2.2.2.2.2.2.1] := by
  refine fn_of Try.func53 rfl Try.ntmps53 (Nat.le_of_ble_eq_true rfl) ?_
  unfold indexed_begin at h
  refine e_seq fun K215 hK215 => ?_
  refine e_region_text rfl ?_
  refine q_assign rfl rfl ?_
  refine eseq_nil ?_
  refine hK215 _ _ ?_
  refine e_seq fun K216 hK216 => ?_
  refine e_region_text rfl ?_
  refine q_move rfl rfl ?_
  obtain ⟨x217, hx217, h⟩ := Option.of_bind h
  refine q_makeO (T := Ty.int) (S := (fun _ => False)) rfl rfl rfl hx217 (fun _ h => h.elim) rfl fun w218 v218 ho218 hv218 hB218 => ?_
  replace hS := hS.newOwnS hB218 ho218 hv218 (fun _ h => h.elim)
  refine q_build (Parts.cons rfl (cells_one (hS.own 0 rfl).one) Parts.nil) rfl rfl ?_
  refine q_boxB rfl rfl rfl fun w220 bl220 hg220 hb220 hB220 => ?_
  replace hS := hS.newBlk hB220 hg220 hb220
  refine q_assign rfl rfl ?_
  refine eseq_nil ?_
  refine hK216 _ _ ?_
  refine e_seq fun K222 hK222 => ?_
  refine e_region_text rfl ?_
  refine q_move rfl rfl ?_
  refine q_move rfl rfl ?_
  obtain ⟨x223, hx223, h⟩ := Option.of_bind h
  refine q_makeO (T := Ty.int) (S := (fun _ => False)) rfl rfl rfl hx223 (fun _ h => h.elim) rfl fun w224 v224 ho224 hv224 hB224 => ?_
  replace hS := hS.newOwnS hB224 ho224 hv224 (fun _ h => h.elim)
  refine q_nilCheck rfl rfl ?_
  refine q_field rfl rfl ?_
  refine q_field rfl rfl ?_
  refine q_field rfl rfl ?_
  refine q_store rfl rfl (hS.blk 1 rfl) (Nat.le_of_ble_eq_true rfl) (hS.own 0 rfl).one rfl rfl fun w226 hb226 hO226 => ?_
  have hk226 := hS.keptBlk 1 rfl hO226
  replace hS := hS.setBlk 1 rfl hb226 hO226; simp only [List.set] at hS
  refine eseq_nil ?_
  refine hK222 _ _ ?_
  refine e_seq fun K227 hK227 => ?_
  refine e_seq fun K228 hK228 => ?_
  refine e_region_text rfl ?_
  refine q_move rfl rfl ?_
  refine q_move rfl rfl ?_
  refine eseq_nil ?_
  refine hK228 _ _ ?_
  refine e_block ?_
  obtain ⟨tl229, ht229, h⟩ := Option.of_bind h
  have hX229_0 : ∀ (x365 : (List (List Int))) (x370 : (List (List Int))) (x375 : (List (List Bool))) (v363 : Value) (v364 : List Value) (v368 : Value) (v369 : List Value) (v373 : Value) (v374 : List Value) (R360 : Nat → Prop) (w361 : World) (E_ : Env), indexed_begin_K1 fuel x223 x217 x365 x370 x375 = some r → Sep F R R360 w w361 [HP.blk bl220 [v224, v363, .slice none 0 0, v368, .slice none 0 0, v373, v218, .slice none 0 0] 112, HP.own Ty.int (fun _ => False) 3 v224 x223, HP.own Ty.raw (fun _ => False) 27 v363 v364, HP.famS Ty.int (fun _ => False) 3 v364 x365, HP.own Ty.raw (fun _ => False) 27 v368 v369, HP.famS Ty.int (fun _ => False) 3 v369 x370, HP.own Ty.raw (fun _ => False) 99 v373 v374, HP.famS Ty.bool (fun _ => False) 4 v374 x375, HP.own Ty.int (fun _ => False) 3 v218 x217] → Sub [(3, .pointer (some ⟨bl220, 0, none⟩))] E_ → K227 E_ w361 := by
    intro x365 x370 x375 v363 v364 v368 v369 v373 v374 R360 w361 E_ h hS  hsub
    refine hK227 _ _ (e_sub hsub ?_); clear hsub
    unfold indexed_begin_K1 at h
    refine e_seq fun K379 hK379 => ?_
    refine e_region_text rfl ?_
    refine q_move rfl rfl ?_
    refine q_assign rfl rfl ?_
    refine eseq_nil ?_
    refine hK379 _ _ ?_
    refine e_ret ?_
    obtain rfl := Option.some.inj h
    exact ⟨_, res1 rfl rfl, bl220, v224, v363, v364, v368, v369, v373, v374, v218, _, rfl, hS⟩
  replace hS := hS.nilRows0 Ty.int 3 27
  replace hS := hS.nilRows0 Ty.int 3 27
  replace hS := hS.nilRows0 Ty.bool 4 99
  refine e_loop (fun m_ E_ w291 => ∃ (x295 : (List (List Int))), ∃ (x300 : (List (List Int))), ∃ (x305 : (List (List Bool))), ∃ (x309 : Int), ∃ (v293 : Value), ∃ (v294 : List Value), ∃ (v298 : Value), ∃ (v299 : List Value), ∃ (v303 : Value), ∃ (v304 : List Value), ∃ (R290 : Nat → Prop), iter (fun s => indexed_begin_B1 fuel a0 s.1 s.2.1 s.2.2.1 s.2.2.2) m_ (x295, x300, x305, x309) = some tl229 ∧ Sep F R R290 w w291 [HP.blk bl220 [v224, v293, .slice none 0 0, v298, .slice none 0 0, v303, v218, .slice none 0 0] 112, HP.own Ty.int (fun _ => False) 3 v224 x223, HP.own Ty.raw (fun _ => False) 27 v293 v294, HP.famS Ty.int (fun _ => False) 3 v294 x295, HP.own Ty.raw (fun _ => False) 27 v298 v299, HP.famS Ty.int (fun _ => False) 3 v299 x300, HP.own Ty.raw (fun _ => False) 99 v303 v304, HP.famS Ty.bool (fun _ => False) 4 v304 x305, HP.own Ty.int (fun _ => False) 3 v218 x217] ∧ E_ = [(3, .pointer (some ⟨bl220, 0, none⟩)), (15, .int .i64 a0), (16, .int .i64 x309)]) _ ⟨_, ⟨([] : List (List Int)), ([] : List (List Int)), ([] : List (List Bool)), 0, (.slice none 0 0), ([] : List Value), (.slice none 0 0), ([] : List Value), (.slice none 0 0), ([] : List Value), _, ht229, (hS.pickB [7, 6, 4, 5, 2, 3, 0, 1, 8] 9 rfl rfl), rfl⟩, Sub.cons rfl (Sub.cons rfl (Sub.cons rfl (Sub.nil _)))⟩ ?_
  clear ht229 hS
  rintro m229 _ w291 ⟨x295, x300, x305, x309, v293, v294, v298, v299, v303, v304, R290, ht229, hS, rfl⟩
  obtain ⟨m229, rfl, o229, ho229, ht229⟩ := iter_some ht229
  replace ho229 : indexed_begin_B1 fuel a0 x295 x300 x305 x309 = some o229 := ho229
  unfold indexed_begin_B1 at ho229
  refine e_seq fun K386 hK386 => ?_
  refine e_region_text rfl ?_
  refine q_lss rfl rfl rfl ?_
  refine eseq_nil ?_
  refine hK386 _ _ ?_
  refine e_seq fun K387 hK387 => ?_
  refine e_cond rfl (fun hc388 => ?_) (fun hc388 => ?_)
  · replace ho229 := (if_pos hc388).symm.trans ho229
    refine e_skip ?_
    refine hK387 _ _ ?_
    refine e_seq fun K389 hK389 => ?_
    refine e_block ?_
    refine e_seq fun K390 hK390 => ?_
    refine e_region_text rfl ?_
    refine q_move rfl rfl ?_
    refine q_move rfl rfl ?_
    refine q_nilCheck rfl rfl ?_
    refine q_field rfl rfl ?_
    refine q_field rfl rfl ?_
    refine q_field rfl rfl ?_
    refine q_load rfl (Blk.cell (hS.blk 0 rfl) rfl) rfl ?_
    refine q_litO (T := Ty.int) (S := (fun _ => False)) (cells := [[.int .i64 0]]) (ys := [0]) ((Parts.cons rfl rfl Parts.nil)) rfl rfl rfl rfl rfl rfl rfl (fun w1 hB => ⟨rfl, trivial⟩) (fun _ h => h.elim) rfl fun w391 v391 ho391 hv391 hB391 => ?_
    replace hS := hS.newOwnS hB391 ho391 hv391 (fun _ h => h.elim)
    refine q_litO (T := Ty.raw) (S := (fun _ => False)) (cells := [[v391]]) (ys := [v391]) ((Parts.cons rfl (cells_one (hS.own 0 rfl).one) Parts.nil)) rfl rfl rfl rfl rfl rfl rfl (fun w1 hB => ⟨⟨rfl, (hS.own 0 rfl).one⟩, trivial⟩) (fun _ h => h.elim) rfl fun w393 v393 ho393 hv393 hB393 => ?_
    replace hS := hS.newOwnS hB393 ho393 hv393 (fun _ h => h.elim)
    replace hS := hS.pickB [1, 0, 2, 3, 4, 5, 6, 7, 8, 9, 10] 11 rfl rfl; simp only [List.map_cons, List.map_nil, List.getD_cons_zero, List.getD_cons_succ] at hS
    replace hS := hS.famOne
    obtain ⟨x397, hx397, ho229⟩ := Option.of_bind ho229
    obtain ⟨hcr396, hce396⟩ := catL_raw (hS.famLen 5 rfl) (hS.famLen 0 rfl) (snoc_cat hx397)
    refine q_catOwn (T := Ty.raw) rfl rfl rfl rfl (hS.own 4 rfl) rfl (hS.own 1 rfl) (fun _ h _ => h.elim) hcr396 (Nat.zero_le _) rfl (fun h => by cases h) fun v396 w396 hw396 hgr396 hnw396 => ?_
    have hk396 := hS.keptOwn 4 rfl hgr396
    replace hS := hS.setOwn 4 rfl hw396 hgr396 hnw396; simp only [List.set] at hS
    replace hS := hS.pickB [5, 0, 1, 2, 3, 4, 6, 7, 8, 9, 10] 11 rfl rfl; simp only [List.map_cons, List.map_nil, List.getD_cons_zero, List.getD_cons_succ] at hS
    replace hS := hS.famCat; rw [hce396] at hS
    refine q_nilCheck rfl rfl ?_
    refine q_field rfl rfl ?_
    refine q_field rfl rfl ?_
    refine q_field rfl rfl ?_
    refine q_store rfl rfl (hS.blk 2 rfl) (Nat.le_of_ble_eq_true rfl) (hS.own 4 rfl).one rfl rfl fun w398 hb398 hO398 => ?_
    have hk398 := hS.keptBlk 2 rfl hO398
    replace hS := hS.setBlk 2 rfl hb398 hO398; simp only [List.set] at hS
    refine eseq_nil ?_
    refine hK390 _ _ ?_
    refine e_seq fun K399 hK399 => ?_
    refine e_region_text rfl ?_
    refine q_move rfl rfl ?_
    refine q_move rfl rfl ?_
    refine q_nilCheck rfl rfl ?_
    refine q_field rfl rfl ?_
    refine q_field rfl rfl ?_
    refine q_load rfl (Blk.cell (hS.blk 2 rfl) rfl) rfl ?_
    refine q_litO (T := Ty.int) (S := (fun _ => False)) (cells := [[.int .i64 0]]) (ys := [0]) ((Parts.cons rfl rfl Parts.nil)) rfl rfl rfl rfl rfl rfl rfl (fun w1 hB => ⟨rfl, trivial⟩) (fun _ h => h.elim) rfl fun w400 v400 ho400 hv400 hB400 => ?_
    replace hS := hS.newOwnS hB400 ho400 hv400 (fun _ h => h.elim)
    refine q_litO (T := Ty.raw) (S := (fun _ => False)) (cells := [[v400]]) (ys := [v400]) ((Parts.cons rfl (cells_one (hS.own 0 rfl).one) Parts.nil)) rfl rfl rfl rfl rfl rfl rfl (fun w1 hB => ⟨⟨rfl, (hS.own 0 rfl).one⟩, trivial⟩) (fun _ h => h.elim) rfl fun w402 v402 ho402 hv402 hB402 => ?_
    replace hS := hS.newOwnS hB402 ho402 hv402 (fun _ h => h.elim)
    replace hS := hS.pickB [1, 0, 2, 3, 4, 5, 6, 7, 8, 9, 10, 11] 12 rfl rfl; simp only [List.map_cons, List.map_nil, List.getD_cons_zero, List.getD_cons_succ] at hS
    replace hS := hS.famOne
    obtain ⟨x406, hx406, ho229⟩ := Option.of_bind ho229
    obtain ⟨hcr405, hce405⟩ := catL_raw (hS.famLen 8 rfl) (hS.famLen 0 rfl) (snoc_cat hx406)
    refine q_catOwn (T := Ty.raw) rfl rfl rfl rfl (hS.own 7 rfl) rfl (hS.own 1 rfl) (fun _ h _ => h.elim) hcr405 (Nat.zero_le _) rfl (fun h => by cases h) fun v405 w405 hw405 hgr405 hnw405 => ?_
    have hk405 := hS.keptOwn 7 rfl hgr405
    replace hS := hS.setOwn 7 rfl hw405 hgr405 hnw405; simp only [List.set] at hS
    replace hS := hS.pickB [8, 0, 1, 2, 3, 4, 5, 6, 7, 9, 10, 11] 12 rfl rfl; simp only [List.map_cons, List.map_nil, List.getD_cons_zero, List.getD_cons_succ] at hS
    replace hS := hS.famCat; rw [hce405] at hS
    refine q_nilCheck rfl rfl ?_
    refine q_field rfl rfl ?_
    refine q_field rfl rfl ?_
    refine q_store rfl rfl (hS.blk 4 rfl) (Nat.le_of_ble_eq_true rfl) (hS.own 7 rfl).one rfl rfl fun w407 hb407 hO407 => ?_
    have hk407 := hS.keptBlk 4 rfl hO407
    replace hS := hS.setBlk 4 rfl hb407 hO407; simp only [List.set] at hS
    refine eseq_nil ?_
    refine hK399 _ _ ?_
    refine e_region_text rfl ?_
    refine q_move rfl rfl ?_
    refine q_move rfl rfl ?_
    refine q_nilCheck rfl rfl ?_
    refine q_field rfl rfl ?_
    refine q_field rfl rfl ?_
    refine q_load rfl (Blk.cell (hS.blk 4 rfl) rfl) rfl ?_
    refine q_litO (T := Ty.bool) (S := (fun _ => False)) (cells := [[.bool false]]) (ys := [false]) ((Parts.cons rfl rfl Parts.nil)) rfl rfl rfl rfl rfl rfl rfl (fun w1 hB => ⟨rfl, trivial⟩) (fun _ h => h.elim) rfl fun w408 v408 ho408 hv408 hB408 => ?_
    replace hS := hS.newOwnS hB408 ho408 hv408 (fun _ h => h.elim)
    refine q_litO (T := Ty.raw) (S := (fun _ => False)) (cells := [[v408]]) (ys := [v408]) ((Parts.cons rfl (cells_one (hS.own 0 rfl).one) Parts.nil)) rfl rfl rfl rfl rfl rfl rfl (fun w1 hB => ⟨⟨rfl, (hS.own 0 rfl).one⟩, trivial⟩) (fun _ h => h.elim) rfl fun w410 v410 ho410 hv410 hB410 => ?_
    replace hS := hS.newOwnS hB410 ho410 hv410 (fun _ h => h.elim)
    replace hS := hS.pickB [1, 0, 2, 3, 4, 5, 6, 7, 8, 9, 10, 11, 12] 13 rfl rfl; simp only [List.map_cons, List.map_nil, List.getD_cons_zero, List.getD_cons_succ] at hS
    replace hS := hS.famOne
    obtain ⟨x414, hx414, ho229⟩ := Option.of_bind ho229
    obtain ⟨hcr413, hce413⟩ := catL_raw (hS.famLen 11 rfl) (hS.famLen 0 rfl) (snoc_cat hx414)
    refine q_catOwn (T := Ty.raw) rfl rfl rfl rfl (hS.own 10 rfl) rfl (hS.own 1 rfl) (fun _ h _ => h.elim) hcr413 (Nat.zero_le _) rfl (fun h => by cases h) fun v413 w413 hw413 hgr413 hnw413 => ?_
    have hk413 := hS.keptOwn 10 rfl hgr413
    replace hS := hS.setOwn 10 rfl hw413 hgr413 hnw413; simp only [List.set] at hS
    replace hS := hS.pickB [11, 0, 1, 2, 3, 4, 5, 6, 7, 8, 9, 10, 12] 13 rfl rfl; simp only [List.map_cons, List.map_nil, List.getD_cons_zero, List.getD_cons_succ] at hS
    replace hS := hS.famCat; rw [hce413] at hS
    refine q_nilCheck rfl rfl ?_
    refine q_field rfl rfl ?_
    refine q_field rfl rfl ?_
    refine q_store rfl rfl (hS.blk 6 rfl) (Nat.le_of_ble_eq_true rfl) (hS.own 10 rfl).one rfl rfl fun w415 hb415 hO415 => ?_
    have hk415 := hS.keptBlk 6 rfl hO415
    replace hS := hS.setBlk 6 rfl hb415 hO415; simp only [List.set] at hS
    refine eseq_nil ?_
    refine hK389 _ _ ?_
    refine e_region_text rfl ?_
    refine q_addW rfl rfl rfl ?_
    refine q_move rfl rfl ?_
    refine eseq_nil ?_
    obtain rfl := Option.some.inj ho229
    exact ⟨m229, _, Nat.lt_succ_self _, ⟨x397, x406, x414, (w64 (x309 + 1)), v396, (v294 ++ ([v391])), v405, (v299 ++ ([v400])), v413, (v304 ++ ([v408])), _, ht229, (hS.pickB [6, 7, 8, 4, 9, 2, 10, 0, 11] 12 rfl rfl), rfl⟩, Sub.cons rfl (Sub.cons rfl (Sub.cons rfl (Sub.nil _)))⟩
  · replace ho229 := (if_neg (not_true hc388)).symm.trans ho229
    refine e_exit ?_
    obtain rfl := Option.some.inj ho229
    obtain rfl := Option.some.inj ht229
    exact hX229_0 x295 x300 x305 v293 v294 v298 v299 v303 v304 _ _ _ h hS  (Sub.cons rfl (Sub.nil _))
theorem indexed_computation_process_w {F R : Nat → Prop} {w : World} {fuel : Nat} {a1 : Int} {c0_0 : (List Int)} {c0_1 : (List (List Int))} {c0_2 : (List Arc)} {c0_3 : (List (List Int))} {c0_4 : (List (List (List Int)))} {c0_5 : (List (List Bool))} {c0_6 : (List Int)} {c0_7 : (List IndexedLetter)} {B0 : Nat} {v2 : Value} {v3 : Value} {v4 : Value} {v5 : Value} {v6 : Value} {v7 : Value} {v8 : Value} {v9 : Value} {r : (Bool)} (hS : Sep F R R w w []) (f1 : Lent w R B0 [v2, v3, v4, v5, v6, v7, v8, v9] 112) (f2 : IsSlice Ty.int w R v2 c0_0) (f3 : IsSlice (Ty.slice Ty.int) w R v3 c0_1) (f4 : IsSlice arcTy w R v4 c0_2) (f5 : IsSlice (Ty.slice Ty.int) w R v5 c0_3) (f6 : IsSlice (Ty.slice (Ty.slice Ty.int)) w R v6 c0_4) (f7 : IsSlice (Ty.slice Ty.bool) w R v7 c0_5) (f8 : IsSlice Ty.int w R v8 c0_6) (f9 : IsSlice indexedLetterTy w R v9 c0_7) (h : indexed_computation_process fuel a1 c0_0 c0_1 c0_2 c0_3 c0_4 c0_5 c0_6 c0_7 = some r) :
    Gives Try.prog 56 [.pointer (some ⟨B0, 0, none⟩), .int .i64 a1] w fun u w1 => ∃ (R1 : Nat → Prop), u = .bool r ∧ Sep F R R1 w w1 [] := by
  refine fn_of Try.func56 rfl Try.ntmps56 (Nat.le_of_ble_eq_true rfl) ?_
  unfold indexed_computation_process at h
  refine e_seq fun K16 hK16 => ?_
  refine e_region_text rfl ?_
  refine q_assign rfl rfl ?_
  refine eseq_nil ?_
  refine hK16 _ _ ?_
  refine e_seq fun K17 hK17 => ?_
  refine e_region_text rfl ?_
  refine q_move rfl rfl ?_
  refine q_geq rfl rfl rfl ?_
  refine q_move rfl rfl ?_
  obtain ⟨x21, hx20, h⟩ := Option.of_bind h
  refine g_andM 7 hx20 rfl trivial rfl rfl ?_ ?_ ?_
  · intro hg20 hx20
    clear h
    have hT20 := Below.refl (World.heap w).size w
    refine g_run rfl ?_; refine q_move rfl rfl ?_
    refine g_run rfl ?_; refine q_move rfl rfl ?_
    refine g_run rfl ?_; refine q_nilCheck rfl rfl ?_
    refine g_run rfl ?_; refine q_field rfl rfl ?_
    refine g_run rfl ?_; refine q_load rfl (Blk.cell f1.blk rfl) rfl ?_
    refine g_run rfl ?_; refine q_lenS rfl f8 rfl ?_
    refine g_run rfl ?_; refine q_lss rfl rfl rfl ?_
    cases hx20
    exact eseq_nil ⟨hT20, Sub.set rfl (Sub.set rfl (Sub.set rfl (Sub.set rfl (Sub.set rfl (Sub.set rfl (Sub.set rfl (Sub.bool true rfl hg20))))))), rfl⟩
  · intro hg20
    refine g_skip rfl rfl rfl ?_
    refine g_skip rfl rfl rfl ?_
    refine g_skip rfl rfl rfl ?_
    refine g_skip rfl rfl rfl ?_
    refine g_skip rfl rfl rfl ?_
    refine g_skip rfl rfl rfl ?_
    refine g_skip rfl rfl rfl ?_
    exact eseq_nil ⟨rfl, Sub.set rfl (Sub.set rfl (Sub.set rfl (Sub.set rfl (Sub.set rfl (Sub.set rfl (Sub.set rfl (Sub.bool false rfl hg20)))))))⟩
  intro wm20 hBm20; clear hx20
  replace hS := hS.below hBm20
  refine q_assign rfl rfl ?_
  refine eseq_nil ?_
  refine hK17 _ _ ?_
  refine e_ret ?_
  obtain rfl := Option.some.inj h
  exact ⟨_, res1 rfl rfl, _, rfl, hS⟩
theorem indexed_computation_full_w {F R : Nat → Prop} {w : World} {fuel : Nat} {a1 : Int} {c0_0 : (List Int)} {c0_1 : (List (List Int))} {c0_2 : (List Arc)} {c0_3 : (List (List Int))} {c0_4 : (List (List (List Int)))} {c0_5 : (List (List Bool))} {c0_6 : (List Int)} {c0_7 : (List IndexedLetter)} {B0 : Nat} {v2 : Value} {v3 : Value} {v4 : Value} {v5 : Value} {v6 : Value} {v7 : Value} {v8 : Value} {v9 : Value} {r : (Bool)} (hS : Sep F R R w w []) (f1 : Lent w R B0 [v2, v3, v4, v5, v6, v7, v8, v9] 112) (f2 : IsSlice Ty.int w R v2 c0_0) (f3 : IsSlice (Ty.slice Ty.int) w R v3 c0_1) (f4 : IsSlice arcTy w R v4 c0_2) (f5 : IsSlice (Ty.slice Ty.int) w R v5 c0_3) (f6 : IsSlice (Ty.slice (Ty.slice Ty.int)) w R v6 c0_4) (f7 : IsSlice (Ty.slice Ty.bool) w R v7 c0_5) (f8 : IsSlice Ty.int w R v8 c0_6) (f9 : IsSlice indexedLetterTy w R v9 c0_7) (h : indexed_computation_full fuel a1 c0_0 c0_1 c0_2 c0_3 c0_4 c0_5 c0_6 c0_7 = some r) :
    Gives Try.prog 100 [.pointer (some ⟨B0, 0, none⟩), .int .i64 a1] w fun u w1 => ∃ (R1 : Nat → Prop), u = .bool r ∧ Sep F R R1 w w1 [] := by
  refine fn_of Try.func100 rfl Try.ntmps100 (Nat.le_of_ble_eq_true rfl) ?_
  unfold indexed_computation_full at h
  refine e_seq fun K14 hK14 => ?_
  refine e_region_text rfl ?_
  refine q_assign rfl rfl ?_
  refine eseq_nil ?_
  refine hK14 _ _ ?_
  refine e_seq fun K15 hK15 => ?_
  refine e_region_text rfl ?_
  refine q_move rfl rfl ?_
  refine q_nilCheck rfl rfl ?_
  refine q_field rfl rfl ?_
  refine q_field rfl rfl ?_
  refine q_field rfl rfl ?_
  refine q_load rfl (Blk.cell f1.blk rfl) rfl ?_
  refine q_move rfl rfl ?_
  obtain ⟨x16, hx16, h⟩ := Option.of_bind h
  refine q_atS (by infer_instance) rfl f2 rfl hx16 rfl fun b17 o17 hm17 f17 => ?_
  refine q_load rfl (Elt.intCell f17) rfl ?_
  refine q_geq rfl rfl rfl ?_
  refine q_assign rfl rfl ?_
  refine eseq_nil ?_
  refine hK15 _ _ ?_
  refine e_ret ?_
  obtain rfl := Option.some.inj h
  exact ⟨_, res1 rfl rfl, _, rfl, hS⟩
theorem indexed_computation_event_w {F R : Nat → Prop} {w : World} {fuel : Nat} {a1 : Int} {c0_0 : (List Int)} {c0_1 : (List (List Int))} {c0_2 : (List Arc)} {c0_3 : (List (List Int))} {c0_4 : (List (List (List Int)))} {c0_5 : (List (List Bool))} {c0_6 : (List Int)} {c0_7 : (List IndexedLetter)} {B0 : Nat} {v2 : Value} {v3 : Value} {v4 : List Value} {v5 : Value} {v6 : Value} {v7 : List Value} {v8 : Value} {v9 : Value} {v10 : List Value} {v11 : Value} {v12 : Value} {r : (Int × (List Int))} (hS : Sep F R R w w [HP.blk B0 [v2, v3, v5, v6, v8, v9, v11, v12] 112, HP.own Ty.int (fun _ => False) 3 v2 c0_0, HP.own Ty.raw (fun _ => False) 27 v3 v4, HP.famS Ty.int (fun _ => False) 3 v4 c0_1, HP.own arcTy (fun _ => False) 107 v5 c0_2, HP.own Ty.raw (fun _ => False) 27 v6 v7, HP.famS Ty.int (fun _ => False) 3 v7 c0_3, HP.own Ty.raw (fun _ => False) 99 v9 v10, HP.famS Ty.bool (fun _ => False) 4 v10 c0_5, HP.own Ty.int (fun _ => False) 3 v11 c0_6, HP.own indexedLetterTy (fun _ => False) 160 v12 c0_7]) (f8 : IsSlice (Ty.slice (Ty.slice Ty.int)) w R v8 c0_4) (h : indexed_computation_event fuel a1 c0_0 c0_1 c0_2 c0_3 c0_4 c0_5 c0_6 c0_7 = some r) :
    Gives Try.prog 101 [.pointer (some ⟨B0, 0, none⟩), .int .i64 a1] w fun u w1 => ∃ (R1 : Nat → Prop), u = .int .i64 r.1 ∧ Sep F R R1 w w1 [HP.blk B0 [v2, v3, v5, v6, v8, v9, v11, v12] 112, HP.own Ty.int (fun _ => False) 3 v2 r.2, HP.own Ty.raw (fun _ => False) 27 v3 v4, HP.famS Ty.int (fun _ => False) 3 v4 c0_1, HP.own arcTy (fun _ => False) 107 v5 c0_2, HP.own Ty.raw (fun _ => False) 27 v6 v7, HP.famS Ty.int (fun _ => False) 3 v7 c0_3, HP.own Ty.raw (fun _ => False) 99 v9 v10, HP.famS Ty.bool (fun _ => False) 4 v10 c0_5, HP.own Ty.int (fun _ => False) 3 v11 c0_6, HP.own indexedLetterTy (fun _ => False) 160 v12 c0_7] := by
  refine fn_of Try.func101 rfl Try.ntmps101 (Nat.le_of_ble_eq_true rfl) ?_
  unfold indexed_computation_event at h
  refine e_seq fun K24 hK24 => ?_
  refine e_region_text rfl ?_
  refine q_assign rfl rfl ?_
  refine eseq_nil ?_
  refine hK24 _ _ ?_
  refine e_seq fun K25 hK25 => ?_
  refine e_region_text rfl ?_
  refine q_move rfl rfl ?_
  refine q_nilCheck rfl rfl ?_
  refine q_field rfl rfl ?_
  refine q_field rfl rfl ?_
  refine q_field rfl rfl ?_
  refine q_load rfl (Blk.cell (hS.blk 0 rfl) rfl) rfl ?_
  refine q_move rfl rfl ?_
  obtain ⟨x26, hx26, h⟩ := Option.of_bind h
  refine q_indexO (by infer_instance) rfl (hS.own 1 rfl) rfl hx26 rfl ?_
  have f27 := (hS.ownR 1 rfl).elt hx26
  refine q_load rfl (Elt.intCell f27) rfl ?_
  refine q_addW rfl rfl rfl ?_
  obtain ⟨x28, hx28, h⟩ := Option.of_bind h
  refine q_indexO (by infer_instance) rfl (hS.own 1 rfl) rfl hx28 rfl ?_
  obtain ⟨x30, hx30, h⟩ := Option.of_bind h
  refine q_storeO (T := Ty.int) (j := 0) rfl rfl (hS.own 1 rfl) hx28 hx30 rfl rfl rfl (Enc.setL rfl) fun w29 ho29 hO29 => ?_
  have hk29 := hS.keptO 1 rfl hx28 hO29
  replace f8 := f8.kept hk29
  replace hS := hS.putO 1 rfl hx28 ho29 hO29; simp only [List.set] at hS
  refine eseq_nil ?_
  refine hK25 _ _ ?_
  refine e_seq fun K31 hK31 => ?_
  refine e_region_text rfl ?_
  refine q_move rfl rfl ?_
  refine q_nilCheck rfl rfl ?_
  refine q_field rfl rfl ?_
  refine q_field rfl rfl ?_
  refine q_field rfl rfl ?_
  refine q_load rfl (Blk.cell (hS.blk 0 rfl) rfl) rfl ?_
  refine q_move rfl rfl ?_
  obtain ⟨x32, hx32, h⟩ := Option.of_bind h
  refine q_indexO (by infer_instance) rfl (hS.own 1 rfl) rfl hx32 rfl ?_
  have f33 := (hS.ownR 1 rfl).elt hx32
  refine q_load rfl (Elt.intCell f33) rfl ?_
  refine q_assign rfl rfl ?_
  refine eseq_nil ?_
  refine hK31 _ _ ?_
  refine e_ret ?_
  obtain rfl := Option.some.inj h
  exact ⟨_, res1 rfl rfl, _, rfl, hS⟩
theorem indexed_computation_checkpoint_w {F R : Nat → Prop} {w : World} {fuel : Nat} {a1 : Int} {a2 : Bool} {c0_0 : (List Int)} {c0_1 : (List (List Int))} {c0_2 : (List Arc)} {c0_3 : (List (List Int))} {c0_4 : (List (List (List Int)))} {c0_5 : (List (List Bool))} {c0_6 : (List Int)} {c0_7 : (List IndexedLetter)} {B0 : Nat} {v2 : Value} {v3 : Value} {v4 : List Value} {v5 : Value} {v6 : Value} {v7 : List Value} {v8 : Value} {v9 : Value} {v10 : List Value} {v11 : Value} {v12 : Value} {r : ((List (List Int)) × (List (List Int)) × (List (List Bool)))} (hS : Sep F R R w w [HP.blk B0 [v2, v3, v5, v6, v8, v9, v11, v12] 112, HP.own Ty.int (fun _ => False) 3 v2 c0_0, HP.own Ty.raw (fun _ => False) 27 v3 v4, HP.famS Ty.int (fun _ => False) 3 v4 c0_1, HP.own arcTy (fun _ => False) 107 v5 c0_2, HP.own Ty.raw (fun _ => False) 27 v6 v7, HP.famS Ty.int (fun _ => False) 3 v7 c0_3, HP.own Ty.raw (fun _ => False) 99 v9 v10, HP.famS Ty.bool (fun _ => False) 4 v10 c0_5, HP.own Ty.int (fun _ => False) 3 v11 c0_6, HP.own indexedLetterTy (fun _ => False) 160 v12 c0_7]) (f8 : IsSlice (Ty.slice (Ty.slice Ty.int)) w R v8 c0_4) (h : indexed_computation_checkpoint fuel a1 a2 c0_0 c0_1 c0_2 c0_3 c0_4 c0_5 c0_6 c0_7 = some r) :
    Gives Try.prog 57 [.pointer (some ⟨B0, 0, none⟩), .int .i64 a1, .bool a2] w fun u w1 => ∃ (v91 : Value), ∃ (v92 : List Value), ∃ (v93 : Value), ∃ (v94 : List Value), ∃ (v95 : Value), ∃ (v96 : List Value), ∃ (R1 : Nat → Prop), u = .tuple #[] ∧ Sep F R R1 w w1 [HP.blk B0 [v2, v91, v5, v93, v8, v95, v11, v12] 112, HP.own Ty.int (fun _ => False) 3 v2 c0_0, HP.own Ty.raw (fun _ => False) 27 v91 v92, HP.famS Ty.int (fun _ => False) 3 v92 r.1, HP.own arcTy (fun _ => False) 107 v5 c0_2, HP.own Ty.raw (fun _ => False) 27 v93 v94, HP.famS Ty.int (fun _ => False) 3 v94 r.2.1, HP.own Ty.raw (fun _ => False) 99 v95 v96, HP.famS Ty.bool (fun _ => False) 4 v96 r.2.2, HP.own Ty.int (fun _ => False) 3 v11 c0_6, HP.own indexedLetterTy (fun _ => False) 160 v12 c0_7] := by
  refine fn_of Try.func57 rfl Try.ntmps57 (Nat.le_of_ble_eq_true rfl) ?_
  unfold indexed_computation_checkpoint at h
  refine e_seq fun K97 hK97 => ?_
  refine e_region_text rfl ?_
  refine q_move rfl rfl ?_
  refine q_nilCheck rfl rfl ?_
  refine q_field rfl rfl ?_
  refine q_field rfl rfl ?_
  refine q_assign rfl rfl ?_
  refine eseq_nil ?_
  refine hK97 _ _ ?_
  refine e_seq fun K98 hK98 => ?_
  refine e_region_text rfl ?_
  refine q_move rfl rfl ?_
  refine q_nilCheck rfl rfl ?_
  refine q_field rfl rfl ?_
  refine q_load rfl (Blk.cell (hS.blk 0 rfl) rfl) rfl ?_
  refine q_move rfl rfl ?_
  obtain ⟨x99, hx99, h⟩ := Option.of_bind h
  have hax99 := ati_nth (hS.famLen 3 rfl) hx99
  refine q_indexO (T := Ty.raw) (by infer_instance) rfl (hS.own 2 rfl) rfl hax99 rfl ?_
  refine q_load rfl (Elt.rawCell ((hS.own 2 rfl).elt hax99)) rfl ?_
  refine q_lenS rfl (hS.famI 3 rfl hx99) rfl ?_
  refine q_subW rfl rfl rfl ?_
  refine q_assign rfl rfl ?_
  refine eseq_nil ?_
  refine hK98 _ _ ?_
  refine e_seq fun K100 hK100 => ?_
  refine e_seq fun K101 hK101 => ?_
  refine e_region_draw mixed (fun _ => False) [0, 1, 3, 7, 0, 31, 63, 0, 255, 511, 0, 1024, 3072, 7168, 0, 31744, 64512, 131071] [] [0, 1, 2, 3, 4, 5, 6, 7, 8, 9, 10, 11, 12, 13, 14, 15, 16, 17] (by kernel_rfl) ?_
  refine q_move rfl rfl ?_
  refine q_nilCheck rfl rfl ?_
  refine q_field rfl rfl ?_
  refine q_load rfl (Blk.cell (hS.blk 0 rfl) rfl) rfl ?_
  refine q_move rfl rfl ?_
  obtain ⟨x102, hx102, h⟩ := Option.of_bind h
  have hax102 := ati_nth (hS.famLen 3 rfl) hx102
  refine q_indexO (T := Ty.raw) (by infer_instance) rfl (hS.own 2 rfl) rfl hax102 rfl ?_
  refine q_load rfl (Elt.rawCell ((hS.own 2 rfl).elt hax102)) rfl ?_
  refine q_move rfl rfl ?_
  obtain ⟨x103, hx103, h⟩ := Option.of_bind h
  refine q_indexO (by infer_instance) rfl (hS.famO 3 rfl hx102) rfl hx103 rfl ?_
  have f104 := (hS.famOR 3 rfl hx102).elt hx103
  refine q_load rfl (Elt.intCell f104) rfl ?_
  refine q_move rfl rfl ?_
  refine q_nilCheck rfl rfl ?_
  refine q_field rfl rfl ?_
  refine q_load rfl (Blk.cell (hS.blk 0 rfl) rfl) rfl ?_
  refine q_move rfl rfl ?_
  obtain ⟨x105, hx105, h⟩ := Option.of_bind h
  refine q_indexO (by infer_instance) rfl (hS.own 1 rfl) rfl hx105 rfl ?_
  have f106 := (hS.ownR 1 rfl).elt hx105
  refine q_load rfl (Elt.intCell f106) rfl ?_
  refine q_eql rfl rfl rfl ?_
  refine eseq_nil ?_
  refine hK101 _ _ ?_
  refine e_cond rfl (fun hc107 => ?_) (fun hc107 => ?_)
  · replace h := (if_pos hc107).symm.trans h
    refine e_seq fun K108 hK108 => ?_
    refine e_region_draw mixed (fun _ => False) [0, 1, 3, 7, 15, 0, 63, 127, 0, 0, 512, 1536, 3584, 0, 15872, 32256, 65535, 131071] [] [0, 1, 2, 3, 4, 5, 6, 7, 8, 9, 10, 11, 12, 13, 14, 15, 16, 17] (by kernel_rfl) ?_
    refine q_move rfl rfl ?_
    refine q_nilCheck rfl rfl ?_
    refine q_field rfl rfl ?_
    refine q_field rfl rfl ?_
    refine q_load rfl (Blk.cell (hS.blk 0 rfl) rfl) rfl ?_
    refine q_move rfl rfl ?_
    obtain ⟨x109, hx109, h⟩ := Option.of_bind h
    have hax109 := ati_nth (hS.famLen 6 rfl) hx109
    refine q_indexO (T := Ty.raw) (by infer_instance) rfl (hS.own 5 rfl) rfl hax109 rfl ?_
    refine q_load rfl (Elt.rawCell ((hS.own 5 rfl).elt hax109)) rfl ?_
    refine q_move rfl rfl ?_
    refine q_move rfl rfl ?_
    refine q_nilCheck rfl rfl ?_
    refine q_field rfl rfl ?_
    refine q_load rfl (Blk.cell (hS.blk 0 rfl) rfl) rfl ?_
    refine q_move rfl rfl ?_
    obtain ⟨x110, hx110, h⟩ := Option.of_bind h
    refine q_indexO (by infer_instance) rfl (hS.own 9 rfl) rfl hx110 rfl ?_
    have f111 := (hS.ownR 9 rfl).elt hx110
    refine q_load rfl (Elt.intCell f111) rfl ?_
    obtain ⟨x112, hx112, h⟩ := Option.of_bind h
    refine q_indexO (by infer_instance) rfl (hS.famO 6 rfl hx109) rfl hx112 rfl ?_
    obtain ⟨x114, hx114, h⟩ := Option.of_bind h
    obtain ⟨x115, hx115, h⟩ := Option.of_bind h
    refine q_storeO (T := Ty.int) (j := 0) rfl rfl (hS.famO 6 rfl hx109) hx112 hx114 rfl rfl rfl (Enc.setL rfl) fun w113 ho113 hO113 => ?_
    have hk113 := hS.famKeptC 6 rfl hx109 hx112 hO113
    replace f8 := f8.kept hk113
    replace hS := hS.famCellM 6 rfl hx109 hx112 hx115 ho113 hO113; simp only [List.set] at hS
    have hr113 := ati_seti_same hx115
    refine eseq_nil ?_
    refine hK108 _ _ ?_
    refine e_ret ?_
    obtain rfl := Option.some.inj h
    exact ⟨_, res0 rfl, v3, v4, v6, v7, v9, v10, _, rfl, hS⟩
  · replace h := (if_neg (not_true hc107)).symm.trans h
    refine e_skip ?_
    refine hK100 _ _ ?_
    refine e_seq fun K116 hK116 => ?_
    refine e_region_draw mixed (fun k => (nth v4 (a1).toNat).ownBlock = some k) [0, 1, 3, 7, 0, 0, 32, 96, 224, 0, 992, 2016, 0, 4096, 12288, 28672, 0, 126976, 258048, 520192, 1048544, 2097151, 4194303] [19, 20] [0, 1, 2, 3, 4, 5, 6, 7, 8, 9, 10, 11, 12, 13, 14, 15, 16, 17, 18, 19, 20, 21, 22] (by kernel_rfl) ?_
    refine q_move rfl rfl ?_
    refine q_nilCheck rfl rfl ?_
    refine q_field rfl rfl ?_
    refine q_load rfl (Blk.cell (hS.blk 0 rfl) rfl) rfl ?_ (hX := fun hx_ => hS.apart 0 3 rfl rfl (by decide) _ rfl (hS.famRowFoot 3 rfl _ _ hx_))
    refine q_move rfl rfl ?_
    refine q_move rfl rfl ?_
    refine q_nilCheck rfl rfl ?_
    refine q_field rfl rfl ?_
    refine q_load rfl (Blk.cell (hS.blk 0 rfl) rfl) rfl ?_ (hX := fun hx_ => hS.apart 0 3 rfl rfl (by decide) _ rfl (hS.famRowFoot 3 rfl _ _ hx_))
    refine q_move rfl rfl ?_
    obtain ⟨x127, hx127, h⟩ := Option.of_bind h
    have hax127 := ati_nth (hS.famLen 3 rfl) hx127
    refine q_indexO (T := Ty.raw) (by infer_instance) rfl (hS.own 2 rfl) rfl hax127 rfl ?_
    refine q_load rfl (Elt.rawCell ((hS.own 2 rfl).elt hax127)) rfl ?_ (hX := fun hx_ => hS.apart 2 3 rfl rfl (by decide) _ ((hS.own 2 rfl).vblk hax127) (hS.famRowFoot 3 rfl _ _ hx_))
    refine q_move rfl rfl ?_
    refine q_nilCheck rfl rfl ?_
    refine q_field rfl rfl ?_
    refine q_load rfl (Blk.cell (hS.blk 0 rfl) rfl) rfl ?_ (hX := fun hx_ => hS.apart 0 3 rfl rfl (by decide) _ rfl (hS.famRowFoot 3 rfl _ _ hx_))
    refine q_move rfl rfl ?_
    obtain ⟨x128, hx128, h⟩ := Option.of_bind h
    refine q_indexO (by infer_instance) rfl (hS.own 1 rfl) rfl hx128 rfl ?_
    have f129 := (hS.ownR 1 rfl).elt hx128
    refine q_load rfl (Elt.intCell f129) rfl ?_ (hX := fun hx_ => hS.apart 1 3 rfl rfl (by decide) _ ((hS.own 1 rfl).vblk hx128) (hS.famRowFoot 3 rfl _ _ hx_))
    refine q_litO (T := Ty.int) (S := (fun _ => False)) (cells := [[.int .i64 x128]]) (ys := [x128]) ((Parts.cons rfl rfl Parts.nil)) rfl rfl rfl rfl rfl rfl rfl (fun w1 hB => ⟨rfl, trivial⟩) (fun _ h => h.elim) rfl fun w130 v130 ho130 hv130 hB130 => ?_
    replace f8 := f8.ext hB130
    replace hS := hS.newOwnS hB130 ho130 hv130 (fun _ h => h.elim)
    obtain ⟨x133, hx133, h⟩ := Option.of_bind h
    obtain ⟨x134, hx134, h⟩ := Option.of_bind h
    refine q_catOwn (T := Ty.int) rfl rfl rfl rfl (hS.famO 4 rfl hx127) rfl (hS.own 0 rfl) (fun _ h _ => h.elim) (snoc_cat hx133) (Nat.zero_le _) rfl (fun _ k hk => hk) fun v132 w132 hw132 hgr132 hnw132 => ?_
    have hk132 := hS.famKeptM 4 rfl hx127 hgr132
    replace f8 := f8.kept hk132
    replace hS := hS.famSetM 4 rfl hx127 hx134 hw132 hgr132 hnw132; simp only [List.set] at hS
    obtain ⟨x135, hx135, h⟩ := Option.of_bind h
    have hax135 := ati_nth (show v4.length = _ by simpa using hS.famLen 4 rfl) hx135
    refine q_indexO (T := Ty.raw) (by infer_instance) rfl (hS.own 3 rfl) rfl hax135 rfl ?_
    refine q_storeO (T := Ty.raw) (j := 0) rfl rfl (hS.own 3 rfl) hax135 (seti_ok hax135) rfl hw132.one rfl (rawSet hw132.one) fun w136 ho136 hO136 => ?_
    have hk136 := hS.keptO 3 rfl hax135 hO136
    replace f8 := f8.kept hk136
    replace hS := hS.putO 3 rfl hax135 ho136 hO136; simp only [List.set] at hS
    refine eseq_nil ?_
    refine hK116 _ _ ?_
    refine e_seq fun K137 hK137 => ?_
    refine e_region_draw mixed (fun k => (nth v7 (a1).toNat).ownBlock = some k) [0, 1, 3, 7, 15, 0, 0, 64, 192, 448, 960, 0, 4032, 8128, 0, 16384, 49152, 114688, 0, 507904, 1032192, 2080768, 4194240, 8388607, 16777215] [21, 22] [0, 1, 2, 3, 4, 5, 6, 7, 8, 9, 10, 11, 12, 13, 14, 15, 16, 17, 18, 19, 20, 21, 22, 23, 24] (by kernel_rfl) ?_
    refine q_move rfl rfl ?_
    refine q_nilCheck rfl rfl ?_
    refine q_field rfl rfl ?_
    refine q_field rfl rfl ?_
    refine q_load rfl (Blk.cell (hS.blk 1 rfl) rfl) rfl ?_ (hX := fun hx_ => hS.apart 1 7 rfl rfl (by decide) _ rfl (hS.famRowFoot 7 rfl _ _ hx_))
    refine q_move rfl rfl ?_
    refine q_move rfl rfl ?_
    refine q_nilCheck rfl rfl ?_
    refine q_field rfl rfl ?_
    refine q_field rfl rfl ?_
    refine q_load rfl (Blk.cell (hS.blk 1 rfl) rfl) rfl ?_ (hX := fun hx_ => hS.apart 1 7 rfl rfl (by decide) _ rfl (hS.famRowFoot 7 rfl _ _ hx_))
    refine q_move rfl rfl ?_
    obtain ⟨x148, hx148, h⟩ := Option.of_bind h
    have hax148 := ati_nth (hS.famLen 7 rfl) hx148
    refine q_indexO (T := Ty.raw) (by infer_instance) rfl (hS.own 6 rfl) rfl hax148 rfl ?_
    refine q_load rfl (Elt.rawCell ((hS.own 6 rfl).elt hax148)) rfl ?_ (hX := fun hx_ => hS.apart 6 7 rfl rfl (by decide) _ ((hS.own 6 rfl).vblk hax148) (hS.famRowFoot 7 rfl _ _ hx_))
    refine q_move rfl rfl ?_
    refine q_nilCheck rfl rfl ?_
    refine q_field rfl rfl ?_
    refine q_load rfl (Blk.cell (hS.blk 1 rfl) rfl) rfl ?_ (hX := fun hx_ => hS.apart 1 7 rfl rfl (by decide) _ rfl (hS.famRowFoot 7 rfl _ _ hx_))
    refine q_move rfl rfl ?_
    obtain ⟨x149, hx149, h⟩ := Option.of_bind h
    refine q_indexO (by infer_instance) rfl (hS.own 10 rfl) rfl hx149 rfl ?_
    have f150 := (hS.ownR 10 rfl).elt hx149
    refine q_load rfl (Elt.intCell f150) rfl ?_ (hX := fun hx_ => hS.apart 10 7 rfl rfl (by decide) _ ((hS.own 10 rfl).vblk hx149) (hS.famRowFoot 7 rfl _ _ hx_))
    refine q_litO (T := Ty.int) (S := (fun _ => False)) (cells := [[.int .i64 x149]]) (ys := [x149]) ((Parts.cons rfl rfl Parts.nil)) rfl rfl rfl rfl rfl rfl rfl (fun w1 hB => ⟨rfl, trivial⟩) (fun _ h => h.elim) rfl fun w151 v151 ho151 hv151 hB151 => ?_
    replace f8 := f8.ext hB151
    replace hS := hS.newOwnS hB151 ho151 hv151 (fun _ h => h.elim)
    obtain ⟨x154, hx154, h⟩ := Option.of_bind h
    obtain ⟨x155, hx155, h⟩ := Option.of_bind h
    refine q_catOwn (T := Ty.int) rfl rfl rfl rfl (hS.famO 8 rfl hx148) rfl (hS.own 0 rfl) (fun _ h _ => h.elim) (snoc_cat hx154) (Nat.zero_le _) rfl (fun _ k hk => hk) fun v153 w153 hw153 hgr153 hnw153 => ?_
    have hk153 := hS.famKeptM 8 rfl hx148 hgr153
    replace f8 := f8.kept hk153
    replace hS := hS.famSetM 8 rfl hx148 hx155 hw153 hgr153 hnw153; simp only [List.set] at hS
    obtain ⟨x156, hx156, h⟩ := Option.of_bind h
    have hax156 := ati_nth (show v7.length = _ by simpa using hS.famLen 8 rfl) hx156
    refine q_indexO (T := Ty.raw) (by infer_instance) rfl (hS.own 7 rfl) rfl hax156 rfl ?_
    refine q_storeO (T := Ty.raw) (j := 0) rfl rfl (hS.own 7 rfl) hax156 (seti_ok hax156) rfl hw153.one rfl (rawSet hw153.one) fun w157 ho157 hO157 => ?_
    have hk157 := hS.keptO 7 rfl hax156 hO157
    replace f8 := f8.kept hk157
    replace hS := hS.putO 7 rfl hax156 ho157 hO157; simp only [List.set] at hS
    refine eseq_nil ?_
    refine hK137 _ _ ?_
    refine e_region_draw mixed (fun k => (nth v10 (a1).toNat).ownBlock = some k) [0, 1, 3, 7, 15, 0, 0, 64, 192, 448, 960, 0, 4032, 8128, 0, 16384, 65472, 131071, 262143] [15, 16] [0, 1, 2, 3, 4, 5, 6, 7, 8, 9, 10, 11, 12, 13, 14, 15, 16, 17, 18] (by kernel_rfl) ?_
    refine q_move rfl rfl ?_
    refine q_nilCheck rfl rfl ?_
    refine q_field rfl rfl ?_
    refine q_field rfl rfl ?_
    refine q_load rfl (Blk.cell (hS.blk 2 rfl) rfl) rfl ?_ (hX := fun hx_ => hS.apart 2 10 rfl rfl (by decide) _ rfl (hS.famRowFoot 10 rfl _ _ hx_))
    refine q_move rfl rfl ?_
    refine q_move rfl rfl ?_
    refine q_nilCheck rfl rfl ?_
    refine q_field rfl rfl ?_
    refine q_field rfl rfl ?_
    refine q_load rfl (Blk.cell (hS.blk 2 rfl) rfl) rfl ?_ (hX := fun hx_ => hS.apart 2 10 rfl rfl (by decide) _ rfl (hS.famRowFoot 10 rfl _ _ hx_))
    refine q_move rfl rfl ?_
    obtain ⟨x166, hx166, h⟩ := Option.of_bind h
    have hax166 := ati_nth (hS.famLen 10 rfl) hx166
    refine q_indexO (T := Ty.raw) (by infer_instance) rfl (hS.own 9 rfl) rfl hax166 rfl ?_
    refine q_load rfl (Elt.rawCell ((hS.own 9 rfl).elt hax166)) rfl ?_ (hX := fun hx_ => hS.apart 9 10 rfl rfl (by decide) _ ((hS.own 9 rfl).vblk hax166) (hS.famRowFoot 10 rfl _ _ hx_))
    refine q_move rfl rfl ?_
    refine q_litO (T := Ty.bool) (S := (fun _ => False)) (cells := [[.bool a2]]) (ys := [a2]) ((Parts.cons rfl rfl Parts.nil)) rfl rfl rfl rfl rfl rfl rfl (fun w1 hB => ⟨rfl, trivial⟩) (fun _ h => h.elim) rfl fun w167 v167 ho167 hv167 hB167 => ?_
    replace f8 := f8.ext hB167
    replace hS := hS.newOwnS hB167 ho167 hv167 (fun _ h => h.elim)
    obtain ⟨x170, hx170, h⟩ := Option.of_bind h
    obtain ⟨x171, hx171, h⟩ := Option.of_bind h
    refine q_catOwn (T := Ty.bool) rfl rfl rfl rfl (hS.famO 11 rfl hx166) rfl (hS.own 0 rfl) (fun _ h _ => h.elim) (snoc_cat hx170) (Nat.zero_le _) rfl (fun _ k hk => hk) fun v169 w169 hw169 hgr169 hnw169 => ?_
    have hk169 := hS.famKeptM 11 rfl hx166 hgr169
    replace f8 := f8.kept hk169
    replace hS := hS.famSetM 11 rfl hx166 hx171 hw169 hgr169 hnw169; simp only [List.set] at hS
    obtain ⟨x172, hx172, h⟩ := Option.of_bind h
    have hax172 := ati_nth (show v10.length = _ by simpa using hS.famLen 11 rfl) hx172
    refine q_indexO (T := Ty.raw) (by infer_instance) rfl (hS.own 10 rfl) rfl hax172 rfl ?_
    refine q_storeO (T := Ty.raw) (j := 0) rfl rfl (hS.own 10 rfl) hax172 (seti_ok hax172) rfl hw169.one rfl (rawSet hw169.one) fun w173 ho173 hO173 => ?_
    have hk173 := hS.keptO 10 rfl hax172 hO173
    replace f8 := f8.kept hk173
    replace hS := hS.putO 10 rfl hax172 ho173 hO173; simp only [List.set] at hS
    refine eseq_nil ?_
    obtain rfl := Option.some.inj h
    exact ⟨_, res0 rfl, v3, (v4.set (a1).toNat v132), v6, (v7.set (a1).toNat v153), v9, (v10.set (a1).toNat v169), _, rfl, (hS.pickB [3, 4, 5, 6, 7, 8, 9, 10, 11, 12, 13] 14 rfl rfl)⟩
theorem indexed_computation_send_w {F R : Nat → Prop} {w : World} {fuel : Nat} {a1 : Int} {a2 : Int} {c0_0 : (List Int)} {c0_1 : (List (List Int))} {c0_2 : (List Arc)} {c0_3 : (List (List Int))} {c0_4 : (List (List (List Int)))} {c0_5 : (List (List Bool))} {c0_6 : (List Int)} {c0_7 : (List IndexedLetter)} {B0 : Nat} {v2 : Value} {v3 : Value} {v4 : List Value} {v5 : Value} {v6 : Value} {v7 : List Value} {v8 : Value} {v9 : Value} {v10 : List Value} {v11 : Value} {v12 : Value} {r : ((List Int) × (List Arc) × (List IndexedLetter))} (hS : Sep F R R w w [HP.blk B0 [v2, v3, v5, v6, v8, v9, v11, v12] 112, HP.own Ty.int (fun _ => False) 3 v2 c0_0, HP.own Ty.raw (fun _ => False) 27 v3 v4, HP.famS Ty.int (fun _ => False) 3 v4 c0_1, HP.own arcTy (fun _ => False) 107 v5 c0_2, HP.own Ty.raw (fun _ => False) 27 v6 v7, HP.famS Ty.int (fun _ => False) 3 v7 c0_3, HP.own Ty.raw (fun _ => False) 99 v9 v10, HP.famS Ty.bool (fun _ => False) 4 v10 c0_5, HP.own Ty.int (fun _ => False) 3 v11 c0_6, HP.own indexedLetterTy (fun _ => False) 160 v12 c0_7]) (f8 : IsSlice (Ty.slice (Ty.slice Ty.int)) w R v8 c0_4) (h : indexed_computation_send fuel a1 a2 c0_0 c0_1 c0_2 c0_3 c0_4 c0_5 c0_6 c0_7 = some r) :
    Gives Try.prog 54 [.pointer (some ⟨B0, 0, none⟩), .int .i64 a1, .int .i64 a2] w fun u w1 => ∃ (v72 : Value), ∃ (v73 : Value), ∃ (v74 : Value), ∃ (R1 : Nat → Prop), u = .tuple #[] ∧ Sep F R R1 w w1 [HP.blk B0 [v72, v3, v73, v6, v8, v9, v11, v74] 112, HP.own Ty.int (fun _ => False) 3 v72 r.1, HP.own Ty.raw (fun _ => False) 27 v3 v4, HP.famS Ty.int (fun _ => False) 3 v4 c0_1, HP.own arcTy (fun _ => False) 107 v73 r.2.1, HP.own Ty.raw (fun _ => False) 27 v6 v7, HP.famS Ty.int (fun _ => False) 3 v7 c0_3, HP.own Ty.raw (fun _ => False) 99 v9 v10, HP.famS Ty.bool (fun _ => False) 4 v10 c0_5, HP.own Ty.int (fun _ => False) 3 v11 c0_6, HP.own indexedLetterTy (fun _ => False) 160 v74 r.2.2] := by
  refine fn_of Try.func54 rfl Try.ntmps54 (Nat.le_of_ble_eq_true rfl) ?_
  unfold indexed_computation_send at h
  refine e_seq fun K75 hK75 => ?_
  refine e_seq fun K76 hK76 => ?_
  refine e_region_text rfl ?_
  refine q_move rfl rfl ?_
  refine q_move rfl rfl ?_
  obtain ⟨r78, hr78, h⟩ := Option.of_bind h
  refine q_call rfl (indexed_computation_process_w (Sep.all w) (Lent.of (hS.blk 0 rfl)) ((hS.isl 1 rfl)).old ((hS.rowsI 2 3 rfl rfl (by decide))).old ((hS.isl 4 rfl)).old ((hS.rowsI 5 6 rfl rfl (by decide))).old (f8).old ((hS.rowsI 7 8 rfl rfl (by decide))).old ((hS.isl 9 rfl)).old ((hS.isl 10 rfl)).old hr78) rfl ?_
  rintro _ w77 ⟨R77, rfl, hC77⟩
  have hB77 : Below (World.heap w).size w w77 := hC77.stepBF
  refine ⟨fun _ => .of_below hB77, ?_⟩
  replace f8 := f8.ext hB77
  replace hS := hS.below hB77
  refine q_not rfl rfl ?_
  refine q_move rfl rfl ?_
  obtain ⟨x84, hx83, h⟩ := Option.of_bind h
  refine g_orM 4 hx83 rfl trivial rfl rfl ?_ ?_ ?_
  · intro hg83
    refine g_skip rfl rfl rfl ?_
    refine g_skip rfl rfl rfl ?_
    refine g_skip rfl rfl rfl ?_
    refine g_skip rfl rfl rfl ?_
    exact eseq_nil ⟨rfl, Sub.set rfl (Sub.set rfl (Sub.set rfl (Sub.set rfl (Sub.bool true rfl hg83))))⟩
  · intro hg83 hx83
    clear h
    have hT83 := Below.refl (World.heap w77).size w77
    refine g_run rfl ?_; refine q_move rfl rfl ?_
    refine g_run rfl ?_; refine q_move rfl rfl ?_
    obtain ⟨r86, hr86, hx83⟩ := Option.of_bind hx83
    refine g_run rfl ?_; refine q_call rfl (indexed_computation_process_w (Sep.all w77) (Lent.of (hS.blk 0 rfl)) ((hS.isl 1 rfl)).old ((hS.rowsI 2 3 rfl rfl (by decide))).old ((hS.isl 4 rfl)).old ((hS.rowsI 5 6 rfl rfl (by decide))).old (f8).old ((hS.rowsI 7 8 rfl rfl (by decide))).old ((hS.isl 9 rfl)).old ((hS.isl 10 rfl)).old hr86) rfl ?_
    rintro _ w85 ⟨R85, rfl, hC85⟩
    have hB85 : Below (World.heap w77).size w77 w85 := hC85.stepBF
    refine ⟨fun _ => .of_below hB85, ?_⟩
    replace f8 := f8.ext hB85
    replace hT83 := hT83.trans (Below.mono hB85 hT83.size)
    replace hS := hS.below hB85
    refine g_run rfl ?_; refine q_not rfl rfl ?_
    cases hx83
    exact eseq_nil ⟨hT83, Sub.set rfl (Sub.set rfl (Sub.set rfl (Sub.set rfl (Sub.bool false rfl hg83)))), rfl⟩
  intro wm83 hBm83; clear hx83
  replace hS := hS.below hBm83
  replace f8 := f8.ext hBm83
  refine q_move rfl rfl ?_
  obtain ⟨x90, hx89, h⟩ := Option.of_bind h
  refine g_orM 3 hx89 rfl trivial rfl rfl ?_ ?_ ?_
  · intro hg89
    refine g_skip rfl rfl rfl ?_
    refine g_skip rfl rfl rfl ?_
    refine g_skip rfl rfl rfl ?_
    exact eseq_nil ⟨rfl, Sub.set rfl (Sub.set rfl (Sub.set rfl (Sub.bool true rfl hg89)))⟩
  · intro hg89 hx89
    clear h
    have hT89 := Below.refl (World.heap wm83).size wm83
    refine g_run rfl ?_; refine q_move rfl rfl ?_
    refine g_run rfl ?_; refine q_move rfl rfl ?_
    refine g_run rfl ?_; refine q_eql rfl rfl rfl ?_
    cases hx89
    exact eseq_nil ⟨hT89, Sub.set rfl (Sub.set rfl (Sub.set rfl (Sub.bool false rfl hg89))), rfl⟩
  intro wm89 hBm89; clear hx89
  replace hS := hS.below hBm89
  replace f8 := f8.ext hBm89
  refine q_move rfl rfl ?_
  obtain ⟨x96, hx95, h⟩ := Option.of_bind h
  refine g_orM 3 hx95 rfl trivial rfl rfl ?_ ?_ ?_
  · intro hg95
    refine g_skip rfl rfl rfl ?_
    refine g_skip rfl rfl rfl ?_
    refine g_skip rfl rfl rfl ?_
    exact eseq_nil ⟨rfl, Sub.set rfl (Sub.set rfl (Sub.set rfl (Sub.bool true rfl hg95)))⟩
  · intro hg95 hx95
    clear h
    have hT95 := Below.refl (World.heap wm89).size wm89
    refine g_run rfl ?_; refine q_move rfl rfl ?_
    refine g_run rfl ?_; refine q_move rfl rfl ?_
    obtain ⟨r98, hr98, hx95⟩ := Option.of_bind hx95
    refine g_run rfl ?_; refine q_call rfl (indexed_computation_full_w (Sep.all wm89) (Lent.of (hS.blk 0 rfl)) ((hS.isl 1 rfl)).old ((hS.rowsI 2 3 rfl rfl (by decide))).old ((hS.isl 4 rfl)).old ((hS.rowsI 5 6 rfl rfl (by decide))).old (f8).old ((hS.rowsI 7 8 rfl rfl (by decide))).old ((hS.isl 9 rfl)).old ((hS.isl 10 rfl)).old hr98) rfl ?_
    rintro _ w97 ⟨R97, rfl, hC97⟩
    have hB97 : Below (World.heap wm89).size wm89 w97 := hC97.stepBF
    refine ⟨fun _ => .of_below hB97, ?_⟩
    replace f8 := f8.ext hB97
    replace hT95 := hT95.trans (Below.mono hB97 hT95.size)
    replace hS := hS.below hB97
    cases hx95
    exact eseq_nil ⟨hT95, Sub.set rfl (Sub.set rfl (Sub.set rfl (Sub.bool false rfl hg95))), rfl⟩
  intro wm95 hBm95; clear hx95
  replace hS := hS.below hBm95
  replace f8 := f8.ext hBm95
  refine eseq_nil ?_
  refine hK76 _ _ ?_
  refine e_cond rfl (fun hc99 => ?_) (fun hc99 => ?_)
  · replace h := (if_pos hc99).symm.trans h
    refine e_ret ?_
    obtain rfl := Option.some.inj h
    exact ⟨_, res0 rfl, v2, v5, v12, _, rfl, hS⟩
  · replace h := (if_neg (not_true hc99)).symm.trans h
    refine e_skip ?_
    refine hK75 _ _ ?_
    refine e_seq fun K100 hK100 => ?_
    refine e_region_text rfl ?_
    refine q_move rfl rfl ?_
    refine q_nilCheck rfl rfl ?_
    refine q_field rfl rfl ?_
    refine q_field rfl rfl ?_
    refine q_assign rfl rfl ?_
    refine eseq_nil ?_
    refine hK100 _ _ ?_
    refine e_seq fun K101 hK101 => ?_
    refine e_region_text rfl ?_
    refine q_move rfl rfl ?_
    refine q_move rfl rfl ?_
    refine q_move rfl rfl ?_
    obtain ⟨r103, hr103, h⟩ := Option.of_bind h
    refine q_call rfl (indexed_computation_event_w (Sep.enter (As := [_, _, _, _, _, _, _, _, _, _, _]) hS) f8 hr103) rfl ?_
    rintro _ w102 ⟨R102, rfl, hC102⟩
    refine ⟨(fun h => by cases h), ?_⟩
    have hk102 := hC102.keptR (Sep.offFeet (As := [_, _, _, _, _, _, _, _, _, _, _]) hS)
    replace f8 := (f8.kept hk102).mono fun k hk _ => hC102.ro0 k hk
    replace hS := Sep.leave (As := [_, _, _, _, _, _, _, _, _, _, _]) hS hC102; simp only [List.cons_append, List.nil_append] at hS
    refine q_move rfl rfl ?_
    refine q_build (Parts.cons rfl rfl (Parts.cons rfl rfl (Parts.cons rfl rfl Parts.nil))) rfl rfl ?_
    refine q_allocB rfl fun w105 bl105 hg105 hb105 hB105 => ?_
    replace f8 := f8.ext hB105
    replace hS := hS.newBlk hB105 hg105 hb105
    refine q_storeAgg rfl rfl (hS.blk 0 rfl) rfl (Nat.le_of_ble_eq_true rfl) (all_cons rfl (all_cons rfl (all_cons rfl (all_cons rfl (all_nil))))) rfl rfl fun w107 hb107 hO107 => ?_
    simp only [setN, List.set, List.take, List.drop] at hb107
    have hk107 := hS.keptBlk 0 rfl hO107
    replace f8 := f8.kept hk107
    replace hS := hS.setBlk 0 rfl hb107 hO107; simp only [List.set] at hS
    refine eseq_nil ?_
    refine hK101 _ _ ?_
    refine e_seq fun K108 hK108 => ?_
    refine e_region_draw mixed (fun _ => False) [0, 0, 2, 6, 14, 0, 32, 96, 224, 480, 0, 1024, 3072, 7168, 0, 31744, 64512, 131040, 262112, 524286, 1048575, 2097151, 4194303] [18] [0, 1, 2, 3, 4, 5, 6, 7, 8, 9, 10, 11, 12, 13, 14, 15, 16, 17, 18, 19, 20, 21, 22] (by kernel_rfl) ?_
    refine q_move rfl rfl ?_
    refine q_move rfl rfl ?_
    refine q_nilCheck rfl rfl ?_
    refine q_field rfl rfl ?_
    refine q_load rfl (Blk.cell (hS.blk 1 rfl) rfl) rfl ?_
    refine q_move rfl rfl ?_
    refine q_nilCheck rfl rfl ?_
    refine q_field rfl rfl ?_
    refine q_load rfl (Blk.cell (hS.blk 1 rfl) rfl) rfl ?_
    refine q_lenS rfl (hS.isl 5 rfl) rfl ?_
    refine q_move rfl rfl ?_
    refine q_nilCheck rfl rfl ?_
    refine q_field rfl rfl ?_
    refine q_load rfl (Blk.cell (hS.blk 1 rfl) rfl) rfl ?_
    refine q_move rfl rfl ?_
    obtain ⟨x116, hx116, h⟩ := Option.of_bind h
    refine q_indexO (by infer_instance) rfl (hS.own 10 rfl) rfl hx116 rfl ?_
    have f117 := (hS.ownR 10 rfl).elt hx116
    refine q_load rfl (Elt.intCell f117) rfl ?_
    refine q_build (Parts.cons rfl rfl (Parts.cons rfl rfl Parts.nil)) rfl rfl ?_
    refine q_litO (T := indexedLetterTy) (S := (fun _ => False)) (cells := [[.int .i64 (c0_2.length : Int), .int .i64 x116]]) (ys := [(⟨(c0_2.length : Int), x116⟩ : IndexedLetter)]) ((Parts.cons rfl rfl Parts.nil)) rfl rfl rfl rfl rfl rfl rfl (fun w1 hB => ⟨⟨[_], _, rfl, rfl, rfl⟩, trivial⟩) (fun _ h => h.elim) rfl fun w118 v118 ho118 hv118 hB118 => ?_
    replace f8 := f8.ext hB118
    replace hS := hS.newOwnS hB118 ho118 hv118 (fun _ h => h.elim)
    obtain ⟨x121, hx121, h⟩ := Option.of_bind h
    refine q_catOwn (T := indexedLetterTy) rfl rfl rfl rfl (hS.own 12 rfl) rfl (hS.own 0 rfl) (fun _ h _ => h.elim) (snoc_cat hx121) (Nat.zero_le _) rfl (fun h => by cases h) fun v120 w120 hw120 hgr120 hnw120 => ?_
    have hk120 := hS.keptOwn 12 rfl hgr120
    replace f8 := f8.kept hk120
    replace hS := hS.setOwn 12 rfl hw120 hgr120 hnw120; simp only [List.set] at hS
    refine q_nilCheck rfl rfl ?_
    refine q_field rfl rfl ?_
    refine q_store rfl rfl (hS.blk 2 rfl) (Nat.le_of_ble_eq_true rfl) (hS.own 12 rfl).one rfl rfl fun w122 hb122 hO122 => ?_
    have hk122 := hS.keptBlk 2 rfl hO122
    replace f8 := f8.kept hk122
    replace hS := hS.setBlk 2 rfl hb122 hO122; simp only [List.set] at hS
    refine eseq_nil ?_
    refine hK108 _ _ ?_
    refine e_region_draw mixed (fun _ => False) [0, 0, 2, 6, 14, 0, 32, 126, 255, 511, 1023] [6] [0, 1, 2, 3, 4, 5, 6, 7, 8, 9, 10] (by kernel_rfl) ?_
    refine q_move rfl rfl ?_
    refine q_move rfl rfl ?_
    refine q_nilCheck rfl rfl ?_
    refine q_field rfl rfl ?_
    refine q_load rfl (Blk.cell (hS.blk 2 rfl) rfl) rfl ?_
    refine q_loadAgg rfl (Blk.cellsAt (hS.blk 1 rfl) 0 4 rfl) rfl rfl ?_
    refine q_litO (T := arcTy) (S := (fun _ => False)) (cells := [[.int .i64 a1, .int .i64 r103.1, .int .i64 a2, .int .i64 0]]) (ys := [(⟨a1, r103.1, a2, 0⟩ : Arc)]) ((Parts.cons rfl rfl Parts.nil)) rfl rfl rfl rfl rfl rfl rfl (fun w1 hB => ⟨⟨[_], _, rfl, rfl, ⟨[_], _, rfl, rfl, ⟨[_], _, rfl, rfl, rfl⟩⟩⟩, trivial⟩) (fun _ h => h.elim) rfl fun w128 v128 ho128 hv128 hB128 => ?_
    replace f8 := f8.ext hB128
    replace hS := hS.newOwnS hB128 ho128 hv128 (fun _ h => h.elim)
    obtain ⟨x131, hx131, h⟩ := Option.of_bind h
    refine q_catOwn (T := arcTy) rfl rfl rfl rfl (hS.own 7 rfl) rfl (hS.own 0 rfl) (fun _ h _ => h.elim) (snoc_cat hx131) (Nat.zero_le _) rfl (fun h => by cases h) fun v130 w130 hw130 hgr130 hnw130 => ?_
    have hk130 := hS.keptOwn 7 rfl hgr130
    replace f8 := f8.kept hk130
    replace hS := hS.setOwn 7 rfl hw130 hgr130 hnw130; simp only [List.set] at hS
    refine q_nilCheck rfl rfl ?_
    refine q_field rfl rfl ?_
    refine q_store rfl rfl (hS.blk 3 rfl) (Nat.le_of_ble_eq_true rfl) (hS.own 7 rfl).one rfl rfl fun w132 hb132 hO132 => ?_
    have hk132 := hS.keptBlk 3 rfl hO132
    replace f8 := f8.kept hk132
    replace hS := hS.setBlk 3 rfl hb132 hO132; simp only [List.set] at hS
    refine eseq_nil ?_
    obtain rfl := Option.some.inj h
    exact ⟨_, res0 rfl, v2, v130, v120, _, rfl, (hS.pickB [3, 4, 5, 6, 7, 8, 9, 10, 11, 12, 13] 14 rfl rfl)⟩
theorem DeleteIL_w {F R : Nat → Prop} {w : World} {fuel : Nat} {a1 a2 : Int} {c0_0 : List IndexedLetter} {v1 : Value} {r : List IndexedLetter} (hS : Sep F R R w w [HP.own indexedLetterTy (fun _ => False) 160 v1 c0_0]) (h : DeleteIL fuel a1 a2 c0_0 = some r) :
    Gives Try.prog 102 [v1, .int .i64 a1, .int .i64 a2] w fun u w1 => ∃ (v2 : Value), ∃ (R1 : Nat → Prop), u = v2 ∧ Sep F R R1 w w1 [HP.own indexedLetterTy (fun _ => False) 160 v2 r] := by
  unfold DeleteIL at h
  split at h
  · rename_i hn
    cases h
    obtain ⟨h0, h1, h2, hl⟩ := hn
    obtain ⟨i, rfl⟩ := Int.eq_ofNat_of_zero_le h0
    obtain rfl : a2 = ((i + 1 : Nat) : Int) := by omega
    rw [Int.toNat_natCast]
    obtain ⟨cells, hcl, h, hR⟩ := (hS.own 0 rfl).toN
    obtain ⟨g, cap, cur, rfl, hb, hcur⟩ := h.form (by omega)
    have hs := h.isSlice
    have hcap : cells.length ≤ cap := by
      obtain ⟨ad, c, he, hc, _⟩ := hs; simp at he; omega
    refine fn_of Try.func102 rfl Try.ntmps102 (Nat.le_of_ble_eq_true rfl) ?_
    refine e_seq fun K hK => ?_
    refine e_region_text rfl ?_
    refine q_assign rfl rfl ?_
    refine eseq_nil ?_
    refine hK _ _ ?_; clear hK
    refine e_seq fun K hK => ?_
    refine e_region_text rfl ?_
    refine q_move rfl rfl ?_
    refine q_move rfl rfl ?_
    refine q_move rfl rfl ?_
    refine q_move rfl rfl ?_
    refine q_lenS rfl hs rfl ?_
    refine q_slice3 (i := i) (j := i + 1) (mm := cells.length) rfl rfl rfl rfl (by omega) (by omega) hcap rfl fun v13 => ?_
    refine eseq_nil ?_
    refine hK _ _ ?_; clear hK
    refine e_seq fun K hK => ?_
    refine e_seq fun K hK => ?_
    refine e_region_text rfl ?_
    refine q_move rfl rfl ?_
    refine q_move rfl rfl ?_
    refine q_eql rfl rfl rfl ?_
    refine eseq_nil ?_
    refine hK _ _ ?_; clear hK
    refine e_cond rfl (fun hb1 => ?_) (fun hb1 => ?_)
    · exfalso; simp at hb1; omega
    refine e_skip ?_
    refine hK _ _ ?_; clear hK
    refine e_seq fun K hK => ?_
    refine e_region_text rfl ?_
    refine q_move rfl rfl ?_
    refine q_lenS rfl hs rfl ?_
    refine q_assign rfl rfl ?_
    refine eseq_nil ?_
    refine hK _ _ ?_; clear hK
    refine e_seq fun K hK => ?_
    refine e_region_draw mixed (fun _ => False) [0, 0, 3, 0, 0, 24, 63, 127] [] [0, 1, 2, 3, 4, 5, 6, 7] (by kernel_rfl) ?_
    refine q_move rfl rfl ?_
    refine q_move rfl rfl ?_
    refine q_sliceHx rfl rfl (by omega) rfl ?_
    refine q_move rfl rfl ?_
    refine q_move rfl rfl ?_
    refine q_sliceL (T := Ty.cellsN 2) (inferInstance : TSlice Try.prog 110 160 2) rfl hs rfl (by omega) rfl fun v25 hS25 => ?_
    have hp := h.firstPart i (by omega)
    have hti : (cells.take i).length = i := by simp; omega
    have hdl : (cells.drop (i + 1)).length = cells.length - (i + 1) := by simp
    refine q_appendS (T := Ty.cellsN 2) (TS := (inferInstance : TSlice Try.prog 110 160 2)) rfl rfl rfl rfl hp rfl hS25 (fun c u hr => hr) (by omega) (Nat.zero_le _) rfl (fun h => by cases h) fun v26 w1 hown hg hnr => ?_
    have hv26 := hnr.fits g i cap rfl (by omega)
    rw [hti, hdl, show i + (cells.length - (i + 1)) = cells.length - 1 from by omega] at hv26
    subst hv26
    obtain ⟨_, _, cur1, hb1', hcl1⟩ := hown.blk
    refine q_assign rfl rfl ?_
    refine eseq_nil ?_
    refine hK _ _ ?_; clear hK
    refine e_seq fun K hK => ?_
    refine e_region_text rfl ?_
    refine q_move rfl rfl ?_
    refine q_move rfl rfl ?_
    refine q_len rfl rfl ?_
    refine q_move rfl rfl ?_
    refine q_sliceCap rfl rfl rfl (by omega) hcap rfl ?_
    refine q_clear rfl (by omega) hb1' (by simp [oneV]) (by have : cur1.length = cap * 2 := hcl1; simp; omega) rfl fun w2 zs hO2 hb2 => ?_
    refine eseq_nil ?_
    refine hK _ _ ?_; clear hK
    refine e_seq fun K hK => ?_
    refine e_region_text rfl ?_
    refine q_move rfl rfl ?_
    refine q_assign rfl rfl ?_
    refine eseq_nil ?_
    refine hK _ _ ?_; clear hK
    refine e_ret ?_
    have hg2 : w.grownBy w2 (Value.slice (some ⟨g, 0, none⟩) cells.length cap).ownBlock := ⟨hO2.os.trans hg.os, hO2.tape.trans hg.tape, hO2.output.trans hg.output, Nat.le_trans hg.size hO2.size, fun k hk hne => (hO2.block k (Nat.lt_of_lt_of_le hk hg.size) (by rintro rfl; exact hne rfl)).trans (hg.block k hk hne)⟩
    have ho2 := hown.tail hO2 (fun _ h => h.elim) ((cells.length - 1) * 2) zs (by rw [List.length_append, hti, hdl]; show (i + (cells.length - (i + 1))) * 2 ≤ _; omega) (fun cs tt hcs => by obtain ⟨rfl, rfl⟩ := BlkInj hcs hb1'; exact hb2)
    have ho3 := Own.delN (T := indexedLetterTy) ho2 hcl hR hg2 rfl
    refine ⟨_, res1 rfl rfl, _, R, rfl, ?_⟩
    have hS2 := hS.setOwn 0 rfl (n := cells.length - 1) ho3 hg2 ⟨fun k hk => .inl hk, fun g0 n0 cap0 he hn0 => by cases he; rfl⟩
    simp only [List.set] at hS2
    exact hS2
  · cases h
theorem indexed_computation_receive_w {F R : Nat → Prop} {w : World} {fuel : Nat} {a1 : Int} {c0_0 : (List Int)} {c0_1 : (List (List Int))} {c0_2 : (List Arc)} {c0_3 : (List (List Int))} {c0_4 : (List (List (List Int)))} {c0_5 : (List (List Bool))} {c0_6 : (List Int)} {c0_7 : (List IndexedLetter)} {B0 : Nat} {v2 : Value} {v3 : Value} {v4 : List Value} {v5 : Value} {v6 : Value} {v7 : List Value} {v8 : Value} {v9 : Value} {v10 : List Value} {v11 : Value} {v12 : Value} {r : ((List Int) × (List (List Int)) × (List Arc) × (List (List Int)) × (List (List Bool)) × (List Int) × (List IndexedLetter))} (hS : Sep F R R w w [HP.blk B0 [v2, v3, v5, v6, v8, v9, v11, v12] 112, HP.own Ty.int (fun _ => False) 3 v2 c0_0, HP.own Ty.raw (fun _ => False) 27 v3 v4, HP.famS Ty.int (fun _ => False) 3 v4 c0_1, HP.own arcTy (fun _ => False) 107 v5 c0_2, HP.own Ty.raw (fun _ => False) 27 v6 v7, HP.famS Ty.int (fun _ => False) 3 v7 c0_3, HP.own Ty.raw (fun _ => False) 99 v9 v10, HP.famS Ty.bool (fun _ => False) 4 v10 c0_5, HP.own Ty.int (fun _ => False) 3 v11 c0_6, HP.own indexedLetterTy (fun _ => False) 160 v12 c0_7]) (f8 : IsSlice (Ty.slice (Ty.slice Ty.int)) w R v8 c0_4) (h : indexed_computation_receive fuel a1 c0_0 c0_1 c0_2 c0_3 c0_4 c0_5 c0_6 c0_7 = some r) :
    Gives Try.prog 55 [.pointer (some ⟨B0, 0, none⟩), .int .i64 a1] w fun u w1 => ∃ (v115 : Value), ∃ (v116 : Value), ∃ (v117 : List Value), ∃ (v118 : Value), ∃ (v119 : Value), ∃ (v120 : List Value), ∃ (v121 : Value), ∃ (v122 : List Value), ∃ (v123 : Value), ∃ (v124 : Value), ∃ (R1 : Nat → Prop), u = .tuple #[] ∧ Sep F R R1 w w1 [HP.blk B0 [v115, v116, v118, v119, v8, v121, v123, v124] 112, HP.own Ty.int (fun _ => False) 3 v115 r.1, HP.own Ty.raw (fun _ => False) 27 v116 v117, HP.famS Ty.int (fun _ => False) 3 v117 r.2.1, HP.own arcTy (fun _ => False) 107 v118 r.2.2.1, HP.own Ty.raw (fun _ => False) 27 v119 v120, HP.famS Ty.int (fun _ => False) 3 v120 r.2.2.2.1, HP.own Ty.raw (fun _ => False) 99 v121 v122, HP.famS Ty.bool (fun _ => False) 4 v122 r.2.2.2.2.1, HP.own Ty.int (fun _ => False) 3 v123 r.2.2.2.2.2.1, HP.own indexedLetterTy (fun _ => False) 160 v124 r.2.2.2.2.2.2] := by
  refine fn_of Try.func55 rfl Try.ntmps55 (Nat.le_of_ble_eq_true rfl) ?_
  unfold indexed_computation_receive at h
  refine e_seq fun K125 hK125 => ?_
  refine e_seq fun K126 hK126 => ?_
  refine e_region_text rfl ?_
  refine q_move rfl rfl ?_
  refine q_lss rfl rfl rfl ?_
  refine q_move rfl rfl ?_
  obtain ⟨x130, hx129, h⟩ := Option.of_bind h
  refine g_orM 7 hx129 rfl trivial rfl rfl ?_ ?_ ?_
  · intro hg129
    refine g_skip rfl rfl rfl ?_
    refine g_skip rfl rfl rfl ?_
    refine g_skip rfl rfl rfl ?_
    refine g_skip rfl rfl rfl ?_
    refine g_skip rfl rfl rfl ?_
    refine g_skip rfl rfl rfl ?_
    refine g_skip rfl rfl rfl ?_
    exact eseq_nil ⟨rfl, Sub.set rfl (Sub.set rfl (Sub.set rfl (Sub.set rfl (Sub.set rfl (Sub.set rfl (Sub.set rfl (Sub.bool true rfl hg129)))))))⟩
  · intro hg129 hx129
    clear h
    have hT129 := Below.refl (World.heap w).size w
    refine g_run rfl ?_; refine q_move rfl rfl ?_
    refine g_run rfl ?_; refine q_move rfl rfl ?_
    refine g_run rfl ?_; refine q_nilCheck rfl rfl ?_
    refine g_run rfl ?_; refine q_field rfl rfl ?_
    refine g_run rfl ?_; refine q_load rfl (Blk.cell (hS.blk 0 rfl) rfl) rfl ?_
    refine g_run rfl ?_; refine q_lenS rfl (hS.isl 10 rfl) rfl ?_
    refine g_run rfl ?_; refine q_geq rfl rfl rfl ?_
    cases hx129
    exact eseq_nil ⟨hT129, Sub.set rfl (Sub.set rfl (Sub.set rfl (Sub.set rfl (Sub.set rfl (Sub.set rfl (Sub.set rfl (Sub.bool false rfl hg129))))))), rfl⟩
  intro wm129 hBm129; clear hx129
  replace hS := hS.below hBm129
  replace f8 := f8.ext hBm129
  refine eseq_nil ?_
  refine hK126 _ _ ?_
  refine e_cond rfl (fun hc131 => ?_) (fun hc131 => ?_)
  · replace h := (if_pos hc131).symm.trans h
    refine e_ret ?_
    obtain rfl := Option.some.inj h
    exact ⟨_, res0 rfl, v2, v3, v4, v5, v6, v7, v9, v10, v11, v12, _, rfl, hS⟩
  · replace h := (if_neg (not_true hc131)).symm.trans h
    refine e_skip ?_
    refine hK125 _ _ ?_
    refine e_seq fun K132 hK132 => ?_
    refine e_region_text rfl ?_
    refine q_move rfl rfl ?_
    refine q_nilCheck rfl rfl ?_
    refine q_field rfl rfl ?_
    refine q_load rfl (Blk.cell (hS.blk 0 rfl) rfl) rfl ?_
    refine q_move rfl rfl ?_
    obtain ⟨x133, hx133, h⟩ := Option.of_bind h
    refine q_indexO (by infer_instance) rfl (hS.own 10 rfl) rfl hx133 rfl ?_
    have f134 := (hS.ownR 10 rfl).elt hx133
    have hc135 := IndexedLetter_open f134
    refine q_loadAgg rfl hc135 rfl rfl ?_
    refine q_allocB rfl fun w136 bl136 hg136 hb136 hB136 => ?_
    replace f8 := f8.ext hB136
    replace hS := hS.newBlk hB136 hg136 hb136
    refine q_storeAgg rfl rfl (hS.blk 0 rfl) rfl (Nat.le_of_ble_eq_true rfl) (all_cons rfl (all_cons rfl (all_nil))) rfl rfl fun w138 hb138 hO138 => ?_
    simp only [setN, List.set, List.take, List.drop] at hb138
    have hk138 := hS.keptBlk 0 rfl hO138
    replace f8 := f8.kept hk138
    replace hS := hS.setBlk 0 rfl hb138 hO138; simp only [List.set] at hS
    refine eseq_nil ?_
    refine hK132 _ _ ?_
    refine e_seq fun K139 hK139 => ?_
    refine e_region_draw mixed (fun _ => False) [0, 1, 3, 7, 15, 31, 0, 64, 255, 511, 1023, 2047] [] [0, 1, 2, 3, 4, 5, 6, 7, 8, 9, 10, 11] (by kernel_rfl) ?_
    refine q_move rfl rfl ?_
    refine q_nilCheck rfl rfl ?_
    refine q_field rfl rfl ?_
    refine q_field rfl rfl ?_
    refine q_field rfl rfl ?_
    refine q_load rfl (Blk.cell (hS.blk 1 rfl) rfl) rfl ?_
    refine q_field rfl rfl ?_
    refine q_load rfl (Blk.cell (hS.blk 0 rfl) rfl) rfl ?_
    obtain ⟨x140, hx140, h⟩ := Option.of_bind h
    refine q_indexO (by infer_instance) rfl (hS.own 5 rfl) rfl hx140 rfl ?_
    refine q_field rfl rfl ?_
    have f141 := (hS.ownR 5 rfl).elt hx140
    have f142 := Arc_F2 f141
    refine q_load rfl (Elt.intCell f142) rfl ?_
    refine q_assign rfl rfl ?_
    refine eseq_nil ?_
    refine hK139 _ _ ?_
    refine e_seq fun K143 hK143 => ?_
    refine e_seq fun K144 hK144 => ?_
    refine e_region_text rfl ?_
    refine q_move rfl rfl ?_
    refine q_move rfl rfl ?_
    obtain ⟨r146, hr146, h⟩ := Option.of_bind h
    refine q_call rfl (indexed_computation_full_w (Sep.all w138) (Lent.of (hS.blk 1 rfl)) ((hS.isl 2 rfl)).old ((hS.rowsI 3 4 rfl rfl (by decide))).old ((hS.isl 5 rfl)).old ((hS.rowsI 6 7 rfl rfl (by decide))).old (f8).old ((hS.rowsI 8 9 rfl rfl (by decide))).old ((hS.isl 10 rfl)).old ((hS.isl 11 rfl)).old hr146) rfl ?_
    rintro _ w145 ⟨R145, rfl, hC145⟩
    have hB145 : Below (World.heap w138).size w138 w145 := hC145.stepBF
    refine ⟨fun _ => .of_below hB145, ?_⟩
    replace f8 := f8.ext hB145
    replace hS := hS.below hB145
    refine eseq_nil ?_
    refine hK144 _ _ ?_
    refine e_cond rfl (fun hc147 => ?_) (fun hc147 => ?_)
    · replace h := (if_pos hc147).symm.trans h
      refine e_ret ?_
      obtain rfl := Option.some.inj h
      exact ⟨_, res0 rfl, v2, v3, v4, v5, v6, v7, v9, v10, v11, v12, _, rfl, (hS.pickB [1, 2, 3, 4, 5, 6, 7, 8, 9, 10, 11] 12 rfl rfl)⟩
    · replace h := (if_neg (not_true hc147)).symm.trans h
      refine e_skip ?_
      refine hK143 _ _ ?_
      refine e_seq fun K148 hK148 => ?_
      refine e_region_text rfl ?_
      refine q_move rfl rfl ?_
      refine q_move rfl rfl ?_
      refine q_nilCheck rfl rfl ?_
      refine q_field rfl rfl ?_
      refine q_load rfl (Blk.cell (hS.blk 1 rfl) rfl) rfl ?_
      refine q_move rfl rfl ?_
      refine q_move rfl rfl ?_
      refine q_addW rfl rfl rfl ?_
      obtain ⟨r150, hr150, h⟩ := Option.of_bind h
      replace hS := hS.pickB [11, 0, 1, 2, 3, 4, 5, 6, 7, 8, 9, 10] 12 rfl rfl; simp only [List.map_cons, List.map_nil, List.getD_cons_zero, List.getD_cons_succ] at hS
      refine q_call rfl (DeleteIL_w (Sep.enter (As := [_]) hS)  hr150) rfl ?_
      rintro v151 w149 ⟨_, R149, rfl, hC149⟩
      refine ⟨(fun h => by cases h), ?_⟩
      have hk149 := hC149.keptR (Sep.offFeet (As := [_]) hS)
      replace f8 := (f8.kept hk149).mono fun k hk _ => hC149.ro0 k hk
      replace hS := Sep.leave (As := [_]) hS hC149; simp only [List.cons_append, List.nil_append] at hS
      refine q_nilCheck rfl rfl ?_
      refine q_field rfl rfl ?_
      refine q_store rfl rfl (hS.blk 2 rfl) (Nat.le_of_ble_eq_true rfl) (hS.own 0 rfl).one rfl rfl fun w152 hb152 hO152 => ?_
      have hk152 := hS.keptBlk 2 rfl hO152
      replace f8 := f8.kept hk152
      replace hS := hS.setBlk 2 rfl hb152 hO152; simp only [List.set] at hS
      refine eseq_nil ?_
      refine hK148 _ _ ?_
      refine e_seq fun K153 hK153 => ?_
      have hJ153 : ∀ (x177 : (List (List Int))) (x183 : (List (List Int))) (x189 : (List (List Bool))) (x194 : (List Int)) (v175 : Value) (v176 : List Value) (v181 : Value) (v182 : List Value) (v187 : Value) (v188 : List Value) (v193 : Value) (R172 : Nat → Prop) (w173 : World) (E_ : Env), indexed_computation_receive_J1 fuel x140 c0_0 c0_2 c0_4 r150 x133 x177 x183 x189 x194 = some r → Sep F R R172 w w173 [HP.blk B0 [v2, v175, v5, v181, v8, v187, v193, v151] 112, HP.own Ty.int (fun _ => False) 3 v2 c0_0, HP.own Ty.raw (fun _ => False) 27 v175 v176, HP.famS Ty.int (fun _ => False) 3 v176 x177, HP.own arcTy (fun _ => False) 107 v5 c0_2, HP.own Ty.raw (fun _ => False) 27 v181 v182, HP.famS Ty.int (fun _ => False) 3 v182 x183, HP.own Ty.raw (fun _ => False) 99 v187 v188, HP.famS Ty.bool (fun _ => False) 4 v188 x189, HP.own Ty.int (fun _ => False) 3 v193 x194, HP.own indexedLetterTy (fun _ => False) 160 v151 r150, HP.blk bl136 [.int .i64 x133.arc, .int .i64 x133.clock] 160] → IsSlice (Ty.slice (Ty.slice Ty.int)) w173 R172 v8 c0_4 → Sub [(0, .pointer (some ⟨B0, 0, none⟩)), (4, .pointer (some ⟨bl136, 0, none⟩)), (5, .int .i64 x140.to)] E_ → K153 E_ w173 := by
        intro x177 x183 x189 x194 v175 v176 v181 v182 v187 v188 v193 R172 w173 E_ h hS f186 hsub
        refine hK153 _ _ (e_sub hsub ?_); clear hsub
        unfold indexed_computation_receive_J1 at h
        refine e_region_draw mixed (feet [HP.own Ty.int (fun _ => False) 3 v2 c0_0, HP.own Ty.raw (fun _ => False) 27 v175 v176, HP.famS Ty.int (fun _ => False) 3 v176 x177, HP.own arcTy (fun _ => False) 107 v5 c0_2, HP.own Ty.raw (fun _ => False) 27 v181 v182, HP.famS Ty.int (fun _ => False) 3 v182 x183, HP.own Ty.raw (fun _ => False) 99 v187 v188, HP.famS Ty.bool (fun _ => False) 4 v188 x189, HP.own Ty.int (fun _ => False) 3 v193 x194, HP.own indexedLetterTy (fun _ => False) 160 v151 r150]) [0, 1, 3, 7, 15, 31, 0, 64, 0, 0, 768, 2047, 4095, 8191] [10] [0, 1, 2, 3, 4, 5, 6, 7, 8, 9, 10, 11, 12, 13] (by kernel_rfl) ?_
        refine q_move rfl rfl ?_
        refine q_nilCheck rfl rfl ?_
        refine q_field rfl rfl ?_
        refine q_field rfl rfl ?_
        refine q_field rfl rfl ?_
        refine q_load rfl (Blk.cell (hS.blk 0 rfl) rfl) rfl ?_ (hX := fun hx_ => by obtain ⟨c_, hc_, hk_⟩ := hx_; simp only [List.mem_cons, List.not_mem_nil, or_false] at hc_; rcases hc_ with rfl | rfl | rfl | rfl | rfl | rfl | rfl | rfl | rfl | rfl <;> (first | exact hS.apart 0 1 rfl rfl (by decide) _ rfl hk_ | exact hS.apart 0 2 rfl rfl (by decide) _ rfl hk_ | exact hS.apart 0 3 rfl rfl (by decide) _ rfl hk_ | exact hS.apart 0 4 rfl rfl (by decide) _ rfl hk_ | exact hS.apart 0 5 rfl rfl (by decide) _ rfl hk_ | exact hS.apart 0 6 rfl rfl (by decide) _ rfl hk_ | exact hS.apart 0 7 rfl rfl (by decide) _ rfl hk_ | exact hS.apart 0 8 rfl rfl (by decide) _ rfl hk_ | exact hS.apart 0 9 rfl rfl (by decide) _ rfl hk_ | exact hS.apart 0 10 rfl rfl (by decide) _ rfl hk_))
        refine q_field rfl rfl ?_
        refine q_load rfl (Blk.cell (hS.blk 11 rfl) rfl) rfl ?_ (hX := fun hx_ => by obtain ⟨c_, hc_, hk_⟩ := hx_; simp only [List.mem_cons, List.not_mem_nil, or_false] at hc_; rcases hc_ with rfl | rfl | rfl | rfl | rfl | rfl | rfl | rfl | rfl | rfl <;> (first | exact hS.apart 11 1 rfl rfl (by decide) _ rfl hk_ | exact hS.apart 11 2 rfl rfl (by decide) _ rfl hk_ | exact hS.apart 11 3 rfl rfl (by decide) _ rfl hk_ | exact hS.apart 11 4 rfl rfl (by decide) _ rfl hk_ | exact hS.apart 11 5 rfl rfl (by decide) _ rfl hk_ | exact hS.apart 11 6 rfl rfl (by decide) _ rfl hk_ | exact hS.apart 11 7 rfl rfl (by decide) _ rfl hk_ | exact hS.apart 11 8 rfl rfl (by decide) _ rfl hk_ | exact hS.apart 11 9 rfl rfl (by decide) _ rfl hk_ | exact hS.apart 11 10 rfl rfl (by decide) _ rfl hk_))
        refine q_move rfl rfl ?_
        refine q_move rfl rfl ?_
        obtain ⟨r203, hr203, h⟩ := Option.of_bind h
        refine q_call rfl (indexed_computation_event_w (Sep.enter (As := [_, _, _, _, _, _, _, _, _, _, _]) hS) f186 hr203) rfl ?_
        rintro _ w202 ⟨R202, rfl, hC202⟩
        refine ⟨fun _ => hC202.relXq (hS.blk 0 rfl), ?_⟩
        have hk202 := hC202.keptR (Sep.offFeet (As := [_, _, _, _, _, _, _, _, _, _, _]) hS)
        replace f186 := (f186.kept hk202).mono fun k hk _ => hC202.ro0 k hk
        replace hS := Sep.leave (As := [_, _, _, _, _, _, _, _, _, _, _]) hS hC202; simp only [List.cons_append, List.nil_append] at hS
        obtain ⟨x205, hx205, h⟩ := Option.of_bind h
        refine q_indexO (by infer_instance) rfl (hS.own 4 rfl) rfl hx205 rfl ?_
        refine q_field rfl rfl ?_
        obtain ⟨x207, hx207, h⟩ := Option.of_bind h
        refine q_storeO (T := arcTy) (j := 3) rfl rfl (hS.own 4 rfl) hx205 hx207 rfl rfl rfl (Enc.setL rfl) fun w206 ho206 hO206 => ?_
        have hk206 := hS.keptO 4 rfl hx205 hO206
        replace f186 := f186.kept hk206
        replace hS := hS.putO 4 rfl hx205 ho206 hO206; simp only [List.set] at hS
        refine eseq_nil ?_
        obtain rfl := Option.some.inj h
        exact ⟨_, res0 rfl, v2, v175, v176, v5, v181, v182, v187, v188, v193, v151, _, rfl, (hS.pickB [0, 1, 2, 3, 4, 5, 6, 7, 8, 9, 10] 12 rfl rfl)⟩
      refine e_seq fun K208 hK208 => ?_
      refine e_region_draw mixed (fun _ => False) [0, 1, 3, 7, 0, 31, 63, 0, 128, 511] [] [0, 1, 2, 3, 4, 5, 6, 7, 8, 9] (by kernel_rfl) ?_
      refine q_move rfl rfl ?_
      refine q_nilCheck rfl rfl ?_
      refine q_field rfl rfl ?_
      refine q_load rfl (Blk.cell (hS.blk 2 rfl) rfl) rfl ?_
      refine q_move rfl rfl ?_
      obtain ⟨x209, hx209, h⟩ := Option.of_bind h
      refine q_indexO (by infer_instance) rfl (hS.own 11 rfl) rfl hx209 rfl ?_
      have f210 := (hS.ownR 11 rfl).elt hx209
      refine q_load rfl (Elt.intCell f210) rfl ?_
      refine q_field rfl rfl ?_
      refine q_load rfl (Blk.cell (hS.blk 1 rfl) rfl) rfl ?_
      obtain ⟨r212, hr212, h⟩ := Option.of_bind h
      refine q_call rfl (indexed_Forces_w (Sep.enter (As := []) hS)  hr212) rfl ?_
      rintro _ w211 ⟨R211, rfl, hC211⟩
      have hB211 : Below (World.heap w152).size w152 w211 := hC211.stepB0
      refine ⟨fun _ => .of_below hB211, ?_⟩
      replace f8 := (f8.ext hB211).mono fun k hk _ => hC211.ro0 k hk
      replace hS := Sep.leave (As := []) hS hC211; simp only [List.cons_append, List.nil_append] at hS
      refine eseq_nil ?_
      refine hK208 _ _ ?_
      refine e_cond rfl (fun hc213 => ?_) (fun hc213 => ?_)
      · replace h := (if_pos hc213).symm.trans h
        refine e_seq fun K214 hK214 => ?_
        refine e_region_draw mixed (fun _ => False) [0, 1, 3, 7, 0, 0, 32, 127, 255] [] [0, 1, 2, 3, 4, 5, 6, 7, 8] (by kernel_rfl) ?_
        refine q_move rfl rfl ?_
        refine q_nilCheck rfl rfl ?_
        refine q_field rfl rfl ?_
        refine q_load rfl (Blk.cell (hS.blk 2 rfl) rfl) rfl ?_
        refine q_move rfl rfl ?_
        refine q_field rfl rfl ?_
        refine q_load rfl (Blk.cell (hS.blk 1 rfl) rfl) rfl ?_
        obtain ⟨x215, hx215, h⟩ := Option.of_bind h
        refine q_indexO (by infer_instance) rfl (hS.own 11 rfl) rfl hx215 rfl ?_
        obtain ⟨x217, hx217, h⟩ := Option.of_bind h
        refine q_storeO (T := Ty.int) (j := 0) rfl rfl (hS.own 11 rfl) hx215 hx217 rfl rfl rfl (Enc.setL rfl) fun w216 ho216 hO216 => ?_
        have hk216 := hS.keptO 11 rfl hx215 hO216
        replace f8 := f8.kept hk216
        replace hS := hS.putO 11 rfl hx215 ho216 hO216; simp only [List.set] at hS
        refine eseq_nil ?_
        refine hK214 _ _ ?_
        refine e_region_text rfl ?_
        refine q_move rfl rfl ?_
        refine q_move rfl rfl ?_
        obtain ⟨r219, hr219, h⟩ := Option.of_bind h
        replace hS := hS.pickB [2, 3, 4, 5, 6, 7, 8, 9, 10, 11, 0, 1] 12 rfl rfl; simp only [List.map_cons, List.map_nil, List.getD_cons_zero, List.getD_cons_succ] at hS
        refine q_call rfl (indexed_computation_checkpoint_w (Sep.enter (As := [_, _, _, _, _, _, _, _, _, _, _]) hS) f8 hr219) rfl ?_
        rintro _ w218 ⟨v220, v221, v222, v223, v224, v225, R218, rfl, hC218⟩
        refine ⟨(fun h => by cases h), ?_⟩
        have hk218 := hC218.keptR (Sep.offFeet (As := [_, _, _, _, _, _, _, _, _, _, _]) hS)
        replace f8 := (f8.kept hk218).mono fun k hk _ => hC218.ro0 k hk
        replace hS := Sep.leave (As := [_, _, _, _, _, _, _, _, _, _, _]) hS hC218; simp only [List.cons_append, List.nil_append] at hS
        refine eseq_nil ?_
        exact hJ153 r219.1 r219.2.1 r219.2.2 x217 v220 v221 v222 v223 v224 v225 v11 _ _ _ h hS f8 (Sub.cons rfl (Sub.cons rfl (Sub.cons rfl (Sub.nil _))))
      · replace h := (if_neg (not_true hc213)).symm.trans h
        refine e_skip ?_
        exact hJ153 c0_1 c0_3 c0_5 c0_6 v3 v4 v6 v7 v9 v10 v11 _ _ _ h (hS.pickB [2, 3, 4, 5, 6, 7, 8, 9, 10, 11, 0, 1] 12 rfl rfl) f8 (Sub.cons rfl (Sub.cons rfl (Sub.cons rfl (Sub.nil _))))
theorem indexed_Play_w {F R : Nat → Prop} {w : World} {fuel : Nat} {a0 : Int} {a1 : (List Deed)} {v1 : Value} {r : (Hist × Int)} (hS : Sep F R R w w []) (f1 : IsSlice deedTy w R v1 a1) (h : indexed_Play fuel a0 a1 = some r) :
    Gives Try.prog 22 [.int .i64 a0, v1] w fun u w1 => ∃ (v486 : Value), ∃ (v487 : Value), ∃ (v488 : List Value), ∃ (v489 : Value), ∃ (v490 : Value), ∃ (v491 : List Value), ∃ (v493 : Value), ∃ (v494 : List Value), ∃ (R1 : Nat → Prop), u = .tuple #[.agg #[v486, v487, v489, v490, .slice none 0 0, v493], .int .i64 r.2] ∧ Sep F R R1 w w1 [HP.own Ty.int (fun _ => False) 3 v486 r.1.pat.lens, HP.own Ty.raw (fun _ => False) 27 v487 v488, HP.famS Ty.int (fun _ => False) 3 v488 r.1.pat.ckpts, HP.own arcTy (fun _ => False) 107 v489 r.1.pat.arcs, HP.own Ty.raw (fun _ => False) 27 v490 v491, HP.famS Ty.int (fun _ => False) 3 v491 r.1.clocks, HP.own Ty.raw (fun _ => False) 99 v493 v494, HP.famS Ty.bool (fun _ => False) 4 v494 r.1.forced] := by
  refine fn_of Try.func22 rfl Try.ntmps22 (Nat.le_of_ble_eq_true rfl) ?_
  unfold indexed_Play at h
  refine e_seq fun K495 hK495 => ?_
  refine e_region_text rfl ?_
  refine q_allocB rfl fun w496 bl496 hg496 hb496 hB496 => ?_
  replace f1 := f1.ext hB496
  replace hS := hS.newBlk hB496 hg496 hb496
  refine q_assign rfl rfl ?_
  refine eseq_nil ?_
  refine hK495 _ _ ?_
  refine e_seq fun K498 hK498 => ?_
  refine e_seq fun K499 hK499 => ?_
  refine e_region_text rfl ?_
  refine q_move rfl rfl ?_
  refine q_lss rfl rfl rfl ?_
  refine q_move rfl rfl ?_
  obtain ⟨x503, hx502, h⟩ := Option.of_bind h
  refine g_orM 2 hx502 rfl trivial rfl rfl ?_ ?_ ?_
  · intro hg502
    refine g_skip rfl rfl rfl ?_
    refine g_skip rfl rfl rfl ?_
    exact eseq_nil ⟨rfl, Sub.set rfl (Sub.set rfl (Sub.bool true rfl hg502))⟩
  · intro hg502 hx502
    clear h
    have hT502 := Below.refl (World.heap w496).size w496
    refine g_run rfl ?_; refine q_move rfl rfl ?_
    refine g_run rfl ?_; refine q_gtr rfl rfl rfl ?_
    cases hx502
    exact eseq_nil ⟨hT502, Sub.set rfl (Sub.set rfl (Sub.bool false rfl hg502)), rfl⟩
  intro wm502 hBm502; clear hx502
  replace hS := hS.below hBm502
  replace f1 := f1.ext hBm502
  refine eseq_nil ?_
  refine hK499 _ _ ?_
  refine e_cond rfl (fun hc504 => ?_) (fun hc504 => ?_)
  · replace h := (if_pos hc504).symm.trans h
    refine e_seq fun K505 hK505 => ?_
    refine e_region_text rfl ?_
    refine q_build Parts.nil rfl rfl ?_
    refine q_storeAgg rfl rfl (hS.blk 0 rfl) rfl (Nat.le_of_ble_eq_true rfl) (all_cons rfl (all_cons rfl (all_cons rfl (all_cons rfl (all_cons rfl (all_cons rfl (all_nil))))))) rfl rfl fun w506 hb506 hO506 => ?_
    simp only [setN, List.set, List.take, List.drop] at hb506
    have hk506 := hS.keptBlk 0 rfl hO506
    replace hS := hS.setBlk 0 rfl hb506 hO506; simp only [List.set] at hS
    refine q_assign rfl rfl ?_
    refine eseq_nil ?_
    refine hK505 _ _ ?_
    refine e_ret ?_
    replace hS := hS.nilOwn0 Ty.int 3
    replace hS := hS.nilRows0 Ty.int 3 27
    replace hS := hS.nilOwn0 arcTy 107
    replace hS := hS.nilRows0 Ty.int 3 27
    replace hS := hS.nilRows0 Ty.bool 4 99
    obtain rfl := Option.some.inj h
    exact ⟨_, resCT rfl rfl ((hS.blk 8 rfl).cellsAt 0 6 rfl) rfl rfl, (.slice none 0 0), (.slice none 0 0), ([] : List Value), (.slice none 0 0), (.slice none 0 0), ([] : List Value), (.slice none 0 0), ([] : List Value), _, rfl, (hS.pickB [7, 5, 6, 4, 2, 3, 0, 1] 9 rfl rfl)⟩
  · replace h := (if_neg (not_true hc504)).symm.trans h
    refine e_skip ?_
    refine hK498 _ _ ?_
    refine e_seq fun K515 hK515 => ?_
    refine e_seq fun K516 hK516 => ?_
    refine e_region_text rfl ?_
    refine q_move rfl rfl ?_
    refine q_lenS rfl f1 rfl ?_
    refine q_gtr rfl rfl rfl ?_
    refine eseq_nil ?_
    refine hK516 _ _ ?_
    refine e_cond rfl (fun hc517 => ?_) (fun hc517 => ?_)
    · replace h := (if_pos hc517).symm.trans h
      refine e_seq fun K518 hK518 => ?_
      refine e_region_text rfl ?_
      refine q_build Parts.nil rfl rfl ?_
      refine q_storeAgg rfl rfl (hS.blk 0 rfl) rfl (Nat.le_of_ble_eq_true rfl) (all_cons rfl (all_cons rfl (all_cons rfl (all_cons rfl (all_cons rfl (all_cons rfl (all_nil))))))) rfl rfl fun w519 hb519 hO519 => ?_
      simp only [setN, List.set, List.take, List.drop] at hb519
      have hk519 := hS.keptBlk 0 rfl hO519
      replace hS := hS.setBlk 0 rfl hb519 hO519; simp only [List.set] at hS
      refine q_assign rfl rfl ?_
      refine eseq_nil ?_
      refine hK518 _ _ ?_
      refine e_ret ?_
      replace hS := hS.nilOwn0 Ty.int 3
      replace hS := hS.nilRows0 Ty.int 3 27
      replace hS := hS.nilOwn0 arcTy 107
      replace hS := hS.nilRows0 Ty.int 3 27
      replace hS := hS.nilRows0 Ty.bool 4 99
      obtain rfl := Option.some.inj h
      exact ⟨_, resCT rfl rfl ((hS.blk 8 rfl).cellsAt 0 6 rfl) rfl rfl, (.slice none 0 0), (.slice none 0 0), ([] : List Value), (.slice none 0 0), (.slice none 0 0), ([] : List Value), (.slice none 0 0), ([] : List Value), _, rfl, (hS.pickB [7, 5, 6, 4, 2, 3, 0, 1] 9 rfl rfl)⟩
    · replace h := (if_neg (not_true hc517)).symm.trans h
      refine e_skip ?_
      refine hK515 _ _ ?_
      refine e_seq fun K528 hK528 => ?_
      refine e_region_text rfl ?_
      refine q_move rfl rfl ?_
      obtain ⟨r530, hr530, h⟩ := Option.of_bind h
      refine q_call rfl (indexed_begin_w (Sep.enter (As := []) hS)  hr530) rfl ?_
      rintro _ w529 ⟨B531, v532, v533, v534, v536, v537, v539, v540, v541, R529, rfl, hC529⟩
      have hB529 : Below (World.heap wm502).size wm502 w529 := hC529.stepB0
      refine ⟨fun _ => .of_below hB529, ?_⟩
      replace f1 := (f1.ext hB529).mono fun k hk _ => hC529.ro0 k hk
      replace hS := Sep.leave (As := []) hS hC529; simp only [List.cons_append, List.nil_append] at hS
      refine q_assign rfl rfl ?_
      refine eseq_nil ?_
      refine hK528 _ _ ?_
      refine e_seq fun K543 hK543 => ?_
      refine e_seq fun K544 hK544 => ?_
      refine e_region_text rfl ?_
      refine q_move rfl rfl ?_
      refine q_lenS rfl f1 rfl ?_
      refine q_move rfl rfl ?_
      refine eseq_nil ?_
      refine hK544 _ _ ?_
      refine e_block ?_
      obtain ⟨tl545, ht545, h⟩ := Option.of_bind h
      have hX545_0 : ∀ (x912 : (List Int)) (x915 : (List (List Int))) (x920 : (List Arc)) (x923 : (List (List Int))) (x928 : (List (List Bool))) (x933 : (List Int)) (x936 : (List IndexedLetter)) (v911 : Value) (v913 : Value) (v914 : List Value) (v919 : Value) (v921 : Value) (v922 : List Value) (v926 : Value) (v927 : List Value) (v932 : Value) (v935 : Value) (R908 : Nat → Prop) (w909 : World) (E_ : Env), indexed_Play_K1 fuel x912 x915 x920 x923 x928 x933 x936 = some r → Sep F R R908 w w909 [HP.blk bl496 [.slice none 0 0, .slice none 0 0, .slice none 0 0, .slice none 0 0, .slice none 0 0, .slice none 0 0] 35, HP.blk B531 [v911, v913, v919, v921, .slice none 0 0, v926, v932, v935] 112, HP.own Ty.int (fun _ => False) 3 v911 x912, HP.own Ty.raw (fun _ => False) 27 v913 v914, HP.famS Ty.int (fun _ => False) 3 v914 x915, HP.own arcTy (fun _ => False) 107 v919 x920, HP.own Ty.raw (fun _ => False) 27 v921 v922, HP.famS Ty.int (fun _ => False) 3 v922 x923, HP.own Ty.raw (fun _ => False) 99 v926 v927, HP.famS Ty.bool (fun _ => False) 4 v927 x928, HP.own Ty.int (fun _ => False) 3 v932 x933, HP.own indexedLetterTy (fun _ => False) 160 v935 x936] → Sub [(4, .pointer (some ⟨bl496, 0, none⟩)), (6, .pointer (some ⟨B531, 0, none⟩))] E_ → K543 E_ w909 := by
        intro x912 x915 x920 x923 x928 x933 x936 v911 v913 v914 v919 v921 v922 v926 v927 v932 v935 R908 w909 E_ h hS  hsub
        refine hK543 _ _ (e_sub hsub ?_); clear hsub
        unfold indexed_Play_K1 at h
        refine e_seq fun K937 hK937 => ?_
        refine e_region_text rfl ?_
        refine q_move rfl rfl ?_
        refine q_nilCheck rfl rfl ?_
        refine q_field rfl rfl ?_
        refine q_loadAgg rfl (Blk.cellsAt (hS.blk 1 rfl) 0 6 rfl) rfl rfl ?_
        refine q_storeAgg rfl rfl (hS.blk 0 rfl) rfl (Nat.le_of_ble_eq_true rfl) (all_cons (hS.own 2 rfl).one (all_cons (hS.own 3 rfl).one (all_cons (hS.own 5 rfl).one (all_cons (hS.own 6 rfl).one (all_cons rfl (all_cons (hS.own 8 rfl).one (all_nil))))))) rfl rfl fun w938 hb938 hO938 => ?_
        simp only [setN, List.set, List.take, List.drop] at hb938
        have hk938 := hS.keptBlk 0 rfl hO938
        replace hS := hS.setBlk 0 rfl hb938 hO938; simp only [List.set] at hS
        refine q_assign rfl rfl ?_
        refine eseq_nil ?_
        refine hK937 _ _ ?_
        refine e_ret ?_
        obtain rfl := Option.some.inj h
        exact ⟨_, resCT rfl rfl ((hS.blk 0 rfl).cellsAt 0 6 rfl) rfl rfl, v911, v913, v914, v919, v921, v922, v926, v927, _, rfl, (hS.pickB [2, 3, 4, 5, 6, 7, 8, 9] 12 rfl rfl)⟩
      replace hS := hS.nilOwn0 arcTy 107
      replace hS := hS.nilOwn0 indexedLetterTy 160
      refine e_loop (fun m_ E_ w721 => ∃ (x724 : (List Int)), ∃ (x727 : (List (List Int))), ∃ (x732 : (List Arc)), ∃ (x735 : (List (List Int))), ∃ (x740 : (List (List Bool))), ∃ (x745 : (List Int)), ∃ (x748 : (List IndexedLetter)), ∃ (x750 : Int), ∃ (v723 : Value), ∃ (v725 : Value), ∃ (v726 : List Value), ∃ (v731 : Value), ∃ (v733 : Value), ∃ (v734 : List Value), ∃ (v738 : Value), ∃ (v739 : List Value), ∃ (v744 : Value), ∃ (v747 : Value), ∃ (R720 : Nat → Prop), iter (fun s => indexed_Play_B1 fuel a1 s.1 s.2.1 s.2.2.1 s.2.2.2.1 s.2.2.2.2.1 s.2.2.2.2.2.1 s.2.2.2.2.2.2.1 s.2.2.2.2.2.2.2) m_ (x724, x727, x732, x735, x740, x745, x748, x750) = some tl545 ∧ Sep F R R720 w w721 [HP.blk bl496 [.slice none 0 0, .slice none 0 0, .slice none 0 0, .slice none 0 0, .slice none 0 0, .slice none 0 0] 35, HP.blk B531 [v723, v725, v731, v733, .slice none 0 0, v738, v744, v747] 112, HP.own Ty.int (fun _ => False) 3 v723 x724, HP.own Ty.raw (fun _ => False) 27 v725 v726, HP.famS Ty.int (fun _ => False) 3 v726 x727, HP.own arcTy (fun _ => False) 107 v731 x732, HP.own Ty.raw (fun _ => False) 27 v733 v734, HP.famS Ty.int (fun _ => False) 3 v734 x735, HP.own Ty.raw (fun _ => False) 99 v738 v739, HP.famS Ty.bool (fun _ => False) 4 v739 x740, HP.own Ty.int (fun _ => False) 3 v744 x745, HP.own indexedLetterTy (fun _ => False) 160 v747 x748] ∧ IsSlice deedTy w721 R720 v1 a1 ∧ E_ = [(4, .pointer (some ⟨bl496, 0, none⟩)), (6, .pointer (some ⟨B531, 0, none⟩)), (22, v1), (23, .int .i64 (a1.length : Int)), (24, .int .i64 x750)]) _ ⟨_, ⟨r530.1, r530.2.1, ([] : List Arc), r530.2.2.2.1, r530.2.2.2.2.2.1, r530.2.2.2.2.2.2.1, ([] : List IndexedLetter), 0, v532, v533, v534, (.slice none 0 0), v536, v537, v539, v540, v541, (.slice none 0 0), _, ht545, (hS.pickB [11, 2, 3, 4, 5, 1, 6, 7, 8, 9, 10, 0] 12 rfl rfl), f1, rfl⟩, Sub.cons rfl (Sub.cons rfl (Sub.cons rfl (Sub.cons rfl (Sub.cons rfl (Sub.nil _)))))⟩ ?_
      clear ht545 hS
      rintro m545 _ w721 ⟨x724, x727, x732, x735, x740, x745, x748, x750, v723, v725, v726, v731, v733, v734, v738, v739, v744, v747, R720, ht545, hS, f749, rfl⟩
      obtain ⟨m545, rfl, o545, ho545, ht545⟩ := iter_some ht545
      replace ho545 : indexed_Play_B1 fuel a1 x724 x727 x732 x735 x740 x745 x748 x750 = some o545 := ho545
      unfold indexed_Play_B1 at ho545
      refine e_seq fun K941 hK941 => ?_
      refine e_region_text rfl ?_
      refine q_lss rfl rfl rfl ?_
      refine eseq_nil ?_
      refine hK941 _ _ ?_
      refine e_seq fun K942 hK942 => ?_
      refine e_cond rfl (fun hc943 => ?_) (fun hc943 => ?_)
      · replace ho545 := (if_pos hc943).symm.trans ho545
        refine e_skip ?_
        refine hK942 _ _ ?_
        refine e_seq fun K944 hK944 => ?_
        refine e_block ?_
        refine e_seq fun K945 hK945 => ?_
        refine e_region_text rfl ?_
        obtain ⟨x946, hx946, ho545⟩ := Option.of_bind ho545
        refine q_atS (by infer_instance) rfl f749 rfl hx946 rfl fun b947 o947 hm947 f947 => ?_
        have hc948 := Deed_open f947
        refine q_loadAgg rfl hc948 rfl rfl ?_
        refine q_allocB rfl fun w949 bl949 hg949 hb949 hB949 => ?_
        replace f749 := f749.ext hB949
        replace hS := hS.newBlk hB949 hg949 hb949
        refine q_storeAgg rfl rfl (hS.blk 0 rfl) rfl (Nat.le_of_ble_eq_true rfl) (all_cons rfl (all_cons rfl (all_cons rfl (all_nil)))) rfl rfl fun w951 hb951 hO951 => ?_
        simp only [setN, List.set, List.take, List.drop] at hb951
        have hk951 := hS.keptBlk 0 rfl hO951
        replace f749 := f749.kept hk951
        replace hS := hS.setBlk 0 rfl hb951 hO951; simp only [List.set] at hS
        refine eseq_nil ?_
        refine hK945 _ _ ?_
        refine e_seq fun K952 hK952 => ?_
        refine e_region_text rfl ?_
        refine q_field rfl rfl ?_
        refine q_load rfl (Blk.cell (hS.blk 0 rfl) rfl) rfl ?_
        refine eseq_nil ?_
        refine hK952 _ _ ?_
        refine e_block ?_
        refine e_seq fun K953 hK953 => ?_
        refine e_region_text rfl ?_
        refine q_eql rfl rfl rfl ?_
        refine q_assign rfl rfl ?_
        refine eseq_nil ?_
        refine hK953 _ _ ?_
        refine e_cond rfl (fun hc954 => ?_) (fun hc954 => ?_)
        · replace ho545 := (if_pos hc954).symm.trans ho545
          refine e_region_text rfl ?_
          refine q_move rfl rfl ?_
          refine q_field rfl rfl ?_
          refine q_load rfl (Blk.cell (hS.blk 0 rfl) rfl) rfl ?_
          refine q_field rfl rfl ?_
          refine q_load rfl (Blk.cell (hS.blk 0 rfl) rfl) rfl ?_
          obtain ⟨r956, hr956, ho545⟩ := Option.of_bind ho545
          replace hS := hS.pickB [2, 3, 4, 5, 6, 7, 8, 9, 10, 11, 12, 0, 1] 13 rfl rfl; simp only [List.map_cons, List.map_nil, List.getD_cons_zero, List.getD_cons_succ] at hS
          refine q_call rfl (indexed_computation_send_w (Sep.enter (As := [_, _, _, _, _, _, _, _, _, _, _]) hS) (IsSlice.nil _ _ _) hr956) rfl ?_
          rintro _ w955 ⟨v957, v958, v959, R955, rfl, hC955⟩
          refine ⟨(fun h => by cases h), ?_⟩
          have hk955 := hC955.keptR (Sep.offFeet (As := [_, _, _, _, _, _, _, _, _, _, _]) hS)
          replace f749 := (f749.kept hk955).mono fun k hk _ => hC955.ro0 k hk
          replace hS := Sep.leave (As := [_, _, _, _, _, _, _, _, _, _, _]) hS hC955; simp only [List.cons_append, List.nil_append] at hS
          refine eseq_nil ?_
          refine hK944 _ _ ?_
          refine e_region_text rfl ?_
          refine q_addW rfl rfl rfl ?_
          refine q_move rfl rfl ?_
          refine eseq_nil ?_
          obtain rfl := Option.some.inj ho545
          exact ⟨m545, _, Nat.lt_succ_self _, ⟨r956.1, x727, r956.2.1, x735, x740, x745, r956.2.2, (w64 (x750 + 1)), v957, v725, v726, v958, v733, v734, v738, v739, v744, v959, _, ht545, (hS.pickB [12, 0, 1, 2, 3, 4, 5, 6, 7, 8, 9, 10] 13 rfl rfl), f749, rfl⟩, Sub.cons rfl (Sub.cons rfl (Sub.cons rfl (Sub.cons rfl (Sub.cons rfl (Sub.nil _)))))⟩
        · replace ho545 := (if_neg (not_true hc954)).symm.trans ho545
          refine e_seq fun K960 hK960 => ?_
          refine e_region_text rfl ?_
          refine q_eql rfl rfl rfl ?_
          refine q_assign rfl rfl ?_
          refine eseq_nil ?_
          refine hK960 _ _ ?_
          refine e_cond rfl (fun hc961 => ?_) (fun hc961 => ?_)
          · replace ho545 := (if_pos hc961).symm.trans ho545
            refine e_region_text rfl ?_
            refine q_move rfl rfl ?_
            refine q_field rfl rfl ?_
            refine q_load rfl (Blk.cell (hS.blk 0 rfl) rfl) rfl ?_
            obtain ⟨r963, hr963, ho545⟩ := Option.of_bind ho545
            replace hS := hS.pickB [2, 3, 4, 5, 6, 7, 8, 9, 10, 11, 12, 0, 1] 13 rfl rfl; simp only [List.map_cons, List.map_nil, List.getD_cons_zero, List.getD_cons_succ] at hS
            refine q_call rfl (indexed_computation_receive_w (Sep.enter (As := [_, _, _, _, _, _, _, _, _, _, _]) hS) (IsSlice.nil _ _ _) hr963) rfl ?_
            rintro _ w962 ⟨v964, v965, v966, v967, v968, v969, v970, v971, v972, v973, R962, rfl, hC962⟩
            refine ⟨(fun h => by cases h), ?_⟩
            have hk962 := hC962.keptR (Sep.offFeet (As := [_, _, _, _, _, _, _, _, _, _, _]) hS)
            replace f749 := (f749.kept hk962).mono fun k hk _ => hC962.ro0 k hk
            replace hS := Sep.leave (As := [_, _, _, _, _, _, _, _, _, _, _]) hS hC962; simp only [List.cons_append, List.nil_append] at hS
            refine eseq_nil ?_
            refine hK944 _ _ ?_
            refine e_region_text rfl ?_
            refine q_addW rfl rfl rfl ?_
            refine q_move rfl rfl ?_
            refine eseq_nil ?_
            obtain rfl := Option.some.inj ho545
            exact ⟨m545, _, Nat.lt_succ_self _, ⟨r963.1, r963.2.1, r963.2.2.1, r963.2.2.2.1, r963.2.2.2.2.1, r963.2.2.2.2.2.1, r963.2.2.2.2.2.2, (w64 (x750 + 1)), v964, v965, v966, v967, v968, v969, v970, v971, v972, v973, _, ht545, (hS.pickB [12, 0, 1, 2, 3, 4, 5, 6, 7, 8, 9, 10] 13 rfl rfl), f749, rfl⟩, Sub.cons rfl (Sub.cons rfl (Sub.cons rfl (Sub.cons rfl (Sub.cons rfl (Sub.nil _)))))⟩
          · replace ho545 := (if_neg (not_true hc961)).symm.trans ho545
            refine e_seq fun K974 hK974 => ?_
            refine e_region_text rfl ?_
            refine q_eql rfl rfl rfl ?_
            refine q_assign rfl rfl ?_
            refine eseq_nil ?_
            refine hK974 _ _ ?_
            refine e_cond rfl (fun hc975 => ?_) (fun hc975 => ?_)
            · replace ho545 := (if_pos hc975).symm.trans ho545
              refine e_seq fun K976 hK976 => ?_
              refine e_region_text rfl ?_
              refine q_move rfl rfl ?_
              refine q_field rfl rfl ?_
              refine q_load rfl (Blk.cell (hS.blk 0 rfl) rfl) rfl ?_
              obtain ⟨r978, hr978, ho545⟩ := Option.of_bind ho545
              refine q_call rfl (indexed_computation_process_w (Sep.all w951) (Lent.of (hS.blk 2 rfl)) ((hS.isl 3 rfl)).old ((hS.rowsI 4 5 rfl rfl (by decide))).old ((hS.isl 6 rfl)).old ((hS.rowsI 7 8 rfl rfl (by decide))).old ((IsSlice.nil (Ty.slice (Ty.slice Ty.int)) _ (fun _ => False))).old ((hS.rowsI 9 10 rfl rfl (by decide))).old ((hS.isl 11 rfl)).old ((hS.isl 12 rfl)).old hr978) rfl ?_
              rintro _ w977 ⟨R977, rfl, hC977⟩
              have hB977 : Below (World.heap w951).size w951 w977 := hC977.stepBF
              refine ⟨fun _ => .of_below hB977, ?_⟩
              replace f749 := f749.ext hB977
              replace hS := hS.below hB977
              refine eseq_nil ?_
              refine hK976 _ _ ?_
              refine e_cond rfl (fun hc979 => ?_) (fun hc979 => ?_)
              · replace ho545 := (if_pos hc979).symm.trans ho545
                refine e_seq fun K980 hK980 => ?_
                refine e_region_draw mixed (fun _ => False) [0, 1, 3, 7, 0, 16, 63, 127, 255, 511, 1023] [] [0, 1, 2, 3, 4, 5, 6, 7, 8, 9, 10] (by kernel_rfl) ?_
                refine q_move rfl rfl ?_
                refine q_nilCheck rfl rfl ?_
                refine q_field rfl rfl ?_
                refine q_load rfl (Blk.cell (hS.blk 2 rfl) rfl) rfl ?_
                refine q_field rfl rfl ?_
                refine q_load rfl (Blk.cell (hS.blk 0 rfl) rfl) rfl ?_
                obtain ⟨x981, hx981, ho545⟩ := Option.of_bind ho545
                refine q_indexO (by infer_instance) rfl (hS.own 11 rfl) rfl hx981 rfl ?_
                have f982 := (hS.ownR 11 rfl).elt hx981
                refine q_load rfl (Elt.intCell f982) rfl ?_
                refine q_addW rfl rfl rfl ?_
                obtain ⟨x983, hx983, ho545⟩ := Option.of_bind ho545
                refine q_indexO (by infer_instance) rfl (hS.own 11 rfl) rfl hx983 rfl ?_
                obtain ⟨x985, hx985, ho545⟩ := Option.of_bind ho545
                refine q_storeO (T := Ty.int) (j := 0) rfl rfl (hS.own 11 rfl) hx983 hx985 rfl rfl rfl (Enc.setL rfl) fun w984 ho984 hO984 => ?_
                have hk984 := hS.keptO 11 rfl hx983 hO984
                replace f749 := f749.kept hk984
                replace hS := hS.putO 11 rfl hx983 ho984 hO984; simp only [List.set] at hS
                refine eseq_nil ?_
                refine hK980 _ _ ?_
                refine e_region_text rfl ?_
                refine q_move rfl rfl ?_
                refine q_field rfl rfl ?_
                refine q_load rfl (Blk.cell (hS.blk 0 rfl) rfl) rfl ?_
                obtain ⟨r987, hr987, ho545⟩ := Option.of_bind ho545
                replace hS := hS.pickB [2, 3, 4, 5, 6, 7, 8, 9, 10, 11, 12, 0, 1] 13 rfl rfl; simp only [List.map_cons, List.map_nil, List.getD_cons_zero, List.getD_cons_succ] at hS
                refine q_call rfl (indexed_computation_checkpoint_w (Sep.enter (As := [_, _, _, _, _, _, _, _, _, _, _]) hS) (IsSlice.nil _ _ _) hr987) rfl ?_
                rintro _ w986 ⟨v988, v989, v990, v991, v992, v993, R986, rfl, hC986⟩
                refine ⟨(fun h => by cases h), ?_⟩
                have hk986 := hC986.keptR (Sep.offFeet (As := [_, _, _, _, _, _, _, _, _, _, _]) hS)
                replace f749 := (f749.kept hk986).mono fun k hk _ => hC986.ro0 k hk
                replace hS := Sep.leave (As := [_, _, _, _, _, _, _, _, _, _, _]) hS hC986; simp only [List.cons_append, List.nil_append] at hS
                refine eseq_nil ?_
                refine hK944 _ _ ?_
                refine e_region_text rfl ?_
                refine q_addW rfl rfl rfl ?_
                refine q_move rfl rfl ?_
                refine eseq_nil ?_
                obtain rfl := Option.some.inj ho545
                exact ⟨m545, _, Nat.lt_succ_self _, ⟨x724, r987.1, x732, r987.2.1, r987.2.2, x985, x748, (w64 (x750 + 1)), v723, v988, v989, v731, v990, v991, v992, v993, v744, v747, _, ht545, (hS.pickB [12, 0, 1, 2, 3, 4, 5, 6, 7, 8, 9, 10] 13 rfl rfl), f749, rfl⟩, Sub.cons rfl (Sub.cons rfl (Sub.cons rfl (Sub.cons rfl (Sub.cons rfl (Sub.nil _)))))⟩
              · replace ho545 := (if_neg (not_true hc979)).symm.trans ho545
                refine e_skip ?_
                refine hK944 _ _ ?_
                refine e_region_text rfl ?_
                refine q_addW rfl rfl rfl ?_
                refine q_move rfl rfl ?_
                refine eseq_nil ?_
                obtain rfl := Option.some.inj ho545
                exact ⟨m545, _, Nat.lt_succ_self _, ⟨x724, x727, x732, x735, x740, x745, x748, (w64 (x750 + 1)), v723, v725, v726, v731, v733, v734, v738, v739, v744, v747, _, ht545, (hS.pickB [1, 2, 3, 4, 5, 6, 7, 8, 9, 10, 11, 12] 13 rfl rfl), f749, rfl⟩, Sub.cons rfl (Sub.cons rfl (Sub.cons rfl (Sub.cons rfl (Sub.cons rfl (Sub.nil _)))))⟩
            · replace ho545 := (if_neg (not_true hc975)).symm.trans ho545
              refine e_skip ?_
              refine hK944 _ _ ?_
              refine e_region_text rfl ?_
              refine q_addW rfl rfl rfl ?_
              refine q_move rfl rfl ?_
              refine eseq_nil ?_
              obtain rfl := Option.some.inj ho545
              exact ⟨m545, _, Nat.lt_succ_self _, ⟨x724, x727, x732, x735, x740, x745, x748, (w64 (x750 + 1)), v723, v725, v726, v731, v733, v734, v738, v739, v744, v747, _, ht545, (hS.pickB [1, 2, 3, 4, 5, 6, 7, 8, 9, 10, 11, 12] 13 rfl rfl), f749, rfl⟩, Sub.cons rfl (Sub.cons rfl (Sub.cons rfl (Sub.cons rfl (Sub.cons rfl (Sub.nil _)))))⟩
      · replace ho545 := (if_neg (not_true hc943)).symm.trans ho545
        refine e_exit ?_
        obtain rfl := Option.some.inj ho545
        obtain rfl := Option.some.inj ht545
        exact hX545_0 x724 x727 x732 x735 x740 x745 x748 v723 v725 v726 v731 v733 v734 v738 v739 v744 v747 _ _ _ h hS  (Sub.cons rfl (Sub.cons rfl (Sub.nil _)))
end Go.Proofs.Ytbmjcbhappjnaaa
