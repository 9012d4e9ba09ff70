/- The reference's CheckModule. -/
import Derived.Test.YtlbmnioibiomfaaMChk
import Derived.Test.YtlbmnioibiomfaaRIns
import Derived.Test.YtlbmnioibiomfaaRLay
namespace Go.Proofs.Ytlbmnioibiomfaa
open Go.RowKit Go.Shelf
set_option linter.unusedVariables false
set_option linter.unusedSimpArgs false
set_option maxRecDepth 100000
set_option maxRecDepth 100000 in
theorem sMRChk1 : type_of% (And.intro (And.intro (And.intro @fBox.eq_1 (And.intro @tBox.eq_1 @iBox.eq_1)) (And.intro @mBox.eq_1 (And.intro @gBox.eq_1 @flBox.eq_1))) (And.intro (And.intro @fdV.eq_1 (And.intro @tyV.eq_1 @insV.eq_1)) (And.intro (And.intro @fnV.eq_1 @modV.eq_1) (And.intro @fltV.eq_1 @fineF.eq_1)))) := (And.intro (And.intro (And.intro @fBox.eq_1 (And.intro @tBox.eq_1 @iBox.eq_1)) (And.intro @mBox.eq_1 (And.intro @gBox.eq_1 @flBox.eq_1))) (And.intro (And.intro @fdV.eq_1 (And.intro @tyV.eq_1 @insV.eq_1)) (And.intro (And.intro @fnV.eq_1 @modV.eq_1) (And.intro @fltV.eq_1 @fineF.eq_1))))
theorem fault_any (e f a : Int) (W : World) : Calls Try.prog 32 #[.int .i64 e, .int .i64 f, .int .i64 a] W fun en w' => en = .returned (fltV (e, f, a)) ∧ Below W.heap.size W w' := by
  refine calls_cv2 (M := []) (n := 11) [.cell 6 36] rfl Try.func32 rfl rfl (Nat.le_of_ble_eq_true rfl) (St.nil _ _) ?_
  refine cv_seq_k fun K hK => ?_
  refine cv_region_then rfl ?_
  simp -implicitDefEqProofs (disch := first | omega | decide) only [seval, -Int.reducePow, -Nat.reducePow, cC, pv, binv, sMRChk1, undef]
  intro b hb
  refine hK _ _ ?_
  clear hK K
  refine cv_seq_k fun K hK => ?_
  refine cv_region_then rfl ?_
  simp -implicitDefEqProofs (disch := first | omega | decide) only [seval, -Int.reducePow, -Nat.reducePow, cC, pv, binv, sMRChk1, undef]
  refine hK _ _ ?_
  clear hK K
  refine cv_ret ?_
  simp -implicitDefEqProofs (disch := first | omega | decide) only [seval, -Int.reducePow, -Nat.reducePow, cC, pv, binv, sMRChk1, undef, retQ2, ressV, packV]
  intro w hw
  exact hw.below
theorem fine_any (W : World) : Calls Try.prog 35 #[] W fun en w' => en = .returned (fltV fineF) ∧ Below W.heap.size W w' := by
  refine calls_cv2 (M := []) (n := 2) [.cell 0 36] rfl Try.func35 rfl rfl (Nat.le_of_ble_eq_true rfl) (St.nil _ _) ?_
  refine cv_seq_k fun K hK => ?_
  refine cv_region_then rfl ?_
  simp -implicitDefEqProofs (disch := first | omega | decide) only [seval, -Int.reducePow, -Nat.reducePow, cC, pv, binv, sMRChk1, undef]
  intro b hb
  refine hK _ _ ?_
  clear hK K
  refine cv_seq_k fun K hK => ?_
  refine cv_region_then rfl ?_
  simp -implicitDefEqProofs (disch := first | omega | decide) only [seval, -Int.reducePow, -Nat.reducePow, cC, pv, binv, sMRChk1, undef]
  refine hK _ _ ?_
  clear hK K
  refine cv_ret ?_
  simp -implicitDefEqProofs (disch := first | omega | decide) only [seval, -Int.reducePow, -Nat.reducePow, cC, pv, binv, sMRChk1, undef, retQ2, ressV, packV]
  intro w hw
  exact hw.below
set_option maxHeartbeats 4000000 in
theorem rcheckFunc_any (m : ModR) (k : Nat) (x : FnR) (W : World) (hM : Mod W W.heap.size m) (hx : m.gs[k]? = some x) : Calls Try.prog 34 #[modV m, .int .i64 (k : Int)] W fun e w' => e = .returned (fltV (fltF k x)) ∧ Below W.heap.size W w' := by
  have hlg := hM.glen
  have hG := hM.gs
  have hfn := hM.fn
  obtain ⟨TA, tn, tc, ts, FA, fn, fc, gs⟩ := m
  dsimp only at *
  have hlt : k < fn := by have := (List.getElem?_eq_some_iff.1 hx).1; omega
  obtain ⟨b0, off, rfl, hb0, -⟩ := hG.cells (by omega)
  have hX := hfn x (List.mem_of_getElem? hx)
  have hxl : x.code.length = x.n := cl_row insc_len (by omega) hX.len
  refine calls_cv2 (M := []) (n := 97) [.cell 4 36] rfl Try.func34 rfl rfl (Nat.le_of_ble_eq_true rfl) (St.nil _ _) ?_
  refine cv_seq_k fun K hK => ?_
  refine cv_region_then rfl ?_
  simp -implicitDefEqProofs (disch := first | omega | decide) only [seval, -Int.reducePow, -Nat.reducePow, cC, pv, binv, sMRChk1, undef]
  intro b1 hb1 b2 hb2 h2
  refine hK _ _ ?_
  clear hK K
  refine cv_seq_k fun K hK => ?_
  refine cv_region_then rfl ?_
  simp -implicitDefEqProofs (disch := first | omega | decide) only [seval, -Int.reducePow, -Nat.reducePow, cC, pv, binv, sMRChk1, undef]
  refine ⟨_, hG.fnl hx, fun tok htok => ?_⟩
  subst htok
  simp -implicitDefEqProofs (disch := first | omega | decide) only [seval, -Int.reducePow, -Nat.reducePow, cC, pv, binv, sMRChk1, undef]
  intro b5 hb5 h5
  refine hK _ _ ?_
  clear hK K
  refine cv_gen fun G1 hG => ?_
  have g1_1 := congrFun hG 1
  have g1_4 := congrFun hG 4
  have g1_5 := congrFun hG 5
  clear hG
  try simp -implicitDefEqProofs (disch := first | omega | decide) only [seval, -Int.reducePow, -Nat.reducePow, cC, pv, binv, sMRChk1, undef] at g1_1 g1_4 g1_5
  have g1 := And.intro g1_1 (And.intro g1_4 g1_5)
  refine cv_seq_k fun K hK => ?_
  refine cv_block ?_
  refine cv_seq_k fun K hK => ?_
  refine cv_cut (fun _ _ => True) (fun F' L' => F' 1 = G1 1 ∧ F' 4 = G1 4 ∧ F' 5 = G1 5 ∧ F' 13 = .bool (decide (x.p < 0 ∨ x.r < 0 ∨ x.l < 0)) ∧ L' = [gBox b5 x, flBox b2 0 0 0]) ?_ ?_
  · refine cv_pick [0, 1] (by decide) ?_
    simp only [pickL, nth]
    refine cv_region_then rfl ?_
    simp -implicitDefEqProofs (disch := first | omega | decide) only [seval, -Int.reducePow, -Nat.reducePow, cC, pv, binv, sMRChk1, undef, g1]
    repeat' ((first | refine vcg_cases (fun hg => ?_) (fun hg => ?_) | refine vdg_cases (fun hg => ?_) (fun hg => ?_)) <;> ((try simp only [Bool.not_eq_true', Bool.not_eq_false', decide_eq_true_eq, decide_eq_false_iff_not] at hg); (try simp -implicitDefEqProofs (disch := first | omega | decide) only [seval, -Int.reducePow, -Nat.reducePow, cC, pv, binv, sMRChk1, undef, hg, g1])))
    all_goals (repeat' refine And.intro ?_ ?_)
    all_goals (first | with_reducible rfl | (refine congrArg Value.bool ?_; rw [Bool.eq_iff_iff]; (try simp only [decide_eq_true_eq, eq_self, true_and, and_true, false_and, and_false, true_or, or_true, false_or, or_false, not_true_eq_false, not_false_eq_true, true_iff, iff_true, false_iff, iff_false, Bool.false_eq_true, Bool.not_eq_true', Bool.not_eq_true, decide_eq_false_iff_not, Bool.and_eq_true, Bool.or_eq_true]) <;> omega) | (refine congrArg (Value.int _) ?_; omega) | omega)
  intro G2 L' _ hF
  obtain ⟨q1, q4, q5, q13, rfl⟩ := hF
  have g2_1 := q1.trans g1_1
  have g2_4 := q4.trans g1_4
  have g2_5 := q5.trans g1_5
  have g2_13 := q13
  clear q1 q4 q5 q13
  have g2 := And.intro g2_1 (And.intro g2_4 (And.intro g2_5 g2_13))
  refine hK _ _ ?_
  clear hK K
  refine cv_cond ?_
  simp -implicitDefEqProofs (disch := first | omega | decide) only [seval, -Int.reducePow, -Nat.reducePow, cC, pv, binv, sMRChk1, undef, g2]
  refine ⟨fun hc => ?_, fun hc => ?_⟩
  · have q1 := of_decide_eq_true ‹_›
    refine cv_seq_k fun K hK => ?_
    refine cv_region_then rfl ?_
    simp -implicitDefEqProofs (disch := first | omega | decide) only [seval, -Int.reducePow, -Nat.reducePow, cC, pv, binv, sMRChk1, undef, g2]
    refine callV_ret (fun w hw => fault_any 3 (k : Int) (-1) w) ?_
    try simp -implicitDefEqProofs (disch := first | omega | decide) only [seval, -Int.reducePow, -Nat.reducePow, cC, pv, binv, sMRChk1, undef, g2]
    refine hK _ _ ?_
    clear hK K
    refine cv_ret ?_
    simp -implicitDefEqProofs (disch := first | omega | decide) only [seval, -Int.reducePow, -Nat.reducePow, cC, pv, binv, sMRChk1, undef, retQ2, ressV, packV, g2]
    intro w hw
    exact ⟨by unfold fltF fnErr; rw [if_pos q1] <;> rfl, hw.below⟩
  have q1 := of_decide_eq_false ‹_›
  refine cv_seq_k fun K hK => ?_
  refine cv_cut (fun _ _ => True) (fun F' L' => F' 1 = G2 1 ∧ F' 4 = G2 4 ∧ F' 5 = G2 5 ∧ F' 29 = .bool (decide (64 < x.p ∨ 64 - x.p < x.l ∨ 8 < x.r)) ∧ L' = [gBox b5 x, flBox b2 0 0 0]) ?_ ?_
  · refine cv_region_then rfl ?_
    simp -implicitDefEqProofs (disch := first | omega | decide) only [seval, -Int.reducePow, -Nat.reducePow, cC, pv, binv, sMRChk1, undef, g2]
    repeat' ((first | refine vcg_cases (fun hg => ?_) (fun hg => ?_) | refine vdg_cases (fun hg => ?_) (fun hg => ?_)) <;> ((try simp only [Bool.not_eq_true', Bool.not_eq_false', decide_eq_true_eq, decide_eq_false_iff_not] at hg); (try simp -implicitDefEqProofs (disch := first | omega | decide) only [seval, -Int.reducePow, -Nat.reducePow, cC, pv, binv, sMRChk1, undef, hg, wrap_in, g2])))
    all_goals (repeat' refine And.intro ?_ ?_)
    all_goals (first | with_reducible rfl | (refine congrArg Value.bool ?_; rw [Bool.eq_iff_iff]; (try simp only [decide_eq_true_eq, eq_self, true_and, and_true, false_and, and_false, true_or, or_true, false_or, or_false, not_true_eq_false, not_false_eq_true, true_iff, iff_true, false_iff, iff_false, Bool.false_eq_true, Bool.not_eq_true', Bool.not_eq_true, decide_eq_false_iff_not, Bool.and_eq_true, Bool.or_eq_true]) <;> omega) | (refine congrArg (Value.int _) ?_; omega) | omega)
  intro G3 L' _ hF
  obtain ⟨q1, q4, q5, q29, rfl⟩ := hF
  have g3_1 := q1.trans g2_1
  have g3_4 := q4.trans g2_4
  have g3_5 := q5.trans g2_5
  have g3_29 := q29
  clear q1 q4 q5 q29
  have g3 := And.intro g3_1 (And.intro g3_4 (And.intro g3_5 g3_29))
  refine hK _ _ ?_
  clear hK K
  refine cv_cond ?_
  simp -implicitDefEqProofs (disch := first | omega | decide) only [seval, -Int.reducePow, -Nat.reducePow, cC, pv, binv, sMRChk1, undef, g3]
  refine ⟨fun hc => ?_, fun hc => ?_⟩
  · have q2 := of_decide_eq_true ‹_›
    refine cv_seq_k fun K hK => ?_
    refine cv_region_then rfl ?_
    simp -implicitDefEqProofs (disch := first | omega | decide) only [seval, -Int.reducePow, -Nat.reducePow, cC, pv, binv, sMRChk1, undef, g3]
    refine callV_ret (fun w hw => fault_any 4 (k : Int) (-1) w) ?_
    try simp -implicitDefEqProofs (disch := first | omega | decide) only [seval, -Int.reducePow, -Nat.reducePow, cC, pv, binv, sMRChk1, undef, g3]
    refine hK _ _ ?_
    clear hK K
    refine cv_ret ?_
    simp -implicitDefEqProofs (disch := first | omega | decide) only [seval, -Int.reducePow, -Nat.reducePow, cC, pv, binv, sMRChk1, undef, retQ2, ressV, packV, g3]
    intro w hw
    exact ⟨by unfold fltF fnErr; rw [if_neg q1, if_pos q2] <;> rfl, hw.below⟩
  have q2 := of_decide_eq_false ‹_›
  refine cv_seq_k fun K hK => ?_
  refine cv_cut (fun _ _ => True) (fun F' L' => F' 1 = G3 1 ∧ F' 4 = G3 4 ∧ F' 5 = G3 5 ∧ F' 48 = .bool (decide ((k : Int) = 0 ∧ (¬ x.p = 0 ∨ ¬ x.r = 0))) ∧ L' = [gBox b5 x, flBox b2 0 0 0]) ?_ ?_
  · refine cv_region_then rfl ?_
    simp -implicitDefEqProofs (disch := first | omega | decide) only [seval, -Int.reducePow, -Nat.reducePow, cC, pv, binv, sMRChk1, undef, g3]
    repeat' ((first | refine vcg_cases (fun hg => ?_) (fun hg => ?_) | refine vdg_cases (fun hg => ?_) (fun hg => ?_)) <;> ((try simp only [Bool.not_eq_true', Bool.not_eq_false', decide_eq_true_eq, decide_eq_false_iff_not] at hg); (try simp -implicitDefEqProofs (disch := first | omega | decide) only [seval, -Int.reducePow, -Nat.reducePow, cC, pv, binv, sMRChk1, undef, hg, g3])))
    all_goals (repeat' refine And.intro ?_ ?_)
    all_goals (first | with_reducible rfl | (refine congrArg Value.bool ?_; rw [Bool.eq_iff_iff]; (try simp only [decide_eq_true_eq, eq_self, true_and, and_true, false_and, and_false, true_or, or_true, false_or, or_false, not_true_eq_false, not_false_eq_true, true_iff, iff_true, false_iff, iff_false, Bool.false_eq_true, Bool.not_eq_true', Bool.not_eq_true, decide_eq_false_iff_not, Bool.and_eq_true, Bool.or_eq_true]) <;> omega) | (refine congrArg (Value.int _) ?_; omega) | omega)
  intro G4 L' _ hF
  obtain ⟨q1, q4, q5, q48, rfl⟩ := hF
  have g4_1 := q1.trans g3_1
  have g4_4 := q4.trans g3_4
  have g4_5 := q5.trans g3_5
  have g4_48 := q48
  clear q1 q4 q5 q48
  have g4 := And.intro g4_1 (And.intro g4_4 (And.intro g4_5 g4_48))
  refine hK _ _ ?_
  clear hK K
  refine cv_cond ?_
  simp -implicitDefEqProofs (disch := first | omega | decide) only [seval, -Int.reducePow, -Nat.reducePow, cC, pv, binv, sMRChk1, undef, g4]
  refine ⟨fun hc => ?_, fun hc => ?_⟩
  · have q3 := of_decide_eq_true ‹_›
    refine cv_seq_k fun K hK => ?_
    refine cv_region_then rfl ?_
    simp -implicitDefEqProofs (disch := first | omega | decide) only [seval, -Int.reducePow, -Nat.reducePow, cC, pv, binv, sMRChk1, undef, g4]
    refine callV_ret (fun w hw => fault_any 3 (k : Int) (-1) w) ?_
    try simp -implicitDefEqProofs (disch := first | omega | decide) only [seval, -Int.reducePow, -Nat.reducePow, cC, pv, binv, sMRChk1, undef, g4]
    refine hK _ _ ?_
    clear hK K
    refine cv_ret ?_
    simp -implicitDefEqProofs (disch := first | omega | decide) only [seval, -Int.reducePow, -Nat.reducePow, cC, pv, binv, sMRChk1, undef, retQ2, ressV, packV, g4]
    intro w hw
    exact ⟨by unfold fltF fnErr; rw [if_neg q1, if_neg q2, if_pos q3] <;> rfl, hw.below⟩
  have q3 := of_decide_eq_false ‹_›
  refine cv_seq_k fun K hK => ?_
  refine cv_region_then rfl ?_
  simp -implicitDefEqProofs (disch := first | omega | decide) only [seval, -Int.reducePow, -Nat.reducePow, cC, pv, binv, sMRChk1, undef, g4]
  refine hK _ _ ?_
  clear hK K
  refine cv_cond ?_
  simp -implicitDefEqProofs (disch := first | omega | decide) only [seval, -Int.reducePow, -Nat.reducePow, cC, pv, binv, sMRChk1, undef, g4]
  refine ⟨fun hc => ?_, fun hc => ?_⟩
  · have q4 : x.code.length = 0 := by have := of_decide_eq_true ‹_›; omega
    refine cv_seq_k fun K hK => ?_
    refine cv_region_then rfl ?_
    simp -implicitDefEqProofs (disch := first | omega | decide) only [seval, -Int.reducePow, -Nat.reducePow, cC, pv, binv, sMRChk1, undef, g4]
    refine callV_ret (fun w hw => fault_any 3 (k : Int) (-1) w) ?_
    try simp -implicitDefEqProofs (disch := first | omega | decide) only [seval, -Int.reducePow, -Nat.reducePow, cC, pv, binv, sMRChk1, undef, g4]
    refine hK _ _ ?_
    clear hK K
    refine cv_ret ?_
    simp -implicitDefEqProofs (disch := first | omega | decide) only [seval, -Int.reducePow, -Nat.reducePow, cC, pv, binv, sMRChk1, undef, retQ2, ressV, packV, g4]
    intro w hw
    exact ⟨by unfold fltF fnErr; rw [if_neg q1, if_neg q2, if_neg q3, if_pos q4] <;> rfl, hw.below⟩
  have q4 : ¬ x.code.length = 0 := by have := of_decide_eq_false ‹_›; omega
  refine cv_seq_k fun K hK => ?_
  refine cv_region_then rfl ?_
  simp -implicitDefEqProofs (disch := first | omega | decide) only [seval, -Int.reducePow, -Nat.reducePow, cC, pv, binv, sMRChk1, undef, g4]
  refine hK _ _ ?_
  clear hK K
  refine cv_cond ?_
  simp -implicitDefEqProofs (disch := first | omega | decide) only [seval, -Int.reducePow, -Nat.reducePow, cC, pv, binv, sMRChk1, undef, g4]
  refine ⟨fun hc => ?_, fun hc => ?_⟩
  · have q5 : 1024 < x.code.length := by have := of_decide_eq_true ‹_›; omega
    refine cv_seq_k fun K hK => ?_
    refine cv_region_then rfl ?_
    simp -implicitDefEqProofs (disch := first | omega | decide) only [seval, -Int.reducePow, -Nat.reducePow, cC, pv, binv, sMRChk1, undef, g4]
    refine callV_ret (fun w hw => fault_any 4 (k : Int) (-1) w) ?_
    try simp -implicitDefEqProofs (disch := first | omega | decide) only [seval, -Int.reducePow, -Nat.reducePow, cC, pv, binv, sMRChk1, undef, g4]
    refine hK _ _ ?_
    clear hK K
    refine cv_ret ?_
    simp -implicitDefEqProofs (disch := first | omega | decide) only [seval, -Int.reducePow, -Nat.reducePow, cC, pv, binv, sMRChk1, undef, retQ2, ressV, packV, g4]
    intro w hw
    exact ⟨by unfold fltF fnErr; rw [if_neg q1, if_neg q2, if_neg q3, if_neg q4, if_pos q5] <;> rfl, hw.below⟩
  have q5 : ¬ 1024 < x.code.length := by have := of_decide_eq_false ‹_›; omega
  have hz2 : fnErr k x = 0 := by unfold fnErr; rw [if_neg q1, if_neg q2, if_neg q3, if_neg q4, if_neg q5]
  have hx1024 : x.code.length ≤ 1024 := by omega
  refine cv_skip ?_
  try simp only [blockQ, thenQ]
  refine hK _ _ ?_
  clear hK K
  refine cv_seq_k fun K hK => ?_
  refine cv_seq_k fun K hK => ?_
  refine cv_region_then rfl ?_
  simp -implicitDefEqProofs (disch := first | omega | decide) only [seval, -Int.reducePow, -Nat.reducePow, cC, pv, binv, sMRChk1, undef, g4]
  refine hK _ _ ?_
  clear hK K
  refine cv_gen fun G5 hG => ?_
  have g5_1 := congrFun hG 1
  have g5_4 := congrFun hG 4
  have g5_5 := congrFun hG 5
  have g5_6 := congrFun hG 6
  clear hG
  try simp -implicitDefEqProofs (disch := first | omega | decide) only [seval, -Int.reducePow, -Nat.reducePow, cC, pv, binv, sMRChk1, undef, g4] at g5_1 g5_4 g5_5 g5_6
  have g5 := And.intro g5_1 (And.intro g5_4 (And.intro g5_5 g5_6))
  refine cv_block ?_
  refine cv_loop (fun F' L' => ∃ (j : Nat), F' 1 = G5 1 ∧ F' 4 = G5 4 ∧ F' 5 = G5 5 ∧ F' 6 = .int .i64 (j : Int) ∧ L' = [gBox b5 x, flBox b2 0 0 0] ∧ j ≤ x.n ∧ firstI 0 x.code = firstI j (x.code.drop j)) (fun F' L' => 1100 - (intOf (F' 6)).toNat) ?_ ?_
  · refine ⟨0, ?_⟩
    simp -implicitDefEqProofs (disch := first | omega | decide) only [seval, -Int.reducePow, -Nat.reducePow, cC, pv, binv, sMRChk1, undef, g5]
    omega
  intro G6 L' hI
  obtain ⟨j, q1, q4, q5, q6, rfl, ⟨hj, hi⟩⟩ := hI
  have g6_1 := q1.trans g5_1
  have g6_4 := q4.trans g5_4
  have g6_5 := q5.trans g5_5
  have g6_6 := q6
  clear q1 q4 q5 q6
  have g6 := And.intro g6_1 (And.intro g6_4 (And.intro g6_5 g6_6))
  refine cv_seq_k fun K hK => ?_
  refine cv_seq_k fun K hK => ?_
  refine cv_region_then rfl ?_
  simp -implicitDefEqProofs (disch := first | omega | decide) only [seval, -Int.reducePow, -Nat.reducePow, cC, pv, binv, sMRChk1, undef, g5, g6]
  refine hK _ _ ?_
  clear hK K
  refine cv_cond ?_
  simp -implicitDefEqProofs (disch := first | omega | decide) only [seval, -Int.reducePow, -Nat.reducePow, cC, pv, binv, sMRChk1, undef, g5, g6]
  refine ⟨fun hc => ?_, fun hc => ?_⟩
  · refine cv_skip ?_
    try simp only [blockQ, thenQ]
    have hjt : j < x.n := by have := of_decide_eq_true ‹decide ((j : Int) < (x.n : Int)) = true›; omega
    obtain ⟨xb, xo, hxA, hxb, -⟩ := hX.cells (by omega)
    obtain ⟨y, hy⟩ := some_of (l := x.code) (i := j) (by omega)
    rw [drop_at' hy] at hi
    have hX' := hX
    rw [hxA] at hX'
    refine hK _ _ ?_
    clear hK K
    refine cv_seq_k fun K hK => ?_
    refine cv_block ?_
    refine cv_seq_k fun K hK => ?_
    refine cv_region_then rfl ?_
    simp -implicitDefEqProofs (disch := first | omega | decide) only [seval, -Int.reducePow, -Nat.reducePow, cC, pv, binv, sMRChk1, undef, hxA, g5, g6]
    refine ⟨_, hX'.ins hy, fun tok htok => ?_⟩
    subst htok
    simp -implicitDefEqProofs (disch := first | omega | decide) only [seval, -Int.reducePow, -Nat.reducePow, cC, pv, binv, sMRChk1, undef, g5, g6]
    refine callV_ret (fun w hw => r_icheck_any y w) ?_
    try simp -implicitDefEqProofs (disch := first | omega | decide) only [seval, -Int.reducePow, -Nat.reducePow, cC, pv, binv, sMRChk1, undef, g5, g6]
    refine hK _ _ ?_
    clear hK K
    refine cv_seq_k fun K hK => ?_
    refine cv_region_then rfl ?_
    simp -implicitDefEqProofs (disch := first | omega | decide) only [seval, -Int.reducePow, -Nat.reducePow, cC, pv, binv, sMRChk1, undef, g5, g6]
    refine hK _ _ ?_
    clear hK K
    refine cv_cond ?_
    simp -implicitDefEqProofs (disch := first | omega | decide) only [seval, -Int.reducePow, -Nat.reducePow, cC, pv, binv, sMRChk1, undef, g5, g6]
    refine ⟨fun hc => ?_, fun hc => ?_⟩
    · have hz3 : ¬ y.err = 0 := nd_true ‹(!decide (y.err = 0)) = true›
      rw [firstI_no _ hz3] at hi
      refine cv_seq_k fun K hK => ?_
      refine cv_region_then rfl ?_
      simp -implicitDefEqProofs (disch := first | omega | decide) only [seval, -Int.reducePow, -Nat.reducePow, cC, pv, binv, sMRChk1, undef, g5, g6]
      refine callV_ret (fun w hw => fault_any y.err (k : Int) (j : Int) w) ?_
      try simp -implicitDefEqProofs (disch := first | omega | decide) only [seval, -Int.reducePow, -Nat.reducePow, cC, pv, binv, sMRChk1, undef, g5, g6]
      refine hK _ _ ?_
      clear hK K
      refine cv_ret ?_
      simp -implicitDefEqProofs (disch := first | omega | decide) only [seval, -Int.reducePow, -Nat.reducePow, cC, pv, binv, sMRChk1, undef, retQ2, ressV, packV, g5, g6]
      intro w hw
      exact ⟨by unfold fltF; rw [if_pos hz2, hi, if_neg hz3] <;> rfl, hw.below⟩
    have hz3 : y.err = 0 := Decidable.not_not.1 (nd_false ‹(!decide (y.err = 0)) = false›)
    rw [firstI_yes _ hz3] at hi
    refine cv_skip ?_
    try simp only [blockQ, thenQ]
    refine hK _ _ ?_
    clear hK K
    refine cv_region_then rfl ?_
    simp -implicitDefEqProofs (disch := first | omega | decide) only [seval, -Int.reducePow, -Nat.reducePow, cC, pv, binv, sMRChk1, undef, wrap_in, g5, g6]
    refine ⟨⟨j + 1, ?_⟩, ?_⟩
    · simp -implicitDefEqProofs (disch := first | omega | decide) only [seval, -Int.reducePow, -Nat.reducePow, cC, pv, binv, sMRChk1, undef, Int.natCast_add, g5, g6]
      exact ⟨by first | rfl | rw [hxA], by omega, hi⟩
    · simp only [intOf]; omega
  refine cv_exit ?_
  simp only [blockQ, thenQ, if_true, ite_true]
  clear hK K
  refine hK _ _ ?_
  clear hK K
  have hje : j = x.n := by have := of_decide_eq_false ‹decide ((j : Int) < (x.n : Int)) = false›; omega
  rw [List.drop_of_length_le (by omega)] at hi
  refine cv_seq_k fun K hK => ?_
  refine cv_region_then rfl ?_
  simp -implicitDefEqProofs (disch := first | omega | decide) only [seval, -Int.reducePow, -Nat.reducePow, cC, pv, binv, sMRChk1, undef, g5, g6]
  refine callV_ret (fun w hw => fine_any w) ?_
  try simp -implicitDefEqProofs (disch := first | omega | decide) only [seval, -Int.reducePow, -Nat.reducePow, cC, pv, binv, sMRChk1, undef, g5, g6]
  refine hK _ _ ?_
  clear hK K
  refine cv_ret ?_
  simp -implicitDefEqProofs (disch := first | omega | decide) only [seval, -Int.reducePow, -Nat.reducePow, cC, pv, binv, sMRChk1, undef, retQ2, ressV, packV, g5, g6]
  intro w hw
  exact ⟨by unfold fltF; rw [if_pos hz2, hi] <;> rfl, hw.below⟩
set_option maxHeartbeats 4000000 in
theorem rmcheck_any (m : ModR) (W : World) (hM : Mod W W.heap.size m) : Calls Try.prog 16 #[modV m] W fun e w' => e = .returned (fltV (chkM m)) ∧ Below W.heap.size W w' := by
  have hlt := hM.tlen
  have hlg := hM.glen
  have hE := hM.ts
  have hty := hM.ty
  have hMat := fun {L : List Res} {w : World} (hw : St [] W L w) => hM.at hw
  obtain ⟨TA, tn, tc, ts, FA, fn, fc, gs⟩ := m
  dsimp only at *
  refine calls_cv2 (M := []) (n := 54) [.cell 2 36] rfl Try.func16 rfl rfl (Nat.le_of_ble_eq_true rfl) (St.nil _ _) ?_
  refine cv_seq_k fun K hK => ?_
  refine cv_region_then rfl ?_
  simp -implicitDefEqProofs (disch := first | omega | decide) only [seval, -Int.reducePow, -Nat.reducePow, cC, pv, binv, sMRChk1, undef]
  intro b hb b2 hb2 h2
  refine hK _ _ ?_
  clear hK K
  refine cv_gen fun G7 hG => ?_
  have g7_1 := congrFun hG 1
  have g7_2 := congrFun hG 2
  clear hG
  try simp -implicitDefEqProofs (disch := first | omega | decide) only [seval, -Int.reducePow, -Nat.reducePow, cC, pv, binv, sMRChk1, undef] at g7_1 g7_2
  have g7 := And.intro g7_1 g7_2
  refine cv_seq_k fun K hK => ?_
  refine cv_seq_k fun K hK => ?_
  refine cv_region_then rfl ?_
  simp -implicitDefEqProofs (disch := first | omega | decide) only [seval, -Int.reducePow, -Nat.reducePow, cC, pv, binv, sMRChk1, undef, g7]
  refine hK _ _ ?_
  clear hK K
  refine cv_cond ?_
  simp -implicitDefEqProofs (disch := first | omega | decide) only [seval, -Int.reducePow, -Nat.reducePow, cC, pv, binv, sMRChk1, undef, g7]
  refine ⟨fun hc => ?_, fun hc => ?_⟩
  · have q1 : 32 < ts.length := by have := of_decide_eq_true hc; omega
    refine cv_seq_k fun K hK => ?_
    refine cv_region_then rfl ?_
    simp -implicitDefEqProofs (disch := first | omega | decide) only [seval, -Int.reducePow, -Nat.reducePow, cC, pv, binv, sMRChk1, undef, g7]
    refine callV_ret (fun w hw => fault_any 4 (-1) (-1) w) ?_
    try simp -implicitDefEqProofs (disch := first | omega | decide) only [seval, -Int.reducePow, -Nat.reducePow, cC, pv, binv, sMRChk1, undef, g7]
    refine hK _ _ ?_
    clear hK K
    refine cv_ret ?_
    simp -implicitDefEqProofs (disch := first | omega | decide) only [seval, -Int.reducePow, -Nat.reducePow, cC, pv, binv, sMRChk1, undef, retQ2, ressV, packV, g7]
    intro w hw
    exact ⟨by unfold chkM chkP; dsimp only; rw [if_pos q1] <;> rfl, hw.below⟩
  have q1 : ¬ 32 < ts.length := by have := of_decide_eq_false hc; omega
  refine cv_skip ?_
  try simp only [blockQ, thenQ]
  refine hK _ _ ?_
  clear hK K
  refine cv_seq_k fun K hK => ?_
  refine cv_seq_k fun K hK => ?_
  refine cv_region_then rfl ?_
  simp -implicitDefEqProofs (disch := first | omega | decide) only [seval, -Int.reducePow, -Nat.reducePow, cC, pv, binv, sMRChk1, undef, g7]
  refine hK _ _ ?_
  clear hK K
  refine cv_gen fun G8 hG => ?_
  have g8_1 := congrFun hG 1
  have g8_2 := congrFun hG 2
  have g8_3 := congrFun hG 3
  clear hG
  try simp -implicitDefEqProofs (disch := first | omega | decide) only [seval, -Int.reducePow, -Nat.reducePow, cC, pv, binv, sMRChk1, undef, g7] at g8_1 g8_2 g8_3
  have g8 := And.intro g8_1 (And.intro g8_2 g8_3)
  refine cv_block ?_
  refine cv_loop (fun F' L' => ∃ (k : Nat), F' 1 = G8 1 ∧ F' 2 = G8 2 ∧ F' 3 = .int .i64 (k : Int) ∧ L' = [flBox b2 0 0 0, mBox b ⟨TA, tn, tc, ts, FA, fn, fc, gs⟩] ∧ k ≤ tn ∧ firstT ts = firstT (ts.drop k)) (fun F' L' => 40 - (intOf (F' 3)).toNat) ?_ ?_
  · refine ⟨0, ?_⟩
    simp -implicitDefEqProofs (disch := first | omega | decide) only [seval, -Int.reducePow, -Nat.reducePow, cC, pv, binv, sMRChk1, undef, g8]
    omega
  intro G9 L' hI
  obtain ⟨k, q1, q2, q3, rfl, ⟨hk, hf⟩⟩ := hI
  have g9_1 := q1.trans g8_1
  have g9_2 := q2.trans g8_2
  have g9_3 := q3
  clear q1 q2 q3
  have g9 := And.intro g9_1 (And.intro g9_2 g9_3)
  refine cv_seq_k fun K hK => ?_
  refine cv_seq_k fun K hK => ?_
  refine cv_region_then rfl ?_
  simp -implicitDefEqProofs (disch := first | omega | decide) only [seval, -Int.reducePow, -Nat.reducePow, cC, pv, binv, sMRChk1, undef, g8, g9]
  refine hK _ _ ?_
  clear hK K
  refine cv_cond ?_
  simp -implicitDefEqProofs (disch := first | omega | decide) only [seval, -Int.reducePow, -Nat.reducePow, cC, pv, binv, sMRChk1, undef, g8, g9]
  refine ⟨fun hc => ?_, fun hc => ?_⟩
  · refine cv_skip ?_
    try simp only [blockQ, thenQ]
    have hlt2 : k < tn := by have := of_decide_eq_true ‹_›; omega
    obtain ⟨b0, off, rfl, hb0, -⟩ := hE.cells (by omega)
    obtain ⟨x, hx⟩ := some_of (l := ts) (i := k) (by omega)
    have hX := hty x (List.mem_of_getElem? hx)
    rw [drop_at' hx] at hf
    refine hK _ _ ?_
    clear hK K
    refine cv_seq_k fun K hK => ?_
    refine cv_block ?_
    refine cv_seq_k fun K hK => ?_
    refine cv_region_then rfl ?_
    simp -implicitDefEqProofs (disch := first | omega | decide) only [seval, -Int.reducePow, -Nat.reducePow, cC, pv, binv, sMRChk1, undef, g8, g9]
    refine ⟨_, hE.tyl hx, fun tok htok => ?_⟩
    subst htok
    simp -implicitDefEqProofs (disch := first | omega | decide) only [seval, -Int.reducePow, -Nat.reducePow, cC, pv, binv, sMRChk1, undef, g8, g9]
    refine callV_ret (fun w hw => rcheck_any x.A x.n x.c x.fs x.len w (hX.at hw)) ?_
    try simp -implicitDefEqProofs (disch := first | omega | decide) only [seval, -Int.reducePow, -Nat.reducePow, cC, pv, binv, sMRChk1, undef, g8, g9]
    refine hK _ _ ?_
    clear hK K
    refine cv_seq_k fun K hK => ?_
    refine cv_region_then rfl ?_
    simp -implicitDefEqProofs (disch := first | omega | decide) only [seval, -Int.reducePow, -Nat.reducePow, cC, pv, binv, sMRChk1, undef, g8, g9]
    refine hK _ _ ?_
    clear hK K
    refine cv_cond ?_
    simp -implicitDefEqProofs (disch := first | omega | decide) only [seval, -Int.reducePow, -Nat.reducePow, cC, pv, binv, sMRChk1, undef, g8, g9]
    refine ⟨fun hc => ?_, fun hc => ?_⟩
    · have hz : ¬ chk x.len x.fs = 0 := nd_true ‹(!decide (chk x.len x.fs = 0)) = true›
      rw [firstT_no _ hz] at hf
      refine cv_seq_k fun K hK => ?_
      refine cv_region_then rfl ?_
      simp -implicitDefEqProofs (disch := first | omega | decide) only [seval, -Int.reducePow, -Nat.reducePow, cC, pv, binv, sMRChk1, undef, g8, g9]
      refine callV_ret (fun w hw => fault_any (chk x.len x.fs) (-1) (-1) w) ?_
      try simp -implicitDefEqProofs (disch := first | omega | decide) only [seval, -Int.reducePow, -Nat.reducePow, cC, pv, binv, sMRChk1, undef, g8, g9]
      refine hK _ _ ?_
      clear hK K
      refine cv_ret ?_
      simp -implicitDefEqProofs (disch := first | omega | decide) only [seval, -Int.reducePow, -Nat.reducePow, cC, pv, binv, sMRChk1, undef, retQ2, ressV, packV, g8, g9]
      intro w hw
      exact ⟨by unfold chkM chkP; dsimp only; rw [if_neg q1, hf, if_neg hz, if_neg hz] <;> rfl, hw.below⟩
    have hz : chk x.len x.fs = 0 := Decidable.not_not.1 (nd_false ‹(!decide (chk x.len x.fs = 0)) = false›)
    rw [firstT_yes _ hz] at hf
    refine cv_skip ?_
    try simp only [blockQ, thenQ]
    refine hK _ _ ?_
    clear hK K
    refine cv_region_then rfl ?_
    simp -implicitDefEqProofs (disch := first | omega | decide) only [seval, -Int.reducePow, -Nat.reducePow, cC, pv, binv, sMRChk1, undef, wrap_in, g8, g9]
    refine ⟨⟨k + 1, ?_⟩, ?_⟩
    · simp -implicitDefEqProofs (disch := first | omega | decide) only [seval, -Int.reducePow, -Nat.reducePow, cC, pv, binv, sMRChk1, undef, Int.natCast_add, g8, g9]
      exact ⟨by omega, hf⟩
    · simp only [intOf]; omega
  refine cv_exit ?_
  simp only [blockQ, thenQ, if_true, ite_true]
  clear hK K
  refine hK _ _ ?_
  clear hK K
  obtain rfl : tn = k := by have := of_decide_eq_false ‹_›; omega
  rw [List.drop_of_length_le (by omega)] at hf
  have hf : firstT ts = 0 := hf
  refine cv_seq_k fun K hK => ?_
  refine cv_seq_k fun K hK => ?_
  refine cv_region_then rfl ?_
  simp -implicitDefEqProofs (disch := first | omega | decide) only [seval, -Int.reducePow, -Nat.reducePow, cC, pv, binv, sMRChk1, undef, g8, g9]
  refine hK _ _ ?_
  clear hK K
  refine cv_cond ?_
  simp -implicitDefEqProofs (disch := first | omega | decide) only [seval, -Int.reducePow, -Nat.reducePow, cC, pv, binv, sMRChk1, undef, g8, g9]
  refine ⟨fun hc => ?_, fun hc => ?_⟩
  · have q2 : gs.length = 0 := by have := of_decide_eq_true ‹_›; omega
    refine cv_seq_k fun K hK => ?_
    refine cv_region_then rfl ?_
    simp -implicitDefEqProofs (disch := first | omega | decide) only [seval, -Int.reducePow, -Nat.reducePow, cC, pv, binv, sMRChk1, undef, g8, g9]
    refine callV_ret (fun w hw => fault_any 3 (-1) (-1) w) ?_
    try simp -implicitDefEqProofs (disch := first | omega | decide) only [seval, -Int.reducePow, -Nat.reducePow, cC, pv, binv, sMRChk1, undef, g8, g9]
    refine hK _ _ ?_
    clear hK K
    refine cv_ret ?_
    simp -implicitDefEqProofs (disch := first | omega | decide) only [seval, -Int.reducePow, -Nat.reducePow, cC, pv, binv, sMRChk1, undef, retQ2, ressV, packV, g8, g9]
    intro w hw
    exact ⟨by unfold chkM chkP; dsimp only; rw [if_neg q1, if_pos hf, if_pos q2] <;> rfl, hw.below⟩
  have q2 : ¬ gs.length = 0 := by have := of_decide_eq_false ‹_›; omega
  refine cv_skip ?_
  try simp only [blockQ, thenQ]
  refine hK _ _ ?_
  clear hK K
  refine cv_seq_k fun K hK => ?_
  refine cv_seq_k fun K hK => ?_
  refine cv_region_then rfl ?_
  simp -implicitDefEqProofs (disch := first | omega | decide) only [seval, -Int.reducePow, -Nat.reducePow, cC, pv, binv, sMRChk1, undef, g8, g9]
  refine hK _ _ ?_
  clear hK K
  refine cv_cond ?_
  simp -implicitDefEqProofs (disch := first | omega | decide) only [seval, -Int.reducePow, -Nat.reducePow, cC, pv, binv, sMRChk1, undef, g8, g9]
  refine ⟨fun hc => ?_, fun hc => ?_⟩
  · have q3 : 32 < gs.length := by have := of_decide_eq_true ‹_›; omega
    refine cv_seq_k fun K hK => ?_
    refine cv_region_then rfl ?_
    simp -implicitDefEqProofs (disch := first | omega | decide) only [seval, -Int.reducePow, -Nat.reducePow, cC, pv, binv, sMRChk1, undef, g8, g9]
    refine callV_ret (fun w hw => fault_any 4 (-1) (-1) w) ?_
    try simp -implicitDefEqProofs (disch := first | omega | decide) only [seval, -Int.reducePow, -Nat.reducePow, cC, pv, binv, sMRChk1, undef, g8, g9]
    refine hK _ _ ?_
    clear hK K
    refine cv_ret ?_
    simp -implicitDefEqProofs (disch := first | omega | decide) only [seval, -Int.reducePow, -Nat.reducePow, cC, pv, binv, sMRChk1, undef, retQ2, ressV, packV, g8, g9]
    intro w hw
    exact ⟨by unfold chkM chkP; dsimp only; rw [if_neg q1, if_pos hf, if_neg q2, if_pos q3] <;> rfl, hw.below⟩
  have q3 : ¬ 32 < gs.length := by have := of_decide_eq_false ‹_›; omega
  have hC : chkM ⟨TA, tn, tc, ts, FA, fn, fc, gs⟩ = firstF 0 gs := by unfold chkM chkP; dsimp only; rw [if_neg q1, if_pos hf, if_neg q2, if_neg q3, if_pos rfl]
  refine cv_skip ?_
  try simp only [blockQ, thenQ]
  refine hK _ _ ?_
  clear hK K
  refine cv_seq_k fun K hK => ?_
  refine cv_seq_k fun K hK => ?_
  refine cv_region_then rfl ?_
  simp -implicitDefEqProofs (disch := first | omega | decide) only [seval, -Int.reducePow, -Nat.reducePow, cC, pv, binv, sMRChk1, undef, g8, g9]
  refine hK _ _ ?_
  clear hK K
  refine cv_gen fun G10 hG => ?_
  have g10_1 := congrFun hG 1
  have g10_2 := congrFun hG 2
  have g10_5 := congrFun hG 5
  clear hG
  try simp -implicitDefEqProofs (disch := first | omega | decide) only [seval, -Int.reducePow, -Nat.reducePow, cC, pv, binv, sMRChk1, undef, g8, g9] at g10_1 g10_2 g10_5
  have g10 := And.intro g10_1 (And.intro g10_2 g10_5)
  refine cv_block ?_
  refine cv_loop (fun F' L' => ∃ (k : Nat), F' 1 = G10 1 ∧ F' 2 = G10 2 ∧ F' 5 = .int .i64 (k : Int) ∧ L' = [flBox b2 0 0 0, mBox b ⟨TA, tn, tc, ts, FA, fn, fc, gs⟩] ∧ k ≤ fn ∧ firstF 0 gs = firstF k (gs.drop k)) (fun F' L' => 40 - (intOf (F' 5)).toNat) ?_ ?_
  · refine ⟨0, ?_⟩
    simp -implicitDefEqProofs (disch := first | omega | decide) only [seval, -Int.reducePow, -Nat.reducePow, cC, pv, binv, sMRChk1, undef, g8, g9, g10]
    omega
  intro G11 L' hI
  obtain ⟨k, q1, q2, q5, rfl, ⟨hk, hf⟩⟩ := hI
  have g11_1 := q1.trans g10_1
  have g11_2 := q2.trans g10_2
  have g11_5 := q5
  clear q1 q2 q5
  have g11 := And.intro g11_1 (And.intro g11_2 g11_5)
  refine cv_seq_k fun K hK => ?_
  refine cv_seq_k fun K hK => ?_
  refine cv_region_then rfl ?_
  simp -implicitDefEqProofs (disch := first | omega | decide) only [seval, -Int.reducePow, -Nat.reducePow, cC, pv, binv, sMRChk1, undef, g8, g9, g10, g11]
  refine hK _ _ ?_
  clear hK K
  refine cv_cond ?_
  simp -implicitDefEqProofs (disch := first | omega | decide) only [seval, -Int.reducePow, -Nat.reducePow, cC, pv, binv, sMRChk1, undef, g8, g9, g10, g11]
  refine ⟨fun hc => ?_, fun hc => ?_⟩
  · refine cv_skip ?_
    try simp only [blockQ, thenQ]
    have hlt2 : k < fn := by have := of_decide_eq_true ‹_›; omega
    obtain ⟨x, hx⟩ := some_of (l := gs) (i := k) (by omega)
    obtain ⟨q, hq⟩ : ∃ q, fltF k x = q := ⟨_, rfl⟩
    rw [drop_at' hx] at hf
    refine hK _ _ ?_
    clear hK K
    refine cv_seq_k fun K hK => ?_
    refine cv_block ?_
    refine cv_seq_k fun K hK => ?_
    refine cv_region_then rfl ?_
    simp -implicitDefEqProofs (disch := first | omega | decide) only [seval, -Int.reducePow, -Nat.reducePow, cC, pv, binv, sMRChk1, undef, g8, g9, g10, g11]
    refine callV_ret (fun w hw => rcheckFunc_any ⟨TA, tn, tc, ts, FA, fn, fc, gs⟩ k x w (hMat hw) hx) ?_
    try simp -implicitDefEqProofs (disch := first | omega | decide) only [seval, -Int.reducePow, -Nat.reducePow, cC, pv, binv, sMRChk1, undef, hq, g8, g9, g10, g11]
    intro b6 hb6 h6
    refine hK _ _ ?_
    clear hK K
    refine cv_seq_k fun K hK => ?_
    refine cv_region_then rfl ?_
    simp -implicitDefEqProofs (disch := first | omega | decide) only [seval, -Int.reducePow, -Nat.reducePow, cC, pv, binv, sMRChk1, undef, g8, g9, g10, g11]
    refine hK _ _ ?_
    clear hK K
    refine cv_cond ?_
    simp -implicitDefEqProofs (disch := first | omega | decide) only [seval, -Int.reducePow, -Nat.reducePow, cC, pv, binv, sMRChk1, undef, g8, g9, g10, g11]
    refine ⟨fun hc => ?_, fun hc => ?_⟩
    · have hz : ¬ q.1 = 0 := nd_true ‹(!decide (q.1 = 0)) = true›
      rw [firstF_no _ (by rw [hq]; exact hz), hq] at hf
      refine cv_seq_k fun K hK => ?_
      refine cv_region_then rfl ?_
      simp -implicitDefEqProofs (disch := first | omega | decide) only [seval, -Int.reducePow, -Nat.reducePow, cC, pv, binv, sMRChk1, undef, g8, g9, g10, g11]
      refine hK _ _ ?_
      clear hK K
      refine cv_ret ?_
      simp -implicitDefEqProofs (disch := first | omega | decide) only [seval, -Int.reducePow, -Nat.reducePow, cC, pv, binv, sMRChk1, undef, retQ2, ressV, packV, g8, g9, g10, g11]
      intro w hw
      exact ⟨by rw [hC, hf] <;> rfl, hw.below⟩
    have hz : q.1 = 0 := Decidable.not_not.1 (nd_false ‹(!decide (q.1 = 0)) = false›)
    rw [firstF_yes _ (by rw [hq]; exact hz)] at hf
    refine cv_skip ?_
    try simp only [blockQ, thenQ]
    refine hK _ _ ?_
    clear hK K
    refine cv_pick [1, 2] (by decide) ?_
    simp only [pickL, nth]
    refine cv_region_then rfl ?_
    simp -implicitDefEqProofs (disch := first | omega | decide) only [seval, -Int.reducePow, -Nat.reducePow, cC, pv, binv, sMRChk1, undef, wrap_in, g8, g9, g10, g11]
    refine ⟨⟨k + 1, ?_⟩, ?_⟩
    · simp -implicitDefEqProofs (disch := first | omega | decide) only [seval, -Int.reducePow, -Nat.reducePow, cC, pv, binv, sMRChk1, undef, Int.natCast_add, g8, g9, g10, g11]
      exact ⟨by omega, hf⟩
    · simp only [intOf]; omega
  refine cv_exit ?_
  simp only [blockQ, thenQ, if_true, ite_true]
  clear hK K
  refine hK _ _ ?_
  clear hK K
  obtain rfl : fn = k := by have := of_decide_eq_false ‹_›; omega
  rw [List.drop_of_length_le (by omega)] at hf
  refine cv_seq_k fun K hK => ?_
  refine cv_region_then rfl ?_
  simp -implicitDefEqProofs (disch := first | omega | decide) only [seval, -Int.reducePow, -Nat.reducePow, cC, pv, binv, sMRChk1, undef, g8, g9, g10, g11]
  refine callV_ret (fun w hw => fine_any w) ?_
  try simp -implicitDefEqProofs (disch := first | omega | decide) only [seval, -Int.reducePow, -Nat.reducePow, cC, pv, binv, sMRChk1, undef, g8, g9, g10, g11]
  refine hK _ _ ?_
  clear hK K
  refine cv_ret ?_
  simp -implicitDefEqProofs (disch := first | omega | decide) only [seval, -Int.reducePow, -Nat.reducePow, cC, pv, binv, sMRChk1, undef, retQ2, ressV, packV, g8, g9, g10, g11]
  intro w hw
  exact ⟨by rw [hC, hf] <;> rfl, hw.below⟩
end Go.Proofs.Ytlbmnioibiomfaa
