/- flow's effect, static, find, Static. -/
import Derived.Test.YtlbmnioibiomfaaFlIns
namespace Go.Proofs.Ytlbmnioibiomfaa
open Go.RowKit Go.Shelf
set_option linter.unusedVariables false
set_option linter.unusedSimpArgs false
set_option maxRecDepth 100000
theorem wrapu {x : Int} (h1 : 0 ≤ x) (h2 : x ≤ 18446744073709551615) : IntKind.u64.wrap x = x := IntWalk.u64_in _ ⟨h1, h2⟩
set_option maxRecDepth 100000 in
theorem sFlSt1 : type_of% (And.intro (And.intro (And.intro @fBox.eq_1 (And.intro @tBox.eq_1 @iBox.eq_1)) (And.intro (And.intro @mBox.eq_1 @gBox.eq_1) (And.intro @flBox.eq_1 @fdV.eq_1))) (And.intro (And.intro @tyV.eq_1 (And.intro @insV.eq_1 @fnV.eq_1)) (And.intro (And.intro @modV.eq_1 @fltV.eq_1) (And.intro @fineF.eq_1 @Nat.mul_one)))) := (And.intro (And.intro (And.intro @fBox.eq_1 (And.intro @tBox.eq_1 @iBox.eq_1)) (And.intro (And.intro @mBox.eq_1 @gBox.eq_1) (And.intro @flBox.eq_1 @fdV.eq_1))) (And.intro (And.intro @tyV.eq_1 (And.intro @insV.eq_1 @fnV.eq_1)) (And.intro (And.intro @modV.eq_1 @fltV.eq_1) (And.intro @fineF.eq_1 @Nat.mul_one))))
theorem f_fine_any (W : World) : Calls Try.prog 59 #[] W fun en w' => en = .returned (fltV fineF) ∧ Below W.heap.size W w' := by
  refine calls_cv2 (M := []) (n := 2) [.cell 0 36] rfl Try.func59 rfl rfl (Nat.le_of_ble_eq_true rfl) (St.nil _ _) ?_
  refine cv_seq_k fun K hK => ?_
  refine cv_region_then rfl ?_
  simp -implicitDefEqProofs (disch := first | omega | decide) only [seval, -Int.reducePow, -Nat.reducePow, cC, pv, binv, sFlSt1, undef]
  intro b hb
  refine hK _ _ ?_
  clear hK K
  refine cv_seq_k fun K hK => ?_
  refine cv_region_then rfl ?_
  simp -implicitDefEqProofs (disch := first | omega | decide) only [seval, -Int.reducePow, -Nat.reducePow, cC, pv, binv, sFlSt1, undef]
  refine hK _ _ ?_
  clear hK K
  refine cv_ret ?_
  simp -implicitDefEqProofs (disch := first | omega | decide) only [seval, -Int.reducePow, -Nat.reducePow, cC, pv, binv, sFlSt1, undef, retQ2, ressV, packV]
  intro w hw
  exact hw.below
set_option maxHeartbeats 1000000 in
theorem effect_any (m : ModR) (i : Ins) (W : World) (hM : Mod W W.heap.size m) (hi : i.op = 21 → i.arg < m.gs.length) : Calls Try.prog 82 #[modV m, insV i] W fun e w' => e = .returned (.tuple #[.int .i64 (fxP m.gs i).1, .int .i64 (fxP m.gs i).2]) ∧ Below W.heap.size W w' := by
  have hlg := hM.glen
  have hG := hM.gs
  obtain ⟨TA, tn, tc, ts, FA, fn, fc, gs⟩ := m
  dsimp only at *
  refine calls_cv (M := []) (n := 44) [.tmp 4, .tmp 5] rfl Try.func82 rfl rfl (Nat.le_of_ble_eq_true rfl) (St.nil _ _) ?_
  refine cv_seq_k fun K hK => ?_
  refine cv_region_then rfl ?_
  simp -implicitDefEqProofs (disch := first | omega | decide) only [seval, -Int.reducePow, -Nat.reducePow, cC, pv, binv, sFlSt1, undef]
  intro b1 hb1 b2 hb2 h2
  refine hK _ _ ?_
  clear hK K
  refine cv_seq_k fun K hK => ?_
  refine cv_seq_k fun K hK => ?_
  refine cv_region_then rfl ?_
  simp -implicitDefEqProofs (disch := first | omega | decide) only [seval, -Int.reducePow, -Nat.reducePow, cC, pv, binv, sFlSt1, undef]
  refine hK _ _ ?_
  clear hK K
  refine cv_gen fun G1 hG => ?_
  have g1_2 := congrFun hG 2
  have g1_3 := congrFun hG 3
  have g1_13 := congrFun hG 13
  clear hG
  try simp -implicitDefEqProofs (disch := first | omega | decide) only [seval, -Int.reducePow, -Nat.reducePow, cC, pv, binv, sFlSt1, undef] at g1_2 g1_3 g1_13
  have g1 := And.intro g1_2 (And.intro g1_3 g1_13)
  refine cv_block ?_
  refine cv_seq_k fun K hK => ?_
  refine cv_region_then rfl ?_
  simp -implicitDefEqProofs (disch := first | omega | decide) only [seval, -Int.reducePow, -Nat.reducePow, cC, pv, binv, sFlSt1, undef, g1]
  refine hK _ _ ?_
  clear hK K
  refine cv_cond ?_
  simp -implicitDefEqProofs (disch := first | omega | decide) only [seval, -Int.reducePow, -Nat.reducePow, cC, pv, binv, sFlSt1, undef, g1]
  refine ⟨fun hc => ?_, fun hc => ?_⟩
  · have q1 := of_decide_eq_true ‹_›
    have hlt : i.arg < fn := by have := hi q1; omega
    obtain ⟨b0, off, rfl, hb0, -⟩ := hG.cells (by omega)
    obtain ⟨x, hx⟩ := some_of (l := gs) (i := i.arg) (by omega)
    refine cv_seq_k fun K hK => ?_
    refine cv_region_then rfl ?_
    simp -implicitDefEqProofs (disch := first | omega | decide) only [seval, -Int.reducePow, -Nat.reducePow, cC, pv, binv, sFlSt1, undef, g1]
    refine ⟨_, hG.fnl hx, fun tok htok => ?_⟩
    subst htok
    simp -implicitDefEqProofs (disch := first | omega | decide) only [seval, -Int.reducePow, -Nat.reducePow, cC, pv, binv, sFlSt1, undef, g1]
    intro b6 hb6 h6
    refine hK _ _ ?_
    clear hK K
    refine cv_seq_k fun K hK => ?_
    refine cv_draw [(true, 0), (true, 1), (true, 2), (true, 3), (true, 4), (true, 5)] [] mixA rfl (by kernel_rfl) (by kernel_rfl) rfl rfl ?_
    simp -implicitDefEqProofs (disch := first | omega | decide) only [seval, -Int.reducePow, -Nat.reducePow, cC, pv, binv, sFlSt1, undef, g1]
    refine hK _ _ ?_
    clear hK K
    refine cv_ret ⟨_, (by simp -implicitDefEqProofs (disch := first | omega | decide) only [seval, -Int.reducePow, -Nat.reducePow, cC, pv, binv, sFlSt1, undef, g1]; rfl), fun w hw => ?_⟩
    exact ⟨by unfold fxP; rw [if_pos q1, hx] <;> rfl, hw.below⟩
  have q1 := of_decide_eq_false ‹_›
  refine cv_seq_k fun K hK => ?_
  refine cv_region_then rfl ?_
  simp -implicitDefEqProofs (disch := first | omega | decide) only [seval, -Int.reducePow, -Nat.reducePow, cC, pv, binv, sFlSt1, undef, g1]
  refine hK _ _ ?_
  clear hK K
  refine cv_cond ?_
  simp -implicitDefEqProofs (disch := first | omega | decide) only [seval, -Int.reducePow, -Nat.reducePow, cC, pv, binv, sFlSt1, undef, g1]
  refine ⟨fun hc => ?_, fun hc => ?_⟩
  · have q2 := of_decide_eq_true ‹_›
    refine cv_seq_k fun K hK => ?_
    refine cv_region_then rfl ?_
    simp -implicitDefEqProofs (disch := first | omega | decide) only [seval, -Int.reducePow, -Nat.reducePow, cC, pv, binv, sFlSt1, undef, g1]
    refine callV_ret (fun w hw => f_arity_any i.arg w) ?_
    try simp -implicitDefEqProofs (disch := first | omega | decide) only [seval, -Int.reducePow, -Nat.reducePow, cC, pv, binv, sFlSt1, undef, g1]
    refine hK _ _ ?_
    clear hK K
    refine cv_seq_k fun K hK => ?_
    refine cv_region_then rfl ?_
    simp -implicitDefEqProofs (disch := first | omega | decide) only [seval, -Int.reducePow, -Nat.reducePow, cC, pv, binv, sFlSt1, undef, g1]
    refine hK _ _ ?_
    clear hK K
    refine cv_ret ⟨_, (by simp -implicitDefEqProofs (disch := first | omega | decide) only [seval, -Int.reducePow, -Nat.reducePow, cC, pv, binv, sFlSt1, undef, g1]; rfl), fun w hw => ?_⟩
    exact ⟨by unfold fxP; rw [if_neg q1, if_pos q2] <;> rfl, hw.below⟩
  have q2 := of_decide_eq_false ‹_›
  refine cv_skip ?_
  try simp only [blockQ, thenQ]
  refine hK _ _ ?_
  clear hK K
  refine cv_seq_k fun K hK => ?_
  refine cv_region_then rfl ?_
  simp -implicitDefEqProofs (disch := first | omega | decide) only [seval, -Int.reducePow, -Nat.reducePow, cC, pv, binv, sFlSt1, undef, g1]
  refine callV_ret (fun w hw => i_effect_any i.op w) ?_
  try simp -implicitDefEqProofs (disch := first | omega | decide) only [seval, -Int.reducePow, -Nat.reducePow, cC, pv, binv, sFlSt1, undef, g1]
  refine hK _ _ ?_
  clear hK K
  refine cv_seq_k fun K hK => ?_
  refine cv_region_then rfl ?_
  simp -implicitDefEqProofs (disch := first | omega | decide) only [seval, -Int.reducePow, -Nat.reducePow, cC, pv, binv, sFlSt1, undef, g1]
  refine hK _ _ ?_
  clear hK K
  refine cv_ret ⟨_, (by simp -implicitDefEqProofs (disch := first | omega | decide) only [seval, -Int.reducePow, -Nat.reducePow, cC, pv, binv, sFlSt1, undef, g1]; rfl), fun w hw => ?_⟩
  exact ⟨by unfold fxP; rw [if_neg q1, if_neg q2] <;> rfl, hw.below⟩
set_option maxHeartbeats 2000000 in
theorem static_any (m : ModR) (x : FnR) (k : Nat) (i : Ins) (W : World) (hM : Mod W W.heap.size m) (hX : Sl W W.heap.size 2 x.A x.n x.c (cl insc x.code)) (hi : x.code[k]? = some i)
    (hp : 0 ≤ x.p) (hl : 0 ≤ x.l) (hpl : x.p + x.l ≤ 64) (h32 : m.gs.length ≤ 32) (h1024 : x.code.length ≤ 1024) :
    Calls Try.prog 80 #[modV m, fnV x, .int .i64 (k : Int)] W fun e w' => e = .returned (.int .i64 (stE m.gs.length x k i)) ∧ Below W.heap.size W w' := by
  have hlg := hM.glen
  have hxl : x.code.length = x.n := cl_row insc_len (by omega) hX.len
  have hk : k < x.n := by have := (List.getElem?_eq_some_iff.1 hi).1; omega
  obtain ⟨TA, tn, tc, ts, FA, fn, fc, gs⟩ := m
  obtain ⟨xp, xr, xl, xA, xn, xc, code⟩ := x
  dsimp only at *
  obtain ⟨b0, off, rfl, hb0, -⟩ := hX.cells (by omega)
  refine calls_cv (M := []) (n := 91) [.tmp 6] rfl Try.func80 rfl rfl (Nat.le_of_ble_eq_true rfl) (St.nil _ _) ?_
  refine cv_seq_k fun K hK => ?_
  refine cv_region_then rfl ?_
  simp -implicitDefEqProofs (disch := first | omega | decide) only [seval, -Int.reducePow, -Nat.reducePow, cC, pv, binv, sFlSt1, undef]
  intro b1 hb1 b2 hb2 h2
  refine hK _ _ ?_
  clear hK K
  refine cv_seq_k fun K hK => ?_
  refine cv_region_then rfl ?_
  simp -implicitDefEqProofs (disch := first | omega | decide) only [seval, -Int.reducePow, -Nat.reducePow, cC, pv, binv, sFlSt1, undef]
  refine ⟨_, hX.ins hi, fun tok htok => ?_⟩
  subst htok
  simp -implicitDefEqProofs (disch := first | omega | decide) only [seval, -Int.reducePow, -Nat.reducePow, cC, pv, binv, sFlSt1, undef]
  intro b7 hb7 h7
  refine hK _ _ ?_
  clear hK K
  refine cv_gen fun G2 hG => ?_
  have g2_2 := congrFun hG 2
  have g2_3 := congrFun hG 3
  have g2_4 := congrFun hG 4
  have g2_7 := congrFun hG 7
  clear hG
  try simp -implicitDefEqProofs (disch := first | omega | decide) only [seval, -Int.reducePow, -Nat.reducePow, cC, pv, binv, sFlSt1, undef] at g2_2 g2_3 g2_4 g2_7
  have g2 := And.intro g2_2 (And.intro g2_3 (And.intro g2_4 g2_7))
  refine cv_seq_k fun K hK => ?_
  refine cv_cut (fun _ _ => True) (fun F' L' => F' 2 = G2 2 ∧ F' 3 = G2 3 ∧ F' 4 = G2 4 ∧ F' 7 = G2 7 ∧ F' 8 = .bool (decide (i.op = 19 ∨ i.op = 20)) ∧ L' = [iBox b7 i, gBox b2 ⟨xp, xr, xl, some ⟨b0, off, none⟩, xn, xc, code⟩, mBox b1 ⟨TA, tn, tc, ts, FA, fn, fc, gs⟩]) ?_ ?_
  · refine cv_region_then rfl ?_
    simp -implicitDefEqProofs (disch := first | omega | decide) only [seval, -Int.reducePow, -Nat.reducePow, cC, pv, binv, sFlSt1, undef, g2]
    repeat' ((first | refine vcg_cases (fun hg => ?_) (fun hg => ?_) | refine vdg_cases (fun hg => ?_) (fun hg => ?_)) <;> ((try simp only [Bool.not_eq_true', Bool.not_eq_false', decide_eq_true_eq, decide_eq_false_iff_not] at hg); (try simp -implicitDefEqProofs (disch := first | omega | decide) only [seval, -Int.reducePow, -Nat.reducePow, cC, pv, binv, sFlSt1, undef, hg, g2])))
    all_goals (repeat' refine And.intro ?_ ?_)
    all_goals (first | with_reducible rfl | (refine congrArg Value.bool ?_; rw [Bool.eq_iff_iff]; (try simp only [decide_eq_true_eq, eq_self, true_and, and_true, false_and, and_false, true_or, or_true, false_or, or_false, not_true_eq_false, not_false_eq_true, true_iff, iff_true, false_iff, iff_false, Bool.false_eq_true, Bool.not_eq_true', Bool.not_eq_true, decide_eq_false_iff_not, Bool.and_eq_true, Bool.or_eq_true]) <;> omega) | (refine congrArg (Value.int _) ?_; omega) | omega)
  intro G3 L' _ hF
  obtain ⟨q2, q3, q4, q7, q8, rfl⟩ := hF
  have g3_2 := q2.trans g2_2
  have g3_3 := q3.trans g2_3
  have g3_4 := q4.trans g2_4
  have g3_7 := q7.trans g2_7
  have g3_8 := q8
  clear q2 q3 q4 q7 q8
  have g3 := And.intro g3_2 (And.intro g3_3 (And.intro g3_4 (And.intro g3_7 g3_8)))
  refine hK _ _ ?_
  clear hK K
  refine cv_seq_k fun K hK => ?_
  refine cv_cut (fun _ _ => True) (fun F' L' => F' 2 = G3 2 ∧ F' 3 = G3 3 ∧ F' 4 = G3 4 ∧ F' 7 = G3 7 ∧ F' 8 = G3 8 ∧ F' 9 = .bool (decide (i.op = 2 ∨ i.op = 3)) ∧ L' = [iBox b7 i, gBox b2 ⟨xp, xr, xl, some ⟨b0, off, none⟩, xn, xc, code⟩, mBox b1 ⟨TA, tn, tc, ts, FA, fn, fc, gs⟩]) ?_ ?_
  · refine cv_region_then rfl ?_
    simp -implicitDefEqProofs (disch := first | omega | decide) only [seval, -Int.reducePow, -Nat.reducePow, cC, pv, binv, sFlSt1, undef, g3]
    repeat' ((first | refine vcg_cases (fun hg => ?_) (fun hg => ?_) | refine vdg_cases (fun hg => ?_) (fun hg => ?_)) <;> ((try simp only [Bool.not_eq_true', Bool.not_eq_false', decide_eq_true_eq, decide_eq_false_iff_not] at hg); (try simp -implicitDefEqProofs (disch := first | omega | decide) only [seval, -Int.reducePow, -Nat.reducePow, cC, pv, binv, sFlSt1, undef, hg, g3])))
    all_goals (repeat' refine And.intro ?_ ?_)
    all_goals (first | with_reducible rfl | (refine congrArg Value.bool ?_; rw [Bool.eq_iff_iff]; (try simp only [decide_eq_true_eq, eq_self, true_and, and_true, false_and, and_false, true_or, or_true, false_or, or_false, not_true_eq_false, not_false_eq_true, true_iff, iff_true, false_iff, iff_false, Bool.false_eq_true, Bool.not_eq_true', Bool.not_eq_true, decide_eq_false_iff_not, Bool.and_eq_true, Bool.or_eq_true]) <;> omega) | (refine congrArg (Value.int _) ?_; omega) | omega)
  intro G4 L' _ hF
  obtain ⟨q2, q3, q4, q7, q8, q9, rfl⟩ := hF
  have g4_2 := q2.trans g3_2
  have g4_3 := q3.trans g3_3
  have g4_4 := q4.trans g3_4
  have g4_7 := q7.trans g3_7
  have g4_8 := q8.trans g3_8
  have g4_9 := q9
  clear q2 q3 q4 q7 q8 q9
  have g4 := And.intro g4_2 (And.intro g4_3 (And.intro g4_4 (And.intro g4_7 (And.intro g4_8 g4_9))))
  refine hK _ _ ?_
  clear hK K
  refine cv_seq_k fun K hK => ?_
  refine cv_block ?_
  refine cv_seq_k fun K hK => ?_
  refine cv_cut (fun _ _ => True) (fun F' L' => F' 2 = G4 2 ∧ F' 3 = G4 3 ∧ F' 4 = G4 4 ∧ F' 7 = G4 7 ∧ F' 9 = G4 9 ∧ F' 31 = .bool (decide ((i.op = 19 ∨ i.op = 20) ∧ code.length ≤ i.arg)) ∧ L' = [iBox b7 i, gBox b2 ⟨xp, xr, xl, some ⟨b0, off, none⟩, xn, xc, code⟩, mBox b1 ⟨TA, tn, tc, ts, FA, fn, fc, gs⟩]) ?_ ?_
  · refine cv_region_then rfl ?_
    simp -implicitDefEqProofs (disch := first | omega | decide) only [seval, -Int.reducePow, -Nat.reducePow, cC, pv, binv, sFlSt1, undef, g4]
    repeat' ((first | refine vcg_cases (fun hg => ?_) (fun hg => ?_) | refine vdg_cases (fun hg => ?_) (fun hg => ?_)) <;> ((try simp only [Bool.not_eq_true', Bool.not_eq_false', decide_eq_true_eq, decide_eq_false_iff_not] at hg); (try simp -implicitDefEqProofs (disch := first | omega | decide) only [seval, -Int.reducePow, -Nat.reducePow, cC, pv, binv, sFlSt1, undef, hg, wrap_in, wrapu, g4])))
    all_goals (repeat' refine And.intro ?_ ?_)
    all_goals (first | with_reducible rfl | (refine congrArg Value.bool ?_; rw [Bool.eq_iff_iff]; (try simp only [decide_eq_true_eq, eq_self, true_and, and_true, false_and, and_false, true_or, or_true, false_or, or_false, not_true_eq_false, not_false_eq_true, true_iff, iff_true, false_iff, iff_false, Bool.false_eq_true, Bool.not_eq_true', Bool.not_eq_true, decide_eq_false_iff_not, Bool.and_eq_true, Bool.or_eq_true]) <;> omega) | (refine congrArg (Value.int _) ?_; omega) | omega)
  intro G5 L' _ hF
  obtain ⟨q2, q3, q4, q7, q9, q31, rfl⟩ := hF
  have g5_2 := q2.trans g4_2
  have g5_3 := q3.trans g4_3
  have g5_4 := q4.trans g4_4
  have g5_7 := q7.trans g4_7
  have g5_9 := q9.trans g4_9
  have g5_31 := q31
  clear q2 q3 q4 q7 q9 q31
  have g5 := And.intro g5_2 (And.intro g5_3 (And.intro g5_4 (And.intro g5_7 (And.intro g5_9 g5_31))))
  refine hK _ _ ?_
  clear hK K
  refine cv_cond ?_
  simp -implicitDefEqProofs (disch := first | omega | decide) only [seval, -Int.reducePow, -Nat.reducePow, cC, pv, binv, sFlSt1, undef, g5]
  refine ⟨fun hc => ?_, fun hc => ?_⟩
  · have q1 := of_decide_eq_true ‹_›
    refine cv_seq_k fun K hK => ?_
    refine cv_region_then rfl ?_
    simp -implicitDefEqProofs (disch := first | omega | decide) only [seval, -Int.reducePow, -Nat.reducePow, cC, pv, binv, sFlSt1, undef, g5]
    refine hK _ _ ?_
    clear hK K
    refine cv_ret ⟨_, (by simp -implicitDefEqProofs (disch := first | omega | decide) only [seval, -Int.reducePow, -Nat.reducePow, cC, pv, binv, sFlSt1, undef, g5]; rfl), fun w hw => ?_⟩
    exact ⟨by unfold stE; rw [if_pos q1], hw.below⟩
  have q1 := of_decide_eq_false ‹_›
  refine cv_seq_k fun K hK => ?_
  refine cv_cut (fun _ _ => True) (fun F' L' => F' 2 = G5 2 ∧ F' 3 = G5 3 ∧ F' 4 = G5 4 ∧ F' 7 = G5 7 ∧ F' 42 = .bool (decide ((i.op = 2 ∨ i.op = 3) ∧ xp + xl ≤ (i.arg : Int))) ∧ L' = [iBox b7 i, gBox b2 ⟨xp, xr, xl, some ⟨b0, off, none⟩, xn, xc, code⟩, mBox b1 ⟨TA, tn, tc, ts, FA, fn, fc, gs⟩]) ?_ ?_
  · refine cv_region_then rfl ?_
    simp -implicitDefEqProofs (disch := first | omega | decide) only [seval, -Int.reducePow, -Nat.reducePow, cC, pv, binv, sFlSt1, undef, g5]
    repeat' ((first | refine vcg_cases (fun hg => ?_) (fun hg => ?_) | refine vdg_cases (fun hg => ?_) (fun hg => ?_)) <;> ((try simp only [Bool.not_eq_true', Bool.not_eq_false', decide_eq_true_eq, decide_eq_false_iff_not] at hg); (try simp -implicitDefEqProofs (disch := first | omega | decide) only [seval, -Int.reducePow, -Nat.reducePow, cC, pv, binv, sFlSt1, undef, hg, wrap_in, wrapu, g5])))
    all_goals (repeat' refine And.intro ?_ ?_)
    all_goals (first | with_reducible rfl | (refine congrArg Value.bool ?_; rw [Bool.eq_iff_iff]; (try simp only [decide_eq_true_eq, eq_self, true_and, and_true, false_and, and_false, true_or, or_true, false_or, or_false, not_true_eq_false, not_false_eq_true, true_iff, iff_true, false_iff, iff_false, Bool.false_eq_true, Bool.not_eq_true', Bool.not_eq_true, decide_eq_false_iff_not, Bool.and_eq_true, Bool.or_eq_true]) <;> omega) | (refine congrArg (Value.int _) ?_; omega) | omega)
  intro G6 L' _ hF
  obtain ⟨q2, q3, q4, q7, q42, rfl⟩ := hF
  have g6_2 := q2.trans g5_2
  have g6_3 := q3.trans g5_3
  have g6_4 := q4.trans g5_4
  have g6_7 := q7.trans g5_7
  have g6_42 := q42
  clear q2 q3 q4 q7 q42
  have g6 := And.intro g6_2 (And.intro g6_3 (And.intro g6_4 (And.intro g6_7 g6_42)))
  refine hK _ _ ?_
  clear hK K
  refine cv_cond ?_
  simp -implicitDefEqProofs (disch := first | omega | decide) only [seval, -Int.reducePow, -Nat.reducePow, cC, pv, binv, sFlSt1, undef, g6]
  refine ⟨fun hc => ?_, fun hc => ?_⟩
  · have q2 := of_decide_eq_true ‹_›
    refine cv_seq_k fun K hK => ?_
    refine cv_region_then rfl ?_
    simp -implicitDefEqProofs (disch := first | omega | decide) only [seval, -Int.reducePow, -Nat.reducePow, cC, pv, binv, sFlSt1, undef, g6]
    refine hK _ _ ?_
    clear hK K
    refine cv_ret ⟨_, (by simp -implicitDefEqProofs (disch := first | omega | decide) only [seval, -Int.reducePow, -Nat.reducePow, cC, pv, binv, sFlSt1, undef, g6]; rfl), fun w hw => ?_⟩
    exact ⟨by unfold stE; rw [if_neg q1, if_pos q2], hw.below⟩
  have q2 := of_decide_eq_false ‹_›
  refine cv_seq_k fun K hK => ?_
  refine cv_cut (fun _ _ => True) (fun F' L' => F' 2 = G6 2 ∧ F' 4 = G6 4 ∧ F' 7 = G6 7 ∧ F' 55 = .bool (decide (i.op = 21 ∧ gs.length ≤ i.arg)) ∧ L' = [iBox b7 i, gBox b2 ⟨xp, xr, xl, some ⟨b0, off, none⟩, xn, xc, code⟩, mBox b1 ⟨TA, tn, tc, ts, FA, fn, fc, gs⟩]) ?_ ?_
  · refine cv_region_then rfl ?_
    simp -implicitDefEqProofs (disch := first | omega | decide) only [seval, -Int.reducePow, -Nat.reducePow, cC, pv, binv, sFlSt1, undef, g6]
    repeat' ((first | refine vcg_cases (fun hg => ?_) (fun hg => ?_) | refine vdg_cases (fun hg => ?_) (fun hg => ?_)) <;> ((try simp only [Bool.not_eq_true', Bool.not_eq_false', decide_eq_true_eq, decide_eq_false_iff_not] at hg); (try simp -implicitDefEqProofs (disch := first | omega | decide) only [seval, -Int.reducePow, -Nat.reducePow, cC, pv, binv, sFlSt1, undef, hg, wrap_in, wrapu, g6])))
    all_goals (repeat' refine And.intro ?_ ?_)
    all_goals (first | with_reducible rfl | (refine congrArg Value.bool ?_; rw [Bool.eq_iff_iff]; (try simp only [decide_eq_true_eq, eq_self, true_and, and_true, false_and, and_false, true_or, or_true, false_or, or_false, not_true_eq_false, not_false_eq_true, true_iff, iff_true, false_iff, iff_false, Bool.false_eq_true, Bool.not_eq_true', Bool.not_eq_true, decide_eq_false_iff_not, Bool.and_eq_true, Bool.or_eq_true]) <;> omega) | (refine congrArg (Value.int _) ?_; omega) | omega)
  intro G7 L' _ hF
  obtain ⟨q2, q4, q7, q55, rfl⟩ := hF
  have g7_2 := q2.trans g6_2
  have g7_4 := q4.trans g6_4
  have g7_7 := q7.trans g6_7
  have g7_55 := q55
  clear q2 q4 q7 q55
  have g7 := And.intro g7_2 (And.intro g7_4 (And.intro g7_7 g7_55))
  refine hK _ _ ?_
  clear hK K
  refine cv_cond ?_
  simp -implicitDefEqProofs (disch := first | omega | decide) only [seval, -Int.reducePow, -Nat.reducePow, cC, pv, binv, sFlSt1, undef, g7]
  refine ⟨fun hc => ?_, fun hc => ?_⟩
  · have q3 := of_decide_eq_true ‹_›
    refine cv_seq_k fun K hK => ?_
    refine cv_region_then rfl ?_
    simp -implicitDefEqProofs (disch := first | omega | decide) only [seval, -Int.reducePow, -Nat.reducePow, cC, pv, binv, sFlSt1, undef, g7]
    refine hK _ _ ?_
    clear hK K
    refine cv_ret ⟨_, (by simp -implicitDefEqProofs (disch := first | omega | decide) only [seval, -Int.reducePow, -Nat.reducePow, cC, pv, binv, sFlSt1, undef, g7]; rfl), fun w hw => ?_⟩
    exact ⟨by unfold stE; rw [if_neg q1, if_neg q2, if_pos q3], hw.below⟩
  have q3 := of_decide_eq_false ‹_›
  refine cv_seq_k fun K hK => ?_
  refine cv_cut (fun _ _ => True) (fun F' L' => F' 2 = G7 2 ∧ F' 4 = G7 4 ∧ F' 7 = G7 7 ∧ F' 68 = .bool (decide (i.op = 23 ∧ ¬ hostP i.arg)) ∧ L' = [iBox b7 i, gBox b2 ⟨xp, xr, xl, some ⟨b0, off, none⟩, xn, xc, code⟩, mBox b1 ⟨TA, tn, tc, ts, FA, fn, fc, gs⟩]) ?_ ?_
  · by_cases ha : i.op = 23
    · have ha' : decide (i.op = 23) = true := decide_eq_true ha
      refine cv_region_then rfl ?_
      simp -implicitDefEqProofs (disch := first | omega | decide) only [seval, -Int.reducePow, -Nat.reducePow, cC, pv, binv, sFlSt1, undef, ha', g7]
      refine callV_ret (fun w hw => isHost_any i.arg w) ?_
      try simp -implicitDefEqProofs (disch := first | omega | decide) only [seval, -Int.reducePow, -Nat.reducePow, cC, pv, binv, sFlSt1, undef, ha', g7]
      all_goals (repeat' refine And.intro ?_ ?_)
      all_goals (first | with_reducible rfl | (refine congrArg Value.bool ?_; rw [Bool.eq_iff_iff]; (try simp only [ha, hostP, decide_eq_true_eq, eq_self, true_and, and_true, false_and, and_false, true_or, or_true, false_or, or_false, not_true_eq_false, not_false_eq_true, true_iff, iff_true, false_iff, iff_false, Bool.false_eq_true, Bool.not_eq_true', Bool.not_eq_true, decide_eq_false_iff_not, Bool.and_eq_true, Bool.or_eq_true]) <;> omega) | (refine congrArg (Value.int _) ?_; omega) | omega)
    · have ha' : decide (i.op = 23) = false := decide_eq_false ha
      refine cv_region_then rfl ?_
      simp -implicitDefEqProofs (disch := first | omega | decide) only [seval, -Int.reducePow, -Nat.reducePow, cC, pv, binv, sFlSt1, undef, ha', g7]
      all_goals (repeat' refine And.intro ?_ ?_)
      all_goals (first | with_reducible rfl | (refine congrArg Value.bool ?_; rw [Bool.eq_iff_iff]; (try simp only [ha, decide_eq_true_eq, eq_self, true_and, and_true, false_and, and_false, true_or, or_true, false_or, or_false, not_true_eq_false, not_false_eq_true, true_iff, iff_true, false_iff, iff_false, Bool.false_eq_true, Bool.not_eq_true', Bool.not_eq_true, decide_eq_false_iff_not, Bool.and_eq_true, Bool.or_eq_true]) <;> omega) | (refine congrArg (Value.int _) ?_; omega) | omega)
  intro G8 L' _ hF
  obtain ⟨q2, q4, q7, q68, rfl⟩ := hF
  have g8_2 := q2.trans g7_2
  have g8_4 := q4.trans g7_4
  have g8_7 := q7.trans g7_7
  have g8_68 := q68
  clear q2 q4 q7 q68
  have g8 := And.intro g8_2 (And.intro g8_4 (And.intro g8_7 g8_68))
  refine hK _ _ ?_
  clear hK K
  refine cv_cond ?_
  simp -implicitDefEqProofs (disch := first | omega | decide) only [seval, -Int.reducePow, -Nat.reducePow, cC, pv, binv, sFlSt1, undef, g8]
  refine ⟨fun hc => ?_, fun hc => ?_⟩
  · have q4 := of_decide_eq_true ‹_›
    refine cv_seq_k fun K hK => ?_
    refine cv_region_then rfl ?_
    simp -implicitDefEqProofs (disch := first | omega | decide) only [seval, -Int.reducePow, -Nat.reducePow, cC, pv, binv, sFlSt1, undef, g8]
    refine hK _ _ ?_
    clear hK K
    refine cv_ret ⟨_, (by simp -implicitDefEqProofs (disch := first | omega | decide) only [seval, -Int.reducePow, -Nat.reducePow, cC, pv, binv, sFlSt1, undef, g8]; rfl), fun w hw => ?_⟩
    exact ⟨by unfold stE; rw [if_neg q1, if_neg q2, if_neg q3, if_pos q4], hw.below⟩
  have q4 := of_decide_eq_false ‹_›
  refine cv_seq_k fun K hK => ?_
  refine cv_cut (fun _ _ => True) (fun F' L' => F' 78 = .bool (decide (k + 1 = code.length ∧ ¬ endsP i.op)) ∧ L' = [iBox b7 i, gBox b2 ⟨xp, xr, xl, some ⟨b0, off, none⟩, xn, xc, code⟩, mBox b1 ⟨TA, tn, tc, ts, FA, fn, fc, gs⟩]) ?_ ?_
  · by_cases ha : (k : Int) = (xn : Int) - 1
    · have ha' : decide ((k : Int) = (xn : Int) - 1) = true := decide_eq_true ha
      refine cv_region_then rfl ?_
      simp -implicitDefEqProofs (disch := first | omega | decide) only [seval, -Int.reducePow, -Nat.reducePow, cC, pv, binv, sFlSt1, undef, ha', wrap_in, g8]
      refine callV_ret (fun w hw => i_ends_any i.op w) ?_
      try simp -implicitDefEqProofs (disch := first | omega | decide) only [seval, -Int.reducePow, -Nat.reducePow, cC, pv, binv, sFlSt1, undef, ha', g8]
      all_goals (repeat' refine And.intro ?_ ?_)
      all_goals (first | with_reducible rfl | (refine congrArg Value.bool ?_; rw [Bool.eq_iff_iff]; (try simp only [endsP, decide_eq_true_eq, eq_self, true_and, and_true, false_and, and_false, true_or, or_true, false_or, or_false, not_true_eq_false, not_false_eq_true, true_iff, iff_true, false_iff, iff_false, Bool.false_eq_true, Bool.not_eq_true', Bool.not_eq_true, decide_eq_false_iff_not, Bool.and_eq_true, Bool.or_eq_true]) <;> omega) | (refine congrArg (Value.int _) ?_; omega) | omega)
    · have ha' : decide ((k : Int) = (xn : Int) - 1) = false := decide_eq_false ha
      refine cv_region_then rfl ?_
      simp -implicitDefEqProofs (disch := first | omega | decide) only [seval, -Int.reducePow, -Nat.reducePow, cC, pv, binv, sFlSt1, undef, ha', wrap_in, g8]
      all_goals (repeat' refine And.intro ?_ ?_)
      all_goals (first | with_reducible rfl | (refine congrArg Value.bool ?_; rw [Bool.eq_iff_iff]; (try simp only [decide_eq_true_eq, eq_self, true_and, and_true, false_and, and_false, true_or, or_true, false_or, or_false, not_true_eq_false, not_false_eq_true, true_iff, iff_true, false_iff, iff_false, Bool.false_eq_true, Bool.not_eq_true', Bool.not_eq_true, decide_eq_false_iff_not, Bool.and_eq_true, Bool.or_eq_true]) <;> omega) | (refine congrArg (Value.int _) ?_; omega) | omega)
  intro G9 L' _ hF
  obtain ⟨q78, rfl⟩ := hF
  have g9_78 := q78
  clear q78
  have g9 := g9_78
  refine hK _ _ ?_
  clear hK K
  refine cv_cond ?_
  simp -implicitDefEqProofs (disch := first | omega | decide) only [seval, -Int.reducePow, -Nat.reducePow, cC, pv, binv, sFlSt1, undef, g9]
  refine ⟨fun hc => ?_, fun hc => ?_⟩
  · have q5 := of_decide_eq_true ‹_›
    refine cv_seq_k fun K hK => ?_
    refine cv_region_then rfl ?_
    simp -implicitDefEqProofs (disch := first | omega | decide) only [seval, -Int.reducePow, -Nat.reducePow, cC, pv, binv, sFlSt1, undef, g9]
    refine hK _ _ ?_
    clear hK K
    refine cv_ret ⟨_, (by simp -implicitDefEqProofs (disch := first | omega | decide) only [seval, -Int.reducePow, -Nat.reducePow, cC, pv, binv, sFlSt1, undef, g9]; rfl), fun w hw => ?_⟩
    exact ⟨by unfold stE; rw [if_neg q1, if_neg q2, if_neg q3, if_neg q4, if_pos q5], hw.below⟩
  have q5 := of_decide_eq_false ‹_›
  refine cv_skip ?_
  try simp only [blockQ, thenQ]
  refine hK _ _ ?_
  clear hK K
  refine cv_seq_k fun K hK => ?_
  refine cv_region_then rfl ?_
  simp -implicitDefEqProofs (disch := first | omega | decide) only [seval, -Int.reducePow, -Nat.reducePow, cC, pv, binv, sFlSt1, undef, g9]
  refine hK _ _ ?_
  clear hK K
  refine cv_ret ⟨_, (by simp -implicitDefEqProofs (disch := first | omega | decide) only [seval, -Int.reducePow, -Nat.reducePow, cC, pv, binv, sFlSt1, undef, g9]; rfl), fun w hw => ?_⟩
  exact ⟨by unfold stE; rw [if_neg q1, if_neg q2, if_neg q3, if_neg q4, if_neg q5], hw.below⟩
set_option maxHeartbeats 1000000 in
theorem find_any (m : ModR) (f : Int) (W : World) (hM : Mod W W.heap.size m) : Calls Try.prog 79 #[modV m, .int .i64 f] W fun e w' =>
    (∃ x : FnR, e = .returned (.tuple #[fnV x, fltV (if (chkM m).1 = 0 then (if (fnAt m f).isSome then fineF else (26, -1, -1)) else chkM m)]) ∧ ((chkM m).1 = 0 → ∀ y, fnAt m f = some y → x = y)) ∧ Below W.heap.size W w' := by
  have hlg := hM.glen
  have hG := hM.gs
  have hMat := fun {L : List Res} {w : World} (hw : St [] W L w) => hM.at hw
  obtain ⟨q, hq⟩ : ∃ q, chkM m = q := ⟨_, rfl⟩
  obtain ⟨TA, tn, tc, ts, FA, fn, fc, gs⟩ := m
  rw [hq]
  dsimp only at *
  refine calls_cv2 (M := []) (n := 31) [.cell 4 58, .cell 5 36] rfl Try.func79 rfl rfl (Nat.le_of_ble_eq_true rfl) (St.nil _ _) ?_
  refine cv_seq_k fun K hK => ?_
  refine cv_region_then rfl ?_
  simp -implicitDefEqProofs (disch := first | omega | decide) only [seval, -Int.reducePow, -Nat.reducePow, cC, pv, binv, sFlSt1, undef]
  intro b1 hb1 b4 hb4 h4 b5 hb5 h5
  refine hK _ _ ?_
  clear hK K
  refine cv_seq_k fun K hK => ?_
  refine cv_seq_k fun K hK => ?_
  refine cv_region_then rfl ?_
  simp -implicitDefEqProofs (disch := first | omega | decide) only [seval, -Int.reducePow, -Nat.reducePow, cC, pv, binv, sFlSt1, undef]
  refine callV_ret (fun w hw => mcheck_any ⟨TA, tn, tc, ts, FA, fn, fc, gs⟩ w (hMat hw)) ?_
  try simp -implicitDefEqProofs (disch := first | omega | decide) only [seval, -Int.reducePow, -Nat.reducePow, cC, pv, binv, sFlSt1, undef, hq]
  intro b6 hb6 h6
  refine hK _ _ ?_
  clear hK K
  refine cv_gen fun G10 hG => ?_
  have g10_1 := congrFun hG 1
  have g10_2 := congrFun hG 2
  have g10_4 := congrFun hG 4
  have g10_5 := congrFun hG 5
  have g10_6 := congrFun hG 6
  clear hG
  try simp -implicitDefEqProofs (disch := first | omega | decide) only [seval, -Int.reducePow, -Nat.reducePow, cC, pv, binv, sFlSt1, undef] at g10_1 g10_2 g10_4 g10_5 g10_6
  have g10 := And.intro g10_1 (And.intro g10_2 (And.intro g10_4 (And.intro g10_5 g10_6)))
  refine cv_seq_k fun K hK => ?_
  refine cv_region_then rfl ?_
  simp -implicitDefEqProofs (disch := first | omega | decide) only [seval, -Int.reducePow, -Nat.reducePow, cC, pv, binv, sFlSt1, undef, g10]
  refine hK _ _ ?_
  clear hK K
  refine cv_cond ?_
  simp -implicitDefEqProofs (disch := first | omega | decide) only [seval, -Int.reducePow, -Nat.reducePow, cC, pv, binv, sFlSt1, undef, g10]
  refine ⟨fun hc => ?_, fun hc => ?_⟩
  · have hz : ¬ q.1 = 0 := nd_true ‹(!decide (q.1 = 0)) = true›
    refine cv_seq_k fun K hK => ?_
    refine cv_draw [(true, 0), (true, 1), (false, 2), (false, 3)] [3] mixA rfl (by kernel_rfl) (by kernel_rfl) rfl rfl ?_
    simp -implicitDefEqProofs (disch := first | omega | decide) only [seval, -Int.reducePow, -Nat.reducePow, cC, pv, binv, sFlSt1, undef, g10]
    refine hK _ _ ?_
    clear hK K
    refine cv_ret ?_
    simp -implicitDefEqProofs (disch := first | omega | decide) only [seval, -Int.reducePow, -Nat.reducePow, cC, pv, binv, sFlSt1, undef, retQ2, ressV, packV, g10]
    intro w hw
    exact ⟨⟨⟨0, 0, 0, none, 0, 0, []⟩, by rw [if_neg hz] <;> rfl, fun h => absurd h hz⟩, hw.below⟩
  have hz : q.1 = 0 := Decidable.not_not.1 (nd_false ‹(!decide (q.1 = 0)) = false›)
  refine cv_skip ?_
  try simp only [blockQ, thenQ]
  refine hK _ _ ?_
  clear hK K
  refine cv_seq_k fun K hK => ?_
  refine cv_seq_k fun K hK => ?_
  refine cv_cut (fun _ _ => True) (fun F' L' => F' 1 = G10 1 ∧ F' 2 = G10 2 ∧ F' 4 = G10 4 ∧ F' 5 = G10 5 ∧ F' 22 = .bool (decide (f < 0 ∨ (fn : Int) ≤ f)) ∧ L' = [flBox b6 q.1 q.2.1 q.2.2, flBox b5 0 0 0, gBox b4 ⟨0, 0, 0, none, 0, 0, []⟩, mBox b1 ⟨TA, tn, tc, ts, FA, fn, fc, gs⟩]) ?_ ?_
  · refine cv_region_then rfl ?_
    simp -implicitDefEqProofs (disch := first | omega | decide) only [seval, -Int.reducePow, -Nat.reducePow, cC, pv, binv, sFlSt1, undef, g10]
    repeat' ((first | refine vcg_cases (fun hg => ?_) (fun hg => ?_) | refine vdg_cases (fun hg => ?_) (fun hg => ?_)) <;> ((try simp only [Bool.not_eq_true', Bool.not_eq_false', decide_eq_true_eq, decide_eq_false_iff_not] at hg); (try simp -implicitDefEqProofs (disch := first | omega | decide) only [seval, -Int.reducePow, -Nat.reducePow, cC, pv, binv, sFlSt1, undef, hg, g10])))
    all_goals (repeat' refine And.intro ?_ ?_)
    all_goals (first | with_reducible rfl | (refine congrArg Value.bool ?_; rw [Bool.eq_iff_iff]; (try simp only [decide_eq_true_eq, eq_self, true_and, and_true, false_and, and_false, true_or, or_true, false_or, or_false, not_true_eq_false, not_false_eq_true, true_iff, iff_true, false_iff, iff_false, Bool.false_eq_true, Bool.not_eq_true', Bool.not_eq_true, decide_eq_false_iff_not, Bool.and_eq_true, Bool.or_eq_true]) <;> omega) | (refine congrArg (Value.int _) ?_; omega) | omega)
  intro G11 L' _ hF
  obtain ⟨q1, q2, q4, q5, q22, rfl⟩ := hF
  have g11_1 := q1.trans g10_1
  have g11_2 := q2.trans g10_2
  have g11_4 := q4.trans g10_4
  have g11_5 := q5.trans g10_5
  have g11_22 := q22
  clear q1 q2 q4 q5 q22
  have g11 := And.intro g11_1 (And.intro g11_2 (And.intro g11_4 (And.intro g11_5 g11_22)))
  refine hK _ _ ?_
  clear hK K
  refine cv_cond ?_
  simp -implicitDefEqProofs (disch := first | omega | decide) only [seval, -Int.reducePow, -Nat.reducePow, cC, pv, binv, sFlSt1, undef, g11]
  refine ⟨fun hc => ?_, fun hc => ?_⟩
  · have h1 := of_decide_eq_true hc
    have hno : fnAt ⟨TA, tn, tc, ts, FA, fn, fc, gs⟩ f = none := by
      unfold fnAt
      split
      · rfl
      · exact List.getElem?_eq_none (by dsimp only; omega)
    refine cv_seq_k fun K hK => ?_
    refine cv_region_then rfl ?_
    simp -implicitDefEqProofs (disch := first | omega | decide) only [seval, -Int.reducePow, -Nat.reducePow, cC, pv, binv, sFlSt1, undef, g11]
    refine hK _ _ ?_
    clear hK K
    refine cv_ret ?_
    simp -implicitDefEqProofs (disch := first | omega | decide) only [seval, -Int.reducePow, -Nat.reducePow, cC, pv, binv, sFlSt1, undef, retQ2, ressV, packV, g11]
    intro w hw
    exact ⟨⟨⟨0, 0, 0, none, 0, 0, []⟩, by rw [hno, if_pos hz] <;> rfl, fun _ y hy => by rw [hno] at hy; cases hy⟩, hw.below⟩
  have h1 := of_decide_eq_false hc
  obtain ⟨k, rfl⟩ : ∃ k : Nat, f = (k : Int) := ⟨f.toNat, by omega⟩
  have hk : k < fn := by omega
  obtain ⟨x, hx⟩ := some_of (l := gs) (i := k) (by omega)
  obtain ⟨b0, off, rfl, hb0, -⟩ := hG.cells (by omega)
  have hyes : fnAt ⟨TA, tn, tc, ts, some ⟨b0, off, none⟩, fn, fc, gs⟩ (k : Int) = some x := by rw [fnAt_nat]; exact hx
  refine cv_skip ?_
  try simp only [blockQ, thenQ]
  refine hK _ _ ?_
  clear hK K
  refine cv_seq_k fun K hK => ?_
  refine cv_draw [(true, 0), (true, 1), (true, 2), (true, 3), (true, 4), (false, 5), (false, 6), (false, 7)] [6, 7] mixA rfl (by kernel_rfl) (by kernel_rfl) rfl rfl ?_
  simp -implicitDefEqProofs (disch := first | omega | decide) only [seval, -Int.reducePow, -Nat.reducePow, cC, pv, binv, sFlSt1, undef, g11]
  refine ⟨_, hG.fnl hx, fun tok htok => ?_⟩
  subst htok
  simp -implicitDefEqProofs (disch := first | omega | decide) only [seval, -Int.reducePow, -Nat.reducePow, cC, pv, binv, sFlSt1, undef, g11]
  refine callV_ret (fun w hw => f_fine_any w) ?_
  try simp -implicitDefEqProofs (disch := first | omega | decide) only [seval, -Int.reducePow, -Nat.reducePow, cC, pv, binv, sFlSt1, undef, g11]
  refine hK _ _ ?_
  clear hK K
  refine cv_ret ?_
  simp -implicitDefEqProofs (disch := first | omega | decide) only [seval, -Int.reducePow, -Nat.reducePow, cC, pv, binv, sFlSt1, undef, retQ2, ressV, packV, g11]
  intro w hw
  exact ⟨⟨x, by rw [hyes, if_pos hz] <;> rfl, fun _ y hy => by rw [hyes] at hy; exact Option.some.inj hy⟩, hw.below⟩
set_option maxHeartbeats 2000000 in
theorem Static_any (m : ModR) (f : Int) (W : World) (hM : Mod W W.heap.size m) : Calls Try.prog 55 #[modV m, .int .i64 f] W fun e w' => e = .returned (fltV (stF m f)) ∧ Below W.heap.size W w' := by
  have hMat := fun {L : List Res} {w : World} (hw : St [] W L w) => hM.at hw
  have hfn := hM.fn
  obtain ⟨q, hq⟩ : ∃ q, (if (chkM m).1 = 0 then (if (fnAt m f).isSome then fineF else (26, -1, -1)) else chkM m) = q := ⟨_, rfl⟩
  obtain ⟨TA, tn, tc, ts, FA, fn, fc, gs⟩ := m
  dsimp only at *
  refine calls_cv2 (M := []) (n := 37) [.cell 4 36] rfl Try.func55 rfl rfl (Nat.le_of_ble_eq_true rfl) (St.nil _ _) ?_
  refine cv_seq_k fun K hK => ?_
  refine cv_region_then rfl ?_
  simp -implicitDefEqProofs (disch := first | omega | decide) only [seval, -Int.reducePow, -Nat.reducePow, cC, pv, binv, sFlSt1, undef]
  intro b1 hb1 b4 hb4 h4
  refine hK _ _ ?_
  clear hK K
  refine cv_seq_k fun K hK => ?_
  refine cv_region_then rfl ?_
  simp -implicitDefEqProofs (disch := first | omega | decide) only [seval, -Int.reducePow, -Nat.reducePow, cC, pv, binv, sFlSt1, undef]
  refine callV_ex (fun x : FnR => .tuple #[fnV x, fltV q]) (fun x => (chkM ⟨TA, tn, tc, ts, FA, fn, fc, gs⟩).1 = 0 → ∀ y, fnAt ⟨TA, tn, tc, ts, FA, fn, fc, gs⟩ f = some y → x = y) (fun w hw => (by have := find_any ⟨TA, tn, tc, ts, FA, fn, fc, gs⟩ f w (hMat hw); rwa [hq] at this)) ?_
  intro x hx
  simp -implicitDefEqProofs (disch := first | omega | decide) only [seval, -Int.reducePow, -Nat.reducePow, cC, pv, binv, sFlSt1, undef]
  intro b5 hb5 h5 b6 hb6 h6
  simp -implicitDefEqProofs (disch := first | omega | decide) only [seval, -Int.reducePow, -Nat.reducePow, cC, pv, binv, sFlSt1, undef]
  refine hK _ _ ?_
  clear hK K
  refine cv_gen fun G12 hG => ?_
  have g12_1 := congrFun hG 1
  have g12_2 := congrFun hG 2
  have g12_4 := congrFun hG 4
  have g12_5 := congrFun hG 5
  have g12_6 := congrFun hG 6
  clear hG
  try simp -implicitDefEqProofs (disch := first | omega | decide) only [seval, -Int.reducePow, -Nat.reducePow, cC, pv, binv, sFlSt1, undef] at g12_1 g12_2 g12_4 g12_5 g12_6
  have g12 := And.intro g12_1 (And.intro g12_2 (And.intro g12_4 (And.intro g12_5 g12_6)))
  refine cv_seq_k fun K hK => ?_
  refine cv_seq_k fun K hK => ?_
  refine cv_region_then rfl ?_
  simp -implicitDefEqProofs (disch := first | omega | decide) only [seval, -Int.reducePow, -Nat.reducePow, cC, pv, binv, sFlSt1, undef, g12]
  refine hK _ _ ?_
  clear hK K
  refine cv_cond ?_
  simp -implicitDefEqProofs (disch := first | omega | decide) only [seval, -Int.reducePow, -Nat.reducePow, cC, pv, binv, sFlSt1, undef, g12]
  refine ⟨fun hc => ?_, fun hc => ?_⟩
  · have hz : ¬ q.1 = 0 := nd_true ‹(!decide (q.1 = 0)) = true›
    have hS : stF ⟨TA, tn, tc, ts, FA, fn, fc, gs⟩ f = q := by
      unfold stF
      rw [← hq] at hz ⊢
      split
      · rename_i h0
        rw [if_pos h0] at hz
        cases hf : fnAt ⟨TA, tn, tc, ts, FA, fn, fc, gs⟩ f with
        | none => rfl
        | some y => rw [hf] at hz; exact absurd rfl hz
      · rfl
    refine cv_seq_k fun K hK => ?_
    refine cv_region_then rfl ?_
    simp -implicitDefEqProofs (disch := first | omega | decide) only [seval, -Int.reducePow, -Nat.reducePow, cC, pv, binv, sFlSt1, undef, g12]
    refine hK _ _ ?_
    clear hK K
    refine cv_ret ?_
    simp -implicitDefEqProofs (disch := first | omega | decide) only [seval, -Int.reducePow, -Nat.reducePow, cC, pv, binv, sFlSt1, undef, retQ2, ressV, packV, g12]
    intro w hw
    exact ⟨by rw [hS] <;> rfl, hw.below⟩
  have hz : q.1 = 0 := Decidable.not_not.1 (nd_false ‹(!decide (q.1 = 0)) = false›)
  have h0 : (chkM ⟨TA, tn, tc, ts, FA, fn, fc, gs⟩).1 = 0 := by
    refine Decidable.byContradiction fun h0 => ?_
    rw [← hq, if_neg h0] at hz
    exact h0 hz
  obtain ⟨y, hy⟩ : ∃ y, fnAt ⟨TA, tn, tc, ts, FA, fn, fc, gs⟩ f = some y := by
    cases hf : fnAt ⟨TA, tn, tc, ts, FA, fn, fc, gs⟩ f with
    | none => rw [← hq, if_pos h0, hf] at hz; exact absurd (show (26 : Int) = 0 from hz) (by decide)
    | some y => exact ⟨y, rfl⟩
  obtain rfl : x = y := hx h0 y hy
  obtain ⟨k, rfl, hk⟩ := fnAt_some hy
  dsimp only at hk
  obtain ⟨-, -, -, hg32, hck⟩ := chkM_ok h0
  obtain ⟨hfe, hce⟩ := hck k x hk
  obtain ⟨hp0, -, hl0, -, hpl, -, -, h1024, -⟩ := fnErr_ok hfe
  have hX := hfn x (List.mem_of_getElem? hk)
  have hxl : x.code.length = x.n := cl_row insc_len (by omega) hX.len
  have hS : stF ⟨TA, tn, tc, ts, FA, fn, fc, gs⟩ (k : Int) = stX gs.length (k : Int) x := by
    unfold stF
    rw [if_pos h0, hy]
  have hXat := fun {L : List Res} {w : World} (hw : St [] W L w) => hX.at hw
  dsimp only at hg32
  refine cv_skip ?_
  try simp only [blockQ, thenQ]
  refine hK _ _ ?_
  clear hK K
  refine cv_seq_k fun K hK => ?_
  refine cv_seq_k fun K hK => ?_
  refine cv_region_then rfl ?_
  simp -implicitDefEqProofs (disch := first | omega | decide) only [seval, -Int.reducePow, -Nat.reducePow, cC, pv, binv, sFlSt1, undef, g12]
  refine hK _ _ ?_
  clear hK K
  refine cv_gen fun G13 hG => ?_
  have g13_1 := congrFun hG 1
  have g13_2 := congrFun hG 2
  have g13_4 := congrFun hG 4
  have g13_5 := congrFun hG 5
  have g13_21 := congrFun hG 21
  have g13_22 := congrFun hG 22
  clear hG
  try simp -implicitDefEqProofs (disch := first | omega | decide) only [seval, -Int.reducePow, -Nat.reducePow, cC, pv, binv, sFlSt1, undef, g12] at g13_1 g13_2 g13_4 g13_5 g13_21 g13_22
  have g13 := And.intro g13_1 (And.intro g13_2 (And.intro g13_4 (And.intro g13_5 (And.intro g13_21 g13_22))))
  refine cv_block ?_
  refine cv_loop (fun F' L' => ∃ (j : Nat), F' 1 = G13 1 ∧ F' 2 = G13 2 ∧ F' 4 = G13 4 ∧ F' 5 = G13 5 ∧ F' 21 = G13 21 ∧ F' 22 = .int .i64 (j : Int) ∧ L' = [flBox b6 q.1 q.2.1 q.2.2, gBox b5 x, flBox b4 0 0 0, mBox b1 ⟨TA, tn, tc, ts, FA, fn, fc, gs⟩] ∧ j ≤ x.n ∧ firstS gs.length x 0 x.code = firstS gs.length x j (x.code.drop j)) (fun F' L' => 1100 - (intOf (F' 22)).toNat) ?_ ?_
  · refine ⟨0, ?_⟩
    simp -implicitDefEqProofs (disch := first | omega | decide) only [seval, -Int.reducePow, -Nat.reducePow, cC, pv, binv, sFlSt1, undef, g13]
    omega
  intro G14 L' hI
  obtain ⟨j, q1, q2, q4, q5, q21, q22, rfl, ⟨hj, hi⟩⟩ := hI
  have g14_1 := q1.trans g13_1
  have g14_2 := q2.trans g13_2
  have g14_4 := q4.trans g13_4
  have g14_5 := q5.trans g13_5
  have g14_21 := q21.trans g13_21
  have g14_22 := q22
  clear q1 q2 q4 q5 q21 q22
  have g14 := And.intro g14_1 (And.intro g14_2 (And.intro g14_4 (And.intro g14_5 (And.intro g14_21 g14_22))))
  refine cv_seq_k fun K hK => ?_
  refine cv_region_then rfl ?_
  simp -implicitDefEqProofs (disch := first | omega | decide) only [seval, -Int.reducePow, -Nat.reducePow, cC, pv, binv, sFlSt1, undef, g13, g14]
  refine hK _ _ ?_
  clear hK K
  refine cv_seq_k fun K hK => ?_
  refine cv_cond ?_
  simp -implicitDefEqProofs (disch := first | omega | decide) only [seval, -Int.reducePow, -Nat.reducePow, cC, pv, binv, sFlSt1, undef, g13, g14]
  refine ⟨fun hc => ?_, fun hc => ?_⟩
  · refine cv_skip ?_
    try simp only [blockQ, thenQ]
    have hjt : j < x.n := by have := of_decide_eq_true ‹decide ((j : Int) < (x.n : Int)) = true›; omega
    obtain ⟨y, hy⟩ := some_of (l := x.code) (i := j) (by omega)
    rw [drop_at' hy] at hi
    obtain ⟨s, hs⟩ : ∃ s, stE gs.length x j y = s := ⟨_, rfl⟩
    refine hK _ _ ?_
    clear hK K
    refine cv_seq_k fun K hK => ?_
    refine cv_block ?_
    refine cv_seq_k fun K hK => ?_
    refine cv_region_then rfl ?_
    simp -implicitDefEqProofs (disch := first | omega | decide) only [seval, -Int.reducePow, -Nat.reducePow, cC, pv, binv, sFlSt1, undef, g13, g14]
    refine hK _ _ ?_
    clear hK K
    refine cv_seq_k fun K hK => ?_
    refine cv_region_then rfl ?_
    simp -implicitDefEqProofs (disch := first | omega | decide) only [seval, -Int.reducePow, -Nat.reducePow, cC, pv, binv, sFlSt1, undef, g13, g14]
    refine callV_ret (fun w hw => static_any ⟨TA, tn, tc, ts, FA, fn, fc, gs⟩ x j y w (hMat hw) (hXat hw) hy hp0 hl0 hpl hg32 h1024) ?_
    try simp -implicitDefEqProofs (disch := first | omega | decide) only [seval, -Int.reducePow, -Nat.reducePow, cC, pv, binv, sFlSt1, undef, hs, g13, g14]
    refine hK _ _ ?_
    clear hK K
    refine cv_seq_k fun K hK => ?_
    refine cv_region_then rfl ?_
    simp -implicitDefEqProofs (disch := first | omega | decide) only [seval, -Int.reducePow, -Nat.reducePow, cC, pv, binv, sFlSt1, undef, g13, g14]
    refine hK _ _ ?_
    clear hK K
    refine cv_cond ?_
    simp -implicitDefEqProofs (disch := first | omega | decide) only [seval, -Int.reducePow, -Nat.reducePow, cC, pv, binv, sFlSt1, undef, g13, g14]
    refine ⟨fun hc => ?_, fun hc => ?_⟩
    · have hz3 : ¬ s = 0 := nd_true ‹(!decide (s = 0)) = true›
      rw [firstS_no _ (by rw [hs]; exact hz3), hs] at hi
      refine cv_seq_k fun K hK => ?_
      refine cv_region_then rfl ?_
      simp -implicitDefEqProofs (disch := first | omega | decide) only [seval, -Int.reducePow, -Nat.reducePow, cC, pv, binv, sFlSt1, undef, g13, g14]
      refine hK _ _ ?_
      clear hK K
      refine cv_ret ?_
      simp -implicitDefEqProofs (disch := first | omega | decide) only [seval, -Int.reducePow, -Nat.reducePow, cC, pv, binv, sFlSt1, undef, retQ2, ressV, packV, g13, g14]
      intro w hw
      exact ⟨by rw [hS]; unfold stX; rw [hi, if_neg hz3] <;> rfl, hw.below⟩
    have hz3 : s = 0 := Decidable.not_not.1 (nd_false ‹(!decide (s = 0)) = false›)
    rw [firstS_yes _ (by rw [hs]; exact hz3)] at hi
    refine cv_skip ?_
    try simp only [blockQ, thenQ]
    refine hK _ _ ?_
    clear hK K
    refine cv_region_then rfl ?_
    simp -implicitDefEqProofs (disch := first | omega | decide) only [seval, -Int.reducePow, -Nat.reducePow, cC, pv, binv, sFlSt1, undef, wrap_in, g13, g14]
    refine ⟨⟨j + 1, ?_⟩, ?_⟩
    · simp -implicitDefEqProofs (disch := first | omega | decide) only [seval, -Int.reducePow, -Nat.reducePow, cC, pv, binv, sFlSt1, undef, Int.natCast_add, g13, g14]
      exact ⟨by omega, hi⟩
    · simp only [intOf]; omega
  refine cv_exit ?_
  simp only [blockQ, thenQ, if_true, ite_true]
  clear hK K
  refine hK _ _ ?_
  clear hK K
  have hje : j = x.n := by have := of_decide_eq_false ‹decide ((j : Int) < (x.n : Int)) = false›; omega
  rw [List.drop_of_length_le (by omega)] at hi
  refine cv_seq_k fun K hK => ?_
  refine cv_region_then rfl ?_
  simp -implicitDefEqProofs (disch := first | omega | decide) only [seval, -Int.reducePow, -Nat.reducePow, cC, pv, binv, sFlSt1, undef, g13, g14]
  refine callV_ret (fun w hw => f_fine_any w) ?_
  try simp -implicitDefEqProofs (disch := first | omega | decide) only [seval, -Int.reducePow, -Nat.reducePow, cC, pv, binv, sFlSt1, undef, g13, g14]
  refine hK _ _ ?_
  clear hK K
  refine cv_ret ?_
  simp -implicitDefEqProofs (disch := first | omega | decide) only [seval, -Int.reducePow, -Nat.reducePow, cC, pv, binv, sFlSt1, undef, retQ2, ressV, packV, g13, g14]
  intro w hw
  exact ⟨by rw [hS]; unfold stX; rw [hi] <;> rfl, hw.below⟩
end Go.Proofs.Ytlbmnioibiomfaa
