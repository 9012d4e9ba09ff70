/- module.Check. -/
import Derived.Test.YtlbmnioibiomfaaMod
namespace Go.Proofs.Ytlbmnioibiomfaa
open Go.RowKit Go.Shelf
set_option linter.unusedVariables false
set_option linter.unusedSimpArgs false
set_option maxRecDepth 100000
def mBox (b : Nat) (m : ModR) : Res := .blk b 29 [.slice m.TA m.tn m.tc, .slice m.FA m.fn m.fc]
def gBox (b : Nat) (f : FnR) : Res := .blk b 58 [.int .i64 f.p, .int .i64 f.r, .int .i64 f.l, .slice f.A f.n f.c]
def flBox (b : Nat) (e f a : Int) : Res := .blk b 36 [.int .i64 e, .int .i64 f, .int .i64 a]
set_option maxRecDepth 100000 in
theorem sMChk1 : type_of% (And.intro (And.intro (And.intro @fBox.eq_1 @tBox.eq_1) (And.intro @iBox.eq_1 (And.intro @mBox.eq_1 @gBox.eq_1))) (And.intro (And.intro @flBox.eq_1 (And.intro @fdV.eq_1 @tyV.eq_1)) (And.intro @insV.eq_1 (And.intro @fnV.eq_1 @modV.eq_1)))) := (And.intro (And.intro (And.intro @fBox.eq_1 @tBox.eq_1) (And.intro @iBox.eq_1 (And.intro @mBox.eq_1 @gBox.eq_1))) (And.intro (And.intro @flBox.eq_1 (And.intro @fdV.eq_1 @tyV.eq_1)) (And.intro @insV.eq_1 (And.intro @fnV.eq_1 @modV.eq_1))))
set_option maxHeartbeats 2000000 in
theorem checkParts_any (m : ModR) (W : World) (hM : Mod W W.heap.size m) : Calls Try.prog 52 #[modV m] W fun e w' => e = .returned (.int .i64 (chkP m)) ∧ Below W.heap.size W w' := by
  have hlt := hM.tlen
  have hlg := hM.glen
  have hE := hM.ts
  have hty := hM.ty
  obtain ⟨TA, tn, tc, ts, FA, fn, fc, gs⟩ := m
  dsimp only at *
  refine calls_cv (M := []) (n := 31) [.tmp 2] rfl Try.func52 rfl rfl (Nat.le_of_ble_eq_true rfl) (St.nil _ _) ?_
  refine cv_seq_k fun K hK => ?_
  refine cv_region_then rfl ?_
  simp -implicitDefEqProofs (disch := first | omega | decide) only [seval, -Int.reducePow, -Nat.reducePow, cC, pv, binv, sMChk1, undef]
  intro b hb
  refine hK _ _ ?_
  clear hK K
  refine cv_gen fun G1 hG => ?_
  have g1_1 := congrFun hG 1
  clear hG
  try simp -implicitDefEqProofs (disch := first | omega | decide) only [seval, -Int.reducePow, -Nat.reducePow, cC, pv, binv, sMChk1, undef] at g1_1
  have g1 := g1_1
  refine cv_seq_k fun K hK => ?_
  refine cv_seq_k fun K hK => ?_
  refine cv_region_then rfl ?_
  simp -implicitDefEqProofs (disch := first | omega | decide) only [seval, -Int.reducePow, -Nat.reducePow, cC, pv, binv, sMChk1, undef, g1]
  refine hK _ _ ?_
  clear hK K
  refine cv_cond ?_
  simp -implicitDefEqProofs (disch := first | omega | decide) only [seval, -Int.reducePow, -Nat.reducePow, cC, pv, binv, sMChk1, undef, g1]
  refine ⟨fun hc => ?_, fun hc => ?_⟩
  · have q1 : 32 < ts.length := by have := of_decide_eq_true hc; omega
    refine cv_seq_k fun K hK => ?_
    refine cv_region_then rfl ?_
    simp -implicitDefEqProofs (disch := first | omega | decide) only [seval, -Int.reducePow, -Nat.reducePow, cC, pv, binv, sMChk1, undef, g1]
    refine hK _ _ ?_
    clear hK K
    refine cv_ret ⟨_, (by simp -implicitDefEqProofs (disch := first | omega | decide) only [seval, -Int.reducePow, -Nat.reducePow, cC, pv, binv, sMChk1, undef, g1]; rfl), fun w hw => ?_⟩
    exact ⟨by unfold chkP; dsimp only; rw [if_pos q1], hw.below⟩
  have q1 : ¬ 32 < ts.length := by have := of_decide_eq_false hc; omega
  refine cv_skip ?_
  try simp only [blockQ, thenQ]
  refine hK _ _ ?_
  clear hK K
  refine cv_seq_k fun K hK => ?_
  refine cv_seq_k fun K hK => ?_
  refine cv_region_then rfl ?_
  simp -implicitDefEqProofs (disch := first | omega | decide) only [seval, -Int.reducePow, -Nat.reducePow, cC, pv, binv, sMChk1, undef, g1]
  refine hK _ _ ?_
  clear hK K
  refine cv_gen fun G2 hG => ?_
  have g2_1 := congrFun hG 1
  have g2_11 := congrFun hG 11
  have g2_12 := congrFun hG 12
  have g2_13 := congrFun hG 13
  clear hG
  try simp -implicitDefEqProofs (disch := first | omega | decide) only [seval, -Int.reducePow, -Nat.reducePow, cC, pv, binv, sMChk1, undef, g1] at g2_1 g2_11 g2_12 g2_13
  have g2 := And.intro g2_1 (And.intro g2_11 (And.intro g2_12 g2_13))
  refine cv_block ?_
  refine cv_loop (fun F' L' => ∃ (k : Nat), F' 1 = G2 1 ∧ F' 11 = G2 11 ∧ F' 12 = G2 12 ∧ F' 13 = .int .i64 (k : Int) ∧ L' = [mBox b ⟨TA, tn, tc, ts, FA, fn, fc, gs⟩] ∧ k ≤ tn ∧ firstT ts = firstT (ts.drop k)) (fun F' L' => 40 - (intOf (F' 13)).toNat) ?_ ?_
  · refine ⟨0, ?_⟩
    simp -implicitDefEqProofs (disch := first | omega | decide) only [seval, -Int.reducePow, -Nat.reducePow, cC, pv, binv, sMChk1, undef, g2]
    omega
  intro G3 L' hI
  obtain ⟨k, q1, q11, q12, q13, rfl, ⟨hk, hf⟩⟩ := hI
  have g3_1 := q1.trans g2_1
  have g3_11 := q11.trans g2_11
  have g3_12 := q12.trans g2_12
  have g3_13 := q13
  clear q1 q11 q12 q13
  have g3 := And.intro g3_1 (And.intro g3_11 (And.intro g3_12 g3_13))
  refine cv_seq_k fun K hK => ?_
  refine cv_region_then rfl ?_
  simp -implicitDefEqProofs (disch := first | omega | decide) only [seval, -Int.reducePow, -Nat.reducePow, cC, pv, binv, sMChk1, undef, g2, g3]
  refine hK _ _ ?_
  clear hK K
  refine cv_seq_k fun K hK => ?_
  refine cv_cond ?_
  simp -implicitDefEqProofs (disch := first | omega | decide) only [seval, -Int.reducePow, -Nat.reducePow, cC, pv, binv, sMChk1, undef, g2, g3]
  refine ⟨fun hc => ?_, fun hc => ?_⟩
  · refine cv_skip ?_
    try simp only [blockQ, thenQ]
    have hlt2 : k < tn := by have := of_decide_eq_true ‹_›; omega
    obtain ⟨b0, off, rfl, hb0, -⟩ := hE.cells (by omega)
    obtain ⟨x, hx⟩ := some_of (l := ts) (i := k) (by omega)
    have hX := hty x (List.mem_of_getElem? hx)
    rw [drop_at' hx] at hf
    refine hK _ _ ?_
    clear hK K
    refine cv_seq_k fun K hK => ?_
    refine cv_block ?_
    refine cv_seq_k fun K hK => ?_
    refine cv_region_then rfl ?_
    simp -implicitDefEqProofs (disch := first | omega | decide) only [seval, -Int.reducePow, -Nat.reducePow, cC, pv, binv, sMChk1, undef, g2, g3]
    refine ⟨_, hE.tyl hx, fun tok htok => ?_⟩
    subst htok
    simp -implicitDefEqProofs (disch := first | omega | decide) only [seval, -Int.reducePow, -Nat.reducePow, cC, pv, binv, sMChk1, undef, g2, g3]
    intro b4 hb4 h4
    refine hK _ _ ?_
    clear hK K
    refine cv_seq_k fun K hK => ?_
    refine cv_region_then rfl ?_
    simp -implicitDefEqProofs (disch := first | omega | decide) only [seval, -Int.reducePow, -Nat.reducePow, cC, pv, binv, sMChk1, undef, g2, g3]
    refine callV_ret (fun w hw => check_any x.A x.n x.c x.fs x.len w (hX.at hw)) ?_
    try simp -implicitDefEqProofs (disch := first | omega | decide) only [seval, -Int.reducePow, -Nat.reducePow, cC, pv, binv, sMChk1, undef, g2, g3]
    refine hK _ _ ?_
    clear hK K
    refine cv_seq_k fun K hK => ?_
    refine cv_region_then rfl ?_
    simp -implicitDefEqProofs (disch := first | omega | decide) only [seval, -Int.reducePow, -Nat.reducePow, cC, pv, binv, sMChk1, undef, g2, g3]
    refine hK _ _ ?_
    clear hK K
    refine cv_cond ?_
    simp -implicitDefEqProofs (disch := first | omega | decide) only [seval, -Int.reducePow, -Nat.reducePow, cC, pv, binv, sMChk1, undef, g2, g3]
    refine ⟨fun hc => ?_, fun hc => ?_⟩
    · have hz : ¬ chk x.len x.fs = 0 := nd_true ‹(!decide (chk x.len x.fs = 0)) = true›
      rw [firstT_no _ hz] at hf
      refine cv_seq_k fun K hK => ?_
      refine cv_region_then rfl ?_
      simp -implicitDefEqProofs (disch := first | omega | decide) only [seval, -Int.reducePow, -Nat.reducePow, cC, pv, binv, sMChk1, undef, g2, g3]
      refine hK _ _ ?_
      clear hK K
      refine cv_ret ⟨_, (by simp -implicitDefEqProofs (disch := first | omega | decide) only [seval, -Int.reducePow, -Nat.reducePow, cC, pv, binv, sMChk1, undef, g2, g3]; rfl), fun w hw => ?_⟩
      exact ⟨by unfold chkP; dsimp only; rw [if_neg q1, hf, if_neg hz], hw.below⟩
    have hz : chk x.len x.fs = 0 := Decidable.not_not.1 (nd_false ‹(!decide (chk x.len x.fs = 0)) = false›)
    rw [firstT_yes _ hz] at hf
    refine cv_skip ?_
    try simp only [blockQ, thenQ]
    refine hK _ _ ?_
    clear hK K
    refine cv_pick [1] (by decide) ?_
    simp only [pickL, nth]
    refine cv_region_then rfl ?_
    simp -implicitDefEqProofs (disch := first | omega | decide) only [seval, -Int.reducePow, -Nat.reducePow, cC, pv, binv, sMChk1, undef, wrap_in, g2, g3]
    refine ⟨⟨k + 1, ?_⟩, ?_⟩
    · simp -implicitDefEqProofs (disch := first | omega | decide) only [seval, -Int.reducePow, -Nat.reducePow, cC, pv, binv, sMChk1, undef, Int.natCast_add, g2, g3]
      exact ⟨by omega, hf⟩
    · simp only [intOf]; omega
  refine cv_exit ?_
  simp only [blockQ, thenQ, if_true, ite_true]
  clear hK K
  refine hK _ _ ?_
  clear hK K
  obtain rfl : tn = k := by have := of_decide_eq_false ‹_›; omega
  rw [List.drop_of_length_le (by omega)] at hf
  have hf : firstT ts = 0 := hf
  refine cv_seq_k fun K hK => ?_
  refine cv_seq_k fun K hK => ?_
  refine cv_region_then rfl ?_
  simp -implicitDefEqProofs (disch := first | omega | decide) only [seval, -Int.reducePow, -Nat.reducePow, cC, pv, binv, sMChk1, undef, g2, g3]
  refine hK _ _ ?_
  clear hK K
  refine cv_cond ?_
  simp -implicitDefEqProofs (disch := first | omega | decide) only [seval, -Int.reducePow, -Nat.reducePow, cC, pv, binv, sMChk1, undef, g2, g3]
  refine ⟨fun hc => ?_, fun hc => ?_⟩
  · have q2 : gs.length = 0 := by have := of_decide_eq_true ‹_›; omega
    refine cv_seq_k fun K hK => ?_
    refine cv_region_then rfl ?_
    simp -implicitDefEqProofs (disch := first | omega | decide) only [seval, -Int.reducePow, -Nat.reducePow, cC, pv, binv, sMChk1, undef, g2, g3]
    refine hK _ _ ?_
    clear hK K
    refine cv_ret ⟨_, (by simp -implicitDefEqProofs (disch := first | omega | decide) only [seval, -Int.reducePow, -Nat.reducePow, cC, pv, binv, sMChk1, undef, g2, g3]; rfl), fun w hw => ?_⟩
    exact ⟨by unfold chkP; dsimp only; rw [if_neg q1, if_pos hf, if_pos q2], hw.below⟩
  have q2 : ¬ gs.length = 0 := by have := of_decide_eq_false ‹_›; omega
  refine cv_skip ?_
  try simp only [blockQ, thenQ]
  refine hK _ _ ?_
  clear hK K
  refine cv_seq_k fun K hK => ?_
  refine cv_seq_k fun K hK => ?_
  refine cv_region_then rfl ?_
  simp -implicitDefEqProofs (disch := first | omega | decide) only [seval, -Int.reducePow, -Nat.reducePow, cC, pv, binv, sMChk1, undef, g2, g3]
  refine hK _ _ ?_
  clear hK K
  refine cv_cond ?_
  simp -implicitDefEqProofs (disch := first | omega | decide) only [seval, -Int.reducePow, -Nat.reducePow, cC, pv, binv, sMChk1, undef, g2, g3]
  refine ⟨fun hc => ?_, fun hc => ?_⟩
  · have q3 : 32 < gs.length := by have := of_decide_eq_true ‹_›; omega
    refine cv_seq_k fun K hK => ?_
    refine cv_region_then rfl ?_
    simp -implicitDefEqProofs (disch := first | omega | decide) only [seval, -Int.reducePow, -Nat.reducePow, cC, pv, binv, sMChk1, undef, g2, g3]
    refine hK _ _ ?_
    clear hK K
    refine cv_ret ⟨_, (by simp -implicitDefEqProofs (disch := first | omega | decide) only [seval, -Int.reducePow, -Nat.reducePow, cC, pv, binv, sMChk1, undef, g2, g3]; rfl), fun w hw => ?_⟩
    exact ⟨by unfold chkP; dsimp only; rw [if_neg q1, if_pos hf, if_neg q2, if_pos q3], hw.below⟩
  have q3 : ¬ 32 < gs.length := by have := of_decide_eq_false ‹_›; omega
  refine cv_skip ?_
  try simp only [blockQ, thenQ]
  refine hK _ _ ?_
  clear hK K
  refine cv_seq_k fun K hK => ?_
  refine cv_region_then rfl ?_
  simp -implicitDefEqProofs (disch := first | omega | decide) only [seval, -Int.reducePow, -Nat.reducePow, cC, pv, binv, sMChk1, undef, g2, g3]
  refine hK _ _ ?_
  clear hK K
  refine cv_ret ⟨_, (by simp -implicitDefEqProofs (disch := first | omega | decide) only [seval, -Int.reducePow, -Nat.reducePow, cC, pv, binv, sMChk1, undef, g2, g3]; rfl), fun w hw => ?_⟩
  exact ⟨by unfold chkP; dsimp only; rw [if_neg q1, if_pos hf, if_neg q2, if_neg q3], hw.below⟩
set_option maxHeartbeats 2000000 in
theorem checkFunc_any (i : Int) (f : FnR) (W : World) (hl : f.code.length = f.n) : Calls Try.prog 53 #[.int .i64 i, fnV f] W fun e w' => e = .returned (.int .i64 (fnErr i f)) ∧ Below W.heap.size W w' := by
  refine calls_cv (M := []) (n := 59) [.tmp 4] rfl Try.func53 rfl rfl (Nat.le_of_ble_eq_true rfl) (St.nil _ _) ?_
  refine cv_seq_k fun K hK => ?_
  refine cv_region_then rfl ?_
  simp -implicitDefEqProofs (disch := first | omega | decide) only [seval, -Int.reducePow, -Nat.reducePow, cC, pv, binv, sMChk1, undef]
  intro b hb
  refine hK _ _ ?_
  clear hK K
  refine cv_gen fun G4 hG => ?_
  have g4_0 := congrFun hG 0
  have g4_3 := congrFun hG 3
  clear hG
  try simp -implicitDefEqProofs (disch := first | omega | decide) only [seval, -Int.reducePow, -Nat.reducePow, cC, pv, binv, sMChk1, undef] at g4_0 g4_3
  have g4 := And.intro g4_0 g4_3
  refine cv_seq_k fun K hK => ?_
  refine cv_block ?_
  refine cv_seq_k fun K hK => ?_
  refine cv_cut (fun _ _ => True) (fun F' L' => F' 0 = G4 0 ∧ F' 3 = G4 3 ∧ F' 5 = .bool (decide (f.p < 0 ∨ f.r < 0 ∨ f.l < 0)) ∧ L' = [gBox b f]) ?_ ?_
  · refine cv_region_then rfl ?_
    simp -implicitDefEqProofs (disch := first | omega | decide) only [seval, -Int.reducePow, -Nat.reducePow, cC, pv, binv, sMChk1, undef, g4]
    repeat' ((first | refine vcg_cases (fun hg => ?_) (fun hg => ?_) | refine vdg_cases (fun hg => ?_) (fun hg => ?_)) <;> ((try simp only [Bool.not_eq_true', Bool.not_eq_false', decide_eq_true_eq, decide_eq_false_iff_not] at hg); (try simp -implicitDefEqProofs (disch := first | omega | decide) only [seval, -Int.reducePow, -Nat.reducePow, cC, pv, binv, sMChk1, undef, hg, g4])))
    all_goals (repeat' refine And.intro ?_ ?_)
    all_goals (first | with_reducible rfl | (refine congrArg Value.bool ?_; rw [Bool.eq_iff_iff]; (try simp only [decide_eq_true_eq, eq_self, true_and, and_true, false_and, and_false, true_or, or_true, false_or, or_false, not_true_eq_false, not_false_eq_true, true_iff, iff_true, false_iff, iff_false, Bool.false_eq_true, Bool.not_eq_true', Bool.not_eq_true, decide_eq_false_iff_not, Bool.and_eq_true, Bool.or_eq_true]) <;> omega) | (refine congrArg (Value.int _) ?_; omega) | omega)
  intro G5 L' _ hF
  obtain ⟨q0, q3, q5, rfl⟩ := hF
  have g5_0 := q0.trans g4_0
  have g5_3 := q3.trans g4_3
  have g5_5 := q5
  clear q0 q3 q5
  have g5 := And.intro g5_0 (And.intro g5_3 g5_5)
  refine hK _ _ ?_
  clear hK K
  refine cv_cond ?_
  simp -implicitDefEqProofs (disch := first | omega | decide) only [seval, -Int.reducePow, -Nat.reducePow, cC, pv, binv, sMChk1, undef, g5]
  refine ⟨fun hc => ?_, fun hc => ?_⟩
  · have q1 := of_decide_eq_true ‹_›
    refine cv_seq_k fun K hK => ?_
    refine cv_region_then rfl ?_
    simp -implicitDefEqProofs (disch := first | omega | decide) only [seval, -Int.reducePow, -Nat.reducePow, cC, pv, binv, sMChk1, undef, g5]
    refine hK _ _ ?_
    clear hK K
    refine cv_ret ⟨_, (by simp -implicitDefEqProofs (disch := first | omega | decide) only [seval, -Int.reducePow, -Nat.reducePow, cC, pv, binv, sMChk1, undef, g5]; rfl), fun w hw => ?_⟩
    exact ⟨by unfold fnErr; rw [if_pos q1], hw.below⟩
  have q1 := of_decide_eq_false ‹_›
  refine cv_seq_k fun K hK => ?_
  refine cv_cut (fun _ _ => True) (fun F' L' => F' 0 = G5 0 ∧ F' 3 = G5 3 ∧ F' 19 = .bool (decide (64 < f.p ∨ 64 - f.p < f.l ∨ 8 < f.r)) ∧ L' = [gBox b f]) ?_ ?_
  · refine cv_region_then rfl ?_
    simp -implicitDefEqProofs (disch := first | omega | decide) only [seval, -Int.reducePow, -Nat.reducePow, cC, pv, binv, sMChk1, undef, g5]
    repeat' ((first | refine vcg_cases (fun hg => ?_) (fun hg => ?_) | refine vdg_cases (fun hg => ?_) (fun hg => ?_)) <;> ((try simp only [Bool.not_eq_true', Bool.not_eq_false', decide_eq_true_eq, decide_eq_false_iff_not] at hg); (try simp -implicitDefEqProofs (disch := first | omega | decide) only [seval, -Int.reducePow, -Nat.reducePow, cC, pv, binv, sMChk1, undef, hg, wrap_in, g5])))
    all_goals (repeat' refine And.intro ?_ ?_)
    all_goals (first | with_reducible rfl | (refine congrArg Value.bool ?_; rw [Bool.eq_iff_iff]; (try simp only [decide_eq_true_eq, eq_self, true_and, and_true, false_and, and_false, true_or, or_true, false_or, or_false, not_true_eq_false, not_false_eq_true, true_iff, iff_true, false_iff, iff_false, Bool.false_eq_true, Bool.not_eq_true', Bool.not_eq_true, decide_eq_false_iff_not, Bool.and_eq_true, Bool.or_eq_true]) <;> omega) | (refine congrArg (Value.int _) ?_; omega) | omega)
  intro G6 L' _ hF
  obtain ⟨q0, q3, q19, rfl⟩ := hF
  have g6_0 := q0.trans g5_0
  have g6_3 := q3.trans g5_3
  have g6_19 := q19
  clear q0 q3 q19
  have g6 := And.intro g6_0 (And.intro g6_3 g6_19)
  refine hK _ _ ?_
  clear hK K
  refine cv_cond ?_
  simp -implicitDefEqProofs (disch := first | omega | decide) only [seval, -Int.reducePow, -Nat.reducePow, cC, pv, binv, sMChk1, undef, g6]
  refine ⟨fun hc => ?_, fun hc => ?_⟩
  · have q2 := of_decide_eq_true ‹_›
    refine cv_seq_k fun K hK => ?_
    refine cv_region_then rfl ?_
    simp -implicitDefEqProofs (disch := first | omega | decide) only [seval, -Int.reducePow, -Nat.reducePow, cC, pv, binv, sMChk1, undef, g6]
    refine hK _ _ ?_
    clear hK K
    refine cv_ret ⟨_, (by simp -implicitDefEqProofs (disch := first | omega | decide) only [seval, -Int.reducePow, -Nat.reducePow, cC, pv, binv, sMChk1, undef, g6]; rfl), fun w hw => ?_⟩
    exact ⟨by unfold fnErr; rw [if_neg q1, if_pos q2], hw.below⟩
  have q2 := of_decide_eq_false ‹_›
  refine cv_seq_k fun K hK => ?_
  refine cv_cut (fun _ _ => True) (fun F' L' => F' 3 = G6 3 ∧ F' 36 = .bool (decide (i = 0 ∧ (¬ f.p = 0 ∨ ¬ f.r = 0))) ∧ L' = [gBox b f]) ?_ ?_
  · refine cv_region_then rfl ?_
    simp -implicitDefEqProofs (disch := first | omega | decide) only [seval, -Int.reducePow, -Nat.reducePow, cC, pv, binv, sMChk1, undef, g6]
    repeat' ((first | refine vcg_cases (fun hg => ?_) (fun hg => ?_) | refine vdg_cases (fun hg => ?_) (fun hg => ?_)) <;> ((try simp only [Bool.not_eq_true', Bool.not_eq_false', decide_eq_true_eq, decide_eq_false_iff_not] at hg); (try simp -implicitDefEqProofs (disch := first | omega | decide) only [seval, -Int.reducePow, -Nat.reducePow, cC, pv, binv, sMChk1, undef, hg, g6])))
    all_goals (repeat' refine And.intro ?_ ?_)
    all_goals (first | with_reducible rfl | (refine congrArg Value.bool ?_; rw [Bool.eq_iff_iff]; (try simp only [decide_eq_true_eq, eq_self, true_and, and_true, false_and, and_false, true_or, or_true, false_or, or_false, not_true_eq_false, not_false_eq_true, true_iff, iff_true, false_iff, iff_false, Bool.false_eq_true, Bool.not_eq_true', Bool.not_eq_true, decide_eq_false_iff_not, Bool.and_eq_true, Bool.or_eq_true]) <;> omega) | (refine congrArg (Value.int _) ?_; omega) | omega)
  intro G7 L' _ hF
  obtain ⟨q3, q36, rfl⟩ := hF
  have g7_3 := q3.trans g6_3
  have g7_36 := q36
  clear q3 q36
  have g7 := And.intro g7_3 g7_36
  refine hK _ _ ?_
  clear hK K
  refine cv_cond ?_
  simp -implicitDefEqProofs (disch := first | omega | decide) only [seval, -Int.reducePow, -Nat.reducePow, cC, pv, binv, sMChk1, undef, g7]
  refine ⟨fun hc => ?_, fun hc => ?_⟩
  · have q3 := of_decide_eq_true ‹_›
    refine cv_seq_k fun K hK => ?_
    refine cv_region_then rfl ?_
    simp -implicitDefEqProofs (disch := first | omega | decide) only [seval, -Int.reducePow, -Nat.reducePow, cC, pv, binv, sMChk1, undef, g7]
    refine hK _ _ ?_
    clear hK K
    refine cv_ret ⟨_, (by simp -implicitDefEqProofs (disch := first | omega | decide) only [seval, -Int.reducePow, -Nat.reducePow, cC, pv, binv, sMChk1, undef, g7]; rfl), fun w hw => ?_⟩
    exact ⟨by unfold fnErr; rw [if_neg q1, if_neg q2, if_pos q3], hw.below⟩
  have q3 := of_decide_eq_false ‹_›
  refine cv_seq_k fun K hK => ?_
  refine cv_region_then rfl ?_
  simp -implicitDefEqProofs (disch := first | omega | decide) only [seval, -Int.reducePow, -Nat.reducePow, cC, pv, binv, sMChk1, undef, g7]
  refine hK _ _ ?_
  clear hK K
  refine cv_cond ?_
  simp -implicitDefEqProofs (disch := first | omega | decide) only [seval, -Int.reducePow, -Nat.reducePow, cC, pv, binv, sMChk1, undef, g7]
  refine ⟨fun hc => ?_, fun hc => ?_⟩
  · have q4 : f.code.length = 0 := by have := of_decide_eq_true ‹_›; omega
    refine cv_seq_k fun K hK => ?_
    refine cv_region_then rfl ?_
    simp -implicitDefEqProofs (disch := first | omega | decide) only [seval, -Int.reducePow, -Nat.reducePow, cC, pv, binv, sMChk1, undef, g7]
    refine hK _ _ ?_
    clear hK K
    refine cv_ret ⟨_, (by simp -implicitDefEqProofs (disch := first | omega | decide) only [seval, -Int.reducePow, -Nat.reducePow, cC, pv, binv, sMChk1, undef, g7]; rfl), fun w hw => ?_⟩
    exact ⟨by unfold fnErr; rw [if_neg q1, if_neg q2, if_neg q3, if_pos q4], hw.below⟩
  have q4 : ¬ f.code.length = 0 := by have := of_decide_eq_false ‹_›; omega
  refine cv_seq_k fun K hK => ?_
  refine cv_region_then rfl ?_
  simp -implicitDefEqProofs (disch := first | omega | decide) only [seval, -Int.reducePow, -Nat.reducePow, cC, pv, binv, sMChk1, undef, g7]
  refine hK _ _ ?_
  clear hK K
  refine cv_cond ?_
  simp -implicitDefEqProofs (disch := first | omega | decide) only [seval, -Int.reducePow, -Nat.reducePow, cC, pv, binv, sMChk1, undef, g7]
  refine ⟨fun hc => ?_, fun hc => ?_⟩
  · have q5 : 1024 < f.code.length := by have := of_decide_eq_true ‹_›; omega
    refine cv_seq_k fun K hK => ?_
    refine cv_region_then rfl ?_
    simp -implicitDefEqProofs (disch := first | omega | decide) only [seval, -Int.reducePow, -Nat.reducePow, cC, pv, binv, sMChk1, undef, g7]
    refine hK _ _ ?_
    clear hK K
    refine cv_ret ⟨_, (by simp -implicitDefEqProofs (disch := first | omega | decide) only [seval, -Int.reducePow, -Nat.reducePow, cC, pv, binv, sMChk1, undef, g7]; rfl), fun w hw => ?_⟩
    exact ⟨by unfold fnErr; rw [if_neg q1, if_neg q2, if_neg q3, if_neg q4, if_pos q5], hw.below⟩
  have q5 : ¬ 1024 < f.code.length := by have := of_decide_eq_false ‹_›; omega
  refine cv_skip ?_
  try simp only [blockQ, thenQ]
  refine hK _ _ ?_
  clear hK K
  refine cv_seq_k fun K hK => ?_
  refine cv_region_then rfl ?_
  simp -implicitDefEqProofs (disch := first | omega | decide) only [seval, -Int.reducePow, -Nat.reducePow, cC, pv, binv, sMChk1, undef, g7]
  refine hK _ _ ?_
  clear hK K
  refine cv_ret ⟨_, (by simp -implicitDefEqProofs (disch := first | omega | decide) only [seval, -Int.reducePow, -Nat.reducePow, cC, pv, binv, sMChk1, undef, g7]; rfl), fun w hw => ?_⟩
  exact ⟨by unfold fnErr; rw [if_neg q1, if_neg q2, if_neg q3, if_neg q4, if_neg q5], hw.below⟩
set_option maxHeartbeats 4000000 in
theorem mcheck_any (m : ModR) (W : World) (hM : Mod W W.heap.size m) : Calls Try.prog 29 #[modV m] W fun e w' => e = .returned (fltV (chkM m)) ∧ Below W.heap.size W w' := by
  have hlg := hM.glen
  have hG := hM.gs
  have hfn := hM.fn
  have hMat := fun {L : List Res} {w : World} (hw : St [] W L w) => hM.at hw
  obtain ⟨p, hp⟩ : ∃ p, chkP m = p := ⟨_, rfl⟩
  obtain ⟨TA, tn, tc, ts, FA, fn, fc, gs⟩ := m
  dsimp only at *
  refine calls_cv2 (M := []) (n := 51) [.cell 2 36] rfl Try.func29 rfl rfl (Nat.le_of_ble_eq_true rfl) (St.nil _ _) ?_
  refine cv_seq_k fun K hK => ?_
  refine cv_region_then rfl ?_
  simp -implicitDefEqProofs (disch := first | omega | decide) only [seval, -Int.reducePow, -Nat.reducePow, cC, pv, binv, sMChk1, undef]
  intro b1 hb1 b2 hb2 h2
  refine hK _ _ ?_
  clear hK K
  refine cv_gen fun G8 hG => ?_
  have g8_1 := congrFun hG 1
  have g8_2 := congrFun hG 2
  clear hG
  try simp -implicitDefEqProofs (disch := first | omega | decide) only [seval, -Int.reducePow, -Nat.reducePow, cC, pv, binv, sMChk1, undef] at g8_1 g8_2
  have g8 := And.intro g8_1 g8_2
  refine cv_seq_k fun K hK => ?_
  refine cv_seq_k fun K hK => ?_
  refine cv_region_then rfl ?_
  simp -implicitDefEqProofs (disch := first | omega | decide) only [seval, -Int.reducePow, -Nat.reducePow, cC, pv, binv, sMChk1, undef, g8]
  refine callV_ret (fun w hw => checkParts_any ⟨TA, tn, tc, ts, FA, fn, fc, gs⟩ w (hMat hw)) ?_
  try simp -implicitDefEqProofs (disch := first | omega | decide) only [seval, -Int.reducePow, -Nat.reducePow, cC, pv, binv, sMChk1, undef, hp, g8]
  refine hK _ _ ?_
  clear hK K
  refine cv_seq_k fun K hK => ?_
  refine cv_region_then rfl ?_
  simp -implicitDefEqProofs (disch := first | omega | decide) only [seval, -Int.reducePow, -Nat.reducePow, cC, pv, binv, sMChk1, undef, g8]
  refine hK _ _ ?_
  clear hK K
  refine cv_cond ?_
  simp -implicitDefEqProofs (disch := first | omega | decide) only [seval, -Int.reducePow, -Nat.reducePow, cC, pv, binv, sMChk1, undef, g8]
  refine ⟨fun hc => ?_, fun hc => ?_⟩
  · have hz : ¬ p = 0 := nd_true ‹(!decide (p = 0)) = true›
    refine cv_seq_k fun K hK => ?_
    refine cv_region_then rfl ?_
    simp -implicitDefEqProofs (disch := first | omega | decide) only [seval, -Int.reducePow, -Nat.reducePow, cC, pv, binv, sMChk1, undef, g8]
    refine hK _ _ ?_
    clear hK K
    refine cv_ret ?_
    simp -implicitDefEqProofs (disch := first | omega | decide) only [seval, -Int.reducePow, -Nat.reducePow, cC, pv, binv, sMChk1, undef, retQ2, ressV, packV, g8]
    intro w hw
    exact ⟨by unfold chkM; rw [hp, if_neg hz]; rfl, hw.below⟩
  have hz : p = 0 := Decidable.not_not.1 (nd_false ‹(!decide (p = 0)) = false›)
  have hC : chkM ⟨TA, tn, tc, ts, FA, fn, fc, gs⟩ = firstF 0 gs := by unfold chkM; rw [hp, if_pos hz]
  have hb32 : gs.length ≤ 32 := by
    rw [hz] at hp
    unfold chkP at hp
    dsimp only at hp
    repeat' split at hp
    all_goals first | (cases hp; done) | omega
  refine cv_skip ?_
  try simp only [blockQ, thenQ]
  refine hK _ _ ?_
  clear hK K
  refine cv_seq_k fun K hK => ?_
  refine cv_seq_k fun K hK => ?_
  refine cv_region_then rfl ?_
  simp -implicitDefEqProofs (disch := first | omega | decide) only [seval, -Int.reducePow, -Nat.reducePow, cC, pv, binv, sMChk1, undef, g8]
  refine hK _ _ ?_
  clear hK K
  refine cv_gen fun G9 hG => ?_
  have g9_2 := congrFun hG 2
  have g9_17 := congrFun hG 17
  have g9_18 := congrFun hG 18
  have g9_19 := congrFun hG 19
  clear hG
  try simp -implicitDefEqProofs (disch := first | omega | decide) only [seval, -Int.reducePow, -Nat.reducePow, cC, pv, binv, sMChk1, undef, g8] at g9_2 g9_17 g9_18 g9_19
  have g9 := And.intro g9_2 (And.intro g9_17 (And.intro g9_18 g9_19))
  refine cv_block ?_
  refine cv_loop (fun F' L' => ∃ (k : Nat), F' 2 = G9 2 ∧ F' 17 = G9 17 ∧ F' 18 = G9 18 ∧ F' 19 = .int .i64 (k : Int) ∧ L' = [flBox b2 0 0 0, mBox b1 ⟨TA, tn, tc, ts, FA, fn, fc, gs⟩] ∧ k ≤ fn ∧ firstF 0 gs = firstF k (gs.drop k)) (fun F' L' => 40 - (intOf (F' 19)).toNat) ?_ ?_
  · refine ⟨0, ?_⟩
    simp -implicitDefEqProofs (disch := first | omega | decide) only [seval, -Int.reducePow, -Nat.reducePow, cC, pv, binv, sMChk1, undef, g9]
    omega
  intro G10 L' hI
  obtain ⟨k, q2, q17, q18, q19, rfl, ⟨hk, hf⟩⟩ := hI
  have g10_2 := q2.trans g9_2
  have g10_17 := q17.trans g9_17
  have g10_18 := q18.trans g9_18
  have g10_19 := q19
  clear q2 q17 q18 q19
  have g10 := And.intro g10_2 (And.intro g10_17 (And.intro g10_18 g10_19))
  refine cv_seq_k fun K hK => ?_
  refine cv_region_then rfl ?_
  simp -implicitDefEqProofs (disch := first | omega | decide) only [seval, -Int.reducePow, -Nat.reducePow, cC, pv, binv, sMChk1, undef, g9, g10]
  refine hK _ _ ?_
  clear hK K
  refine cv_seq_k fun K hK => ?_
  refine cv_cond ?_
  simp -implicitDefEqProofs (disch := first | omega | decide) only [seval, -Int.reducePow, -Nat.reducePow, cC, pv, binv, sMChk1, undef, g9, g10]
  refine ⟨fun hc => ?_, fun hc => ?_⟩
  · refine cv_skip ?_
    try simp only [blockQ, thenQ]
    have hlt : k < fn := by have := of_decide_eq_true ‹_›; omega
    obtain ⟨b0, off, rfl, hb0, -⟩ := hG.cells (by omega)
    obtain ⟨x, hx⟩ := some_of (l := gs) (i := k) (by omega)
    have hX := hfn x (List.mem_of_getElem? hx)
    have hxl : x.code.length = x.n := cl_row insc_len (by omega) hX.len
    rw [drop_at' hx] at hf
    refine hK _ _ ?_
    clear hK K
    refine cv_seq_k fun K hK => ?_
    refine cv_block ?_
    refine cv_seq_k fun K hK => ?_
    refine cv_region_then rfl ?_
    simp -implicitDefEqProofs (disch := first | omega | decide) only [seval, -Int.reducePow, -Nat.reducePow, cC, pv, binv, sMChk1, undef, g9, g10]
    refine ⟨_, hG.fnl hx, fun tok htok => ?_⟩
    subst htok
    simp -implicitDefEqProofs (disch := first | omega | decide) only [seval, -Int.reducePow, -Nat.reducePow, cC, pv, binv, sMChk1, undef, g9, g10]
    intro b5 hb5 h5
    refine hK _ _ ?_
    clear hK K
    refine cv_seq_k fun K hK => ?_
    refine cv_seq_k fun K hK => ?_
    refine cv_region_then rfl ?_
    simp -implicitDefEqProofs (disch := first | omega | decide) only [seval, -Int.reducePow, -Nat.reducePow, cC, pv, binv, sMChk1, undef, g9, g10]
    refine callV_ret (fun w hw => checkFunc_any (k : Int) x w hxl) ?_
    try simp -implicitDefEqProofs (disch := first | omega | decide) only [seval, -Int.reducePow, -Nat.reducePow, cC, pv, binv, sMChk1, undef, g9, g10]
    refine hK _ _ ?_
    clear hK K
    refine cv_seq_k fun K hK => ?_
    refine cv_region_then rfl ?_
    simp -implicitDefEqProofs (disch := first | omega | decide) only [seval, -Int.reducePow, -Nat.reducePow, cC, pv, binv, sMChk1, undef, g9, g10]
    refine hK _ _ ?_
    clear hK K
    refine cv_cond ?_
    simp -implicitDefEqProofs (disch := first | omega | decide) only [seval, -Int.reducePow, -Nat.reducePow, cC, pv, binv, sMChk1, undef, g9, g10]
    refine ⟨fun hc => ?_, fun hc => ?_⟩
    · have hz2 : ¬ fnErr k x = 0 := nd_true ‹(!decide (fnErr (k : Int) x = 0)) = true›
      have hff : fltF k x = (fnErr k x, (k : Int), -1) := by unfold fltF; rw [if_neg hz2]
      rw [firstF_no _ (by rw [hff]; exact hz2), hff] at hf
      refine cv_seq_k fun K hK => ?_
      refine cv_region_then rfl ?_
      simp -implicitDefEqProofs (disch := first | omega | decide) only [seval, -Int.reducePow, -Nat.reducePow, cC, pv, binv, sMChk1, undef, g9, g10]
      refine hK _ _ ?_
      clear hK K
      refine cv_ret ?_
      simp -implicitDefEqProofs (disch := first | omega | decide) only [seval, -Int.reducePow, -Nat.reducePow, cC, pv, binv, sMChk1, undef, retQ2, ressV, packV, g9, g10]
      intro w hw
      exact ⟨by rw [hC, hf]; rfl, hw.below⟩
    have hz2 : fnErr k x = 0 := Decidable.not_not.1 (nd_false ‹(!decide (fnErr (k : Int) x = 0)) = false›)
    have hx1024 := (fnErr_ok hz2).2.2.2.2.2.2.2.1
    refine cv_skip ?_
    try simp only [blockQ, thenQ]
    refine hK _ _ ?_
    clear hK K
    refine cv_seq_k fun K hK => ?_
    refine cv_region_then rfl ?_
    simp -implicitDefEqProofs (disch := first | omega | decide) only [seval, -Int.reducePow, -Nat.reducePow, cC, pv, binv, sMChk1, undef, g9, g10]
    refine hK _ _ ?_
    clear hK K
    refine cv_gen fun G11 hG => ?_
    have g11_2 := congrFun hG 2
    have g11_4 := congrFun hG 4
    have g11_17 := congrFun hG 17
    have g11_18 := congrFun hG 18
    have g11_19 := congrFun hG 19
    have g11_33 := congrFun hG 33
    have g11_34 := congrFun hG 34
    have g11_35 := congrFun hG 35
    clear hG
    try simp -implicitDefEqProofs (disch := first | omega | decide) only [seval, -Int.reducePow, -Nat.reducePow, cC, pv, binv, sMChk1, undef, g9, g10] at g11_2 g11_4 g11_17 g11_18 g11_19 g11_33 g11_34 g11_35
    have g11 := And.intro g11_2 (And.intro g11_4 (And.intro g11_17 (And.intro g11_18 (And.intro g11_19 (And.intro g11_33 (And.intro g11_34 g11_35))))))
    refine cv_block ?_
    refine cv_loop (fun F' L' => ∃ (j : Nat), F' 2 = G11 2 ∧ F' 4 = G11 4 ∧ F' 17 = G11 17 ∧ F' 18 = G11 18 ∧ F' 19 = G11 19 ∧ F' 33 = G11 33 ∧ F' 34 = G11 34 ∧ F' 35 = .int .i64 (j : Int) ∧ L' = [gBox b5 x, flBox b2 0 0 0, mBox b1 ⟨TA, tn, tc, ts, some ⟨b0, off, none⟩, fn, fc, gs⟩] ∧ j ≤ x.n ∧ firstI 0 x.code = firstI j (x.code.drop j)) (fun F' L' => 1100 - (intOf (F' 35)).toNat) ?_ ?_
    · refine ⟨0, ?_⟩
      simp -implicitDefEqProofs (disch := first | omega | decide) only [seval, -Int.reducePow, -Nat.reducePow, cC, pv, binv, sMChk1, undef, g9, g10, g11]
      omega
    intro G12 L' hI
    obtain ⟨j, q2, q4, q17, q18, q19, q33, q34, q35, rfl, ⟨hj, hi⟩⟩ := hI
    have g12_2 := q2.trans g11_2
    have g12_4 := q4.trans g11_4
    have g12_17 := q17.trans g11_17
    have g12_18 := q18.trans g11_18
    have g12_19 := q19.trans g11_19
    have g12_33 := q33.trans g11_33
    have g12_34 := q34.trans g11_34
    have g12_35 := q35
    clear q2 q4 q17 q18 q19 q33 q34 q35
    have g12 := And.intro g12_2 (And.intro g12_4 (And.intro g12_17 (And.intro g12_18 (And.intro g12_19 (And.intro g12_33 (And.intro g12_34 g12_35))))))
    refine cv_seq_k fun K hK => ?_
    refine cv_region_then rfl ?_
    simp -implicitDefEqProofs (disch := first | omega | decide) only [seval, -Int.reducePow, -Nat.reducePow, cC, pv, binv, sMChk1, undef, g9, g10, g11, g12]
    refine hK _ _ ?_
    clear hK K
    refine cv_seq_k fun K hK => ?_
    refine cv_cond ?_
    simp -implicitDefEqProofs (disch := first | omega | decide) only [seval, -Int.reducePow, -Nat.reducePow, cC, pv, binv, sMChk1, undef, g9, g10, g11, g12]
    refine ⟨fun hc => ?_, fun hc => ?_⟩
    · refine cv_skip ?_
      try simp only [blockQ, thenQ]
      have hjt : j < x.n := by have := of_decide_eq_true ‹decide ((j : Int) < (x.n : Int)) = true›; omega
      obtain ⟨xb, xo, hxA, hxb, -⟩ := hX.cells (by omega)
      obtain ⟨y, hy⟩ := some_of (l := x.code) (i := j) (by omega)
      rw [drop_at' hy] at hi
      have hX' := hX
      rw [hxA] at hX'
      refine hK _ _ ?_
      clear hK K
      refine cv_seq_k fun K hK => ?_
      refine cv_block ?_
      refine cv_seq_k fun K hK => ?_
      refine cv_region_then rfl ?_
      simp -implicitDefEqProofs (disch := first | omega | decide) only [seval, -Int.reducePow, -Nat.reducePow, cC, pv, binv, sMChk1, undef, hxA, g9, g10, g11, g12]
      refine ⟨_, hX'.ins hy, fun tok htok => ?_⟩
      subst htok
      simp -implicitDefEqProofs (disch := first | omega | decide) only [seval, -Int.reducePow, -Nat.reducePow, cC, pv, binv, sMChk1, undef, g9, g10, g11, g12]
      intro b8 hb8 h8
      refine hK _ _ ?_
      clear hK K
      refine cv_seq_k fun K hK => ?_
      refine cv_region_then rfl ?_
      simp -implicitDefEqProofs (disch := first | omega | decide) only [seval, -Int.reducePow, -Nat.reducePow, cC, pv, binv, sMChk1, undef, g9, g10, g11, g12]
      refine callV_ret (fun w hw => i_icheck_any y w) ?_
      try simp -implicitDefEqProofs (disch := first | omega | decide) only [seval, -Int.reducePow, -Nat.reducePow, cC, pv, binv, sMChk1, undef, g9, g10, g11, g12]
      refine hK _ _ ?_
      clear hK K
      refine cv_seq_k fun K hK => ?_
      refine cv_region_then rfl ?_
      simp -implicitDefEqProofs (disch := first | omega | decide) only [seval, -Int.reducePow, -Nat.reducePow, cC, pv, binv, sMChk1, undef, g9, g10, g11, g12]
      refine hK _ _ ?_
      clear hK K
      refine cv_cond ?_
      simp -implicitDefEqProofs (disch := first | omega | decide) only [seval, -Int.reducePow, -Nat.reducePow, cC, pv, binv, sMChk1, undef, g9, g10, g11, g12]
      refine ⟨fun hc => ?_, fun hc => ?_⟩
      · have hz3 : ¬ y.err = 0 := nd_true ‹(!decide (y.err = 0)) = true›
        rw [firstI_no _ hz3] at hi
        have hff : fltF k x = (y.err, (k : Int), (j : Int)) := by unfold fltF; rw [if_pos hz2, hi, if_neg hz3]
        rw [firstF_no _ (by rw [hff]; exact hz3), hff] at hf
        refine cv_seq_k fun K hK => ?_
        refine cv_region_then rfl ?_
        simp -implicitDefEqProofs (disch := first | omega | decide) only [seval, -Int.reducePow, -Nat.reducePow, cC, pv, binv, sMChk1, undef, g9, g10, g11, g12]
        refine hK _ _ ?_
        clear hK K
        refine cv_ret ?_
        simp -implicitDefEqProofs (disch := first | omega | decide) only [seval, -Int.reducePow, -Nat.reducePow, cC, pv, binv, sMChk1, undef, retQ2, ressV, packV, g9, g10, g11, g12]
        intro w hw
        exact ⟨by rw [hC, hf]; rfl, hw.below⟩
      have hz3 : y.err = 0 := Decidable.not_not.1 (nd_false ‹(!decide (y.err = 0)) = false›)
      rw [firstI_yes _ hz3] at hi
      refine cv_skip ?_
      try simp only [blockQ, thenQ]
      refine hK _ _ ?_
      clear hK K
      refine cv_pick [1, 2, 3] (by decide) ?_
      simp only [pickL, nth]
      refine cv_region_then rfl ?_
      simp -implicitDefEqProofs (disch := first | omega | decide) only [seval, -Int.reducePow, -Nat.reducePow, cC, pv, binv, sMChk1, undef, wrap_in, g9, g10, g11, g12]
      refine ⟨⟨j + 1, ?_⟩, ?_⟩
      · simp -implicitDefEqProofs (disch := first | omega | decide) only [seval, -Int.reducePow, -Nat.reducePow, cC, pv, binv, sMChk1, undef, Int.natCast_add, g9, g10, g11, g12]
        exact ⟨by first | rfl | rw [hxA], by omega, hi⟩
      · simp only [intOf]; omega
    refine cv_exit ?_
    simp only [blockQ, thenQ, if_true, ite_true]
    clear hK K
    refine hK _ _ ?_
    clear hK K
    have hje : j = x.n := by have := of_decide_eq_false ‹decide ((j : Int) < (x.n : Int)) = false›; omega
    rw [List.drop_of_length_le (by omega)] at hi
    have hff : fltF k x = fineF := by unfold fltF; rw [if_pos hz2, hi]; rfl
    rw [firstF_yes _ (by rw [hff]; rfl)] at hf
    refine cv_pick [1, 2] (by decide) ?_
    simp only [pickL, nth]
    refine cv_region_then rfl ?_
    simp -implicitDefEqProofs (disch := first | omega | decide) only [seval, -Int.reducePow, -Nat.reducePow, cC, pv, binv, sMChk1, undef, wrap_in, g9, g10, g11, g12]
    refine ⟨⟨k + 1, ?_⟩, ?_⟩
    · simp -implicitDefEqProofs (disch := first | omega | decide) only [seval, -Int.reducePow, -Nat.reducePow, cC, pv, binv, sMChk1, undef, Int.natCast_add, g9, g10, g11, g12]
      exact ⟨by omega, hf⟩
    · simp only [intOf]; omega
  refine cv_exit ?_
  simp only [blockQ, thenQ, if_true, ite_true]
  clear hK K
  refine hK _ _ ?_
  clear hK K
  obtain rfl : fn = k := by have := of_decide_eq_false ‹_›; omega
  rw [List.drop_of_length_le (by omega)] at hf
  refine cv_seq_k fun K hK => ?_
  refine cv_region_then rfl ?_
  simp -implicitDefEqProofs (disch := first | omega | decide) only [seval, -Int.reducePow, -Nat.reducePow, cC, pv, binv, sMChk1, undef, g9, g10]
  refine hK _ _ ?_
  clear hK K
  refine cv_ret ?_
  simp -implicitDefEqProofs (disch := first | omega | decide) only [seval, -Int.reducePow, -Nat.reducePow, cC, pv, binv, sMChk1, undef, retQ2, ressV, packV, g9, g10]
  intro w hw
  exact ⟨by rw [hC, hf]; rfl, hw.below⟩
end Go.Proofs.Ytlbmnioibiomfaa
