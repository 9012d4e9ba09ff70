/- verify.Verify and the reference's. -/
import Derived.Test.YtlbmnioibiomfaaVePlain
import Derived.Test.YtlbmnioibiomfaaFlRHgt
namespace Go.Proofs.Ytlbmnioibiomfaa
open Go.RowKit Go.Shelf
set_option linter.unusedVariables false
set_option linter.unusedSimpArgs false
set_option maxRecDepth 100000
set_option maxRecDepth 100000 in
theorem sVeVer1 : type_of% (And.intro (And.intro (And.intro @fBox.eq_1 (And.intro @tBox.eq_1 @iBox.eq_1)) (And.intro (And.intro @mBox.eq_1 @gBox.eq_1) (And.intro @flBox.eq_1 @fdV.eq_1))) (And.intro (And.intro (And.intro @tyV.eq_1 @insV.eq_1) (And.intro @fnV.eq_1 @modV.eq_1)) (And.intro (And.intro @fltV.eq_1 @fineF.eq_1) (And.intro @Nat.mul_one @wrap_in)))) := (And.intro (And.intro (And.intro @fBox.eq_1 (And.intro @tBox.eq_1 @iBox.eq_1)) (And.intro (And.intro @mBox.eq_1 @gBox.eq_1) (And.intro @flBox.eq_1 @fdV.eq_1))) (And.intro (And.intro (And.intro @tyV.eq_1 @insV.eq_1) (And.intro @fnV.eq_1 @modV.eq_1)) (And.intro (And.intro @fltV.eq_1 @fineF.eq_1) (And.intro @Nat.mul_one @wrap_in))))
set_option maxHeartbeats 2000000 in
theorem Verify_any (m : ModR) (W : World) (hM : Mod W W.heap.size m) : Calls Try.prog 14 #[modV m] W fun e w' => e = .returned (fltV (verM m)) ∧ Below W.heap.size W w' := by
  have hMat := fun {L : List Res} {w : World} (hw : St [] W L w) => hM.at hw
  have hlg := hM.glen
  obtain ⟨q, hq⟩ : ∃ q, chkM m = q := ⟨_, rfl⟩
  have hok := fun h => chkM_ok (m := m) h
  have hver : verM m = if q.1 = 0 then verG m m.gs.length 0 else q := by rw [← hq]; rfl
  rw [hq] at hok
  obtain ⟨TA, tn, tc, ts, FA, fn, fc, gs⟩ := m
  dsimp only at *
  refine calls_cv2 (M := []) (n := 31) [.cell 2 36] rfl Try.func14 rfl rfl (Nat.le_of_ble_eq_true rfl) (St.nil _ _) ?_
  refine cv_seq_k fun K hK => ?_
  refine cv_region_then rfl ?_
  simp -implicitDefEqProofs (disch := first | omega | decide) only [seval, -Int.reducePow, -Nat.reducePow, cC, pv, binv, sVeVer1, undef]
  intro b1 hb1 b2 hb2 hf2
  refine hK _ _ ?_
  clear hK K
  refine cv_seq_k fun K hK => ?_
  refine cv_seq_k fun K hK => ?_
  refine cv_region_then rfl ?_
  simp -implicitDefEqProofs (disch := first | omega | decide) only [seval, -Int.reducePow, -Nat.reducePow, cC, pv, binv, sVeVer1, undef]
  refine callV_ret (fun w hw => mcheck_any ⟨TA, tn, tc, ts, FA, fn, fc, gs⟩ w (hMat hw)) ?_
  try simp -implicitDefEqProofs (disch := first | omega | decide) only [seval, -Int.reducePow, -Nat.reducePow, cC, pv, binv, sVeVer1, undef, hq]
  intro b3 hb3 hf3
  refine hK _ _ ?_
  clear hK K
  refine cv_gen fun G1 hG => ?_
  have g1_1 := congrFun hG 1
  have g1_2 := congrFun hG 2
  have g1_3 := congrFun hG 3
  clear hG
  try simp -implicitDefEqProofs (disch := first | omega | decide) only [seval, -Int.reducePow, -Nat.reducePow, cC, pv, binv, sVeVer1, undef] at g1_1 g1_2 g1_3
  have g1 := And.intro g1_1 (And.intro g1_2 g1_3)
  refine cv_seq_k fun K hK => ?_
  refine cv_region_then rfl ?_
  simp -implicitDefEqProofs (disch := first | omega | decide) only [seval, -Int.reducePow, -Nat.reducePow, cC, pv, binv, sVeVer1, undef, g1]
  refine hK _ _ ?_
  clear hK K
  refine cv_cond ?_
  simp -implicitDefEqProofs (disch := first | omega | decide) only [seval, -Int.reducePow, -Nat.reducePow, cC, pv, binv, sVeVer1, undef, g1]
  refine ⟨fun hc => ?_, fun hc => ?_⟩
  · have hz : ¬ q.1 = 0 := nd_true ‹(!decide (q.1 = 0)) = true›
    refine cv_seq_k fun K hK => ?_
    refine cv_region_then rfl ?_
    simp -implicitDefEqProofs (disch := first | omega | decide) only [seval, -Int.reducePow, -Nat.reducePow, cC, pv, binv, sVeVer1, undef, g1]
    refine hK _ _ ?_
    clear hK K
    refine cv_ret ?_
    simp -implicitDefEqProofs (disch := first | omega | decide) only [seval, -Int.reducePow, -Nat.reducePow, cC, pv, binv, sVeVer1, undef, retQ2, ressV, packV, g1]
    intro w hw
    rw [hver, if_neg hz]
    exact ⟨rfl, hw.below⟩
  have hz : q.1 = 0 := Decidable.not_not.1 (nd_false ‹(!decide (q.1 = 0)) = false›)
  rw [if_pos hz] at hver
  obtain ⟨-, -, -, hg32, -⟩ := hok hz
  refine cv_skip ?_
  try simp only [blockQ, thenQ]
  refine hK _ _ ?_
  clear hK K
  refine cv_seq_k fun K hK => ?_
  refine cv_seq_k fun K hK => ?_
  refine cv_region_then rfl ?_
  simp -implicitDefEqProofs (disch := first | omega | decide) only [seval, -Int.reducePow, -Nat.reducePow, cC, pv, binv, sVeVer1, undef, g1]
  refine hK _ _ ?_
  clear hK K
  refine cv_gen fun G2 hG => ?_
  have g2_1 := congrFun hG 1
  have g2_2 := congrFun hG 2
  have g2_15 := congrFun hG 15
  have g2_16 := congrFun hG 16
  clear hG
  try simp -implicitDefEqProofs (disch := first | omega | decide) only [seval, -Int.reducePow, -Nat.reducePow, cC, pv, binv, sVeVer1, undef, g1] at g2_1 g2_2 g2_15 g2_16
  have g2 := And.intro g2_1 (And.intro g2_2 (And.intro g2_15 g2_16))
  refine cv_block ?_
  refine cv_loop (fun F' L' => ∃ (f : Nat), F' 1 = G2 1 ∧ F' 2 = G2 2 ∧ F' 15 = G2 15 ∧ F' 16 = .int .i64 (f : Int) ∧ L' = [flBox b3 q.1 q.2.1 q.2.2, flBox b2 0 0 0, mBox b1 ⟨TA, tn, tc, ts, FA, fn, fc, gs⟩] ∧ f ≤ fn ∧ verM ⟨TA, tn, tc, ts, FA, fn, fc, gs⟩ = verG ⟨TA, tn, tc, ts, FA, fn, fc, gs⟩ (fn - f) f) (fun F' L' => 50 - (intOf (F' 16)).toNat) ?_ ?_
  · refine ⟨0, ?_⟩
    simp -implicitDefEqProofs (disch := first | omega | decide) only [seval, -Int.reducePow, -Nat.reducePow, cC, pv, binv, sVeVer1, undef, g2]
    exact ⟨by omega, by rw [hver, hlg]⟩
  intro G3 L' hI
  obtain ⟨f, q1, q2, q15, q16, rfl, ⟨hf, hvf⟩⟩ := hI
  have g3_1 := q1.trans g2_1
  have g3_2 := q2.trans g2_2
  have g3_15 := q15.trans g2_15
  have g3_16 := q16
  clear q1 q2 q15 q16
  have g3 := And.intro g3_1 (And.intro g3_2 (And.intro g3_15 g3_16))
  refine cv_seq_k fun K hK => ?_
  refine cv_region_then rfl ?_
  simp -implicitDefEqProofs (disch := first | omega | decide) only [seval, -Int.reducePow, -Nat.reducePow, cC, pv, binv, sVeVer1, undef, g2, g3]
  refine hK _ _ ?_
  clear hK K
  refine cv_seq_k fun K hK => ?_
  refine cv_cond ?_
  simp -implicitDefEqProofs (disch := first | omega | decide) only [seval, -Int.reducePow, -Nat.reducePow, cC, pv, binv, sVeVer1, undef, g2, g3]
  refine ⟨fun hc => ?_, fun hc => ?_⟩
  · refine cv_skip ?_
    try simp only [blockQ, thenQ]
    have hft : f < fn := by have := of_decide_eq_true ‹decide ((f : Int) < (fn : Int)) = true›; omega
    obtain ⟨u, hu⟩ : ∃ u, hgtF ⟨TA, tn, tc, ts, FA, fn, fc, gs⟩ (f : Int) = u := ⟨_, rfl⟩
    refine hK _ _ ?_
    clear hK K
    refine cv_seq_k fun K hK => ?_
    refine cv_block ?_
    refine cv_seq_k fun K hK => ?_
    refine cv_region_then rfl ?_
    simp -implicitDefEqProofs (disch := first | omega | decide) only [seval, -Int.reducePow, -Nat.reducePow, cC, pv, binv, sVeVer1, undef, g2, g3]
    refine hK _ _ ?_
    clear hK K
    refine cv_seq_k fun K hK => ?_
    refine cv_region_then rfl ?_
    simp -implicitDefEqProofs (disch := first | omega | decide) only [seval, -Int.reducePow, -Nat.reducePow, cC, pv, binv, sVeVer1, undef, g2, g3]
    refine callV_row (fun A n c => .tuple #[.slice A n c, fltV u.2]) (fun w hw => (by have := Heights_any ⟨TA, tn, tc, ts, FA, fn, fc, gs⟩ (f : Int) w (hMat hw); rw [hu] at this; exact this)) ?_
    intro A n c hl hr
    simp -implicitDefEqProofs (disch := first | omega | decide) only [seval, -Int.reducePow, -Nat.reducePow, cC, pv, binv, sVeVer1, undef, g2, g3]
    intro b6 hb6 hf6
    refine hK _ _ ?_
    clear hK K
    refine cv_seq_k fun K hK => ?_
    refine cv_region_then rfl ?_
    simp -implicitDefEqProofs (disch := first | omega | decide) only [seval, -Int.reducePow, -Nat.reducePow, cC, pv, binv, sVeVer1, undef, g2, g3]
    refine hK _ _ ?_
    clear hK K
    refine cv_cond ?_
    simp -implicitDefEqProofs (disch := first | omega | decide) only [seval, -Int.reducePow, -Nat.reducePow, cC, pv, binv, sVeVer1, undef, g2, g3]
    refine ⟨fun hc => ?_, fun hc => ?_⟩
    · have hz2 : ¬ u.2.1 = 0 := nd_true ‹(!decide (u.2.1 = 0)) = true›
      refine cv_seq_k fun K hK => ?_
      refine cv_region_then rfl ?_
      simp -implicitDefEqProofs (disch := first | omega | decide) only [seval, -Int.reducePow, -Nat.reducePow, cC, pv, binv, sVeVer1, undef, g2, g3]
      refine hK _ _ ?_
      clear hK K
      refine cv_ret ?_
      simp -implicitDefEqProofs (disch := first | omega | decide) only [seval, -Int.reducePow, -Nat.reducePow, cC, pv, binv, sVeVer1, undef, retQ2, ressV, packV, g2, g3]
      intro w hw
      rw [hvf, show fn - f = (fn - (f + 1)) + 1 by omega, verG_no (by rw [hu]; exact hz2), hu]
      exact ⟨rfl, hw.below⟩
    have hz2 : u.2.1 = 0 := Decidable.not_not.1 (nd_false ‹(!decide (u.2.1 = 0)) = false›)
    refine cv_skip ?_
    try simp only [blockQ, thenQ]
    refine hK _ _ ?_
    clear hK K
    refine cv_pick [2, 3, 4] (by decide) ?_
    simp only [pickL, nth]
    refine cv_region_then rfl ?_
    simp -implicitDefEqProofs (disch := first | omega | decide) only [seval, -Int.reducePow, -Nat.reducePow, cC, pv, binv, sVeVer1, undef, wrap_in, g2, g3]
    refine ⟨⟨f + 1, ?_⟩, ?_⟩
    · simp -implicitDefEqProofs (disch := first | omega | decide) only [seval, -Int.reducePow, -Nat.reducePow, cC, pv, binv, sVeVer1, undef, Int.natCast_add, g2, g3]
      refine ⟨by omega, ?_⟩
      rw [hvf, show fn - f = (fn - (f + 1)) + 1 by omega, verG_yes (by rw [hu]; exact hz2)]
    · simp only [intOf]; omega
  refine cv_exit ?_
  simp only [blockQ, thenQ, if_true, ite_true]
  clear hK K
  refine hK _ _ ?_
  clear hK K
  have hft : ¬ f < fn := by have := of_decide_eq_false ‹decide ((f : Int) < (fn : Int)) = false›; omega
  refine cv_seq_k fun K hK => ?_
  refine cv_region_then rfl ?_
  simp -implicitDefEqProofs (disch := first | omega | decide) only [seval, -Int.reducePow, -Nat.reducePow, cC, pv, binv, sVeVer1, undef, g2, g3]
  refine hK _ _ ?_
  clear hK K
  refine cv_ret ?_
  simp -implicitDefEqProofs (disch := first | omega | decide) only [seval, -Int.reducePow, -Nat.reducePow, cC, pv, binv, sVeVer1, undef, retQ2, ressV, packV, g2, g3]
  intro w hw
  rw [hvf, show fn - f = 0 by omega]
  exact ⟨rfl, hw.below⟩
set_option maxHeartbeats 2000000 in
theorem rVerify_any (m : ModR) (W : World) (hM : Mod W W.heap.size m) : Calls Try.prog 41 #[modV m] W fun e w' => e = .returned (fltV (verM m)) ∧ Below W.heap.size W w' := by
  have hMat := fun {L : List Res} {w : World} (hw : St [] W L w) => hM.at hw
  have hlg := hM.glen
  obtain ⟨q, hq⟩ : ∃ q, chkM m = q := ⟨_, rfl⟩
  have hok := fun h => chkM_ok (m := m) h
  have hver : verM m = if q.1 = 0 then verG m m.gs.length 0 else q := by rw [← hq]; rfl
  rw [hq] at hok
  obtain ⟨TA, tn, tc, ts, FA, fn, fc, gs⟩ := m
  dsimp only at *
  refine calls_cv2 (M := []) (n := 31) [.cell 2 36] rfl Try.func41 rfl rfl (Nat.le_of_ble_eq_true rfl) (St.nil _ _) ?_
  refine cv_seq_k fun K hK => ?_
  refine cv_region_then rfl ?_
  simp -implicitDefEqProofs (disch := first | omega | decide) only [seval, -Int.reducePow, -Nat.reducePow, cC, pv, binv, sVeVer1, undef]
  intro b1 hb1 b2 hb2 hf2
  refine hK _ _ ?_
  clear hK K
  refine cv_seq_k fun K hK => ?_
  refine cv_region_then rfl ?_
  simp -implicitDefEqProofs (disch := first | omega | decide) only [seval, -Int.reducePow, -Nat.reducePow, cC, pv, binv, sVeVer1, undef]
  refine callV_ret (fun w hw => rmcheck_any ⟨TA, tn, tc, ts, FA, fn, fc, gs⟩ w (hMat hw)) ?_
  try simp -implicitDefEqProofs (disch := first | omega | decide) only [seval, -Int.reducePow, -Nat.reducePow, cC, pv, binv, sVeVer1, undef, hq]
  intro b3 hb3 hf3
  refine hK _ _ ?_
  clear hK K
  refine cv_gen fun G4 hG => ?_
  have g4_1 := congrFun hG 1
  have g4_2 := congrFun hG 2
  have g4_3 := congrFun hG 3
  clear hG
  try simp -implicitDefEqProofs (disch := first | omega | decide) only [seval, -Int.reducePow, -Nat.reducePow, cC, pv, binv, sVeVer1, undef] at g4_1 g4_2 g4_3
  have g4 := And.intro g4_1 (And.intro g4_2 g4_3)
  refine cv_seq_k fun K hK => ?_
  refine cv_seq_k fun K hK => ?_
  refine cv_region_then rfl ?_
  simp -implicitDefEqProofs (disch := first | omega | decide) only [seval, -Int.reducePow, -Nat.reducePow, cC, pv, binv, sVeVer1, undef, g4]
  refine hK _ _ ?_
  clear hK K
  refine cv_cond ?_
  simp -implicitDefEqProofs (disch := first | omega | decide) only [seval, -Int.reducePow, -Nat.reducePow, cC, pv, binv, sVeVer1, undef, g4]
  refine ⟨fun hc => ?_, fun hc => ?_⟩
  · have hz : ¬ q.1 = 0 := nd_true ‹(!decide (q.1 = 0)) = true›
    refine cv_seq_k fun K hK => ?_
    refine cv_region_then rfl ?_
    simp -implicitDefEqProofs (disch := first | omega | decide) only [seval, -Int.reducePow, -Nat.reducePow, cC, pv, binv, sVeVer1, undef, g4]
    refine hK _ _ ?_
    clear hK K
    refine cv_ret ?_
    simp -implicitDefEqProofs (disch := first | omega | decide) only [seval, -Int.reducePow, -Nat.reducePow, cC, pv, binv, sVeVer1, undef, retQ2, ressV, packV, g4]
    intro w hw
    rw [hver, if_neg hz]
    exact ⟨rfl, hw.below⟩
  have hz : q.1 = 0 := Decidable.not_not.1 (nd_false ‹(!decide (q.1 = 0)) = false›)
  rw [if_pos hz] at hver
  obtain ⟨-, -, -, hg32, -⟩ := hok hz
  refine cv_skip ?_
  try simp only [blockQ, thenQ]
  refine hK _ _ ?_
  clear hK K
  refine cv_seq_k fun K hK => ?_
  refine cv_seq_k fun K hK => ?_
  refine cv_region_then rfl ?_
  simp -implicitDefEqProofs (disch := first | omega | decide) only [seval, -Int.reducePow, -Nat.reducePow, cC, pv, binv, sVeVer1, undef, g4]
  refine hK _ _ ?_
  clear hK K
  refine cv_gen fun G5 hG => ?_
  have g5_1 := congrFun hG 1
  have g5_2 := congrFun hG 2
  have g5_4 := congrFun hG 4
  clear hG
  try simp -implicitDefEqProofs (disch := first | omega | decide) only [seval, -Int.reducePow, -Nat.reducePow, cC, pv, binv, sVeVer1, undef, g4] at g5_1 g5_2 g5_4
  have g5 := And.intro g5_1 (And.intro g5_2 g5_4)
  refine cv_block ?_
  refine cv_loop (fun F' L' => ∃ (f : Nat), F' 1 = G5 1 ∧ F' 2 = G5 2 ∧ F' 4 = .int .i64 (f : Int) ∧ L' = [flBox b3 q.1 q.2.1 q.2.2, flBox b2 0 0 0, mBox b1 ⟨TA, tn, tc, ts, FA, fn, fc, gs⟩] ∧ f ≤ fn ∧ verM ⟨TA, tn, tc, ts, FA, fn, fc, gs⟩ = verG ⟨TA, tn, tc, ts, FA, fn, fc, gs⟩ (fn - f) f) (fun F' L' => 50 - (intOf (F' 4)).toNat) ?_ ?_
  · refine ⟨0, ?_⟩
    simp -implicitDefEqProofs (disch := first | omega | decide) only [seval, -Int.reducePow, -Nat.reducePow, cC, pv, binv, sVeVer1, undef, g5]
    exact ⟨by omega, by rw [hver, hlg]⟩
  intro G6 L' hI
  obtain ⟨f, q1, q2, q4, rfl, ⟨hf, hvf⟩⟩ := hI
  have g6_1 := q1.trans g5_1
  have g6_2 := q2.trans g5_2
  have g6_4 := q4
  clear q1 q2 q4
  have g6 := And.intro g6_1 (And.intro g6_2 g6_4)
  refine cv_seq_k fun K hK => ?_
  refine cv_seq_k fun K hK => ?_
  refine cv_region_then rfl ?_
  simp -implicitDefEqProofs (disch := first | omega | decide) only [seval, -Int.reducePow, -Nat.reducePow, cC, pv, binv, sVeVer1, undef, g5, g6]
  refine hK _ _ ?_
  clear hK K
  refine cv_cond ?_
  simp -implicitDefEqProofs (disch := first | omega | decide) only [seval, -Int.reducePow, -Nat.reducePow, cC, pv, binv, sVeVer1, undef, g5, g6]
  refine ⟨fun hc => ?_, fun hc => ?_⟩
  · refine cv_skip ?_
    try simp only [blockQ, thenQ]
    have hft : f < fn := by have := of_decide_eq_true ‹decide ((f : Int) < (fn : Int)) = true›; omega
    obtain ⟨u, hu⟩ : ∃ u, hgtF ⟨TA, tn, tc, ts, FA, fn, fc, gs⟩ (f : Int) = u := ⟨_, rfl⟩
    refine hK _ _ ?_
    clear hK K
    refine cv_seq_k fun K hK => ?_
    refine cv_block ?_
    refine cv_seq_k fun K hK => ?_
    refine cv_region_then rfl ?_
    simp -implicitDefEqProofs (disch := first | omega | decide) only [seval, -Int.reducePow, -Nat.reducePow, cC, pv, binv, sVeVer1, undef, g5, g6]
    refine callV_row (fun A n c => .tuple #[.slice A n c, fltV u.2]) (fun w hw => (by have := rHeights_any ⟨TA, tn, tc, ts, FA, fn, fc, gs⟩ (f : Int) w (hMat hw); rw [hu] at this; exact this)) ?_
    intro A n c hl hr
    simp -implicitDefEqProofs (disch := first | omega | decide) only [seval, -Int.reducePow, -Nat.reducePow, cC, pv, binv, sVeVer1, undef, g5, g6]
    intro b6 hb6 hf6
    refine hK _ _ ?_
    clear hK K
    refine cv_seq_k fun K hK => ?_
    refine cv_region_then rfl ?_
    simp -implicitDefEqProofs (disch := first | omega | decide) only [seval, -Int.reducePow, -Nat.reducePow, cC, pv, binv, sVeVer1, undef, g5, g6]
    refine hK _ _ ?_
    clear hK K
    refine cv_cond ?_
    simp -implicitDefEqProofs (disch := first | omega | decide) only [seval, -Int.reducePow, -Nat.reducePow, cC, pv, binv, sVeVer1, undef, g5, g6]
    refine ⟨fun hc => ?_, fun hc => ?_⟩
    · have hz2 : ¬ u.2.1 = 0 := nd_true ‹(!decide (u.2.1 = 0)) = true›
      refine cv_seq_k fun K hK => ?_
      refine cv_region_then rfl ?_
      simp -implicitDefEqProofs (disch := first | omega | decide) only [seval, -Int.reducePow, -Nat.reducePow, cC, pv, binv, sVeVer1, undef, g5, g6]
      refine hK _ _ ?_
      clear hK K
      refine cv_ret ?_
      simp -implicitDefEqProofs (disch := first | omega | decide) only [seval, -Int.reducePow, -Nat.reducePow, cC, pv, binv, sVeVer1, undef, retQ2, ressV, packV, g5, g6]
      intro w hw
      rw [hvf, show fn - f = (fn - (f + 1)) + 1 by omega, verG_no (by rw [hu]; exact hz2), hu]
      exact ⟨rfl, hw.below⟩
    have hz2 : u.2.1 = 0 := Decidable.not_not.1 (nd_false ‹(!decide (u.2.1 = 0)) = false›)
    refine cv_skip ?_
    try simp only [blockQ, thenQ]
    refine hK _ _ ?_
    clear hK K
    refine cv_pick [2, 3, 4] (by decide) ?_
    simp only [pickL, nth]
    refine cv_region_then rfl ?_
    simp -implicitDefEqProofs (disch := first | omega | decide) only [seval, -Int.reducePow, -Nat.reducePow, cC, pv, binv, sVeVer1, undef, wrap_in, g5, g6]
    refine ⟨⟨f + 1, ?_⟩, ?_⟩
    · simp -implicitDefEqProofs (disch := first | omega | decide) only [seval, -Int.reducePow, -Nat.reducePow, cC, pv, binv, sVeVer1, undef, Int.natCast_add, g5, g6]
      refine ⟨by omega, ?_⟩
      rw [hvf, show fn - f = (fn - (f + 1)) + 1 by omega, verG_yes (by rw [hu]; exact hz2)]
    · simp only [intOf]; omega
  refine cv_exit ?_
  simp only [blockQ, thenQ, if_true, ite_true]
  clear hK K
  refine hK _ _ ?_
  clear hK K
  have hft : ¬ f < fn := by have := of_decide_eq_false ‹decide ((f : Int) < (fn : Int)) = false›; omega
  refine cv_seq_k fun K hK => ?_
  refine cv_region_then rfl ?_
  simp -implicitDefEqProofs (disch := first | omega | decide) only [seval, -Int.reducePow, -Nat.reducePow, cC, pv, binv, sVeVer1, undef, g5, g6]
  refine callV_ret (fun w hw => fine_any w) ?_
  try simp -implicitDefEqProofs (disch := first | omega | decide) only [seval, -Int.reducePow, -Nat.reducePow, cC, pv, binv, sVeVer1, undef, g5, g6]
  refine hK _ _ ?_
  clear hK K
  refine cv_ret ?_
  simp -implicitDefEqProofs (disch := first | omega | decide) only [seval, -Int.reducePow, -Nat.reducePow, cC, pv, binv, sVeVer1, undef, retQ2, ressV, packV, g5, g6]
  intro w hw
  rw [hvf, show fn - f = 0 by omega]
  exact ⟨rfl, hw.below⟩
end Go.Proofs.Ytlbmnioibiomfaa
