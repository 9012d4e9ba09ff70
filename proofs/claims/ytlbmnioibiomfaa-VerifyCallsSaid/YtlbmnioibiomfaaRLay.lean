/- The reference's layouts: width, up, places, Check. -/
import Derived.Test.YtlbmnioibiomfaaLay
namespace Go.Proofs.Ytlbmnioibiomfaa
open Go.RowKit Go.Shelf
set_option linter.unusedVariables false
set_option linter.unusedSimpArgs false
set_option maxRecDepth 100000

set_option maxRecDepth 100000 in
theorem sRLay1 : type_of% (And.intro (And.intro @fBox.eq_1 @tBox.eq_1) (And.intro @pBox.eq_1 (And.intro @fdV.eq_1 @tyV.eq_1))) := (And.intro (And.intro @fBox.eq_1 @tBox.eq_1) (And.intro @pBox.eq_1 (And.intro @fdV.eq_1 @tyV.eq_1)))
theorem rwidth_any (f : Fd) (W : World) (he : f.err = 0) : Calls Try.prog 60 #[fdV f] W fun e w' => e = .returned (.tuple #[.int .i64 f.wid, .int .i64 f.ali]) ∧ Below W.heap.size W w' := by
  have hz := Fd.err_zero he
  refine calls_cv (M := []) (n := 17) [.tmp 2, .tmp 3] rfl Try.func60 rfl rfl (Nat.le_of_ble_eq_true rfl) (St.nil _ _) ?_
  refine cv_seq_k fun K hK => ?_
  refine cv_region_then rfl ?_
  simp -implicitDefEqProofs (disch := first | omega | decide) only [seval, -Int.reducePow, -Nat.reducePow, cC, pv, binv, sRLay1, undef]
  intro b hb
  refine hK _ _ ?_
  clear hK K
  refine cv_seq_k fun K hK => ?_
  refine cv_seq_k fun K hK => ?_
  refine cv_region_then rfl ?_
  simp -implicitDefEqProofs (disch := first | omega | decide) only [seval, -Int.reducePow, -Nat.reducePow, cC, pv, binv, sRLay1, undef]
  refine hK _ _ ?_
  clear hK K
  refine cv_gen fun G1 hG => ?_
  have g1_1 := congrFun hG 1
  have g1_5 := congrFun hG 5
  clear hG
  try simp -implicitDefEqProofs (disch := first | omega | decide) only [seval, -Int.reducePow, -Nat.reducePow, cC, pv, binv, sRLay1, undef] at g1_1 g1_5
  have g1 := And.intro g1_1 g1_5
  refine cv_block ?_
  refine cv_seq_k fun K hK => ?_
  refine cv_region_then rfl ?_
  simp -implicitDefEqProofs (disch := first | omega | decide) only [seval, -Int.reducePow, -Nat.reducePow, cC, pv, binv, sRLay1, undef, g1]
  refine hK _ _ ?_
  clear hK K
  refine cv_cond ?_
  simp -implicitDefEqProofs (disch := first | omega | decide) only [seval, -Int.reducePow, -Nat.reducePow, cC, pv, binv, sRLay1, undef, g1]
  refine ⟨fun hc => ?_, fun hc => ?_⟩
  · refine cv_seq_k fun K hK => ?_
    refine cv_region_then rfl ?_
    simp -implicitDefEqProofs (disch := first | omega | decide) only [seval, -Int.reducePow, -Nat.reducePow, cC, pv, binv, sRLay1, undef, g1]
    refine hK _ _ ?_
    clear hK K
    refine cv_ret ⟨_, (by simp -implicitDefEqProofs (disch := first | omega | decide) only [seval, -Int.reducePow, -Nat.reducePow, cC, pv, binv, sRLay1, undef, g1]; rfl), fun w hw => ?_⟩
    exact ⟨by simp [Fd.wid, Fd.ali, of_decide_eq_true hc], hw.below⟩
  · have q1 := of_decide_eq_false hc
    refine cv_seq_k fun K hK => ?_
    refine cv_region_then rfl ?_
    simp -implicitDefEqProofs (disch := first | omega | decide) only [seval, -Int.reducePow, -Nat.reducePow, cC, pv, binv, sRLay1, undef, g1]
    refine hK _ _ ?_
    clear hK K
    refine cv_cond ?_
    simp -implicitDefEqProofs (disch := first | omega | decide) only [seval, -Int.reducePow, -Nat.reducePow, cC, pv, binv, sRLay1, undef, g1]
    refine ⟨fun hc => ?_, fun hc => ?_⟩
    · refine cv_seq_k fun K hK => ?_
      refine cv_region_then rfl ?_
      simp -implicitDefEqProofs (disch := first | omega | decide) only [seval, -Int.reducePow, -Nat.reducePow, cC, pv, binv, sRLay1, undef, g1]
      refine hK _ _ ?_
      clear hK K
      refine cv_ret ⟨_, (by simp -implicitDefEqProofs (disch := first | omega | decide) only [seval, -Int.reducePow, -Nat.reducePow, cC, pv, binv, sRLay1, undef, g1]; rfl), fun w hw => ?_⟩
      exact ⟨by simp [Fd.wid, Fd.ali, q1, of_decide_eq_true ‹_›], hw.below⟩
    · have q2 := of_decide_eq_false ‹_›
      refine cv_seq_k fun K hK => ?_
      refine cv_region_then rfl ?_
      simp -implicitDefEqProofs (disch := first | omega | decide) only [seval, -Int.reducePow, -Nat.reducePow, cC, pv, binv, sRLay1, undef, g1]
      refine hK _ _ ?_
      clear hK K
      refine cv_cond ?_
      simp -implicitDefEqProofs (disch := first | omega | decide) only [seval, -Int.reducePow, -Nat.reducePow, cC, pv, binv, sRLay1, undef, g1]
      refine ⟨fun hc => ?_, fun hc => ?_⟩
      · refine cv_seq_k fun K hK => ?_
        refine cv_region_then rfl ?_
        simp -implicitDefEqProofs (disch := first | omega | decide) only [seval, -Int.reducePow, -Nat.reducePow, cC, pv, binv, sRLay1, undef, g1]
        refine hK _ _ ?_
        clear hK K
        refine cv_ret ⟨_, (by simp -implicitDefEqProofs (disch := first | omega | decide) only [seval, -Int.reducePow, -Nat.reducePow, cC, pv, binv, sRLay1, undef, g1]; rfl), fun w hw => ?_⟩
        exact ⟨by simp [Fd.wid, Fd.ali, q1, q2, of_decide_eq_true ‹_›], hw.below⟩
      · have q3 := of_decide_eq_false ‹_›
        refine cv_gen fun G2 hG => ?_
        have g2_1 := congrFun hG 1
        have g2_5 := congrFun hG 5
        clear hG
        try simp -implicitDefEqProofs (disch := first | omega | decide) only [seval, -Int.reducePow, -Nat.reducePow, cC, pv, binv, sRLay1, undef, g1] at g2_1 g2_5
        have g2 := And.intro g2_1 g2_5
        refine cv_seq_k fun K hK => ?_
        refine cv_cut (fun _ _ => True) (fun F' L' => F' 1 = G2 1 ∧ F' 5 = G2 5 ∧ F' 12 = .bool (decide (f.kind = 4 ∨ f.kind = 5)) ∧ L' = [fBox b f]) ?_ ?_
        · refine cv_seq_k fun K hK => ?_
          refine cv_region_then rfl ?_
          simp -implicitDefEqProofs (disch := first | omega | decide) only [seval, -Int.reducePow, -Nat.reducePow, cC, pv, binv, sRLay1, undef, g2]
          refine hK _ _ ?_
          clear hK K
          refine cv_cond ?_
          simp -implicitDefEqProofs (disch := first | omega | decide) only [seval, -Int.reducePow, -Nat.reducePow, cC, pv, binv, sRLay1, undef, g2]
          refine ⟨fun hc => ?_, fun hc => ?_⟩
          · have q4 := of_decide_eq_true ‹_›
            refine cv_skip ?_
            try simp only [blockQ, thenQ]
            simp -implicitDefEqProofs (disch := first | omega | decide) only [seval, -Int.reducePow, -Nat.reducePow, cC, pv, binv, sRLay1, undef, g2]
            all_goals (repeat' refine And.intro ?_ ?_)
            all_goals (first | with_reducible rfl | (refine congrArg Value.bool ?_; rw [Bool.eq_iff_iff]; (try simp only [decide_eq_true_eq, eq_self, true_and, and_true, false_and, and_false, true_or, or_true, false_or, or_false, not_true_eq_false, not_false_eq_true, true_iff, iff_true, false_iff, iff_false, Bool.false_eq_true, Bool.not_eq_true', Bool.not_eq_true, decide_eq_false_iff_not, Bool.and_eq_true, Bool.or_eq_true]) <;> omega) | (refine congrArg (Value.int _) ?_; omega) | omega)
          · have q4 := of_decide_eq_false ‹_›
            refine cv_region_q rfl ?_
            simp -implicitDefEqProofs (disch := first | omega | decide) only [seval, -Int.reducePow, -Nat.reducePow, cC, pv, binv, sRLay1, undef, g2]
            all_goals (repeat' refine And.intro ?_ ?_)
            all_goals (first | with_reducible rfl | (refine congrArg Value.bool ?_; rw [Bool.eq_iff_iff]; (try simp only [decide_eq_true_eq, eq_self, true_and, and_true, false_and, and_false, true_or, or_true, false_or, or_false, not_true_eq_false, not_false_eq_true, true_iff, iff_true, false_iff, iff_false, Bool.false_eq_true, Bool.not_eq_true', Bool.not_eq_true, decide_eq_false_iff_not, Bool.and_eq_true, Bool.or_eq_true]) <;> omega) | (refine congrArg (Value.int _) ?_; omega) | omega)
        · intro G3 L' _ hF
          obtain ⟨q1, q5, q12, rfl⟩ := hF
          have g3_1 := q1.trans g2_1
          have g3_5 := q5.trans g2_5
          have g3_12 := q12
          clear q1 q5 q12
          have g3 := And.intro g3_1 (And.intro g3_5 g3_12)
          refine hK _ _ ?_
          clear hK K
          refine cv_cond ?_
          simp -implicitDefEqProofs (disch := first | omega | decide) only [seval, -Int.reducePow, -Nat.reducePow, cC, pv, binv, sRLay1, undef, g3]
          refine ⟨fun hc => ?_, fun hc => ?_⟩
          · have q5 := of_decide_eq_true ‹_›
            have q6 : ¬ f.kind = 6 := by omega
            refine cv_seq_k fun K hK => ?_
            refine cv_region_then rfl ?_
            simp -implicitDefEqProofs (disch := first | omega | decide) only [seval, -Int.reducePow, -Nat.reducePow, cC, pv, binv, sRLay1, undef, g3]
            refine hK _ _ ?_
            clear hK K
            refine cv_ret ⟨_, (by simp -implicitDefEqProofs (disch := first | omega | decide) only [seval, -Int.reducePow, -Nat.reducePow, cC, pv, binv, sRLay1, undef, g3]; rfl), fun w hw => ?_⟩
            exact ⟨by simp [Fd.wid, Fd.ali, q1, q2, q3, q6], hw.below⟩
          · have q5 := of_decide_eq_false ‹_›
            have q6 : f.kind = 6 := by omega
            refine cv_skip ?_
            try simp only [blockQ, thenQ]
            refine hK _ _ ?_
            clear hK K
            refine cv_seq_k fun K hK => ?_
            refine cv_region_then rfl ?_
            simp -implicitDefEqProofs (disch := first | omega | decide) only [seval, -Int.reducePow, -Nat.reducePow, cC, pv, binv, sRLay1, undef, g3]
            refine hK _ _ ?_
            clear hK K
            refine cv_ret ⟨_, (by simp -implicitDefEqProofs (disch := first | omega | decide) only [seval, -Int.reducePow, -Nat.reducePow, cC, pv, binv, sRLay1, undef, g3]; rfl), fun w hw => ?_⟩
            exact ⟨by simp [Fd.wid, Fd.ali, q6], hw.below⟩
theorem rup_any (n a : Int) (W : World) (hn : 0 ≤ n ∧ n ≤ 1000000000) (ha : 1 ≤ a ∧ a ≤ 100) : Calls Try.prog 85 #[.int .i64 n, .int .i64 a] W fun e w' => e = .returned (.int .i64 (upI n a)) ∧ Below W.heap.size W w' := by
  have hr := upI_rng hn.1 ha.1
  have h0 : 0 ≤ (n + a - 1) / a ∧ (n + a - 1) / a ≤ n + a - 1 := ⟨Int.ediv_nonneg (by omega) (by omega), Int.ediv_le_self _ (by omega)⟩
  have h1 : IntKind.i64.wrap ((n + a - 1) / a) = (n + a - 1) / a := wrap_in (by omega) (by omega)
  have h2 : IntKind.i64.wrap ((n + a - 1) / a * a) = upI n a := wrap_in (by unfold upI at hr; omega) (by unfold upI at hr; omega)
  refine calls_cv (M := []) (n := 13) [.tmp 4] rfl Try.func85 rfl rfl (Nat.le_of_ble_eq_true rfl) (St.nil _ _) ?_
  refine cv_seq_k fun K hK => ?_
  refine cv_region_then rfl ?_
  simp -implicitDefEqProofs (disch := first | omega | decide) only [seval, -Int.reducePow, -Nat.reducePow, cC, pv, binv, sRLay1, undef]
  refine hK _ _ ?_
  clear hK K
  refine cv_seq_k fun K hK => ?_
  refine cv_region_then rfl ?_
  simp -implicitDefEqProofs (disch := first | omega | decide) only [seval, -Int.reducePow, -Nat.reducePow, cC, pv, binv, sRLay1, undef, h1, h2, wrap_in]
  refine hK _ _ ?_
  clear hK K
  refine cv_ret ⟨_, (by simp -implicitDefEqProofs (disch := first | omega | decide) only [seval, -Int.reducePow, -Nat.reducePow, cC, pv, binv, sRLay1, undef]; rfl), fun w hw => ?_⟩
  exact ⟨rfl, hw.below⟩
set_option maxHeartbeats 4000000 in
theorem rplaces_any (A : Option Addr) (n c : Nat) (fs : List Fd) (W : World) (hE : Sl W W.heap.size 2 A n c (cl fdc fs)) (hn : n ≤ 40) (hok : okFs fs) :
    Calls Try.prog 61 #[tyV 0 A n c] W fun e w' => (∃ v, e = .returned (.tuple #[v, .int .i64 (sizeF fs)]) ∧ True) ∧ Below W.heap.size W w' := by
  have hln : fs.length = n := cl_row fdc_len (by omega) hE.len
  refine calls_cv (M := []) (n := 89) [.tmp 2, .tmp 3] rfl Try.func61 rfl rfl (Nat.le_of_ble_eq_true rfl) (St.nil _ _) ?_
  refine cv_seq_k fun K hK => ?_
  refine cv_region_then rfl ?_
  simp -implicitDefEqProofs (disch := first | omega | decide) only [seval, -Int.reducePow, -Nat.reducePow, cC, pv, binv, sRLay1, undef]
  intro b hb
  refine hK _ _ ?_
  clear hK K
  refine cv_seq_k fun K hK => ?_
  refine cv_region_then rfl ?_
  simp -implicitDefEqProofs (disch := first | omega | decide) only [seval, -Int.reducePow, -Nat.reducePow, cC, pv, binv, sRLay1, undef]
  refine hK _ _ ?_
  clear hK K
  refine cv_seq_k fun K hK => ?_
  refine cv_seq_k fun K hK => ?_
  refine cv_region_then rfl ?_
  simp -implicitDefEqProofs (disch := first | omega | decide) only [seval, -Int.reducePow, -Nat.reducePow, cC, pv, binv, sRLay1, undef]
  refine hK _ _ ?_
  clear hK K
  refine cv_cond ?_
  simp -implicitDefEqProofs (disch := first | omega | decide) only [seval, -Int.reducePow, -Nat.reducePow, cC, pv, binv, sRLay1, undef]
  refine cv_skip ?_
  try simp only [blockQ, thenQ]
  refine hK _ _ ?_
  clear hK K
  refine cv_seq_k fun K hK => ?_
  refine cv_region_then rfl ?_
  simp -implicitDefEqProofs (disch := first | omega | decide) only [seval, -Int.reducePow, -Nat.reducePow, cC, pv, binv, sRLay1, undef]
  refine hK _ _ ?_
  clear hK K
  refine cv_seq_k fun K hK => ?_
  refine cv_region_then rfl ?_
  simp -implicitDefEqProofs (disch := first | omega | decide) only [seval, -Int.reducePow, -Nat.reducePow, cC, pv, binv, sRLay1, undef]
  refine hK _ _ ?_
  clear hK K
  refine cv_seq_k fun K hK => ?_
  refine cv_seq_k fun K hK => ?_
  refine cv_region_then rfl ?_
  simp -implicitDefEqProofs (disch := first | omega | decide) only [seval, -Int.reducePow, -Nat.reducePow, cC, pv, binv, sRLay1, undef]
  refine hK _ _ ?_
  clear hK K
  refine cv_gen fun G4 hG => ?_
  have g4_1 := congrFun hG 1
  have g4_4 := congrFun hG 4
  have g4_8 := congrFun hG 8
  have g4_9 := congrFun hG 9
  have g4_10 := congrFun hG 10
  clear hG
  try simp -implicitDefEqProofs (disch := first | omega | decide) only [seval, -Int.reducePow, -Nat.reducePow, cC, pv, binv, sRLay1, undef] at g4_1 g4_4 g4_8 g4_9 g4_10
  have g4 := And.intro g4_1 (And.intro g4_4 (And.intro g4_8 (And.intro g4_9 g4_10)))
  refine cv_block ?_
  refine cv_nil 131 3 ?_
  refine cv_loop (fun F' L' => ∃ (k : Nat) (A6 : Option Addr) (c6 : Nat) (ps : List Value), F' 1 = G4 1 ∧ F' 4 = .slice A6 k c6 ∧ F' 8 = .int .i64 (lay (fs.take k)).1 ∧ F' 9 = .int .i64 (lay (fs.take k)).2 ∧ F' 10 = .int .i64 (k : Int) ∧ L' = [.row (.slice A6 k c6) 131 3 k ps, tBox b 0 A n c] ∧ k ≤ n) (fun F' L' => 40 - (intOf (F' 10)).toNat) ?_ ?_
  · refine ⟨0, none, 0, [], ?_⟩
    simp -implicitDefEqProofs (disch := first | omega | decide) only [seval, -Int.reducePow, -Nat.reducePow, cC, pv, binv, sRLay1, undef, g4]
    exact ⟨rfl, rfl, by omega⟩
  · intro G5 L' hI
    obtain ⟨k, A6, c6, ps, q1, q4, q8, q9, q10, rfl, hk⟩ := hI
    have g5_1 := q1.trans g4_1
    have g5_4 := q4
    have g5_8 := q8
    have g5_9 := q9
    have g5_10 := q10
    clear q1 q4 q8 q9 q10
    have g5 := And.intro g5_1 (And.intro g5_4 (And.intro g5_8 (And.intro g5_9 g5_10)))
    have hR := lay_rng (okFs_take hok k)
    rw [List.length_take, Nat.min_eq_left (by omega)] at hR
    refine cv_seq_k fun K hK => ?_
    refine cv_seq_k fun K hK => ?_
    refine cv_region_then rfl ?_
    simp -implicitDefEqProofs (disch := first | omega | decide) only [seval, -Int.reducePow, -Nat.reducePow, cC, pv, binv, sRLay1, undef, g4, g5]
    refine hK _ _ ?_
    clear hK K
    refine cv_cond ?_
    simp -implicitDefEqProofs (disch := first | omega | decide) only [seval, -Int.reducePow, -Nat.reducePow, cC, pv, binv, sRLay1, undef, g4, g5]
    refine ⟨fun hc => ?_, fun hc => ?_⟩
    · refine cv_skip ?_
      try simp only [blockQ, thenQ]
      have hlt : k < n := by have := of_decide_eq_true hc; omega
      obtain ⟨b0, off, rfl, hb0, -⟩ := hE.cells (by omega)
      obtain ⟨x, hx⟩ := some_of (l := fs) (i := k) (by omega)
      have hxe := hok x (List.mem_of_getElem? hx)
      have hxw := Fd.wid_rng hxe
      have hxa := Fd.ali_rng hxe
      have hu := upI_rng (n := (lay (fs.take k)).1) (a := x.ali) hR.1 hxa.1
      have hs := lay_take hx
      refine hK _ _ ?_
      clear hK K
      refine cv_seq_k fun K hK => ?_
      refine cv_block ?_
      refine cv_seq_k fun K hK => ?_
      refine cv_region_then rfl ?_
      simp -implicitDefEqProofs (disch := first | omega | decide) only [seval, -Int.reducePow, -Nat.reducePow, cC, pv, binv, sRLay1, undef, g4, g5]
      refine ⟨_, hE.fld hx, fun tok htok => ?_⟩
      subst htok
      simp -implicitDefEqProofs (disch := first | omega | decide) only [seval, -Int.reducePow, -Nat.reducePow, cC, pv, binv, sRLay1, undef, g4, g5]
      refine callV_ret (fun w hw => rwidth_any x w hxe) ?_
      try simp -implicitDefEqProofs (disch := first | omega | decide) only [seval, -Int.reducePow, -Nat.reducePow, cC, pv, binv, sRLay1, undef, g4, g5]
      refine hK _ _ ?_
      clear hK K
      refine cv_seq_k fun K hK => ?_
      refine cv_region_then rfl ?_
      simp -implicitDefEqProofs (disch := first | omega | decide) only [seval, -Int.reducePow, -Nat.reducePow, cC, pv, binv, sRLay1, undef, g4, g5]
      refine callV_ret (fun w hw => rup_any _ _ w (by omega) (by omega)) ?_
      try simp -implicitDefEqProofs (disch := first | omega | decide) only [seval, -Int.reducePow, -Nat.reducePow, cC, pv, binv, sRLay1, undef, g4, g5]
      refine hK _ _ ?_
      clear hK K
      refine cv_seq_k fun K hK => ?_
      refine cv_region_then rfl ?_
      simp -implicitDefEqProofs (disch := first | omega | decide) only [seval, -Int.reducePow, -Nat.reducePow, cC, pv, binv, sRLay1, undef, g4, g5]
      refine ⟨_, hE.fld0 hx, fun tok htok => ?_⟩
      subst htok
      simp -implicitDefEqProofs (disch := first | omega | decide) only [seval, -Int.reducePow, -Nat.reducePow, cC, pv, binv, sRLay1, undef, g4, g5]
      intro b7 hb7 h7
      refine appV_at 1 tap107 rfl (fun w hw => src_blk (size := 3) (.head _) rfl hw) rfl (by omega) (by omega) ?_
      intro A' c' hl _
      simp -implicitDefEqProofs (disch := first | omega | decide) only [seval, -Int.reducePow, -Nat.reducePow, cC, pv, binv, sRLay1, undef, g4, g5]
      refine hK _ _ ?_
      clear hK K
      refine cv_seq_k fun K hK => ?_
      refine cv_region_then rfl ?_
      simp -implicitDefEqProofs (disch := first | omega | decide) only [seval, -Int.reducePow, -Nat.reducePow, cC, pv, binv, sRLay1, undef, wrap_in, g4, g5]
      refine hK _ _ ?_
      clear hK K
      refine cv_pick [0, 2] (by decide) ?_
      simp only [pickL, nth]
      refine cv_region_q rfl ?_
      simp -implicitDefEqProofs (disch := first | omega | decide) only [seval, -Int.reducePow, -Nat.reducePow, cC, pv, binv, sRLay1, undef, g4, g5]
      refine hK _ _ ?_
      clear hK K
      refine cv_region_then rfl ?_
      simp -implicitDefEqProofs (disch := first | omega | decide) only [seval, -Int.reducePow, -Nat.reducePow, cC, pv, binv, sRLay1, undef, wrap_in, g4, g5]
      refine ⟨⟨k + 1, A', c', ps ++ [.int .i64 (upI (lay (fs.take k)).1 x.ali), .int .i64 x.wid, .int .i64 x.kind], ?_⟩, ?_⟩
      · simp -implicitDefEqProofs (disch := first | omega | decide) only [seval, -Int.reducePow, -Nat.reducePow, cC, pv, binv, sRLay1, undef, Int.natCast_add, hs, layS, g4, g5]
        omega
      · simp only [intOf]; omega
    · refine cv_exit ?_
      simp only [blockQ, thenQ, if_true, ite_true]
      clear hK K
      refine hK _ _ ?_
      clear hK K
      obtain rfl : n = k := by have := of_decide_eq_false hc; omega
      rw [List.take_of_length_le (by omega)] at *
      refine cv_seq_k fun K hK => ?_
      refine cv_region_then rfl ?_
      simp -implicitDefEqProofs (disch := first | omega | decide) only [seval, -Int.reducePow, -Nat.reducePow, cC, pv, binv, sRLay1, undef, g4, g5]
      refine callV_ret (fun w hw => rup_any _ _ w (by omega) (by omega)) ?_
      try simp -implicitDefEqProofs (disch := first | omega | decide) only [seval, -Int.reducePow, -Nat.reducePow, cC, pv, binv, sRLay1, undef, g4, g5]
      refine hK _ _ ?_
      clear hK K
      refine cv_ret ⟨_, (by simp -implicitDefEqProofs (disch := first | omega | decide) only [seval, -Int.reducePow, -Nat.reducePow, cC, pv, binv, sRLay1, undef, g4, g5]; rfl), fun w hw => ?_⟩
      exact ⟨⟨_, rfl, trivial⟩, hw.below⟩
set_option maxHeartbeats 4000000 in
theorem rcheck_any (A : Option Addr) (n c : Nat) (fs : List Fd) (len : Int) (W : World) (hE : Sl W W.heap.size 2 A n c (cl fdc fs)) :
    Calls Try.prog 33 #[tyV len A n c] W fun e w' => e = .returned (.int .i64 (chk len fs)) ∧ Below W.heap.size W w' := by
  have hln : fs.length = n := cl_row fdc_len (by omega) hE.len
  refine calls_cv (M := []) (n := 103) [.tmp 2] rfl Try.func33 rfl rfl (Nat.le_of_ble_eq_true rfl) (St.nil _ _) ?_
  refine cv_seq_k fun K hK => ?_
  refine cv_region_then rfl ?_
  simp -implicitDefEqProofs (disch := first | omega | decide) only [seval, -Int.reducePow, -Nat.reducePow, cC, pv, binv, sRLay1, undef]
  intro b hb
  refine hK _ _ ?_
  clear hK K
  refine cv_gen fun G6 hG => ?_
  have g6_1 := congrFun hG 1
  clear hG
  try simp -implicitDefEqProofs (disch := first | omega | decide) only [seval, -Int.reducePow, -Nat.reducePow, cC, pv, binv, sRLay1, undef] at g6_1
  have g6 := g6_1
  refine cv_seq_k fun K hK => ?_
  refine cv_seq_k fun K hK => ?_
  refine cv_region_then rfl ?_
  simp -implicitDefEqProofs (disch := first | omega | decide) only [seval, -Int.reducePow, -Nat.reducePow, cC, pv, binv, sRLay1, undef, g6]
  refine hK _ _ ?_
  clear hK K
  refine cv_cond ?_
  simp -implicitDefEqProofs (disch := first | omega | decide) only [seval, -Int.reducePow, -Nat.reducePow, cC, pv, binv, sRLay1, undef, g6]
  refine ⟨fun hc => ?_, fun hc => ?_⟩
  · refine cv_seq_k fun K hK => ?_
    refine cv_region_then rfl ?_
    simp -implicitDefEqProofs (disch := first | omega | decide) only [seval, -Int.reducePow, -Nat.reducePow, cC, pv, binv, sRLay1, undef, g6]
    refine hK _ _ ?_
    clear hK K
    refine cv_ret ⟨_, (by simp -implicitDefEqProofs (disch := first | omega | decide) only [seval, -Int.reducePow, -Nat.reducePow, cC, pv, binv, sRLay1, undef, g6]; rfl), fun w hw => ?_⟩
    exact ⟨by unfold chk; rw [if_pos (of_decide_eq_true hc)], hw.below⟩
  have q1 := of_decide_eq_false hc
  refine cv_skip ?_
  try simp only [blockQ, thenQ]
  refine hK _ _ ?_
  clear hK K
  refine cv_seq_k fun K hK => ?_
  refine cv_seq_k fun K hK => ?_
  refine cv_region_then rfl ?_
  simp -implicitDefEqProofs (disch := first | omega | decide) only [seval, -Int.reducePow, -Nat.reducePow, cC, pv, binv, sRLay1, undef, g6]
  refine hK _ _ ?_
  clear hK K
  refine cv_cond ?_
  simp -implicitDefEqProofs (disch := first | omega | decide) only [seval, -Int.reducePow, -Nat.reducePow, cC, pv, binv, sRLay1, undef, g6]
  refine ⟨fun hc => ?_, fun hc => ?_⟩
  · refine cv_seq_k fun K hK => ?_
    refine cv_region_then rfl ?_
    simp -implicitDefEqProofs (disch := first | omega | decide) only [seval, -Int.reducePow, -Nat.reducePow, cC, pv, binv, sRLay1, undef, g6]
    refine hK _ _ ?_
    clear hK K
    refine cv_ret ⟨_, (by simp -implicitDefEqProofs (disch := first | omega | decide) only [seval, -Int.reducePow, -Nat.reducePow, cC, pv, binv, sRLay1, undef, g6]; rfl), fun w hw => ?_⟩
    exact ⟨by unfold chk; rw [if_neg q1, if_pos (of_decide_eq_true ‹_›)], hw.below⟩
  have q2 := of_decide_eq_false ‹_›
  refine cv_skip ?_
  try simp only [blockQ, thenQ]
  refine hK _ _ ?_
  clear hK K
  refine cv_gen fun G7 hG => ?_
  have g7_1 := congrFun hG 1
  clear hG
  try simp -implicitDefEqProofs (disch := first | omega | decide) only [seval, -Int.reducePow, -Nat.reducePow, cC, pv, binv, sRLay1, undef, g6] at g7_1
  have g7 := g7_1
  refine cv_seq_k fun K hK => ?_
  refine cv_seq_k fun K hK => ?_
  refine cv_cut (fun _ _ => True) (fun F' L' => F' 1 = G7 1 ∧ F' 34 = .bool (decide ((len = 0 ∧ fs.length = 0) ∨ (0 < len ∧ ¬ fs.length = 1))) ∧ L' = [tBox b len A n c]) ?_ ?_
  · refine cv_region_then rfl ?_
    simp -implicitDefEqProofs (disch := first | omega | decide) only [seval, -Int.reducePow, -Nat.reducePow, cC, pv, binv, sRLay1, undef, g7]
    repeat' ((first | refine vcg_cases (fun hg => ?_) (fun hg => ?_) | refine vdg_cases (fun hg => ?_) (fun hg => ?_)) <;> ((try simp only [Bool.not_eq_true', Bool.not_eq_false', decide_eq_true_eq, decide_eq_false_iff_not] at hg); (try simp -implicitDefEqProofs (disch := first | omega | decide) only [seval, -Int.reducePow, -Nat.reducePow, cC, pv, binv, sRLay1, undef, hg, g7])))
    all_goals (repeat' refine And.intro ?_ ?_)
    all_goals (first | with_reducible rfl | (refine congrArg Value.bool ?_; rw [Bool.eq_iff_iff]; (try simp only [decide_eq_true_eq, eq_self, true_and, and_true, false_and, and_false, true_or, or_true, false_or, or_false, not_true_eq_false, not_false_eq_true, true_iff, iff_true, false_iff, iff_false, Bool.false_eq_true, Bool.not_eq_true', Bool.not_eq_true, decide_eq_false_iff_not, Bool.and_eq_true, Bool.or_eq_true]) <;> omega) | (refine congrArg (Value.int _) ?_; omega) | omega)
  intro G8 L' _ hF
  obtain ⟨q1, q34, rfl⟩ := hF
  have g8_1 := q1.trans g7_1
  have g8_34 := q34
  clear q1 q34
  have g8 := And.intro g8_1 g8_34
  refine hK _ _ ?_
  clear hK K
  refine cv_cond ?_
  simp -implicitDefEqProofs (disch := first | omega | decide) only [seval, -Int.reducePow, -Nat.reducePow, cC, pv, binv, sRLay1, undef, g8]
  refine ⟨fun hc => ?_, fun hc => ?_⟩
  · refine cv_seq_k fun K hK => ?_
    refine cv_region_then rfl ?_
    simp -implicitDefEqProofs (disch := first | omega | decide) only [seval, -Int.reducePow, -Nat.reducePow, cC, pv, binv, sRLay1, undef, g8]
    refine hK _ _ ?_
    clear hK K
    refine cv_ret ⟨_, (by simp -implicitDefEqProofs (disch := first | omega | decide) only [seval, -Int.reducePow, -Nat.reducePow, cC, pv, binv, sRLay1, undef, g8]; rfl), fun w hw => ?_⟩
    exact ⟨by unfold chk; rw [if_neg q1, if_neg q2, if_pos (of_decide_eq_true ‹_›)], hw.below⟩
  have q3 := of_decide_eq_false ‹_›
  refine cv_skip ?_
  try simp only [blockQ, thenQ]
  refine hK _ _ ?_
  clear hK K
  refine cv_seq_k fun K hK => ?_
  refine cv_seq_k fun K hK => ?_
  refine cv_region_then rfl ?_
  simp -implicitDefEqProofs (disch := first | omega | decide) only [seval, -Int.reducePow, -Nat.reducePow, cC, pv, binv, sRLay1, undef, g8]
  refine hK _ _ ?_
  clear hK K
  refine cv_cond ?_
  simp -implicitDefEqProofs (disch := first | omega | decide) only [seval, -Int.reducePow, -Nat.reducePow, cC, pv, binv, sRLay1, undef, g8]
  refine ⟨fun hc => ?_, fun hc => ?_⟩
  · have q4 : 32 < fs.length := by have := of_decide_eq_true ‹_›; omega
    refine cv_seq_k fun K hK => ?_
    refine cv_region_then rfl ?_
    simp -implicitDefEqProofs (disch := first | omega | decide) only [seval, -Int.reducePow, -Nat.reducePow, cC, pv, binv, sRLay1, undef, g8]
    refine hK _ _ ?_
    clear hK K
    refine cv_ret ⟨_, (by simp -implicitDefEqProofs (disch := first | omega | decide) only [seval, -Int.reducePow, -Nat.reducePow, cC, pv, binv, sRLay1, undef, g8]; rfl), fun w hw => ?_⟩
    exact ⟨by unfold chk; rw [if_neg q1, if_neg q2, if_neg q3, if_pos q4], hw.below⟩
  have q4 : ¬ 32 < fs.length := by have := of_decide_eq_false ‹_›; omega
  refine cv_skip ?_
  try simp only [blockQ, thenQ]
  refine hK _ _ ?_
  clear hK K
  refine cv_seq_k fun K hK => ?_
  refine cv_seq_k fun K hK => ?_
  refine cv_region_then rfl ?_
  simp -implicitDefEqProofs (disch := first | omega | decide) only [seval, -Int.reducePow, -Nat.reducePow, cC, pv, binv, sRLay1, undef, g8]
  refine hK _ _ ?_
  clear hK K
  refine cv_gen fun G9 hG => ?_
  have g9_1 := congrFun hG 1
  have g9_3 := congrFun hG 3
  clear hG
  try simp -implicitDefEqProofs (disch := first | omega | decide) only [seval, -Int.reducePow, -Nat.reducePow, cC, pv, binv, sRLay1, undef, g8] at g9_1 g9_3
  have g9 := And.intro g9_1 g9_3
  refine cv_block ?_
  refine cv_loop (fun F' L' => ∃ (k : Nat), F' 1 = G9 1 ∧ F' 3 = .int .i64 (k : Int) ∧ L' = [tBox b len A n c] ∧ k ≤ n ∧ firstErr fs = firstErr (fs.drop k)) (fun F' L' => 40 - (intOf (F' 3)).toNat) ?_ ?_
  · refine ⟨0, ?_⟩
    simp -implicitDefEqProofs (disch := first | omega | decide) only [seval, -Int.reducePow, -Nat.reducePow, cC, pv, binv, sRLay1, undef, g9]
    omega
  intro G10 L' hI
  obtain ⟨k, q1, q3, rfl, ⟨hk, hf⟩⟩ := hI
  have g10_1 := q1.trans g9_1
  have g10_3 := q3
  clear q1 q3
  have g10 := And.intro g10_1 g10_3
  refine cv_seq_k fun K hK => ?_
  refine cv_seq_k fun K hK => ?_
  refine cv_region_then rfl ?_
  simp -implicitDefEqProofs (disch := first | omega | decide) only [seval, -Int.reducePow, -Nat.reducePow, cC, pv, binv, sRLay1, undef, g9, g10]
  refine hK _ _ ?_
  clear hK K
  refine cv_cond ?_
  simp -implicitDefEqProofs (disch := first | omega | decide) only [seval, -Int.reducePow, -Nat.reducePow, cC, pv, binv, sRLay1, undef, g9, g10]
  refine ⟨fun hc => ?_, fun hc => ?_⟩
  · refine cv_skip ?_
    try simp only [blockQ, thenQ]
    have hlt : k < n := by have := of_decide_eq_true ‹_›; omega
    obtain ⟨b0, off, rfl, hb0, -⟩ := hE.cells (by omega)
    obtain ⟨x, hx⟩ := some_of (l := fs) (i := k) (by omega)
    obtain ⟨hkl, hxk⟩ := List.getElem?_eq_some_iff.1 hx
    rw [List.drop_eq_getElem_cons hkl, hxk] at hf
    refine hK _ _ ?_
    clear hK K
    refine cv_seq_k fun K hK => ?_
    refine cv_block ?_
    refine cv_seq_k fun K hK => ?_
    refine cv_region_then rfl ?_
    simp -implicitDefEqProofs (disch := first | omega | decide) only [seval, -Int.reducePow, -Nat.reducePow, cC, pv, binv, sRLay1, undef, g9, g10]
    refine ⟨_, hE.fld hx, fun tok htok => ?_⟩
    subst htok
    simp -implicitDefEqProofs (disch := first | omega | decide) only [seval, -Int.reducePow, -Nat.reducePow, cC, pv, binv, sRLay1, undef, g9, g10]
    intro b4 hb4 h4
    refine hK _ _ ?_
    clear hK K
    refine cv_gen fun G11 hG => ?_
    have g11_1 := congrFun hG 1
    have g11_3 := congrFun hG 3
    have g11_4 := congrFun hG 4
    clear hG
    try simp -implicitDefEqProofs (disch := first | omega | decide) only [seval, -Int.reducePow, -Nat.reducePow, cC, pv, binv, sRLay1, undef, g9, g10] at g11_1 g11_3 g11_4
    have g11 := And.intro g11_1 (And.intro g11_3 g11_4)
    refine cv_seq_k fun K hK => ?_
    refine cv_seq_k fun K hK => ?_
    refine cv_cut (fun _ _ => True) (fun F' L' => F' 1 = G11 1 ∧ F' 3 = G11 3 ∧ F' 4 = G11 4 ∧ F' 58 = .bool (decide (x.kind < 1 ∨ 6 < x.kind)) ∧ L' = [fBox b4 x, tBox b len (some ⟨b0, off, none⟩) n c]) ?_ ?_
    · refine cv_region_then rfl ?_
      simp -implicitDefEqProofs (disch := first | omega | decide) only [seval, -Int.reducePow, -Nat.reducePow, cC, pv, binv, sRLay1, undef, g9, g10, g11]
      repeat' ((first | refine vcg_cases (fun hg => ?_) (fun hg => ?_) | refine vdg_cases (fun hg => ?_) (fun hg => ?_)) <;> ((try simp only [Bool.not_eq_true', Bool.not_eq_false', decide_eq_true_eq, decide_eq_false_iff_not] at hg); (try simp -implicitDefEqProofs (disch := first | omega | decide) only [seval, -Int.reducePow, -Nat.reducePow, cC, pv, binv, sRLay1, undef, hg, g9, g10, g11])))
      all_goals (repeat' refine And.intro ?_ ?_)
      all_goals (first | with_reducible rfl | (refine congrArg Value.bool ?_; rw [Bool.eq_iff_iff]; (try simp only [decide_eq_true_eq, eq_self, true_and, and_true, false_and, and_false, true_or, or_true, false_or, or_false, not_true_eq_false, not_false_eq_true, true_iff, iff_true, false_iff, iff_false, Bool.false_eq_true, Bool.not_eq_true', Bool.not_eq_true, decide_eq_false_iff_not, Bool.and_eq_true, Bool.or_eq_true]) <;> omega) | (refine congrArg (Value.int _) ?_; omega) | omega)
    intro G12 L' _ hF
    obtain ⟨q1, q3, q4, q58, rfl⟩ := hF
    have g12_1 := q1.trans g11_1
    have g12_3 := q3.trans g11_3
    have g12_4 := q4.trans g11_4
    have g12_58 := q58
    clear q1 q3 q4 q58
    have g12 := And.intro g12_1 (And.intro g12_3 (And.intro g12_4 g12_58))
    refine hK _ _ ?_
    clear hK K
    refine cv_cond ?_
    simp -implicitDefEqProofs (disch := first | omega | decide) only [seval, -Int.reducePow, -Nat.reducePow, cC, pv, binv, sRLay1, undef, g9, g10, g12]
    refine ⟨fun hc => ?_, fun hc => ?_⟩
    · have r1 := of_decide_eq_true ‹_›
      have hx8 : x.err = 8 := by unfold Fd.err; rw [if_pos r1]
      rw [firstErr_no _ (by omega)] at hf
      refine cv_seq_k fun K hK => ?_
      refine cv_region_then rfl ?_
      simp -implicitDefEqProofs (disch := first | omega | decide) only [seval, -Int.reducePow, -Nat.reducePow, cC, pv, binv, sRLay1, undef, g9, g10, g12]
      refine hK _ _ ?_
      clear hK K
      refine cv_ret ⟨_, (by simp -implicitDefEqProofs (disch := first | omega | decide) only [seval, -Int.reducePow, -Nat.reducePow, cC, pv, binv, sRLay1, undef, g9, g10, g12]; rfl), fun w hw => ?_⟩
      exact ⟨by unfold chk; rw [if_neg q1, if_neg q2, if_neg q3, if_neg q4, if_pos (by omega), hf, hx8], hw.below⟩
    have r1 := of_decide_eq_false ‹_›
    refine cv_skip ?_
    try simp only [blockQ, thenQ]
    refine hK _ _ ?_
    clear hK K
    refine cv_seq_k fun K hK => ?_
    refine cv_seq_k fun K hK => ?_
    refine cv_cut (fun _ _ => True) (fun F' L' => F' 1 = G12 1 ∧ F' 3 = G12 3 ∧ F' 4 = G12 4 ∧ F' 76 = .bool (decide ((x.kind = 6 ∧ x.count < 1) ∨ (¬ x.kind = 6 ∧ ¬ x.count = 0))) ∧ L' = [fBox b4 x, tBox b len (some ⟨b0, off, none⟩) n c]) ?_ ?_
    · refine cv_region_then rfl ?_
      simp -implicitDefEqProofs (disch := first | omega | decide) only [seval, -Int.reducePow, -Nat.reducePow, cC, pv, binv, sRLay1, undef, g9, g10, g12]
      repeat' ((first | refine vcg_cases (fun hg => ?_) (fun hg => ?_) | refine vdg_cases (fun hg => ?_) (fun hg => ?_)) <;> ((try simp only [Bool.not_eq_true', Bool.not_eq_false', decide_eq_true_eq, decide_eq_false_iff_not] at hg); (try simp -implicitDefEqProofs (disch := first | omega | decide) only [seval, -Int.reducePow, -Nat.reducePow, cC, pv, binv, sRLay1, undef, hg, g9, g10, g12])))
      all_goals (repeat' refine And.intro ?_ ?_)
      all_goals (first | with_reducible rfl | (refine congrArg Value.bool ?_; rw [Bool.eq_iff_iff]; (try simp only [decide_eq_true_eq, eq_self, true_and, and_true, false_and, and_false, true_or, or_true, false_or, or_false, not_true_eq_false, not_false_eq_true, true_iff, iff_true, false_iff, iff_false, Bool.false_eq_true, Bool.not_eq_true', Bool.not_eq_true, decide_eq_false_iff_not, Bool.and_eq_true, Bool.or_eq_true]) <;> omega) | (refine congrArg (Value.int _) ?_; omega) | omega)
    intro G13 L' _ hF
    obtain ⟨q1, q3, q4, q76, rfl⟩ := hF
    have g13_1 := q1.trans g12_1
    have g13_3 := q3.trans g12_3
    have g13_4 := q4.trans g12_4
    have g13_76 := q76
    clear q1 q3 q4 q76
    have g13 := And.intro g13_1 (And.intro g13_3 (And.intro g13_4 g13_76))
    refine hK _ _ ?_
    clear hK K
    refine cv_cond ?_
    simp -implicitDefEqProofs (disch := first | omega | decide) only [seval, -Int.reducePow, -Nat.reducePow, cC, pv, binv, sRLay1, undef, g9, g10, g13]
    refine ⟨fun hc => ?_, fun hc => ?_⟩
    · have r2 := of_decide_eq_true ‹_›
      have hx8 : x.err = 3 := by unfold Fd.err; rw [if_neg r1, if_pos r2]
      rw [firstErr_no _ (by omega)] at hf
      refine cv_seq_k fun K hK => ?_
      refine cv_region_then rfl ?_
      simp -implicitDefEqProofs (disch := first | omega | decide) only [seval, -Int.reducePow, -Nat.reducePow, cC, pv, binv, sRLay1, undef, g9, g10, g13]
      refine hK _ _ ?_
      clear hK K
      refine cv_ret ⟨_, (by simp -implicitDefEqProofs (disch := first | omega | decide) only [seval, -Int.reducePow, -Nat.reducePow, cC, pv, binv, sRLay1, undef, g9, g10, g13]; rfl), fun w hw => ?_⟩
      exact ⟨by unfold chk; rw [if_neg q1, if_neg q2, if_neg q3, if_neg q4, if_pos (by omega), hf, hx8], hw.below⟩
    have r2 := of_decide_eq_false ‹_›
    refine cv_skip ?_
    try simp only [blockQ, thenQ]
    refine hK _ _ ?_
    clear hK K
    refine cv_seq_k fun K hK => ?_
    refine cv_region_then rfl ?_
    simp -implicitDefEqProofs (disch := first | omega | decide) only [seval, -Int.reducePow, -Nat.reducePow, cC, pv, binv, sRLay1, undef, g9, g10, g13]
    refine hK _ _ ?_
    clear hK K
    refine cv_cond ?_
    simp -implicitDefEqProofs (disch := first | omega | decide) only [seval, -Int.reducePow, -Nat.reducePow, cC, pv, binv, sRLay1, undef, g9, g10, g13]
    refine ⟨fun hc => ?_, fun hc => ?_⟩
    · have r3 := of_decide_eq_true ‹_›
      have hx8 : x.err = 4 := by unfold Fd.err; rw [if_neg r1, if_neg r2, if_pos r3]
      rw [firstErr_no _ (by omega)] at hf
      refine cv_seq_k fun K hK => ?_
      refine cv_region_then rfl ?_
      simp -implicitDefEqProofs (disch := first | omega | decide) only [seval, -Int.reducePow, -Nat.reducePow, cC, pv, binv, sRLay1, undef, g9, g10, g13]
      refine hK _ _ ?_
      clear hK K
      refine cv_ret ⟨_, (by simp -implicitDefEqProofs (disch := first | omega | decide) only [seval, -Int.reducePow, -Nat.reducePow, cC, pv, binv, sRLay1, undef, g9, g10, g13]; rfl), fun w hw => ?_⟩
      exact ⟨by unfold chk; rw [if_neg q1, if_neg q2, if_neg q3, if_neg q4, if_pos (by omega), hf, hx8], hw.below⟩
    have r3 := of_decide_eq_false ‹_›
    have hx8 : x.err = 0 := by unfold Fd.err; rw [if_neg r1, if_neg r2, if_neg r3]
    rw [firstErr_yes _ (by omega)] at hf
    refine cv_skip ?_
    try simp only [blockQ, thenQ]
    refine hK _ _ ?_
    clear hK K
    refine cv_pick [1] (by decide) ?_
    simp only [pickL, nth]
    refine cv_region_then rfl ?_
    simp -implicitDefEqProofs (disch := first | omega | decide) only [seval, -Int.reducePow, -Nat.reducePow, cC, pv, binv, sRLay1, undef, wrap_in, g9, g10, g13]
    refine ⟨⟨k + 1, ?_⟩, ?_⟩
    · simp -implicitDefEqProofs (disch := first | omega | decide) only [seval, -Int.reducePow, -Nat.reducePow, cC, pv, binv, sRLay1, undef, Int.natCast_add, g9, g10, g13]
      exact ⟨by omega, hf⟩
    · simp only [intOf]; omega
  refine cv_exit ?_
  simp only [blockQ, thenQ, if_true, ite_true]
  clear hK K
  refine hK _ _ ?_
  clear hK K
  obtain rfl : n = k := by have := of_decide_eq_false ‹_›; omega
  rw [List.drop_of_length_le (by omega)] at hf
  have hok := firstErr_zero hf
  have q5 : ¬ ¬ firstErr fs = 0 := by rw [hf]; simp [firstErr]
  refine cv_seq_k fun K hK => ?_
  refine cv_seq_k fun K hK => ?_
  refine cv_region_then rfl ?_
  simp -implicitDefEqProofs (disch := first | omega | decide) only [seval, -Int.reducePow, -Nat.reducePow, cC, pv, binv, sRLay1, undef, g9, g10]
  refine hK _ _ ?_
  clear hK K
  refine cv_cond ?_
  simp -implicitDefEqProofs (disch := first | omega | decide) only [seval, -Int.reducePow, -Nat.reducePow, cC, pv, binv, sRLay1, undef, g9, g10]
  refine ⟨fun hc => ?_, fun hc => ?_⟩
  · have hl : 0 < len := of_decide_eq_true ‹_›
    obtain rfl : n = 1 := by omega
    obtain ⟨b0, off, rfl, hb0, -⟩ := hE.cells (by omega)
    obtain ⟨x, hx⟩ := some_of (l := fs) (i := 0) (by omega)
    have hhd : fs.headD ⟨0, 0⟩ = x := by
      cases fs with
      | nil => simp at hx
      | cons y r => simpa using hx
    have hxe := hok x (List.mem_of_getElem? hx)
    have hxw := Fd.wid_rng hxe
    have hm := mul_small (show 0 ≤ len by omega) (show len ≤ 65536 by omega) (show 0 ≤ x.wid by omega) hxw.2
    have hst : sizeT len fs = x.wid * len := by unfold sizeT; rw [if_pos hl, hhd, Int.mul_comm]
    rw [Int.mul_comm] at hm
    have hx0 := hE.fld (L := [tBox b len (some ⟨b0, off, none⟩) 1 c]) hx
    simp only [Nat.zero_mul, Nat.add_zero, tBox] at hx0
    refine cv_seq_k fun K hK => ?_
    refine cv_region_then rfl ?_
    simp -implicitDefEqProofs (disch := first | omega | decide) only [seval, -Int.reducePow, -Nat.reducePow, cC, pv, binv, sRLay1, undef, Nat.zero_mul, g9, g10]
    refine ⟨_, hx0, fun tok htok => ?_⟩
    subst htok
    simp -implicitDefEqProofs (disch := first | omega | decide) only [seval, -Int.reducePow, -Nat.reducePow, cC, pv, binv, sRLay1, undef, Nat.zero_mul, g9, g10]
    refine callV_ret (fun w hw => rwidth_any x w hxe) ?_
    try simp -implicitDefEqProofs (disch := first | omega | decide) only [seval, -Int.reducePow, -Nat.reducePow, cC, pv, binv, sRLay1, undef, g9, g10]
    refine hK _ _ ?_
    clear hK K
    refine cv_seq_k fun K hK => ?_
    refine cv_seq_k fun K hK => ?_
    refine cv_region_then rfl ?_
    simp -implicitDefEqProofs (disch := first | omega | decide) only [seval, -Int.reducePow, -Nat.reducePow, cC, pv, binv, sRLay1, undef, wrap_in, g9, g10]
    refine hK _ _ ?_
    clear hK K
    refine cv_cond ?_
    simp -implicitDefEqProofs (disch := first | omega | decide) only [seval, -Int.reducePow, -Nat.reducePow, cC, pv, binv, sRLay1, undef, g9, g10]
    refine ⟨fun hc => ?_, fun hc => ?_⟩
    · refine cv_seq_k fun K hK => ?_
      refine cv_region_then rfl ?_
      simp -implicitDefEqProofs (disch := first | omega | decide) only [seval, -Int.reducePow, -Nat.reducePow, cC, pv, binv, sRLay1, undef, g9, g10]
      refine hK _ _ ?_
      clear hK K
      refine cv_ret ⟨_, (by simp -implicitDefEqProofs (disch := first | omega | decide) only [seval, -Int.reducePow, -Nat.reducePow, cC, pv, binv, sRLay1, undef, g9, g10]; rfl), fun w hw => ?_⟩
      exact ⟨by unfold chk; rw [if_neg q1, if_neg q2, if_neg q3, if_neg q4, if_neg q5, if_pos (by rw [hst]; exact of_decide_eq_true ‹_›)], hw.below⟩
    refine cv_skip ?_
    try simp only [blockQ, thenQ]
    refine hK _ _ ?_
    clear hK K
    refine cv_seq_k fun K hK => ?_
    refine cv_region_then rfl ?_
    simp -implicitDefEqProofs (disch := first | omega | decide) only [seval, -Int.reducePow, -Nat.reducePow, cC, pv, binv, sRLay1, undef, g9, g10]
    refine hK _ _ ?_
    clear hK K
    refine cv_ret ⟨_, (by simp -implicitDefEqProofs (disch := first | omega | decide) only [seval, -Int.reducePow, -Nat.reducePow, cC, pv, binv, sRLay1, undef, g9, g10]; rfl), fun w hw => ?_⟩
    exact ⟨by unfold chk; rw [if_neg q1, if_neg q2, if_neg q3, if_neg q4, if_neg q5, if_neg (by rw [hst]; exact of_decide_eq_false ‹_›)], hw.below⟩
  have hl : ¬ 0 < len := of_decide_eq_false ‹_›
  obtain rfl : len = 0 := by omega
  have hst : sizeT 0 fs = sizeF fs := by unfold sizeT; rw [if_neg hl]
  refine cv_skip ?_
  try simp only [blockQ, thenQ]
  refine hK _ _ ?_
  clear hK K
  refine cv_seq_k fun K hK => ?_
  refine cv_region_then rfl ?_
  simp -implicitDefEqProofs (disch := first | omega | decide) only [seval, -Int.reducePow, -Nat.reducePow, cC, pv, binv, sRLay1, undef, g9, g10]
  refine callV_ex (fun v => .tuple #[v, .int .i64 (sizeF fs)]) (fun _ => True) (fun w hw => rplaces_any A n c fs w (hE.at hw) (by omega) hok) ?_
  intro v _
  simp -implicitDefEqProofs (disch := first | omega | decide) only [seval, -Int.reducePow, -Nat.reducePow, cC, pv, binv, sRLay1, undef, g9, g10]
  refine hK _ _ ?_
  clear hK K
  refine cv_seq_k fun K hK => ?_
  refine cv_seq_k fun K hK => ?_
  refine cv_region_then rfl ?_
  simp -implicitDefEqProofs (disch := first | omega | decide) only [seval, -Int.reducePow, -Nat.reducePow, cC, pv, binv, sRLay1, undef, g9, g10]
  refine hK _ _ ?_
  clear hK K
  refine cv_cond ?_
  simp -implicitDefEqProofs (disch := first | omega | decide) only [seval, -Int.reducePow, -Nat.reducePow, cC, pv, binv, sRLay1, undef, g9, g10]
  refine ⟨fun hc => ?_, fun hc => ?_⟩
  · refine cv_seq_k fun K hK => ?_
    refine cv_region_then rfl ?_
    simp -implicitDefEqProofs (disch := first | omega | decide) only [seval, -Int.reducePow, -Nat.reducePow, cC, pv, binv, sRLay1, undef, g9, g10]
    refine hK _ _ ?_
    clear hK K
    refine cv_ret ⟨_, (by simp -implicitDefEqProofs (disch := first | omega | decide) only [seval, -Int.reducePow, -Nat.reducePow, cC, pv, binv, sRLay1, undef, g9, g10]; rfl), fun w hw => ?_⟩
    exact ⟨by unfold chk; rw [if_neg q1, if_neg q2, if_neg q3, if_neg q4, if_neg q5, if_pos (by rw [hst]; exact of_decide_eq_true ‹_›)], hw.below⟩
  refine cv_skip ?_
  try simp only [blockQ, thenQ]
  refine hK _ _ ?_
  clear hK K
  refine cv_seq_k fun K hK => ?_
  refine cv_region_then rfl ?_
  simp -implicitDefEqProofs (disch := first | omega | decide) only [seval, -Int.reducePow, -Nat.reducePow, cC, pv, binv, sRLay1, undef, g9, g10]
  refine hK _ _ ?_
  clear hK K
  refine cv_ret ⟨_, (by simp -implicitDefEqProofs (disch := first | omega | decide) only [seval, -Int.reducePow, -Nat.reducePow, cC, pv, binv, sRLay1, undef, g9, g10]; rfl), fun w hw => ?_⟩
  exact ⟨by unfold chk; rw [if_neg q1, if_neg q2, if_neg q3, if_neg q4, if_neg q5, if_neg (by rw [hst]; exact of_decide_eq_false ‹_›)], hw.below⟩
end Go.Proofs.Ytlbmnioibiomfaa
