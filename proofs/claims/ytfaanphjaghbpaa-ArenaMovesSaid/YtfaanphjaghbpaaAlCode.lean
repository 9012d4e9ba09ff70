/- The allocator's code that only reads. -/
import Derived.Test.YtfaanphjaghbpaaAlPlain
import Derived.Test.YtfaanphjaghbpaaSzFind2
import Derived.Test.YtfaanphjaghbpaaSl
import Derived.Test.YtfaanphjaghbpaaFRem
namespace Go.Proofs.Ytfaanphjaghbpaa
open Go.RowKit Go.Shelf
set_option linter.unusedVariables false
set_option linter.unusedSimpArgs false
set_option maxRecDepth 100000
/-- An allocator's memory. -/
structure AlR where
  bA : Nat
  bm : Nat
  FA : Option Addr
  fn : Nat
  fc : Nat
  fr : List Ext
  tk : List (Int × Int)
structure AlW (w : World) (B : Nat) (x : AlR) : Prop where
  blk : Sl w B 1 (some ⟨x.bA, 0, none⟩) 2 2 [.slice x.FA x.fn x.fc, .map (some x.bm)]
  map : x.bm < B ∧ MpH w x.bm x.tk
  fr : Exts w B x.FA x.fn x.fc x.fr
  len : x.fr.length ≤ 500
section
variable {W w : World} {L : List Res} {x : AlR}
theorem AlW.at (h : AlW W W.heap.size x) (hw : St [] W L w) : AlW w w.heap.size x :=
  ⟨h.blk.at hw, ⟨Nat.lt_of_lt_of_le h.map.1 hw.pres.size, h.map.2.same (hw.base h.map.1 (by simp))⟩, h.fr.at hw, h.len⟩
end
theorem AlW.lt {w : World} {B : Nat} {x : AlR} (h : AlW w B x) : x.bA < B := by
  obtain ⟨b', o', e, hb, -⟩ := h.blk.cells (by omega)
  cases e
  exact hb
theorem ev_agg (e : Ext) : exV e = .agg #[.int .i64 e.off, .int .i64 e.len] := rfl
set_option maxRecDepth 100000 in
theorem sAlCode1 : type_of% (And.intro (And.intro @eBox.eq_1 @exV.eq_1) (And.intro @Nat.mul_one (And.intro @wrap_in @cMp))) := (And.intro (And.intro @eBox.eq_1 @exV.eq_1) (And.intro @Nat.mul_one (And.intro @wrap_in @cMp)))
set_option maxHeartbeats 2000000 in
theorem afind_any (x : AlR) (n : Int) (W : World) (h : AlW W W.heap.size x) : Calls Try.prog 54 #[.pointer (some ⟨x.bA, 0, none⟩), .int .i64 n] W
    fun e w' => e = .returned (.tuple #[exV (Ex.findF x.fr n).1, .int .i64 (Ex.findF x.fr n).2]) ∧ Below W.heap.size W w' := by
  have hbA := h.lt
  obtain ⟨bA, bm, FA, fn, fc, fr, tk⟩ := x
  have hE := h.fr
  have hl := hE.len
  have h500 := h.len
  obtain ⟨S, hS⟩ : ∃ S, Sz.rnd n = S := ⟨_, rfl⟩
  obtain ⟨e0, he⟩ : ∃ e0, Sz.err n = e0 := ⟨_, rfl⟩
  have hF : Ex.findF fr n = if e0 = 0 then (if (Ex.best S fr).len = 0 then (⟨0, 0⟩, 18) else (⟨(Ex.best S fr).off, S⟩, 0)) else (⟨0, 0⟩, e0) := by rw [← hS, ← he]; rfl
  dsimp only at *
  refine calls_cv2 (M := []) (n := 58) [.cell 4 28, .tmp 5] rfl Try.func54 rfl rfl (Nat.le_of_ble_eq_true rfl) (St.nil _ _) ?_
  refine cv_seq_k fun K hK => ?_
  refine cv_region_then rfl ?_
  simp -implicitDefEqProofs (disch := first | omega | decide) only [seval, -Int.reducePow, -Nat.reducePow, cC, pv, binv, sAlCode1, undef]
  intro b4 hb4
  refine hK _ _ ?_
  clear hK K
  refine cv_seq_k fun K hK => ?_
  refine cv_region_then rfl ?_
  simp -implicitDefEqProofs (disch := first | omega | decide) only [seval, -Int.reducePow, -Nat.reducePow, cC, pv, binv, sAlCode1, undef]
  refine callV_ret (fun w hw => round_any n w) ?_
  try simp -implicitDefEqProofs (disch := first | omega | decide) only [seval, -Int.reducePow, -Nat.reducePow, cC, pv, binv, sAlCode1, undef, hS, he]
  refine hK _ _ ?_
  clear hK K
  refine cv_seq_k fun K hK => ?_
  refine cv_seq_k fun K hK => ?_
  refine cv_region_then rfl ?_
  simp -implicitDefEqProofs (disch := first | omega | decide) only [seval, -Int.reducePow, -Nat.reducePow, cC, pv, binv, sAlCode1, undef]
  refine hK _ _ ?_
  clear hK K
  refine cv_cond ?_
  simp -implicitDefEqProofs (disch := first | omega | decide) only [seval, -Int.reducePow, -Nat.reducePow, cC, pv, binv, sAlCode1, undef]
  refine ⟨fun hc => ?_, fun hc => ?_⟩
  · have hz : ¬ e0 = 0 := nd_true ‹(!decide (e0 = 0)) = true›
    refine cv_seq_k fun K hK => ?_
    refine cv_region_then rfl ?_
    simp -implicitDefEqProofs (disch := first | omega | decide) only [seval, -Int.reducePow, -Nat.reducePow, cC, pv, binv, sAlCode1, undef]
    refine hK _ _ ?_
    clear hK K
    refine cv_ret ?_
    simp -implicitDefEqProofs (disch := first | omega | decide) only [seval, -Int.reducePow, -Nat.reducePow, cC, pv, binv, sAlCode1, undef, retQ2, ressV, packV]
    intro w hw
    rw [hF, if_neg hz]
    exact ⟨rfl, hw.below⟩
  have hz : e0 = 0 := Decidable.not_not.1 (nd_false ‹(!decide (e0 = 0)) = false›)
  rw [if_pos hz] at hF
  refine cv_skip ?_
  try simp only [blockQ, thenQ]
  refine hK _ _ ?_
  clear hK K
  refine cv_seq_k fun K hK => ?_
  refine cv_region_then rfl ?_
  simp -implicitDefEqProofs (disch := first | omega | decide) only [seval, -Int.reducePow, -Nat.reducePow, cC, pv, binv, sAlCode1, undef]
  intro b8 hb8 hf8
  refine hK _ _ ?_
  clear hK K
  refine cv_gen fun G1 hG => ?_
  have g1_0 := congrFun hG 0
  have g1_4 := congrFun hG 4
  have g1_6 := congrFun hG 6
  have g1_8 := congrFun hG 8
  clear hG
  try simp -implicitDefEqProofs (disch := first | omega | decide) only [seval, -Int.reducePow, -Nat.reducePow, cC, pv, binv, sAlCode1, undef] at g1_0 g1_4 g1_6 g1_8
  have g1 := And.intro g1_0 (And.intro g1_4 (And.intro g1_6 g1_8))
  refine cv_seq_k fun K hK => ?_
  refine cv_cut (fun _ _ => True) (fun F' L' => F' 4 = G1 4 ∧ F' 6 = G1 6 ∧ F' 8 = G1 8 ∧ L' = [eBox b8 (Ex.best S fr), eBox b4 ⟨0, 0⟩]) ?_ ?_
  · refine cv_seq_k fun K hK => ?_
    refine cv_region_then rfl ?_
    simp -implicitDefEqProofs (disch := first | omega | decide) only [seval, -Int.reducePow, -Nat.reducePow, cC, pv, binv, sAlCode1, undef, g1]
    refine hK _ _ ?_
    clear hK K
    refine cv_cond ?_
    simp -implicitDefEqProofs (disch := first | omega | decide) only [seval, -Int.reducePow, -Nat.reducePow, cC, pv, binv, sAlCode1, undef, g1]
    refine cv_seq_k fun K hK => ?_
    refine cv_region_then rfl ?_
    simp -implicitDefEqProofs (disch := first | omega | decide) only [seval, -Int.reducePow, -Nat.reducePow, cC, pv, binv, sAlCode1, undef, g1]
    refine ⟨_, h.blk.ld1 (m := 1) (i := 0) (by kernel_rfl) rfl, fun tok htok => ?_⟩
    subst htok
    simp -implicitDefEqProofs (disch := first | omega | decide) only [seval, -Int.reducePow, -Nat.reducePow, cC, pv, binv, sAlCode1, undef, g1]
    refine hK _ _ ?_
    clear hK K
    refine cv_gen fun G2 hG => ?_
    have g2_4 := congrFun hG 4
    have g2_6 := congrFun hG 6
    have g2_8 := congrFun hG 8
    have g2_26 := congrFun hG 26
    have g2_27 := congrFun hG 27
    have g2_28 := congrFun hG 28
    clear hG
    try simp -implicitDefEqProofs (disch := first | omega | decide) only [seval, -Int.reducePow, -Nat.reducePow, cC, pv, binv, sAlCode1, undef, g1] at g2_4 g2_6 g2_8 g2_26 g2_27 g2_28
    have g2 := And.intro g2_4 (And.intro g2_6 (And.intro g2_8 (And.intro g2_26 (And.intro g2_27 g2_28))))
    refine cv_block ?_
    refine cv_loop (fun F' L' => ∃ (i : Nat) (b : Ext), F' 4 = G2 4 ∧ F' 6 = G2 6 ∧ F' 8 = G2 8 ∧ F' 26 = G2 26 ∧ F' 27 = G2 27 ∧ F' 28 = .int .i64 (i : Int) ∧ L' = [eBox b8 b, eBox b4 ⟨0, 0⟩] ∧ i ≤ fn ∧ b = Ex.best S (fr.take i)) (fun F' L' => 600 - (intOf (F' 28)).toNat) ?_ ?_
    · refine ⟨0, ⟨0, 0⟩, ?_⟩
      simp -implicitDefEqProofs (disch := first | omega | decide) only [seval, -Int.reducePow, -Nat.reducePow, cC, pv, binv, sAlCode1, undef, g1, g2]
      exact ⟨by omega, rfl⟩
    intro G3 L' hI
    obtain ⟨i, b, q4, q6, q8, q26, q27, q28, rfl, ⟨hi, hb⟩⟩ := hI
    have g3_4 := q4.trans g2_4
    have g3_6 := q6.trans g2_6
    have g3_8 := q8.trans g2_8
    have g3_26 := q26.trans g2_26
    have g3_27 := q27.trans g2_27
    have g3_28 := q28
    clear q4 q6 q8 q26 q27 q28
    have g3 := And.intro g3_4 (And.intro g3_6 (And.intro g3_8 (And.intro g3_26 (And.intro g3_27 g3_28))))
    refine cv_seq_k fun K hK => ?_
    refine cv_region_then rfl ?_
    simp -implicitDefEqProofs (disch := first | omega | decide) only [seval, -Int.reducePow, -Nat.reducePow, cC, pv, binv, sAlCode1, undef, g1, g2, g3]
    refine hK _ _ ?_
    clear hK K
    refine cv_seq_k fun K hK => ?_
    refine cv_cond ?_
    simp -implicitDefEqProofs (disch := first | omega | decide) only [seval, -Int.reducePow, -Nat.reducePow, cC, pv, binv, sAlCode1, undef, g1, g2, g3]
    refine ⟨fun hc => ?_, fun hc => ?_⟩
    · refine cv_skip ?_
      try simp only [blockQ, thenQ]
      have hit : i < fn := by have := of_decide_eq_true ‹decide ((i : Int) < (fn : Int)) = true›; omega
      obtain ⟨bF, oF, rfl, hbF, -⟩ := hE.cells (by omega)
      obtain ⟨x, hx⟩ : ∃ x, Ex.get fr i = x := ⟨_, rfl⟩
      have hbt := Ex.best_take (size := S) (fr := fr) (i := i) (by omega)
      rw [hx, ← hb] at hbt
      refine hK _ _ ?_
      clear hK K
      refine cv_seq_k fun K hK => ?_
      refine cv_block ?_
      refine cv_seq_k fun K hK => ?_
      refine cv_region_then rfl ?_
      simp -implicitDefEqProofs (disch := first | omega | decide) only [seval, -Int.reducePow, -Nat.reducePow, cC, pv, binv, sAlCode1, undef, g1, g2, g3]
      refine ⟨_, hE.ld hit, fun tok htok => ?_⟩
      subst htok
      simp -implicitDefEqProofs (disch := first | omega | decide) only [seval, -Int.reducePow, -Nat.reducePow, cC, pv, binv, sAlCode1, undef, hx, g1, g2, g3]
      intro b10 hb10 hf10
      refine hK _ _ ?_
      clear hK K
      refine cv_gen fun G4 hG => ?_
      have g4_4 := congrFun hG 4
      have g4_6 := congrFun hG 6
      have g4_8 := congrFun hG 8
      have g4_10 := congrFun hG 10
      have g4_26 := congrFun hG 26
      have g4_27 := congrFun hG 27
      have g4_28 := congrFun hG 28
      clear hG
      try simp -implicitDefEqProofs (disch := first | omega | decide) only [seval, -Int.reducePow, -Nat.reducePow, cC, pv, binv, sAlCode1, undef, g1, g2, g3] at g4_4 g4_6 g4_8 g4_10 g4_26 g4_27 g4_28
      have g4 := And.intro g4_4 (And.intro g4_6 (And.intro g4_8 (And.intro g4_10 (And.intro g4_26 (And.intro g4_27 g4_28)))))
      refine cv_seq_k fun K hK => ?_
      refine cv_cut (fun _ _ => True) (fun F' L' => F' 4 = G4 4 ∧ F' 6 = G4 6 ∧ F' 8 = G4 8 ∧ F' 10 = G4 10 ∧ F' 26 = G4 26 ∧ F' 27 = G4 27 ∧ F' 28 = G4 28 ∧ F' 47 = .bool (decide (S ≤ x.len ∧ (b.len = 0 ∨ x.len < b.len))) ∧ L' = [eBox b10 x, eBox b8 b, eBox b4 ⟨0, 0⟩]) ?_ ?_
      · refine cv_region_then rfl ?_
        simp -implicitDefEqProofs (disch := first | omega | decide) only [seval, -Int.reducePow, -Nat.reducePow, cC, pv, binv, sAlCode1, undef, g1, g2, g3, g4]
        repeat' ((first | refine vcg_cases (fun hg => ?_) (fun hg => ?_) | refine vdg_cases (fun hg => ?_) (fun hg => ?_)) <;> ((try simp only [Bool.not_eq_true', Bool.not_eq_false', decide_eq_true_eq, decide_eq_false_iff_not] at hg); (try simp -implicitDefEqProofs (disch := first | omega | decide) only [seval, -Int.reducePow, -Nat.reducePow, cC, pv, binv, sAlCode1, undef, hg, g1, g2, g3, g4])))
        all_goals (repeat' refine And.intro ?_ ?_)
        all_goals (first | with_reducible rfl | (refine congrArg Value.bool ?_; rw [Bool.eq_iff_iff]; (try simp only [decide_eq_true_eq, eq_self, true_and, and_true, false_and, and_false, true_or, or_true, false_or, or_false, not_true_eq_false, not_false_eq_true, true_iff, iff_true, false_iff, iff_false, Bool.false_eq_true, Bool.not_eq_true', Bool.not_eq_true, decide_eq_false_iff_not, Bool.and_eq_true, Bool.or_eq_true]) <;> omega) | (refine congrArg (Value.int _) ?_; omega) | omega)
      intro G5 L' _ hF
      obtain ⟨q4, q6, q8, q10, q26, q27, q28, q47, rfl⟩ := hF
      have g5_4 := q4.trans g4_4
      have g5_6 := q6.trans g4_6
      have g5_8 := q8.trans g4_8
      have g5_10 := q10.trans g4_10
      have g5_26 := q26.trans g4_26
      have g5_27 := q27.trans g4_27
      have g5_28 := q28.trans g4_28
      have g5_47 := q47
      clear q4 q6 q8 q10 q26 q27 q28 q47
      have g5 := And.intro g5_4 (And.intro g5_6 (And.intro g5_8 (And.intro g5_10 (And.intro g5_26 (And.intro g5_27 (And.intro g5_28 g5_47))))))
      refine hK _ _ ?_
      clear hK K
      refine cv_cond ?_
      simp -implicitDefEqProofs (disch := first | omega | decide) only [seval, -Int.reducePow, -Nat.reducePow, cC, pv, binv, sAlCode1, undef, g1, g2, g3, g5]
      refine ⟨fun hc => ?_, fun hc => ?_⟩
      · have q1 := of_decide_eq_true hc
        have hs : Ex.bstep S b x = x := if_pos q1
        rw [hs] at hbt
        refine cv_region_q rfl ?_
        simp -implicitDefEqProofs (disch := first | omega | decide) only [seval, -Int.reducePow, -Nat.reducePow, cC, pv, binv, sAlCode1, undef, g1, g2, g3, g5]
        refine hK _ _ ?_
        clear hK K
        refine cv_pick [1, 2] (by decide) ?_
        simp only [pickL, nth]
        refine cv_region_then rfl ?_
        simp -implicitDefEqProofs (disch := first | omega | decide) only [seval, -Int.reducePow, -Nat.reducePow, cC, pv, binv, sAlCode1, undef, wrap_in, g1, g2, g3, g5]
        refine ⟨⟨i + 1, x, ?_⟩, ?_⟩
        · simp -implicitDefEqProofs (disch := first | omega | decide) only [seval, -Int.reducePow, -Nat.reducePow, cC, pv, binv, sAlCode1, undef, Int.natCast_add, g1, g2, g3, g5]
          exact ⟨by omega, hbt.symm⟩
        · simp only [intOf]; omega
      · have q1 := of_decide_eq_false hc
        have hs : Ex.bstep S b x = b := if_neg q1
        rw [hs] at hbt
        refine cv_skip ?_
        try simp only [blockQ, thenQ]
        refine hK _ _ ?_
        clear hK K
        refine cv_pick [1, 2] (by decide) ?_
        simp only [pickL, nth]
        refine cv_region_then rfl ?_
        simp -implicitDefEqProofs (disch := first | omega | decide) only [seval, -Int.reducePow, -Nat.reducePow, cC, pv, binv, sAlCode1, undef, wrap_in, g1, g2, g3, g5]
        refine ⟨⟨i + 1, b, ?_⟩, ?_⟩
        · simp -implicitDefEqProofs (disch := first | omega | decide) only [seval, -Int.reducePow, -Nat.reducePow, cC, pv, binv, sAlCode1, undef, Int.natCast_add, g1, g2, g3, g5]
          exact ⟨by omega, hbt.symm⟩
        · simp only [intOf]; omega
    refine cv_exit ?_
    simp only [blockQ, thenQ, if_true, ite_true]
    have hit : ¬ i < fn := by have := of_decide_eq_false ‹decide ((i : Int) < (fn : Int)) = false›; omega
    rw [List.take_of_length_le (by omega)] at hb
    subst hb
    simp -implicitDefEqProofs (disch := first | omega | decide) only [seval, -Int.reducePow, -Nat.reducePow, cC, pv, binv, sAlCode1, undef, g1, g2, g3]
  intro G6 L' _ hF
  obtain ⟨q4, q6, q8, rfl⟩ := hF
  have g6_4 := q4.trans g1_4
  have g6_6 := q6.trans g1_6
  have g6_8 := q8.trans g1_8
  clear q4 q6 q8
  have g6 := And.intro g6_4 (And.intro g6_6 g6_8)
  refine hK _ _ ?_
  clear hK K
  refine cv_seq_k fun K hK => ?_
  refine cv_seq_k fun K hK => ?_
  refine cv_region_then rfl ?_
  simp -implicitDefEqProofs (disch := first | omega | decide) only [seval, -Int.reducePow, -Nat.reducePow, cC, pv, binv, sAlCode1, undef, g6]
  refine hK _ _ ?_
  clear hK K
  refine cv_cond ?_
  simp -implicitDefEqProofs (disch := first | omega | decide) only [seval, -Int.reducePow, -Nat.reducePow, cC, pv, binv, sAlCode1, undef, g6]
  refine ⟨fun hc => ?_, fun hc => ?_⟩
  · have q1 := of_decide_eq_true ‹_›
    refine cv_seq_k fun K hK => ?_
    refine cv_region_then rfl ?_
    simp -implicitDefEqProofs (disch := first | omega | decide) only [seval, -Int.reducePow, -Nat.reducePow, cC, pv, binv, sAlCode1, undef, g6]
    refine hK _ _ ?_
    clear hK K
    refine cv_ret ?_
    simp -implicitDefEqProofs (disch := first | omega | decide) only [seval, -Int.reducePow, -Nat.reducePow, cC, pv, binv, sAlCode1, undef, retQ2, ressV, packV, g6]
    intro w hw
    rw [hF, if_pos q1]
    exact ⟨rfl, hw.below⟩
  have q1 := of_decide_eq_false ‹_›
  refine cv_skip ?_
  try simp only [blockQ, thenQ]
  refine hK _ _ ?_
  clear hK K
  refine cv_seq_k fun K hK => ?_
  refine cv_region_then rfl ?_
  simp -implicitDefEqProofs (disch := first | omega | decide) only [seval, -Int.reducePow, -Nat.reducePow, cC, pv, binv, sAlCode1, undef, g6]
  refine hK _ _ ?_
  clear hK K
  refine cv_ret ?_
  simp -implicitDefEqProofs (disch := first | omega | decide) only [seval, -Int.reducePow, -Nat.reducePow, cC, pv, binv, sAlCode1, undef, retQ2, ressV, packV, g6]
  intro w hw
  rw [hF, if_neg q1]
  exact ⟨rfl, hw.below⟩
theorem Fits_any (x : AlR) (n : Int) (W : World) (h : AlW W W.heap.size x) : Calls Try.prog 50 #[.pointer (some ⟨x.bA, 0, none⟩), .int .i64 n] W
    fun e w' => e = .returned (.int .i64 (Ex.findF x.fr n).2) ∧ Below W.heap.size W w' := by
  refine calls_cv (M := []) (n := 14) [.tmp 4] rfl Try.func50 rfl rfl (Nat.le_of_ble_eq_true rfl) (St.nil _ _) ?_
  refine cv_seq_k fun K hK => ?_
  refine cv_region_then rfl ?_
  simp -implicitDefEqProofs (disch := first | omega | decide) only [seval, -Int.reducePow, -Nat.reducePow, cC, pv, binv, sAlCode1, undef]
  refine hK _ _ ?_
  clear hK K
  refine cv_seq_k fun K hK => ?_
  refine cv_region_then rfl ?_
  simp -implicitDefEqProofs (disch := first | omega | decide) only [seval, -Int.reducePow, -Nat.reducePow, cC, pv, binv, sAlCode1, undef]
  refine callV_ret (fun w hw => afind_any x n w (h.at hw)) ?_
  try simp -implicitDefEqProofs (disch := first | omega | decide) only [seval, -Int.reducePow, -Nat.reducePow, cC, pv, binv, sAlCode1, undef]
  intro b5 hb5
  refine hK _ _ ?_
  clear hK K
  refine cv_seq_k fun K hK => ?_
  refine cv_region_then rfl ?_
  simp -implicitDefEqProofs (disch := first | omega | decide) only [seval, -Int.reducePow, -Nat.reducePow, cC, pv, binv, sAlCode1, undef]
  refine hK _ _ ?_
  clear hK K
  refine cv_ret ⟨_, (by simp -implicitDefEqProofs (disch := first | omega | decide) only [seval, -Int.reducePow, -Nat.reducePow, cC, pv, binv, sAlCode1, undef]; rfl), fun w hw => ?_⟩
  exact ⟨rfl, hw.below⟩
theorem aHas_any (x : AlR) (e : Ext) (W : World) (h : AlW W W.heap.size x) : Calls Try.prog 56 #[.pointer (some ⟨x.bA, 0, none⟩), exV e] W
    fun en w' => en = .returned (.bool (decide (mget x.tk e.off = some e.len))) ∧ Below W.heap.size W w' := by
  have hbA := h.lt
  refine calls_cv (M := []) (n := 26) [.tmp 4] rfl Try.func56 rfl rfl (Nat.le_of_ble_eq_true rfl) (St.nil _ _) ?_
  refine cv_seq_k fun K hK => ?_
  refine cv_region_then rfl ?_
  simp -implicitDefEqProofs (disch := first | omega | decide) only [seval, -Int.reducePow, -Nat.reducePow, cC, pv, binv, sAlCode1, undef]
  intro b3 hb3
  refine hK _ _ ?_
  clear hK K
  refine cv_seq_k fun K hK => ?_
  refine cv_seq_k fun K hK => ?_
  refine cv_region_then rfl ?_
  simp -implicitDefEqProofs (disch := first | omega | decide) only [seval, -Int.reducePow, -Nat.reducePow, cC, pv, binv, sAlCode1, undef]
  refine hK _ _ ?_
  clear hK K
  refine cv_cond ?_
  simp -implicitDefEqProofs (disch := first | omega | decide) only [seval, -Int.reducePow, -Nat.reducePow, cC, pv, binv, sAlCode1, undef]
  refine cv_skip ?_
  try simp only [blockQ, thenQ]
  refine hK _ _ ?_
  clear hK K
  refine cv_seq_k fun K hK => ?_
  refine cv_draw [(true, 0), (true, 1), (true, 2), (true, 3), (true, 4), (true, 5), (false, 6), (true, 7), (true, 8), (true, 9), (true, 10), (true, 11)] [] mixA rfl (by kernel_rfl) (by kernel_rfl) rfl rfl ?_
  simp -implicitDefEqProofs (disch := first | omega | decide) only [seval, -Int.reducePow, -Nat.reducePow, cC, pv, binv, sAlCode1, undef]
  refine ⟨_, h.blk.ld1 (m := 1) (i := 1) (by kernel_rfl) rfl, fun tok htok => ?_⟩
  subst htok
  simp -implicitDefEqProofs (disch := first | omega | decide) only [seval, -Int.reducePow, -Nat.reducePow, cC, pv, binv, sAlCode1, undef]
  refine xv_lookup (b := x.bm) (l := x.tk) (x := e.off) (by kernel_rfl) rfl rfl (fun w hw => h.map.2.same (hw.base h.map.1 (by simp))) ?_
  simp -implicitDefEqProofs (disch := first | omega | decide) only [seval, -Int.reducePow, -Nat.reducePow, cC, pv, binv, sAlCode1, undef]
  refine hK _ _ ?_
  clear hK K
  have hv : ∀ o : Option Int, (if o.isSome then decide (o.getD 0 = e.len) else false) = decide (o = some e.len) := fun o => by cases o <;> simp
  obtain ⟨o, ho⟩ : ∃ o, mget x.tk e.off = o := ⟨_, rfl⟩
  cases o with
  | none =>
    refine cv_seq_k fun K hK => ?_
    refine cv_region_then rfl ?_
    simp -implicitDefEqProofs (disch := first | omega | decide) only [seval, -Int.reducePow, -Nat.reducePow, cC, pv, binv, sAlCode1, undef, ho, Option.isSome_none, Option.getD_none]
    refine hK _ _ ?_
    clear hK K
    refine cv_ret ⟨_, (by simp -implicitDefEqProofs (disch := first | omega | decide) only [seval, -Int.reducePow, -Nat.reducePow, cC, pv, binv, sAlCode1, undef]; rfl), fun w hw => ?_⟩
    rw [ho]
    exact ⟨rfl, hw.below⟩
  | some v =>
    refine cv_seq_k fun K hK => ?_
    refine cv_region_then rfl ?_
    simp -implicitDefEqProofs (disch := first | omega | decide) only [seval, -Int.reducePow, -Nat.reducePow, cC, pv, binv, sAlCode1, undef, ho, Option.isSome_some, Option.getD_some]
    refine hK _ _ ?_
    clear hK K
    refine cv_ret ⟨_, (by simp -implicitDefEqProofs (disch := first | omega | decide) only [seval, -Int.reducePow, -Nat.reducePow, cC, pv, binv, sAlCode1, undef]; rfl), fun w hw => ?_⟩
    rw [ho]
    exact ⟨by simp, hw.below⟩
theorem aFreeList_any (x : AlR) (W : World) (h : AlW W W.heap.size x) : Calls Try.prog 49 #[.pointer (some ⟨x.bA, 0, none⟩)] W
    (rowPost 28 2 (fun v => v) (exCells x.fr) W) := by
  have hbA := h.lt
  have hln := h.fr.len
  have h500 := h.len
  refine calls_cv (M := []) (n := 10) [.tmp 2] rfl Try.func49 rfl rfl (Nat.le_of_ble_eq_true rfl) (St.nil _ _) ?_
  refine cv_seq_k fun K hK => ?_
  refine cv_region_then rfl ?_
  simp -implicitDefEqProofs (disch := first | omega | decide) only [seval, -Int.reducePow, -Nat.reducePow, cC, pv, binv, sAlCode1, undef]
  refine hK _ _ ?_
  clear hK K
  refine cv_seq_k fun K hK => ?_
  refine cv_seq_k fun K hK => ?_
  refine cv_region_then rfl ?_
  simp -implicitDefEqProofs (disch := first | omega | decide) only [seval, -Int.reducePow, -Nat.reducePow, cC, pv, binv, sAlCode1, undef]
  refine hK _ _ ?_
  clear hK K
  refine cv_cond ?_
  simp -implicitDefEqProofs (disch := first | omega | decide) only [seval, -Int.reducePow, -Nat.reducePow, cC, pv, binv, sAlCode1, undef]
  refine cv_skip ?_
  try simp only [blockQ, thenQ]
  refine hK _ _ ?_
  clear hK K
  refine cv_seq_k fun K hK => ?_
  refine cv_region_then rfl ?_
  simp -implicitDefEqProofs (disch := first | omega | decide) only [seval, -Int.reducePow, -Nat.reducePow, cC, pv, binv, sAlCode1, undef]
  refine ⟨_, h.blk.ld1 (m := 1) (i := 0) (by kernel_rfl) rfl, fun tok htok => ?_⟩
  subst htok
  simp -implicitDefEqProofs (disch := first | omega | decide) only [seval, -Int.reducePow, -Nat.reducePow, cC, pv, binv, sAlCode1, undef]
  refine callV_row (fun A n c => .slice A n c) (fun w hw => clone_ext x.FA x.fn x.fc x.fr w (h.fr.at hw) (by omega)) ?_
  intro A n c hl hr
  simp -implicitDefEqProofs (disch := first | omega | decide) only [seval, -Int.reducePow, -Nat.reducePow, cC, pv, binv, sAlCode1, undef]
  refine hK _ _ ?_
  clear hK K
  refine cv_ret ⟨_, (by simp -implicitDefEqProofs (disch := first | omega | decide) only [seval, -Int.reducePow, -Nat.reducePow, cC, pv, binv, sAlCode1, undef]; rfl), fun w hw => ?_⟩
  exact ⟨_, _, _, rfl, hw.rowNew (by simp), hw.below⟩
end Go.Proofs.Ytfaanphjaghbpaa
