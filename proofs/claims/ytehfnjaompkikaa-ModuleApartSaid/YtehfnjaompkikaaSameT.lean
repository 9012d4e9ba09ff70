/- SameType. -/
import Derived.Test.YtehfnjaompkikaaTEnc
namespace Go.Proofs.Ytehfnjaompkikaa
open Go.RowKit Go.Shelf
set_option linter.unusedVariables false
set_option linter.unusedSimpArgs false
set_option maxRecDepth 100000
set_option maxHeartbeats 2000000 in
theorem sameType_any (A B : Option Addr) (n c m d : Nat) (fs gs : List Fd) (x y : Int) (W : World) (hE : Sl W W.heap.size 2 A n c (cl fdc fs)) (hF : Sl W W.heap.size 2 B m d (cl fdc gs)) :
    Calls Try.prog 39 #[tyV x A n c, tyV y B m d] W fun e w' => e = .returned (.bool (decide (x = y ∧ fs = gs))) ∧ Below W.heap.size W w' := by
  have hln : fs.length = n := cl_row fdc_len (by omega) hE.len
  have hlm : gs.length = m := cl_row fdc_len (by omega) hF.len
  have hmax := hE.max
  have hcap := hE.cap
  refine calls_cv (M := []) (n := 38) [.tmp 4] rfl Try.func39 rfl rfl (Nat.le_of_ble_eq_true rfl) (St.nil _ _) ?_
  refine cv_seq_k fun K hK => ?_
  refine cv_region_then rfl ?_
  simp -implicitDefEqProofs (disch := first | omega | decide) only [seval, -Int.reducePow, -Nat.reducePow, cA, cB, pv, binv, fresh, thenQ, blockQ, retQ, Value.oneCell', Value.cells, fBox, tBox, fdV, tyV, undef, Nat.mul_one]
  intro b2 hb2 b3 hb3 h3
  refine hK _ _ ?_
  clear hK K
  refine cv_gen fun G1 hG => ?_
  have g1_2 := congrFun hG 2
  have g1_3 := congrFun hG 3
  clear hG
  try simp -implicitDefEqProofs (disch := first | omega | decide) only [seval, -Int.reducePow, -Nat.reducePow, cA, cB, pv, binv, fresh, thenQ, blockQ, retQ, Value.oneCell', Value.cells, fBox, tBox, fdV, tyV, undef, Nat.mul_one] at g1_2 g1_3
  refine cv_seq_k fun K hK => ?_
  refine cv_seq_k fun K hK => ?_
  refine cv_cut (fun _ _ => True) (fun F' L' => F' 2 = G1 2 ∧ F' 3 = G1 3 ∧ F' 19 = .bool (decide (¬ x = y ∨ ¬ n = m)) ∧ L' = [tBox b3 y B m d, tBox b2 x A n c]) ?_ ?_
  · refine cv_region_then rfl ?_
    simp -implicitDefEqProofs (disch := first | omega | decide) only [seval, -Int.reducePow, -Nat.reducePow, cA, cB, pv, binv, fresh, thenQ, blockQ, retQ, Value.oneCell', Value.cells, fBox, tBox, fdV, tyV, undef, Nat.mul_one, g1_2, g1_3]
    repeat' ((first | refine vcg_cases (fun hg => ?_) (fun hg => ?_) | refine vdg_cases (fun hg => ?_) (fun hg => ?_)) <;> ((try simp only [Bool.not_eq_true', Bool.not_eq_false', decide_eq_true_eq, decide_eq_false_iff_not] at hg); (try simp -implicitDefEqProofs (disch := first | omega | decide) only [seval, -Int.reducePow, -Nat.reducePow, cA, cB, pv, binv, fresh, thenQ, blockQ, retQ, Value.oneCell', Value.cells, fBox, tBox, fdV, tyV, undef, Nat.mul_one, hg, g1_2, g1_3])))
    all_goals (repeat' refine And.intro ?_ ?_)
    all_goals (first | with_reducible rfl | (refine congrArg Value.bool ?_; rw [Bool.eq_iff_iff]; (try simp only [decide_eq_true_eq, eq_self, true_and, and_true, false_and, and_false, true_or, or_true, false_or, or_false, not_true_eq_false, not_false_eq_true, true_iff, iff_true, false_iff, iff_false, Bool.false_eq_true, Bool.not_eq_true', Bool.not_eq_true, decide_eq_false_iff_not, Bool.and_eq_true, Bool.or_eq_true]) <;> omega) | (refine congrArg (Value.int _) ?_; omega) | omega)
  intro G2 L' _ hF
  obtain ⟨q2, q3, q19, rfl⟩ := hF
  have g2_2 := q2.trans g1_2
  have g2_3 := q3.trans g1_3
  have g2_19 := q19
  clear q2 q3 q19
  refine hK _ _ ?_
  clear hK K
  refine cv_cond ?_
  simp -implicitDefEqProofs (disch := first | omega | decide) only [seval, -Int.reducePow, -Nat.reducePow, cA, cB, pv, binv, fresh, thenQ, blockQ, retQ, Value.oneCell', Value.cells, fBox, tBox, fdV, tyV, undef, Nat.mul_one, g2_2, g2_3, g2_19]
  refine ⟨fun hc => ?_, fun hc => ?_⟩
  · have q1 := of_decide_eq_true hc
    refine cv_seq_k fun K hK => ?_
    refine cv_region_then rfl ?_
    simp -implicitDefEqProofs (disch := first | omega | decide) only [seval, -Int.reducePow, -Nat.reducePow, cA, cB, pv, binv, fresh, thenQ, blockQ, retQ, Value.oneCell', Value.cells, fBox, tBox, fdV, tyV, undef, Nat.mul_one, g2_2, g2_3, g2_19]
    refine hK _ _ ?_
    clear hK K
    refine cv_ret ⟨_, (by simp -implicitDefEqProofs (disch := first | omega | decide) only [seval, -Int.reducePow, -Nat.reducePow, cA, cB, pv, binv, fresh, thenQ, blockQ, retQ, Value.oneCell', Value.cells, fBox, tBox, fdV, tyV, undef, Nat.mul_one, g2_2, g2_3, g2_19]; rfl), fun w hw => ?_⟩
    refine ⟨?_, hw.below⟩
    rw [decide_eq_false]
    rintro ⟨h1, h2⟩
    subst h2
    omega
  have q1 := of_decide_eq_false hc
  obtain ⟨rfl, rfl⟩ : x = y ∧ n = m := by omega
  refine cv_skip ?_
  try simp only [blockQ, thenQ]
  refine hK _ _ ?_
  clear hK K
  refine cv_seq_k fun K hK => ?_
  refine cv_seq_k fun K hK => ?_
  refine cv_region_then rfl ?_
  simp -implicitDefEqProofs (disch := first | omega | decide) only [seval, -Int.reducePow, -Nat.reducePow, cA, cB, pv, binv, fresh, thenQ, blockQ, retQ, Value.oneCell', Value.cells, fBox, tBox, fdV, tyV, undef, Nat.mul_one, g2_2, g2_3, g2_19]
  refine hK _ _ ?_
  clear hK K
  refine cv_gen fun G3 hG => ?_
  have g3_2 := congrFun hG 2
  have g3_3 := congrFun hG 3
  have g3_5 := congrFun hG 5
  clear hG
  try simp -implicitDefEqProofs (disch := first | omega | decide) only [seval, -Int.reducePow, -Nat.reducePow, cA, cB, pv, binv, fresh, thenQ, blockQ, retQ, Value.oneCell', Value.cells, fBox, tBox, fdV, tyV, undef, Nat.mul_one, g2_2, g2_3, g2_19] at g3_2 g3_3 g3_5
  refine cv_block ?_
  refine cv_loop (fun F' L' => ∃ (k : Nat), F' 2 = G3 2 ∧ F' 3 = G3 3 ∧ F' 5 = .int .i64 (k : Int) ∧ L' = [tBox b3 x B n d, tBox b2 x A n c] ∧ k ≤ n ∧ fs.take k = gs.take k) (fun F' L' => n - (intOf (F' 5)).toNat) ?_ ?_
  · refine ⟨0, ?_⟩
    simp -implicitDefEqProofs (disch := first | omega | decide) only [seval, -Int.reducePow, -Nat.reducePow, cA, cB, pv, binv, fresh, thenQ, blockQ, retQ, Value.oneCell', Value.cells, fBox, tBox, fdV, tyV, undef, Nat.mul_one, g3_2, g3_3, g3_5]
    omega
  intro G4 L' hI
  obtain ⟨k, q2, q3, q5, rfl, ⟨hk, hq⟩⟩ := hI
  have g4_2 := q2.trans g3_2
  have g4_3 := q3.trans g3_3
  have g4_5 := q5
  clear q2 q3 q5
  refine cv_seq_k fun K hK => ?_
  refine cv_seq_k fun K hK => ?_
  refine cv_region_then rfl ?_
  simp -implicitDefEqProofs (disch := first | omega | decide) only [seval, -Int.reducePow, -Nat.reducePow, cA, cB, pv, binv, fresh, thenQ, blockQ, retQ, Value.oneCell', Value.cells, fBox, tBox, fdV, tyV, undef, Nat.mul_one, g3_2, g3_3, g3_5, g4_2, g4_3, g4_5]
  refine hK _ _ ?_
  clear hK K
  refine cv_cond ?_
  simp -implicitDefEqProofs (disch := first | omega | decide) only [seval, -Int.reducePow, -Nat.reducePow, cA, cB, pv, binv, fresh, thenQ, blockQ, retQ, Value.oneCell', Value.cells, fBox, tBox, fdV, tyV, undef, Nat.mul_one, g3_2, g3_3, g3_5, g4_2, g4_3, g4_5]
  refine ⟨fun hc => ?_, fun hc => ?_⟩
  · refine cv_skip ?_
    try simp only [blockQ, thenQ]
    have hlt : k < n := by have := of_decide_eq_true ‹_›; omega
    obtain ⟨b0, off, rfl, hb0, -⟩ := hE.cells (by omega)
    obtain ⟨b1, off1, rfl, hb1, -⟩ := hF.cells (by omega)
    obtain ⟨u, hu⟩ := some_of (l := fs) (i := k) (by omega)
    obtain ⟨v, hv⟩ := some_of (l := gs) (i := k) (by omega)
    refine hK _ _ ?_
    clear hK K
    refine cv_seq_k fun K hK => ?_
    refine cv_block ?_
    refine cv_seq_k fun K hK => ?_
    refine cv_draw [(true, 0), (true, 1), (true, 2), (true, 3), (true, 4), (true, 5), (true, 6), (true, 7), (true, 8), (true, 9), (true, 10)] [] mixA rfl (by kernel_rfl) (by kernel_rfl) rfl rfl ?_
    simp -implicitDefEqProofs (disch := first | omega | decide) only [seval, -Int.reducePow, -Nat.reducePow, cA, cB, pv, binv, fresh, thenQ, blockQ, retQ, Value.oneCell', Value.cells, fBox, tBox, fdV, tyV, undef, Nat.mul_one, g3_2, g3_3, g3_5, g4_2, g4_3, g4_5]
    refine ⟨_, hE.fld hu, fun tok htok => ?_⟩
    subst htok
    simp -implicitDefEqProofs (disch := first | omega | decide) only [seval, -Int.reducePow, -Nat.reducePow, cA, cB, pv, binv, fresh, thenQ, blockQ, retQ, Value.oneCell', Value.cells, fBox, tBox, fdV, tyV, undef, Nat.mul_one, g3_2, g3_3, g3_5, g4_2, g4_3, g4_5]
    refine ⟨_, hF.fld hv, fun tok htok => ?_⟩
    subst htok
    simp -implicitDefEqProofs (disch := first | omega | decide) only [seval, -Int.reducePow, -Nat.reducePow, cA, cB, pv, binv, fresh, thenQ, blockQ, retQ, Value.oneCell', Value.cells, fBox, tBox, fdV, tyV, undef, Nat.mul_one, g3_2, g3_3, g3_5, g4_2, g4_3, g4_5]
    refine hK _ _ ?_
    clear hK K
    refine cv_cond ?_
    simp -implicitDefEqProofs (disch := first | omega | decide) only [seval, -Int.reducePow, -Nat.reducePow, cA, cB, pv, binv, fresh, thenQ, blockQ, retQ, Value.oneCell', Value.cells, fBox, tBox, fdV, tyV, undef, Nat.mul_one, g3_2, g3_3, g3_5, g4_2, g4_3, g4_5]
    refine ⟨fun hc => ?_, fun hc => ?_⟩
    · have hne : ¬ u = v := by
        rintro rfl
        simp at hc
      refine cv_seq_k fun K hK => ?_
      refine cv_region_then rfl ?_
      simp -implicitDefEqProofs (disch := first | omega | decide) only [seval, -Int.reducePow, -Nat.reducePow, cA, cB, pv, binv, fresh, thenQ, blockQ, retQ, Value.oneCell', Value.cells, fBox, tBox, fdV, tyV, undef, Nat.mul_one, g3_2, g3_3, g3_5, g4_2, g4_3, g4_5]
      refine hK _ _ ?_
      clear hK K
      refine cv_ret ⟨_, (by simp -implicitDefEqProofs (disch := first | omega | decide) only [seval, -Int.reducePow, -Nat.reducePow, cA, cB, pv, binv, fresh, thenQ, blockQ, retQ, Value.oneCell', Value.cells, fBox, tBox, fdV, tyV, undef, Nat.mul_one, g3_2, g3_3, g3_5, g4_2, g4_3, g4_5]; rfl), fun w hw => ?_⟩
      refine ⟨?_, hw.below⟩
      rw [decide_eq_false]
      rintro ⟨-, rfl⟩
      rw [hu] at hv
      injection hv with hv
      exact hne hv
    have huv : u = v := by
      obtain ⟨u1, u2⟩ := u
      obtain ⟨v1, v2⟩ := v
      simpa using hc
    subst huv
    refine cv_skip ?_
    try simp only [blockQ, thenQ]
    refine hK _ _ ?_
    clear hK K
    refine cv_region_then rfl ?_
    simp -implicitDefEqProofs (disch := first | omega | decide) only [seval, -Int.reducePow, -Nat.reducePow, cA, cB, pv, binv, fresh, thenQ, blockQ, retQ, Value.oneCell', Value.cells, fBox, tBox, fdV, tyV, undef, Nat.mul_one, wrap_in, g3_2, g3_3, g3_5, g4_2, g4_3, g4_5]
    refine ⟨⟨k + 1, ?_⟩, ?_⟩
    · simp -implicitDefEqProofs (disch := first | omega | decide) only [seval, -Int.reducePow, -Nat.reducePow, cA, cB, pv, binv, fresh, thenQ, blockQ, retQ, Value.oneCell', Value.cells, fBox, tBox, fdV, tyV, undef, Nat.mul_one, Int.natCast_add, g3_2, g3_3, g3_5, g4_2, g4_3, g4_5]
      refine ⟨by omega, ?_⟩
      obtain ⟨h1, h2⟩ := List.getElem?_eq_some_iff.1 hu
      obtain ⟨h3, h4⟩ := List.getElem?_eq_some_iff.1 hv
      rw [List.take_succ_eq_append_getElem h1, List.take_succ_eq_append_getElem h3, h2, h4, hq]
    · simp only [intOf]; omega
  refine cv_exit ?_
  simp only [blockQ, thenQ, if_true, ite_true]
  clear hK K
  refine hK _ _ ?_
  clear hK K
  have hkn : k = n := by have := of_decide_eq_false ‹_›; omega
  subst hkn
  rw [List.take_of_length_le (by omega), List.take_of_length_le (by omega)] at hq
  refine cv_seq_k fun K hK => ?_
  refine cv_region_then rfl ?_
  simp -implicitDefEqProofs (disch := first | omega | decide) only [seval, -Int.reducePow, -Nat.reducePow, cA, cB, pv, binv, fresh, thenQ, blockQ, retQ, Value.oneCell', Value.cells, fBox, tBox, fdV, tyV, undef, Nat.mul_one, g3_2, g3_3, g3_5, g4_2, g4_3, g4_5]
  refine hK _ _ ?_
  clear hK K
  refine cv_ret ⟨_, (by simp -implicitDefEqProofs (disch := first | omega | decide) only [seval, -Int.reducePow, -Nat.reducePow, cA, cB, pv, binv, fresh, thenQ, blockQ, retQ, Value.oneCell', Value.cells, fBox, tBox, fdV, tyV, undef, Nat.mul_one, g3_2, g3_3, g3_5, g4_2, g4_3, g4_5]; rfl), fun w hw => ?_⟩
  exact ⟨by simp [hq], hw.below⟩
end Go.Proofs.Ytehfnjaompkikaa
