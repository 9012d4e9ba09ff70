/- The law Twice: the complement's complement. -/
import Derived.Test.YtbmeaimdmonopaaFTot
import Derived.Test.YtbmeaimdmonopaaFHelp
namespace Go.Proofs.Ytbmeaimdmonopaa
open Go.RowKit Go.Shelf
set_option linter.unusedVariables false
set_option linter.unusedSimpArgs false
set_option maxRecDepth 100000
theorem exList_end (L : List Int) : ∀ i, i < (exList L 12).length → (Ex.get (exList L 12) i).end_ ≤ 1000 := fun i hi => by
  unfold exList at hi ⊢
  rw [exTo_len] at hi
  rw [exTo_get _ hi]
  have h1 := exAt_bd L i
  have h2 : exCount L 12 ≤ 12 := by unfold exCount; omega
  unfold exK Ext.end_
  dsimp only
  omega

set_option maxHeartbeats 2000000 in
theorem exTwice_walk (W : World) (B : Option Addr) (m d : Nat) (L : List Int) (hU : U16s W W.heap.size B m d L) (a : Int) (ha : 0 ≤ a ∧ a ≤ 255) :
    Calls Try.prog 13 #[.slice B m d, .int .u8 a] W fun en w' => en = .returned (.bool true) ∧ Below W.heap.size W w' := by
  refine calls_cv (M := []) (n := 70) [.tmp 4] rfl Try.func13 rfl rfl (Nat.le_of_ble_eq_true rfl) (St.nil _ _) ?_
  refine cv_seq_k fun K hK => ?_
  refine cv_region_then rfl ?_
  simp -implicitDefEqProofs (disch := first | omega | decide) only [cA, Int.reduceToNat, Int.reduceLT, Int.reduceLE, Int.reduceEq, Int.reduceAdd, Int.reduceSub, Int.reduceMul, Int.reduceNeg, Int.reduceMod, Int.reduceDiv, pickL, evParts, gst, vcd_nil, vcd_cons, stepV, pureV, readV, pv, binv, ldV, stV, condV, ev, fresh, nth, thenQ, blockQ, retV, retQ, catParts, fillL, cmpv, intsEq, ones, tyA, fnA, if_true, if_false, ite_true, ite_false, forall_const, implies_true, eq_self, ne_eq, reduceCtorEq, Value.cells, Value.oneCell', Nat.reduceAdd, Nat.reduceSub, Nat.reduceMul, Nat.reduceEqDiff, Nat.reduceLT, Nat.reduceLeDiff, Nat.reduceBEq, eBox, undef]
  refine hK _ _ ?_
  clear hK K
  refine cv_gen fun G1 hG => ?_
  have g1_0 := congrFun hG 0
  have g1_1 := congrFun hG 1
  clear hG
  try simp -implicitDefEqProofs (disch := first | omega | decide) only [cA, Int.reduceToNat, Int.reduceLT, Int.reduceLE, Int.reduceEq, Int.reduceAdd, Int.reduceSub, Int.reduceMul, Int.reduceNeg, Int.reduceMod, Int.reduceDiv, pickL, evParts, gst, vcd_nil, vcd_cons, stepV, pureV, readV, pv, binv, ldV, stV, condV, ev, fresh, nth, thenQ, blockQ, retV, retQ, catParts, fillL, cmpv, intsEq, ones, tyA, fnA, if_true, if_false, ite_true, ite_false, forall_const, implies_true, eq_self, ne_eq, reduceCtorEq, Value.cells, Value.oneCell', Nat.reduceAdd, Nat.reduceSub, Nat.reduceMul, Nat.reduceEqDiff, Nat.reduceLT, Nat.reduceLeDiff, Nat.reduceBEq, eBox, undef] at g1_0
  try simp -implicitDefEqProofs (disch := first | omega | decide) only [cA, Int.reduceToNat, Int.reduceLT, Int.reduceLE, Int.reduceEq, Int.reduceAdd, Int.reduceSub, Int.reduceMul, Int.reduceNeg, Int.reduceMod, Int.reduceDiv, pickL, evParts, gst, vcd_nil, vcd_cons, stepV, pureV, readV, pv, binv, ldV, stV, condV, ev, fresh, nth, thenQ, blockQ, retV, retQ, catParts, fillL, cmpv, intsEq, ones, tyA, fnA, if_true, if_false, ite_true, ite_false, forall_const, implies_true, eq_self, ne_eq, reduceCtorEq, Value.cells, Value.oneCell', Nat.reduceAdd, Nat.reduceSub, Nat.reduceMul, Nat.reduceEqDiff, Nat.reduceLT, Nat.reduceLeDiff, Nat.reduceBEq, eBox, undef] at g1_1
  refine cv_seq_k fun K hK => ?_
  refine cv_region_then rfl ?_
  simp -implicitDefEqProofs (disch := first | omega | decide) only [cA, Int.reduceToNat, Int.reduceLT, Int.reduceLE, Int.reduceEq, Int.reduceAdd, Int.reduceSub, Int.reduceMul, Int.reduceNeg, Int.reduceMod, Int.reduceDiv, pickL, evParts, gst, vcd_nil, vcd_cons, stepV, pureV, readV, pv, binv, ldV, stV, condV, ev, fresh, nth, thenQ, blockQ, retV, retQ, catParts, fillL, cmpv, intsEq, ones, tyA, fnA, if_true, if_false, ite_true, ite_false, forall_const, implies_true, eq_self, ne_eq, reduceCtorEq, Value.cells, Value.oneCell', Nat.reduceAdd, Nat.reduceSub, Nat.reduceMul, Nat.reduceEqDiff, Nat.reduceLT, Nat.reduceLeDiff, Nat.reduceBEq, eBox, undef, g1_0, g1_1]
  refine callV_row (fun A' n' c' => .slice A' n' c') (fun w hw => set_row B m d L w (hU.at hw)) ?_
  intro A3 n3 c3 hl3 hr3
  simp -implicitDefEqProofs (disch := first | omega | decide) only [cA, Int.reduceToNat, Int.reduceLT, Int.reduceLE, Int.reduceEq, Int.reduceAdd, Int.reduceSub, Int.reduceMul, Int.reduceNeg, Int.reduceMod, Int.reduceDiv, pickL, evParts, gst, vcd_nil, vcd_cons, stepV, pureV, readV, pv, binv, ldV, stV, condV, ev, fresh, nth, thenQ, blockQ, retV, retQ, catParts, fillL, cmpv, intsEq, ones, tyA, fnA, if_true, if_false, ite_true, ite_false, forall_const, implies_true, eq_self, ne_eq, reduceCtorEq, Value.cells, Value.oneCell', Nat.reduceAdd, Nat.reduceSub, Nat.reduceMul, Nat.reduceEqDiff, Nat.reduceLT, Nat.reduceLeDiff, Nat.reduceBEq, eBox, undef, g1_0, g1_1]
  refine hK _ _ ?_
  clear hK K
  obtain ⟨ys, hys⟩ : ∃ ys, ys = exList (L.take 40) 12 := ⟨_, rfl⟩
  have hv : Ex.vld ys := by rw [hys]; exact exList_vld _ _ (by omega)
  have hn3 : n3 ≤ 12 := by rw [← cells_len hl3]; exact exList_few _
  have hyl : ys.length = n3 := by rw [hys]; exact cells_len hl3
  have hye : ∀ i, i < ys.length → (Ex.get ys i).end_ ≤ 1000 := by rw [hys]; exact exList_end _
  rw [← hys]
  refine cv_seq_k fun K hK => ?_
  refine cv_region_then rfl ?_
  simp -implicitDefEqProofs (disch := first | omega | decide) only [cA, Int.reduceToNat, Int.reduceLT, Int.reduceLE, Int.reduceEq, Int.reduceAdd, Int.reduceSub, Int.reduceMul, Int.reduceNeg, Int.reduceMod, Int.reduceDiv, pickL, evParts, gst, vcd_nil, vcd_cons, stepV, pureV, readV, pv, binv, ldV, stV, condV, ev, fresh, nth, thenQ, blockQ, retV, retQ, catParts, fillL, cmpv, intsEq, ones, tyA, fnA, if_true, if_false, ite_true, ite_false, forall_const, implies_true, eq_self, ne_eq, reduceCtorEq, Value.cells, Value.oneCell', Nat.reduceAdd, Nat.reduceSub, Nat.reduceMul, Nat.reduceEqDiff, Nat.reduceLT, Nat.reduceLeDiff, Nat.reduceBEq, eBox, undef, wrap_in, g1_0, g1_1]
  refine hK _ _ ?_
  clear hK K
  refine cv_gen fun G2 hG => ?_
  have g2_5 := congrFun hG 5
  have g2_6 := congrFun hG 6
  clear hG
  try simp -implicitDefEqProofs (disch := first | omega | decide) only [cA, Int.reduceToNat, Int.reduceLT, Int.reduceLE, Int.reduceEq, Int.reduceAdd, Int.reduceSub, Int.reduceMul, Int.reduceNeg, Int.reduceMod, Int.reduceDiv, pickL, evParts, gst, vcd_nil, vcd_cons, stepV, pureV, readV, pv, binv, ldV, stV, condV, ev, fresh, nth, thenQ, blockQ, retV, retQ, catParts, fillL, cmpv, intsEq, ones, tyA, fnA, if_true, if_false, ite_true, ite_false, forall_const, implies_true, eq_self, ne_eq, reduceCtorEq, Value.cells, Value.oneCell', Nat.reduceAdd, Nat.reduceSub, Nat.reduceMul, Nat.reduceEqDiff, Nat.reduceLT, Nat.reduceLeDiff, Nat.reduceBEq, eBox, undef, g1_0, g1_1] at g2_5
  try simp -implicitDefEqProofs (disch := first | omega | decide) only [cA, Int.reduceToNat, Int.reduceLT, Int.reduceLE, Int.reduceEq, Int.reduceAdd, Int.reduceSub, Int.reduceMul, Int.reduceNeg, Int.reduceMod, Int.reduceDiv, pickL, evParts, gst, vcd_nil, vcd_cons, stepV, pureV, readV, pv, binv, ldV, stV, condV, ev, fresh, nth, thenQ, blockQ, retV, retQ, catParts, fillL, cmpv, intsEq, ones, tyA, fnA, if_true, if_false, ite_true, ite_false, forall_const, implies_true, eq_self, ne_eq, reduceCtorEq, Value.cells, Value.oneCell', Nat.reduceAdd, Nat.reduceSub, Nat.reduceMul, Nat.reduceEqDiff, Nat.reduceLT, Nat.reduceLeDiff, Nat.reduceBEq, eBox, undef, g1_0, g1_1] at g2_6
  refine cv_seq_k fun K hK => ?_
  refine cv_cut (fun _ _ => True) (fun F' L' => ∃ (s : Int), F' 5 = G2 5 ∧ F' 6 = .int .i64 s ∧ L' = [.row (.slice A3 n3 c3) 40 2 n3 (exCells ys)] ∧ 0 ≤ s ∧ s ≤ 2000 ∧ ∀ i, i < ys.length → (Ex.get ys i).end_ ≤ s) ?_ ?_
  · refine cv_seq_k fun K hK => ?_
    refine cv_region_then rfl ?_
    simp -implicitDefEqProofs (disch := first | omega | decide) only [cA, Int.reduceToNat, Int.reduceLT, Int.reduceLE, Int.reduceEq, Int.reduceAdd, Int.reduceSub, Int.reduceMul, Int.reduceNeg, Int.reduceMod, Int.reduceDiv, pickL, evParts, gst, vcd_nil, vcd_cons, stepV, pureV, readV, pv, binv, ldV, stV, condV, ev, fresh, nth, thenQ, blockQ, retV, retQ, catParts, fillL, cmpv, intsEq, ones, tyA, fnA, if_true, if_false, ite_true, ite_false, forall_const, implies_true, eq_self, ne_eq, reduceCtorEq, Value.cells, Value.oneCell', Nat.reduceAdd, Nat.reduceSub, Nat.reduceMul, Nat.reduceEqDiff, Nat.reduceLT, Nat.reduceLeDiff, Nat.reduceBEq, eBox, undef, g1_0, g1_1, g2_5, g2_6]
    refine hK _ _ ?_
    clear hK K
    refine cv_cond ?_
    simp -implicitDefEqProofs (disch := first | omega | decide) only [cA, Int.reduceToNat, Int.reduceLT, Int.reduceLE, Int.reduceEq, Int.reduceAdd, Int.reduceSub, Int.reduceMul, Int.reduceNeg, Int.reduceMod, Int.reduceDiv, pickL, evParts, gst, vcd_nil, vcd_cons, stepV, pureV, readV, pv, binv, ldV, stV, condV, ev, fresh, nth, thenQ, blockQ, retV, retQ, catParts, fillL, cmpv, intsEq, ones, tyA, fnA, if_true, if_false, ite_true, ite_false, forall_const, implies_true, eq_self, ne_eq, reduceCtorEq, Value.cells, Value.oneCell', Nat.reduceAdd, Nat.reduceSub, Nat.reduceMul, Nat.reduceEqDiff, Nat.reduceLT, Nat.reduceLeDiff, Nat.reduceBEq, eBox, undef, g1_0, g1_1, g2_5, g2_6]
    refine ⟨fun hc => ?_, fun hc => ?_⟩
    · have hpos : 0 < n3 := by simpa using hc
      obtain ⟨j, rfl⟩ : ∃ j, n3 = j + 1 := ⟨n3 - 1, by omega⟩
      have hj : IntKind.i64.wrap (((j + 1 : Nat) : Int) - 1) = (j : Int) := by rw [wrap_in (by omega) (by omega)]; omega
      rcases hr3 with ⟨-, h⟩ | ⟨g, rfl, hg, hgn⟩
      · omega
      · have hx := vld_prop hv (show j < ys.length by omega)
        have he := hye j (by omega)
        unfold Ext.end_ at he
        refine cv_q ?_
        refine cv_draw [(true, 0), (true, 1), (true, 2), (true, 3), (true, 4), (true, 5), (true, 6), (true, 7), (true, 8), (true, 9), (true, 10), (true, 11), (true, 12), (true, 13), (true, 14), (true, 15), (true, 16), (true, 17)] [] mixA rfl (by kernel_rfl) (by kernel_rfl) rfl rfl ?_
        simp -implicitDefEqProofs (disch := first | omega | decide) only [cA, Int.reduceToNat, Int.reduceLT, Int.reduceLE, Int.reduceEq, Int.reduceAdd, Int.reduceSub, Int.reduceMul, Int.reduceNeg, Int.reduceMod, Int.reduceDiv, pickL, evParts, gst, vcd_nil, vcd_cons, stepV, pureV, readV, pv, binv, ldV, stV, condV, ev, fresh, nth, thenQ, blockQ, retV, retQ, catParts, fillL, cmpv, intsEq, ones, tyA, fnA, if_true, if_false, ite_true, ite_false, forall_const, implies_true, eq_self, ne_eq, reduceCtorEq, Value.cells, Value.oneCell', Nat.reduceAdd, Nat.reduceSub, Nat.reduceMul, Nat.reduceEqDiff, Nat.reduceLT, Nat.reduceLeDiff, Nat.reduceBEq, eBox, undef, hj, g1_0, g1_1, g2_5, g2_6]
        refine ⟨_, ld_row1 (v := .int .i64 (Ex.get ys j).off) (.head _) rfl (exCells_get ys j (by omega)).1, fun tok htok => ?_⟩
        subst htok
        simp -implicitDefEqProofs (disch := first | omega | decide) only [cA, Int.reduceToNat, Int.reduceLT, Int.reduceLE, Int.reduceEq, Int.reduceAdd, Int.reduceSub, Int.reduceMul, Int.reduceNeg, Int.reduceMod, Int.reduceDiv, pickL, evParts, gst, vcd_nil, vcd_cons, stepV, pureV, readV, pv, binv, ldV, stV, condV, ev, fresh, nth, thenQ, blockQ, retV, retQ, catParts, fillL, cmpv, intsEq, ones, tyA, fnA, if_true, if_false, ite_true, ite_false, forall_const, implies_true, eq_self, ne_eq, reduceCtorEq, Value.cells, Value.oneCell', Nat.reduceAdd, Nat.reduceSub, Nat.reduceMul, Nat.reduceEqDiff, Nat.reduceLT, Nat.reduceLeDiff, Nat.reduceBEq, eBox, undef, hj, g1_0, g1_1, g2_5, g2_6]
        refine ⟨_, ld_row1 (v := .int .i64 (Ex.get ys j).len) (.head _) rfl (exCells_get ys j (by omega)).2, fun tok htok => ?_⟩
        subst htok
        simp -implicitDefEqProofs (disch := first | omega | decide) only [cA, Int.reduceToNat, Int.reduceLT, Int.reduceLE, Int.reduceEq, Int.reduceAdd, Int.reduceSub, Int.reduceMul, Int.reduceNeg, Int.reduceMod, Int.reduceDiv, pickL, evParts, gst, vcd_nil, vcd_cons, stepV, pureV, readV, pv, binv, ldV, stV, condV, ev, fresh, nth, thenQ, blockQ, retV, retQ, catParts, fillL, cmpv, intsEq, ones, tyA, fnA, if_true, if_false, ite_true, ite_false, forall_const, implies_true, eq_self, ne_eq, reduceCtorEq, Value.cells, Value.oneCell', Nat.reduceAdd, Nat.reduceSub, Nat.reduceMul, Nat.reduceEqDiff, Nat.reduceLT, Nat.reduceLeDiff, Nat.reduceBEq, eBox, undef, wrap_in, g1_0, g1_1, g2_5, g2_6]
        refine ⟨_, rfl, by omega, by omega, fun i hi => ?_⟩
        have := vld_le hv (show i ≤ j by omega) (by omega)
        unfold Ext.end_ at *
        omega
    · have hz : n3 = 0 := by have := of_decide_eq_false hc; omega
      refine cv_skip ?_
      try simp only [blockQ, thenQ]
      simp -implicitDefEqProofs (disch := first | omega | decide) only [cA, Int.reduceToNat, Int.reduceLT, Int.reduceLE, Int.reduceEq, Int.reduceAdd, Int.reduceSub, Int.reduceMul, Int.reduceNeg, Int.reduceMod, Int.reduceDiv, pickL, evParts, gst, vcd_nil, vcd_cons, stepV, pureV, readV, pv, binv, ldV, stV, condV, ev, fresh, nth, thenQ, blockQ, retV, retQ, catParts, fillL, cmpv, intsEq, ones, tyA, fnA, if_true, if_false, ite_true, ite_false, forall_const, implies_true, eq_self, ne_eq, reduceCtorEq, Value.cells, Value.oneCell', Nat.reduceAdd, Nat.reduceSub, Nat.reduceMul, Nat.reduceEqDiff, Nat.reduceLT, Nat.reduceLeDiff, Nat.reduceBEq, eBox, undef, g1_0, g1_1, g2_5, g2_6]
      exact ⟨a, rfl, by omega, by omega, fun i hi => by omega⟩
  · intro G3 L' _ hF
    obtain ⟨s, q5, q6, rfl, ⟨hs0, hs1, hse⟩⟩ := hF
    have g3_5 := q5.trans g2_5
    have g3_6 := q6
    clear q5 q6
    refine hK _ _ ?_
    clear hK K
    have hcc := Ex.comp_comp hv hs0 (by omega) hse
    obtain ⟨c1, c2, c3, c4, c5⟩ := Ex.compF_spec hv hs0 (by omega) hse
    refine cv_seq_k fun K hK => ?_
    refine cv_region_then rfl ?_
    simp -implicitDefEqProofs (disch := first | omega | decide) only [cA, Int.reduceToNat, Int.reduceLT, Int.reduceLE, Int.reduceEq, Int.reduceAdd, Int.reduceSub, Int.reduceMul, Int.reduceNeg, Int.reduceMod, Int.reduceDiv, pickL, evParts, gst, vcd_nil, vcd_cons, stepV, pureV, readV, pv, binv, ldV, stV, condV, ev, fresh, nth, thenQ, blockQ, retV, retQ, catParts, fillL, cmpv, intsEq, ones, tyA, fnA, if_true, if_false, ite_true, ite_false, forall_const, implies_true, eq_self, ne_eq, reduceCtorEq, Value.cells, Value.oneCell', Nat.reduceAdd, Nat.reduceSub, Nat.reduceMul, Nat.reduceEqDiff, Nat.reduceLT, Nat.reduceLeDiff, Nat.reduceBEq, eBox, undef, g1_0, g1_1, g2_5, g2_6, g3_5, g3_6]
    refine callV_row (fun A' n' c' => .tuple #[.slice A' n' c', .int .i64 (Ex.compF ys s).2]) (fun w hw => complement_any A3 n3 _ ys s w (Exts.of_row hw (by simp)) (by omega)) ?_
    intro A4 n4 k4 hl4 _
    simp -implicitDefEqProofs (disch := first | omega | decide) only [cA, Int.reduceToNat, Int.reduceLT, Int.reduceLE, Int.reduceEq, Int.reduceAdd, Int.reduceSub, Int.reduceMul, Int.reduceNeg, Int.reduceMod, Int.reduceDiv, pickL, evParts, gst, vcd_nil, vcd_cons, stepV, pureV, readV, pv, binv, ldV, stV, condV, ev, fresh, nth, thenQ, blockQ, retV, retQ, catParts, fillL, cmpv, intsEq, ones, tyA, fnA, if_true, if_false, ite_true, ite_false, forall_const, implies_true, eq_self, ne_eq, reduceCtorEq, Value.cells, Value.oneCell', Nat.reduceAdd, Nat.reduceSub, Nat.reduceMul, Nat.reduceEqDiff, Nat.reduceLT, Nat.reduceLeDiff, Nat.reduceBEq, eBox, undef, g1_0, g1_1, g2_5, g2_6, g3_5, g3_6]
    refine hK _ _ ?_
    clear hK K
    have hn4 : n4 ≤ 100 := by rw [← cells_len hl4]; exact Nat.le_trans (Ex.compF_len _ _) (by omega)
    refine cv_seq_k fun K hK => ?_
    refine cv_region_then rfl ?_
    simp -implicitDefEqProofs (disch := first | omega | decide) only [cA, Int.reduceToNat, Int.reduceLT, Int.reduceLE, Int.reduceEq, Int.reduceAdd, Int.reduceSub, Int.reduceMul, Int.reduceNeg, Int.reduceMod, Int.reduceDiv, pickL, evParts, gst, vcd_nil, vcd_cons, stepV, pureV, readV, pv, binv, ldV, stV, condV, ev, fresh, nth, thenQ, blockQ, retV, retQ, catParts, fillL, cmpv, intsEq, ones, tyA, fnA, if_true, if_false, ite_true, ite_false, forall_const, implies_true, eq_self, ne_eq, reduceCtorEq, Value.cells, Value.oneCell', Nat.reduceAdd, Nat.reduceSub, Nat.reduceMul, Nat.reduceEqDiff, Nat.reduceLT, Nat.reduceLeDiff, Nat.reduceBEq, eBox, undef, g1_0, g1_1, g2_5, g2_6, g3_5, g3_6]
    refine callV_row (fun A' n' c' => .tuple #[.slice A' n' c', .int .i64 (Ex.compF (Ex.compF ys s).1 s).2]) (fun w hw => complement_any A4 n4 k4 (Ex.compF ys s).1 s w (Exts.of_row hw (by simp)) (by omega)) ?_
    rw [hcc]
    intro A5 n5 k5 hl5 _
    simp -implicitDefEqProofs (disch := first | omega | decide) only [cA, Int.reduceToNat, Int.reduceLT, Int.reduceLE, Int.reduceEq, Int.reduceAdd, Int.reduceSub, Int.reduceMul, Int.reduceNeg, Int.reduceMod, Int.reduceDiv, pickL, evParts, gst, vcd_nil, vcd_cons, stepV, pureV, readV, pv, binv, ldV, stV, condV, ev, fresh, nth, thenQ, blockQ, retV, retQ, catParts, fillL, cmpv, intsEq, ones, tyA, fnA, if_true, if_false, ite_true, ite_false, forall_const, implies_true, eq_self, ne_eq, reduceCtorEq, Value.cells, Value.oneCell', Nat.reduceAdd, Nat.reduceSub, Nat.reduceMul, Nat.reduceEqDiff, Nat.reduceLT, Nat.reduceLeDiff, Nat.reduceBEq, eBox, undef, g1_0, g1_1, g2_5, g2_6, g3_5, g3_6]
    refine hK _ _ ?_
    clear hK K
    refine cv_gen fun G4 hG => ?_
    have g4_5 := congrFun hG 5
    have g4_6 := congrFun hG 6
    have g4_7 := congrFun hG 7
    have g4_8 := congrFun hG 8
    have g4_9 := congrFun hG 9
    have g4_10 := congrFun hG 10
    clear hG
    try simp -implicitDefEqProofs (disch := first | omega | decide) only [cA, Int.reduceToNat, Int.reduceLT, Int.reduceLE, Int.reduceEq, Int.reduceAdd, Int.reduceSub, Int.reduceMul, Int.reduceNeg, Int.reduceMod, Int.reduceDiv, pickL, evParts, gst, vcd_nil, vcd_cons, stepV, pureV, readV, pv, binv, ldV, stV, condV, ev, fresh, nth, thenQ, blockQ, retV, retQ, catParts, fillL, cmpv, intsEq, ones, tyA, fnA, if_true, if_false, ite_true, ite_false, forall_const, implies_true, eq_self, ne_eq, reduceCtorEq, Value.cells, Value.oneCell', Nat.reduceAdd, Nat.reduceSub, Nat.reduceMul, Nat.reduceEqDiff, Nat.reduceLT, Nat.reduceLeDiff, Nat.reduceBEq, eBox, undef, g1_0, g1_1, g2_5, g2_6, g3_5, g3_6] at g4_5
    try simp -implicitDefEqProofs (disch := first | omega | decide) only [cA, Int.reduceToNat, Int.reduceLT, Int.reduceLE, Int.reduceEq, Int.reduceAdd, Int.reduceSub, Int.reduceMul, Int.reduceNeg, Int.reduceMod, Int.reduceDiv, pickL, evParts, gst, vcd_nil, vcd_cons, stepV, pureV, readV, pv, binv, ldV, stV, condV, ev, fresh, nth, thenQ, blockQ, retV, retQ, catParts, fillL, cmpv, intsEq, ones, tyA, fnA, if_true, if_false, ite_true, ite_false, forall_const, implies_true, eq_self, ne_eq, reduceCtorEq, Value.cells, Value.oneCell', Nat.reduceAdd, Nat.reduceSub, Nat.reduceMul, Nat.reduceEqDiff, Nat.reduceLT, Nat.reduceLeDiff, Nat.reduceBEq, eBox, undef, g1_0, g1_1, g2_5, g2_6, g3_5, g3_6] at g4_6
    try simp -implicitDefEqProofs (disch := first | omega | decide) only [cA, Int.reduceToNat, Int.reduceLT, Int.reduceLE, Int.reduceEq, Int.reduceAdd, Int.reduceSub, Int.reduceMul, Int.reduceNeg, Int.reduceMod, Int.reduceDiv, pickL, evParts, gst, vcd_nil, vcd_cons, stepV, pureV, readV, pv, binv, ldV, stV, condV, ev, fresh, nth, thenQ, blockQ, retV, retQ, catParts, fillL, cmpv, intsEq, ones, tyA, fnA, if_true, if_false, ite_true, ite_false, forall_const, implies_true, eq_self, ne_eq, reduceCtorEq, Value.cells, Value.oneCell', Nat.reduceAdd, Nat.reduceSub, Nat.reduceMul, Nat.reduceEqDiff, Nat.reduceLT, Nat.reduceLeDiff, Nat.reduceBEq, eBox, undef, g1_0, g1_1, g2_5, g2_6, g3_5, g3_6] at g4_7
    try simp -implicitDefEqProofs (disch := first | omega | decide) only [cA, Int.reduceToNat, Int.reduceLT, Int.reduceLE, Int.reduceEq, Int.reduceAdd, Int.reduceSub, Int.reduceMul, Int.reduceNeg, Int.reduceMod, Int.reduceDiv, pickL, evParts, gst, vcd_nil, vcd_cons, stepV, pureV, readV, pv, binv, ldV, stV, condV, ev, fresh, nth, thenQ, blockQ, retV, retQ, catParts, fillL, cmpv, intsEq, ones, tyA, fnA, if_true, if_false, ite_true, ite_false, forall_const, implies_true, eq_self, ne_eq, reduceCtorEq, Value.cells, Value.oneCell', Nat.reduceAdd, Nat.reduceSub, Nat.reduceMul, Nat.reduceEqDiff, Nat.reduceLT, Nat.reduceLeDiff, Nat.reduceBEq, eBox, undef, g1_0, g1_1, g2_5, g2_6, g3_5, g3_6] at g4_8
    try simp -implicitDefEqProofs (disch := first | omega | decide) only [cA, Int.reduceToNat, Int.reduceLT, Int.reduceLE, Int.reduceEq, Int.reduceAdd, Int.reduceSub, Int.reduceMul, Int.reduceNeg, Int.reduceMod, Int.reduceDiv, pickL, evParts, gst, vcd_nil, vcd_cons, stepV, pureV, readV, pv, binv, ldV, stV, condV, ev, fresh, nth, thenQ, blockQ, retV, retQ, catParts, fillL, cmpv, intsEq, ones, tyA, fnA, if_true, if_false, ite_true, ite_false, forall_const, implies_true, eq_self, ne_eq, reduceCtorEq, Value.cells, Value.oneCell', Nat.reduceAdd, Nat.reduceSub, Nat.reduceMul, Nat.reduceEqDiff, Nat.reduceLT, Nat.reduceLeDiff, Nat.reduceBEq, eBox, undef, g1_0, g1_1, g2_5, g2_6, g3_5, g3_6] at g4_9
    try simp -implicitDefEqProofs (disch := first | omega | decide) only [cA, Int.reduceToNat, Int.reduceLT, Int.reduceLE, Int.reduceEq, Int.reduceAdd, Int.reduceSub, Int.reduceMul, Int.reduceNeg, Int.reduceMod, Int.reduceDiv, pickL, evParts, gst, vcd_nil, vcd_cons, stepV, pureV, readV, pv, binv, ldV, stV, condV, ev, fresh, nth, thenQ, blockQ, retV, retQ, catParts, fillL, cmpv, intsEq, ones, tyA, fnA, if_true, if_false, ite_true, ite_false, forall_const, implies_true, eq_self, ne_eq, reduceCtorEq, Value.cells, Value.oneCell', Nat.reduceAdd, Nat.reduceSub, Nat.reduceMul, Nat.reduceEqDiff, Nat.reduceLT, Nat.reduceLeDiff, Nat.reduceBEq, eBox, undef, g1_0, g1_1, g2_5, g2_6, g3_5, g3_6] at g4_10
    refine cv_seq_k fun K hK => ?_
    refine cv_region_then rfl ?_
    simp -implicitDefEqProofs (disch := first | omega | decide) only [cA, Int.reduceToNat, Int.reduceLT, Int.reduceLE, Int.reduceEq, Int.reduceAdd, Int.reduceSub, Int.reduceMul, Int.reduceNeg, Int.reduceMod, Int.reduceDiv, pickL, evParts, gst, vcd_nil, vcd_cons, stepV, pureV, readV, pv, binv, ldV, stV, condV, ev, fresh, nth, thenQ, blockQ, retV, retQ, catParts, fillL, cmpv, intsEq, ones, tyA, fnA, if_true, if_false, ite_true, ite_false, forall_const, implies_true, eq_self, ne_eq, reduceCtorEq, Value.cells, Value.oneCell', Nat.reduceAdd, Nat.reduceSub, Nat.reduceMul, Nat.reduceEqDiff, Nat.reduceLT, Nat.reduceLeDiff, Nat.reduceBEq, eBox, undef, g1_0, g1_1, g2_5, g2_6, g3_5, g3_6, g4_5, g4_6, g4_7, g4_8, g4_9, g4_10]
    refine callV_ret (fun w hw => awake4_any w) ?_
    try simp -implicitDefEqProofs (disch := first | omega | decide) only [cA, Int.reduceToNat, Int.reduceLT, Int.reduceLE, Int.reduceEq, Int.reduceAdd, Int.reduceSub, Int.reduceMul, Int.reduceNeg, Int.reduceMod, Int.reduceDiv, pickL, evParts, gst, vcd_nil, vcd_cons, stepV, pureV, readV, pv, binv, ldV, stV, condV, ev, fresh, nth, thenQ, blockQ, retV, retQ, catParts, fillL, cmpv, intsEq, ones, tyA, fnA, if_true, if_false, ite_true, ite_false, forall_const, implies_true, eq_self, ne_eq, reduceCtorEq, Value.cells, Value.oneCell', Nat.reduceAdd, Nat.reduceSub, Nat.reduceMul, Nat.reduceEqDiff, Nat.reduceLT, Nat.reduceLeDiff, Nat.reduceBEq, eBox, undef, c1, g1_0, g1_1, g2_5, g2_6, g3_5, g3_6, g4_5, g4_6, g4_7, g4_8, g4_9, g4_10]
    refine callV_ret (fun w hw => same_self A5 A3 n5 k5 n3 _ ys w (Exts.of_row hw (by simp)) (Exts.of_row hw (by simp))) ?_
    try simp -implicitDefEqProofs (disch := first | omega | decide) only [cA, Int.reduceToNat, Int.reduceLT, Int.reduceLE, Int.reduceEq, Int.reduceAdd, Int.reduceSub, Int.reduceMul, Int.reduceNeg, Int.reduceMod, Int.reduceDiv, pickL, evParts, gst, vcd_nil, vcd_cons, stepV, pureV, readV, pv, binv, ldV, stV, condV, ev, fresh, nth, thenQ, blockQ, retV, retQ, catParts, fillL, cmpv, intsEq, ones, tyA, fnA, if_true, if_false, ite_true, ite_false, forall_const, implies_true, eq_self, ne_eq, reduceCtorEq, Value.cells, Value.oneCell', Nat.reduceAdd, Nat.reduceSub, Nat.reduceMul, Nat.reduceEqDiff, Nat.reduceLT, Nat.reduceLeDiff, Nat.reduceBEq, eBox, undef, wrap_in, g1_0, g1_1, g2_5, g2_6, g3_5, g3_6, g4_5, g4_6, g4_7, g4_8, g4_9, g4_10]
    refine callV_ret (fun w hw => total_vld A4 n4 k4 (Ex.compF ys s).1 w (Exts.of_row hw (by simp)) (by omega) c2) ?_
    try simp -implicitDefEqProofs (disch := first | omega | decide) only [cA, Int.reduceToNat, Int.reduceLT, Int.reduceLE, Int.reduceEq, Int.reduceAdd, Int.reduceSub, Int.reduceMul, Int.reduceNeg, Int.reduceMod, Int.reduceDiv, pickL, evParts, gst, vcd_nil, vcd_cons, stepV, pureV, readV, pv, binv, ldV, stV, condV, ev, fresh, nth, thenQ, blockQ, retV, retQ, catParts, fillL, cmpv, intsEq, ones, tyA, fnA, if_true, if_false, ite_true, ite_false, forall_const, implies_true, eq_self, ne_eq, reduceCtorEq, Value.cells, Value.oneCell', Nat.reduceAdd, Nat.reduceSub, Nat.reduceMul, Nat.reduceEqDiff, Nat.reduceLT, Nat.reduceLeDiff, Nat.reduceBEq, eBox, undef, wrap_in, g1_0, g1_1, g2_5, g2_6, g3_5, g3_6, g4_5, g4_6, g4_7, g4_8, g4_9, g4_10]
    refine callV_ret (fun w hw => total_vld A3 n3 _ ys w (Exts.of_row hw (by simp)) (by omega) hv) ?_
    try simp -implicitDefEqProofs (disch := first | omega | decide) only [cA, Int.reduceToNat, Int.reduceLT, Int.reduceLE, Int.reduceEq, Int.reduceAdd, Int.reduceSub, Int.reduceMul, Int.reduceNeg, Int.reduceMod, Int.reduceDiv, pickL, evParts, gst, vcd_nil, vcd_cons, stepV, pureV, readV, pv, binv, ldV, stV, condV, ev, fresh, nth, thenQ, blockQ, retV, retQ, catParts, fillL, cmpv, intsEq, ones, tyA, fnA, if_true, if_false, ite_true, ite_false, forall_const, implies_true, eq_self, ne_eq, reduceCtorEq, Value.cells, Value.oneCell', Nat.reduceAdd, Nat.reduceSub, Nat.reduceMul, Nat.reduceEqDiff, Nat.reduceLT, Nat.reduceLeDiff, Nat.reduceBEq, eBox, undef, wrap_in, c5, g1_0, g1_1, g2_5, g2_6, g3_5, g3_6, g4_5, g4_6, g4_7, g4_8, g4_9, g4_10]
    refine hK _ _ ?_
    clear hK K
    refine cv_ret ⟨_, (by simp -implicitDefEqProofs (disch := first | omega | decide) only [cA, Int.reduceToNat, Int.reduceLT, Int.reduceLE, Int.reduceEq, Int.reduceAdd, Int.reduceSub, Int.reduceMul, Int.reduceNeg, Int.reduceMod, Int.reduceDiv, pickL, evParts, gst, vcd_nil, vcd_cons, stepV, pureV, readV, pv, binv, ldV, stV, condV, ev, fresh, nth, thenQ, blockQ, retV, retQ, catParts, fillL, cmpv, intsEq, ones, tyA, fnA, if_true, if_false, ite_true, ite_false, forall_const, implies_true, eq_self, ne_eq, reduceCtorEq, Value.cells, Value.oneCell', Nat.reduceAdd, Nat.reduceSub, Nat.reduceMul, Nat.reduceEqDiff, Nat.reduceLT, Nat.reduceLeDiff, Nat.reduceBEq, eBox, undef, g1_0, g1_1, g2_5, g2_6, g3_5, g3_6, g4_5, g4_6, g4_7, g4_8, g4_9, g4_10]; rfl), fun w hw => ?_⟩
    exact ⟨rfl, hw.below⟩
end Go.Proofs.Ytbmeaimdmonopaa
