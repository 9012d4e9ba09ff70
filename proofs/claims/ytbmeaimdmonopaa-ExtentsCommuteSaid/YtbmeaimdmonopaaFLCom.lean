/- The law Commute: two insertions in either order. -/
import Derived.Test.YtbmeaimdmonopaaFSet
import Derived.Test.YtbmeaimdmonopaaFHelp
namespace Go.Proofs.Ytbmeaimdmonopaa
open Go.RowKit Go.Shelf
set_option linter.unusedVariables false
set_option linter.unusedSimpArgs false
set_option maxRecDepth 100000
namespace Ex
theorem ins_comm {xs : List Ext} {e f : Ext} (hv : vld xs) (he : e.prop) (hf : f.prop) (h1 : (insF xs e).2 = 0) (h2 : (insF xs f).2 = 0) : insF (insF xs e).1 f = insF (insF xs f).1 e := by
  rcases insF_spec hv he with ⟨h, -⟩ | ⟨-, pv, pm, pn, -⟩
  · rw [h] at h1; exact absurd h1 (by decide)
  rcases insF_spec hv hf with ⟨h, -⟩ | ⟨-, qv, qm, qn, -⟩
  · rw [h] at h2; exact absurd h2 (by decide)
  rcases insF_spec pv hf with ⟨h3, o, ho, hi⟩ | ⟨h3, v3, m3, n3, -⟩ <;> rcases insF_spec qv he with ⟨h4, o', ho', hi'⟩ | ⟨h4, v4, m4, n4, -⟩
  · rw [h3, h4]
  · rcases (pm o).1 ho with h | h
    · exact absurd hi (qn o h)
    · exact absurd h (n4 o ((qm o).2 (.inr hi)))
  · rcases (qm o').1 ho' with h | h
    · exact absurd hi' (pn o' h)
    · exact absurd h (n3 o' ((pm o').2 (.inr hi')))
  · refine Prod.ext (vld_ext v3 v4 fun o => ?_) (h3.trans h4.symm)
    rw [m3, m4, pm, qm]
    constructor
    · rintro ((h | h) | h)
      · exact .inl (.inl h)
      · exact .inr h
      · exact .inl (.inr h)
    · rintro ((h | h) | h)
      · exact .inl (.inl h)
      · exact .inr h
      · exact .inl (.inr h)
end Ex

set_option maxHeartbeats 2000000 in
theorem exCommute_walk (W : World) (B : Option Addr) (m d : Nat) (L : List Int) (hU : U16s W W.heap.size B m d L)
    (a : Int) (ha : 0 ≤ a ∧ a ≤ 255) (b : Int) (hb : 0 ≤ b ∧ b ≤ 255) (c : Int) (hc0 : 0 ≤ c ∧ c ≤ 255) (g : Int) (hg : 0 ≤ g ∧ g ≤ 255) :
    Calls Try.prog 8 #[.slice B m d, .int .u8 a, .int .u8 b, .int .u8 c, .int .u8 g] W fun en w' => en = .returned (.bool true) ∧ Below W.heap.size W w' := by
  refine calls_cv (M := []) (n := 80) [.tmp 10] rfl Try.func8 rfl rfl (Nat.le_of_ble_eq_true rfl) (St.nil _ _) ?_
  refine cv_seq_k fun K hK => ?_
  refine cv_region_then rfl ?_
  simp -implicitDefEqProofs (disch := first | omega | decide) only [cA, Int.reduceToNat, Int.reduceLT, Int.reduceLE, Int.reduceEq, Int.reduceAdd, Int.reduceSub, Int.reduceMul, Int.reduceNeg, Int.reduceMod, Int.reduceDiv, pickL, evParts, gst, vcd_nil, vcd_cons, stepV, pureV, readV, pv, binv, ldV, stV, condV, ev, fresh, nth, thenQ, blockQ, retV, retQ, catParts, fillL, cmpv, intsEq, ones, tyA, fnA, if_true, if_false, ite_true, ite_false, forall_const, implies_true, eq_self, ne_eq, reduceCtorEq, Value.cells, Value.oneCell', Nat.reduceAdd, Nat.reduceSub, Nat.reduceMul, Nat.reduceEqDiff, Nat.reduceLT, Nat.reduceLeDiff, Nat.reduceBEq, eBox]
  refine hK _ _ ?_
  clear hK K
  refine cv_gen fun G1 hG => ?_
  have g1_0 := congrFun hG 0
  have g1_1 := congrFun hG 1
  have g1_2 := congrFun hG 2
  have g1_3 := congrFun hG 3
  have g1_4 := congrFun hG 4
  clear hG
  try simp -implicitDefEqProofs (disch := first | omega | decide) only [cA, Int.reduceToNat, Int.reduceLT, Int.reduceLE, Int.reduceEq, Int.reduceAdd, Int.reduceSub, Int.reduceMul, Int.reduceNeg, Int.reduceMod, Int.reduceDiv, pickL, evParts, gst, vcd_nil, vcd_cons, stepV, pureV, readV, pv, binv, ldV, stV, condV, ev, fresh, nth, thenQ, blockQ, retV, retQ, catParts, fillL, cmpv, intsEq, ones, tyA, fnA, if_true, if_false, ite_true, ite_false, forall_const, implies_true, eq_self, ne_eq, reduceCtorEq, Value.cells, Value.oneCell', Nat.reduceAdd, Nat.reduceSub, Nat.reduceMul, Nat.reduceEqDiff, Nat.reduceLT, Nat.reduceLeDiff, Nat.reduceBEq, eBox] at g1_0
  try simp -implicitDefEqProofs (disch := first | omega | decide) only [cA, Int.reduceToNat, Int.reduceLT, Int.reduceLE, Int.reduceEq, Int.reduceAdd, Int.reduceSub, Int.reduceMul, Int.reduceNeg, Int.reduceMod, Int.reduceDiv, pickL, evParts, gst, vcd_nil, vcd_cons, stepV, pureV, readV, pv, binv, ldV, stV, condV, ev, fresh, nth, thenQ, blockQ, retV, retQ, catParts, fillL, cmpv, intsEq, ones, tyA, fnA, if_true, if_false, ite_true, ite_false, forall_const, implies_true, eq_self, ne_eq, reduceCtorEq, Value.cells, Value.oneCell', Nat.reduceAdd, Nat.reduceSub, Nat.reduceMul, Nat.reduceEqDiff, Nat.reduceLT, Nat.reduceLeDiff, Nat.reduceBEq, eBox] at g1_1
  try simp -implicitDefEqProofs (disch := first | omega | decide) only [cA, Int.reduceToNat, Int.reduceLT, Int.reduceLE, Int.reduceEq, Int.reduceAdd, Int.reduceSub, Int.reduceMul, Int.reduceNeg, Int.reduceMod, Int.reduceDiv, pickL, evParts, gst, vcd_nil, vcd_cons, stepV, pureV, readV, pv, binv, ldV, stV, condV, ev, fresh, nth, thenQ, blockQ, retV, retQ, catParts, fillL, cmpv, intsEq, ones, tyA, fnA, if_true, if_false, ite_true, ite_false, forall_const, implies_true, eq_self, ne_eq, reduceCtorEq, Value.cells, Value.oneCell', Nat.reduceAdd, Nat.reduceSub, Nat.reduceMul, Nat.reduceEqDiff, Nat.reduceLT, Nat.reduceLeDiff, Nat.reduceBEq, eBox] at g1_2
  try simp -implicitDefEqProofs (disch := first | omega | decide) only [cA, Int.reduceToNat, Int.reduceLT, Int.reduceLE, Int.reduceEq, Int.reduceAdd, Int.reduceSub, Int.reduceMul, Int.reduceNeg, Int.reduceMod, Int.reduceDiv, pickL, evParts, gst, vcd_nil, vcd_cons, stepV, pureV, readV, pv, binv, ldV, stV, condV, ev, fresh, nth, thenQ, blockQ, retV, retQ, catParts, fillL, cmpv, intsEq, ones, tyA, fnA, if_true, if_false, ite_true, ite_false, forall_const, implies_true, eq_self, ne_eq, reduceCtorEq, Value.cells, Value.oneCell', Nat.reduceAdd, Nat.reduceSub, Nat.reduceMul, Nat.reduceEqDiff, Nat.reduceLT, Nat.reduceLeDiff, Nat.reduceBEq, eBox] at g1_3
  try simp -implicitDefEqProofs (disch := first | omega | decide) only [cA, Int.reduceToNat, Int.reduceLT, Int.reduceLE, Int.reduceEq, Int.reduceAdd, Int.reduceSub, Int.reduceMul, Int.reduceNeg, Int.reduceMod, Int.reduceDiv, pickL, evParts, gst, vcd_nil, vcd_cons, stepV, pureV, readV, pv, binv, ldV, stV, condV, ev, fresh, nth, thenQ, blockQ, retV, retQ, catParts, fillL, cmpv, intsEq, ones, tyA, fnA, if_true, if_false, ite_true, ite_false, forall_const, implies_true, eq_self, ne_eq, reduceCtorEq, Value.cells, Value.oneCell', Nat.reduceAdd, Nat.reduceSub, Nat.reduceMul, Nat.reduceEqDiff, Nat.reduceLT, Nat.reduceLeDiff, Nat.reduceBEq, eBox] at g1_4
  refine cv_seq_k fun K hK => ?_
  refine cv_region_then rfl ?_
  simp -implicitDefEqProofs (disch := first | omega | decide) only [cA, Int.reduceToNat, Int.reduceLT, Int.reduceLE, Int.reduceEq, Int.reduceAdd, Int.reduceSub, Int.reduceMul, Int.reduceNeg, Int.reduceMod, Int.reduceDiv, pickL, evParts, gst, vcd_nil, vcd_cons, stepV, pureV, readV, pv, binv, ldV, stV, condV, ev, fresh, nth, thenQ, blockQ, retV, retQ, catParts, fillL, cmpv, intsEq, ones, tyA, fnA, if_true, if_false, ite_true, ite_false, forall_const, implies_true, eq_self, ne_eq, reduceCtorEq, Value.cells, Value.oneCell', Nat.reduceAdd, Nat.reduceSub, Nat.reduceMul, Nat.reduceEqDiff, Nat.reduceLT, Nat.reduceLeDiff, Nat.reduceBEq, eBox, g1_0, g1_1, g1_2, g1_3, g1_4]
  refine callV_row (fun A' n' c' => .slice A' n' c') (fun w hw => set_row B m d L w (hU.at hw)) ?_
  intro A3 n3 c3 hl3 hr3
  simp -implicitDefEqProofs (disch := first | omega | decide) only [cA, Int.reduceToNat, Int.reduceLT, Int.reduceLE, Int.reduceEq, Int.reduceAdd, Int.reduceSub, Int.reduceMul, Int.reduceNeg, Int.reduceMod, Int.reduceDiv, pickL, evParts, gst, vcd_nil, vcd_cons, stepV, pureV, readV, pv, binv, ldV, stV, condV, ev, fresh, nth, thenQ, blockQ, retV, retQ, catParts, fillL, cmpv, intsEq, ones, tyA, fnA, if_true, if_false, ite_true, ite_false, forall_const, implies_true, eq_self, ne_eq, reduceCtorEq, Value.cells, Value.oneCell', Nat.reduceAdd, Nat.reduceSub, Nat.reduceMul, Nat.reduceEqDiff, Nat.reduceLT, Nat.reduceLeDiff, Nat.reduceBEq, eBox, g1_0, g1_1, g1_2, g1_3, g1_4]
  refine hK _ _ ?_
  clear hK K
  obtain ⟨ys, hys⟩ : ∃ ys, ys = exList (L.take 40) 12 := ⟨_, rfl⟩
  have hv : Ex.vld ys := by rw [hys]; exact exList_vld _ _ (by omega)
  have hn3 : n3 ≤ 12 := by rw [← cells_len hl3]; exact exList_few _
  have hyl : ys.length = n3 := by rw [hys]; exact cells_len hl3
  rw [← hys]
  refine cv_gen fun G2 hG => ?_
  have g2_1 := congrFun hG 1
  have g2_2 := congrFun hG 2
  have g2_3 := congrFun hG 3
  have g2_4 := congrFun hG 4
  have g2_11 := congrFun hG 11
  clear hG
  try simp -implicitDefEqProofs (disch := first | omega | decide) only [cA, Int.reduceToNat, Int.reduceLT, Int.reduceLE, Int.reduceEq, Int.reduceAdd, Int.reduceSub, Int.reduceMul, Int.reduceNeg, Int.reduceMod, Int.reduceDiv, pickL, evParts, gst, vcd_nil, vcd_cons, stepV, pureV, readV, pv, binv, ldV, stV, condV, ev, fresh, nth, thenQ, blockQ, retV, retQ, catParts, fillL, cmpv, intsEq, ones, tyA, fnA, if_true, if_false, ite_true, ite_false, forall_const, implies_true, eq_self, ne_eq, reduceCtorEq, Value.cells, Value.oneCell', Nat.reduceAdd, Nat.reduceSub, Nat.reduceMul, Nat.reduceEqDiff, Nat.reduceLT, Nat.reduceLeDiff, Nat.reduceBEq, eBox, g1_0, g1_1, g1_2, g1_3, g1_4] at g2_1
  try simp -implicitDefEqProofs (disch := first | omega | decide) only [cA, Int.reduceToNat, Int.reduceLT, Int.reduceLE, Int.reduceEq, Int.reduceAdd, Int.reduceSub, Int.reduceMul, Int.reduceNeg, Int.reduceMod, Int.reduceDiv, pickL, evParts, gst, vcd_nil, vcd_cons, stepV, pureV, readV, pv, binv, ldV, stV, condV, ev, fresh, nth, thenQ, blockQ, retV, retQ, catParts, fillL, cmpv, intsEq, ones, tyA, fnA, if_true, if_false, ite_true, ite_false, forall_const, implies_true, eq_self, ne_eq, reduceCtorEq, Value.cells, Value.oneCell', Nat.reduceAdd, Nat.reduceSub, Nat.reduceMul, Nat.reduceEqDiff, Nat.reduceLT, Nat.reduceLeDiff, Nat.reduceBEq, eBox, g1_0, g1_1, g1_2, g1_3, g1_4] at g2_2
  try simp -implicitDefEqProofs (disch := first | omega | decide) only [cA, Int.reduceToNat, Int.reduceLT, Int.reduceLE, Int.reduceEq, Int.reduceAdd, Int.reduceSub, Int.reduceMul, Int.reduceNeg, Int.reduceMod, Int.reduceDiv, pickL, evParts, gst, vcd_nil, vcd_cons, stepV, pureV, readV, pv, binv, ldV, stV, condV, ev, fresh, nth, thenQ, blockQ, retV, retQ, catParts, fillL, cmpv, intsEq, ones, tyA, fnA, if_true, if_false, ite_true, ite_false, forall_const, implies_true, eq_self, ne_eq, reduceCtorEq, Value.cells, Value.oneCell', Nat.reduceAdd, Nat.reduceSub, Nat.reduceMul, Nat.reduceEqDiff, Nat.reduceLT, Nat.reduceLeDiff, Nat.reduceBEq, eBox, g1_0, g1_1, g1_2, g1_3, g1_4] at g2_3
  try simp -implicitDefEqProofs (disch := first | omega | decide) only [cA, Int.reduceToNat, Int.reduceLT, Int.reduceLE, Int.reduceEq, Int.reduceAdd, Int.reduceSub, Int.reduceMul, Int.reduceNeg, Int.reduceMod, Int.reduceDiv, pickL, evParts, gst, vcd_nil, vcd_cons, stepV, pureV, readV, pv, binv, ldV, stV, condV, ev, fresh, nth, thenQ, blockQ, retV, retQ, catParts, fillL, cmpv, intsEq, ones, tyA, fnA, if_true, if_false, ite_true, ite_false, forall_const, implies_true, eq_self, ne_eq, reduceCtorEq, Value.cells, Value.oneCell', Nat.reduceAdd, Nat.reduceSub, Nat.reduceMul, Nat.reduceEqDiff, Nat.reduceLT, Nat.reduceLeDiff, Nat.reduceBEq, eBox, g1_0, g1_1, g1_2, g1_3, g1_4] at g2_4
  try simp -implicitDefEqProofs (disch := first | omega | decide) only [cA, Int.reduceToNat, Int.reduceLT, Int.reduceLE, Int.reduceEq, Int.reduceAdd, Int.reduceSub, Int.reduceMul, Int.reduceNeg, Int.reduceMod, Int.reduceDiv, pickL, evParts, gst, vcd_nil, vcd_cons, stepV, pureV, readV, pv, binv, ldV, stV, condV, ev, fresh, nth, thenQ, blockQ, retV, retQ, catParts, fillL, cmpv, intsEq, ones, tyA, fnA, if_true, if_false, ite_true, ite_false, forall_const, implies_true, eq_self, ne_eq, reduceCtorEq, Value.cells, Value.oneCell', Nat.reduceAdd, Nat.reduceSub, Nat.reduceMul, Nat.reduceEqDiff, Nat.reduceLT, Nat.reduceLeDiff, Nat.reduceBEq, eBox, g1_0, g1_1, g1_2, g1_3, g1_4] at g2_11
  refine cv_seq_k fun K hK => ?_
  refine cv_region_then rfl ?_
  simp -implicitDefEqProofs (disch := first | omega | decide) only [cA, Int.reduceToNat, Int.reduceLT, Int.reduceLE, Int.reduceEq, Int.reduceAdd, Int.reduceSub, Int.reduceMul, Int.reduceNeg, Int.reduceMod, Int.reduceDiv, pickL, evParts, gst, vcd_nil, vcd_cons, stepV, pureV, readV, pv, binv, ldV, stV, condV, ev, fresh, nth, thenQ, blockQ, retV, retQ, catParts, fillL, cmpv, intsEq, ones, tyA, fnA, if_true, if_false, ite_true, ite_false, forall_const, implies_true, eq_self, ne_eq, reduceCtorEq, Value.cells, Value.oneCell', Nat.reduceAdd, Nat.reduceSub, Nat.reduceMul, Nat.reduceEqDiff, Nat.reduceLT, Nat.reduceLeDiff, Nat.reduceBEq, eBox, wrap_in, g1_0, g1_1, g1_2, g1_3, g1_4, g2_1, g2_2, g2_3, g2_4, g2_11]
  intro b2 hb2
  refine hK _ _ ?_
  clear hK K
  refine cv_seq_k fun K hK => ?_
  refine cv_region_then rfl ?_
  simp -implicitDefEqProofs (disch := first | omega | decide) only [cA, Int.reduceToNat, Int.reduceLT, Int.reduceLE, Int.reduceEq, Int.reduceAdd, Int.reduceSub, Int.reduceMul, Int.reduceNeg, Int.reduceMod, Int.reduceDiv, pickL, evParts, gst, vcd_nil, vcd_cons, stepV, pureV, readV, pv, binv, ldV, stV, condV, ev, fresh, nth, thenQ, blockQ, retV, retQ, catParts, fillL, cmpv, intsEq, ones, tyA, fnA, if_true, if_false, ite_true, ite_false, forall_const, implies_true, eq_self, ne_eq, reduceCtorEq, Value.cells, Value.oneCell', Nat.reduceAdd, Nat.reduceSub, Nat.reduceMul, Nat.reduceEqDiff, Nat.reduceLT, Nat.reduceLeDiff, Nat.reduceBEq, eBox, wrap_in, g1_0, g1_1, g1_2, g1_3, g1_4, g2_1, g2_2, g2_3, g2_4, g2_11]
  intro b3 hb3 h3
  refine hK _ _ ?_
  clear hK K
  obtain ⟨e, he⟩ : ∃ f : Ext, f = ⟨a, 1 + b % 9⟩ := ⟨_, rfl⟩
  have he1 : Value.int .i64 a = .int .i64 e.off := by rw [he]
  have he2 : Value.int .i64 (1 + b % 9) = .int .i64 e.len := by rw [he]
  have hep : e.prop := by rw [he]; unfold Ext.prop; dsimp only; omega
  obtain ⟨f, hf⟩ : ∃ f : Ext, f = ⟨c, 1 + g % 9⟩ := ⟨_, rfl⟩
  have hf1 : Value.int .i64 c = .int .i64 f.off := by rw [hf]
  have hf2 : Value.int .i64 (1 + g % 9) = .int .i64 f.len := by rw [hf]
  have hfp : f.prop := by rw [hf]; unfold Ext.prop; dsimp only; omega
  rw [he1, he2, hf1, hf2]
  refine cv_gen fun G3 hG => ?_
  have g3_11 := congrFun hG 11
  have g3_12 := congrFun hG 12
  have g3_13 := congrFun hG 13
  clear hG
  try simp -implicitDefEqProofs (disch := first | omega | decide) only [cA, Int.reduceToNat, Int.reduceLT, Int.reduceLE, Int.reduceEq, Int.reduceAdd, Int.reduceSub, Int.reduceMul, Int.reduceNeg, Int.reduceMod, Int.reduceDiv, pickL, evParts, gst, vcd_nil, vcd_cons, stepV, pureV, readV, pv, binv, ldV, stV, condV, ev, fresh, nth, thenQ, blockQ, retV, retQ, catParts, fillL, cmpv, intsEq, ones, tyA, fnA, if_true, if_false, ite_true, ite_false, forall_const, implies_true, eq_self, ne_eq, reduceCtorEq, Value.cells, Value.oneCell', Nat.reduceAdd, Nat.reduceSub, Nat.reduceMul, Nat.reduceEqDiff, Nat.reduceLT, Nat.reduceLeDiff, Nat.reduceBEq, eBox, g1_0, g1_1, g1_2, g1_3, g1_4, g2_1, g2_2, g2_3, g2_4, g2_11] at g3_11
  try simp -implicitDefEqProofs (disch := first | omega | decide) only [cA, Int.reduceToNat, Int.reduceLT, Int.reduceLE, Int.reduceEq, Int.reduceAdd, Int.reduceSub, Int.reduceMul, Int.reduceNeg, Int.reduceMod, Int.reduceDiv, pickL, evParts, gst, vcd_nil, vcd_cons, stepV, pureV, readV, pv, binv, ldV, stV, condV, ev, fresh, nth, thenQ, blockQ, retV, retQ, catParts, fillL, cmpv, intsEq, ones, tyA, fnA, if_true, if_false, ite_true, ite_false, forall_const, implies_true, eq_self, ne_eq, reduceCtorEq, Value.cells, Value.oneCell', Nat.reduceAdd, Nat.reduceSub, Nat.reduceMul, Nat.reduceEqDiff, Nat.reduceLT, Nat.reduceLeDiff, Nat.reduceBEq, eBox, g1_0, g1_1, g1_2, g1_3, g1_4, g2_1, g2_2, g2_3, g2_4, g2_11] at g3_12
  try simp -implicitDefEqProofs (disch := first | omega | decide) only [cA, Int.reduceToNat, Int.reduceLT, Int.reduceLE, Int.reduceEq, Int.reduceAdd, Int.reduceSub, Int.reduceMul, Int.reduceNeg, Int.reduceMod, Int.reduceDiv, pickL, evParts, gst, vcd_nil, vcd_cons, stepV, pureV, readV, pv, binv, ldV, stV, condV, ev, fresh, nth, thenQ, blockQ, retV, retQ, catParts, fillL, cmpv, intsEq, ones, tyA, fnA, if_true, if_false, ite_true, ite_false, forall_const, implies_true, eq_self, ne_eq, reduceCtorEq, Value.cells, Value.oneCell', Nat.reduceAdd, Nat.reduceSub, Nat.reduceMul, Nat.reduceEqDiff, Nat.reduceLT, Nat.reduceLeDiff, Nat.reduceBEq, eBox, g1_0, g1_1, g1_2, g1_3, g1_4, g2_1, g2_2, g2_3, g2_4, g2_11] at g3_13
  refine cv_seq_k fun K hK => ?_
  refine cv_region_then rfl ?_
  simp -implicitDefEqProofs (disch := first | omega | decide) only [cA, Int.reduceToNat, Int.reduceLT, Int.reduceLE, Int.reduceEq, Int.reduceAdd, Int.reduceSub, Int.reduceMul, Int.reduceNeg, Int.reduceMod, Int.reduceDiv, pickL, evParts, gst, vcd_nil, vcd_cons, stepV, pureV, readV, pv, binv, ldV, stV, condV, ev, fresh, nth, thenQ, blockQ, retV, retQ, catParts, fillL, cmpv, intsEq, ones, tyA, fnA, if_true, if_false, ite_true, ite_false, forall_const, implies_true, eq_self, ne_eq, reduceCtorEq, Value.cells, Value.oneCell', Nat.reduceAdd, Nat.reduceSub, Nat.reduceMul, Nat.reduceEqDiff, Nat.reduceLT, Nat.reduceLeDiff, Nat.reduceBEq, eBox, g1_0, g1_1, g1_2, g1_3, g1_4, g2_1, g2_2, g2_3, g2_4, g2_11, g3_11, g3_12, g3_13]
  refine callV_row (fun A' n' c' => .tuple #[.slice A' n' c', .int .i64 (Ex.insF ys e).2]) (fun w hw => insert_good A3 n3 c3 ys e w (Exts.of_row hw (by simp)) (by omega)) ?_
  intro A4 n4 c4 hl4 _
  simp -implicitDefEqProofs (disch := first | omega | decide) only [cA, Int.reduceToNat, Int.reduceLT, Int.reduceLE, Int.reduceEq, Int.reduceAdd, Int.reduceSub, Int.reduceMul, Int.reduceNeg, Int.reduceMod, Int.reduceDiv, pickL, evParts, gst, vcd_nil, vcd_cons, stepV, pureV, readV, pv, binv, ldV, stV, condV, ev, fresh, nth, thenQ, blockQ, retV, retQ, catParts, fillL, cmpv, intsEq, ones, tyA, fnA, if_true, if_false, ite_true, ite_false, forall_const, implies_true, eq_self, ne_eq, reduceCtorEq, Value.cells, Value.oneCell', Nat.reduceAdd, Nat.reduceSub, Nat.reduceMul, Nat.reduceEqDiff, Nat.reduceLT, Nat.reduceLeDiff, Nat.reduceBEq, eBox, g1_0, g1_1, g1_2, g1_3, g1_4, g2_1, g2_2, g2_3, g2_4, g2_11, g3_11, g3_12, g3_13]
  refine hK _ _ ?_
  clear hK K
  refine cv_seq_k fun K hK => ?_
  refine cv_region_then rfl ?_
  simp -implicitDefEqProofs (disch := first | omega | decide) only [cA, Int.reduceToNat, Int.reduceLT, Int.reduceLE, Int.reduceEq, Int.reduceAdd, Int.reduceSub, Int.reduceMul, Int.reduceNeg, Int.reduceMod, Int.reduceDiv, pickL, evParts, gst, vcd_nil, vcd_cons, stepV, pureV, readV, pv, binv, ldV, stV, condV, ev, fresh, nth, thenQ, blockQ, retV, retQ, catParts, fillL, cmpv, intsEq, ones, tyA, fnA, if_true, if_false, ite_true, ite_false, forall_const, implies_true, eq_self, ne_eq, reduceCtorEq, Value.cells, Value.oneCell', Nat.reduceAdd, Nat.reduceSub, Nat.reduceMul, Nat.reduceEqDiff, Nat.reduceLT, Nat.reduceLeDiff, Nat.reduceBEq, eBox, g1_0, g1_1, g1_2, g1_3, g1_4, g2_1, g2_2, g2_3, g2_4, g2_11, g3_11, g3_12, g3_13]
  refine callV_row (fun A' n' c' => .tuple #[.slice A' n' c', .int .i64 (Ex.insF ys f).2]) (fun w hw => insert_good A3 n3 c3 ys f w (Exts.of_row hw (by simp)) (by omega)) ?_
  intro A5 n5 c5 hl5 _
  simp -implicitDefEqProofs (disch := first | omega | decide) only [cA, Int.reduceToNat, Int.reduceLT, Int.reduceLE, Int.reduceEq, Int.reduceAdd, Int.reduceSub, Int.reduceMul, Int.reduceNeg, Int.reduceMod, Int.reduceDiv, pickL, evParts, gst, vcd_nil, vcd_cons, stepV, pureV, readV, pv, binv, ldV, stV, condV, ev, fresh, nth, thenQ, blockQ, retV, retQ, catParts, fillL, cmpv, intsEq, ones, tyA, fnA, if_true, if_false, ite_true, ite_false, forall_const, implies_true, eq_self, ne_eq, reduceCtorEq, Value.cells, Value.oneCell', Nat.reduceAdd, Nat.reduceSub, Nat.reduceMul, Nat.reduceEqDiff, Nat.reduceLT, Nat.reduceLeDiff, Nat.reduceBEq, eBox, g1_0, g1_1, g1_2, g1_3, g1_4, g2_1, g2_2, g2_3, g2_4, g2_11, g3_11, g3_12, g3_13]
  refine hK _ _ ?_
  clear hK K
  refine cv_gen fun G4 hG => ?_
  have g4_12 := congrFun hG 12
  have g4_13 := congrFun hG 13
  have g4_14 := congrFun hG 14
  have g4_15 := congrFun hG 15
  have g4_16 := congrFun hG 16
  have g4_17 := congrFun hG 17
  clear hG
  try simp -implicitDefEqProofs (disch := first | omega | decide) only [cA, Int.reduceToNat, Int.reduceLT, Int.reduceLE, Int.reduceEq, Int.reduceAdd, Int.reduceSub, Int.reduceMul, Int.reduceNeg, Int.reduceMod, Int.reduceDiv, pickL, evParts, gst, vcd_nil, vcd_cons, stepV, pureV, readV, pv, binv, ldV, stV, condV, ev, fresh, nth, thenQ, blockQ, retV, retQ, catParts, fillL, cmpv, intsEq, ones, tyA, fnA, if_true, if_false, ite_true, ite_false, forall_const, implies_true, eq_self, ne_eq, reduceCtorEq, Value.cells, Value.oneCell', Nat.reduceAdd, Nat.reduceSub, Nat.reduceMul, Nat.reduceEqDiff, Nat.reduceLT, Nat.reduceLeDiff, Nat.reduceBEq, eBox, g1_0, g1_1, g1_2, g1_3, g1_4, g2_1, g2_2, g2_3, g2_4, g2_11, g3_11, g3_12, g3_13] at g4_12
  try simp -implicitDefEqProofs (disch := first | omega | decide) only [cA, Int.reduceToNat, Int.reduceLT, Int.reduceLE, Int.reduceEq, Int.reduceAdd, Int.reduceSub, Int.reduceMul, Int.reduceNeg, Int.reduceMod, Int.reduceDiv, pickL, evParts, gst, vcd_nil, vcd_cons, stepV, pureV, readV, pv, binv, ldV, stV, condV, ev, fresh, nth, thenQ, blockQ, retV, retQ, catParts, fillL, cmpv, intsEq, ones, tyA, fnA, if_true, if_false, ite_true, ite_false, forall_const, implies_true, eq_self, ne_eq, reduceCtorEq, Value.cells, Value.oneCell', Nat.reduceAdd, Nat.reduceSub, Nat.reduceMul, Nat.reduceEqDiff, Nat.reduceLT, Nat.reduceLeDiff, Nat.reduceBEq, eBox, g1_0, g1_1, g1_2, g1_3, g1_4, g2_1, g2_2, g2_3, g2_4, g2_11, g3_11, g3_12, g3_13] at g4_13
  try simp -implicitDefEqProofs (disch := first | omega | decide) only [cA, Int.reduceToNat, Int.reduceLT, Int.reduceLE, Int.reduceEq, Int.reduceAdd, Int.reduceSub, Int.reduceMul, Int.reduceNeg, Int.reduceMod, Int.reduceDiv, pickL, evParts, gst, vcd_nil, vcd_cons, stepV, pureV, readV, pv, binv, ldV, stV, condV, ev, fresh, nth, thenQ, blockQ, retV, retQ, catParts, fillL, cmpv, intsEq, ones, tyA, fnA, if_true, if_false, ite_true, ite_false, forall_const, implies_true, eq_self, ne_eq, reduceCtorEq, Value.cells, Value.oneCell', Nat.reduceAdd, Nat.reduceSub, Nat.reduceMul, Nat.reduceEqDiff, Nat.reduceLT, Nat.reduceLeDiff, Nat.reduceBEq, eBox, g1_0, g1_1, g1_2, g1_3, g1_4, g2_1, g2_2, g2_3, g2_4, g2_11, g3_11, g3_12, g3_13] at g4_14
  try simp -implicitDefEqProofs (disch := first | omega | decide) only [cA, Int.reduceToNat, Int.reduceLT, Int.reduceLE, Int.reduceEq, Int.reduceAdd, Int.reduceSub, Int.reduceMul, Int.reduceNeg, Int.reduceMod, Int.reduceDiv, pickL, evParts, gst, vcd_nil, vcd_cons, stepV, pureV, readV, pv, binv, ldV, stV, condV, ev, fresh, nth, thenQ, blockQ, retV, retQ, catParts, fillL, cmpv, intsEq, ones, tyA, fnA, if_true, if_false, ite_true, ite_false, forall_const, implies_true, eq_self, ne_eq, reduceCtorEq, Value.cells, Value.oneCell', Nat.reduceAdd, Nat.reduceSub, Nat.reduceMul, Nat.reduceEqDiff, Nat.reduceLT, Nat.reduceLeDiff, Nat.reduceBEq, eBox, g1_0, g1_1, g1_2, g1_3, g1_4, g2_1, g2_2, g2_3, g2_4, g2_11, g3_11, g3_12, g3_13] at g4_15
  try simp -implicitDefEqProofs (disch := first | omega | decide) only [cA, Int.reduceToNat, Int.reduceLT, Int.reduceLE, Int.reduceEq, Int.reduceAdd, Int.reduceSub, Int.reduceMul, Int.reduceNeg, Int.reduceMod, Int.reduceDiv, pickL, evParts, gst, vcd_nil, vcd_cons, stepV, pureV, readV, pv, binv, ldV, stV, condV, ev, fresh, nth, thenQ, blockQ, retV, retQ, catParts, fillL, cmpv, intsEq, ones, tyA, fnA, if_true, if_false, ite_true, ite_false, forall_const, implies_true, eq_self, ne_eq, reduceCtorEq, Value.cells, Value.oneCell', Nat.reduceAdd, Nat.reduceSub, Nat.reduceMul, Nat.reduceEqDiff, Nat.reduceLT, Nat.reduceLeDiff, Nat.reduceBEq, eBox, g1_0, g1_1, g1_2, g1_3, g1_4, g2_1, g2_2, g2_3, g2_4, g2_11, g3_11, g3_12, g3_13] at g4_16
  try simp -implicitDefEqProofs (disch := first | omega | decide) only [cA, Int.reduceToNat, Int.reduceLT, Int.reduceLE, Int.reduceEq, Int.reduceAdd, Int.reduceSub, Int.reduceMul, Int.reduceNeg, Int.reduceMod, Int.reduceDiv, pickL, evParts, gst, vcd_nil, vcd_cons, stepV, pureV, readV, pv, binv, ldV, stV, condV, ev, fresh, nth, thenQ, blockQ, retV, retQ, catParts, fillL, cmpv, intsEq, ones, tyA, fnA, if_true, if_false, ite_true, ite_false, forall_const, implies_true, eq_self, ne_eq, reduceCtorEq, Value.cells, Value.oneCell', Nat.reduceAdd, Nat.reduceSub, Nat.reduceMul, Nat.reduceEqDiff, Nat.reduceLT, Nat.reduceLeDiff, Nat.reduceBEq, eBox, g1_0, g1_1, g1_2, g1_3, g1_4, g2_1, g2_2, g2_3, g2_4, g2_11, g3_11, g3_12, g3_13] at g4_17
  have hn4 : n4 ≤ 100 := by rw [← cells_len hl4]; exact Nat.le_trans (Ex.insF_len _ _) (by omega)
  have hn5 : n5 ≤ 100 := by rw [← cells_len hl5]; exact Nat.le_trans (Ex.insF_len _ _) (by omega)
  refine cv_seq_k fun K hK => ?_
  refine cv_seq_k fun K hK => ?_
  refine cv_cut (fun _ _ => True) (fun F' L' => F' 12 = G4 12 ∧ F' 13 = G4 13 ∧ F' 14 = G4 14 ∧ F' 16 = G4 16 ∧ F' 55 = .bool (!decide ((Ex.insF ys e).2 = 0) || !decide ((Ex.insF ys f).2 = 0)) ∧ L' = [.row (.slice A5 n5 c5) 40 2 n5 (exCells (Ex.insF ys f).1), .row (.slice A4 n4 c4) 40 2 n4 (exCells (Ex.insF ys e).1), eBox b3 f, eBox b2 e, .row (.slice A3 n3 c3) 40 2 n3 (exCells ys)]) ?_ ?_
  · by_cases h : (Ex.insF ys e).2 = 0
    · refine cv_region_then rfl ?_
      simp -implicitDefEqProofs (disch := first | omega | decide) only [cA, Int.reduceToNat, Int.reduceLT, Int.reduceLE, Int.reduceEq, Int.reduceAdd, Int.reduceSub, Int.reduceMul, Int.reduceNeg, Int.reduceMod, Int.reduceDiv, pickL, evParts, gst, vcd_nil, vcd_cons, stepV, pureV, readV, pv, binv, ldV, stV, condV, ev, fresh, nth, thenQ, blockQ, retV, retQ, catParts, fillL, cmpv, intsEq, ones, tyA, fnA, if_true, if_false, ite_true, ite_false, forall_const, implies_true, eq_self, ne_eq, reduceCtorEq, Value.cells, Value.oneCell', Nat.reduceAdd, Nat.reduceSub, Nat.reduceMul, Nat.reduceEqDiff, Nat.reduceLT, Nat.reduceLeDiff, Nat.reduceBEq, eBox, h, g1_0, g1_1, g1_2, g1_3, g1_4, g2_1, g2_2, g2_3, g2_4, g2_11, g3_11, g3_12, g3_13, g4_12, g4_13, g4_14, g4_15, g4_16, g4_17]
      all_goals (first | (simp [h]; done) | (simp [h]; omega))
    · refine cv_region_then rfl ?_
      simp -implicitDefEqProofs (disch := first | omega | decide) only [cA, Int.reduceToNat, Int.reduceLT, Int.reduceLE, Int.reduceEq, Int.reduceAdd, Int.reduceSub, Int.reduceMul, Int.reduceNeg, Int.reduceMod, Int.reduceDiv, pickL, evParts, gst, vcd_nil, vcd_cons, stepV, pureV, readV, pv, binv, ldV, stV, condV, ev, fresh, nth, thenQ, blockQ, retV, retQ, catParts, fillL, cmpv, intsEq, ones, tyA, fnA, if_true, if_false, ite_true, ite_false, forall_const, implies_true, eq_self, ne_eq, reduceCtorEq, Value.cells, Value.oneCell', Nat.reduceAdd, Nat.reduceSub, Nat.reduceMul, Nat.reduceEqDiff, Nat.reduceLT, Nat.reduceLeDiff, Nat.reduceBEq, eBox, h, g1_0, g1_1, g1_2, g1_3, g1_4, g2_1, g2_2, g2_3, g2_4, g2_11, g3_11, g3_12, g3_13, g4_12, g4_13, g4_14, g4_15, g4_16, g4_17]
      all_goals (first | (simp [h]; done) | (simp [h]; omega))
  · intro G5 L' _ hF
    obtain ⟨q12, q13, q14, q16, q55, rfl⟩ := hF
    have g5_12 := q12.trans g4_12
    have g5_13 := q13.trans g4_13
    have g5_14 := q14.trans g4_14
    have g5_16 := q16.trans g4_16
    have g5_55 := q55
    clear q12 q13 q14 q16 q55
    refine hK _ _ ?_
    clear hK K
    refine cv_cond ?_
    simp -implicitDefEqProofs (disch := first | omega | decide) only [cA, Int.reduceToNat, Int.reduceLT, Int.reduceLE, Int.reduceEq, Int.reduceAdd, Int.reduceSub, Int.reduceMul, Int.reduceNeg, Int.reduceMod, Int.reduceDiv, pickL, evParts, gst, vcd_nil, vcd_cons, stepV, pureV, readV, pv, binv, ldV, stV, condV, ev, fresh, nth, thenQ, blockQ, retV, retQ, catParts, fillL, cmpv, intsEq, ones, tyA, fnA, if_true, if_false, ite_true, ite_false, forall_const, implies_true, eq_self, ne_eq, reduceCtorEq, Value.cells, Value.oneCell', Nat.reduceAdd, Nat.reduceSub, Nat.reduceMul, Nat.reduceEqDiff, Nat.reduceLT, Nat.reduceLeDiff, Nat.reduceBEq, eBox, g1_0, g1_1, g1_2, g1_3, g1_4, g2_1, g2_2, g2_3, g2_4, g2_11, g3_11, g3_12, g3_13, g4_12, g4_13, g4_14, g4_15, g4_16, g4_17, g5_12, g5_13, g5_14, g5_16, g5_55]
    refine ⟨fun hc => ?_, fun hc => ?_⟩
    · refine cv_seq_k fun K hK => ?_
      refine cv_region_then rfl ?_
      simp -implicitDefEqProofs (disch := first | omega | decide) only [cA, Int.reduceToNat, Int.reduceLT, Int.reduceLE, Int.reduceEq, Int.reduceAdd, Int.reduceSub, Int.reduceMul, Int.reduceNeg, Int.reduceMod, Int.reduceDiv, pickL, evParts, gst, vcd_nil, vcd_cons, stepV, pureV, readV, pv, binv, ldV, stV, condV, ev, fresh, nth, thenQ, blockQ, retV, retQ, catParts, fillL, cmpv, intsEq, ones, tyA, fnA, if_true, if_false, ite_true, ite_false, forall_const, implies_true, eq_self, ne_eq, reduceCtorEq, Value.cells, Value.oneCell', Nat.reduceAdd, Nat.reduceSub, Nat.reduceMul, Nat.reduceEqDiff, Nat.reduceLT, Nat.reduceLeDiff, Nat.reduceBEq, eBox, g1_0, g1_1, g1_2, g1_3, g1_4, g2_1, g2_2, g2_3, g2_4, g2_11, g3_11, g3_12, g3_13, g4_12, g4_13, g4_14, g4_15, g4_16, g4_17, g5_12, g5_13, g5_14, g5_16, g5_55]
      refine callV_ret (fun w hw => awake4_any w) ?_
      try simp -implicitDefEqProofs (disch := first | omega | decide) only [cA, Int.reduceToNat, Int.reduceLT, Int.reduceLE, Int.reduceEq, Int.reduceAdd, Int.reduceSub, Int.reduceMul, Int.reduceNeg, Int.reduceMod, Int.reduceDiv, pickL, evParts, gst, vcd_nil, vcd_cons, stepV, pureV, readV, pv, binv, ldV, stV, condV, ev, fresh, nth, thenQ, blockQ, retV, retQ, catParts, fillL, cmpv, intsEq, ones, tyA, fnA, if_true, if_false, ite_true, ite_false, forall_const, implies_true, eq_self, ne_eq, reduceCtorEq, Value.cells, Value.oneCell', Nat.reduceAdd, Nat.reduceSub, Nat.reduceMul, Nat.reduceEqDiff, Nat.reduceLT, Nat.reduceLeDiff, Nat.reduceBEq, eBox, g1_0, g1_1, g1_2, g1_3, g1_4, g2_1, g2_2, g2_3, g2_4, g2_11, g3_11, g3_12, g3_13, g4_12, g4_13, g4_14, g4_15, g4_16, g4_17, g5_12, g5_13, g5_14, g5_16, g5_55]
      refine hK _ _ ?_
      clear hK K
      refine cv_ret ⟨_, (by simp -implicitDefEqProofs (disch := first | omega | decide) only [cA, Int.reduceToNat, Int.reduceLT, Int.reduceLE, Int.reduceEq, Int.reduceAdd, Int.reduceSub, Int.reduceMul, Int.reduceNeg, Int.reduceMod, Int.reduceDiv, pickL, evParts, gst, vcd_nil, vcd_cons, stepV, pureV, readV, pv, binv, ldV, stV, condV, ev, fresh, nth, thenQ, blockQ, retV, retQ, catParts, fillL, cmpv, intsEq, ones, tyA, fnA, if_true, if_false, ite_true, ite_false, forall_const, implies_true, eq_self, ne_eq, reduceCtorEq, Value.cells, Value.oneCell', Nat.reduceAdd, Nat.reduceSub, Nat.reduceMul, Nat.reduceEqDiff, Nat.reduceLT, Nat.reduceLeDiff, Nat.reduceBEq, eBox, g1_0, g1_1, g1_2, g1_3, g1_4, g2_1, g2_2, g2_3, g2_4, g2_11, g3_11, g3_12, g3_13, g4_12, g4_13, g4_14, g4_15, g4_16, g4_17, g5_12, g5_13, g5_14, g5_16, g5_55]; rfl), fun w hw => ?_⟩
      exact ⟨rfl, hw.below⟩
    · simp only [Bool.or_eq_false_iff, Bool.not_eq_false', decide_eq_true_eq] at hc
      have hcm := Ex.ins_comm hv hep hfp hc.1 hc.2
      refine cv_skip ?_
      try simp only [blockQ, thenQ]
      refine hK _ _ ?_
      clear hK K
      refine cv_seq_k fun K hK => ?_
      refine cv_region_then rfl ?_
      simp -implicitDefEqProofs (disch := first | omega | decide) only [cA, Int.reduceToNat, Int.reduceLT, Int.reduceLE, Int.reduceEq, Int.reduceAdd, Int.reduceSub, Int.reduceMul, Int.reduceNeg, Int.reduceMod, Int.reduceDiv, pickL, evParts, gst, vcd_nil, vcd_cons, stepV, pureV, readV, pv, binv, ldV, stV, condV, ev, fresh, nth, thenQ, blockQ, retV, retQ, catParts, fillL, cmpv, intsEq, ones, tyA, fnA, if_true, if_false, ite_true, ite_false, forall_const, implies_true, eq_self, ne_eq, reduceCtorEq, Value.cells, Value.oneCell', Nat.reduceAdd, Nat.reduceSub, Nat.reduceMul, Nat.reduceEqDiff, Nat.reduceLT, Nat.reduceLeDiff, Nat.reduceBEq, eBox, g1_0, g1_1, g1_2, g1_3, g1_4, g2_1, g2_2, g2_3, g2_4, g2_11, g3_11, g3_12, g3_13, g4_12, g4_13, g4_14, g4_15, g4_16, g4_17, g5_12, g5_13, g5_14, g5_16, g5_55]
      refine callV_row (fun A' n' c' => .tuple #[.slice A' n' c', .int .i64 (Ex.insF (Ex.insF ys e).1 f).2]) (fun w hw => insert_good A4 n4 c4 (Ex.insF ys e).1 f w (Exts.of_row hw (by simp)) (by omega)) ?_
      intro A6 n6 c6 hl6 _
      simp -implicitDefEqProofs (disch := first | omega | decide) only [cA, Int.reduceToNat, Int.reduceLT, Int.reduceLE, Int.reduceEq, Int.reduceAdd, Int.reduceSub, Int.reduceMul, Int.reduceNeg, Int.reduceMod, Int.reduceDiv, pickL, evParts, gst, vcd_nil, vcd_cons, stepV, pureV, readV, pv, binv, ldV, stV, condV, ev, fresh, nth, thenQ, blockQ, retV, retQ, catParts, fillL, cmpv, intsEq, ones, tyA, fnA, if_true, if_false, ite_true, ite_false, forall_const, implies_true, eq_self, ne_eq, reduceCtorEq, Value.cells, Value.oneCell', Nat.reduceAdd, Nat.reduceSub, Nat.reduceMul, Nat.reduceEqDiff, Nat.reduceLT, Nat.reduceLeDiff, Nat.reduceBEq, eBox, g1_0, g1_1, g1_2, g1_3, g1_4, g2_1, g2_2, g2_3, g2_4, g2_11, g3_11, g3_12, g3_13, g4_12, g4_13, g4_14, g4_15, g4_16, g4_17, g5_12, g5_13, g5_14, g5_16, g5_55]
      refine hK _ _ ?_
      clear hK K
      refine cv_seq_k fun K hK => ?_
      refine cv_region_then rfl ?_
      simp -implicitDefEqProofs (disch := first | omega | decide) only [cA, Int.reduceToNat, Int.reduceLT, Int.reduceLE, Int.reduceEq, Int.reduceAdd, Int.reduceSub, Int.reduceMul, Int.reduceNeg, Int.reduceMod, Int.reduceDiv, pickL, evParts, gst, vcd_nil, vcd_cons, stepV, pureV, readV, pv, binv, ldV, stV, condV, ev, fresh, nth, thenQ, blockQ, retV, retQ, catParts, fillL, cmpv, intsEq, ones, tyA, fnA, if_true, if_false, ite_true, ite_false, forall_const, implies_true, eq_self, ne_eq, reduceCtorEq, Value.cells, Value.oneCell', Nat.reduceAdd, Nat.reduceSub, Nat.reduceMul, Nat.reduceEqDiff, Nat.reduceLT, Nat.reduceLeDiff, Nat.reduceBEq, eBox, g1_0, g1_1, g1_2, g1_3, g1_4, g2_1, g2_2, g2_3, g2_4, g2_11, g3_11, g3_12, g3_13, g4_12, g4_13, g4_14, g4_15, g4_16, g4_17, g5_12, g5_13, g5_14, g5_16, g5_55]
      refine callV_row (fun A' n' c' => .tuple #[.slice A' n' c', .int .i64 (Ex.insF (Ex.insF ys f).1 e).2]) (fun w hw => insert_good A5 n5 c5 (Ex.insF ys f).1 e w (Exts.of_row hw (by simp)) (by omega)) ?_
      intro A7 n7 c7 hl7 _
      simp -implicitDefEqProofs (disch := first | omega | decide) only [cA, Int.reduceToNat, Int.reduceLT, Int.reduceLE, Int.reduceEq, Int.reduceAdd, Int.reduceSub, Int.reduceMul, Int.reduceNeg, Int.reduceMod, Int.reduceDiv, pickL, evParts, gst, vcd_nil, vcd_cons, stepV, pureV, readV, pv, binv, ldV, stV, condV, ev, fresh, nth, thenQ, blockQ, retV, retQ, catParts, fillL, cmpv, intsEq, ones, tyA, fnA, if_true, if_false, ite_true, ite_false, forall_const, implies_true, eq_self, ne_eq, reduceCtorEq, Value.cells, Value.oneCell', Nat.reduceAdd, Nat.reduceSub, Nat.reduceMul, Nat.reduceEqDiff, Nat.reduceLT, Nat.reduceLeDiff, Nat.reduceBEq, eBox, g1_0, g1_1, g1_2, g1_3, g1_4, g2_1, g2_2, g2_3, g2_4, g2_11, g3_11, g3_12, g3_13, g4_12, g4_13, g4_14, g4_15, g4_16, g4_17, g5_12, g5_13, g5_14, g5_16, g5_55]
      refine hK _ _ ?_
      clear hK K
      refine cv_gen fun G6 hG => ?_
      have g6_18 := congrFun hG 18
      have g6_19 := congrFun hG 19
      have g6_20 := congrFun hG 20
      have g6_21 := congrFun hG 21
      clear hG
      try simp -implicitDefEqProofs (disch := first | omega | decide) only [cA, Int.reduceToNat, Int.reduceLT, Int.reduceLE, Int.reduceEq, Int.reduceAdd, Int.reduceSub, Int.reduceMul, Int.reduceNeg, Int.reduceMod, Int.reduceDiv, pickL, evParts, gst, vcd_nil, vcd_cons, stepV, pureV, readV, pv, binv, ldV, stV, condV, ev, fresh, nth, thenQ, blockQ, retV, retQ, catParts, fillL, cmpv, intsEq, ones, tyA, fnA, if_true, if_false, ite_true, ite_false, forall_const, implies_true, eq_self, ne_eq, reduceCtorEq, Value.cells, Value.oneCell', Nat.reduceAdd, Nat.reduceSub, Nat.reduceMul, Nat.reduceEqDiff, Nat.reduceLT, Nat.reduceLeDiff, Nat.reduceBEq, eBox, g1_0, g1_1, g1_2, g1_3, g1_4, g2_1, g2_2, g2_3, g2_4, g2_11, g3_11, g3_12, g3_13, g4_12, g4_13, g4_14, g4_15, g4_16, g4_17, g5_12, g5_13, g5_14, g5_16, g5_55] at g6_18
      try simp -implicitDefEqProofs (disch := first | omega | decide) only [cA, Int.reduceToNat, Int.reduceLT, Int.reduceLE, Int.reduceEq, Int.reduceAdd, Int.reduceSub, Int.reduceMul, Int.reduceNeg, Int.reduceMod, Int.reduceDiv, pickL, evParts, gst, vcd_nil, vcd_cons, stepV, pureV, readV, pv, binv, ldV, stV, condV, ev, fresh, nth, thenQ, blockQ, retV, retQ, catParts, fillL, cmpv, intsEq, ones, tyA, fnA, if_true, if_false, ite_true, ite_false, forall_const, implies_true, eq_self, ne_eq, reduceCtorEq, Value.cells, Value.oneCell', Nat.reduceAdd, Nat.reduceSub, Nat.reduceMul, Nat.reduceEqDiff, Nat.reduceLT, Nat.reduceLeDiff, Nat.reduceBEq, eBox, g1_0, g1_1, g1_2, g1_3, g1_4, g2_1, g2_2, g2_3, g2_4, g2_11, g3_11, g3_12, g3_13, g4_12, g4_13, g4_14, g4_15, g4_16, g4_17, g5_12, g5_13, g5_14, g5_16, g5_55] at g6_19
      try simp -implicitDefEqProofs (disch := first | omega | decide) only [cA, Int.reduceToNat, Int.reduceLT, Int.reduceLE, Int.reduceEq, Int.reduceAdd, Int.reduceSub, Int.reduceMul, Int.reduceNeg, Int.reduceMod, Int.reduceDiv, pickL, evParts, gst, vcd_nil, vcd_cons, stepV, pureV, readV, pv, binv, ldV, stV, condV, ev, fresh, nth, thenQ, blockQ, retV, retQ, catParts, fillL, cmpv, intsEq, ones, tyA, fnA, if_true, if_false, ite_true, ite_false, forall_const, implies_true, eq_self, ne_eq, reduceCtorEq, Value.cells, Value.oneCell', Nat.reduceAdd, Nat.reduceSub, Nat.reduceMul, Nat.reduceEqDiff, Nat.reduceLT, Nat.reduceLeDiff, Nat.reduceBEq, eBox, g1_0, g1_1, g1_2, g1_3, g1_4, g2_1, g2_2, g2_3, g2_4, g2_11, g3_11, g3_12, g3_13, g4_12, g4_13, g4_14, g4_15, g4_16, g4_17, g5_12, g5_13, g5_14, g5_16, g5_55] at g6_20
      try simp -implicitDefEqProofs (disch := first | omega | decide) only [cA, Int.reduceToNat, Int.reduceLT, Int.reduceLE, Int.reduceEq, Int.reduceAdd, Int.reduceSub, Int.reduceMul, Int.reduceNeg, Int.reduceMod, Int.reduceDiv, pickL, evParts, gst, vcd_nil, vcd_cons, stepV, pureV, readV, pv, binv, ldV, stV, condV, ev, fresh, nth, thenQ, blockQ, retV, retQ, catParts, fillL, cmpv, intsEq, ones, tyA, fnA, if_true, if_false, ite_true, ite_false, forall_const, implies_true, eq_self, ne_eq, reduceCtorEq, Value.cells, Value.oneCell', Nat.reduceAdd, Nat.reduceSub, Nat.reduceMul, Nat.reduceEqDiff, Nat.reduceLT, Nat.reduceLeDiff, Nat.reduceBEq, eBox, g1_0, g1_1, g1_2, g1_3, g1_4, g2_1, g2_2, g2_3, g2_4, g2_11, g3_11, g3_12, g3_13, g4_12, g4_13, g4_14, g4_15, g4_16, g4_17, g5_12, g5_13, g5_14, g5_16, g5_55] at g6_21
      rw [← hcm] at hl7 ⊢
      refine cv_seq_k fun K hK => ?_
      refine cv_region_then rfl ?_
      simp -implicitDefEqProofs (disch := first | omega | decide) only [cA, Int.reduceToNat, Int.reduceLT, Int.reduceLE, Int.reduceEq, Int.reduceAdd, Int.reduceSub, Int.reduceMul, Int.reduceNeg, Int.reduceMod, Int.reduceDiv, pickL, evParts, gst, vcd_nil, vcd_cons, stepV, pureV, readV, pv, binv, ldV, stV, condV, ev, fresh, nth, thenQ, blockQ, retV, retQ, catParts, fillL, cmpv, intsEq, ones, tyA, fnA, if_true, if_false, ite_true, ite_false, forall_const, implies_true, eq_self, ne_eq, reduceCtorEq, Value.cells, Value.oneCell', Nat.reduceAdd, Nat.reduceSub, Nat.reduceMul, Nat.reduceEqDiff, Nat.reduceLT, Nat.reduceLeDiff, Nat.reduceBEq, eBox, g1_0, g1_1, g1_2, g1_3, g1_4, g2_1, g2_2, g2_3, g2_4, g2_11, g3_11, g3_12, g3_13, g4_12, g4_13, g4_14, g4_15, g4_16, g4_17, g5_12, g5_13, g5_14, g5_16, g5_55, g6_18, g6_19, g6_20, g6_21]
      have hcc : (Ex.insF (Ex.insF ys f).1 e).2 = (Ex.insF (Ex.insF ys e).1 f).2 := by rw [hcm]
      refine callV_ret (fun w hw => awake4_any w) ?_
      try simp -implicitDefEqProofs (disch := first | omega | decide) only [cA, Int.reduceToNat, Int.reduceLT, Int.reduceLE, Int.reduceEq, Int.reduceAdd, Int.reduceSub, Int.reduceMul, Int.reduceNeg, Int.reduceMod, Int.reduceDiv, pickL, evParts, gst, vcd_nil, vcd_cons, stepV, pureV, readV, pv, binv, ldV, stV, condV, ev, fresh, nth, thenQ, blockQ, retV, retQ, catParts, fillL, cmpv, intsEq, ones, tyA, fnA, if_true, if_false, ite_true, ite_false, forall_const, implies_true, eq_self, ne_eq, reduceCtorEq, Value.cells, Value.oneCell', Nat.reduceAdd, Nat.reduceSub, Nat.reduceMul, Nat.reduceEqDiff, Nat.reduceLT, Nat.reduceLeDiff, Nat.reduceBEq, eBox, hcc, g1_0, g1_1, g1_2, g1_3, g1_4, g2_1, g2_2, g2_3, g2_4, g2_11, g3_11, g3_12, g3_13, g4_12, g4_13, g4_14, g4_15, g4_16, g4_17, g5_12, g5_13, g5_14, g5_16, g5_55, g6_18, g6_19, g6_20, g6_21]
      refine callV_ret (fun w hw => same_self A6 A7 n6 c6 n7 c7 (Ex.insF (Ex.insF ys e).1 f).1 w (Exts.of_row hw (by simp)) (Exts.of_row hw (by simp))) ?_
      try simp -implicitDefEqProofs (disch := first | omega | decide) only [cA, Int.reduceToNat, Int.reduceLT, Int.reduceLE, Int.reduceEq, Int.reduceAdd, Int.reduceSub, Int.reduceMul, Int.reduceNeg, Int.reduceMod, Int.reduceDiv, pickL, evParts, gst, vcd_nil, vcd_cons, stepV, pureV, readV, pv, binv, ldV, stV, condV, ev, fresh, nth, thenQ, blockQ, retV, retQ, catParts, fillL, cmpv, intsEq, ones, tyA, fnA, if_true, if_false, ite_true, ite_false, forall_const, implies_true, eq_self, ne_eq, reduceCtorEq, Value.cells, Value.oneCell', Nat.reduceAdd, Nat.reduceSub, Nat.reduceMul, Nat.reduceEqDiff, Nat.reduceLT, Nat.reduceLeDiff, Nat.reduceBEq, eBox, hcc, g1_0, g1_1, g1_2, g1_3, g1_4, g2_1, g2_2, g2_3, g2_4, g2_11, g3_11, g3_12, g3_13, g4_12, g4_13, g4_14, g4_15, g4_16, g4_17, g5_12, g5_13, g5_14, g5_16, g5_55, g6_18, g6_19, g6_20, g6_21]
      refine hK _ _ ?_
      clear hK K
      refine cv_ret ⟨_, (by simp -implicitDefEqProofs (disch := first | omega | decide) only [cA, Int.reduceToNat, Int.reduceLT, Int.reduceLE, Int.reduceEq, Int.reduceAdd, Int.reduceSub, Int.reduceMul, Int.reduceNeg, Int.reduceMod, Int.reduceDiv, pickL, evParts, gst, vcd_nil, vcd_cons, stepV, pureV, readV, pv, binv, ldV, stV, condV, ev, fresh, nth, thenQ, blockQ, retV, retQ, catParts, fillL, cmpv, intsEq, ones, tyA, fnA, if_true, if_false, ite_true, ite_false, forall_const, implies_true, eq_self, ne_eq, reduceCtorEq, Value.cells, Value.oneCell', Nat.reduceAdd, Nat.reduceSub, Nat.reduceMul, Nat.reduceEqDiff, Nat.reduceLT, Nat.reduceLeDiff, Nat.reduceBEq, eBox, g1_0, g1_1, g1_2, g1_3, g1_4, g2_1, g2_2, g2_3, g2_4, g2_11, g3_11, g3_12, g3_13, g4_12, g4_13, g4_14, g4_15, g4_16, g4_17, g5_12, g5_13, g5_14, g5_16, g5_55, g6_18, g6_19, g6_20, g6_21]; rfl), fun w hw => ?_⟩
      exact ⟨rfl, hw.below⟩
end Go.Proofs.Ytbmeaimdmonopaa
