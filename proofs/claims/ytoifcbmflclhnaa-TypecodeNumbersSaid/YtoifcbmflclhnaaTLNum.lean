/- The law Numbers, walked. -/
import Derived.Test.YtoifcbmflclhnaaRDec
namespace Go.Proofs.Ytoifcbmflclhnaa
open Go.RowKit Go.Shelf
set_option linter.unusedVariables false
set_option linter.unusedSimpArgs false
set_option maxRecDepth 100000
theorem put_byte {m : List Nat} (h : ∀ x ∈ m, x < 256) (y : Nat) : ∀ x ∈ m ++ putU y, x < 256 := fun x hx => by
  rcases List.mem_append.1 hx with h1 | h1
  · exact h x h1
  · exact putU_byte y x h1
set_option maxHeartbeats 4000000 in
theorem tcNumbers_walk (W : World) (A : Option Addr) (n c : Nat) (l : List Nat) (hE : Sl W W.heap.size 1 A n c (u64c l)) (hl : ∀ x ∈ l, x < 18446744073709551616)
    (flds : Int) (hfl : 0 ≤ flds ∧ flds ≤ 255) :
    Calls Try.prog 5 #[.slice A n c, .int .u8 flds] W fun e w' => e = .returned (.bool true) ∧ Below W.heap.size W w' := by
  have hln : l.length = n := u64_row hE.len
  refine calls_cv (M := []) (n := 45) [.tmp 4] rfl Try.func5 rfl rfl (Nat.le_of_ble_eq_true rfl) (St.nil _ _) ?_
  refine cv_seq_k fun K hK => ?_
  refine cv_region_then rfl ?_
  simp -implicitDefEqProofs (disch := first | omega | decide) only [cA, Int.reduceToNat, Int.reduceLT, Int.reduceLE, Int.reduceEq, Int.reduceAdd, Int.reduceSub, Int.reduceMul, Int.reduceNeg, Int.reduceMod, Int.reduceDiv, pickL, evParts, gst, strV, List.set_cons_zero, List.set_cons_succ, vcd_nil, vcd_cons, stepV, pureV, pureX, pureR, readV, pv, binv, ldV, stV, condV, ev, fresh, nth, thenQ, blockQ, retV, retQ, catParts, fillL, cmpv, intsEq, ones, tyA, fnA, if_true, if_false, ite_true, ite_false, forall_const, implies_true, eq_self, ne_eq, reduceCtorEq, Value.cells, Value.oneCell', Nat.reduceAdd, Nat.reduceSub, Nat.reduceMul, Nat.reduceEqDiff, Nat.reduceLT, Nat.reduceLeDiff, Nat.reduceBEq, fBox, tBox, fdV, tyV, undef, Nat.mul_one]
  refine hK _ _ ?_
  clear hK K
  refine cv_seq_k fun K hK => ?_
  refine cv_seq_k fun K hK => ?_
  refine cv_region_then rfl ?_
  simp -implicitDefEqProofs (disch := first | omega | decide) only [cA, Int.reduceToNat, Int.reduceLT, Int.reduceLE, Int.reduceEq, Int.reduceAdd, Int.reduceSub, Int.reduceMul, Int.reduceNeg, Int.reduceMod, Int.reduceDiv, pickL, evParts, gst, strV, List.set_cons_zero, List.set_cons_succ, vcd_nil, vcd_cons, stepV, pureV, pureX, pureR, readV, pv, binv, ldV, stV, condV, ev, fresh, nth, thenQ, blockQ, retV, retQ, catParts, fillL, cmpv, intsEq, ones, tyA, fnA, if_true, if_false, ite_true, ite_false, forall_const, implies_true, eq_self, ne_eq, reduceCtorEq, Value.cells, Value.oneCell', Nat.reduceAdd, Nat.reduceSub, Nat.reduceMul, Nat.reduceEqDiff, Nat.reduceLT, Nat.reduceLeDiff, Nat.reduceBEq, fBox, tBox, fdV, tyV, undef, Nat.mul_one]
  refine hK _ _ ?_
  clear hK K
  refine cv_cond ?_
  simp -implicitDefEqProofs (disch := first | omega | decide) only [cA, Int.reduceToNat, Int.reduceLT, Int.reduceLE, Int.reduceEq, Int.reduceAdd, Int.reduceSub, Int.reduceMul, Int.reduceNeg, Int.reduceMod, Int.reduceDiv, pickL, evParts, gst, strV, List.set_cons_zero, List.set_cons_succ, vcd_nil, vcd_cons, stepV, pureV, pureX, pureR, readV, pv, binv, ldV, stV, condV, ev, fresh, nth, thenQ, blockQ, retV, retQ, catParts, fillL, cmpv, intsEq, ones, tyA, fnA, if_true, if_false, ite_true, ite_false, forall_const, implies_true, eq_self, ne_eq, reduceCtorEq, Value.cells, Value.oneCell', Nat.reduceAdd, Nat.reduceSub, Nat.reduceMul, Nat.reduceEqDiff, Nat.reduceLT, Nat.reduceLeDiff, Nat.reduceBEq, fBox, tBox, fdV, tyV, undef, Nat.mul_one]
  refine ⟨fun hc => ?_, fun hc => ?_⟩
  · refine cv_seq_k fun K hK => ?_
    refine cv_region_then rfl ?_
    simp -implicitDefEqProofs (disch := first | omega | decide) only [cA, Int.reduceToNat, Int.reduceLT, Int.reduceLE, Int.reduceEq, Int.reduceAdd, Int.reduceSub, Int.reduceMul, Int.reduceNeg, Int.reduceMod, Int.reduceDiv, pickL, evParts, gst, strV, List.set_cons_zero, List.set_cons_succ, vcd_nil, vcd_cons, stepV, pureV, pureX, pureR, readV, pv, binv, ldV, stV, condV, ev, fresh, nth, thenQ, blockQ, retV, retQ, catParts, fillL, cmpv, intsEq, ones, tyA, fnA, if_true, if_false, ite_true, ite_false, forall_const, implies_true, eq_self, ne_eq, reduceCtorEq, Value.cells, Value.oneCell', Nat.reduceAdd, Nat.reduceSub, Nat.reduceMul, Nat.reduceEqDiff, Nat.reduceLT, Nat.reduceLeDiff, Nat.reduceBEq, fBox, tBox, fdV, tyV, undef, Nat.mul_one]
    refine callV_ret (fun w hw => awake_any w) ?_
    try simp -implicitDefEqProofs (disch := first | omega | decide) only [cA, Int.reduceToNat, Int.reduceLT, Int.reduceLE, Int.reduceEq, Int.reduceAdd, Int.reduceSub, Int.reduceMul, Int.reduceNeg, Int.reduceMod, Int.reduceDiv, pickL, evParts, gst, strV, List.set_cons_zero, List.set_cons_succ, vcd_nil, vcd_cons, stepV, pureV, pureX, pureR, readV, pv, binv, ldV, stV, condV, ev, fresh, nth, thenQ, blockQ, retV, retQ, catParts, fillL, cmpv, intsEq, ones, tyA, fnA, if_true, if_false, ite_true, ite_false, forall_const, implies_true, eq_self, ne_eq, reduceCtorEq, Value.cells, Value.oneCell', Nat.reduceAdd, Nat.reduceSub, Nat.reduceMul, Nat.reduceEqDiff, Nat.reduceLT, Nat.reduceLeDiff, Nat.reduceBEq, fBox, tBox, fdV, tyV, undef, Nat.mul_one]
    refine hK _ _ ?_
    clear hK K
    refine cv_ret ⟨_, (by simp -implicitDefEqProofs (disch := first | omega | decide) only [cA, Int.reduceToNat, Int.reduceLT, Int.reduceLE, Int.reduceEq, Int.reduceAdd, Int.reduceSub, Int.reduceMul, Int.reduceNeg, Int.reduceMod, Int.reduceDiv, pickL, evParts, gst, strV, List.set_cons_zero, List.set_cons_succ, vcd_nil, vcd_cons, stepV, pureV, pureX, pureR, readV, pv, binv, ldV, stV, condV, ev, fresh, nth, thenQ, blockQ, retV, retQ, catParts, fillL, cmpv, intsEq, ones, tyA, fnA, if_true, if_false, ite_true, ite_false, forall_const, implies_true, eq_self, ne_eq, reduceCtorEq, Value.cells, Value.oneCell', Nat.reduceAdd, Nat.reduceSub, Nat.reduceMul, Nat.reduceEqDiff, Nat.reduceLT, Nat.reduceLeDiff, Nat.reduceBEq, fBox, tBox, fdV, tyV, undef, Nat.mul_one]; rfl), fun w hw => ?_⟩
    exact ⟨rfl, hw.below⟩
  have hn : n ≤ 70 := by have := of_decide_eq_false hc; omega
  refine cv_skip ?_
  try simp only [blockQ, thenQ]
  refine hK _ _ ?_
  clear hK K
  refine cv_seq_k fun K hK => ?_
  refine cv_region_then rfl ?_
  simp -implicitDefEqProofs (disch := first | omega | decide) only [cA, Int.reduceToNat, Int.reduceLT, Int.reduceLE, Int.reduceEq, Int.reduceAdd, Int.reduceSub, Int.reduceMul, Int.reduceNeg, Int.reduceMod, Int.reduceDiv, pickL, evParts, gst, strV, List.set_cons_zero, List.set_cons_succ, vcd_nil, vcd_cons, stepV, pureV, pureX, pureR, readV, pv, binv, ldV, stV, condV, ev, fresh, nth, thenQ, blockQ, retV, retQ, catParts, fillL, cmpv, intsEq, ones, tyA, fnA, if_true, if_false, ite_true, ite_false, forall_const, implies_true, eq_self, ne_eq, reduceCtorEq, Value.cells, Value.oneCell', Nat.reduceAdd, Nat.reduceSub, Nat.reduceMul, Nat.reduceEqDiff, Nat.reduceLT, Nat.reduceLeDiff, Nat.reduceBEq, fBox, tBox, fdV, tyV, undef, Nat.mul_one]
  refine hK _ _ ?_
  clear hK K
  refine cv_seq_k fun K hK => ?_
  refine cv_seq_k fun K hK => ?_
  refine cv_region_then rfl ?_
  simp -implicitDefEqProofs (disch := first | omega | decide) only [cA, Int.reduceToNat, Int.reduceLT, Int.reduceLE, Int.reduceEq, Int.reduceAdd, Int.reduceSub, Int.reduceMul, Int.reduceNeg, Int.reduceMod, Int.reduceDiv, pickL, evParts, gst, strV, List.set_cons_zero, List.set_cons_succ, vcd_nil, vcd_cons, stepV, pureV, pureX, pureR, readV, pv, binv, ldV, stV, condV, ev, fresh, nth, thenQ, blockQ, retV, retQ, catParts, fillL, cmpv, intsEq, ones, tyA, fnA, if_true, if_false, ite_true, ite_false, forall_const, implies_true, eq_self, ne_eq, reduceCtorEq, Value.cells, Value.oneCell', Nat.reduceAdd, Nat.reduceSub, Nat.reduceMul, Nat.reduceEqDiff, Nat.reduceLT, Nat.reduceLeDiff, Nat.reduceBEq, fBox, tBox, fdV, tyV, undef, Nat.mul_one]
  refine hK _ _ ?_
  clear hK K
  refine cv_gen fun G1 hG => ?_
  have g1_0 := congrFun hG 0
  have g1_1 := congrFun hG 1
  have g1_5 := congrFun hG 5
  have g1_6 := congrFun hG 6
  have g1_7 := congrFun hG 7
  clear hG
  try simp -implicitDefEqProofs (disch := first | omega | decide) only [cA, Int.reduceToNat, Int.reduceLT, Int.reduceLE, Int.reduceEq, Int.reduceAdd, Int.reduceSub, Int.reduceMul, Int.reduceNeg, Int.reduceMod, Int.reduceDiv, pickL, evParts, gst, strV, List.set_cons_zero, List.set_cons_succ, vcd_nil, vcd_cons, stepV, pureV, pureX, pureR, readV, pv, binv, ldV, stV, condV, ev, fresh, nth, thenQ, blockQ, retV, retQ, catParts, fillL, cmpv, intsEq, ones, tyA, fnA, if_true, if_false, ite_true, ite_false, forall_const, implies_true, eq_self, ne_eq, reduceCtorEq, Value.cells, Value.oneCell', Nat.reduceAdd, Nat.reduceSub, Nat.reduceMul, Nat.reduceEqDiff, Nat.reduceLT, Nat.reduceLeDiff, Nat.reduceBEq, fBox, tBox, fdV, tyV, undef, Nat.mul_one] at g1_0
  try simp -implicitDefEqProofs (disch := first | omega | decide) only [cA, Int.reduceToNat, Int.reduceLT, Int.reduceLE, Int.reduceEq, Int.reduceAdd, Int.reduceSub, Int.reduceMul, Int.reduceNeg, Int.reduceMod, Int.reduceDiv, pickL, evParts, gst, strV, List.set_cons_zero, List.set_cons_succ, vcd_nil, vcd_cons, stepV, pureV, pureX, pureR, readV, pv, binv, ldV, stV, condV, ev, fresh, nth, thenQ, blockQ, retV, retQ, catParts, fillL, cmpv, intsEq, ones, tyA, fnA, if_true, if_false, ite_true, ite_false, forall_const, implies_true, eq_self, ne_eq, reduceCtorEq, Value.cells, Value.oneCell', Nat.reduceAdd, Nat.reduceSub, Nat.reduceMul, Nat.reduceEqDiff, Nat.reduceLT, Nat.reduceLeDiff, Nat.reduceBEq, fBox, tBox, fdV, tyV, undef, Nat.mul_one] at g1_1
  try simp -implicitDefEqProofs (disch := first | omega | decide) only [cA, Int.reduceToNat, Int.reduceLT, Int.reduceLE, Int.reduceEq, Int.reduceAdd, Int.reduceSub, Int.reduceMul, Int.reduceNeg, Int.reduceMod, Int.reduceDiv, pickL, evParts, gst, strV, List.set_cons_zero, List.set_cons_succ, vcd_nil, vcd_cons, stepV, pureV, pureX, pureR, readV, pv, binv, ldV, stV, condV, ev, fresh, nth, thenQ, blockQ, retV, retQ, catParts, fillL, cmpv, intsEq, ones, tyA, fnA, if_true, if_false, ite_true, ite_false, forall_const, implies_true, eq_self, ne_eq, reduceCtorEq, Value.cells, Value.oneCell', Nat.reduceAdd, Nat.reduceSub, Nat.reduceMul, Nat.reduceEqDiff, Nat.reduceLT, Nat.reduceLeDiff, Nat.reduceBEq, fBox, tBox, fdV, tyV, undef, Nat.mul_one] at g1_5
  try simp -implicitDefEqProofs (disch := first | omega | decide) only [cA, Int.reduceToNat, Int.reduceLT, Int.reduceLE, Int.reduceEq, Int.reduceAdd, Int.reduceSub, Int.reduceMul, Int.reduceNeg, Int.reduceMod, Int.reduceDiv, pickL, evParts, gst, strV, List.set_cons_zero, List.set_cons_succ, vcd_nil, vcd_cons, stepV, pureV, pureX, pureR, readV, pv, binv, ldV, stV, condV, ev, fresh, nth, thenQ, blockQ, retV, retQ, catParts, fillL, cmpv, intsEq, ones, tyA, fnA, if_true, if_false, ite_true, ite_false, forall_const, implies_true, eq_self, ne_eq, reduceCtorEq, Value.cells, Value.oneCell', Nat.reduceAdd, Nat.reduceSub, Nat.reduceMul, Nat.reduceEqDiff, Nat.reduceLT, Nat.reduceLeDiff, Nat.reduceBEq, fBox, tBox, fdV, tyV, undef, Nat.mul_one] at g1_6
  try simp -implicitDefEqProofs (disch := first | omega | decide) only [cA, Int.reduceToNat, Int.reduceLT, Int.reduceLE, Int.reduceEq, Int.reduceAdd, Int.reduceSub, Int.reduceMul, Int.reduceNeg, Int.reduceMod, Int.reduceDiv, pickL, evParts, gst, strV, List.set_cons_zero, List.set_cons_succ, vcd_nil, vcd_cons, stepV, pureV, pureX, pureR, readV, pv, binv, ldV, stV, condV, ev, fresh, nth, thenQ, blockQ, retV, retQ, catParts, fillL, cmpv, intsEq, ones, tyA, fnA, if_true, if_false, ite_true, ite_false, forall_const, implies_true, eq_self, ne_eq, reduceCtorEq, Value.cells, Value.oneCell', Nat.reduceAdd, Nat.reduceSub, Nat.reduceMul, Nat.reduceEqDiff, Nat.reduceLT, Nat.reduceLeDiff, Nat.reduceBEq, fBox, tBox, fdV, tyV, undef, Nat.mul_one] at g1_7
  refine cv_block ?_
  refine cv_nil 5 1 ?_
  refine cv_nil 5 1 ?_
  refine cv_loop (fun F' L' => ∃ (k : Nat) (A5 A6 : Option Addr) (n5 c5 n6 c6 : Nat) (m5 m6 : List Nat), F' 0 = G1 0 ∧ F' 1 = G1 1 ∧ F' 5 = .slice A5 n5 c5 ∧ F' 6 = .slice A6 n6 c6 ∧ F' 7 = .int .i64 (k : Int) ∧ L' = [.row (.slice A5 n5 c5) 5 1 n5 (byt m5), .row (.slice A6 n6 c6) 5 1 n6 (byt m6)] ∧ k ≤ n ∧ (∀ x ∈ m5, x < 256) ∧ (∀ x ∈ m6, x < 256) ∧ m5.length = n5 ∧ m6.length = n6 ∧ n5 ≤ 10 * k ∧ n6 ≤ 10 * k) (fun F' L' => 80 - (intOf (F' 7)).toNat) ?_ ?_
  · refine ⟨0, none, none, 0, 0, 0, 0, [], [], ?_⟩
    simp -implicitDefEqProofs (disch := first | omega | decide) only [cA, Int.reduceToNat, Int.reduceLT, Int.reduceLE, Int.reduceEq, Int.reduceAdd, Int.reduceSub, Int.reduceMul, Int.reduceNeg, Int.reduceMod, Int.reduceDiv, pickL, evParts, gst, strV, List.set_cons_zero, List.set_cons_succ, vcd_nil, vcd_cons, stepV, pureV, pureX, pureR, readV, pv, binv, ldV, stV, condV, ev, fresh, nth, thenQ, blockQ, retV, retQ, catParts, fillL, cmpv, intsEq, ones, tyA, fnA, if_true, if_false, ite_true, ite_false, forall_const, implies_true, eq_self, ne_eq, reduceCtorEq, Value.cells, Value.oneCell', Nat.reduceAdd, Nat.reduceSub, Nat.reduceMul, Nat.reduceEqDiff, Nat.reduceLT, Nat.reduceLeDiff, Nat.reduceBEq, fBox, tBox, fdV, tyV, undef, Nat.mul_one, g1_0, g1_1, g1_5, g1_6, g1_7]
    exact ⟨rfl, by omega, by simp, by simp⟩
  intro G2 L' hI
  obtain ⟨k, A5, A6, n5, c5, n6, c6, m5, m6, q0, q1, q5, q6, q7, rfl, ⟨hk, hb5, hb6, hl5, hl6, h5, h6⟩⟩ := hI
  have g2_0 := q0.trans g1_0
  have g2_1 := q1.trans g1_1
  have g2_5 := q5
  have g2_6 := q6
  have g2_7 := q7
  clear q0 q1 q5 q6 q7
  refine cv_seq_k fun K hK => ?_
  refine cv_seq_k fun K hK => ?_
  refine cv_region_then rfl ?_
  simp -implicitDefEqProofs (disch := first | omega | decide) only [cA, Int.reduceToNat, Int.reduceLT, Int.reduceLE, Int.reduceEq, Int.reduceAdd, Int.reduceSub, Int.reduceMul, Int.reduceNeg, Int.reduceMod, Int.reduceDiv, pickL, evParts, gst, strV, List.set_cons_zero, List.set_cons_succ, vcd_nil, vcd_cons, stepV, pureV, pureX, pureR, readV, pv, binv, ldV, stV, condV, ev, fresh, nth, thenQ, blockQ, retV, retQ, catParts, fillL, cmpv, intsEq, ones, tyA, fnA, if_true, if_false, ite_true, ite_false, forall_const, implies_true, eq_self, ne_eq, reduceCtorEq, Value.cells, Value.oneCell', Nat.reduceAdd, Nat.reduceSub, Nat.reduceMul, Nat.reduceEqDiff, Nat.reduceLT, Nat.reduceLeDiff, Nat.reduceBEq, fBox, tBox, fdV, tyV, undef, Nat.mul_one, g1_0, g1_1, g1_5, g1_6, g1_7, g2_0, g2_1, g2_5, g2_6, g2_7]
  refine hK _ _ ?_
  clear hK K
  refine cv_cond ?_
  simp -implicitDefEqProofs (disch := first | omega | decide) only [cA, Int.reduceToNat, Int.reduceLT, Int.reduceLE, Int.reduceEq, Int.reduceAdd, Int.reduceSub, Int.reduceMul, Int.reduceNeg, Int.reduceMod, Int.reduceDiv, pickL, evParts, gst, strV, List.set_cons_zero, List.set_cons_succ, vcd_nil, vcd_cons, stepV, pureV, pureX, pureR, readV, pv, binv, ldV, stV, condV, ev, fresh, nth, thenQ, blockQ, retV, retQ, catParts, fillL, cmpv, intsEq, ones, tyA, fnA, if_true, if_false, ite_true, ite_false, forall_const, implies_true, eq_self, ne_eq, reduceCtorEq, Value.cells, Value.oneCell', Nat.reduceAdd, Nat.reduceSub, Nat.reduceMul, Nat.reduceEqDiff, Nat.reduceLT, Nat.reduceLeDiff, Nat.reduceBEq, fBox, tBox, fdV, tyV, undef, Nat.mul_one, g1_0, g1_1, g1_5, g1_6, g1_7, g2_0, g2_1, g2_5, g2_6, g2_7]
  refine ⟨fun hc => ?_, fun hc => ?_⟩
  · refine cv_skip ?_
    try simp only [blockQ, thenQ]
    have hlt : k < n := by have := of_decide_eq_true ‹_›; omega
    obtain ⟨b0, off, rfl, hb0, -⟩ := hE.cells (by omega)
    obtain ⟨x, hx⟩ := some_of (l := l) (i := k) (by omega)
    have hx64 := hl x (List.mem_of_getElem? hx)
    have hpx := putU_len10 hx64
    refine hK _ _ ?_
    clear hK K
    refine cv_seq_k fun K hK => ?_
    refine cv_block ?_
    refine cv_seq_k fun K hK => ?_
    refine cv_region_then rfl ?_
    simp -implicitDefEqProofs (disch := first | omega | decide) only [cA, Int.reduceToNat, Int.reduceLT, Int.reduceLE, Int.reduceEq, Int.reduceAdd, Int.reduceSub, Int.reduceMul, Int.reduceNeg, Int.reduceMod, Int.reduceDiv, pickL, evParts, gst, strV, List.set_cons_zero, List.set_cons_succ, vcd_nil, vcd_cons, stepV, pureV, pureX, pureR, readV, pv, binv, ldV, stV, condV, ev, fresh, nth, thenQ, blockQ, retV, retQ, catParts, fillL, cmpv, intsEq, ones, tyA, fnA, if_true, if_false, ite_true, ite_false, forall_const, implies_true, eq_self, ne_eq, reduceCtorEq, Value.cells, Value.oneCell', Nat.reduceAdd, Nat.reduceSub, Nat.reduceMul, Nat.reduceEqDiff, Nat.reduceLT, Nat.reduceLeDiff, Nat.reduceBEq, fBox, tBox, fdV, tyV, undef, Nat.mul_one, g1_0, g1_1, g1_5, g1_6, g1_7, g2_0, g2_1, g2_5, g2_6, g2_7]
    refine ⟨_, hE.ld1 (m := 1) (by kernel_rfl) (u64_get hx), fun tok htok => ?_⟩
    subst htok
    simp -implicitDefEqProofs (disch := first | omega | decide) only [cA, Int.reduceToNat, Int.reduceLT, Int.reduceLE, Int.reduceEq, Int.reduceAdd, Int.reduceSub, Int.reduceMul, Int.reduceNeg, Int.reduceMod, Int.reduceDiv, pickL, evParts, gst, strV, List.set_cons_zero, List.set_cons_succ, vcd_nil, vcd_cons, stepV, pureV, pureX, pureR, readV, pv, binv, ldV, stV, condV, ev, fresh, nth, thenQ, blockQ, retV, retQ, catParts, fillL, cmpv, intsEq, ones, tyA, fnA, if_true, if_false, ite_true, ite_false, forall_const, implies_true, eq_self, ne_eq, reduceCtorEq, Value.cells, Value.oneCell', Nat.reduceAdd, Nat.reduceSub, Nat.reduceMul, Nat.reduceEqDiff, Nat.reduceLT, Nat.reduceLeDiff, Nat.reduceBEq, fBox, tBox, fdV, tyV, undef, Nat.mul_one, g1_0, g1_1, g1_5, g1_6, g1_7, g2_0, g2_1, g2_5, g2_6, g2_7]
    refine hK _ _ ?_
    clear hK K
    refine cv_seq_k fun K hK => ?_
    refine cv_region_then rfl ?_
    simp -implicitDefEqProofs (disch := first | omega | decide) only [cA, Int.reduceToNat, Int.reduceLT, Int.reduceLE, Int.reduceEq, Int.reduceAdd, Int.reduceSub, Int.reduceMul, Int.reduceNeg, Int.reduceMod, Int.reduceDiv, pickL, evParts, gst, strV, List.set_cons_zero, List.set_cons_succ, vcd_nil, vcd_cons, stepV, pureV, pureX, pureR, readV, pv, binv, ldV, stV, condV, ev, fresh, nth, thenQ, blockQ, retV, retQ, catParts, fillL, cmpv, intsEq, ones, tyA, fnA, if_true, if_false, ite_true, ite_false, forall_const, implies_true, eq_self, ne_eq, reduceCtorEq, Value.cells, Value.oneCell', Nat.reduceAdd, Nat.reduceSub, Nat.reduceMul, Nat.reduceEqDiff, Nat.reduceLT, Nat.reduceLeDiff, Nat.reduceBEq, fBox, tBox, fdV, tyV, undef, Nat.mul_one, g1_0, g1_1, g1_5, g1_6, g1_7, g2_0, g2_1, g2_5, g2_6, g2_7]
    refine callV_row (fun A' n' c' => .slice A' n' c') (fun w hw => rput_any A5 n5 c5 m5 x w (hw.slb 0 rfl) (by omega) hx64) ?_
    intro A7 n7 c7 hl7 _
    have hn7 : (m5 ++ putU x).length = n7 := byt_row hl7
    have hn7' : n7 ≤ n5 + 10 := by rw [List.length_append] at hn7; omega
    simp -implicitDefEqProofs (disch := first | omega | decide) only [cA, Int.reduceToNat, Int.reduceLT, Int.reduceLE, Int.reduceEq, Int.reduceAdd, Int.reduceSub, Int.reduceMul, Int.reduceNeg, Int.reduceMod, Int.reduceDiv, pickL, evParts, gst, strV, List.set_cons_zero, List.set_cons_succ, vcd_nil, vcd_cons, stepV, pureV, pureX, pureR, readV, pv, binv, ldV, stV, condV, ev, fresh, nth, thenQ, blockQ, retV, retQ, catParts, fillL, cmpv, intsEq, ones, tyA, fnA, if_true, if_false, ite_true, ite_false, forall_const, implies_true, eq_self, ne_eq, reduceCtorEq, Value.cells, Value.oneCell', Nat.reduceAdd, Nat.reduceSub, Nat.reduceMul, Nat.reduceEqDiff, Nat.reduceLT, Nat.reduceLeDiff, Nat.reduceBEq, fBox, tBox, fdV, tyV, undef, Nat.mul_one, g1_0, g1_1, g1_5, g1_6, g1_7, g2_0, g2_1, g2_5, g2_6, g2_7]
    refine hK _ _ ?_
    clear hK K
    refine cv_pick [0, 2] (by decide) ?_
    simp only [pickL, nth]
    refine cv_gen fun G3 hG => ?_
    have g3_0 := congrFun hG 0
    have g3_1 := congrFun hG 1
    have g3_5 := congrFun hG 5
    have g3_6 := congrFun hG 6
    have g3_7 := congrFun hG 7
    have g3_8 := congrFun hG 8
    clear hG
    try simp -implicitDefEqProofs (disch := first | omega | decide) only [cA, Int.reduceToNat, Int.reduceLT, Int.reduceLE, Int.reduceEq, Int.reduceAdd, Int.reduceSub, Int.reduceMul, Int.reduceNeg, Int.reduceMod, Int.reduceDiv, pickL, evParts, gst, strV, List.set_cons_zero, List.set_cons_succ, vcd_nil, vcd_cons, stepV, pureV, pureX, pureR, readV, pv, binv, ldV, stV, condV, ev, fresh, nth, thenQ, blockQ, retV, retQ, catParts, fillL, cmpv, intsEq, ones, tyA, fnA, if_true, if_false, ite_true, ite_false, forall_const, implies_true, eq_self, ne_eq, reduceCtorEq, Value.cells, Value.oneCell', Nat.reduceAdd, Nat.reduceSub, Nat.reduceMul, Nat.reduceEqDiff, Nat.reduceLT, Nat.reduceLeDiff, Nat.reduceBEq, fBox, tBox, fdV, tyV, undef, Nat.mul_one, g1_0, g1_1, g1_5, g1_6, g1_7, g2_0, g2_1, g2_5, g2_6, g2_7] at g3_0
    try simp -implicitDefEqProofs (disch := first | omega | decide) only [cA, Int.reduceToNat, Int.reduceLT, Int.reduceLE, Int.reduceEq, Int.reduceAdd, Int.reduceSub, Int.reduceMul, Int.reduceNeg, Int.reduceMod, Int.reduceDiv, pickL, evParts, gst, strV, List.set_cons_zero, List.set_cons_succ, vcd_nil, vcd_cons, stepV, pureV, pureX, pureR, readV, pv, binv, ldV, stV, condV, ev, fresh, nth, thenQ, blockQ, retV, retQ, catParts, fillL, cmpv, intsEq, ones, tyA, fnA, if_true, if_false, ite_true, ite_false, forall_const, implies_true, eq_self, ne_eq, reduceCtorEq, Value.cells, Value.oneCell', Nat.reduceAdd, Nat.reduceSub, Nat.reduceMul, Nat.reduceEqDiff, Nat.reduceLT, Nat.reduceLeDiff, Nat.reduceBEq, fBox, tBox, fdV, tyV, undef, Nat.mul_one, g1_0, g1_1, g1_5, g1_6, g1_7, g2_0, g2_1, g2_5, g2_6, g2_7] at g3_1
    try simp -implicitDefEqProofs (disch := first | omega | decide) only [cA, Int.reduceToNat, Int.reduceLT, Int.reduceLE, Int.reduceEq, Int.reduceAdd, Int.reduceSub, Int.reduceMul, Int.reduceNeg, Int.reduceMod, Int.reduceDiv, pickL, evParts, gst, strV, List.set_cons_zero, List.set_cons_succ, vcd_nil, vcd_cons, stepV, pureV, pureX, pureR, readV, pv, binv, ldV, stV, condV, ev, fresh, nth, thenQ, blockQ, retV, retQ, catParts, fillL, cmpv, intsEq, ones, tyA, fnA, if_true, if_false, ite_true, ite_false, forall_const, implies_true, eq_self, ne_eq, reduceCtorEq, Value.cells, Value.oneCell', Nat.reduceAdd, Nat.reduceSub, Nat.reduceMul, Nat.reduceEqDiff, Nat.reduceLT, Nat.reduceLeDiff, Nat.reduceBEq, fBox, tBox, fdV, tyV, undef, Nat.mul_one, g1_0, g1_1, g1_5, g1_6, g1_7, g2_0, g2_1, g2_5, g2_6, g2_7] at g3_5
    try simp -implicitDefEqProofs (disch := first | omega | decide) only [cA, Int.reduceToNat, Int.reduceLT, Int.reduceLE, Int.reduceEq, Int.reduceAdd, Int.reduceSub, Int.reduceMul, Int.reduceNeg, Int.reduceMod, Int.reduceDiv, pickL, evParts, gst, strV, List.set_cons_zero, List.set_cons_succ, vcd_nil, vcd_cons, stepV, pureV, pureX, pureR, readV, pv, binv, ldV, stV, condV, ev, fresh, nth, thenQ, blockQ, retV, retQ, catParts, fillL, cmpv, intsEq, ones, tyA, fnA, if_true, if_false, ite_true, ite_false, forall_const, implies_true, eq_self, ne_eq, reduceCtorEq, Value.cells, Value.oneCell', Nat.reduceAdd, Nat.reduceSub, Nat.reduceMul, Nat.reduceEqDiff, Nat.reduceLT, Nat.reduceLeDiff, Nat.reduceBEq, fBox, tBox, fdV, tyV, undef, Nat.mul_one, g1_0, g1_1, g1_5, g1_6, g1_7, g2_0, g2_1, g2_5, g2_6, g2_7] at g3_6
    try simp -implicitDefEqProofs (disch := first | omega | decide) only [cA, Int.reduceToNat, Int.reduceLT, Int.reduceLE, Int.reduceEq, Int.reduceAdd, Int.reduceSub, Int.reduceMul, Int.reduceNeg, Int.reduceMod, Int.reduceDiv, pickL, evParts, gst, strV, List.set_cons_zero, List.set_cons_succ, vcd_nil, vcd_cons, stepV, pureV, pureX, pureR, readV, pv, binv, ldV, stV, condV, ev, fresh, nth, thenQ, blockQ, retV, retQ, catParts, fillL, cmpv, intsEq, ones, tyA, fnA, if_true, if_false, ite_true, ite_false, forall_const, implies_true, eq_self, ne_eq, reduceCtorEq, Value.cells, Value.oneCell', Nat.reduceAdd, Nat.reduceSub, Nat.reduceMul, Nat.reduceEqDiff, Nat.reduceLT, Nat.reduceLeDiff, Nat.reduceBEq, fBox, tBox, fdV, tyV, undef, Nat.mul_one, g1_0, g1_1, g1_5, g1_6, g1_7, g2_0, g2_1, g2_5, g2_6, g2_7] at g3_7
    try simp -implicitDefEqProofs (disch := first | omega | decide) only [cA, Int.reduceToNat, Int.reduceLT, Int.reduceLE, Int.reduceEq, Int.reduceAdd, Int.reduceSub, Int.reduceMul, Int.reduceNeg, Int.reduceMod, Int.reduceDiv, pickL, evParts, gst, strV, List.set_cons_zero, List.set_cons_succ, vcd_nil, vcd_cons, stepV, pureV, pureX, pureR, readV, pv, binv, ldV, stV, condV, ev, fresh, nth, thenQ, blockQ, retV, retQ, catParts, fillL, cmpv, intsEq, ones, tyA, fnA, if_true, if_false, ite_true, ite_false, forall_const, implies_true, eq_self, ne_eq, reduceCtorEq, Value.cells, Value.oneCell', Nat.reduceAdd, Nat.reduceSub, Nat.reduceMul, Nat.reduceEqDiff, Nat.reduceLT, Nat.reduceLeDiff, Nat.reduceBEq, fBox, tBox, fdV, tyV, undef, Nat.mul_one, g1_0, g1_1, g1_5, g1_6, g1_7, g2_0, g2_1, g2_5, g2_6, g2_7] at g3_8
    refine cv_seq_k fun K hK => ?_
    refine cv_cut (fun _ _ => True) (fun F' L' => ∃ (y : Nat), F' 0 = G3 0 ∧ F' 1 = G3 1 ∧ F' 5 = G3 5 ∧ F' 6 = G3 6 ∧ F' 7 = G3 7 ∧ F' 8 = .int .u64 (y : Int) ∧ L' = [.row (.slice A7 n7 c7) 5 1 n7 (byt (m5 ++ putU x)), .row (.slice A6 n6 c6) 5 1 n6 (byt m6)] ∧ y < 18446744073709551616) ?_ ?_
    · refine cv_seq_k fun K hK => ?_
      refine cv_region_then rfl ?_
      simp -implicitDefEqProofs (disch := first | omega | decide) only [cA, Int.reduceToNat, Int.reduceLT, Int.reduceLE, Int.reduceEq, Int.reduceAdd, Int.reduceSub, Int.reduceMul, Int.reduceNeg, Int.reduceMod, Int.reduceDiv, pickL, evParts, gst, strV, List.set_cons_zero, List.set_cons_succ, vcd_nil, vcd_cons, stepV, pureV, pureX, pureR, readV, pv, binv, ldV, stV, condV, ev, fresh, nth, thenQ, blockQ, retV, retQ, catParts, fillL, cmpv, intsEq, ones, tyA, fnA, if_true, if_false, ite_true, ite_false, forall_const, implies_true, eq_self, ne_eq, reduceCtorEq, Value.cells, Value.oneCell', Nat.reduceAdd, Nat.reduceSub, Nat.reduceMul, Nat.reduceEqDiff, Nat.reduceLT, Nat.reduceLeDiff, Nat.reduceBEq, fBox, tBox, fdV, tyV, undef, Nat.mul_one, g1_0, g1_1, g1_5, g1_6, g1_7, g2_0, g2_1, g2_5, g2_6, g2_7, g3_0, g3_1, g3_5, g3_6, g3_7, g3_8]
      refine hK _ _ ?_
      clear hK K
      refine cv_cond ?_
      simp -implicitDefEqProofs (disch := first | omega | decide) only [cA, Int.reduceToNat, Int.reduceLT, Int.reduceLE, Int.reduceEq, Int.reduceAdd, Int.reduceSub, Int.reduceMul, Int.reduceNeg, Int.reduceMod, Int.reduceDiv, pickL, evParts, gst, strV, List.set_cons_zero, List.set_cons_succ, vcd_nil, vcd_cons, stepV, pureV, pureX, pureR, readV, pv, binv, ldV, stV, condV, ev, fresh, nth, thenQ, blockQ, retV, retQ, catParts, fillL, cmpv, intsEq, ones, tyA, fnA, if_true, if_false, ite_true, ite_false, forall_const, implies_true, eq_self, ne_eq, reduceCtorEq, Value.cells, Value.oneCell', Nat.reduceAdd, Nat.reduceSub, Nat.reduceMul, Nat.reduceEqDiff, Nat.reduceLT, Nat.reduceLeDiff, Nat.reduceBEq, fBox, tBox, fdV, tyV, undef, Nat.mul_one, g1_0, g1_1, g1_5, g1_6, g1_7, g2_0, g2_1, g2_5, g2_6, g2_7, g3_0, g3_1, g3_5, g3_6, g3_7, g3_8]
      refine ⟨fun hc => ?_, fun hc => ?_⟩
      · refine cv_region_q rfl ?_
        simp -implicitDefEqProofs (disch := first | omega | decide) only [cA, Int.reduceToNat, Int.reduceLT, Int.reduceLE, Int.reduceEq, Int.reduceAdd, Int.reduceSub, Int.reduceMul, Int.reduceNeg, Int.reduceMod, Int.reduceDiv, pickL, evParts, gst, strV, List.set_cons_zero, List.set_cons_succ, vcd_nil, vcd_cons, stepV, pureV, pureX, pureR, readV, pv, binv, ldV, stV, condV, ev, fresh, nth, thenQ, blockQ, retV, retQ, catParts, fillL, cmpv, intsEq, ones, tyA, fnA, if_true, if_false, ite_true, ite_false, forall_const, implies_true, eq_self, ne_eq, reduceCtorEq, Value.cells, Value.oneCell', Nat.reduceAdd, Nat.reduceSub, Nat.reduceMul, Nat.reduceEqDiff, Nat.reduceLT, Nat.reduceLeDiff, Nat.reduceBEq, fBox, tBox, fdV, tyV, undef, Nat.mul_one, g1_0, g1_1, g1_5, g1_6, g1_7, g2_0, g2_1, g2_5, g2_6, g2_7, g3_0, g3_1, g3_5, g3_6, g3_7, g3_8]
        exact ⟨x % 70000, rfl, by omega⟩
      · have e1 : IntKind.u64.wrap (flds % 36) = (((flds % 36).toNat : Nat) : Int) := by rw [IntKind.wrap_u64]; omega
        refine cv_region_q rfl ?_
        simp -implicitDefEqProofs (disch := first | omega | decide) only [cA, Int.reduceToNat, Int.reduceLT, Int.reduceLE, Int.reduceEq, Int.reduceAdd, Int.reduceSub, Int.reduceMul, Int.reduceNeg, Int.reduceMod, Int.reduceDiv, pickL, evParts, gst, strV, List.set_cons_zero, List.set_cons_succ, vcd_nil, vcd_cons, stepV, pureV, pureX, pureR, readV, pv, binv, ldV, stV, condV, ev, fresh, nth, thenQ, blockQ, retV, retQ, catParts, fillL, cmpv, intsEq, ones, tyA, fnA, if_true, if_false, ite_true, ite_false, forall_const, implies_true, eq_self, ne_eq, reduceCtorEq, Value.cells, Value.oneCell', Nat.reduceAdd, Nat.reduceSub, Nat.reduceMul, Nat.reduceEqDiff, Nat.reduceLT, Nat.reduceLeDiff, Nat.reduceBEq, fBox, tBox, fdV, tyV, undef, Nat.mul_one, e1, g1_0, g1_1, g1_5, g1_6, g1_7, g2_0, g2_1, g2_5, g2_6, g2_7, g3_0, g3_1, g3_5, g3_6, g3_7, g3_8]
        exact ⟨(flds % 36).toNat, rfl, by omega⟩
    intro G4 L' _ hF
    obtain ⟨y, q0, q1, q5, q6, q7, q8, rfl, hy⟩ := hF
    have g4_0 := q0.trans g3_0
    have g4_1 := q1.trans g3_1
    have g4_5 := q5.trans g3_5
    have g4_6 := q6.trans g3_6
    have g4_7 := q7.trans g3_7
    have g4_8 := q8
    clear q0 q1 q5 q6 q7 q8
    have hpy := putU_len10 hy
    refine hK _ _ ?_
    clear hK K
    refine cv_region_q rfl ?_
    simp -implicitDefEqProofs (disch := first | omega | decide) only [cA, Int.reduceToNat, Int.reduceLT, Int.reduceLE, Int.reduceEq, Int.reduceAdd, Int.reduceSub, Int.reduceMul, Int.reduceNeg, Int.reduceMod, Int.reduceDiv, pickL, evParts, gst, strV, List.set_cons_zero, List.set_cons_succ, vcd_nil, vcd_cons, stepV, pureV, pureX, pureR, readV, pv, binv, ldV, stV, condV, ev, fresh, nth, thenQ, blockQ, retV, retQ, catParts, fillL, cmpv, intsEq, ones, tyA, fnA, if_true, if_false, ite_true, ite_false, forall_const, implies_true, eq_self, ne_eq, reduceCtorEq, Value.cells, Value.oneCell', Nat.reduceAdd, Nat.reduceSub, Nat.reduceMul, Nat.reduceEqDiff, Nat.reduceLT, Nat.reduceLeDiff, Nat.reduceBEq, fBox, tBox, fdV, tyV, undef, Nat.mul_one, g1_0, g1_1, g1_5, g1_6, g1_7, g2_0, g2_1, g2_5, g2_6, g2_7, g3_0, g3_1, g3_5, g3_6, g3_7, g3_8, g4_0, g4_1, g4_5, g4_6, g4_7, g4_8]
    refine callV_row (fun A' n' c' => .slice A' n' c') (fun w hw => rput_any A6 n6 c6 m6 y w (hw.slb 1 rfl) (by omega) hy) ?_
    intro A8 n8 c8 hl8 _
    have hn8 : (m6 ++ putU y).length = n8 := byt_row hl8
    have hn8' : n8 ≤ n6 + 10 := by rw [List.length_append] at hn8; omega
    simp -implicitDefEqProofs (disch := first | omega | decide) only [cA, Int.reduceToNat, Int.reduceLT, Int.reduceLE, Int.reduceEq, Int.reduceAdd, Int.reduceSub, Int.reduceMul, Int.reduceNeg, Int.reduceMod, Int.reduceDiv, pickL, evParts, gst, strV, List.set_cons_zero, List.set_cons_succ, vcd_nil, vcd_cons, stepV, pureV, pureX, pureR, readV, pv, binv, ldV, stV, condV, ev, fresh, nth, thenQ, blockQ, retV, retQ, catParts, fillL, cmpv, intsEq, ones, tyA, fnA, if_true, if_false, ite_true, ite_false, forall_const, implies_true, eq_self, ne_eq, reduceCtorEq, Value.cells, Value.oneCell', Nat.reduceAdd, Nat.reduceSub, Nat.reduceMul, Nat.reduceEqDiff, Nat.reduceLT, Nat.reduceLeDiff, Nat.reduceBEq, fBox, tBox, fdV, tyV, undef, Nat.mul_one, g1_0, g1_1, g1_5, g1_6, g1_7, g2_0, g2_1, g2_5, g2_6, g2_7, g3_0, g3_1, g3_5, g3_6, g3_7, g3_8, g4_0, g4_1, g4_5, g4_6, g4_7, g4_8]
    refine hK _ _ ?_
    clear hK K
    refine cv_pick [1, 0] (by decide) ?_
    simp only [pickL, nth]
    refine cv_region_then rfl ?_
    simp -implicitDefEqProofs (disch := first | omega | decide) only [cA, Int.reduceToNat, Int.reduceLT, Int.reduceLE, Int.reduceEq, Int.reduceAdd, Int.reduceSub, Int.reduceMul, Int.reduceNeg, Int.reduceMod, Int.reduceDiv, pickL, evParts, gst, strV, List.set_cons_zero, List.set_cons_succ, vcd_nil, vcd_cons, stepV, pureV, pureX, pureR, readV, pv, binv, ldV, stV, condV, ev, fresh, nth, thenQ, blockQ, retV, retQ, catParts, fillL, cmpv, intsEq, ones, tyA, fnA, if_true, if_false, ite_true, ite_false, forall_const, implies_true, eq_self, ne_eq, reduceCtorEq, Value.cells, Value.oneCell', Nat.reduceAdd, Nat.reduceSub, Nat.reduceMul, Nat.reduceEqDiff, Nat.reduceLT, Nat.reduceLeDiff, Nat.reduceBEq, fBox, tBox, fdV, tyV, undef, Nat.mul_one, wrap_in, g1_0, g1_1, g1_5, g1_6, g1_7, g2_0, g2_1, g2_5, g2_6, g2_7, g3_0, g3_1, g3_5, g3_6, g3_7, g3_8, g4_0, g4_1, g4_5, g4_6, g4_7, g4_8]
    refine ⟨⟨k + 1, A7, A8, n7, c7, n8, c8, m5 ++ putU x, m6 ++ putU y, ?_⟩, ?_⟩
    · simp -implicitDefEqProofs (disch := first | omega | decide) only [cA, Int.reduceToNat, Int.reduceLT, Int.reduceLE, Int.reduceEq, Int.reduceAdd, Int.reduceSub, Int.reduceMul, Int.reduceNeg, Int.reduceMod, Int.reduceDiv, pickL, evParts, gst, strV, List.set_cons_zero, List.set_cons_succ, vcd_nil, vcd_cons, stepV, pureV, pureX, pureR, readV, pv, binv, ldV, stV, condV, ev, fresh, nth, thenQ, blockQ, retV, retQ, catParts, fillL, cmpv, intsEq, ones, tyA, fnA, if_true, if_false, ite_true, ite_false, forall_const, implies_true, eq_self, ne_eq, reduceCtorEq, Value.cells, Value.oneCell', Nat.reduceAdd, Nat.reduceSub, Nat.reduceMul, Nat.reduceEqDiff, Nat.reduceLT, Nat.reduceLeDiff, Nat.reduceBEq, fBox, tBox, fdV, tyV, undef, Nat.mul_one, Int.natCast_add, g1_0, g1_1, g1_5, g1_6, g1_7, g2_0, g2_1, g2_5, g2_6, g2_7, g3_0, g3_1, g3_5, g3_6, g3_7, g3_8, g4_0, g4_1, g4_5, g4_6, g4_7, g4_8]
      exact ⟨by omega, put_byte hb5 x, put_byte hb6 y, hn7, hn8, by omega, by omega⟩
    · simp only [intOf]; omega
  refine cv_exit ?_
  simp only [blockQ, thenQ, if_true, ite_true]
  clear hK K
  refine hK _ _ ?_
  clear hK K
  refine cv_seq_k fun K hK => ?_
  refine cv_region_then rfl ?_
  simp -implicitDefEqProofs (disch := first | omega | decide) only [cA, Int.reduceToNat, Int.reduceLT, Int.reduceLE, Int.reduceEq, Int.reduceAdd, Int.reduceSub, Int.reduceMul, Int.reduceNeg, Int.reduceMod, Int.reduceDiv, pickL, evParts, gst, strV, List.set_cons_zero, List.set_cons_succ, vcd_nil, vcd_cons, stepV, pureV, pureX, pureR, readV, pv, binv, ldV, stV, condV, ev, fresh, nth, thenQ, blockQ, retV, retQ, catParts, fillL, cmpv, intsEq, ones, tyA, fnA, if_true, if_false, ite_true, ite_false, forall_const, implies_true, eq_self, ne_eq, reduceCtorEq, Value.cells, Value.oneCell', Nat.reduceAdd, Nat.reduceSub, Nat.reduceMul, Nat.reduceEqDiff, Nat.reduceLT, Nat.reduceLeDiff, Nat.reduceBEq, fBox, tBox, fdV, tyV, undef, Nat.mul_one, g1_0, g1_1, g1_5, g1_6, g1_7, g2_0, g2_1, g2_5, g2_6, g2_7]
  refine callV_ret (fun w hw => awake_any w) ?_
  try simp -implicitDefEqProofs (disch := first | omega | decide) only [cA, Int.reduceToNat, Int.reduceLT, Int.reduceLE, Int.reduceEq, Int.reduceAdd, Int.reduceSub, Int.reduceMul, Int.reduceNeg, Int.reduceMod, Int.reduceDiv, pickL, evParts, gst, strV, List.set_cons_zero, List.set_cons_succ, vcd_nil, vcd_cons, stepV, pureV, pureX, pureR, readV, pv, binv, ldV, stV, condV, ev, fresh, nth, thenQ, blockQ, retV, retQ, catParts, fillL, cmpv, intsEq, ones, tyA, fnA, if_true, if_false, ite_true, ite_false, forall_const, implies_true, eq_self, ne_eq, reduceCtorEq, Value.cells, Value.oneCell', Nat.reduceAdd, Nat.reduceSub, Nat.reduceMul, Nat.reduceEqDiff, Nat.reduceLT, Nat.reduceLeDiff, Nat.reduceBEq, fBox, tBox, fdV, tyV, undef, Nat.mul_one, g1_0, g1_1, g1_5, g1_6, g1_7, g2_0, g2_1, g2_5, g2_6, g2_7]
  refine callV_ret (fun w hw => same_any A5 n5 c5 m5 w (hw.slb 0 rfl) hb5 (by omega)) ?_
  try simp -implicitDefEqProofs (disch := first | omega | decide) only [cA, Int.reduceToNat, Int.reduceLT, Int.reduceLE, Int.reduceEq, Int.reduceAdd, Int.reduceSub, Int.reduceMul, Int.reduceNeg, Int.reduceMod, Int.reduceDiv, pickL, evParts, gst, strV, List.set_cons_zero, List.set_cons_succ, vcd_nil, vcd_cons, stepV, pureV, pureX, pureR, readV, pv, binv, ldV, stV, condV, ev, fresh, nth, thenQ, blockQ, retV, retQ, catParts, fillL, cmpv, intsEq, ones, tyA, fnA, if_true, if_false, ite_true, ite_false, forall_const, implies_true, eq_self, ne_eq, reduceCtorEq, Value.cells, Value.oneCell', Nat.reduceAdd, Nat.reduceSub, Nat.reduceMul, Nat.reduceEqDiff, Nat.reduceLT, Nat.reduceLeDiff, Nat.reduceBEq, fBox, tBox, fdV, tyV, undef, Nat.mul_one, g1_0, g1_1, g1_5, g1_6, g1_7, g2_0, g2_1, g2_5, g2_6, g2_7]
  refine callV_ret (fun w hw => same_any A6 n6 c6 m6 w (hw.slb 1 rfl) hb6 (by omega)) ?_
  try simp -implicitDefEqProofs (disch := first | omega | decide) only [cA, Int.reduceToNat, Int.reduceLT, Int.reduceLE, Int.reduceEq, Int.reduceAdd, Int.reduceSub, Int.reduceMul, Int.reduceNeg, Int.reduceMod, Int.reduceDiv, pickL, evParts, gst, strV, List.set_cons_zero, List.set_cons_succ, vcd_nil, vcd_cons, stepV, pureV, pureX, pureR, readV, pv, binv, ldV, stV, condV, ev, fresh, nth, thenQ, blockQ, retV, retQ, catParts, fillL, cmpv, intsEq, ones, tyA, fnA, if_true, if_false, ite_true, ite_false, forall_const, implies_true, eq_self, ne_eq, reduceCtorEq, Value.cells, Value.oneCell', Nat.reduceAdd, Nat.reduceSub, Nat.reduceMul, Nat.reduceEqDiff, Nat.reduceLT, Nat.reduceLeDiff, Nat.reduceBEq, fBox, tBox, fdV, tyV, undef, Nat.mul_one, g1_0, g1_1, g1_5, g1_6, g1_7, g2_0, g2_1, g2_5, g2_6, g2_7]
  refine hK _ _ ?_
  clear hK K
  refine cv_ret ⟨_, (by simp -implicitDefEqProofs (disch := first | omega | decide) only [cA, Int.reduceToNat, Int.reduceLT, Int.reduceLE, Int.reduceEq, Int.reduceAdd, Int.reduceSub, Int.reduceMul, Int.reduceNeg, Int.reduceMod, Int.reduceDiv, pickL, evParts, gst, strV, List.set_cons_zero, List.set_cons_succ, vcd_nil, vcd_cons, stepV, pureV, pureX, pureR, readV, pv, binv, ldV, stV, condV, ev, fresh, nth, thenQ, blockQ, retV, retQ, catParts, fillL, cmpv, intsEq, ones, tyA, fnA, if_true, if_false, ite_true, ite_false, forall_const, implies_true, eq_self, ne_eq, reduceCtorEq, Value.cells, Value.oneCell', Nat.reduceAdd, Nat.reduceSub, Nat.reduceMul, Nat.reduceEqDiff, Nat.reduceLT, Nat.reduceLeDiff, Nat.reduceBEq, fBox, tBox, fdV, tyV, undef, Nat.mul_one, g1_0, g1_1, g1_5, g1_6, g1_7, g2_0, g2_1, g2_5, g2_6, g2_7]; rfl), fun w hw => ?_⟩
  exact ⟨rfl, hw.below⟩
end Go.Proofs.Ytoifcbmflclhnaa
