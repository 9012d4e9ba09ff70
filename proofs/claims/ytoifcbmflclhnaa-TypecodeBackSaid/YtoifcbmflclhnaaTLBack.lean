/- The law Back, walked. -/
import Derived.Test.YtoifcbmflclhnaaRDec
import Derived.Test.YtoifcbmflclhnaaBPlain
namespace Go.Proofs.Ytoifcbmflclhnaa
open Go.RowKit Go.Shelf
set_option linter.unusedVariables false
set_option linter.unusedSimpArgs false
set_option maxRecDepth 100000
set_option maxHeartbeats 4000000 in
theorem tcBack_walk (W : World) (B : Option Addr) (m d : Nat) (l : List Nat) (hU : Sl W W.heap.size 1 B m d (u16c l)) (hl : ∀ x ∈ l, x < 65536)
    (A : Option Addr) (n c : Nat) (more : List Nat) (hE : Sl W W.heap.size 1 A n c (byt more)) (hb : ∀ x ∈ more, x < 256) :
    Calls Try.prog 6 #[.slice B m d, .slice A n c] W fun e w' => e = .returned (.bool true) ∧ Below W.heap.size W w' := by
  have hln : more.length = n := byt_row hE.len
  have hl30 : ∀ x ∈ l.take 30, x < 65536 := fun x hx => hl x (List.mem_of_mem_take hx)
  refine calls_cv (M := []) (n := 72) [.tmp 4] rfl Try.func6 rfl rfl (Nat.le_of_ble_eq_true rfl) (St.nil _ _) ?_
  refine cv_seq_k fun K hK => ?_
  refine cv_region_then rfl ?_
  simp -implicitDefEqProofs (disch := first | omega | decide) only [cA, Int.reduceToNat, Int.reduceLT, Int.reduceLE, Int.reduceEq, Int.reduceAdd, Int.reduceSub, Int.reduceMul, Int.reduceNeg, Int.reduceMod, Int.reduceDiv, pickL, evParts, gst, strV, List.set_cons_zero, List.set_cons_succ, vcd_nil, vcd_cons, stepV, pureV, pureX, pureR, readV, pv, binv, ldV, stV, condV, ev, fresh, nth, thenQ, blockQ, retV, retQ, catParts, fillL, cmpv, intsEq, ones, tyA, fnA, if_true, if_false, ite_true, ite_false, forall_const, implies_true, eq_self, ne_eq, reduceCtorEq, Value.cells, Value.oneCell', Nat.reduceAdd, Nat.reduceSub, Nat.reduceMul, Nat.reduceEqDiff, Nat.reduceLT, Nat.reduceLeDiff, Nat.reduceBEq, fBox, tBox, fdV, tyV, tpBox, tape, undef, Nat.mul_one, decV]
  refine hK _ _ ?_
  clear hK K
  refine cv_seq_k fun K hK => ?_
  refine cv_seq_k fun K hK => ?_
  refine cv_region_then rfl ?_
  simp -implicitDefEqProofs (disch := first | omega | decide) only [cA, Int.reduceToNat, Int.reduceLT, Int.reduceLE, Int.reduceEq, Int.reduceAdd, Int.reduceSub, Int.reduceMul, Int.reduceNeg, Int.reduceMod, Int.reduceDiv, pickL, evParts, gst, strV, List.set_cons_zero, List.set_cons_succ, vcd_nil, vcd_cons, stepV, pureV, pureX, pureR, readV, pv, binv, ldV, stV, condV, ev, fresh, nth, thenQ, blockQ, retV, retQ, catParts, fillL, cmpv, intsEq, ones, tyA, fnA, if_true, if_false, ite_true, ite_false, forall_const, implies_true, eq_self, ne_eq, reduceCtorEq, Value.cells, Value.oneCell', Nat.reduceAdd, Nat.reduceSub, Nat.reduceMul, Nat.reduceEqDiff, Nat.reduceLT, Nat.reduceLeDiff, Nat.reduceBEq, fBox, tBox, fdV, tyV, tpBox, tape, undef, Nat.mul_one, decV]
  refine hK _ _ ?_
  clear hK K
  refine cv_cond ?_
  simp -implicitDefEqProofs (disch := first | omega | decide) only [cA, Int.reduceToNat, Int.reduceLT, Int.reduceLE, Int.reduceEq, Int.reduceAdd, Int.reduceSub, Int.reduceMul, Int.reduceNeg, Int.reduceMod, Int.reduceDiv, pickL, evParts, gst, strV, List.set_cons_zero, List.set_cons_succ, vcd_nil, vcd_cons, stepV, pureV, pureX, pureR, readV, pv, binv, ldV, stV, condV, ev, fresh, nth, thenQ, blockQ, retV, retQ, catParts, fillL, cmpv, intsEq, ones, tyA, fnA, if_true, if_false, ite_true, ite_false, forall_const, implies_true, eq_self, ne_eq, reduceCtorEq, Value.cells, Value.oneCell', Nat.reduceAdd, Nat.reduceSub, Nat.reduceMul, Nat.reduceEqDiff, Nat.reduceLT, Nat.reduceLeDiff, Nat.reduceBEq, fBox, tBox, fdV, tyV, tpBox, tape, undef, Nat.mul_one, decV]
  refine ⟨fun hc => ?_, fun hc => ?_⟩
  · refine cv_seq_k fun K hK => ?_
    refine cv_region_then rfl ?_
    simp -implicitDefEqProofs (disch := first | omega | decide) only [cA, Int.reduceToNat, Int.reduceLT, Int.reduceLE, Int.reduceEq, Int.reduceAdd, Int.reduceSub, Int.reduceMul, Int.reduceNeg, Int.reduceMod, Int.reduceDiv, pickL, evParts, gst, strV, List.set_cons_zero, List.set_cons_succ, vcd_nil, vcd_cons, stepV, pureV, pureX, pureR, readV, pv, binv, ldV, stV, condV, ev, fresh, nth, thenQ, blockQ, retV, retQ, catParts, fillL, cmpv, intsEq, ones, tyA, fnA, if_true, if_false, ite_true, ite_false, forall_const, implies_true, eq_self, ne_eq, reduceCtorEq, Value.cells, Value.oneCell', Nat.reduceAdd, Nat.reduceSub, Nat.reduceMul, Nat.reduceEqDiff, Nat.reduceLT, Nat.reduceLeDiff, Nat.reduceBEq, fBox, tBox, fdV, tyV, tpBox, tape, undef, Nat.mul_one, decV]
    refine callV_ret (fun w hw => awake_any w) ?_
    try simp -implicitDefEqProofs (disch := first | omega | decide) only [cA, Int.reduceToNat, Int.reduceLT, Int.reduceLE, Int.reduceEq, Int.reduceAdd, Int.reduceSub, Int.reduceMul, Int.reduceNeg, Int.reduceMod, Int.reduceDiv, pickL, evParts, gst, strV, List.set_cons_zero, List.set_cons_succ, vcd_nil, vcd_cons, stepV, pureV, pureX, pureR, readV, pv, binv, ldV, stV, condV, ev, fresh, nth, thenQ, blockQ, retV, retQ, catParts, fillL, cmpv, intsEq, ones, tyA, fnA, if_true, if_false, ite_true, ite_false, forall_const, implies_true, eq_self, ne_eq, reduceCtorEq, Value.cells, Value.oneCell', Nat.reduceAdd, Nat.reduceSub, Nat.reduceMul, Nat.reduceEqDiff, Nat.reduceLT, Nat.reduceLeDiff, Nat.reduceBEq, fBox, tBox, fdV, tyV, tpBox, tape, undef, Nat.mul_one, decV]
    refine hK _ _ ?_
    clear hK K
    refine cv_ret ⟨_, (by simp -implicitDefEqProofs (disch := first | omega | decide) only [cA, Int.reduceToNat, Int.reduceLT, Int.reduceLE, Int.reduceEq, Int.reduceAdd, Int.reduceSub, Int.reduceMul, Int.reduceNeg, Int.reduceMod, Int.reduceDiv, pickL, evParts, gst, strV, List.set_cons_zero, List.set_cons_succ, vcd_nil, vcd_cons, stepV, pureV, pureX, pureR, readV, pv, binv, ldV, stV, condV, ev, fresh, nth, thenQ, blockQ, retV, retQ, catParts, fillL, cmpv, intsEq, ones, tyA, fnA, if_true, if_false, ite_true, ite_false, forall_const, implies_true, eq_self, ne_eq, reduceCtorEq, Value.cells, Value.oneCell', Nat.reduceAdd, Nat.reduceSub, Nat.reduceMul, Nat.reduceEqDiff, Nat.reduceLT, Nat.reduceLeDiff, Nat.reduceBEq, fBox, tBox, fdV, tyV, tpBox, tape, undef, Nat.mul_one, decV]; rfl), fun w hw => ?_⟩
    exact ⟨rfl, hw.below⟩
  have hn : n ≤ 40 := by have := of_decide_eq_false hc; omega
  obtain ⟨gs, hgs⟩ : ∃ gs, gs = (typeF (l.take 30) 0).2.1 := ⟨_, rfl⟩
  obtain ⟨ln, hln2⟩ : ∃ ln, ln = (typeF (l.take 30) 0).1 := ⟨_, rfl⟩
  have hty := typeF_ok (l.take 30) 0
  rw [← hgs, ← hln2] at hty
  have h1 := hty.1
  have hT : encT ln gs = encB ln gs := by unfold encT; rw [if_pos hty.1]
  have hbl := encB_len hty.1
  have hbb := encB_byte ln gs
  have hD := decF_enc h1 more
  have hC := fun k => decF_cut h1 (k := k)
  refine cv_skip ?_
  try simp only [blockQ, thenQ]
  refine hK _ _ ?_
  clear hK K
  refine cv_seq_k fun K hK => ?_
  refine cv_region_then rfl ?_
  simp -implicitDefEqProofs (disch := first | omega | decide) only [cA, Int.reduceToNat, Int.reduceLT, Int.reduceLE, Int.reduceEq, Int.reduceAdd, Int.reduceSub, Int.reduceMul, Int.reduceNeg, Int.reduceMod, Int.reduceDiv, pickL, evParts, gst, strV, List.set_cons_zero, List.set_cons_succ, vcd_nil, vcd_cons, stepV, pureV, pureX, pureR, readV, pv, binv, ldV, stV, condV, ev, fresh, nth, thenQ, blockQ, retV, retQ, catParts, fillL, cmpv, intsEq, ones, tyA, fnA, if_true, if_false, ite_true, ite_false, forall_const, implies_true, eq_self, ne_eq, reduceCtorEq, Value.cells, Value.oneCell', Nat.reduceAdd, Nat.reduceSub, Nat.reduceMul, Nat.reduceEqDiff, Nat.reduceLT, Nat.reduceLeDiff, Nat.reduceBEq, fBox, tBox, fdV, tyV, tpBox, tape, undef, Nat.mul_one, decV]
  refine callV_boxRow (fun w hw => of_any B m d l 30 w (hU.at hw) (by omega)) ?_
  intro b2 A2 n2 c2 hl2 hb2 hf2 hr2
  simp -implicitDefEqProofs (disch := first | omega | decide) only [cA, Int.reduceToNat, Int.reduceLT, Int.reduceLE, Int.reduceEq, Int.reduceAdd, Int.reduceSub, Int.reduceMul, Int.reduceNeg, Int.reduceMod, Int.reduceDiv, pickL, evParts, gst, strV, List.set_cons_zero, List.set_cons_succ, vcd_nil, vcd_cons, stepV, pureV, pureX, pureR, readV, pv, binv, ldV, stV, condV, ev, fresh, nth, thenQ, blockQ, retV, retQ, catParts, fillL, cmpv, intsEq, ones, tyA, fnA, if_true, if_false, ite_true, ite_false, forall_const, implies_true, eq_self, ne_eq, reduceCtorEq, Value.cells, Value.oneCell', Nat.reduceAdd, Nat.reduceSub, Nat.reduceMul, Nat.reduceEqDiff, Nat.reduceLT, Nat.reduceLeDiff, Nat.reduceBEq, fBox, tBox, fdV, tyV, tpBox, tape, undef, Nat.mul_one, decV]
  refine callV_modRow 1 (fun w hw => type_any b2 A2 n2 c2 (l.take 30) 0 w (hw.hold 1 rfl) (hw.slr 0 rfl) hr2.apt hl30 (by omega)) rfl ?_
  intro A3 n3 c3 hl3 hr3
  simp -implicitDefEqProofs (disch := first | omega | decide) only [cA, Int.reduceToNat, Int.reduceLT, Int.reduceLE, Int.reduceEq, Int.reduceAdd, Int.reduceSub, Int.reduceMul, Int.reduceNeg, Int.reduceMod, Int.reduceDiv, pickL, evParts, gst, strV, List.set_cons_zero, List.set_cons_succ, vcd_nil, vcd_cons, stepV, pureV, pureX, pureR, readV, pv, binv, ldV, stV, condV, ev, fresh, nth, thenQ, blockQ, retV, retQ, catParts, fillL, cmpv, intsEq, ones, tyA, fnA, if_true, if_false, ite_true, ite_false, forall_const, implies_true, eq_self, ne_eq, reduceCtorEq, Value.cells, Value.oneCell', Nat.reduceAdd, Nat.reduceSub, Nat.reduceMul, Nat.reduceEqDiff, Nat.reduceLT, Nat.reduceLeDiff, Nat.reduceBEq, fBox, tBox, fdV, tyV, tpBox, tape, undef, Nat.mul_one, decV, ← hgs, ← hln2]
  intro b4 hb4 h4
  refine hK _ _ ?_
  clear hK K
  refine cv_pick [0, 1] (by decide) ?_
  simp only [pickL, nth]
  refine cv_seq_k fun K hK => ?_
  refine cv_region_then rfl ?_
  simp -implicitDefEqProofs (disch := first | omega | decide) only [cA, Int.reduceToNat, Int.reduceLT, Int.reduceLE, Int.reduceEq, Int.reduceAdd, Int.reduceSub, Int.reduceMul, Int.reduceNeg, Int.reduceMod, Int.reduceDiv, pickL, evParts, gst, strV, List.set_cons_zero, List.set_cons_succ, vcd_nil, vcd_cons, stepV, pureV, pureX, pureR, readV, pv, binv, ldV, stV, condV, ev, fresh, nth, thenQ, blockQ, retV, retQ, catParts, fillL, cmpv, intsEq, ones, tyA, fnA, if_true, if_false, ite_true, ite_false, forall_const, implies_true, eq_self, ne_eq, reduceCtorEq, Value.cells, Value.oneCell', Nat.reduceAdd, Nat.reduceSub, Nat.reduceMul, Nat.reduceEqDiff, Nat.reduceLT, Nat.reduceLeDiff, Nat.reduceBEq, fBox, tBox, fdV, tyV, tpBox, tape, undef, Nat.mul_one, decV]
  refine callV_row (fun A' n' c' => .tuple #[.slice A' n' c', .int .i64 (chk ln gs)]) (fun w hw => enc_any A3 n3 c3 gs ln w (hw.slr 1 rfl)) ?_
  intro A4 n4 c4 hl4 hr4
  rw [hT] at hl4
  have hn4 : (encB ln gs).length = n4 := byt_row hl4
  simp -implicitDefEqProofs (disch := first | omega | decide) only [cA, Int.reduceToNat, Int.reduceLT, Int.reduceLE, Int.reduceEq, Int.reduceAdd, Int.reduceSub, Int.reduceMul, Int.reduceNeg, Int.reduceMod, Int.reduceDiv, pickL, evParts, gst, strV, List.set_cons_zero, List.set_cons_succ, vcd_nil, vcd_cons, stepV, pureV, pureX, pureR, readV, pv, binv, ldV, stV, condV, ev, fresh, nth, thenQ, blockQ, retV, retQ, catParts, fillL, cmpv, intsEq, ones, tyA, fnA, if_true, if_false, ite_true, ite_false, forall_const, implies_true, eq_self, ne_eq, reduceCtorEq, Value.cells, Value.oneCell', Nat.reduceAdd, Nat.reduceSub, Nat.reduceMul, Nat.reduceEqDiff, Nat.reduceLT, Nat.reduceLeDiff, Nat.reduceBEq, fBox, tBox, fdV, tyV, tpBox, tape, undef, Nat.mul_one, decV, hT, h1]
  refine hK _ _ ?_
  clear hK K
  generalize encB ln gs = bs at *
  refine cv_cap 0 rfl fun hcap hcmax => ?_
  obtain ⟨g, rfl, hg⟩ : ∃ g, A4 = some ⟨g, 0, none⟩ ∧ W.heap.size ≤ g := by
    rcases hr4 with ⟨rfl, h0⟩ | ⟨g, rfl, h, _⟩
    · omega
    · exact ⟨g, rfl, by simpa using h⟩
  refine cv_gen fun G1 hG => ?_
  have g1_1 := congrFun hG 1
  have g1_5 := congrFun hG 5
  have g1_6 := congrFun hG 6
  have g1_7 := congrFun hG 7
  clear hG
  try simp -implicitDefEqProofs (disch := first | omega | decide) only [cA, Int.reduceToNat, Int.reduceLT, Int.reduceLE, Int.reduceEq, Int.reduceAdd, Int.reduceSub, Int.reduceMul, Int.reduceNeg, Int.reduceMod, Int.reduceDiv, pickL, evParts, gst, strV, List.set_cons_zero, List.set_cons_succ, vcd_nil, vcd_cons, stepV, pureV, pureX, pureR, readV, pv, binv, ldV, stV, condV, ev, fresh, nth, thenQ, blockQ, retV, retQ, catParts, fillL, cmpv, intsEq, ones, tyA, fnA, if_true, if_false, ite_true, ite_false, forall_const, implies_true, eq_self, ne_eq, reduceCtorEq, Value.cells, Value.oneCell', Nat.reduceAdd, Nat.reduceSub, Nat.reduceMul, Nat.reduceEqDiff, Nat.reduceLT, Nat.reduceLeDiff, Nat.reduceBEq, fBox, tBox, fdV, tyV, tpBox, tape, undef, Nat.mul_one, decV] at g1_1
  try simp -implicitDefEqProofs (disch := first | omega | decide) only [cA, Int.reduceToNat, Int.reduceLT, Int.reduceLE, Int.reduceEq, Int.reduceAdd, Int.reduceSub, Int.reduceMul, Int.reduceNeg, Int.reduceMod, Int.reduceDiv, pickL, evParts, gst, strV, List.set_cons_zero, List.set_cons_succ, vcd_nil, vcd_cons, stepV, pureV, pureX, pureR, readV, pv, binv, ldV, stV, condV, ev, fresh, nth, thenQ, blockQ, retV, retQ, catParts, fillL, cmpv, intsEq, ones, tyA, fnA, if_true, if_false, ite_true, ite_false, forall_const, implies_true, eq_self, ne_eq, reduceCtorEq, Value.cells, Value.oneCell', Nat.reduceAdd, Nat.reduceSub, Nat.reduceMul, Nat.reduceEqDiff, Nat.reduceLT, Nat.reduceLeDiff, Nat.reduceBEq, fBox, tBox, fdV, tyV, tpBox, tape, undef, Nat.mul_one, decV] at g1_5
  try simp -implicitDefEqProofs (disch := first | omega | decide) only [cA, Int.reduceToNat, Int.reduceLT, Int.reduceLE, Int.reduceEq, Int.reduceAdd, Int.reduceSub, Int.reduceMul, Int.reduceNeg, Int.reduceMod, Int.reduceDiv, pickL, evParts, gst, strV, List.set_cons_zero, List.set_cons_succ, vcd_nil, vcd_cons, stepV, pureV, pureX, pureR, readV, pv, binv, ldV, stV, condV, ev, fresh, nth, thenQ, blockQ, retV, retQ, catParts, fillL, cmpv, intsEq, ones, tyA, fnA, if_true, if_false, ite_true, ite_false, forall_const, implies_true, eq_self, ne_eq, reduceCtorEq, Value.cells, Value.oneCell', Nat.reduceAdd, Nat.reduceSub, Nat.reduceMul, Nat.reduceEqDiff, Nat.reduceLT, Nat.reduceLeDiff, Nat.reduceBEq, fBox, tBox, fdV, tyV, tpBox, tape, undef, Nat.mul_one, decV] at g1_6
  try simp -implicitDefEqProofs (disch := first | omega | decide) only [cA, Int.reduceToNat, Int.reduceLT, Int.reduceLE, Int.reduceEq, Int.reduceAdd, Int.reduceSub, Int.reduceMul, Int.reduceNeg, Int.reduceMod, Int.reduceDiv, pickL, evParts, gst, strV, List.set_cons_zero, List.set_cons_succ, vcd_nil, vcd_cons, stepV, pureV, pureX, pureR, readV, pv, binv, ldV, stV, condV, ev, fresh, nth, thenQ, blockQ, retV, retQ, catParts, fillL, cmpv, intsEq, ones, tyA, fnA, if_true, if_false, ite_true, ite_false, forall_const, implies_true, eq_self, ne_eq, reduceCtorEq, Value.cells, Value.oneCell', Nat.reduceAdd, Nat.reduceSub, Nat.reduceMul, Nat.reduceEqDiff, Nat.reduceLT, Nat.reduceLeDiff, Nat.reduceBEq, fBox, tBox, fdV, tyV, tpBox, tape, undef, Nat.mul_one, decV] at g1_7
  refine cv_seq_k fun K hK => ?_
  refine cv_region_then rfl ?_
  simp -implicitDefEqProofs (disch := first | omega | decide) only [cA, Int.reduceToNat, Int.reduceLT, Int.reduceLE, Int.reduceEq, Int.reduceAdd, Int.reduceSub, Int.reduceMul, Int.reduceNeg, Int.reduceMod, Int.reduceDiv, pickL, evParts, gst, strV, List.set_cons_zero, List.set_cons_succ, vcd_nil, vcd_cons, stepV, pureV, pureX, pureR, readV, pv, binv, ldV, stV, condV, ev, fresh, nth, thenQ, blockQ, retV, retQ, catParts, fillL, cmpv, intsEq, ones, tyA, fnA, if_true, if_false, ite_true, ite_false, forall_const, implies_true, eq_self, ne_eq, reduceCtorEq, Value.cells, Value.oneCell', Nat.reduceAdd, Nat.reduceSub, Nat.reduceMul, Nat.reduceEqDiff, Nat.reduceLT, Nat.reduceLeDiff, Nat.reduceBEq, fBox, tBox, fdV, tyV, tpBox, tape, undef, Nat.mul_one, decV, g1_1, g1_5, g1_6, g1_7]
  intro b6 hb6 h6
  try simp -implicitDefEqProofs (disch := first | omega | decide) only [cA, Int.reduceToNat, Int.reduceLT, Int.reduceLE, Int.reduceEq, Int.reduceAdd, Int.reduceSub, Int.reduceMul, Int.reduceNeg, Int.reduceMod, Int.reduceDiv, pickL, evParts, gst, strV, List.set_cons_zero, List.set_cons_succ, vcd_nil, vcd_cons, stepV, pureV, pureX, pureR, readV, pv, binv, ldV, stV, condV, ev, fresh, nth, thenQ, blockQ, retV, retQ, catParts, fillL, cmpv, intsEq, ones, tyA, fnA, if_true, if_false, ite_true, ite_false, forall_const, implies_true, eq_self, ne_eq, reduceCtorEq, Value.cells, Value.oneCell', Nat.reduceAdd, Nat.reduceSub, Nat.reduceMul, Nat.reduceEqDiff, Nat.reduceLT, Nat.reduceLeDiff, Nat.reduceBEq, fBox, tBox, fdV, tyV, tpBox, tape, undef, Nat.mul_one, decV, g1_1, g1_5, g1_6, g1_7]
  refine appV_lit 0 tap30 rfl rfl (fun w hw => (hw.slb 1 rfl).reads) (ones_byt _) (by omega) (by omega) ?_
  intro A6 c6 hl6 hr6
  simp -implicitDefEqProofs (disch := first | omega | decide) only [cA, Int.reduceToNat, Int.reduceLT, Int.reduceLE, Int.reduceEq, Int.reduceAdd, Int.reduceSub, Int.reduceMul, Int.reduceNeg, Int.reduceMod, Int.reduceDiv, pickL, evParts, gst, strV, List.set_cons_zero, List.set_cons_succ, vcd_nil, vcd_cons, stepV, pureV, pureX, pureR, readV, pv, binv, ldV, stV, condV, ev, fresh, nth, thenQ, blockQ, retV, retQ, catParts, fillL, cmpv, intsEq, ones, tyA, fnA, if_true, if_false, ite_true, ite_false, forall_const, implies_true, eq_self, ne_eq, reduceCtorEq, Value.cells, Value.oneCell', Nat.reduceAdd, Nat.reduceSub, Nat.reduceMul, Nat.reduceEqDiff, Nat.reduceLT, Nat.reduceLeDiff, Nat.reduceBEq, fBox, tBox, fdV, tyV, tpBox, tape, undef, Nat.mul_one, decV, g1_1, g1_5, g1_6, g1_7]
  refine appV_at 0 tap30 rfl (fun w hw => (hE.at hw).reads) (ones_byt _) (by omega) (by omega) ?_
  intro A7 c7 hl7 hr7
  simp -implicitDefEqProofs (disch := first | omega | decide) only [cA, Int.reduceToNat, Int.reduceLT, Int.reduceLE, Int.reduceEq, Int.reduceAdd, Int.reduceSub, Int.reduceMul, Int.reduceNeg, Int.reduceMod, Int.reduceDiv, pickL, evParts, gst, strV, List.set_cons_zero, List.set_cons_succ, vcd_nil, vcd_cons, stepV, pureV, pureX, pureR, readV, pv, binv, ldV, stV, condV, ev, fresh, nth, thenQ, blockQ, retV, retQ, catParts, fillL, cmpv, intsEq, ones, tyA, fnA, if_true, if_false, ite_true, ite_false, forall_const, implies_true, eq_self, ne_eq, reduceCtorEq, Value.cells, Value.oneCell', Nat.reduceAdd, Nat.reduceSub, Nat.reduceMul, Nat.reduceEqDiff, Nat.reduceLT, Nat.reduceLeDiff, Nat.reduceBEq, fBox, tBox, fdV, tyV, tpBox, tape, undef, Nat.mul_one, decV, g1_1, g1_5, g1_6, g1_7]
  have hbm : ∀ x ∈ bs ++ more, x < 256 := fun x hx => by
    rcases List.mem_append.1 hx with h | h
    · exact hbb x h
    · exact hb x h
  have hdec : ∀ (w : World), Sl w w.heap.size 1 A7 (n4 + n) c7 (byt (bs ++ more)) → Calls Try.prog 15 #[.slice A7 (n4 + n) c7] w (rowP 48 2 (decV (ln, gs, bs.length, 0)) (cl fdc gs) w) := fun w hs => by
    have := decode_any A7 (n4 + n) c7 (bs ++ more) w hs hbm (by omega)
    rw [hD] at this
    exact this
  refine callV_row (fun A' n' c' => decV (ln, gs, bs.length, 0) (.slice A' n' c')) (fun w hw => hdec w (byt_app2 bs more ▸ hw.slr 0 rfl)) ?_
  intro A8 n8 c8 hl8 _
  simp -implicitDefEqProofs (disch := first | omega | decide) only [cA, Int.reduceToNat, Int.reduceLT, Int.reduceLE, Int.reduceEq, Int.reduceAdd, Int.reduceSub, Int.reduceMul, Int.reduceNeg, Int.reduceMod, Int.reduceDiv, pickL, evParts, gst, strV, List.set_cons_zero, List.set_cons_succ, vcd_nil, vcd_cons, stepV, pureV, pureX, pureR, readV, pv, binv, ldV, stV, condV, ev, fresh, nth, thenQ, blockQ, retV, retQ, catParts, fillL, cmpv, intsEq, ones, tyA, fnA, if_true, if_false, ite_true, ite_false, forall_const, implies_true, eq_self, ne_eq, reduceCtorEq, Value.cells, Value.oneCell', Nat.reduceAdd, Nat.reduceSub, Nat.reduceMul, Nat.reduceEqDiff, Nat.reduceLT, Nat.reduceLeDiff, Nat.reduceBEq, fBox, tBox, fdV, tyV, tpBox, tape, undef, Nat.mul_one, decV, g1_1, g1_5, g1_6, g1_7]
  intro b8 hb8 h8
  refine hK _ _ ?_
  clear hK K
  refine cv_pick [0, 1, 3, 4, 5] (by decide) ?_
  simp only [pickL, nth]
  refine cv_gen fun G2 hG => ?_
  have g2_5 := congrFun hG 5
  have g2_6 := congrFun hG 6
  have g2_7 := congrFun hG 7
  have g2_8 := congrFun hG 8
  have g2_9 := congrFun hG 9
  have g2_10 := congrFun hG 10
  clear hG
  try simp -implicitDefEqProofs (disch := first | omega | decide) only [cA, Int.reduceToNat, Int.reduceLT, Int.reduceLE, Int.reduceEq, Int.reduceAdd, Int.reduceSub, Int.reduceMul, Int.reduceNeg, Int.reduceMod, Int.reduceDiv, pickL, evParts, gst, strV, List.set_cons_zero, List.set_cons_succ, vcd_nil, vcd_cons, stepV, pureV, pureX, pureR, readV, pv, binv, ldV, stV, condV, ev, fresh, nth, thenQ, blockQ, retV, retQ, catParts, fillL, cmpv, intsEq, ones, tyA, fnA, if_true, if_false, ite_true, ite_false, forall_const, implies_true, eq_self, ne_eq, reduceCtorEq, Value.cells, Value.oneCell', Nat.reduceAdd, Nat.reduceSub, Nat.reduceMul, Nat.reduceEqDiff, Nat.reduceLT, Nat.reduceLeDiff, Nat.reduceBEq, fBox, tBox, fdV, tyV, tpBox, tape, undef, Nat.mul_one, decV, g1_1, g1_5, g1_6, g1_7] at g2_5
  try simp -implicitDefEqProofs (disch := first | omega | decide) only [cA, Int.reduceToNat, Int.reduceLT, Int.reduceLE, Int.reduceEq, Int.reduceAdd, Int.reduceSub, Int.reduceMul, Int.reduceNeg, Int.reduceMod, Int.reduceDiv, pickL, evParts, gst, strV, List.set_cons_zero, List.set_cons_succ, vcd_nil, vcd_cons, stepV, pureV, pureX, pureR, readV, pv, binv, ldV, stV, condV, ev, fresh, nth, thenQ, blockQ, retV, retQ, catParts, fillL, cmpv, intsEq, ones, tyA, fnA, if_true, if_false, ite_true, ite_false, forall_const, implies_true, eq_self, ne_eq, reduceCtorEq, Value.cells, Value.oneCell', Nat.reduceAdd, Nat.reduceSub, Nat.reduceMul, Nat.reduceEqDiff, Nat.reduceLT, Nat.reduceLeDiff, Nat.reduceBEq, fBox, tBox, fdV, tyV, tpBox, tape, undef, Nat.mul_one, decV, g1_1, g1_5, g1_6, g1_7] at g2_6
  try simp -implicitDefEqProofs (disch := first | omega | decide) only [cA, Int.reduceToNat, Int.reduceLT, Int.reduceLE, Int.reduceEq, Int.reduceAdd, Int.reduceSub, Int.reduceMul, Int.reduceNeg, Int.reduceMod, Int.reduceDiv, pickL, evParts, gst, strV, List.set_cons_zero, List.set_cons_succ, vcd_nil, vcd_cons, stepV, pureV, pureX, pureR, readV, pv, binv, ldV, stV, condV, ev, fresh, nth, thenQ, blockQ, retV, retQ, catParts, fillL, cmpv, intsEq, ones, tyA, fnA, if_true, if_false, ite_true, ite_false, forall_const, implies_true, eq_self, ne_eq, reduceCtorEq, Value.cells, Value.oneCell', Nat.reduceAdd, Nat.reduceSub, Nat.reduceMul, Nat.reduceEqDiff, Nat.reduceLT, Nat.reduceLeDiff, Nat.reduceBEq, fBox, tBox, fdV, tyV, tpBox, tape, undef, Nat.mul_one, decV, g1_1, g1_5, g1_6, g1_7] at g2_7
  try simp -implicitDefEqProofs (disch := first | omega | decide) only [cA, Int.reduceToNat, Int.reduceLT, Int.reduceLE, Int.reduceEq, Int.reduceAdd, Int.reduceSub, Int.reduceMul, Int.reduceNeg, Int.reduceMod, Int.reduceDiv, pickL, evParts, gst, strV, List.set_cons_zero, List.set_cons_succ, vcd_nil, vcd_cons, stepV, pureV, pureX, pureR, readV, pv, binv, ldV, stV, condV, ev, fresh, nth, thenQ, blockQ, retV, retQ, catParts, fillL, cmpv, intsEq, ones, tyA, fnA, if_true, if_false, ite_true, ite_false, forall_const, implies_true, eq_self, ne_eq, reduceCtorEq, Value.cells, Value.oneCell', Nat.reduceAdd, Nat.reduceSub, Nat.reduceMul, Nat.reduceEqDiff, Nat.reduceLT, Nat.reduceLeDiff, Nat.reduceBEq, fBox, tBox, fdV, tyV, tpBox, tape, undef, Nat.mul_one, decV, g1_1, g1_5, g1_6, g1_7] at g2_8
  try simp -implicitDefEqProofs (disch := first | omega | decide) only [cA, Int.reduceToNat, Int.reduceLT, Int.reduceLE, Int.reduceEq, Int.reduceAdd, Int.reduceSub, Int.reduceMul, Int.reduceNeg, Int.reduceMod, Int.reduceDiv, pickL, evParts, gst, strV, List.set_cons_zero, List.set_cons_succ, vcd_nil, vcd_cons, stepV, pureV, pureX, pureR, readV, pv, binv, ldV, stV, condV, ev, fresh, nth, thenQ, blockQ, retV, retQ, catParts, fillL, cmpv, intsEq, ones, tyA, fnA, if_true, if_false, ite_true, ite_false, forall_const, implies_true, eq_self, ne_eq, reduceCtorEq, Value.cells, Value.oneCell', Nat.reduceAdd, Nat.reduceSub, Nat.reduceMul, Nat.reduceEqDiff, Nat.reduceLT, Nat.reduceLeDiff, Nat.reduceBEq, fBox, tBox, fdV, tyV, tpBox, tape, undef, Nat.mul_one, decV, g1_1, g1_5, g1_6, g1_7] at g2_9
  try simp -implicitDefEqProofs (disch := first | omega | decide) only [cA, Int.reduceToNat, Int.reduceLT, Int.reduceLE, Int.reduceEq, Int.reduceAdd, Int.reduceSub, Int.reduceMul, Int.reduceNeg, Int.reduceMod, Int.reduceDiv, pickL, evParts, gst, strV, List.set_cons_zero, List.set_cons_succ, vcd_nil, vcd_cons, stepV, pureV, pureX, pureR, readV, pv, binv, ldV, stV, condV, ev, fresh, nth, thenQ, blockQ, retV, retQ, catParts, fillL, cmpv, intsEq, ones, tyA, fnA, if_true, if_false, ite_true, ite_false, forall_const, implies_true, eq_self, ne_eq, reduceCtorEq, Value.cells, Value.oneCell', Nat.reduceAdd, Nat.reduceSub, Nat.reduceMul, Nat.reduceEqDiff, Nat.reduceLT, Nat.reduceLeDiff, Nat.reduceBEq, fBox, tBox, fdV, tyV, tpBox, tape, undef, Nat.mul_one, decV, g1_1, g1_5, g1_6, g1_7] at g2_10
  refine cv_seq_k fun K hK => ?_
  refine cv_seq_k fun K hK => ?_
  refine cv_region_then rfl ?_
  simp -implicitDefEqProofs (disch := first | omega | decide) only [cA, Int.reduceToNat, Int.reduceLT, Int.reduceLE, Int.reduceEq, Int.reduceAdd, Int.reduceSub, Int.reduceMul, Int.reduceNeg, Int.reduceMod, Int.reduceDiv, pickL, evParts, gst, strV, List.set_cons_zero, List.set_cons_succ, vcd_nil, vcd_cons, stepV, pureV, pureX, pureR, readV, pv, binv, ldV, stV, condV, ev, fresh, nth, thenQ, blockQ, retV, retQ, catParts, fillL, cmpv, intsEq, ones, tyA, fnA, if_true, if_false, ite_true, ite_false, forall_const, implies_true, eq_self, ne_eq, reduceCtorEq, Value.cells, Value.oneCell', Nat.reduceAdd, Nat.reduceSub, Nat.reduceMul, Nat.reduceEqDiff, Nat.reduceLT, Nat.reduceLeDiff, Nat.reduceBEq, fBox, tBox, fdV, tyV, tpBox, tape, undef, Nat.mul_one, decV, hn4, g1_1, g1_5, g1_6, g1_7, g2_5, g2_6, g2_7, g2_8, g2_9, g2_10]
  refine callV_ret (fun w hw => sameType_any A3 A8 n3 c3 n8 c8 gs gs ln ln w (hw.slr 4 rfl) (hw.slr 1 rfl)) ?_
  try simp -implicitDefEqProofs (disch := first | omega | decide) only [cA, Int.reduceToNat, Int.reduceLT, Int.reduceLE, Int.reduceEq, Int.reduceAdd, Int.reduceSub, Int.reduceMul, Int.reduceNeg, Int.reduceMod, Int.reduceDiv, pickL, evParts, gst, strV, List.set_cons_zero, List.set_cons_succ, vcd_nil, vcd_cons, stepV, pureV, pureX, pureR, readV, pv, binv, ldV, stV, condV, ev, fresh, nth, thenQ, blockQ, retV, retQ, catParts, fillL, cmpv, intsEq, ones, tyA, fnA, if_true, if_false, ite_true, ite_false, forall_const, implies_true, eq_self, ne_eq, reduceCtorEq, Value.cells, Value.oneCell', Nat.reduceAdd, Nat.reduceSub, Nat.reduceMul, Nat.reduceEqDiff, Nat.reduceLT, Nat.reduceLeDiff, Nat.reduceBEq, fBox, tBox, fdV, tyV, tpBox, tape, undef, Nat.mul_one, decV, hn4, g1_1, g1_5, g1_6, g1_7, g2_5, g2_6, g2_7, g2_8, g2_9, g2_10]
  refine hK _ _ ?_
  clear hK K
  refine cv_cond ?_
  simp -implicitDefEqProofs (disch := first | omega | decide) only [cA, Int.reduceToNat, Int.reduceLT, Int.reduceLE, Int.reduceEq, Int.reduceAdd, Int.reduceSub, Int.reduceMul, Int.reduceNeg, Int.reduceMod, Int.reduceDiv, pickL, evParts, gst, strV, List.set_cons_zero, List.set_cons_succ, vcd_nil, vcd_cons, stepV, pureV, pureX, pureR, readV, pv, binv, ldV, stV, condV, ev, fresh, nth, thenQ, blockQ, retV, retQ, catParts, fillL, cmpv, intsEq, ones, tyA, fnA, if_true, if_false, ite_true, ite_false, forall_const, implies_true, eq_self, ne_eq, reduceCtorEq, Value.cells, Value.oneCell', Nat.reduceAdd, Nat.reduceSub, Nat.reduceMul, Nat.reduceEqDiff, Nat.reduceLT, Nat.reduceLeDiff, Nat.reduceBEq, fBox, tBox, fdV, tyV, tpBox, tape, undef, Nat.mul_one, decV, g1_1, g1_5, g1_6, g1_7, g2_5, g2_6, g2_7, g2_8, g2_9, g2_10]
  refine cv_skip ?_
  try simp only [blockQ, thenQ]
  refine hK _ _ ?_
  clear hK K
  refine cv_pick [2] (by decide) ?_
  simp only [pickL, nth]
  refine cv_gen fun G3 hG => ?_
  have g3_6 := congrFun hG 6
  clear hG
  try simp -implicitDefEqProofs (disch := first | omega | decide) only [cA, Int.reduceToNat, Int.reduceLT, Int.reduceLE, Int.reduceEq, Int.reduceAdd, Int.reduceSub, Int.reduceMul, Int.reduceNeg, Int.reduceMod, Int.reduceDiv, pickL, evParts, gst, strV, List.set_cons_zero, List.set_cons_succ, vcd_nil, vcd_cons, stepV, pureV, pureX, pureR, readV, pv, binv, ldV, stV, condV, ev, fresh, nth, thenQ, blockQ, retV, retQ, catParts, fillL, cmpv, intsEq, ones, tyA, fnA, if_true, if_false, ite_true, ite_false, forall_const, implies_true, eq_self, ne_eq, reduceCtorEq, Value.cells, Value.oneCell', Nat.reduceAdd, Nat.reduceSub, Nat.reduceMul, Nat.reduceEqDiff, Nat.reduceLT, Nat.reduceLeDiff, Nat.reduceBEq, fBox, tBox, fdV, tyV, tpBox, tape, undef, Nat.mul_one, decV, g1_1, g1_5, g1_6, g1_7, g2_5, g2_6, g2_7, g2_8, g2_9, g2_10] at g3_6
  refine cv_seq_k fun K hK => ?_
  refine cv_seq_k fun K hK => ?_
  refine cv_region_then rfl ?_
  simp -implicitDefEqProofs (disch := first | omega | decide) only [cA, Int.reduceToNat, Int.reduceLT, Int.reduceLE, Int.reduceEq, Int.reduceAdd, Int.reduceSub, Int.reduceMul, Int.reduceNeg, Int.reduceMod, Int.reduceDiv, pickL, evParts, gst, strV, List.set_cons_zero, List.set_cons_succ, vcd_nil, vcd_cons, stepV, pureV, pureX, pureR, readV, pv, binv, ldV, stV, condV, ev, fresh, nth, thenQ, blockQ, retV, retQ, catParts, fillL, cmpv, intsEq, ones, tyA, fnA, if_true, if_false, ite_true, ite_false, forall_const, implies_true, eq_self, ne_eq, reduceCtorEq, Value.cells, Value.oneCell', Nat.reduceAdd, Nat.reduceSub, Nat.reduceMul, Nat.reduceEqDiff, Nat.reduceLT, Nat.reduceLeDiff, Nat.reduceBEq, fBox, tBox, fdV, tyV, tpBox, tape, undef, Nat.mul_one, decV, g1_1, g1_5, g1_6, g1_7, g2_5, g2_6, g2_7, g2_8, g2_9, g2_10, g3_6]
  refine hK _ _ ?_
  clear hK K
  refine cv_gen fun G4 hG => ?_
  have g4_6 := congrFun hG 6
  have g4_11 := congrFun hG 11
  clear hG
  try simp -implicitDefEqProofs (disch := first | omega | decide) only [cA, Int.reduceToNat, Int.reduceLT, Int.reduceLE, Int.reduceEq, Int.reduceAdd, Int.reduceSub, Int.reduceMul, Int.reduceNeg, Int.reduceMod, Int.reduceDiv, pickL, evParts, gst, strV, List.set_cons_zero, List.set_cons_succ, vcd_nil, vcd_cons, stepV, pureV, pureX, pureR, readV, pv, binv, ldV, stV, condV, ev, fresh, nth, thenQ, blockQ, retV, retQ, catParts, fillL, cmpv, intsEq, ones, tyA, fnA, if_true, if_false, ite_true, ite_false, forall_const, implies_true, eq_self, ne_eq, reduceCtorEq, Value.cells, Value.oneCell', Nat.reduceAdd, Nat.reduceSub, Nat.reduceMul, Nat.reduceEqDiff, Nat.reduceLT, Nat.reduceLeDiff, Nat.reduceBEq, fBox, tBox, fdV, tyV, tpBox, tape, undef, Nat.mul_one, decV, g1_1, g1_5, g1_6, g1_7, g2_5, g2_6, g2_7, g2_8, g2_9, g2_10, g3_6] at g4_6
  try simp -implicitDefEqProofs (disch := first | omega | decide) only [cA, Int.reduceToNat, Int.reduceLT, Int.reduceLE, Int.reduceEq, Int.reduceAdd, Int.reduceSub, Int.reduceMul, Int.reduceNeg, Int.reduceMod, Int.reduceDiv, pickL, evParts, gst, strV, List.set_cons_zero, List.set_cons_succ, vcd_nil, vcd_cons, stepV, pureV, pureX, pureR, readV, pv, binv, ldV, stV, condV, ev, fresh, nth, thenQ, blockQ, retV, retQ, catParts, fillL, cmpv, intsEq, ones, tyA, fnA, if_true, if_false, ite_true, ite_false, forall_const, implies_true, eq_self, ne_eq, reduceCtorEq, Value.cells, Value.oneCell', Nat.reduceAdd, Nat.reduceSub, Nat.reduceMul, Nat.reduceEqDiff, Nat.reduceLT, Nat.reduceLeDiff, Nat.reduceBEq, fBox, tBox, fdV, tyV, tpBox, tape, undef, Nat.mul_one, decV, g1_1, g1_5, g1_6, g1_7, g2_5, g2_6, g2_7, g2_8, g2_9, g2_10, g3_6] at g4_11
  refine cv_block ?_
  refine cv_loop (fun F' L' => ∃ (k : Nat), F' 6 = G4 6 ∧ F' 11 = .int .i64 (k : Int) ∧ L' = [.row (.slice (some ⟨g, 0, none⟩) n4 c4) 5 1 n4 (byt bs)] ∧ k ≤ n4) (fun F' L' => 400 - (intOf (F' 11)).toNat) ?_ ?_
  · refine ⟨0, ?_⟩
    simp -implicitDefEqProofs (disch := first | omega | decide) only [cA, Int.reduceToNat, Int.reduceLT, Int.reduceLE, Int.reduceEq, Int.reduceAdd, Int.reduceSub, Int.reduceMul, Int.reduceNeg, Int.reduceMod, Int.reduceDiv, pickL, evParts, gst, strV, List.set_cons_zero, List.set_cons_succ, vcd_nil, vcd_cons, stepV, pureV, pureX, pureR, readV, pv, binv, ldV, stV, condV, ev, fresh, nth, thenQ, blockQ, retV, retQ, catParts, fillL, cmpv, intsEq, ones, tyA, fnA, if_true, if_false, ite_true, ite_false, forall_const, implies_true, eq_self, ne_eq, reduceCtorEq, Value.cells, Value.oneCell', Nat.reduceAdd, Nat.reduceSub, Nat.reduceMul, Nat.reduceEqDiff, Nat.reduceLT, Nat.reduceLeDiff, Nat.reduceBEq, fBox, tBox, fdV, tyV, tpBox, tape, undef, Nat.mul_one, decV, g1_1, g1_5, g1_6, g1_7, g2_5, g2_6, g2_7, g2_8, g2_9, g2_10, g3_6, g4_6, g4_11]
    omega
  intro G5 L' hI
  obtain ⟨k, q6, q11, rfl, hk⟩ := hI
  have g5_6 := q6.trans g4_6
  have g5_11 := q11
  clear q6 q11
  refine cv_seq_k fun K hK => ?_
  refine cv_seq_k fun K hK => ?_
  refine cv_region_then rfl ?_
  simp -implicitDefEqProofs (disch := first | omega | decide) only [cA, Int.reduceToNat, Int.reduceLT, Int.reduceLE, Int.reduceEq, Int.reduceAdd, Int.reduceSub, Int.reduceMul, Int.reduceNeg, Int.reduceMod, Int.reduceDiv, pickL, evParts, gst, strV, List.set_cons_zero, List.set_cons_succ, vcd_nil, vcd_cons, stepV, pureV, pureX, pureR, readV, pv, binv, ldV, stV, condV, ev, fresh, nth, thenQ, blockQ, retV, retQ, catParts, fillL, cmpv, intsEq, ones, tyA, fnA, if_true, if_false, ite_true, ite_false, forall_const, implies_true, eq_self, ne_eq, reduceCtorEq, Value.cells, Value.oneCell', Nat.reduceAdd, Nat.reduceSub, Nat.reduceMul, Nat.reduceEqDiff, Nat.reduceLT, Nat.reduceLeDiff, Nat.reduceBEq, fBox, tBox, fdV, tyV, tpBox, tape, undef, Nat.mul_one, decV, g1_1, g1_5, g1_6, g1_7, g2_5, g2_6, g2_7, g2_8, g2_9, g2_10, g3_6, g4_6, g4_11, g5_6, g5_11]
  refine hK _ _ ?_
  clear hK K
  refine cv_cond ?_
  simp -implicitDefEqProofs (disch := first | omega | decide) only [cA, Int.reduceToNat, Int.reduceLT, Int.reduceLE, Int.reduceEq, Int.reduceAdd, Int.reduceSub, Int.reduceMul, Int.reduceNeg, Int.reduceMod, Int.reduceDiv, pickL, evParts, gst, strV, List.set_cons_zero, List.set_cons_succ, vcd_nil, vcd_cons, stepV, pureV, pureX, pureR, readV, pv, binv, ldV, stV, condV, ev, fresh, nth, thenQ, blockQ, retV, retQ, catParts, fillL, cmpv, intsEq, ones, tyA, fnA, if_true, if_false, ite_true, ite_false, forall_const, implies_true, eq_self, ne_eq, reduceCtorEq, Value.cells, Value.oneCell', Nat.reduceAdd, Nat.reduceSub, Nat.reduceMul, Nat.reduceEqDiff, Nat.reduceLT, Nat.reduceLeDiff, Nat.reduceBEq, fBox, tBox, fdV, tyV, tpBox, tape, undef, Nat.mul_one, decV, g1_1, g1_5, g1_6, g1_7, g2_5, g2_6, g2_7, g2_8, g2_9, g2_10, g3_6, g4_6, g4_11, g5_6, g5_11]
  refine ⟨fun hc => ?_, fun hc => ?_⟩
  · refine cv_skip ?_
    try simp only [blockQ, thenQ]
    have hlt : k < n4 := by have := of_decide_eq_true ‹_›; omega
    have hdc : ∀ (w : World), Sl w w.heap.size 1 (some ⟨g, 0, none⟩) k c4 (byt (bs.take k)) → Calls Try.prog 15 #[.slice (some ⟨g, 0, none⟩) k c4] w (rowP 48 2 (decV (0, [], 0, 2)) (cl fdc []) w) := fun w hs => by
      have := decode_any (some ⟨g, 0, none⟩) k c4 (bs.take k) w hs (fun x hx => hbb x (List.mem_of_mem_take hx)) (by omega)
      rw [hC k (by omega)] at this
      exact this
    refine hK _ _ ?_
    clear hK K
    refine cv_seq_k fun K hK => ?_
    refine cv_block ?_
    refine cv_seq_k fun K hK => ?_
    refine cv_region_then rfl ?_
    simp -implicitDefEqProofs (disch := first | omega | decide) only [cA, Int.reduceToNat, Int.reduceLT, Int.reduceLE, Int.reduceEq, Int.reduceAdd, Int.reduceSub, Int.reduceMul, Int.reduceNeg, Int.reduceMod, Int.reduceDiv, pickL, evParts, gst, strV, List.set_cons_zero, List.set_cons_succ, vcd_nil, vcd_cons, stepV, pureV, pureX, pureR, readV, pv, binv, ldV, stV, condV, ev, fresh, nth, thenQ, blockQ, retV, retQ, catParts, fillL, cmpv, intsEq, ones, tyA, fnA, if_true, if_false, ite_true, ite_false, forall_const, implies_true, eq_self, ne_eq, reduceCtorEq, Value.cells, Value.oneCell', Nat.reduceAdd, Nat.reduceSub, Nat.reduceMul, Nat.reduceEqDiff, Nat.reduceLT, Nat.reduceLeDiff, Nat.reduceBEq, fBox, tBox, fdV, tyV, tpBox, tape, undef, Nat.mul_one, decV, g1_1, g1_5, g1_6, g1_7, g2_5, g2_6, g2_7, g2_8, g2_9, g2_10, g3_6, g4_6, g4_11, g5_6, g5_11]
    refine callV_row (fun A' n' c' => decV (0, [], 0, 2) (.slice A' n' c')) (fun w hw => hdc w ((hw.slb 0 rfl).btake (by omega))) ?_
    intro A9 n9 c9 hl9 _
    simp -implicitDefEqProofs (disch := first | omega | decide) only [cA, Int.reduceToNat, Int.reduceLT, Int.reduceLE, Int.reduceEq, Int.reduceAdd, Int.reduceSub, Int.reduceMul, Int.reduceNeg, Int.reduceMod, Int.reduceDiv, pickL, evParts, gst, strV, List.set_cons_zero, List.set_cons_succ, vcd_nil, vcd_cons, stepV, pureV, pureX, pureR, readV, pv, binv, ldV, stV, condV, ev, fresh, nth, thenQ, blockQ, retV, retQ, catParts, fillL, cmpv, intsEq, ones, tyA, fnA, if_true, if_false, ite_true, ite_false, forall_const, implies_true, eq_self, ne_eq, reduceCtorEq, Value.cells, Value.oneCell', Nat.reduceAdd, Nat.reduceSub, Nat.reduceMul, Nat.reduceEqDiff, Nat.reduceLT, Nat.reduceLeDiff, Nat.reduceBEq, fBox, tBox, fdV, tyV, tpBox, tape, undef, Nat.mul_one, decV, g1_1, g1_5, g1_6, g1_7, g2_5, g2_6, g2_7, g2_8, g2_9, g2_10, g3_6, g4_6, g4_11, g5_6, g5_11]
    intro b9 hb9
    refine hK _ _ ?_
    clear hK K
    refine cv_pick [2] (by decide) ?_
    simp only [pickL, nth]
    refine cv_seq_k fun K hK => ?_
    refine cv_region_then rfl ?_
    simp -implicitDefEqProofs (disch := first | omega | decide) only [cA, Int.reduceToNat, Int.reduceLT, Int.reduceLE, Int.reduceEq, Int.reduceAdd, Int.reduceSub, Int.reduceMul, Int.reduceNeg, Int.reduceMod, Int.reduceDiv, pickL, evParts, gst, strV, List.set_cons_zero, List.set_cons_succ, vcd_nil, vcd_cons, stepV, pureV, pureX, pureR, readV, pv, binv, ldV, stV, condV, ev, fresh, nth, thenQ, blockQ, retV, retQ, catParts, fillL, cmpv, intsEq, ones, tyA, fnA, if_true, if_false, ite_true, ite_false, forall_const, implies_true, eq_self, ne_eq, reduceCtorEq, Value.cells, Value.oneCell', Nat.reduceAdd, Nat.reduceSub, Nat.reduceMul, Nat.reduceEqDiff, Nat.reduceLT, Nat.reduceLeDiff, Nat.reduceBEq, fBox, tBox, fdV, tyV, tpBox, tape, undef, Nat.mul_one, decV, g1_1, g1_5, g1_6, g1_7, g2_5, g2_6, g2_7, g2_8, g2_9, g2_10, g3_6, g4_6, g4_11, g5_6, g5_11]
    refine hK _ _ ?_
    clear hK K
    refine cv_cond ?_
    simp -implicitDefEqProofs (disch := first | omega | decide) only [cA, Int.reduceToNat, Int.reduceLT, Int.reduceLE, Int.reduceEq, Int.reduceAdd, Int.reduceSub, Int.reduceMul, Int.reduceNeg, Int.reduceMod, Int.reduceDiv, pickL, evParts, gst, strV, List.set_cons_zero, List.set_cons_succ, vcd_nil, vcd_cons, stepV, pureV, pureX, pureR, readV, pv, binv, ldV, stV, condV, ev, fresh, nth, thenQ, blockQ, retV, retQ, catParts, fillL, cmpv, intsEq, ones, tyA, fnA, if_true, if_false, ite_true, ite_false, forall_const, implies_true, eq_self, ne_eq, reduceCtorEq, Value.cells, Value.oneCell', Nat.reduceAdd, Nat.reduceSub, Nat.reduceMul, Nat.reduceEqDiff, Nat.reduceLT, Nat.reduceLeDiff, Nat.reduceBEq, fBox, tBox, fdV, tyV, tpBox, tape, undef, Nat.mul_one, decV, g1_1, g1_5, g1_6, g1_7, g2_5, g2_6, g2_7, g2_8, g2_9, g2_10, g3_6, g4_6, g4_11, g5_6, g5_11]
    refine cv_skip ?_
    try simp only [blockQ, thenQ]
    refine hK _ _ ?_
    clear hK K
    refine cv_region_then rfl ?_
    simp -implicitDefEqProofs (disch := first | omega | decide) only [cA, Int.reduceToNat, Int.reduceLT, Int.reduceLE, Int.reduceEq, Int.reduceAdd, Int.reduceSub, Int.reduceMul, Int.reduceNeg, Int.reduceMod, Int.reduceDiv, pickL, evParts, gst, strV, List.set_cons_zero, List.set_cons_succ, vcd_nil, vcd_cons, stepV, pureV, pureX, pureR, readV, pv, binv, ldV, stV, condV, ev, fresh, nth, thenQ, blockQ, retV, retQ, catParts, fillL, cmpv, intsEq, ones, tyA, fnA, if_true, if_false, ite_true, ite_false, forall_const, implies_true, eq_self, ne_eq, reduceCtorEq, Value.cells, Value.oneCell', Nat.reduceAdd, Nat.reduceSub, Nat.reduceMul, Nat.reduceEqDiff, Nat.reduceLT, Nat.reduceLeDiff, Nat.reduceBEq, fBox, tBox, fdV, tyV, tpBox, tape, undef, Nat.mul_one, decV, wrap_in, g1_1, g1_5, g1_6, g1_7, g2_5, g2_6, g2_7, g2_8, g2_9, g2_10, g3_6, g4_6, g4_11, g5_6, g5_11]
    refine ⟨⟨k + 1, ?_⟩, ?_⟩
    · simp -implicitDefEqProofs (disch := first | omega | decide) only [cA, Int.reduceToNat, Int.reduceLT, Int.reduceLE, Int.reduceEq, Int.reduceAdd, Int.reduceSub, Int.reduceMul, Int.reduceNeg, Int.reduceMod, Int.reduceDiv, pickL, evParts, gst, strV, List.set_cons_zero, List.set_cons_succ, vcd_nil, vcd_cons, stepV, pureV, pureX, pureR, readV, pv, binv, ldV, stV, condV, ev, fresh, nth, thenQ, blockQ, retV, retQ, catParts, fillL, cmpv, intsEq, ones, tyA, fnA, if_true, if_false, ite_true, ite_false, forall_const, implies_true, eq_self, ne_eq, reduceCtorEq, Value.cells, Value.oneCell', Nat.reduceAdd, Nat.reduceSub, Nat.reduceMul, Nat.reduceEqDiff, Nat.reduceLT, Nat.reduceLeDiff, Nat.reduceBEq, fBox, tBox, fdV, tyV, tpBox, tape, undef, Nat.mul_one, decV, Int.natCast_add, g1_1, g1_5, g1_6, g1_7, g2_5, g2_6, g2_7, g2_8, g2_9, g2_10, g3_6, g4_6, g4_11, g5_6, g5_11]
      omega
    · simp only [intOf]; omega
  refine cv_exit ?_
  simp only [blockQ, thenQ, if_true, ite_true]
  clear hK K
  refine hK _ _ ?_
  clear hK K
  refine cv_seq_k fun K hK => ?_
  refine cv_region_then rfl ?_
  simp -implicitDefEqProofs (disch := first | omega | decide) only [cA, Int.reduceToNat, Int.reduceLT, Int.reduceLE, Int.reduceEq, Int.reduceAdd, Int.reduceSub, Int.reduceMul, Int.reduceNeg, Int.reduceMod, Int.reduceDiv, pickL, evParts, gst, strV, List.set_cons_zero, List.set_cons_succ, vcd_nil, vcd_cons, stepV, pureV, pureX, pureR, readV, pv, binv, ldV, stV, condV, ev, fresh, nth, thenQ, blockQ, retV, retQ, catParts, fillL, cmpv, intsEq, ones, tyA, fnA, if_true, if_false, ite_true, ite_false, forall_const, implies_true, eq_self, ne_eq, reduceCtorEq, Value.cells, Value.oneCell', Nat.reduceAdd, Nat.reduceSub, Nat.reduceMul, Nat.reduceEqDiff, Nat.reduceLT, Nat.reduceLeDiff, Nat.reduceBEq, fBox, tBox, fdV, tyV, tpBox, tape, undef, Nat.mul_one, decV, g1_1, g1_5, g1_6, g1_7, g2_5, g2_6, g2_7, g2_8, g2_9, g2_10, g3_6, g4_6, g4_11, g5_6, g5_11]
  refine callV_ret (fun w hw => awake_any w) ?_
  try simp -implicitDefEqProofs (disch := first | omega | decide) only [cA, Int.reduceToNat, Int.reduceLT, Int.reduceLE, Int.reduceEq, Int.reduceAdd, Int.reduceSub, Int.reduceMul, Int.reduceNeg, Int.reduceMod, Int.reduceDiv, pickL, evParts, gst, strV, List.set_cons_zero, List.set_cons_succ, vcd_nil, vcd_cons, stepV, pureV, pureX, pureR, readV, pv, binv, ldV, stV, condV, ev, fresh, nth, thenQ, blockQ, retV, retQ, catParts, fillL, cmpv, intsEq, ones, tyA, fnA, if_true, if_false, ite_true, ite_false, forall_const, implies_true, eq_self, ne_eq, reduceCtorEq, Value.cells, Value.oneCell', Nat.reduceAdd, Nat.reduceSub, Nat.reduceMul, Nat.reduceEqDiff, Nat.reduceLT, Nat.reduceLeDiff, Nat.reduceBEq, fBox, tBox, fdV, tyV, tpBox, tape, undef, Nat.mul_one, decV, g1_1, g1_5, g1_6, g1_7, g2_5, g2_6, g2_7, g2_8, g2_9, g2_10, g3_6, g4_6, g4_11, g5_6, g5_11]
  refine hK _ _ ?_
  clear hK K
  refine cv_ret ⟨_, (by simp -implicitDefEqProofs (disch := first | omega | decide) only [cA, Int.reduceToNat, Int.reduceLT, Int.reduceLE, Int.reduceEq, Int.reduceAdd, Int.reduceSub, Int.reduceMul, Int.reduceNeg, Int.reduceMod, Int.reduceDiv, pickL, evParts, gst, strV, List.set_cons_zero, List.set_cons_succ, vcd_nil, vcd_cons, stepV, pureV, pureX, pureR, readV, pv, binv, ldV, stV, condV, ev, fresh, nth, thenQ, blockQ, retV, retQ, catParts, fillL, cmpv, intsEq, ones, tyA, fnA, if_true, if_false, ite_true, ite_false, forall_const, implies_true, eq_self, ne_eq, reduceCtorEq, Value.cells, Value.oneCell', Nat.reduceAdd, Nat.reduceSub, Nat.reduceMul, Nat.reduceEqDiff, Nat.reduceLT, Nat.reduceLeDiff, Nat.reduceBEq, fBox, tBox, fdV, tyV, tpBox, tape, undef, Nat.mul_one, decV, g1_1, g1_5, g1_6, g1_7, g2_5, g2_6, g2_7, g2_8, g2_9, g2_10, g3_6, g4_6, g4_11, g5_6, g5_11]; rfl), fun w hw => ?_⟩
  exact ⟨rfl, hw.below⟩
end Go.Proofs.Ytoifcbmflclhnaa
