/- The reference's DecodeType and SameType; same. -/
import Derived.Test.YtoifcbmflclhnaaDec
namespace Go.Proofs.Ytoifcbmflclhnaa
open Go.RowKit Go.Shelf
set_option linter.unusedVariables false
set_option linter.unusedSimpArgs false
set_option maxRecDepth 100000
def iV (r : Nat × Nat × Int) : Value := .tuple #[.int .i64 (r.1 : Int), .int .i64 (r.2.1 : Int), .int .i64 r.2.2]
set_option maxHeartbeats 2000000 in
theorem small_any (A : Option Addr) (n c : Nat) (l : List Nat) (p most : Nat) (W : World) (hE : Sl W W.heap.size 1 A n c (byt l)) (hb : ∀ x ∈ l, x < 256) (hp : p ≤ n) (hn : n ≤ 4611686018427387904) (hm : most ≤ 1000000) :
    Calls Try.prog 29 #[.slice A n c, .int .i64 (p : Int), .int .u64 (most : Int)] W fun e w' => e = .returned (iV (smF l p most)) ∧ Below W.heap.size W w' := by
  have hln : l.length = n := byt_row hE.len
  have hcap := hE.cap
  have hmax := hE.max
  have hbd := drop_byte hb p
  obtain ⟨q, hq⟩ : ∃ q, uD 0 (l.drop p) = q := ⟨_, rfl⟩
  have hqc := uD_cases (l.drop p) 0 (by omega) hbd
  rw [hq, List.length_drop, hln] at hqc
  refine calls_cv (M := []) (n := 31) [.tmp 6, .tmp 7, .tmp 8] rfl Try.func29 rfl rfl (Nat.le_of_ble_eq_true rfl) (St.nil _ _) ?_
  refine cv_seq_k fun K hK => ?_
  refine cv_region_then rfl ?_
  simp -implicitDefEqProofs (disch := first | omega | decide) only [cA, Int.reduceToNat, Int.reduceLT, Int.reduceLE, Int.reduceEq, Int.reduceAdd, Int.reduceSub, Int.reduceMul, Int.reduceNeg, Int.reduceMod, Int.reduceDiv, pickL, evParts, gst, strV, List.set_cons_zero, List.set_cons_succ, vcd_nil, vcd_cons, stepV, pureV, pureX, pureR, readV, pv, binv, ldV, stV, condV, ev, fresh, nth, thenQ, blockQ, retV, retQ, catParts, fillL, cmpv, intsEq, ones, tyA, fnA, if_true, if_false, ite_true, ite_false, forall_const, implies_true, eq_self, ne_eq, reduceCtorEq, Value.cells, Value.oneCell', Nat.reduceAdd, Nat.reduceSub, Nat.reduceMul, Nat.reduceEqDiff, Nat.reduceLT, Nat.reduceLeDiff, Nat.reduceBEq, fBox, tBox, fdV, tyV, rdBox, rdCells, uV, iV, undef, Nat.mul_one, decV]
  refine hK _ _ ?_
  clear hK K
  refine cv_seq_k fun K hK => ?_
  refine cv_region_then rfl ?_
  simp -implicitDefEqProofs (disch := first | omega | decide) only [cA, Int.reduceToNat, Int.reduceLT, Int.reduceLE, Int.reduceEq, Int.reduceAdd, Int.reduceSub, Int.reduceMul, Int.reduceNeg, Int.reduceMod, Int.reduceDiv, pickL, evParts, gst, strV, List.set_cons_zero, List.set_cons_succ, vcd_nil, vcd_cons, stepV, pureV, pureX, pureR, readV, pv, binv, ldV, stV, condV, ev, fresh, nth, thenQ, blockQ, retV, retQ, catParts, fillL, cmpv, intsEq, ones, tyA, fnA, if_true, if_false, ite_true, ite_false, forall_const, implies_true, eq_self, ne_eq, reduceCtorEq, Value.cells, Value.oneCell', Nat.reduceAdd, Nat.reduceSub, Nat.reduceMul, Nat.reduceEqDiff, Nat.reduceLT, Nat.reduceLeDiff, Nat.reduceBEq, fBox, tBox, fdV, tyV, rdBox, rdCells, uV, iV, undef, Nat.mul_one, decV]
  refine callV_ret (fun w hw => ruint_any (sbase c p 1 A) (n - p) (c - p) (l.drop p) w ((hE.at hw).bdrop hp) hbd) ?_
  try simp -implicitDefEqProofs (disch := first | omega | decide) only [cA, Int.reduceToNat, Int.reduceLT, Int.reduceLE, Int.reduceEq, Int.reduceAdd, Int.reduceSub, Int.reduceMul, Int.reduceNeg, Int.reduceMod, Int.reduceDiv, pickL, evParts, gst, strV, List.set_cons_zero, List.set_cons_succ, vcd_nil, vcd_cons, stepV, pureV, pureX, pureR, readV, pv, binv, ldV, stV, condV, ev, fresh, nth, thenQ, blockQ, retV, retQ, catParts, fillL, cmpv, intsEq, ones, tyA, fnA, if_true, if_false, ite_true, ite_false, forall_const, implies_true, eq_self, ne_eq, reduceCtorEq, Value.cells, Value.oneCell', Nat.reduceAdd, Nat.reduceSub, Nat.reduceMul, Nat.reduceEqDiff, Nat.reduceLT, Nat.reduceLeDiff, Nat.reduceBEq, fBox, tBox, fdV, tyV, rdBox, rdCells, uV, iV, undef, Nat.mul_one, decV, hq]
  refine hK _ _ ?_
  clear hK K
  refine cv_seq_k fun K hK => ?_
  refine cv_seq_k fun K hK => ?_
  refine cv_region_then rfl ?_
  simp -implicitDefEqProofs (disch := first | omega | decide) only [cA, Int.reduceToNat, Int.reduceLT, Int.reduceLE, Int.reduceEq, Int.reduceAdd, Int.reduceSub, Int.reduceMul, Int.reduceNeg, Int.reduceMod, Int.reduceDiv, pickL, evParts, gst, strV, List.set_cons_zero, List.set_cons_succ, vcd_nil, vcd_cons, stepV, pureV, pureX, pureR, readV, pv, binv, ldV, stV, condV, ev, fresh, nth, thenQ, blockQ, retV, retQ, catParts, fillL, cmpv, intsEq, ones, tyA, fnA, if_true, if_false, ite_true, ite_false, forall_const, implies_true, eq_self, ne_eq, reduceCtorEq, Value.cells, Value.oneCell', Nat.reduceAdd, Nat.reduceSub, Nat.reduceMul, Nat.reduceEqDiff, Nat.reduceLT, Nat.reduceLeDiff, Nat.reduceBEq, fBox, tBox, fdV, tyV, rdBox, rdCells, uV, iV, undef, Nat.mul_one, decV]
  refine hK _ _ ?_
  clear hK K
  refine cv_cond ?_
  simp -implicitDefEqProofs (disch := first | omega | decide) only [cA, Int.reduceToNat, Int.reduceLT, Int.reduceLE, Int.reduceEq, Int.reduceAdd, Int.reduceSub, Int.reduceMul, Int.reduceNeg, Int.reduceMod, Int.reduceDiv, pickL, evParts, gst, strV, List.set_cons_zero, List.set_cons_succ, vcd_nil, vcd_cons, stepV, pureV, pureX, pureR, readV, pv, binv, ldV, stV, condV, ev, fresh, nth, thenQ, blockQ, retV, retQ, catParts, fillL, cmpv, intsEq, ones, tyA, fnA, if_true, if_false, ite_true, ite_false, forall_const, implies_true, eq_self, ne_eq, reduceCtorEq, Value.cells, Value.oneCell', Nat.reduceAdd, Nat.reduceSub, Nat.reduceMul, Nat.reduceEqDiff, Nat.reduceLT, Nat.reduceLeDiff, Nat.reduceBEq, fBox, tBox, fdV, tyV, rdBox, rdCells, uV, iV, undef, Nat.mul_one, decV]
  refine ⟨fun hc => ?_, fun hc => ?_⟩
  · have h0 : ¬ q.2.2 = 0 := by simpa using hc
    refine cv_seq_k fun K hK => ?_
    refine cv_region_then rfl ?_
    simp -implicitDefEqProofs (disch := first | omega | decide) only [cA, Int.reduceToNat, Int.reduceLT, Int.reduceLE, Int.reduceEq, Int.reduceAdd, Int.reduceSub, Int.reduceMul, Int.reduceNeg, Int.reduceMod, Int.reduceDiv, pickL, evParts, gst, strV, List.set_cons_zero, List.set_cons_succ, vcd_nil, vcd_cons, stepV, pureV, pureX, pureR, readV, pv, binv, ldV, stV, condV, ev, fresh, nth, thenQ, blockQ, retV, retQ, catParts, fillL, cmpv, intsEq, ones, tyA, fnA, if_true, if_false, ite_true, ite_false, forall_const, implies_true, eq_self, ne_eq, reduceCtorEq, Value.cells, Value.oneCell', Nat.reduceAdd, Nat.reduceSub, Nat.reduceMul, Nat.reduceEqDiff, Nat.reduceLT, Nat.reduceLeDiff, Nat.reduceBEq, fBox, tBox, fdV, tyV, rdBox, rdCells, uV, iV, undef, Nat.mul_one, decV]
    refine hK _ _ ?_
    clear hK K
    refine cv_ret ⟨_, (by simp -implicitDefEqProofs (disch := first | omega | decide) only [cA, Int.reduceToNat, Int.reduceLT, Int.reduceLE, Int.reduceEq, Int.reduceAdd, Int.reduceSub, Int.reduceMul, Int.reduceNeg, Int.reduceMod, Int.reduceDiv, pickL, evParts, gst, strV, List.set_cons_zero, List.set_cons_succ, vcd_nil, vcd_cons, stepV, pureV, pureX, pureR, readV, pv, binv, ldV, stV, condV, ev, fresh, nth, thenQ, blockQ, retV, retQ, catParts, fillL, cmpv, intsEq, ones, tyA, fnA, if_true, if_false, ite_true, ite_false, forall_const, implies_true, eq_self, ne_eq, reduceCtorEq, Value.cells, Value.oneCell', Nat.reduceAdd, Nat.reduceSub, Nat.reduceMul, Nat.reduceEqDiff, Nat.reduceLT, Nat.reduceLeDiff, Nat.reduceBEq, fBox, tBox, fdV, tyV, rdBox, rdCells, uV, iV, undef, Nat.mul_one, decV]; rfl), fun w hw => ?_⟩
    exact ⟨by unfold smF; rw [hq, if_neg h0]; rfl, hw.below⟩
  have h0 : q.2.2 = 0 := by simpa using hc
  refine cv_skip ?_
  try simp only [blockQ, thenQ]
  refine hK _ _ ?_
  clear hK K
  refine cv_seq_k fun K hK => ?_
  refine cv_seq_k fun K hK => ?_
  refine cv_region_then rfl ?_
  simp -implicitDefEqProofs (disch := first | omega | decide) only [cA, Int.reduceToNat, Int.reduceLT, Int.reduceLE, Int.reduceEq, Int.reduceAdd, Int.reduceSub, Int.reduceMul, Int.reduceNeg, Int.reduceMod, Int.reduceDiv, pickL, evParts, gst, strV, List.set_cons_zero, List.set_cons_succ, vcd_nil, vcd_cons, stepV, pureV, pureX, pureR, readV, pv, binv, ldV, stV, condV, ev, fresh, nth, thenQ, blockQ, retV, retQ, catParts, fillL, cmpv, intsEq, ones, tyA, fnA, if_true, if_false, ite_true, ite_false, forall_const, implies_true, eq_self, ne_eq, reduceCtorEq, Value.cells, Value.oneCell', Nat.reduceAdd, Nat.reduceSub, Nat.reduceMul, Nat.reduceEqDiff, Nat.reduceLT, Nat.reduceLeDiff, Nat.reduceBEq, fBox, tBox, fdV, tyV, rdBox, rdCells, uV, iV, undef, Nat.mul_one, decV]
  refine hK _ _ ?_
  clear hK K
  refine cv_cond ?_
  simp -implicitDefEqProofs (disch := first | omega | decide) only [cA, Int.reduceToNat, Int.reduceLT, Int.reduceLE, Int.reduceEq, Int.reduceAdd, Int.reduceSub, Int.reduceMul, Int.reduceNeg, Int.reduceMod, Int.reduceDiv, pickL, evParts, gst, strV, List.set_cons_zero, List.set_cons_succ, vcd_nil, vcd_cons, stepV, pureV, pureX, pureR, readV, pv, binv, ldV, stV, condV, ev, fresh, nth, thenQ, blockQ, retV, retQ, catParts, fillL, cmpv, intsEq, ones, tyA, fnA, if_true, if_false, ite_true, ite_false, forall_const, implies_true, eq_self, ne_eq, reduceCtorEq, Value.cells, Value.oneCell', Nat.reduceAdd, Nat.reduceSub, Nat.reduceMul, Nat.reduceEqDiff, Nat.reduceLT, Nat.reduceLeDiff, Nat.reduceBEq, fBox, tBox, fdV, tyV, rdBox, rdCells, uV, iV, undef, Nat.mul_one, decV]
  refine ⟨fun hc => ?_, fun hc => ?_⟩
  · have hm1 : most < q.1 := by have := of_decide_eq_true ‹_›; omega
    refine cv_seq_k fun K hK => ?_
    refine cv_region_then rfl ?_
    simp -implicitDefEqProofs (disch := first | omega | decide) only [cA, Int.reduceToNat, Int.reduceLT, Int.reduceLE, Int.reduceEq, Int.reduceAdd, Int.reduceSub, Int.reduceMul, Int.reduceNeg, Int.reduceMod, Int.reduceDiv, pickL, evParts, gst, strV, List.set_cons_zero, List.set_cons_succ, vcd_nil, vcd_cons, stepV, pureV, pureX, pureR, readV, pv, binv, ldV, stV, condV, ev, fresh, nth, thenQ, blockQ, retV, retQ, catParts, fillL, cmpv, intsEq, ones, tyA, fnA, if_true, if_false, ite_true, ite_false, forall_const, implies_true, eq_self, ne_eq, reduceCtorEq, Value.cells, Value.oneCell', Nat.reduceAdd, Nat.reduceSub, Nat.reduceMul, Nat.reduceEqDiff, Nat.reduceLT, Nat.reduceLeDiff, Nat.reduceBEq, fBox, tBox, fdV, tyV, rdBox, rdCells, uV, iV, undef, Nat.mul_one, decV]
    refine hK _ _ ?_
    clear hK K
    refine cv_ret ⟨_, (by simp -implicitDefEqProofs (disch := first | omega | decide) only [cA, Int.reduceToNat, Int.reduceLT, Int.reduceLE, Int.reduceEq, Int.reduceAdd, Int.reduceSub, Int.reduceMul, Int.reduceNeg, Int.reduceMod, Int.reduceDiv, pickL, evParts, gst, strV, List.set_cons_zero, List.set_cons_succ, vcd_nil, vcd_cons, stepV, pureV, pureX, pureR, readV, pv, binv, ldV, stV, condV, ev, fresh, nth, thenQ, blockQ, retV, retQ, catParts, fillL, cmpv, intsEq, ones, tyA, fnA, if_true, if_false, ite_true, ite_false, forall_const, implies_true, eq_self, ne_eq, reduceCtorEq, Value.cells, Value.oneCell', Nat.reduceAdd, Nat.reduceSub, Nat.reduceMul, Nat.reduceEqDiff, Nat.reduceLT, Nat.reduceLeDiff, Nat.reduceBEq, fBox, tBox, fdV, tyV, rdBox, rdCells, uV, iV, undef, Nat.mul_one, decV]; rfl), fun w hw => ?_⟩
    exact ⟨by unfold smF; rw [hq, if_pos h0, if_pos hm1]; rfl, hw.below⟩
  have hm1 : ¬ most < q.1 := by have := of_decide_eq_false ‹_›; omega
  have hql : p + q.2.1 ≤ n := by
    rcases hqc with h | h
    · omega
    · have := h.2.2.2.2.1; omega
  have e9 : IntKind.i64.wrap ((p : Int) + (q.2.1 : Int)) = ((p + q.2.1 : Nat) : Int) := by rw [wrap_in (by omega) (by omega)]; omega
  have e8 : IntKind.i64.wrap (q.1 : Int) = (q.1 : Int) := wrap_in (by omega) (by omega)
  refine cv_skip ?_
  try simp only [blockQ, thenQ]
  refine hK _ _ ?_
  clear hK K
  refine cv_seq_k fun K hK => ?_
  refine cv_region_then rfl ?_
  simp -implicitDefEqProofs (disch := first | omega | decide) only [cA, Int.reduceToNat, Int.reduceLT, Int.reduceLE, Int.reduceEq, Int.reduceAdd, Int.reduceSub, Int.reduceMul, Int.reduceNeg, Int.reduceMod, Int.reduceDiv, pickL, evParts, gst, strV, List.set_cons_zero, List.set_cons_succ, vcd_nil, vcd_cons, stepV, pureV, pureX, pureR, readV, pv, binv, ldV, stV, condV, ev, fresh, nth, thenQ, blockQ, retV, retQ, catParts, fillL, cmpv, intsEq, ones, tyA, fnA, if_true, if_false, ite_true, ite_false, forall_const, implies_true, eq_self, ne_eq, reduceCtorEq, Value.cells, Value.oneCell', Nat.reduceAdd, Nat.reduceSub, Nat.reduceMul, Nat.reduceEqDiff, Nat.reduceLT, Nat.reduceLeDiff, Nat.reduceBEq, fBox, tBox, fdV, tyV, rdBox, rdCells, uV, iV, undef, Nat.mul_one, decV, e9, e8]
  refine hK _ _ ?_
  clear hK K
  refine cv_ret ⟨_, (by simp -implicitDefEqProofs (disch := first | omega | decide) only [cA, Int.reduceToNat, Int.reduceLT, Int.reduceLE, Int.reduceEq, Int.reduceAdd, Int.reduceSub, Int.reduceMul, Int.reduceNeg, Int.reduceMod, Int.reduceDiv, pickL, evParts, gst, strV, List.set_cons_zero, List.set_cons_succ, vcd_nil, vcd_cons, stepV, pureV, pureX, pureR, readV, pv, binv, ldV, stV, condV, ev, fresh, nth, thenQ, blockQ, retV, retQ, catParts, fillL, cmpv, intsEq, ones, tyA, fnA, if_true, if_false, ite_true, ite_false, forall_const, implies_true, eq_self, ne_eq, reduceCtorEq, Value.cells, Value.oneCell', Nat.reduceAdd, Nat.reduceSub, Nat.reduceMul, Nat.reduceEqDiff, Nat.reduceLT, Nat.reduceLeDiff, Nat.reduceBEq, fBox, tBox, fdV, tyV, rdBox, rdCells, uV, iV, undef, Nat.mul_one, decV]; rfl), fun w hw => ?_⟩
  exact ⟨by unfold smF; rw [hq, if_pos h0, if_neg hm1]; rfl, hw.below⟩
set_option maxHeartbeats 4000000 in
theorem rdecode_any (A : Option Addr) (n c : Nat) (l : List Nat) (W : World) (hE : Sl W W.heap.size 1 A n c (byt l)) (hb : ∀ x ∈ l, x < 256) (hn : n ≤ 4611686018427387904) :
    Calls Try.prog 22 #[.slice A n c] W (rowP 48 2 (decV (decF l)) (cl fdc (decF l).2.1) W) := by
  have hln : l.length = n := byt_row hE.len
  obtain ⟨q1, h1⟩ : ∃ q, smF l 0 65536 = q := ⟨_, rfl⟩
  have k1 := smF_cases hb (p := 0) (most := 65536) (by omega)
  rw [h1] at k1
  refine calls_cv2 (M := []) (n := 82) [.cell 2 24, .tmp 3, .tmp 4] rfl Try.func22 rfl rfl (Nat.le_of_ble_eq_true rfl) (St.nil _ _) ?_
  refine cv_seq_k fun K hK => ?_
  refine cv_region_then rfl ?_
  simp -implicitDefEqProofs (disch := first | omega | decide) only [cA, Int.reduceToNat, Int.reduceLT, Int.reduceLE, Int.reduceEq, Int.reduceAdd, Int.reduceSub, Int.reduceMul, Int.reduceNeg, Int.reduceMod, Int.reduceDiv, pickL, evParts, gst, strV, List.set_cons_zero, List.set_cons_succ, vcd_nil, vcd_cons, stepV, pureV, pureX, pureR, readV, pv, binv, ldV, stV, condV, ev, fresh, nth, thenQ, blockQ, retV, retQ, catParts, fillL, cmpv, intsEq, ones, tyA, fnA, if_true, if_false, ite_true, ite_false, forall_const, implies_true, eq_self, ne_eq, reduceCtorEq, Value.cells, Value.oneCell', Nat.reduceAdd, Nat.reduceSub, Nat.reduceMul, Nat.reduceEqDiff, Nat.reduceLT, Nat.reduceLeDiff, Nat.reduceBEq, fBox, tBox, fdV, tyV, rdBox, rdCells, uV, iV, undef, Nat.mul_one, decV]
  intro b2 hb2
  refine hK _ _ ?_
  clear hK K
  refine cv_seq_k fun K hK => ?_
  refine cv_region_then rfl ?_
  simp -implicitDefEqProofs (disch := first | omega | decide) only [cA, Int.reduceToNat, Int.reduceLT, Int.reduceLE, Int.reduceEq, Int.reduceAdd, Int.reduceSub, Int.reduceMul, Int.reduceNeg, Int.reduceMod, Int.reduceDiv, pickL, evParts, gst, strV, List.set_cons_zero, List.set_cons_succ, vcd_nil, vcd_cons, stepV, pureV, pureX, pureR, readV, pv, binv, ldV, stV, condV, ev, fresh, nth, thenQ, blockQ, retV, retQ, catParts, fillL, cmpv, intsEq, ones, tyA, fnA, if_true, if_false, ite_true, ite_false, forall_const, implies_true, eq_self, ne_eq, reduceCtorEq, Value.cells, Value.oneCell', Nat.reduceAdd, Nat.reduceSub, Nat.reduceMul, Nat.reduceEqDiff, Nat.reduceLT, Nat.reduceLeDiff, Nat.reduceBEq, fBox, tBox, fdV, tyV, rdBox, rdCells, uV, iV, undef, Nat.mul_one, decV]
  refine callV_ret (fun w hw => small_any A n c l 0 65536 w (hE.at hw) hb (by omega) hn (by omega)) ?_
  try simp -implicitDefEqProofs (disch := first | omega | decide) only [cA, Int.reduceToNat, Int.reduceLT, Int.reduceLE, Int.reduceEq, Int.reduceAdd, Int.reduceSub, Int.reduceMul, Int.reduceNeg, Int.reduceMod, Int.reduceDiv, pickL, evParts, gst, strV, List.set_cons_zero, List.set_cons_succ, vcd_nil, vcd_cons, stepV, pureV, pureX, pureR, readV, pv, binv, ldV, stV, condV, ev, fresh, nth, thenQ, blockQ, retV, retQ, catParts, fillL, cmpv, intsEq, ones, tyA, fnA, if_true, if_false, ite_true, ite_false, forall_const, implies_true, eq_self, ne_eq, reduceCtorEq, Value.cells, Value.oneCell', Nat.reduceAdd, Nat.reduceSub, Nat.reduceMul, Nat.reduceEqDiff, Nat.reduceLT, Nat.reduceLeDiff, Nat.reduceBEq, fBox, tBox, fdV, tyV, rdBox, rdCells, uV, iV, undef, Nat.mul_one, decV, h1]
  refine hK _ _ ?_
  clear hK K
  refine cv_seq_k fun K hK => ?_
  refine cv_seq_k fun K hK => ?_
  refine cv_region_then rfl ?_
  simp -implicitDefEqProofs (disch := first | omega | decide) only [cA, Int.reduceToNat, Int.reduceLT, Int.reduceLE, Int.reduceEq, Int.reduceAdd, Int.reduceSub, Int.reduceMul, Int.reduceNeg, Int.reduceMod, Int.reduceDiv, pickL, evParts, gst, strV, List.set_cons_zero, List.set_cons_succ, vcd_nil, vcd_cons, stepV, pureV, pureX, pureR, readV, pv, binv, ldV, stV, condV, ev, fresh, nth, thenQ, blockQ, retV, retQ, catParts, fillL, cmpv, intsEq, ones, tyA, fnA, if_true, if_false, ite_true, ite_false, forall_const, implies_true, eq_self, ne_eq, reduceCtorEq, Value.cells, Value.oneCell', Nat.reduceAdd, Nat.reduceSub, Nat.reduceMul, Nat.reduceEqDiff, Nat.reduceLT, Nat.reduceLeDiff, Nat.reduceBEq, fBox, tBox, fdV, tyV, rdBox, rdCells, uV, iV, undef, Nat.mul_one, decV]
  refine hK _ _ ?_
  clear hK K
  refine cv_cond ?_
  simp -implicitDefEqProofs (disch := first | omega | decide) only [cA, Int.reduceToNat, Int.reduceLT, Int.reduceLE, Int.reduceEq, Int.reduceAdd, Int.reduceSub, Int.reduceMul, Int.reduceNeg, Int.reduceMod, Int.reduceDiv, pickL, evParts, gst, strV, List.set_cons_zero, List.set_cons_succ, vcd_nil, vcd_cons, stepV, pureV, pureX, pureR, readV, pv, binv, ldV, stV, condV, ev, fresh, nth, thenQ, blockQ, retV, retQ, catParts, fillL, cmpv, intsEq, ones, tyA, fnA, if_true, if_false, ite_true, ite_false, forall_const, implies_true, eq_self, ne_eq, reduceCtorEq, Value.cells, Value.oneCell', Nat.reduceAdd, Nat.reduceSub, Nat.reduceMul, Nat.reduceEqDiff, Nat.reduceLT, Nat.reduceLeDiff, Nat.reduceBEq, fBox, tBox, fdV, tyV, rdBox, rdCells, uV, iV, undef, Nat.mul_one, decV]
  refine ⟨fun hc => ?_, fun hc => ?_⟩
  · have h0 : ¬ q1.2.2 = 0 := by simpa using hc
    have hD : decF l = (0, [], 0, q1.2.2) := by unfold decF; rw [h1, if_neg h0]
    refine cv_seq_k fun K hK => ?_
    refine cv_region_then rfl ?_
    simp -implicitDefEqProofs (disch := first | omega | decide) only [cA, Int.reduceToNat, Int.reduceLT, Int.reduceLE, Int.reduceEq, Int.reduceAdd, Int.reduceSub, Int.reduceMul, Int.reduceNeg, Int.reduceMod, Int.reduceDiv, pickL, evParts, gst, strV, List.set_cons_zero, List.set_cons_succ, vcd_nil, vcd_cons, stepV, pureV, pureX, pureR, readV, pv, binv, ldV, stV, condV, ev, fresh, nth, thenQ, blockQ, retV, retQ, catParts, fillL, cmpv, intsEq, ones, tyA, fnA, if_true, if_false, ite_true, ite_false, forall_const, implies_true, eq_self, ne_eq, reduceCtorEq, Value.cells, Value.oneCell', Nat.reduceAdd, Nat.reduceSub, Nat.reduceMul, Nat.reduceEqDiff, Nat.reduceLT, Nat.reduceLeDiff, Nat.reduceBEq, fBox, tBox, fdV, tyV, rdBox, rdCells, uV, iV, undef, Nat.mul_one, decV]
    refine hK _ _ ?_
    clear hK K
    refine cv_ret ?_
    simp -implicitDefEqProofs (disch := first | omega | decide) only [cA, Int.reduceToNat, Int.reduceLT, Int.reduceLE, Int.reduceEq, Int.reduceAdd, Int.reduceSub, Int.reduceMul, Int.reduceNeg, Int.reduceMod, Int.reduceDiv, pickL, evParts, gst, strV, List.set_cons_zero, List.set_cons_succ, vcd_nil, vcd_cons, stepV, pureV, pureX, pureR, readV, pv, binv, ldV, stV, condV, ev, fresh, nth, thenQ, blockQ, retV, retQ, catParts, fillL, cmpv, intsEq, ones, tyA, fnA, if_true, if_false, ite_true, ite_false, forall_const, implies_true, eq_self, ne_eq, reduceCtorEq, Value.cells, Value.oneCell', Nat.reduceAdd, Nat.reduceSub, Nat.reduceMul, Nat.reduceEqDiff, Nat.reduceLT, Nat.reduceLeDiff, Nat.reduceBEq, fBox, tBox, fdV, tyV, rdBox, rdCells, uV, iV, undef, Nat.mul_one, decV, retQ2, ressV, packV]
    intro w hw
    rw [hD]
    exact ⟨none, 0, 0, rfl, World.ownsRow_nil _ _ _ _, hw.below⟩
  have h0 : q1.2.2 = 0 := by simpa using hc
  have k1 := k1.resolve_left fun h => h.1 h0
  obtain ⟨q2, h2⟩ : ∃ q, smF l q1.2.1 32 = q := ⟨_, rfl⟩
  obtain ⟨q3, h3⟩ : ∃ q, smF l q1.2.1 65536 = q := ⟨_, rfl⟩
  have k3 := smF_cases hb (p := q1.2.1) (most := 65536) k1.2.2.2.1
  rw [h3] at k3
  have h23 : q2 = if q3.2.2 = 0 then (if 32 < q3.1 then (0, 0, 4) else q3) else q3 := by
    rw [← h2, ← h3]
    unfold smF
    by_cases e : (uD 0 (l.drop q1.2.1)).2.2 = 0
    · simp only [if_pos e]
      by_cases e2 : 65536 < (uD 0 (l.drop q1.2.1)).1
      · rw [if_pos e2, if_pos (by omega)]
        simp
      · rw [if_neg e2]
        simp
    · simp only [if_neg e]
  refine cv_skip ?_
  try simp only [blockQ, thenQ]
  refine hK _ _ ?_
  clear hK K
  refine cv_seq_k fun K hK => ?_
  refine cv_region_then rfl ?_
  simp -implicitDefEqProofs (disch := first | omega | decide) only [cA, Int.reduceToNat, Int.reduceLT, Int.reduceLE, Int.reduceEq, Int.reduceAdd, Int.reduceSub, Int.reduceMul, Int.reduceNeg, Int.reduceMod, Int.reduceDiv, pickL, evParts, gst, strV, List.set_cons_zero, List.set_cons_succ, vcd_nil, vcd_cons, stepV, pureV, pureX, pureR, readV, pv, binv, ldV, stV, condV, ev, fresh, nth, thenQ, blockQ, retV, retQ, catParts, fillL, cmpv, intsEq, ones, tyA, fnA, if_true, if_false, ite_true, ite_false, forall_const, implies_true, eq_self, ne_eq, reduceCtorEq, Value.cells, Value.oneCell', Nat.reduceAdd, Nat.reduceSub, Nat.reduceMul, Nat.reduceEqDiff, Nat.reduceLT, Nat.reduceLeDiff, Nat.reduceBEq, fBox, tBox, fdV, tyV, rdBox, rdCells, uV, iV, undef, Nat.mul_one, decV]
  refine callV_ret (fun w hw => small_any A n c l q1.2.1 65536 w (hE.at hw) hb (by omega) hn (by omega)) ?_
  try simp -implicitDefEqProofs (disch := first | omega | decide) only [cA, Int.reduceToNat, Int.reduceLT, Int.reduceLE, Int.reduceEq, Int.reduceAdd, Int.reduceSub, Int.reduceMul, Int.reduceNeg, Int.reduceMod, Int.reduceDiv, pickL, evParts, gst, strV, List.set_cons_zero, List.set_cons_succ, vcd_nil, vcd_cons, stepV, pureV, pureX, pureR, readV, pv, binv, ldV, stV, condV, ev, fresh, nth, thenQ, blockQ, retV, retQ, catParts, fillL, cmpv, intsEq, ones, tyA, fnA, if_true, if_false, ite_true, ite_false, forall_const, implies_true, eq_self, ne_eq, reduceCtorEq, Value.cells, Value.oneCell', Nat.reduceAdd, Nat.reduceSub, Nat.reduceMul, Nat.reduceEqDiff, Nat.reduceLT, Nat.reduceLeDiff, Nat.reduceBEq, fBox, tBox, fdV, tyV, rdBox, rdCells, uV, iV, undef, Nat.mul_one, decV, h3]
  refine hK _ _ ?_
  clear hK K
  refine cv_seq_k fun K hK => ?_
  refine cv_seq_k fun K hK => ?_
  refine cv_region_then rfl ?_
  simp -implicitDefEqProofs (disch := first | omega | decide) only [cA, Int.reduceToNat, Int.reduceLT, Int.reduceLE, Int.reduceEq, Int.reduceAdd, Int.reduceSub, Int.reduceMul, Int.reduceNeg, Int.reduceMod, Int.reduceDiv, pickL, evParts, gst, strV, List.set_cons_zero, List.set_cons_succ, vcd_nil, vcd_cons, stepV, pureV, pureX, pureR, readV, pv, binv, ldV, stV, condV, ev, fresh, nth, thenQ, blockQ, retV, retQ, catParts, fillL, cmpv, intsEq, ones, tyA, fnA, if_true, if_false, ite_true, ite_false, forall_const, implies_true, eq_self, ne_eq, reduceCtorEq, Value.cells, Value.oneCell', Nat.reduceAdd, Nat.reduceSub, Nat.reduceMul, Nat.reduceEqDiff, Nat.reduceLT, Nat.reduceLeDiff, Nat.reduceBEq, fBox, tBox, fdV, tyV, rdBox, rdCells, uV, iV, undef, Nat.mul_one, decV]
  refine hK _ _ ?_
  clear hK K
  refine cv_cond ?_
  simp -implicitDefEqProofs (disch := first | omega | decide) only [cA, Int.reduceToNat, Int.reduceLT, Int.reduceLE, Int.reduceEq, Int.reduceAdd, Int.reduceSub, Int.reduceMul, Int.reduceNeg, Int.reduceMod, Int.reduceDiv, pickL, evParts, gst, strV, List.set_cons_zero, List.set_cons_succ, vcd_nil, vcd_cons, stepV, pureV, pureX, pureR, readV, pv, binv, ldV, stV, condV, ev, fresh, nth, thenQ, blockQ, retV, retQ, catParts, fillL, cmpv, intsEq, ones, tyA, fnA, if_true, if_false, ite_true, ite_false, forall_const, implies_true, eq_self, ne_eq, reduceCtorEq, Value.cells, Value.oneCell', Nat.reduceAdd, Nat.reduceSub, Nat.reduceMul, Nat.reduceEqDiff, Nat.reduceLT, Nat.reduceLeDiff, Nat.reduceBEq, fBox, tBox, fdV, tyV, rdBox, rdCells, uV, iV, undef, Nat.mul_one, decV]
  refine ⟨fun hc => ?_, fun hc => ?_⟩
  · have hz : ¬ q3.2.2 = 0 := by simpa using ‹(!decide (q3.2.2 = 0)) = true›
    rw [if_neg hz] at h23
    have hD : decF l = (0, [], 0, q3.2.2) := by unfold decF; rw [h1, h2, if_pos h0, h23, if_neg hz]
    refine cv_seq_k fun K hK => ?_
    refine cv_region_then rfl ?_
    simp -implicitDefEqProofs (disch := first | omega | decide) only [cA, Int.reduceToNat, Int.reduceLT, Int.reduceLE, Int.reduceEq, Int.reduceAdd, Int.reduceSub, Int.reduceMul, Int.reduceNeg, Int.reduceMod, Int.reduceDiv, pickL, evParts, gst, strV, List.set_cons_zero, List.set_cons_succ, vcd_nil, vcd_cons, stepV, pureV, pureX, pureR, readV, pv, binv, ldV, stV, condV, ev, fresh, nth, thenQ, blockQ, retV, retQ, catParts, fillL, cmpv, intsEq, ones, tyA, fnA, if_true, if_false, ite_true, ite_false, forall_const, implies_true, eq_self, ne_eq, reduceCtorEq, Value.cells, Value.oneCell', Nat.reduceAdd, Nat.reduceSub, Nat.reduceMul, Nat.reduceEqDiff, Nat.reduceLT, Nat.reduceLeDiff, Nat.reduceBEq, fBox, tBox, fdV, tyV, rdBox, rdCells, uV, iV, undef, Nat.mul_one, decV]
    refine hK _ _ ?_
    clear hK K
    refine cv_ret ?_
    simp -implicitDefEqProofs (disch := first | omega | decide) only [cA, Int.reduceToNat, Int.reduceLT, Int.reduceLE, Int.reduceEq, Int.reduceAdd, Int.reduceSub, Int.reduceMul, Int.reduceNeg, Int.reduceMod, Int.reduceDiv, pickL, evParts, gst, strV, List.set_cons_zero, List.set_cons_succ, vcd_nil, vcd_cons, stepV, pureV, pureX, pureR, readV, pv, binv, ldV, stV, condV, ev, fresh, nth, thenQ, blockQ, retV, retQ, catParts, fillL, cmpv, intsEq, ones, tyA, fnA, if_true, if_false, ite_true, ite_false, forall_const, implies_true, eq_self, ne_eq, reduceCtorEq, Value.cells, Value.oneCell', Nat.reduceAdd, Nat.reduceSub, Nat.reduceMul, Nat.reduceEqDiff, Nat.reduceLT, Nat.reduceLeDiff, Nat.reduceBEq, fBox, tBox, fdV, tyV, rdBox, rdCells, uV, iV, undef, Nat.mul_one, decV, retQ2, ressV, packV]
    intro w hw
    rw [hD]
    exact ⟨none, 0, 0, rfl, World.ownsRow_nil _ _ _ _, hw.below⟩
  have hz : q3.2.2 = 0 := by simpa using ‹(!decide (q3.2.2 = 0)) = false›
  rw [if_pos hz] at h23
  have k3 := k3.resolve_left fun h => h.1 hz
  refine cv_skip ?_
  try simp only [blockQ, thenQ]
  refine hK _ _ ?_
  clear hK K
  refine cv_seq_k fun K hK => ?_
  refine cv_seq_k fun K hK => ?_
  refine cv_region_then rfl ?_
  simp -implicitDefEqProofs (disch := first | omega | decide) only [cA, Int.reduceToNat, Int.reduceLT, Int.reduceLE, Int.reduceEq, Int.reduceAdd, Int.reduceSub, Int.reduceMul, Int.reduceNeg, Int.reduceMod, Int.reduceDiv, pickL, evParts, gst, strV, List.set_cons_zero, List.set_cons_succ, vcd_nil, vcd_cons, stepV, pureV, pureX, pureR, readV, pv, binv, ldV, stV, condV, ev, fresh, nth, thenQ, blockQ, retV, retQ, catParts, fillL, cmpv, intsEq, ones, tyA, fnA, if_true, if_false, ite_true, ite_false, forall_const, implies_true, eq_self, ne_eq, reduceCtorEq, Value.cells, Value.oneCell', Nat.reduceAdd, Nat.reduceSub, Nat.reduceMul, Nat.reduceEqDiff, Nat.reduceLT, Nat.reduceLeDiff, Nat.reduceBEq, fBox, tBox, fdV, tyV, rdBox, rdCells, uV, iV, undef, Nat.mul_one, decV]
  refine hK _ _ ?_
  clear hK K
  refine cv_cond ?_
  simp -implicitDefEqProofs (disch := first | omega | decide) only [cA, Int.reduceToNat, Int.reduceLT, Int.reduceLE, Int.reduceEq, Int.reduceAdd, Int.reduceSub, Int.reduceMul, Int.reduceNeg, Int.reduceMod, Int.reduceDiv, pickL, evParts, gst, strV, List.set_cons_zero, List.set_cons_succ, vcd_nil, vcd_cons, stepV, pureV, pureX, pureR, readV, pv, binv, ldV, stV, condV, ev, fresh, nth, thenQ, blockQ, retV, retQ, catParts, fillL, cmpv, intsEq, ones, tyA, fnA, if_true, if_false, ite_true, ite_false, forall_const, implies_true, eq_self, ne_eq, reduceCtorEq, Value.cells, Value.oneCell', Nat.reduceAdd, Nat.reduceSub, Nat.reduceMul, Nat.reduceEqDiff, Nat.reduceLT, Nat.reduceLeDiff, Nat.reduceBEq, fBox, tBox, fdV, tyV, rdBox, rdCells, uV, iV, undef, Nat.mul_one, decV]
  refine ⟨fun hc => ?_, fun hc => ?_⟩
  · have hm : 32 < q3.1 := by have := of_decide_eq_true ‹_›; omega
    rw [if_pos hm] at h23
    have hD : decF l = (0, [], 0, 4) := by unfold decF; rw [h1, h2, if_pos h0, h23, if_neg (by simp)]
    refine cv_seq_k fun K hK => ?_
    refine cv_region_then rfl ?_
    simp -implicitDefEqProofs (disch := first | omega | decide) only [cA, Int.reduceToNat, Int.reduceLT, Int.reduceLE, Int.reduceEq, Int.reduceAdd, Int.reduceSub, Int.reduceMul, Int.reduceNeg, Int.reduceMod, Int.reduceDiv, pickL, evParts, gst, strV, List.set_cons_zero, List.set_cons_succ, vcd_nil, vcd_cons, stepV, pureV, pureX, pureR, readV, pv, binv, ldV, stV, condV, ev, fresh, nth, thenQ, blockQ, retV, retQ, catParts, fillL, cmpv, intsEq, ones, tyA, fnA, if_true, if_false, ite_true, ite_false, forall_const, implies_true, eq_self, ne_eq, reduceCtorEq, Value.cells, Value.oneCell', Nat.reduceAdd, Nat.reduceSub, Nat.reduceMul, Nat.reduceEqDiff, Nat.reduceLT, Nat.reduceLeDiff, Nat.reduceBEq, fBox, tBox, fdV, tyV, rdBox, rdCells, uV, iV, undef, Nat.mul_one, decV]
    refine hK _ _ ?_
    clear hK K
    refine cv_ret ?_
    simp -implicitDefEqProofs (disch := first | omega | decide) only [cA, Int.reduceToNat, Int.reduceLT, Int.reduceLE, Int.reduceEq, Int.reduceAdd, Int.reduceSub, Int.reduceMul, Int.reduceNeg, Int.reduceMod, Int.reduceDiv, pickL, evParts, gst, strV, List.set_cons_zero, List.set_cons_succ, vcd_nil, vcd_cons, stepV, pureV, pureX, pureR, readV, pv, binv, ldV, stV, condV, ev, fresh, nth, thenQ, blockQ, retV, retQ, catParts, fillL, cmpv, intsEq, ones, tyA, fnA, if_true, if_false, ite_true, ite_false, forall_const, implies_true, eq_self, ne_eq, reduceCtorEq, Value.cells, Value.oneCell', Nat.reduceAdd, Nat.reduceSub, Nat.reduceMul, Nat.reduceEqDiff, Nat.reduceLT, Nat.reduceLeDiff, Nat.reduceBEq, fBox, tBox, fdV, tyV, rdBox, rdCells, uV, iV, undef, Nat.mul_one, decV, retQ2, ressV, packV]
    intro w hw
    rw [hD]
    exact ⟨none, 0, 0, rfl, World.ownsRow_nil _ _ _ _, hw.below⟩
  have hm : ¬ 32 < q3.1 := by have := of_decide_eq_false ‹_›; omega
  rw [if_neg hm] at h23
  refine cv_skip ?_
  try simp only [blockQ, thenQ]
  refine hK _ _ ?_
  clear hK K
  refine cv_seq_k fun K hK => ?_
  refine cv_region_then rfl ?_
  simp -implicitDefEqProofs (disch := first | omega | decide) only [cA, Int.reduceToNat, Int.reduceLT, Int.reduceLE, Int.reduceEq, Int.reduceAdd, Int.reduceSub, Int.reduceMul, Int.reduceNeg, Int.reduceMod, Int.reduceDiv, pickL, evParts, gst, strV, List.set_cons_zero, List.set_cons_succ, vcd_nil, vcd_cons, stepV, pureV, pureX, pureR, readV, pv, binv, ldV, stV, condV, ev, fresh, nth, thenQ, blockQ, retV, retQ, catParts, fillL, cmpv, intsEq, ones, tyA, fnA, if_true, if_false, ite_true, ite_false, forall_const, implies_true, eq_self, ne_eq, reduceCtorEq, Value.cells, Value.oneCell', Nat.reduceAdd, Nat.reduceSub, Nat.reduceMul, Nat.reduceEqDiff, Nat.reduceLT, Nat.reduceLeDiff, Nat.reduceBEq, fBox, tBox, fdV, tyV, rdBox, rdCells, uV, iV, undef, Nat.mul_one, decV]
  intro b9 hb9 h9
  refine hK _ _ ?_
  clear hK K
  refine cv_seq_k fun K hK => ?_
  refine cv_seq_k fun K hK => ?_
  refine cv_region_then rfl ?_
  simp -implicitDefEqProofs (disch := first | omega | decide) only [cA, Int.reduceToNat, Int.reduceLT, Int.reduceLE, Int.reduceEq, Int.reduceAdd, Int.reduceSub, Int.reduceMul, Int.reduceNeg, Int.reduceMod, Int.reduceDiv, pickL, evParts, gst, strV, List.set_cons_zero, List.set_cons_succ, vcd_nil, vcd_cons, stepV, pureV, pureX, pureR, readV, pv, binv, ldV, stV, condV, ev, fresh, nth, thenQ, blockQ, retV, retQ, catParts, fillL, cmpv, intsEq, ones, tyA, fnA, if_true, if_false, ite_true, ite_false, forall_const, implies_true, eq_self, ne_eq, reduceCtorEq, Value.cells, Value.oneCell', Nat.reduceAdd, Nat.reduceSub, Nat.reduceMul, Nat.reduceEqDiff, Nat.reduceLT, Nat.reduceLeDiff, Nat.reduceBEq, fBox, tBox, fdV, tyV, rdBox, rdCells, uV, iV, undef, Nat.mul_one, decV]
  refine hK _ _ ?_
  clear hK K
  refine cv_gen fun G1 hG => ?_
  have g1_0 := congrFun hG 0
  have g1_2 := congrFun hG 2
  have g1_6 := congrFun hG 6
  have g1_8 := congrFun hG 8
  have g1_9 := congrFun hG 9
  have g1_10 := congrFun hG 10
  clear hG
  try simp -implicitDefEqProofs (disch := first | omega | decide) only [cA, Int.reduceToNat, Int.reduceLT, Int.reduceLE, Int.reduceEq, Int.reduceAdd, Int.reduceSub, Int.reduceMul, Int.reduceNeg, Int.reduceMod, Int.reduceDiv, pickL, evParts, gst, strV, List.set_cons_zero, List.set_cons_succ, vcd_nil, vcd_cons, stepV, pureV, pureX, pureR, readV, pv, binv, ldV, stV, condV, ev, fresh, nth, thenQ, blockQ, retV, retQ, catParts, fillL, cmpv, intsEq, ones, tyA, fnA, if_true, if_false, ite_true, ite_false, forall_const, implies_true, eq_self, ne_eq, reduceCtorEq, Value.cells, Value.oneCell', Nat.reduceAdd, Nat.reduceSub, Nat.reduceMul, Nat.reduceEqDiff, Nat.reduceLT, Nat.reduceLeDiff, Nat.reduceBEq, fBox, tBox, fdV, tyV, rdBox, rdCells, uV, iV, undef, Nat.mul_one, decV] at g1_0
  try simp -implicitDefEqProofs (disch := first | omega | decide) only [cA, Int.reduceToNat, Int.reduceLT, Int.reduceLE, Int.reduceEq, Int.reduceAdd, Int.reduceSub, Int.reduceMul, Int.reduceNeg, Int.reduceMod, Int.reduceDiv, pickL, evParts, gst, strV, List.set_cons_zero, List.set_cons_succ, vcd_nil, vcd_cons, stepV, pureV, pureX, pureR, readV, pv, binv, ldV, stV, condV, ev, fresh, nth, thenQ, blockQ, retV, retQ, catParts, fillL, cmpv, intsEq, ones, tyA, fnA, if_true, if_false, ite_true, ite_false, forall_const, implies_true, eq_self, ne_eq, reduceCtorEq, Value.cells, Value.oneCell', Nat.reduceAdd, Nat.reduceSub, Nat.reduceMul, Nat.reduceEqDiff, Nat.reduceLT, Nat.reduceLeDiff, Nat.reduceBEq, fBox, tBox, fdV, tyV, rdBox, rdCells, uV, iV, undef, Nat.mul_one, decV] at g1_2
  try simp -implicitDefEqProofs (disch := first | omega | decide) only [cA, Int.reduceToNat, Int.reduceLT, Int.reduceLE, Int.reduceEq, Int.reduceAdd, Int.reduceSub, Int.reduceMul, Int.reduceNeg, Int.reduceMod, Int.reduceDiv, pickL, evParts, gst, strV, List.set_cons_zero, List.set_cons_succ, vcd_nil, vcd_cons, stepV, pureV, pureX, pureR, readV, pv, binv, ldV, stV, condV, ev, fresh, nth, thenQ, blockQ, retV, retQ, catParts, fillL, cmpv, intsEq, ones, tyA, fnA, if_true, if_false, ite_true, ite_false, forall_const, implies_true, eq_self, ne_eq, reduceCtorEq, Value.cells, Value.oneCell', Nat.reduceAdd, Nat.reduceSub, Nat.reduceMul, Nat.reduceEqDiff, Nat.reduceLT, Nat.reduceLeDiff, Nat.reduceBEq, fBox, tBox, fdV, tyV, rdBox, rdCells, uV, iV, undef, Nat.mul_one, decV] at g1_6
  try simp -implicitDefEqProofs (disch := first | omega | decide) only [cA, Int.reduceToNat, Int.reduceLT, Int.reduceLE, Int.reduceEq, Int.reduceAdd, Int.reduceSub, Int.reduceMul, Int.reduceNeg, Int.reduceMod, Int.reduceDiv, pickL, evParts, gst, strV, List.set_cons_zero, List.set_cons_succ, vcd_nil, vcd_cons, stepV, pureV, pureX, pureR, readV, pv, binv, ldV, stV, condV, ev, fresh, nth, thenQ, blockQ, retV, retQ, catParts, fillL, cmpv, intsEq, ones, tyA, fnA, if_true, if_false, ite_true, ite_false, forall_const, implies_true, eq_self, ne_eq, reduceCtorEq, Value.cells, Value.oneCell', Nat.reduceAdd, Nat.reduceSub, Nat.reduceMul, Nat.reduceEqDiff, Nat.reduceLT, Nat.reduceLeDiff, Nat.reduceBEq, fBox, tBox, fdV, tyV, rdBox, rdCells, uV, iV, undef, Nat.mul_one, decV] at g1_8
  try simp -implicitDefEqProofs (disch := first | omega | decide) only [cA, Int.reduceToNat, Int.reduceLT, Int.reduceLE, Int.reduceEq, Int.reduceAdd, Int.reduceSub, Int.reduceMul, Int.reduceNeg, Int.reduceMod, Int.reduceDiv, pickL, evParts, gst, strV, List.set_cons_zero, List.set_cons_succ, vcd_nil, vcd_cons, stepV, pureV, pureX, pureR, readV, pv, binv, ldV, stV, condV, ev, fresh, nth, thenQ, blockQ, retV, retQ, catParts, fillL, cmpv, intsEq, ones, tyA, fnA, if_true, if_false, ite_true, ite_false, forall_const, implies_true, eq_self, ne_eq, reduceCtorEq, Value.cells, Value.oneCell', Nat.reduceAdd, Nat.reduceSub, Nat.reduceMul, Nat.reduceEqDiff, Nat.reduceLT, Nat.reduceLeDiff, Nat.reduceBEq, fBox, tBox, fdV, tyV, rdBox, rdCells, uV, iV, undef, Nat.mul_one, decV] at g1_9
  try simp -implicitDefEqProofs (disch := first | omega | decide) only [cA, Int.reduceToNat, Int.reduceLT, Int.reduceLE, Int.reduceEq, Int.reduceAdd, Int.reduceSub, Int.reduceMul, Int.reduceNeg, Int.reduceMod, Int.reduceDiv, pickL, evParts, gst, strV, List.set_cons_zero, List.set_cons_succ, vcd_nil, vcd_cons, stepV, pureV, pureX, pureR, readV, pv, binv, ldV, stV, condV, ev, fresh, nth, thenQ, blockQ, retV, retQ, catParts, fillL, cmpv, intsEq, ones, tyA, fnA, if_true, if_false, ite_true, ite_false, forall_const, implies_true, eq_self, ne_eq, reduceCtorEq, Value.cells, Value.oneCell', Nat.reduceAdd, Nat.reduceSub, Nat.reduceMul, Nat.reduceEqDiff, Nat.reduceLT, Nat.reduceLeDiff, Nat.reduceBEq, fBox, tBox, fdV, tyV, rdBox, rdCells, uV, iV, undef, Nat.mul_one, decV] at g1_10
  refine cv_block ?_
  refine cv_nil 48 2 ?_
  refine cv_loop (fun F' L' => ∃ (j p c6 : Nat) (A6 : Option Addr) (gs : List Fd), F' 0 = G1 0 ∧ F' 2 = G1 2 ∧ F' 6 = .int .i64 (p : Int) ∧ F' 8 = G1 8 ∧ F' 9 = G1 9 ∧ F' 10 = .int .i64 (j : Int) ∧ L' = [.row (.slice A6 j c6) 48 2 j (cl fdc gs), tBox b9 (q1.1 : Int) A6 j c6, tBox b2 0 none 0 0] ∧ dInv l q3.1 q3.2.1 j gs p) (fun F' L' => 40 - (intOf (F' 10)).toNat) ?_ ?_
  · refine ⟨0, q3.2.1, 0, none, [], ?_⟩
    simp -implicitDefEqProofs (disch := first | omega | decide) only [cA, Int.reduceToNat, Int.reduceLT, Int.reduceLE, Int.reduceEq, Int.reduceAdd, Int.reduceSub, Int.reduceMul, Int.reduceNeg, Int.reduceMod, Int.reduceDiv, pickL, evParts, gst, strV, List.set_cons_zero, List.set_cons_succ, vcd_nil, vcd_cons, stepV, pureV, pureX, pureR, readV, pv, binv, ldV, stV, condV, ev, fresh, nth, thenQ, blockQ, retV, retQ, catParts, fillL, cmpv, intsEq, ones, tyA, fnA, if_true, if_false, ite_true, ite_false, forall_const, implies_true, eq_self, ne_eq, reduceCtorEq, Value.cells, Value.oneCell', Nat.reduceAdd, Nat.reduceSub, Nat.reduceMul, Nat.reduceEqDiff, Nat.reduceLT, Nat.reduceLeDiff, Nat.reduceBEq, fBox, tBox, fdV, tyV, rdBox, rdCells, uV, iV, undef, Nat.mul_one, decV, hz, g1_0, g1_2, g1_6, g1_8, g1_9, g1_10]
    exact ⟨rfl, dInv_start k3.2.2.2.1⟩
  intro G2 L' hI
  obtain ⟨j, p, c6, A6, gs, q0, q2, q6, q8, q9, q10, rfl, hI⟩ := hI
  have g2_0 := q0.trans g1_0
  have g2_2 := q2.trans g1_2
  have g2_6 := q6
  have g2_8 := q8.trans g1_8
  have g2_9 := q9.trans g1_9
  have g2_10 := q10
  clear q0 q2 q6 q8 q9 q10
  have hI1 := hI.1
  have hp := hI.2.2.1
  refine cv_seq_k fun K hK => ?_
  refine cv_seq_k fun K hK => ?_
  refine cv_region_then rfl ?_
  simp -implicitDefEqProofs (disch := first | omega | decide) only [cA, Int.reduceToNat, Int.reduceLT, Int.reduceLE, Int.reduceEq, Int.reduceAdd, Int.reduceSub, Int.reduceMul, Int.reduceNeg, Int.reduceMod, Int.reduceDiv, pickL, evParts, gst, strV, List.set_cons_zero, List.set_cons_succ, vcd_nil, vcd_cons, stepV, pureV, pureX, pureR, readV, pv, binv, ldV, stV, condV, ev, fresh, nth, thenQ, blockQ, retV, retQ, catParts, fillL, cmpv, intsEq, ones, tyA, fnA, if_true, if_false, ite_true, ite_false, forall_const, implies_true, eq_self, ne_eq, reduceCtorEq, Value.cells, Value.oneCell', Nat.reduceAdd, Nat.reduceSub, Nat.reduceMul, Nat.reduceEqDiff, Nat.reduceLT, Nat.reduceLeDiff, Nat.reduceBEq, fBox, tBox, fdV, tyV, rdBox, rdCells, uV, iV, undef, Nat.mul_one, decV, g1_0, g1_2, g1_6, g1_8, g1_9, g1_10, g2_0, g2_2, g2_6, g2_8, g2_9, g2_10]
  refine hK _ _ ?_
  clear hK K
  refine cv_cond ?_
  simp -implicitDefEqProofs (disch := first | omega | decide) only [cA, Int.reduceToNat, Int.reduceLT, Int.reduceLE, Int.reduceEq, Int.reduceAdd, Int.reduceSub, Int.reduceMul, Int.reduceNeg, Int.reduceMod, Int.reduceDiv, pickL, evParts, gst, strV, List.set_cons_zero, List.set_cons_succ, vcd_nil, vcd_cons, stepV, pureV, pureX, pureR, readV, pv, binv, ldV, stV, condV, ev, fresh, nth, thenQ, blockQ, retV, retQ, catParts, fillL, cmpv, intsEq, ones, tyA, fnA, if_true, if_false, ite_true, ite_false, forall_const, implies_true, eq_self, ne_eq, reduceCtorEq, Value.cells, Value.oneCell', Nat.reduceAdd, Nat.reduceSub, Nat.reduceMul, Nat.reduceEqDiff, Nat.reduceLT, Nat.reduceLeDiff, Nat.reduceBEq, fBox, tBox, fdV, tyV, rdBox, rdCells, uV, iV, undef, Nat.mul_one, decV, g1_0, g1_2, g1_6, g1_8, g1_9, g1_10, g2_0, g2_2, g2_6, g2_8, g2_9, g2_10]
  refine ⟨fun hc => ?_, fun hc => ?_⟩
  · refine cv_skip ?_
    try simp only [blockQ, thenQ]
    have hj : j < q3.1 := by have := of_decide_eq_true ‹_›; omega
    obtain ⟨s1, e1⟩ : ∃ q, smF l p 65536 = q := ⟨_, rfl⟩
    have m1 := smF_cases hb (most := 65536) hp
    rw [e1] at m1
    refine hK _ _ ?_
    clear hK K
    refine cv_seq_k fun K hK => ?_
    refine cv_block ?_
    refine cv_seq_k fun K hK => ?_
    refine cv_region_then rfl ?_
    simp -implicitDefEqProofs (disch := first | omega | decide) only [cA, Int.reduceToNat, Int.reduceLT, Int.reduceLE, Int.reduceEq, Int.reduceAdd, Int.reduceSub, Int.reduceMul, Int.reduceNeg, Int.reduceMod, Int.reduceDiv, pickL, evParts, gst, strV, List.set_cons_zero, List.set_cons_succ, vcd_nil, vcd_cons, stepV, pureV, pureX, pureR, readV, pv, binv, ldV, stV, condV, ev, fresh, nth, thenQ, blockQ, retV, retQ, catParts, fillL, cmpv, intsEq, ones, tyA, fnA, if_true, if_false, ite_true, ite_false, forall_const, implies_true, eq_self, ne_eq, reduceCtorEq, Value.cells, Value.oneCell', Nat.reduceAdd, Nat.reduceSub, Nat.reduceMul, Nat.reduceEqDiff, Nat.reduceLT, Nat.reduceLeDiff, Nat.reduceBEq, fBox, tBox, fdV, tyV, rdBox, rdCells, uV, iV, undef, Nat.mul_one, decV, g1_0, g1_2, g1_6, g1_8, g1_9, g1_10, g2_0, g2_2, g2_6, g2_8, g2_9, g2_10]
    intro b11 hb11 h11
    refine hK _ _ ?_
    clear hK K
    refine cv_seq_k fun K hK => ?_
    refine cv_region_then rfl ?_
    simp -implicitDefEqProofs (disch := first | omega | decide) only [cA, Int.reduceToNat, Int.reduceLT, Int.reduceLE, Int.reduceEq, Int.reduceAdd, Int.reduceSub, Int.reduceMul, Int.reduceNeg, Int.reduceMod, Int.reduceDiv, pickL, evParts, gst, strV, List.set_cons_zero, List.set_cons_succ, vcd_nil, vcd_cons, stepV, pureV, pureX, pureR, readV, pv, binv, ldV, stV, condV, ev, fresh, nth, thenQ, blockQ, retV, retQ, catParts, fillL, cmpv, intsEq, ones, tyA, fnA, if_true, if_false, ite_true, ite_false, forall_const, implies_true, eq_self, ne_eq, reduceCtorEq, Value.cells, Value.oneCell', Nat.reduceAdd, Nat.reduceSub, Nat.reduceMul, Nat.reduceEqDiff, Nat.reduceLT, Nat.reduceLeDiff, Nat.reduceBEq, fBox, tBox, fdV, tyV, rdBox, rdCells, uV, iV, undef, Nat.mul_one, decV, g1_0, g1_2, g1_6, g1_8, g1_9, g1_10, g2_0, g2_2, g2_6, g2_8, g2_9, g2_10]
    refine callV_ret (fun w hw => small_any A n c l p 65536 w (hE.at hw) hb (by omega) hn (by omega)) ?_
    try simp -implicitDefEqProofs (disch := first | omega | decide) only [cA, Int.reduceToNat, Int.reduceLT, Int.reduceLE, Int.reduceEq, Int.reduceAdd, Int.reduceSub, Int.reduceMul, Int.reduceNeg, Int.reduceMod, Int.reduceDiv, pickL, evParts, gst, strV, List.set_cons_zero, List.set_cons_succ, vcd_nil, vcd_cons, stepV, pureV, pureX, pureR, readV, pv, binv, ldV, stV, condV, ev, fresh, nth, thenQ, blockQ, retV, retQ, catParts, fillL, cmpv, intsEq, ones, tyA, fnA, if_true, if_false, ite_true, ite_false, forall_const, implies_true, eq_self, ne_eq, reduceCtorEq, Value.cells, Value.oneCell', Nat.reduceAdd, Nat.reduceSub, Nat.reduceMul, Nat.reduceEqDiff, Nat.reduceLT, Nat.reduceLeDiff, Nat.reduceBEq, fBox, tBox, fdV, tyV, rdBox, rdCells, uV, iV, undef, Nat.mul_one, decV, e1, g1_0, g1_2, g1_6, g1_8, g1_9, g1_10, g2_0, g2_2, g2_6, g2_8, g2_9, g2_10]
    refine hK _ _ ?_
    clear hK K
    refine cv_seq_k fun K hK => ?_
    refine cv_seq_k fun K hK => ?_
    refine cv_region_then rfl ?_
    simp -implicitDefEqProofs (disch := first | omega | decide) only [cA, Int.reduceToNat, Int.reduceLT, Int.reduceLE, Int.reduceEq, Int.reduceAdd, Int.reduceSub, Int.reduceMul, Int.reduceNeg, Int.reduceMod, Int.reduceDiv, pickL, evParts, gst, strV, List.set_cons_zero, List.set_cons_succ, vcd_nil, vcd_cons, stepV, pureV, pureX, pureR, readV, pv, binv, ldV, stV, condV, ev, fresh, nth, thenQ, blockQ, retV, retQ, catParts, fillL, cmpv, intsEq, ones, tyA, fnA, if_true, if_false, ite_true, ite_false, forall_const, implies_true, eq_self, ne_eq, reduceCtorEq, Value.cells, Value.oneCell', Nat.reduceAdd, Nat.reduceSub, Nat.reduceMul, Nat.reduceEqDiff, Nat.reduceLT, Nat.reduceLeDiff, Nat.reduceBEq, fBox, tBox, fdV, tyV, rdBox, rdCells, uV, iV, undef, Nat.mul_one, decV, g1_0, g1_2, g1_6, g1_8, g1_9, g1_10, g2_0, g2_2, g2_6, g2_8, g2_9, g2_10]
    refine hK _ _ ?_
    clear hK K
    refine cv_cond ?_
    simp -implicitDefEqProofs (disch := first | omega | decide) only [cA, Int.reduceToNat, Int.reduceLT, Int.reduceLE, Int.reduceEq, Int.reduceAdd, Int.reduceSub, Int.reduceMul, Int.reduceNeg, Int.reduceMod, Int.reduceDiv, pickL, evParts, gst, strV, List.set_cons_zero, List.set_cons_succ, vcd_nil, vcd_cons, stepV, pureV, pureX, pureR, readV, pv, binv, ldV, stV, condV, ev, fresh, nth, thenQ, blockQ, retV, retQ, catParts, fillL, cmpv, intsEq, ones, tyA, fnA, if_true, if_false, ite_true, ite_false, forall_const, implies_true, eq_self, ne_eq, reduceCtorEq, Value.cells, Value.oneCell', Nat.reduceAdd, Nat.reduceSub, Nat.reduceMul, Nat.reduceEqDiff, Nat.reduceLT, Nat.reduceLeDiff, Nat.reduceBEq, fBox, tBox, fdV, tyV, rdBox, rdCells, uV, iV, undef, Nat.mul_one, decV, g1_0, g1_2, g1_6, g1_8, g1_9, g1_10, g2_0, g2_2, g2_6, g2_8, g2_9, g2_10]
    refine ⟨fun hc => ?_, fun hc => ?_⟩
    · have hz1 : ¬ s1.2.2 = 0 := by simpa using ‹(!decide (s1.2.2 = 0)) = true›
      have hr := dInv_err1 hI hj (by rw [e1]; exact hz1)
      rw [e1] at hr
      have hD : decF l = (0, [], 0, s1.2.2) := by unfold decF; rw [h1, h2, if_pos h0, h23, if_pos hz, hr, if_neg hz1]
      refine cv_seq_k fun K hK => ?_
      refine cv_region_then rfl ?_
      simp -implicitDefEqProofs (disch := first | omega | decide) only [cA, Int.reduceToNat, Int.reduceLT, Int.reduceLE, Int.reduceEq, Int.reduceAdd, Int.reduceSub, Int.reduceMul, Int.reduceNeg, Int.reduceMod, Int.reduceDiv, pickL, evParts, gst, strV, List.set_cons_zero, List.set_cons_succ, vcd_nil, vcd_cons, stepV, pureV, pureX, pureR, readV, pv, binv, ldV, stV, condV, ev, fresh, nth, thenQ, blockQ, retV, retQ, catParts, fillL, cmpv, intsEq, ones, tyA, fnA, if_true, if_false, ite_true, ite_false, forall_const, implies_true, eq_self, ne_eq, reduceCtorEq, Value.cells, Value.oneCell', Nat.reduceAdd, Nat.reduceSub, Nat.reduceMul, Nat.reduceEqDiff, Nat.reduceLT, Nat.reduceLeDiff, Nat.reduceBEq, fBox, tBox, fdV, tyV, rdBox, rdCells, uV, iV, undef, Nat.mul_one, decV, g1_0, g1_2, g1_6, g1_8, g1_9, g1_10, g2_0, g2_2, g2_6, g2_8, g2_9, g2_10]
      refine hK _ _ ?_
      clear hK K
      refine cv_ret ?_
      simp -implicitDefEqProofs (disch := first | omega | decide) only [cA, Int.reduceToNat, Int.reduceLT, Int.reduceLE, Int.reduceEq, Int.reduceAdd, Int.reduceSub, Int.reduceMul, Int.reduceNeg, Int.reduceMod, Int.reduceDiv, pickL, evParts, gst, strV, List.set_cons_zero, List.set_cons_succ, vcd_nil, vcd_cons, stepV, pureV, pureX, pureR, readV, pv, binv, ldV, stV, condV, ev, fresh, nth, thenQ, blockQ, retV, retQ, catParts, fillL, cmpv, intsEq, ones, tyA, fnA, if_true, if_false, ite_true, ite_false, forall_const, implies_true, eq_self, ne_eq, reduceCtorEq, Value.cells, Value.oneCell', Nat.reduceAdd, Nat.reduceSub, Nat.reduceMul, Nat.reduceEqDiff, Nat.reduceLT, Nat.reduceLeDiff, Nat.reduceBEq, fBox, tBox, fdV, tyV, rdBox, rdCells, uV, iV, undef, Nat.mul_one, decV, retQ2, ressV, packV, g1_0, g1_2, g1_6, g1_8, g1_9, g1_10, g2_0, g2_2, g2_6, g2_8, g2_9, g2_10]
      intro w hw
      rw [hD]
      exact ⟨none, 0, 0, rfl, World.ownsRow_nil _ _ _ _, hw.below⟩
    have hz1 : s1.2.2 = 0 := by simpa using ‹(!decide (s1.2.2 = 0)) = false›
    have m1 := m1.resolve_left fun h => h.1 hz1
    obtain ⟨s2, e2⟩ : ∃ q, smF l s1.2.1 65536 = q := ⟨_, rfl⟩
    have m2 := smF_cases hb (most := 65536) m1.2.2.2.1
    rw [e2] at m2
    refine cv_skip ?_
    try simp only [blockQ, thenQ]
    refine hK _ _ ?_
    clear hK K
    refine cv_seq_k fun K hK => ?_
    refine cv_region_then rfl ?_
    simp -implicitDefEqProofs (disch := first | omega | decide) only [cA, Int.reduceToNat, Int.reduceLT, Int.reduceLE, Int.reduceEq, Int.reduceAdd, Int.reduceSub, Int.reduceMul, Int.reduceNeg, Int.reduceMod, Int.reduceDiv, pickL, evParts, gst, strV, List.set_cons_zero, List.set_cons_succ, vcd_nil, vcd_cons, stepV, pureV, pureX, pureR, readV, pv, binv, ldV, stV, condV, ev, fresh, nth, thenQ, blockQ, retV, retQ, catParts, fillL, cmpv, intsEq, ones, tyA, fnA, if_true, if_false, ite_true, ite_false, forall_const, implies_true, eq_self, ne_eq, reduceCtorEq, Value.cells, Value.oneCell', Nat.reduceAdd, Nat.reduceSub, Nat.reduceMul, Nat.reduceEqDiff, Nat.reduceLT, Nat.reduceLeDiff, Nat.reduceBEq, fBox, tBox, fdV, tyV, rdBox, rdCells, uV, iV, undef, Nat.mul_one, decV, g1_0, g1_2, g1_6, g1_8, g1_9, g1_10, g2_0, g2_2, g2_6, g2_8, g2_9, g2_10]
    refine callV_ret (fun w hw => small_any A n c l s1.2.1 65536 w (hE.at hw) hb (by omega) hn (by omega)) ?_
    try simp -implicitDefEqProofs (disch := first | omega | decide) only [cA, Int.reduceToNat, Int.reduceLT, Int.reduceLE, Int.reduceEq, Int.reduceAdd, Int.reduceSub, Int.reduceMul, Int.reduceNeg, Int.reduceMod, Int.reduceDiv, pickL, evParts, gst, strV, List.set_cons_zero, List.set_cons_succ, vcd_nil, vcd_cons, stepV, pureV, pureX, pureR, readV, pv, binv, ldV, stV, condV, ev, fresh, nth, thenQ, blockQ, retV, retQ, catParts, fillL, cmpv, intsEq, ones, tyA, fnA, if_true, if_false, ite_true, ite_false, forall_const, implies_true, eq_self, ne_eq, reduceCtorEq, Value.cells, Value.oneCell', Nat.reduceAdd, Nat.reduceSub, Nat.reduceMul, Nat.reduceEqDiff, Nat.reduceLT, Nat.reduceLeDiff, Nat.reduceBEq, fBox, tBox, fdV, tyV, rdBox, rdCells, uV, iV, undef, Nat.mul_one, decV, e2, g1_0, g1_2, g1_6, g1_8, g1_9, g1_10, g2_0, g2_2, g2_6, g2_8, g2_9, g2_10]
    refine hK _ _ ?_
    clear hK K
    refine cv_seq_k fun K hK => ?_
    refine cv_seq_k fun K hK => ?_
    refine cv_region_then rfl ?_
    simp -implicitDefEqProofs (disch := first | omega | decide) only [cA, Int.reduceToNat, Int.reduceLT, Int.reduceLE, Int.reduceEq, Int.reduceAdd, Int.reduceSub, Int.reduceMul, Int.reduceNeg, Int.reduceMod, Int.reduceDiv, pickL, evParts, gst, strV, List.set_cons_zero, List.set_cons_succ, vcd_nil, vcd_cons, stepV, pureV, pureX, pureR, readV, pv, binv, ldV, stV, condV, ev, fresh, nth, thenQ, blockQ, retV, retQ, catParts, fillL, cmpv, intsEq, ones, tyA, fnA, if_true, if_false, ite_true, ite_false, forall_const, implies_true, eq_self, ne_eq, reduceCtorEq, Value.cells, Value.oneCell', Nat.reduceAdd, Nat.reduceSub, Nat.reduceMul, Nat.reduceEqDiff, Nat.reduceLT, Nat.reduceLeDiff, Nat.reduceBEq, fBox, tBox, fdV, tyV, rdBox, rdCells, uV, iV, undef, Nat.mul_one, decV, g1_0, g1_2, g1_6, g1_8, g1_9, g1_10, g2_0, g2_2, g2_6, g2_8, g2_9, g2_10]
    refine hK _ _ ?_
    clear hK K
    refine cv_cond ?_
    simp -implicitDefEqProofs (disch := first | omega | decide) only [cA, Int.reduceToNat, Int.reduceLT, Int.reduceLE, Int.reduceEq, Int.reduceAdd, Int.reduceSub, Int.reduceMul, Int.reduceNeg, Int.reduceMod, Int.reduceDiv, pickL, evParts, gst, strV, List.set_cons_zero, List.set_cons_succ, vcd_nil, vcd_cons, stepV, pureV, pureX, pureR, readV, pv, binv, ldV, stV, condV, ev, fresh, nth, thenQ, blockQ, retV, retQ, catParts, fillL, cmpv, intsEq, ones, tyA, fnA, if_true, if_false, ite_true, ite_false, forall_const, implies_true, eq_self, ne_eq, reduceCtorEq, Value.cells, Value.oneCell', Nat.reduceAdd, Nat.reduceSub, Nat.reduceMul, Nat.reduceEqDiff, Nat.reduceLT, Nat.reduceLeDiff, Nat.reduceBEq, fBox, tBox, fdV, tyV, rdBox, rdCells, uV, iV, undef, Nat.mul_one, decV, g1_0, g1_2, g1_6, g1_8, g1_9, g1_10, g2_0, g2_2, g2_6, g2_8, g2_9, g2_10]
    refine ⟨fun hc => ?_, fun hc => ?_⟩
    · have hz2 : ¬ s2.2.2 = 0 := by simpa using ‹(!decide (s2.2.2 = 0)) = true›
      have hr := dInv_err2 hI hj (by rw [e1]; exact hz1) (by rw [e1, e2]; exact hz2)
      rw [e1, e2] at hr
      have hD : decF l = (0, [], 0, s2.2.2) := by unfold decF; rw [h1, h2, if_pos h0, h23, if_pos hz, hr, if_neg hz2]
      refine cv_seq_k fun K hK => ?_
      refine cv_region_then rfl ?_
      simp -implicitDefEqProofs (disch := first | omega | decide) only [cA, Int.reduceToNat, Int.reduceLT, Int.reduceLE, Int.reduceEq, Int.reduceAdd, Int.reduceSub, Int.reduceMul, Int.reduceNeg, Int.reduceMod, Int.reduceDiv, pickL, evParts, gst, strV, List.set_cons_zero, List.set_cons_succ, vcd_nil, vcd_cons, stepV, pureV, pureX, pureR, readV, pv, binv, ldV, stV, condV, ev, fresh, nth, thenQ, blockQ, retV, retQ, catParts, fillL, cmpv, intsEq, ones, tyA, fnA, if_true, if_false, ite_true, ite_false, forall_const, implies_true, eq_self, ne_eq, reduceCtorEq, Value.cells, Value.oneCell', Nat.reduceAdd, Nat.reduceSub, Nat.reduceMul, Nat.reduceEqDiff, Nat.reduceLT, Nat.reduceLeDiff, Nat.reduceBEq, fBox, tBox, fdV, tyV, rdBox, rdCells, uV, iV, undef, Nat.mul_one, decV, g1_0, g1_2, g1_6, g1_8, g1_9, g1_10, g2_0, g2_2, g2_6, g2_8, g2_9, g2_10]
      refine hK _ _ ?_
      clear hK K
      refine cv_ret ?_
      simp -implicitDefEqProofs (disch := first | omega | decide) only [cA, Int.reduceToNat, Int.reduceLT, Int.reduceLE, Int.reduceEq, Int.reduceAdd, Int.reduceSub, Int.reduceMul, Int.reduceNeg, Int.reduceMod, Int.reduceDiv, pickL, evParts, gst, strV, List.set_cons_zero, List.set_cons_succ, vcd_nil, vcd_cons, stepV, pureV, pureX, pureR, readV, pv, binv, ldV, stV, condV, ev, fresh, nth, thenQ, blockQ, retV, retQ, catParts, fillL, cmpv, intsEq, ones, tyA, fnA, if_true, if_false, ite_true, ite_false, forall_const, implies_true, eq_self, ne_eq, reduceCtorEq, Value.cells, Value.oneCell', Nat.reduceAdd, Nat.reduceSub, Nat.reduceMul, Nat.reduceEqDiff, Nat.reduceLT, Nat.reduceLeDiff, Nat.reduceBEq, fBox, tBox, fdV, tyV, rdBox, rdCells, uV, iV, undef, Nat.mul_one, decV, retQ2, ressV, packV, g1_0, g1_2, g1_6, g1_8, g1_9, g1_10, g2_0, g2_2, g2_6, g2_8, g2_9, g2_10]
      intro w hw
      rw [hD]
      exact ⟨none, 0, 0, rfl, World.ownsRow_nil _ _ _ _, hw.below⟩
    have hz2 : s2.2.2 = 0 := by simpa using ‹(!decide (s2.2.2 = 0)) = false›
    have hI2 := dInv_step hb hI hj (by rw [e1]; exact hz1) (by rw [e1, e2]; exact hz2)
    rw [e1, e2] at hI2
    refine cv_skip ?_
    try simp only [blockQ, thenQ]
    refine hK _ _ ?_
    clear hK K
    refine cv_region_q rfl ?_
    simp -implicitDefEqProofs (disch := first | omega | decide) only [cA, Int.reduceToNat, Int.reduceLT, Int.reduceLE, Int.reduceEq, Int.reduceAdd, Int.reduceSub, Int.reduceMul, Int.reduceNeg, Int.reduceMod, Int.reduceDiv, pickL, evParts, gst, strV, List.set_cons_zero, List.set_cons_succ, vcd_nil, vcd_cons, stepV, pureV, pureX, pureR, readV, pv, binv, ldV, stV, condV, ev, fresh, nth, thenQ, blockQ, retV, retQ, catParts, fillL, cmpv, intsEq, ones, tyA, fnA, if_true, if_false, ite_true, ite_false, forall_const, implies_true, eq_self, ne_eq, reduceCtorEq, Value.cells, Value.oneCell', Nat.reduceAdd, Nat.reduceSub, Nat.reduceMul, Nat.reduceEqDiff, Nat.reduceLT, Nat.reduceLeDiff, Nat.reduceBEq, fBox, tBox, fdV, tyV, rdBox, rdCells, uV, iV, undef, Nat.mul_one, decV, g1_0, g1_2, g1_6, g1_8, g1_9, g1_10, g2_0, g2_2, g2_6, g2_8, g2_9, g2_10]
    intro b8 hb8 h8
    refine appV_at 2 tap22 rfl (fun w hw => src_blk (size := 2) (.head _) rfl hw) rfl (by omega) (by omega) ?_
    intro A' c' hl' hr'
    simp -implicitDefEqProofs (disch := first | omega | decide) only [cA, Int.reduceToNat, Int.reduceLT, Int.reduceLE, Int.reduceEq, Int.reduceAdd, Int.reduceSub, Int.reduceMul, Int.reduceNeg, Int.reduceMod, Int.reduceDiv, pickL, evParts, gst, strV, List.set_cons_zero, List.set_cons_succ, vcd_nil, vcd_cons, stepV, pureV, pureX, pureR, readV, pv, binv, ldV, stV, condV, ev, fresh, nth, thenQ, blockQ, retV, retQ, catParts, fillL, cmpv, intsEq, ones, tyA, fnA, if_true, if_false, ite_true, ite_false, forall_const, implies_true, eq_self, ne_eq, reduceCtorEq, Value.cells, Value.oneCell', Nat.reduceAdd, Nat.reduceSub, Nat.reduceMul, Nat.reduceEqDiff, Nat.reduceLT, Nat.reduceLeDiff, Nat.reduceBEq, fBox, tBox, fdV, tyV, rdBox, rdCells, uV, iV, undef, Nat.mul_one, decV, g1_0, g1_2, g1_6, g1_8, g1_9, g1_10, g2_0, g2_2, g2_6, g2_8, g2_9, g2_10]
    refine hK _ _ ?_
    clear hK K
    refine cv_pick [0, 3, 4] (by decide) ?_
    simp only [pickL, nth]
    refine cv_region_then rfl ?_
    simp -implicitDefEqProofs (disch := first | omega | decide) only [cA, Int.reduceToNat, Int.reduceLT, Int.reduceLE, Int.reduceEq, Int.reduceAdd, Int.reduceSub, Int.reduceMul, Int.reduceNeg, Int.reduceMod, Int.reduceDiv, pickL, evParts, gst, strV, List.set_cons_zero, List.set_cons_succ, vcd_nil, vcd_cons, stepV, pureV, pureX, pureR, readV, pv, binv, ldV, stV, condV, ev, fresh, nth, thenQ, blockQ, retV, retQ, catParts, fillL, cmpv, intsEq, ones, tyA, fnA, if_true, if_false, ite_true, ite_false, forall_const, implies_true, eq_self, ne_eq, reduceCtorEq, Value.cells, Value.oneCell', Nat.reduceAdd, Nat.reduceSub, Nat.reduceMul, Nat.reduceEqDiff, Nat.reduceLT, Nat.reduceLeDiff, Nat.reduceBEq, fBox, tBox, fdV, tyV, rdBox, rdCells, uV, iV, undef, Nat.mul_one, decV, wrap_in, g1_0, g1_2, g1_6, g1_8, g1_9, g1_10, g2_0, g2_2, g2_6, g2_8, g2_9, g2_10]
    refine ⟨⟨j + 1, s2.2.1, c', A', gs ++ [⟨(s1.1 : Int), (s2.1 : Int)⟩], ?_⟩, ?_⟩
    · simp -implicitDefEqProofs (disch := first | omega | decide) only [cA, Int.reduceToNat, Int.reduceLT, Int.reduceLE, Int.reduceEq, Int.reduceAdd, Int.reduceSub, Int.reduceMul, Int.reduceNeg, Int.reduceMod, Int.reduceDiv, pickL, evParts, gst, strV, List.set_cons_zero, List.set_cons_succ, vcd_nil, vcd_cons, stepV, pureV, pureX, pureR, readV, pv, binv, ldV, stV, condV, ev, fresh, nth, thenQ, blockQ, retV, retQ, catParts, fillL, cmpv, intsEq, ones, tyA, fnA, if_true, if_false, ite_true, ite_false, forall_const, implies_true, eq_self, ne_eq, reduceCtorEq, Value.cells, Value.oneCell', Nat.reduceAdd, Nat.reduceSub, Nat.reduceMul, Nat.reduceEqDiff, Nat.reduceLT, Nat.reduceLeDiff, Nat.reduceBEq, fBox, tBox, fdV, tyV, rdBox, rdCells, uV, iV, undef, Nat.mul_one, decV, Int.natCast_add, cl_snoc, fdc, hz2, g1_0, g1_2, g1_6, g1_8, g1_9, g1_10, g2_0, g2_2, g2_6, g2_8, g2_9, g2_10]
      exact hI2
    · simp only [intOf]; omega
  refine cv_exit ?_
  simp only [blockQ, thenQ, if_true, ite_true]
  clear hK K
  refine hK _ _ ?_
  clear hK K
  have hj : j = q3.1 := by have := of_decide_eq_false ‹_›; omega
  subst hj
  have hr := inv_end hI.2.2.2
  have hD : decF l = if chk (q1.1 : Int) gs = 0 then ((q1.1 : Int), gs, p, 0) else (0, [], 0, chk (q1.1 : Int) gs) := by
    unfold decF
    rw [h1, h2, if_pos h0, h23, if_pos hz, hr, if_pos rfl]
  refine cv_gen fun G3 hG => ?_
  have g3_2 := congrFun hG 2
  have g3_6 := congrFun hG 6
  have g3_9 := congrFun hG 9
  clear hG
  try simp -implicitDefEqProofs (disch := first | omega | decide) only [cA, Int.reduceToNat, Int.reduceLT, Int.reduceLE, Int.reduceEq, Int.reduceAdd, Int.reduceSub, Int.reduceMul, Int.reduceNeg, Int.reduceMod, Int.reduceDiv, pickL, evParts, gst, strV, List.set_cons_zero, List.set_cons_succ, vcd_nil, vcd_cons, stepV, pureV, pureX, pureR, readV, pv, binv, ldV, stV, condV, ev, fresh, nth, thenQ, blockQ, retV, retQ, catParts, fillL, cmpv, intsEq, ones, tyA, fnA, if_true, if_false, ite_true, ite_false, forall_const, implies_true, eq_self, ne_eq, reduceCtorEq, Value.cells, Value.oneCell', Nat.reduceAdd, Nat.reduceSub, Nat.reduceMul, Nat.reduceEqDiff, Nat.reduceLT, Nat.reduceLeDiff, Nat.reduceBEq, fBox, tBox, fdV, tyV, rdBox, rdCells, uV, iV, undef, Nat.mul_one, decV, g1_0, g1_2, g1_6, g1_8, g1_9, g1_10, g2_0, g2_2, g2_6, g2_8, g2_9, g2_10] at g3_2
  try simp -implicitDefEqProofs (disch := first | omega | decide) only [cA, Int.reduceToNat, Int.reduceLT, Int.reduceLE, Int.reduceEq, Int.reduceAdd, Int.reduceSub, Int.reduceMul, Int.reduceNeg, Int.reduceMod, Int.reduceDiv, pickL, evParts, gst, strV, List.set_cons_zero, List.set_cons_succ, vcd_nil, vcd_cons, stepV, pureV, pureX, pureR, readV, pv, binv, ldV, stV, condV, ev, fresh, nth, thenQ, blockQ, retV, retQ, catParts, fillL, cmpv, intsEq, ones, tyA, fnA, if_true, if_false, ite_true, ite_false, forall_const, implies_true, eq_self, ne_eq, reduceCtorEq, Value.cells, Value.oneCell', Nat.reduceAdd, Nat.reduceSub, Nat.reduceMul, Nat.reduceEqDiff, Nat.reduceLT, Nat.reduceLeDiff, Nat.reduceBEq, fBox, tBox, fdV, tyV, rdBox, rdCells, uV, iV, undef, Nat.mul_one, decV, g1_0, g1_2, g1_6, g1_8, g1_9, g1_10, g2_0, g2_2, g2_6, g2_8, g2_9, g2_10] at g3_6
  try simp -implicitDefEqProofs (disch := first | omega | decide) only [cA, Int.reduceToNat, Int.reduceLT, Int.reduceLE, Int.reduceEq, Int.reduceAdd, Int.reduceSub, Int.reduceMul, Int.reduceNeg, Int.reduceMod, Int.reduceDiv, pickL, evParts, gst, strV, List.set_cons_zero, List.set_cons_succ, vcd_nil, vcd_cons, stepV, pureV, pureX, pureR, readV, pv, binv, ldV, stV, condV, ev, fresh, nth, thenQ, blockQ, retV, retQ, catParts, fillL, cmpv, intsEq, ones, tyA, fnA, if_true, if_false, ite_true, ite_false, forall_const, implies_true, eq_self, ne_eq, reduceCtorEq, Value.cells, Value.oneCell', Nat.reduceAdd, Nat.reduceSub, Nat.reduceMul, Nat.reduceEqDiff, Nat.reduceLT, Nat.reduceLeDiff, Nat.reduceBEq, fBox, tBox, fdV, tyV, rdBox, rdCells, uV, iV, undef, Nat.mul_one, decV, g1_0, g1_2, g1_6, g1_8, g1_9, g1_10, g2_0, g2_2, g2_6, g2_8, g2_9, g2_10] at g3_9
  refine cv_seq_k fun K hK => ?_
  refine cv_seq_k fun K hK => ?_
  refine cv_region_then rfl ?_
  simp -implicitDefEqProofs (disch := first | omega | decide) only [cA, Int.reduceToNat, Int.reduceLT, Int.reduceLE, Int.reduceEq, Int.reduceAdd, Int.reduceSub, Int.reduceMul, Int.reduceNeg, Int.reduceMod, Int.reduceDiv, pickL, evParts, gst, strV, List.set_cons_zero, List.set_cons_succ, vcd_nil, vcd_cons, stepV, pureV, pureX, pureR, readV, pv, binv, ldV, stV, condV, ev, fresh, nth, thenQ, blockQ, retV, retQ, catParts, fillL, cmpv, intsEq, ones, tyA, fnA, if_true, if_false, ite_true, ite_false, forall_const, implies_true, eq_self, ne_eq, reduceCtorEq, Value.cells, Value.oneCell', Nat.reduceAdd, Nat.reduceSub, Nat.reduceMul, Nat.reduceEqDiff, Nat.reduceLT, Nat.reduceLeDiff, Nat.reduceBEq, fBox, tBox, fdV, tyV, rdBox, rdCells, uV, iV, undef, Nat.mul_one, decV, g1_0, g1_2, g1_6, g1_8, g1_9, g1_10, g2_0, g2_2, g2_6, g2_8, g2_9, g2_10, g3_2, g3_6, g3_9]
  refine callV_ret (fun w hw => rcheck_any A6 q3.1 c6 gs (q1.1 : Int) w (hw.slr 0 rfl)) ?_
  try simp -implicitDefEqProofs (disch := first | omega | decide) only [cA, Int.reduceToNat, Int.reduceLT, Int.reduceLE, Int.reduceEq, Int.reduceAdd, Int.reduceSub, Int.reduceMul, Int.reduceNeg, Int.reduceMod, Int.reduceDiv, pickL, evParts, gst, strV, List.set_cons_zero, List.set_cons_succ, vcd_nil, vcd_cons, stepV, pureV, pureX, pureR, readV, pv, binv, ldV, stV, condV, ev, fresh, nth, thenQ, blockQ, retV, retQ, catParts, fillL, cmpv, intsEq, ones, tyA, fnA, if_true, if_false, ite_true, ite_false, forall_const, implies_true, eq_self, ne_eq, reduceCtorEq, Value.cells, Value.oneCell', Nat.reduceAdd, Nat.reduceSub, Nat.reduceMul, Nat.reduceEqDiff, Nat.reduceLT, Nat.reduceLeDiff, Nat.reduceBEq, fBox, tBox, fdV, tyV, rdBox, rdCells, uV, iV, undef, Nat.mul_one, decV, g1_0, g1_2, g1_6, g1_8, g1_9, g1_10, g2_0, g2_2, g2_6, g2_8, g2_9, g2_10, g3_2, g3_6, g3_9]
  refine hK _ _ ?_
  clear hK K
  refine cv_seq_k fun K hK => ?_
  refine cv_region_then rfl ?_
  simp -implicitDefEqProofs (disch := first | omega | decide) only [cA, Int.reduceToNat, Int.reduceLT, Int.reduceLE, Int.reduceEq, Int.reduceAdd, Int.reduceSub, Int.reduceMul, Int.reduceNeg, Int.reduceMod, Int.reduceDiv, pickL, evParts, gst, strV, List.set_cons_zero, List.set_cons_succ, vcd_nil, vcd_cons, stepV, pureV, pureX, pureR, readV, pv, binv, ldV, stV, condV, ev, fresh, nth, thenQ, blockQ, retV, retQ, catParts, fillL, cmpv, intsEq, ones, tyA, fnA, if_true, if_false, ite_true, ite_false, forall_const, implies_true, eq_self, ne_eq, reduceCtorEq, Value.cells, Value.oneCell', Nat.reduceAdd, Nat.reduceSub, Nat.reduceMul, Nat.reduceEqDiff, Nat.reduceLT, Nat.reduceLeDiff, Nat.reduceBEq, fBox, tBox, fdV, tyV, rdBox, rdCells, uV, iV, undef, Nat.mul_one, decV, g1_0, g1_2, g1_6, g1_8, g1_9, g1_10, g2_0, g2_2, g2_6, g2_8, g2_9, g2_10, g3_2, g3_6, g3_9]
  refine hK _ _ ?_
  clear hK K
  refine cv_cond ?_
  simp -implicitDefEqProofs (disch := first | omega | decide) only [cA, Int.reduceToNat, Int.reduceLT, Int.reduceLE, Int.reduceEq, Int.reduceAdd, Int.reduceSub, Int.reduceMul, Int.reduceNeg, Int.reduceMod, Int.reduceDiv, pickL, evParts, gst, strV, List.set_cons_zero, List.set_cons_succ, vcd_nil, vcd_cons, stepV, pureV, pureX, pureR, readV, pv, binv, ldV, stV, condV, ev, fresh, nth, thenQ, blockQ, retV, retQ, catParts, fillL, cmpv, intsEq, ones, tyA, fnA, if_true, if_false, ite_true, ite_false, forall_const, implies_true, eq_self, ne_eq, reduceCtorEq, Value.cells, Value.oneCell', Nat.reduceAdd, Nat.reduceSub, Nat.reduceMul, Nat.reduceEqDiff, Nat.reduceLT, Nat.reduceLeDiff, Nat.reduceBEq, fBox, tBox, fdV, tyV, rdBox, rdCells, uV, iV, undef, Nat.mul_one, decV, g1_0, g1_2, g1_6, g1_8, g1_9, g1_10, g2_0, g2_2, g2_6, g2_8, g2_9, g2_10, g3_2, g3_6, g3_9]
  refine ⟨fun hc => ?_, fun hc => ?_⟩
  · have hz : ¬ chk (q1.1 : Int) gs = 0 := by simpa using ‹(!decide (chk (q1.1 : Int) gs = 0)) = true›
    rw [if_neg hz] at hD
    refine cv_seq_k fun K hK => ?_
    refine cv_region_then rfl ?_
    simp -implicitDefEqProofs (disch := first | omega | decide) only [cA, Int.reduceToNat, Int.reduceLT, Int.reduceLE, Int.reduceEq, Int.reduceAdd, Int.reduceSub, Int.reduceMul, Int.reduceNeg, Int.reduceMod, Int.reduceDiv, pickL, evParts, gst, strV, List.set_cons_zero, List.set_cons_succ, vcd_nil, vcd_cons, stepV, pureV, pureX, pureR, readV, pv, binv, ldV, stV, condV, ev, fresh, nth, thenQ, blockQ, retV, retQ, catParts, fillL, cmpv, intsEq, ones, tyA, fnA, if_true, if_false, ite_true, ite_false, forall_const, implies_true, eq_self, ne_eq, reduceCtorEq, Value.cells, Value.oneCell', Nat.reduceAdd, Nat.reduceSub, Nat.reduceMul, Nat.reduceEqDiff, Nat.reduceLT, Nat.reduceLeDiff, Nat.reduceBEq, fBox, tBox, fdV, tyV, rdBox, rdCells, uV, iV, undef, Nat.mul_one, decV, g1_0, g1_2, g1_6, g1_8, g1_9, g1_10, g2_0, g2_2, g2_6, g2_8, g2_9, g2_10, g3_2, g3_6, g3_9]
    refine hK _ _ ?_
    clear hK K
    refine cv_ret ?_
    simp -implicitDefEqProofs (disch := first | omega | decide) only [cA, Int.reduceToNat, Int.reduceLT, Int.reduceLE, Int.reduceEq, Int.reduceAdd, Int.reduceSub, Int.reduceMul, Int.reduceNeg, Int.reduceMod, Int.reduceDiv, pickL, evParts, gst, strV, List.set_cons_zero, List.set_cons_succ, vcd_nil, vcd_cons, stepV, pureV, pureX, pureR, readV, pv, binv, ldV, stV, condV, ev, fresh, nth, thenQ, blockQ, retV, retQ, catParts, fillL, cmpv, intsEq, ones, tyA, fnA, if_true, if_false, ite_true, ite_false, forall_const, implies_true, eq_self, ne_eq, reduceCtorEq, Value.cells, Value.oneCell', Nat.reduceAdd, Nat.reduceSub, Nat.reduceMul, Nat.reduceEqDiff, Nat.reduceLT, Nat.reduceLeDiff, Nat.reduceBEq, fBox, tBox, fdV, tyV, rdBox, rdCells, uV, iV, undef, Nat.mul_one, decV, retQ2, ressV, packV, g1_0, g1_2, g1_6, g1_8, g1_9, g1_10, g2_0, g2_2, g2_6, g2_8, g2_9, g2_10, g3_2, g3_6, g3_9]
    intro w hw
    rw [hD]
    exact ⟨none, 0, 0, rfl, World.ownsRow_nil _ _ _ _, hw.below⟩
  have hz : chk (q1.1 : Int) gs = 0 := by simpa using ‹(!decide (chk (q1.1 : Int) gs = 0)) = false›
  rw [if_pos hz] at hD
  refine cv_skip ?_
  try simp only [blockQ, thenQ]
  refine hK _ _ ?_
  clear hK K
  refine cv_seq_k fun K hK => ?_
  refine cv_region_then rfl ?_
  simp -implicitDefEqProofs (disch := first | omega | decide) only [cA, Int.reduceToNat, Int.reduceLT, Int.reduceLE, Int.reduceEq, Int.reduceAdd, Int.reduceSub, Int.reduceMul, Int.reduceNeg, Int.reduceMod, Int.reduceDiv, pickL, evParts, gst, strV, List.set_cons_zero, List.set_cons_succ, vcd_nil, vcd_cons, stepV, pureV, pureX, pureR, readV, pv, binv, ldV, stV, condV, ev, fresh, nth, thenQ, blockQ, retV, retQ, catParts, fillL, cmpv, intsEq, ones, tyA, fnA, if_true, if_false, ite_true, ite_false, forall_const, implies_true, eq_self, ne_eq, reduceCtorEq, Value.cells, Value.oneCell', Nat.reduceAdd, Nat.reduceSub, Nat.reduceMul, Nat.reduceEqDiff, Nat.reduceLT, Nat.reduceLeDiff, Nat.reduceBEq, fBox, tBox, fdV, tyV, rdBox, rdCells, uV, iV, undef, Nat.mul_one, decV, g1_0, g1_2, g1_6, g1_8, g1_9, g1_10, g2_0, g2_2, g2_6, g2_8, g2_9, g2_10, g3_2, g3_6, g3_9]
  refine hK _ _ ?_
  clear hK K
  refine cv_ret ?_
  simp -implicitDefEqProofs (disch := first | omega | decide) only [cA, Int.reduceToNat, Int.reduceLT, Int.reduceLE, Int.reduceEq, Int.reduceAdd, Int.reduceSub, Int.reduceMul, Int.reduceNeg, Int.reduceMod, Int.reduceDiv, pickL, evParts, gst, strV, List.set_cons_zero, List.set_cons_succ, vcd_nil, vcd_cons, stepV, pureV, pureX, pureR, readV, pv, binv, ldV, stV, condV, ev, fresh, nth, thenQ, blockQ, retV, retQ, catParts, fillL, cmpv, intsEq, ones, tyA, fnA, if_true, if_false, ite_true, ite_false, forall_const, implies_true, eq_self, ne_eq, reduceCtorEq, Value.cells, Value.oneCell', Nat.reduceAdd, Nat.reduceSub, Nat.reduceMul, Nat.reduceEqDiff, Nat.reduceLT, Nat.reduceLeDiff, Nat.reduceBEq, fBox, tBox, fdV, tyV, rdBox, rdCells, uV, iV, undef, Nat.mul_one, decV, retQ2, ressV, packV, g1_0, g1_2, g1_6, g1_8, g1_9, g1_10, g2_0, g2_2, g2_6, g2_8, g2_9, g2_10, g3_2, g3_6, g3_9]
  intro w hw
  rw [hD]
  exact ⟨A6, q3.1, c6, rfl, hw.rowNew (by simp), hw.below⟩
set_option maxHeartbeats 2000000 in
theorem sameType_any (A B : Option Addr) (n c m d : Nat) (fs gs : List Fd) (x y : Int) (W : World) (hE : Sl W W.heap.size 2 A n c (cl fdc fs)) (hF : Sl W W.heap.size 2 B m d (cl fdc gs)) :
    Calls Try.prog 16 #[tyV x A n c, tyV y B m d] W fun e w' => e = .returned (.bool (decide (x = y ∧ fs = gs))) ∧ Below W.heap.size W w' := by
  have hln : fs.length = n := cl_row fdc_len (by omega) hE.len
  have hlm : gs.length = m := cl_row fdc_len (by omega) hF.len
  have hmax := hE.max
  have hcap := hE.cap
  refine calls_cv (M := []) (n := 38) [.tmp 4] rfl Try.func16 rfl rfl (Nat.le_of_ble_eq_true rfl) (St.nil _ _) ?_
  refine cv_seq_k fun K hK => ?_
  refine cv_region_then rfl ?_
  simp -implicitDefEqProofs (disch := first | omega | decide) only [cA, Int.reduceToNat, Int.reduceLT, Int.reduceLE, Int.reduceEq, Int.reduceAdd, Int.reduceSub, Int.reduceMul, Int.reduceNeg, Int.reduceMod, Int.reduceDiv, pickL, evParts, gst, strV, List.set_cons_zero, List.set_cons_succ, vcd_nil, vcd_cons, stepV, pureV, pureX, pureR, readV, pv, binv, ldV, stV, condV, ev, fresh, nth, thenQ, blockQ, retV, retQ, catParts, fillL, cmpv, intsEq, ones, tyA, fnA, if_true, if_false, ite_true, ite_false, forall_const, implies_true, eq_self, ne_eq, reduceCtorEq, Value.cells, Value.oneCell', Nat.reduceAdd, Nat.reduceSub, Nat.reduceMul, Nat.reduceEqDiff, Nat.reduceLT, Nat.reduceLeDiff, Nat.reduceBEq, fBox, tBox, fdV, tyV, rdBox, rdCells, uV, iV, undef, Nat.mul_one, decV]
  intro b2 hb2 b3 hb3 h3
  refine hK _ _ ?_
  clear hK K
  refine cv_gen fun G4 hG => ?_
  have g4_2 := congrFun hG 2
  have g4_3 := congrFun hG 3
  clear hG
  try simp -implicitDefEqProofs (disch := first | omega | decide) only [cA, Int.reduceToNat, Int.reduceLT, Int.reduceLE, Int.reduceEq, Int.reduceAdd, Int.reduceSub, Int.reduceMul, Int.reduceNeg, Int.reduceMod, Int.reduceDiv, pickL, evParts, gst, strV, List.set_cons_zero, List.set_cons_succ, vcd_nil, vcd_cons, stepV, pureV, pureX, pureR, readV, pv, binv, ldV, stV, condV, ev, fresh, nth, thenQ, blockQ, retV, retQ, catParts, fillL, cmpv, intsEq, ones, tyA, fnA, if_true, if_false, ite_true, ite_false, forall_const, implies_true, eq_self, ne_eq, reduceCtorEq, Value.cells, Value.oneCell', Nat.reduceAdd, Nat.reduceSub, Nat.reduceMul, Nat.reduceEqDiff, Nat.reduceLT, Nat.reduceLeDiff, Nat.reduceBEq, fBox, tBox, fdV, tyV, rdBox, rdCells, uV, iV, undef, Nat.mul_one, decV] at g4_2
  try simp -implicitDefEqProofs (disch := first | omega | decide) only [cA, Int.reduceToNat, Int.reduceLT, Int.reduceLE, Int.reduceEq, Int.reduceAdd, Int.reduceSub, Int.reduceMul, Int.reduceNeg, Int.reduceMod, Int.reduceDiv, pickL, evParts, gst, strV, List.set_cons_zero, List.set_cons_succ, vcd_nil, vcd_cons, stepV, pureV, pureX, pureR, readV, pv, binv, ldV, stV, condV, ev, fresh, nth, thenQ, blockQ, retV, retQ, catParts, fillL, cmpv, intsEq, ones, tyA, fnA, if_true, if_false, ite_true, ite_false, forall_const, implies_true, eq_self, ne_eq, reduceCtorEq, Value.cells, Value.oneCell', Nat.reduceAdd, Nat.reduceSub, Nat.reduceMul, Nat.reduceEqDiff, Nat.reduceLT, Nat.reduceLeDiff, Nat.reduceBEq, fBox, tBox, fdV, tyV, rdBox, rdCells, uV, iV, undef, Nat.mul_one, decV] at g4_3
  refine cv_seq_k fun K hK => ?_
  refine cv_seq_k fun K hK => ?_
  refine cv_cut (fun _ _ => True) (fun F' L' => F' 2 = G4 2 ∧ F' 3 = G4 3 ∧ F' 19 = .bool (decide (¬ x = y ∨ ¬ n = m)) ∧ L' = [tBox b3 y B m d, tBox b2 x A n c]) ?_ ?_
  · refine cv_region_then rfl ?_
    simp -implicitDefEqProofs (disch := first | omega | decide) only [cA, Int.reduceToNat, Int.reduceLT, Int.reduceLE, Int.reduceEq, Int.reduceAdd, Int.reduceSub, Int.reduceMul, Int.reduceNeg, Int.reduceMod, Int.reduceDiv, pickL, evParts, gst, strV, List.set_cons_zero, List.set_cons_succ, vcd_nil, vcd_cons, stepV, pureV, pureX, pureR, readV, pv, binv, ldV, stV, condV, ev, fresh, nth, thenQ, blockQ, retV, retQ, catParts, fillL, cmpv, intsEq, ones, tyA, fnA, if_true, if_false, ite_true, ite_false, forall_const, implies_true, eq_self, ne_eq, reduceCtorEq, Value.cells, Value.oneCell', Nat.reduceAdd, Nat.reduceSub, Nat.reduceMul, Nat.reduceEqDiff, Nat.reduceLT, Nat.reduceLeDiff, Nat.reduceBEq, fBox, tBox, fdV, tyV, rdBox, rdCells, uV, iV, undef, Nat.mul_one, decV, g4_2, g4_3]
    repeat' ((first | refine vcg_cases (fun hg => ?_) (fun hg => ?_) | refine vdg_cases (fun hg => ?_) (fun hg => ?_)) <;> ((try simp only [Bool.not_eq_true', Bool.not_eq_false', decide_eq_true_eq, decide_eq_false_iff_not] at hg); (try simp -implicitDefEqProofs (disch := first | omega | decide) only [cA, Int.reduceToNat, Int.reduceLT, Int.reduceLE, Int.reduceEq, Int.reduceAdd, Int.reduceSub, Int.reduceMul, Int.reduceNeg, Int.reduceMod, Int.reduceDiv, pickL, evParts, gst, strV, List.set_cons_zero, List.set_cons_succ, vcd_nil, vcd_cons, stepV, pureV, pureX, pureR, readV, pv, binv, ldV, stV, condV, ev, fresh, nth, thenQ, blockQ, retV, retQ, catParts, fillL, cmpv, intsEq, ones, tyA, fnA, if_true, if_false, ite_true, ite_false, forall_const, implies_true, eq_self, ne_eq, reduceCtorEq, Value.cells, Value.oneCell', Nat.reduceAdd, Nat.reduceSub, Nat.reduceMul, Nat.reduceEqDiff, Nat.reduceLT, Nat.reduceLeDiff, Nat.reduceBEq, fBox, tBox, fdV, tyV, rdBox, rdCells, uV, iV, undef, Nat.mul_one, decV, hg, g4_2, g4_3])))
    all_goals (repeat' refine And.intro ?_ ?_)
    all_goals (first | with_reducible rfl | (refine congrArg Value.bool ?_; rw [Bool.eq_iff_iff]; (try simp only [decide_eq_true_eq, eq_self, true_and, and_true, false_and, and_false, true_or, or_true, false_or, or_false, not_true_eq_false, not_false_eq_true, true_iff, iff_true, false_iff, iff_false, Bool.false_eq_true, Bool.not_eq_true', Bool.not_eq_true, decide_eq_false_iff_not, Bool.and_eq_true, Bool.or_eq_true]) <;> omega) | (refine congrArg (Value.int _) ?_; omega) | omega)
  intro G5 L' _ hF
  obtain ⟨q2, q3, q19, rfl⟩ := hF
  have g5_2 := q2.trans g4_2
  have g5_3 := q3.trans g4_3
  have g5_19 := q19
  clear q2 q3 q19
  refine hK _ _ ?_
  clear hK K
  refine cv_cond ?_
  simp -implicitDefEqProofs (disch := first | omega | decide) only [cA, Int.reduceToNat, Int.reduceLT, Int.reduceLE, Int.reduceEq, Int.reduceAdd, Int.reduceSub, Int.reduceMul, Int.reduceNeg, Int.reduceMod, Int.reduceDiv, pickL, evParts, gst, strV, List.set_cons_zero, List.set_cons_succ, vcd_nil, vcd_cons, stepV, pureV, pureX, pureR, readV, pv, binv, ldV, stV, condV, ev, fresh, nth, thenQ, blockQ, retV, retQ, catParts, fillL, cmpv, intsEq, ones, tyA, fnA, if_true, if_false, ite_true, ite_false, forall_const, implies_true, eq_self, ne_eq, reduceCtorEq, Value.cells, Value.oneCell', Nat.reduceAdd, Nat.reduceSub, Nat.reduceMul, Nat.reduceEqDiff, Nat.reduceLT, Nat.reduceLeDiff, Nat.reduceBEq, fBox, tBox, fdV, tyV, rdBox, rdCells, uV, iV, undef, Nat.mul_one, decV, g4_2, g4_3, g5_2, g5_3, g5_19]
  refine ⟨fun hc => ?_, fun hc => ?_⟩
  · have q1 := of_decide_eq_true hc
    refine cv_seq_k fun K hK => ?_
    refine cv_region_then rfl ?_
    simp -implicitDefEqProofs (disch := first | omega | decide) only [cA, Int.reduceToNat, Int.reduceLT, Int.reduceLE, Int.reduceEq, Int.reduceAdd, Int.reduceSub, Int.reduceMul, Int.reduceNeg, Int.reduceMod, Int.reduceDiv, pickL, evParts, gst, strV, List.set_cons_zero, List.set_cons_succ, vcd_nil, vcd_cons, stepV, pureV, pureX, pureR, readV, pv, binv, ldV, stV, condV, ev, fresh, nth, thenQ, blockQ, retV, retQ, catParts, fillL, cmpv, intsEq, ones, tyA, fnA, if_true, if_false, ite_true, ite_false, forall_const, implies_true, eq_self, ne_eq, reduceCtorEq, Value.cells, Value.oneCell', Nat.reduceAdd, Nat.reduceSub, Nat.reduceMul, Nat.reduceEqDiff, Nat.reduceLT, Nat.reduceLeDiff, Nat.reduceBEq, fBox, tBox, fdV, tyV, rdBox, rdCells, uV, iV, undef, Nat.mul_one, decV, g4_2, g4_3, g5_2, g5_3, g5_19]
    refine hK _ _ ?_
    clear hK K
    refine cv_ret ⟨_, (by simp -implicitDefEqProofs (disch := first | omega | decide) only [cA, Int.reduceToNat, Int.reduceLT, Int.reduceLE, Int.reduceEq, Int.reduceAdd, Int.reduceSub, Int.reduceMul, Int.reduceNeg, Int.reduceMod, Int.reduceDiv, pickL, evParts, gst, strV, List.set_cons_zero, List.set_cons_succ, vcd_nil, vcd_cons, stepV, pureV, pureX, pureR, readV, pv, binv, ldV, stV, condV, ev, fresh, nth, thenQ, blockQ, retV, retQ, catParts, fillL, cmpv, intsEq, ones, tyA, fnA, if_true, if_false, ite_true, ite_false, forall_const, implies_true, eq_self, ne_eq, reduceCtorEq, Value.cells, Value.oneCell', Nat.reduceAdd, Nat.reduceSub, Nat.reduceMul, Nat.reduceEqDiff, Nat.reduceLT, Nat.reduceLeDiff, Nat.reduceBEq, fBox, tBox, fdV, tyV, rdBox, rdCells, uV, iV, undef, Nat.mul_one, decV, g4_2, g4_3, g5_2, g5_3, g5_19]; rfl), fun w hw => ?_⟩
    refine ⟨?_, hw.below⟩
    rw [decide_eq_false]
    rintro ⟨h1, h2⟩
    subst h2
    omega
  have q1 := of_decide_eq_false hc
  obtain ⟨rfl, rfl⟩ : x = y ∧ n = m := by omega
  refine cv_skip ?_
  try simp only [blockQ, thenQ]
  refine hK _ _ ?_
  clear hK K
  refine cv_seq_k fun K hK => ?_
  refine cv_seq_k fun K hK => ?_
  refine cv_region_then rfl ?_
  simp -implicitDefEqProofs (disch := first | omega | decide) only [cA, Int.reduceToNat, Int.reduceLT, Int.reduceLE, Int.reduceEq, Int.reduceAdd, Int.reduceSub, Int.reduceMul, Int.reduceNeg, Int.reduceMod, Int.reduceDiv, pickL, evParts, gst, strV, List.set_cons_zero, List.set_cons_succ, vcd_nil, vcd_cons, stepV, pureV, pureX, pureR, readV, pv, binv, ldV, stV, condV, ev, fresh, nth, thenQ, blockQ, retV, retQ, catParts, fillL, cmpv, intsEq, ones, tyA, fnA, if_true, if_false, ite_true, ite_false, forall_const, implies_true, eq_self, ne_eq, reduceCtorEq, Value.cells, Value.oneCell', Nat.reduceAdd, Nat.reduceSub, Nat.reduceMul, Nat.reduceEqDiff, Nat.reduceLT, Nat.reduceLeDiff, Nat.reduceBEq, fBox, tBox, fdV, tyV, rdBox, rdCells, uV, iV, undef, Nat.mul_one, decV, g4_2, g4_3, g5_2, g5_3, g5_19]
  refine hK _ _ ?_
  clear hK K
  refine cv_gen fun G6 hG => ?_
  have g6_2 := congrFun hG 2
  have g6_3 := congrFun hG 3
  have g6_5 := congrFun hG 5
  clear hG
  try simp -implicitDefEqProofs (disch := first | omega | decide) only [cA, Int.reduceToNat, Int.reduceLT, Int.reduceLE, Int.reduceEq, Int.reduceAdd, Int.reduceSub, Int.reduceMul, Int.reduceNeg, Int.reduceMod, Int.reduceDiv, pickL, evParts, gst, strV, List.set_cons_zero, List.set_cons_succ, vcd_nil, vcd_cons, stepV, pureV, pureX, pureR, readV, pv, binv, ldV, stV, condV, ev, fresh, nth, thenQ, blockQ, retV, retQ, catParts, fillL, cmpv, intsEq, ones, tyA, fnA, if_true, if_false, ite_true, ite_false, forall_const, implies_true, eq_self, ne_eq, reduceCtorEq, Value.cells, Value.oneCell', Nat.reduceAdd, Nat.reduceSub, Nat.reduceMul, Nat.reduceEqDiff, Nat.reduceLT, Nat.reduceLeDiff, Nat.reduceBEq, fBox, tBox, fdV, tyV, rdBox, rdCells, uV, iV, undef, Nat.mul_one, decV, g4_2, g4_3, g5_2, g5_3, g5_19] at g6_2
  try simp -implicitDefEqProofs (disch := first | omega | decide) only [cA, Int.reduceToNat, Int.reduceLT, Int.reduceLE, Int.reduceEq, Int.reduceAdd, Int.reduceSub, Int.reduceMul, Int.reduceNeg, Int.reduceMod, Int.reduceDiv, pickL, evParts, gst, strV, List.set_cons_zero, List.set_cons_succ, vcd_nil, vcd_cons, stepV, pureV, pureX, pureR, readV, pv, binv, ldV, stV, condV, ev, fresh, nth, thenQ, blockQ, retV, retQ, catParts, fillL, cmpv, intsEq, ones, tyA, fnA, if_true, if_false, ite_true, ite_false, forall_const, implies_true, eq_self, ne_eq, reduceCtorEq, Value.cells, Value.oneCell', Nat.reduceAdd, Nat.reduceSub, Nat.reduceMul, Nat.reduceEqDiff, Nat.reduceLT, Nat.reduceLeDiff, Nat.reduceBEq, fBox, tBox, fdV, tyV, rdBox, rdCells, uV, iV, undef, Nat.mul_one, decV, g4_2, g4_3, g5_2, g5_3, g5_19] at g6_3
  try simp -implicitDefEqProofs (disch := first | omega | decide) only [cA, Int.reduceToNat, Int.reduceLT, Int.reduceLE, Int.reduceEq, Int.reduceAdd, Int.reduceSub, Int.reduceMul, Int.reduceNeg, Int.reduceMod, Int.reduceDiv, pickL, evParts, gst, strV, List.set_cons_zero, List.set_cons_succ, vcd_nil, vcd_cons, stepV, pureV, pureX, pureR, readV, pv, binv, ldV, stV, condV, ev, fresh, nth, thenQ, blockQ, retV, retQ, catParts, fillL, cmpv, intsEq, ones, tyA, fnA, if_true, if_false, ite_true, ite_false, forall_const, implies_true, eq_self, ne_eq, reduceCtorEq, Value.cells, Value.oneCell', Nat.reduceAdd, Nat.reduceSub, Nat.reduceMul, Nat.reduceEqDiff, Nat.reduceLT, Nat.reduceLeDiff, Nat.reduceBEq, fBox, tBox, fdV, tyV, rdBox, rdCells, uV, iV, undef, Nat.mul_one, decV, g4_2, g4_3, g5_2, g5_3, g5_19] at g6_5
  refine cv_block ?_
  refine cv_loop (fun F' L' => ∃ (k : Nat), F' 2 = G6 2 ∧ F' 3 = G6 3 ∧ F' 5 = .int .i64 (k : Int) ∧ L' = [tBox b3 x B n d, tBox b2 x A n c] ∧ k ≤ n ∧ fs.take k = gs.take k) (fun F' L' => n - (intOf (F' 5)).toNat) ?_ ?_
  · refine ⟨0, ?_⟩
    simp -implicitDefEqProofs (disch := first | omega | decide) only [cA, Int.reduceToNat, Int.reduceLT, Int.reduceLE, Int.reduceEq, Int.reduceAdd, Int.reduceSub, Int.reduceMul, Int.reduceNeg, Int.reduceMod, Int.reduceDiv, pickL, evParts, gst, strV, List.set_cons_zero, List.set_cons_succ, vcd_nil, vcd_cons, stepV, pureV, pureX, pureR, readV, pv, binv, ldV, stV, condV, ev, fresh, nth, thenQ, blockQ, retV, retQ, catParts, fillL, cmpv, intsEq, ones, tyA, fnA, if_true, if_false, ite_true, ite_false, forall_const, implies_true, eq_self, ne_eq, reduceCtorEq, Value.cells, Value.oneCell', Nat.reduceAdd, Nat.reduceSub, Nat.reduceMul, Nat.reduceEqDiff, Nat.reduceLT, Nat.reduceLeDiff, Nat.reduceBEq, fBox, tBox, fdV, tyV, rdBox, rdCells, uV, iV, undef, Nat.mul_one, decV, g4_2, g4_3, g5_2, g5_3, g5_19, g6_2, g6_3, g6_5]
    omega
  intro G7 L' hI
  obtain ⟨k, q2, q3, q5, rfl, ⟨hk, hq⟩⟩ := hI
  have g7_2 := q2.trans g6_2
  have g7_3 := q3.trans g6_3
  have g7_5 := q5
  clear q2 q3 q5
  refine cv_seq_k fun K hK => ?_
  refine cv_seq_k fun K hK => ?_
  refine cv_region_then rfl ?_
  simp -implicitDefEqProofs (disch := first | omega | decide) only [cA, Int.reduceToNat, Int.reduceLT, Int.reduceLE, Int.reduceEq, Int.reduceAdd, Int.reduceSub, Int.reduceMul, Int.reduceNeg, Int.reduceMod, Int.reduceDiv, pickL, evParts, gst, strV, List.set_cons_zero, List.set_cons_succ, vcd_nil, vcd_cons, stepV, pureV, pureX, pureR, readV, pv, binv, ldV, stV, condV, ev, fresh, nth, thenQ, blockQ, retV, retQ, catParts, fillL, cmpv, intsEq, ones, tyA, fnA, if_true, if_false, ite_true, ite_false, forall_const, implies_true, eq_self, ne_eq, reduceCtorEq, Value.cells, Value.oneCell', Nat.reduceAdd, Nat.reduceSub, Nat.reduceMul, Nat.reduceEqDiff, Nat.reduceLT, Nat.reduceLeDiff, Nat.reduceBEq, fBox, tBox, fdV, tyV, rdBox, rdCells, uV, iV, undef, Nat.mul_one, decV, g4_2, g4_3, g5_2, g5_3, g5_19, g6_2, g6_3, g6_5, g7_2, g7_3, g7_5]
  refine hK _ _ ?_
  clear hK K
  refine cv_cond ?_
  simp -implicitDefEqProofs (disch := first | omega | decide) only [cA, Int.reduceToNat, Int.reduceLT, Int.reduceLE, Int.reduceEq, Int.reduceAdd, Int.reduceSub, Int.reduceMul, Int.reduceNeg, Int.reduceMod, Int.reduceDiv, pickL, evParts, gst, strV, List.set_cons_zero, List.set_cons_succ, vcd_nil, vcd_cons, stepV, pureV, pureX, pureR, readV, pv, binv, ldV, stV, condV, ev, fresh, nth, thenQ, blockQ, retV, retQ, catParts, fillL, cmpv, intsEq, ones, tyA, fnA, if_true, if_false, ite_true, ite_false, forall_const, implies_true, eq_self, ne_eq, reduceCtorEq, Value.cells, Value.oneCell', Nat.reduceAdd, Nat.reduceSub, Nat.reduceMul, Nat.reduceEqDiff, Nat.reduceLT, Nat.reduceLeDiff, Nat.reduceBEq, fBox, tBox, fdV, tyV, rdBox, rdCells, uV, iV, undef, Nat.mul_one, decV, g4_2, g4_3, g5_2, g5_3, g5_19, g6_2, g6_3, g6_5, g7_2, g7_3, g7_5]
  refine ⟨fun hc => ?_, fun hc => ?_⟩
  · refine cv_skip ?_
    try simp only [blockQ, thenQ]
    have hlt : k < n := by have := of_decide_eq_true ‹_›; omega
    obtain ⟨b0, off, rfl, hb0, -⟩ := hE.cells (by omega)
    obtain ⟨b1, off1, rfl, hb1, -⟩ := hF.cells (by omega)
    obtain ⟨u, hu⟩ := some_of (l := fs) (i := k) (by omega)
    obtain ⟨v, hv⟩ := some_of (l := gs) (i := k) (by omega)
    refine hK _ _ ?_
    clear hK K
    refine cv_seq_k fun K hK => ?_
    refine cv_block ?_
    refine cv_seq_k fun K hK => ?_
    refine cv_draw [(true, 0), (true, 1), (true, 2), (true, 3), (true, 4), (true, 5), (true, 6), (true, 7), (true, 8), (true, 9), (true, 10)] [] mixA rfl (by kernel_rfl) (by kernel_rfl) rfl rfl ?_
    simp -implicitDefEqProofs (disch := first | omega | decide) only [cA, Int.reduceToNat, Int.reduceLT, Int.reduceLE, Int.reduceEq, Int.reduceAdd, Int.reduceSub, Int.reduceMul, Int.reduceNeg, Int.reduceMod, Int.reduceDiv, pickL, evParts, gst, strV, List.set_cons_zero, List.set_cons_succ, vcd_nil, vcd_cons, stepV, pureV, pureX, pureR, readV, pv, binv, ldV, stV, condV, ev, fresh, nth, thenQ, blockQ, retV, retQ, catParts, fillL, cmpv, intsEq, ones, tyA, fnA, if_true, if_false, ite_true, ite_false, forall_const, implies_true, eq_self, ne_eq, reduceCtorEq, Value.cells, Value.oneCell', Nat.reduceAdd, Nat.reduceSub, Nat.reduceMul, Nat.reduceEqDiff, Nat.reduceLT, Nat.reduceLeDiff, Nat.reduceBEq, fBox, tBox, fdV, tyV, rdBox, rdCells, uV, iV, undef, Nat.mul_one, decV, g4_2, g4_3, g5_2, g5_3, g5_19, g6_2, g6_3, g6_5, g7_2, g7_3, g7_5]
    refine ⟨_, hE.fld hu, fun tok htok => ?_⟩
    subst htok
    simp -implicitDefEqProofs (disch := first | omega | decide) only [cA, Int.reduceToNat, Int.reduceLT, Int.reduceLE, Int.reduceEq, Int.reduceAdd, Int.reduceSub, Int.reduceMul, Int.reduceNeg, Int.reduceMod, Int.reduceDiv, pickL, evParts, gst, strV, List.set_cons_zero, List.set_cons_succ, vcd_nil, vcd_cons, stepV, pureV, pureX, pureR, readV, pv, binv, ldV, stV, condV, ev, fresh, nth, thenQ, blockQ, retV, retQ, catParts, fillL, cmpv, intsEq, ones, tyA, fnA, if_true, if_false, ite_true, ite_false, forall_const, implies_true, eq_self, ne_eq, reduceCtorEq, Value.cells, Value.oneCell', Nat.reduceAdd, Nat.reduceSub, Nat.reduceMul, Nat.reduceEqDiff, Nat.reduceLT, Nat.reduceLeDiff, Nat.reduceBEq, fBox, tBox, fdV, tyV, rdBox, rdCells, uV, iV, undef, Nat.mul_one, decV, g4_2, g4_3, g5_2, g5_3, g5_19, g6_2, g6_3, g6_5, g7_2, g7_3, g7_5]
    refine ⟨_, hF.fld hv, fun tok htok => ?_⟩
    subst htok
    simp -implicitDefEqProofs (disch := first | omega | decide) only [cA, Int.reduceToNat, Int.reduceLT, Int.reduceLE, Int.reduceEq, Int.reduceAdd, Int.reduceSub, Int.reduceMul, Int.reduceNeg, Int.reduceMod, Int.reduceDiv, pickL, evParts, gst, strV, List.set_cons_zero, List.set_cons_succ, vcd_nil, vcd_cons, stepV, pureV, pureX, pureR, readV, pv, binv, ldV, stV, condV, ev, fresh, nth, thenQ, blockQ, retV, retQ, catParts, fillL, cmpv, intsEq, ones, tyA, fnA, if_true, if_false, ite_true, ite_false, forall_const, implies_true, eq_self, ne_eq, reduceCtorEq, Value.cells, Value.oneCell', Nat.reduceAdd, Nat.reduceSub, Nat.reduceMul, Nat.reduceEqDiff, Nat.reduceLT, Nat.reduceLeDiff, Nat.reduceBEq, fBox, tBox, fdV, tyV, rdBox, rdCells, uV, iV, undef, Nat.mul_one, decV, g4_2, g4_3, g5_2, g5_3, g5_19, g6_2, g6_3, g6_5, g7_2, g7_3, g7_5]
    refine hK _ _ ?_
    clear hK K
    refine cv_cond ?_
    simp -implicitDefEqProofs (disch := first | omega | decide) only [cA, Int.reduceToNat, Int.reduceLT, Int.reduceLE, Int.reduceEq, Int.reduceAdd, Int.reduceSub, Int.reduceMul, Int.reduceNeg, Int.reduceMod, Int.reduceDiv, pickL, evParts, gst, strV, List.set_cons_zero, List.set_cons_succ, vcd_nil, vcd_cons, stepV, pureV, pureX, pureR, readV, pv, binv, ldV, stV, condV, ev, fresh, nth, thenQ, blockQ, retV, retQ, catParts, fillL, cmpv, intsEq, ones, tyA, fnA, if_true, if_false, ite_true, ite_false, forall_const, implies_true, eq_self, ne_eq, reduceCtorEq, Value.cells, Value.oneCell', Nat.reduceAdd, Nat.reduceSub, Nat.reduceMul, Nat.reduceEqDiff, Nat.reduceLT, Nat.reduceLeDiff, Nat.reduceBEq, fBox, tBox, fdV, tyV, rdBox, rdCells, uV, iV, undef, Nat.mul_one, decV, g4_2, g4_3, g5_2, g5_3, g5_19, g6_2, g6_3, g6_5, g7_2, g7_3, g7_5]
    refine ⟨fun hc => ?_, fun hc => ?_⟩
    · have hne : ¬ u = v := by
        rintro rfl
        simp at hc
      refine cv_seq_k fun K hK => ?_
      refine cv_region_then rfl ?_
      simp -implicitDefEqProofs (disch := first | omega | decide) only [cA, Int.reduceToNat, Int.reduceLT, Int.reduceLE, Int.reduceEq, Int.reduceAdd, Int.reduceSub, Int.reduceMul, Int.reduceNeg, Int.reduceMod, Int.reduceDiv, pickL, evParts, gst, strV, List.set_cons_zero, List.set_cons_succ, vcd_nil, vcd_cons, stepV, pureV, pureX, pureR, readV, pv, binv, ldV, stV, condV, ev, fresh, nth, thenQ, blockQ, retV, retQ, catParts, fillL, cmpv, intsEq, ones, tyA, fnA, if_true, if_false, ite_true, ite_false, forall_const, implies_true, eq_self, ne_eq, reduceCtorEq, Value.cells, Value.oneCell', Nat.reduceAdd, Nat.reduceSub, Nat.reduceMul, Nat.reduceEqDiff, Nat.reduceLT, Nat.reduceLeDiff, Nat.reduceBEq, fBox, tBox, fdV, tyV, rdBox, rdCells, uV, iV, undef, Nat.mul_one, decV, g4_2, g4_3, g5_2, g5_3, g5_19, g6_2, g6_3, g6_5, g7_2, g7_3, g7_5]
      refine hK _ _ ?_
      clear hK K
      refine cv_ret ⟨_, (by simp -implicitDefEqProofs (disch := first | omega | decide) only [cA, Int.reduceToNat, Int.reduceLT, Int.reduceLE, Int.reduceEq, Int.reduceAdd, Int.reduceSub, Int.reduceMul, Int.reduceNeg, Int.reduceMod, Int.reduceDiv, pickL, evParts, gst, strV, List.set_cons_zero, List.set_cons_succ, vcd_nil, vcd_cons, stepV, pureV, pureX, pureR, readV, pv, binv, ldV, stV, condV, ev, fresh, nth, thenQ, blockQ, retV, retQ, catParts, fillL, cmpv, intsEq, ones, tyA, fnA, if_true, if_false, ite_true, ite_false, forall_const, implies_true, eq_self, ne_eq, reduceCtorEq, Value.cells, Value.oneCell', Nat.reduceAdd, Nat.reduceSub, Nat.reduceMul, Nat.reduceEqDiff, Nat.reduceLT, Nat.reduceLeDiff, Nat.reduceBEq, fBox, tBox, fdV, tyV, rdBox, rdCells, uV, iV, undef, Nat.mul_one, decV, g4_2, g4_3, g5_2, g5_3, g5_19, g6_2, g6_3, g6_5, g7_2, g7_3, g7_5]; rfl), fun w hw => ?_⟩
      refine ⟨?_, hw.below⟩
      rw [decide_eq_false]
      rintro ⟨-, rfl⟩
      rw [hu] at hv
      injection hv with hv
      exact hne hv
    have huv : u = v := by
      obtain ⟨u1, u2⟩ := u
      obtain ⟨v1, v2⟩ := v
      simpa using hc
    subst huv
    refine cv_skip ?_
    try simp only [blockQ, thenQ]
    refine hK _ _ ?_
    clear hK K
    refine cv_region_then rfl ?_
    simp -implicitDefEqProofs (disch := first | omega | decide) only [cA, Int.reduceToNat, Int.reduceLT, Int.reduceLE, Int.reduceEq, Int.reduceAdd, Int.reduceSub, Int.reduceMul, Int.reduceNeg, Int.reduceMod, Int.reduceDiv, pickL, evParts, gst, strV, List.set_cons_zero, List.set_cons_succ, vcd_nil, vcd_cons, stepV, pureV, pureX, pureR, readV, pv, binv, ldV, stV, condV, ev, fresh, nth, thenQ, blockQ, retV, retQ, catParts, fillL, cmpv, intsEq, ones, tyA, fnA, if_true, if_false, ite_true, ite_false, forall_const, implies_true, eq_self, ne_eq, reduceCtorEq, Value.cells, Value.oneCell', Nat.reduceAdd, Nat.reduceSub, Nat.reduceMul, Nat.reduceEqDiff, Nat.reduceLT, Nat.reduceLeDiff, Nat.reduceBEq, fBox, tBox, fdV, tyV, rdBox, rdCells, uV, iV, undef, Nat.mul_one, decV, wrap_in, g4_2, g4_3, g5_2, g5_3, g5_19, g6_2, g6_3, g6_5, g7_2, g7_3, g7_5]
    refine ⟨⟨k + 1, ?_⟩, ?_⟩
    · simp -implicitDefEqProofs (disch := first | omega | decide) only [cA, Int.reduceToNat, Int.reduceLT, Int.reduceLE, Int.reduceEq, Int.reduceAdd, Int.reduceSub, Int.reduceMul, Int.reduceNeg, Int.reduceMod, Int.reduceDiv, pickL, evParts, gst, strV, List.set_cons_zero, List.set_cons_succ, vcd_nil, vcd_cons, stepV, pureV, pureX, pureR, readV, pv, binv, ldV, stV, condV, ev, fresh, nth, thenQ, blockQ, retV, retQ, catParts, fillL, cmpv, intsEq, ones, tyA, fnA, if_true, if_false, ite_true, ite_false, forall_const, implies_true, eq_self, ne_eq, reduceCtorEq, Value.cells, Value.oneCell', Nat.reduceAdd, Nat.reduceSub, Nat.reduceMul, Nat.reduceEqDiff, Nat.reduceLT, Nat.reduceLeDiff, Nat.reduceBEq, fBox, tBox, fdV, tyV, rdBox, rdCells, uV, iV, undef, Nat.mul_one, decV, Int.natCast_add, g4_2, g4_3, g5_2, g5_3, g5_19, g6_2, g6_3, g6_5, g7_2, g7_3, g7_5]
      refine ⟨by omega, ?_⟩
      obtain ⟨h1, h2⟩ := List.getElem?_eq_some_iff.1 hu
      obtain ⟨h3, h4⟩ := List.getElem?_eq_some_iff.1 hv
      rw [List.take_succ_eq_append_getElem h1, List.take_succ_eq_append_getElem h3, h2, h4, hq]
    · simp only [intOf]; omega
  refine cv_exit ?_
  simp only [blockQ, thenQ, if_true, ite_true]
  clear hK K
  refine hK _ _ ?_
  clear hK K
  have hkn : k = n := by have := of_decide_eq_false ‹_›; omega
  subst hkn
  rw [List.take_of_length_le (by omega), List.take_of_length_le (by omega)] at hq
  refine cv_seq_k fun K hK => ?_
  refine cv_region_then rfl ?_
  simp -implicitDefEqProofs (disch := first | omega | decide) only [cA, Int.reduceToNat, Int.reduceLT, Int.reduceLE, Int.reduceEq, Int.reduceAdd, Int.reduceSub, Int.reduceMul, Int.reduceNeg, Int.reduceMod, Int.reduceDiv, pickL, evParts, gst, strV, List.set_cons_zero, List.set_cons_succ, vcd_nil, vcd_cons, stepV, pureV, pureX, pureR, readV, pv, binv, ldV, stV, condV, ev, fresh, nth, thenQ, blockQ, retV, retQ, catParts, fillL, cmpv, intsEq, ones, tyA, fnA, if_true, if_false, ite_true, ite_false, forall_const, implies_true, eq_self, ne_eq, reduceCtorEq, Value.cells, Value.oneCell', Nat.reduceAdd, Nat.reduceSub, Nat.reduceMul, Nat.reduceEqDiff, Nat.reduceLT, Nat.reduceLeDiff, Nat.reduceBEq, fBox, tBox, fdV, tyV, rdBox, rdCells, uV, iV, undef, Nat.mul_one, decV, g4_2, g4_3, g5_2, g5_3, g5_19, g6_2, g6_3, g6_5, g7_2, g7_3, g7_5]
  refine hK _ _ ?_
  clear hK K
  refine cv_ret ⟨_, (by simp -implicitDefEqProofs (disch := first | omega | decide) only [cA, Int.reduceToNat, Int.reduceLT, Int.reduceLE, Int.reduceEq, Int.reduceAdd, Int.reduceSub, Int.reduceMul, Int.reduceNeg, Int.reduceMod, Int.reduceDiv, pickL, evParts, gst, strV, List.set_cons_zero, List.set_cons_succ, vcd_nil, vcd_cons, stepV, pureV, pureX, pureR, readV, pv, binv, ldV, stV, condV, ev, fresh, nth, thenQ, blockQ, retV, retQ, catParts, fillL, cmpv, intsEq, ones, tyA, fnA, if_true, if_false, ite_true, ite_false, forall_const, implies_true, eq_self, ne_eq, reduceCtorEq, Value.cells, Value.oneCell', Nat.reduceAdd, Nat.reduceSub, Nat.reduceMul, Nat.reduceEqDiff, Nat.reduceLT, Nat.reduceLeDiff, Nat.reduceBEq, fBox, tBox, fdV, tyV, rdBox, rdCells, uV, iV, undef, Nat.mul_one, decV, g4_2, g4_3, g5_2, g5_3, g5_19, g6_2, g6_3, g6_5, g7_2, g7_3, g7_5]; rfl), fun w hw => ?_⟩
  exact ⟨by simp [hq], hw.below⟩
set_option maxHeartbeats 1000000 in
theorem same_any (A : Option Addr) (n c : Nat) (l : List Nat) (W : World) (hE : Sl W W.heap.size 1 A n c (byt l)) (hb : ∀ x ∈ l, x < 256) (hn : n ≤ 4611686018427387904) :
    Calls Try.prog 13 #[.slice A n c] W fun e w' => e = .returned (.bool true) ∧ Below W.heap.size W w' := by
  refine calls_cv (M := []) (n := 34) [.tmp 2] rfl Try.func13 rfl rfl (Nat.le_of_ble_eq_true rfl) (St.nil _ _) ?_
  refine cv_seq_k fun K hK => ?_
  refine cv_region_then rfl ?_
  simp -implicitDefEqProofs (disch := first | omega | decide) only [cA, Int.reduceToNat, Int.reduceLT, Int.reduceLE, Int.reduceEq, Int.reduceAdd, Int.reduceSub, Int.reduceMul, Int.reduceNeg, Int.reduceMod, Int.reduceDiv, pickL, evParts, gst, strV, List.set_cons_zero, List.set_cons_succ, vcd_nil, vcd_cons, stepV, pureV, pureX, pureR, readV, pv, binv, ldV, stV, condV, ev, fresh, nth, thenQ, blockQ, retV, retQ, catParts, fillL, cmpv, intsEq, ones, tyA, fnA, if_true, if_false, ite_true, ite_false, forall_const, implies_true, eq_self, ne_eq, reduceCtorEq, Value.cells, Value.oneCell', Nat.reduceAdd, Nat.reduceSub, Nat.reduceMul, Nat.reduceEqDiff, Nat.reduceLT, Nat.reduceLeDiff, Nat.reduceBEq, fBox, tBox, fdV, tyV, rdBox, rdCells, uV, iV, undef, Nat.mul_one, decV]
  refine hK _ _ ?_
  clear hK K
  refine cv_seq_k fun K hK => ?_
  refine cv_region_then rfl ?_
  simp -implicitDefEqProofs (disch := first | omega | decide) only [cA, Int.reduceToNat, Int.reduceLT, Int.reduceLE, Int.reduceEq, Int.reduceAdd, Int.reduceSub, Int.reduceMul, Int.reduceNeg, Int.reduceMod, Int.reduceDiv, pickL, evParts, gst, strV, List.set_cons_zero, List.set_cons_succ, vcd_nil, vcd_cons, stepV, pureV, pureX, pureR, readV, pv, binv, ldV, stV, condV, ev, fresh, nth, thenQ, blockQ, retV, retQ, catParts, fillL, cmpv, intsEq, ones, tyA, fnA, if_true, if_false, ite_true, ite_false, forall_const, implies_true, eq_self, ne_eq, reduceCtorEq, Value.cells, Value.oneCell', Nat.reduceAdd, Nat.reduceSub, Nat.reduceMul, Nat.reduceEqDiff, Nat.reduceLT, Nat.reduceLeDiff, Nat.reduceBEq, fBox, tBox, fdV, tyV, rdBox, rdCells, uV, iV, undef, Nat.mul_one, decV]
  refine callV_row (fun A' n' c' => decV (decF l) (.slice A' n' c')) (fun w hw => decode_any A n c l w (hE.at hw) hb hn) ?_
  intro A1 n1 c1 hl1 _
  simp -implicitDefEqProofs (disch := first | omega | decide) only [cA, Int.reduceToNat, Int.reduceLT, Int.reduceLE, Int.reduceEq, Int.reduceAdd, Int.reduceSub, Int.reduceMul, Int.reduceNeg, Int.reduceMod, Int.reduceDiv, pickL, evParts, gst, strV, List.set_cons_zero, List.set_cons_succ, vcd_nil, vcd_cons, stepV, pureV, pureX, pureR, readV, pv, binv, ldV, stV, condV, ev, fresh, nth, thenQ, blockQ, retV, retQ, catParts, fillL, cmpv, intsEq, ones, tyA, fnA, if_true, if_false, ite_true, ite_false, forall_const, implies_true, eq_self, ne_eq, reduceCtorEq, Value.cells, Value.oneCell', Nat.reduceAdd, Nat.reduceSub, Nat.reduceMul, Nat.reduceEqDiff, Nat.reduceLT, Nat.reduceLeDiff, Nat.reduceBEq, fBox, tBox, fdV, tyV, rdBox, rdCells, uV, iV, undef, Nat.mul_one, decV]
  intro b3 hb3
  refine hK _ _ ?_
  clear hK K
  refine cv_seq_k fun K hK => ?_
  refine cv_region_then rfl ?_
  simp -implicitDefEqProofs (disch := first | omega | decide) only [cA, Int.reduceToNat, Int.reduceLT, Int.reduceLE, Int.reduceEq, Int.reduceAdd, Int.reduceSub, Int.reduceMul, Int.reduceNeg, Int.reduceMod, Int.reduceDiv, pickL, evParts, gst, strV, List.set_cons_zero, List.set_cons_succ, vcd_nil, vcd_cons, stepV, pureV, pureX, pureR, readV, pv, binv, ldV, stV, condV, ev, fresh, nth, thenQ, blockQ, retV, retQ, catParts, fillL, cmpv, intsEq, ones, tyA, fnA, if_true, if_false, ite_true, ite_false, forall_const, implies_true, eq_self, ne_eq, reduceCtorEq, Value.cells, Value.oneCell', Nat.reduceAdd, Nat.reduceSub, Nat.reduceMul, Nat.reduceEqDiff, Nat.reduceLT, Nat.reduceLeDiff, Nat.reduceBEq, fBox, tBox, fdV, tyV, rdBox, rdCells, uV, iV, undef, Nat.mul_one, decV]
  refine callV_row (fun A' n' c' => decV (decF l) (.slice A' n' c')) (fun w hw => rdecode_any A n c l w (hE.at hw) hb hn) ?_
  intro A2 n2 c2 hl2 _
  simp -implicitDefEqProofs (disch := first | omega | decide) only [cA, Int.reduceToNat, Int.reduceLT, Int.reduceLE, Int.reduceEq, Int.reduceAdd, Int.reduceSub, Int.reduceMul, Int.reduceNeg, Int.reduceMod, Int.reduceDiv, pickL, evParts, gst, strV, List.set_cons_zero, List.set_cons_succ, vcd_nil, vcd_cons, stepV, pureV, pureX, pureR, readV, pv, binv, ldV, stV, condV, ev, fresh, nth, thenQ, blockQ, retV, retQ, catParts, fillL, cmpv, intsEq, ones, tyA, fnA, if_true, if_false, ite_true, ite_false, forall_const, implies_true, eq_self, ne_eq, reduceCtorEq, Value.cells, Value.oneCell', Nat.reduceAdd, Nat.reduceSub, Nat.reduceMul, Nat.reduceEqDiff, Nat.reduceLT, Nat.reduceLeDiff, Nat.reduceBEq, fBox, tBox, fdV, tyV, rdBox, rdCells, uV, iV, undef, Nat.mul_one, decV]
  intro b6 hb6 h6
  refine hK _ _ ?_
  clear hK K
  refine cv_gen fun G8 hG => ?_
  have g8_3 := congrFun hG 3
  have g8_4 := congrFun hG 4
  have g8_5 := congrFun hG 5
  have g8_6 := congrFun hG 6
  have g8_7 := congrFun hG 7
  have g8_8 := congrFun hG 8
  clear hG
  try simp -implicitDefEqProofs (disch := first | omega | decide) only [cA, Int.reduceToNat, Int.reduceLT, Int.reduceLE, Int.reduceEq, Int.reduceAdd, Int.reduceSub, Int.reduceMul, Int.reduceNeg, Int.reduceMod, Int.reduceDiv, pickL, evParts, gst, strV, List.set_cons_zero, List.set_cons_succ, vcd_nil, vcd_cons, stepV, pureV, pureX, pureR, readV, pv, binv, ldV, stV, condV, ev, fresh, nth, thenQ, blockQ, retV, retQ, catParts, fillL, cmpv, intsEq, ones, tyA, fnA, if_true, if_false, ite_true, ite_false, forall_const, implies_true, eq_self, ne_eq, reduceCtorEq, Value.cells, Value.oneCell', Nat.reduceAdd, Nat.reduceSub, Nat.reduceMul, Nat.reduceEqDiff, Nat.reduceLT, Nat.reduceLeDiff, Nat.reduceBEq, fBox, tBox, fdV, tyV, rdBox, rdCells, uV, iV, undef, Nat.mul_one, decV] at g8_3
  try simp -implicitDefEqProofs (disch := first | omega | decide) only [cA, Int.reduceToNat, Int.reduceLT, Int.reduceLE, Int.reduceEq, Int.reduceAdd, Int.reduceSub, Int.reduceMul, Int.reduceNeg, Int.reduceMod, Int.reduceDiv, pickL, evParts, gst, strV, List.set_cons_zero, List.set_cons_succ, vcd_nil, vcd_cons, stepV, pureV, pureX, pureR, readV, pv, binv, ldV, stV, condV, ev, fresh, nth, thenQ, blockQ, retV, retQ, catParts, fillL, cmpv, intsEq, ones, tyA, fnA, if_true, if_false, ite_true, ite_false, forall_const, implies_true, eq_self, ne_eq, reduceCtorEq, Value.cells, Value.oneCell', Nat.reduceAdd, Nat.reduceSub, Nat.reduceMul, Nat.reduceEqDiff, Nat.reduceLT, Nat.reduceLeDiff, Nat.reduceBEq, fBox, tBox, fdV, tyV, rdBox, rdCells, uV, iV, undef, Nat.mul_one, decV] at g8_4
  try simp -implicitDefEqProofs (disch := first | omega | decide) only [cA, Int.reduceToNat, Int.reduceLT, Int.reduceLE, Int.reduceEq, Int.reduceAdd, Int.reduceSub, Int.reduceMul, Int.reduceNeg, Int.reduceMod, Int.reduceDiv, pickL, evParts, gst, strV, List.set_cons_zero, List.set_cons_succ, vcd_nil, vcd_cons, stepV, pureV, pureX, pureR, readV, pv, binv, ldV, stV, condV, ev, fresh, nth, thenQ, blockQ, retV, retQ, catParts, fillL, cmpv, intsEq, ones, tyA, fnA, if_true, if_false, ite_true, ite_false, forall_const, implies_true, eq_self, ne_eq, reduceCtorEq, Value.cells, Value.oneCell', Nat.reduceAdd, Nat.reduceSub, Nat.reduceMul, Nat.reduceEqDiff, Nat.reduceLT, Nat.reduceLeDiff, Nat.reduceBEq, fBox, tBox, fdV, tyV, rdBox, rdCells, uV, iV, undef, Nat.mul_one, decV] at g8_5
  try simp -implicitDefEqProofs (disch := first | omega | decide) only [cA, Int.reduceToNat, Int.reduceLT, Int.reduceLE, Int.reduceEq, Int.reduceAdd, Int.reduceSub, Int.reduceMul, Int.reduceNeg, Int.reduceMod, Int.reduceDiv, pickL, evParts, gst, strV, List.set_cons_zero, List.set_cons_succ, vcd_nil, vcd_cons, stepV, pureV, pureX, pureR, readV, pv, binv, ldV, stV, condV, ev, fresh, nth, thenQ, blockQ, retV, retQ, catParts, fillL, cmpv, intsEq, ones, tyA, fnA, if_true, if_false, ite_true, ite_false, forall_const, implies_true, eq_self, ne_eq, reduceCtorEq, Value.cells, Value.oneCell', Nat.reduceAdd, Nat.reduceSub, Nat.reduceMul, Nat.reduceEqDiff, Nat.reduceLT, Nat.reduceLeDiff, Nat.reduceBEq, fBox, tBox, fdV, tyV, rdBox, rdCells, uV, iV, undef, Nat.mul_one, decV] at g8_6
  try simp -implicitDefEqProofs (disch := first | omega | decide) only [cA, Int.reduceToNat, Int.reduceLT, Int.reduceLE, Int.reduceEq, Int.reduceAdd, Int.reduceSub, Int.reduceMul, Int.reduceNeg, Int.reduceMod, Int.reduceDiv, pickL, evParts, gst, strV, List.set_cons_zero, List.set_cons_succ, vcd_nil, vcd_cons, stepV, pureV, pureX, pureR, readV, pv, binv, ldV, stV, condV, ev, fresh, nth, thenQ, blockQ, retV, retQ, catParts, fillL, cmpv, intsEq, ones, tyA, fnA, if_true, if_false, ite_true, ite_false, forall_const, implies_true, eq_self, ne_eq, reduceCtorEq, Value.cells, Value.oneCell', Nat.reduceAdd, Nat.reduceSub, Nat.reduceMul, Nat.reduceEqDiff, Nat.reduceLT, Nat.reduceLeDiff, Nat.reduceBEq, fBox, tBox, fdV, tyV, rdBox, rdCells, uV, iV, undef, Nat.mul_one, decV] at g8_7
  try simp -implicitDefEqProofs (disch := first | omega | decide) only [cA, Int.reduceToNat, Int.reduceLT, Int.reduceLE, Int.reduceEq, Int.reduceAdd, Int.reduceSub, Int.reduceMul, Int.reduceNeg, Int.reduceMod, Int.reduceDiv, pickL, evParts, gst, strV, List.set_cons_zero, List.set_cons_succ, vcd_nil, vcd_cons, stepV, pureV, pureX, pureR, readV, pv, binv, ldV, stV, condV, ev, fresh, nth, thenQ, blockQ, retV, retQ, catParts, fillL, cmpv, intsEq, ones, tyA, fnA, if_true, if_false, ite_true, ite_false, forall_const, implies_true, eq_self, ne_eq, reduceCtorEq, Value.cells, Value.oneCell', Nat.reduceAdd, Nat.reduceSub, Nat.reduceMul, Nat.reduceEqDiff, Nat.reduceLT, Nat.reduceLeDiff, Nat.reduceBEq, fBox, tBox, fdV, tyV, rdBox, rdCells, uV, iV, undef, Nat.mul_one, decV] at g8_8
  refine cv_seq_k fun K hK => ?_
  refine cv_region_then rfl ?_
  simp -implicitDefEqProofs (disch := first | omega | decide) only [cA, Int.reduceToNat, Int.reduceLT, Int.reduceLE, Int.reduceEq, Int.reduceAdd, Int.reduceSub, Int.reduceMul, Int.reduceNeg, Int.reduceMod, Int.reduceDiv, pickL, evParts, gst, strV, List.set_cons_zero, List.set_cons_succ, vcd_nil, vcd_cons, stepV, pureV, pureX, pureR, readV, pv, binv, ldV, stV, condV, ev, fresh, nth, thenQ, blockQ, retV, retQ, catParts, fillL, cmpv, intsEq, ones, tyA, fnA, if_true, if_false, ite_true, ite_false, forall_const, implies_true, eq_self, ne_eq, reduceCtorEq, Value.cells, Value.oneCell', Nat.reduceAdd, Nat.reduceSub, Nat.reduceMul, Nat.reduceEqDiff, Nat.reduceLT, Nat.reduceLeDiff, Nat.reduceBEq, fBox, tBox, fdV, tyV, rdBox, rdCells, uV, iV, undef, Nat.mul_one, decV, g8_3, g8_4, g8_5, g8_6, g8_7, g8_8]
  refine callV_ret (fun w hw => sameType_any A1 A2 n1 c1 n2 c2 (decF l).2.1 (decF l).2.1 (decF l).1 (decF l).1 w (hw.slr 3 rfl) (hw.slr 1 rfl)) ?_
  try simp -implicitDefEqProofs (disch := first | omega | decide) only [cA, Int.reduceToNat, Int.reduceLT, Int.reduceLE, Int.reduceEq, Int.reduceAdd, Int.reduceSub, Int.reduceMul, Int.reduceNeg, Int.reduceMod, Int.reduceDiv, pickL, evParts, gst, strV, List.set_cons_zero, List.set_cons_succ, vcd_nil, vcd_cons, stepV, pureV, pureX, pureR, readV, pv, binv, ldV, stV, condV, ev, fresh, nth, thenQ, blockQ, retV, retQ, catParts, fillL, cmpv, intsEq, ones, tyA, fnA, if_true, if_false, ite_true, ite_false, forall_const, implies_true, eq_self, ne_eq, reduceCtorEq, Value.cells, Value.oneCell', Nat.reduceAdd, Nat.reduceSub, Nat.reduceMul, Nat.reduceEqDiff, Nat.reduceLT, Nat.reduceLeDiff, Nat.reduceBEq, fBox, tBox, fdV, tyV, rdBox, rdCells, uV, iV, undef, Nat.mul_one, decV, g8_3, g8_4, g8_5, g8_6, g8_7, g8_8]
  refine hK _ _ ?_
  clear hK K
  refine cv_ret ⟨_, (by simp -implicitDefEqProofs (disch := first | omega | decide) only [cA, Int.reduceToNat, Int.reduceLT, Int.reduceLE, Int.reduceEq, Int.reduceAdd, Int.reduceSub, Int.reduceMul, Int.reduceNeg, Int.reduceMod, Int.reduceDiv, pickL, evParts, gst, strV, List.set_cons_zero, List.set_cons_succ, vcd_nil, vcd_cons, stepV, pureV, pureX, pureR, readV, pv, binv, ldV, stV, condV, ev, fresh, nth, thenQ, blockQ, retV, retQ, catParts, fillL, cmpv, intsEq, ones, tyA, fnA, if_true, if_false, ite_true, ite_false, forall_const, implies_true, eq_self, ne_eq, reduceCtorEq, Value.cells, Value.oneCell', Nat.reduceAdd, Nat.reduceSub, Nat.reduceMul, Nat.reduceEqDiff, Nat.reduceLT, Nat.reduceLeDiff, Nat.reduceBEq, fBox, tBox, fdV, tyV, rdBox, rdCells, uV, iV, undef, Nat.mul_one, decV, g8_3, g8_4, g8_5, g8_6, g8_7, g8_8]; rfl), fun w hw => ?_⟩
  exact ⟨rfl, hw.below⟩
end Go.Proofs.Ytoifcbmflclhnaa
