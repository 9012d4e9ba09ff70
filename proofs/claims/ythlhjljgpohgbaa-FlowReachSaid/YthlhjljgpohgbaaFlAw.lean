/- The flow laws' awake, code, few. -/
import Derived.Test.YthlhjljgpohgbaaFlSame
import Derived.Test.YthlhjljgpohgbaaMk
namespace Go.Proofs.Ythlhjljgpohgbaa
open Go.RowKit Go.Shelf
set_option linter.unusedVariables false
set_option linter.unusedSimpArgs false
set_option maxRecDepth 100000
set_option maxRecDepth 100000 in
theorem sFlAw1 : type_of% (And.intro (And.intro (And.intro @fBox.eq_1 (And.intro @tBox.eq_1 @iBox.eq_1)) (And.intro (And.intro @mBox.eq_1 @gBox.eq_1) (And.intro @flBox.eq_1 @fdV.eq_1))) (And.intro (And.intro (And.intro @tyV.eq_1 @insV.eq_1) (And.intro @fnV.eq_1 @modV.eq_1)) (And.intro (And.intro @fltV.eq_1 @fineF.eq_1) (And.intro @Nat.mul_one @wrap_in)))) := (And.intro (And.intro (And.intro @fBox.eq_1 (And.intro @tBox.eq_1 @iBox.eq_1)) (And.intro (And.intro @mBox.eq_1 @gBox.eq_1) (And.intro @flBox.eq_1 @fdV.eq_1))) (And.intro (And.intro (And.intro @tyV.eq_1 @insV.eq_1) (And.intro @fnV.eq_1 @modV.eq_1)) (And.intro (And.intro @fltV.eq_1 @fineF.eq_1) (And.intro @Nat.mul_one @wrap_in))))
/-- The module of a single function. -/
def codM (b : Nat) (A : Option Addr) (n c : Nat) (is : List Ins) : ModR := ⟨none, 0, 0, [], some ⟨b, 0, none⟩, 1, 1, [⟨0, 0, 2, A, n, c, is⟩]⟩
theorem cod_mod {w : World} {b n c : Nat} {A : Option Addr} {is : List Ins} (h5 : Sl w w.heap.size 2 A n c (cl insc is)) (h7 : Sl w w.heap.size 4 (some ⟨b, 0, none⟩) 1 1 (cl fnc (codM b A n c is).gs)) (ha : ∀ i ∈ is, i.arg < 18446744073709551616) : Mod w w.heap.size (codM b A n c is) := by
  refine ⟨Sl.nil 2, fun t ht => (by simp [codM] at ht), h7, fun g hg => ?_, fun g hg i hi => ?_⟩
  · obtain rfl : g = ⟨0, 0, 2, A, n, c, is⟩ := by simpa [codM] using hg
    exact h5
  · obtain rfl : g = ⟨0, 0, 2, A, n, c, is⟩ := by simpa [codM] using hg
    exact ha i hi
theorem code_any (A : Option Addr) (n c : Nat) (W : World) : Calls Try.prog 9 #[.slice A n c] W fun e w' => ∃ b, e = .returned (.agg #[.slice none 0 0, .slice (some ⟨b, 0, none⟩) 1 1]) ∧ W.heap.size ≤ b ∧ w'.heap[b]? = some (.cells [.int .i64 0, .int .i64 0, .int .i64 2, .slice A n c].toArray 49 (0, 0)) ∧ Below W.heap.size W w' := by
  refine calls_cv2 (M := []) (n := 7) [.cell 2 35] rfl Try.func9 rfl rfl (Nat.le_of_ble_eq_true rfl) (St.nil _ _) ?_
  refine cv_seq_k fun K hK => ?_
  refine cv_region_then rfl ?_
  simp -implicitDefEqProofs (disch := first | omega | decide) only [seval, -Int.reducePow, -Nat.reducePow, cC, pv, binv, sFlAw1, undef]
  intro b2 hb2
  refine hK _ _ ?_
  clear hK K
  refine cv_seq_k fun K hK => ?_
  refine cv_region_then rfl ?_
  simp -implicitDefEqProofs (disch := first | omega | decide) only [seval, -Int.reducePow, -Nat.reducePow, cC, pv, binv, sFlAw1, undef]
  intro b5 hb5 hf5
  simp -implicitDefEqProofs (disch := first | omega | decide) only [seval, -Int.reducePow, -Nat.reducePow, cC, pv, binv, sFlAw1, undef]
  refine hK _ _ ?_
  clear hK K
  refine cv_ret ?_
  simp -implicitDefEqProofs (disch := first | omega | decide) only [seval, -Int.reducePow, -Nat.reducePow, cC, pv, binv, sFlAw1, undef, retQ2, ressV, packV]
  intro w hw
  exact ⟨b5, rfl, hb5, hw.hold 0 rfl, hw.below⟩
def flawI : List Ins := [⟨1, 1⟩, ⟨20, 0⟩, ⟨25, 0⟩]
theorem flaw_hgt (b b7 : Nat) : hgtF (codM b (some ⟨b7, 0, none⟩) 3 3 flawI) 0 = ([0, 1, 0], fineF) := by kernel_rfl
theorem flAwake_any (W : World) : Calls Try.prog 10 #[] W fun e w' => e = .returned (.bool true) ∧ Below W.heap.size W w' := by
  refine calls_cv (M := []) (n := 20) [.tmp 0] rfl Try.func10 rfl rfl (Nat.le_of_ble_eq_true rfl) (St.nil _ _) ?_
  refine cv_seq_k fun K hK => ?_
  refine cv_region_then rfl ?_
  simp -implicitDefEqProofs (disch := first | omega | decide) only [seval, -Int.reducePow, -Nat.reducePow, cC, pv, binv, sFlAw1, undef]
  refine hK _ _ ?_
  clear hK K
  refine cv_seq_k fun K hK => ?_
  refine cv_region_then rfl ?_
  simp -implicitDefEqProofs (disch := first | omega | decide) only [seval, -Int.reducePow, -Nat.reducePow, cC, pv, binv, sFlAw1, undef]
  intro b7 hb7
  refine callV_blk (us := [.int .i64 0, .int .i64 0, .int .i64 2, .slice (some ⟨b7, 0, none⟩) 3 3]) (fun b => .agg #[.slice none 0 0, .slice (some ⟨b, 0, none⟩) 1 1]) (fun w hw => code_any (some ⟨b7, 0, none⟩) 3 3 w) ?_
  intro b8 hb8 hf8
  simp -implicitDefEqProofs (disch := first | omega | decide) only [seval, -Int.reducePow, -Nat.reducePow, cC, pv, binv, sFlAw1, undef] at hf8
  simp -implicitDefEqProofs (disch := first | omega | decide) only [seval, -Int.reducePow, -Nat.reducePow, cC, pv, binv, sFlAw1, undef]
  refine callV_row (fun A n c => .tuple #[.slice A n c, fltV fineF]) (fun w hw => (by have := Heights_any (codM b8 (some ⟨b7, 0, none⟩) 3 3 flawI) 0 w (cod_mod (Sl.of_blk hw (.tail _ (.head _)) rfl (by omega)) (Sl.of_blk hw (.head _) rfl (by omega)) (by decide)); rw [flaw_hgt] at this; exact this)) ?_
  intro A1 n1 c1 hl1 hr1
  simp -implicitDefEqProofs (disch := first | omega | decide) only [seval, -Int.reducePow, -Nat.reducePow, cC, pv, binv, sFlAw1, undef]
  intro b2 hb2 hf2
  refine hK _ _ ?_
  clear hK K
  refine cv_seq_k fun K hK => ?_
  refine cv_region_then rfl ?_
  simp -implicitDefEqProofs (disch := first | omega | decide) only [seval, -Int.reducePow, -Nat.reducePow, cC, pv, binv, sFlAw1, undef]
  intro b17 hb17 hf17
  refine callV_ret (fun w hw => sameInts_any A1 (some ⟨b17, 0, none⟩) n1 c1 3 3 [0, 1, 0] [0, 1, 0] w (hw.slr 2 rfl) (Sl.of_blk hw (.head _) rfl (by omega))) ?_
  try simp -implicitDefEqProofs (disch := first | omega | decide) only [seval, -Int.reducePow, -Nat.reducePow, cC, pv, binv, sFlAw1, undef]
  refine hK _ _ ?_
  clear hK K
  refine cv_ret ⟨_, (by simp -implicitDefEqProofs (disch := first | omega | decide) only [seval, -Int.reducePow, -Nat.reducePow, cC, pv, binv, sFlAw1, undef]; rfl), fun w hw => ?_⟩
  exact ⟨rfl, hw.below⟩
set_option maxHeartbeats 1000000 in
theorem flFew_any (m : ModR) (W : World) (hM : Mod W W.heap.size m) : Calls Try.prog 16 #[modV m] W fun e w' => ∃ r : Bool, e = .returned (.bool r) ∧ True ∧ Below W.heap.size W w' := by
  have hlt := hM.tlen
  have hlg := hM.glen
  have hE := hM.ts
  have hG := hM.gs
  obtain ⟨TA, tn, tc, ts, FA, fn, fc, gs⟩ := m
  dsimp only at *
  refine calls_cv (M := []) (n := 45) [.tmp 2] rfl Try.func16 rfl rfl (Nat.le_of_ble_eq_true rfl) (St.nil _ _) ?_
  refine cv_seq_k fun K hK => ?_
  refine cv_region_then rfl ?_
  simp -implicitDefEqProofs (disch := first | omega | decide) only [seval, -Int.reducePow, -Nat.reducePow, cC, pv, binv, sFlAw1, undef]
  intro b1 hb1
  refine hK _ _ ?_
  clear hK K
  refine cv_gen fun G1 hG => ?_
  have g1_1 := congrFun hG 1
  clear hG
  try simp -implicitDefEqProofs (disch := first | omega | decide) only [seval, -Int.reducePow, -Nat.reducePow, cC, pv, binv, sFlAw1, undef] at g1_1
  have g1 := g1_1
  refine cv_seq_k fun K hK => ?_
  refine cv_seq_k fun K hK => ?_
  refine cv_cut (fun _ _ => True) (fun F' L' => F' 1 = G1 1 ∧ F' 14 = .bool (decide (10 < tn ∨ 10 < fn)) ∧ L' = [mBox b1 ⟨TA, tn, tc, ts, FA, fn, fc, gs⟩]) ?_ ?_
  · refine cv_region_then rfl ?_
    simp -implicitDefEqProofs (disch := first | omega | decide) only [seval, -Int.reducePow, -Nat.reducePow, cC, pv, binv, sFlAw1, undef, g1]
    repeat' ((first | refine vcg_cases (fun hg => ?_) (fun hg => ?_) | refine vdg_cases (fun hg => ?_) (fun hg => ?_)) <;> ((try simp only [Bool.not_eq_true', Bool.not_eq_false', decide_eq_true_eq, decide_eq_false_iff_not] at hg); (try simp -implicitDefEqProofs (disch := first | omega | decide) only [seval, -Int.reducePow, -Nat.reducePow, cC, pv, binv, sFlAw1, undef, hg, g1])))
    all_goals (repeat' refine And.intro ?_ ?_)
    all_goals (first | with_reducible rfl | (refine congrArg Value.bool ?_; rw [Bool.eq_iff_iff]; (try simp only [decide_eq_true_eq, eq_self, true_and, and_true, false_and, and_false, true_or, or_true, false_or, or_false, not_true_eq_false, not_false_eq_true, true_iff, iff_true, false_iff, iff_false, Bool.false_eq_true, Bool.not_eq_true', Bool.not_eq_true, decide_eq_false_iff_not, Bool.and_eq_true, Bool.or_eq_true]) <;> omega) | (refine congrArg (Value.int _) ?_; omega) | omega)
  intro G2 L' _ hF
  obtain ⟨q1, q14, rfl⟩ := hF
  have g2_1 := q1.trans g1_1
  have g2_14 := q14
  clear q1 q14
  have g2 := And.intro g2_1 g2_14
  refine hK _ _ ?_
  clear hK K
  refine cv_cond ?_
  simp -implicitDefEqProofs (disch := first | omega | decide) only [seval, -Int.reducePow, -Nat.reducePow, cC, pv, binv, sFlAw1, undef, g2]
  refine ⟨fun hc => ?_, fun hc => ?_⟩
  · refine cv_seq_k fun K hK => ?_
    refine cv_region_then rfl ?_
    simp -implicitDefEqProofs (disch := first | omega | decide) only [seval, -Int.reducePow, -Nat.reducePow, cC, pv, binv, sFlAw1, undef, g2]
    refine hK _ _ ?_
    clear hK K
    refine cv_ret ⟨_, (by simp -implicitDefEqProofs (disch := first | omega | decide) only [seval, -Int.reducePow, -Nat.reducePow, cC, pv, binv, sFlAw1, undef, g2]; rfl), fun w hw => ?_⟩
    first | exact ⟨_, rfl, trivial, hw.below⟩ | exact ⟨_, rfl, hw.below⟩
  have q1 := of_decide_eq_false hc
  refine cv_skip ?_
  try simp only [blockQ, thenQ]
  refine hK _ _ ?_
  clear hK K
  refine cv_seq_k fun K hK => ?_
  refine cv_seq_k fun K hK => ?_
  refine cv_region_then rfl ?_
  simp -implicitDefEqProofs (disch := first | omega | decide) only [seval, -Int.reducePow, -Nat.reducePow, cC, pv, binv, sFlAw1, undef, g2]
  refine hK _ _ ?_
  clear hK K
  refine cv_gen fun G3 hG => ?_
  have g3_1 := congrFun hG 1
  have g3_17 := congrFun hG 17
  have g3_18 := congrFun hG 18
  clear hG
  try simp -implicitDefEqProofs (disch := first | omega | decide) only [seval, -Int.reducePow, -Nat.reducePow, cC, pv, binv, sFlAw1, undef, g2] at g3_1 g3_17 g3_18
  have g3 := And.intro g3_1 (And.intro g3_17 g3_18)
  refine cv_block ?_
  refine cv_loop (fun F' L' => ∃ (k : Nat), F' 1 = G3 1 ∧ F' 17 = G3 17 ∧ F' 18 = .int .i64 (k : Int) ∧ L' = [mBox b1 ⟨TA, tn, tc, ts, FA, fn, fc, gs⟩] ∧ k ≤ tn) (fun F' L' => 50 - (intOf (F' 18)).toNat) ?_ ?_
  · refine ⟨0, ?_⟩
    simp -implicitDefEqProofs (disch := first | omega | decide) only [seval, -Int.reducePow, -Nat.reducePow, cC, pv, binv, sFlAw1, undef, g3]
    omega
  intro G4 L' hI
  obtain ⟨k, q1, q17, q18, rfl, hk⟩ := hI
  have g4_1 := q1.trans g3_1
  have g4_17 := q17.trans g3_17
  have g4_18 := q18
  clear q1 q17 q18
  have g4 := And.intro g4_1 (And.intro g4_17 g4_18)
  refine cv_seq_k fun K hK => ?_
  refine cv_region_then rfl ?_
  simp -implicitDefEqProofs (disch := first | omega | decide) only [seval, -Int.reducePow, -Nat.reducePow, cC, pv, binv, sFlAw1, undef, g3, g4]
  refine hK _ _ ?_
  clear hK K
  refine cv_seq_k fun K hK => ?_
  refine cv_cond ?_
  simp -implicitDefEqProofs (disch := first | omega | decide) only [seval, -Int.reducePow, -Nat.reducePow, cC, pv, binv, sFlAw1, undef, g3, g4]
  refine ⟨fun hc => ?_, fun hc => ?_⟩
  · refine cv_skip ?_
    try simp only [blockQ, thenQ]
    have hlt2 : k < tn := by have := of_decide_eq_true ‹decide ((k : Int) < (tn : Int)) = true›; omega
    obtain ⟨b0, off, rfl, hb0, -⟩ := hE.cells (by omega)
    obtain ⟨x, hx⟩ := some_of (l := ts) (i := k) (by omega)
    refine hK _ _ ?_
    clear hK K
    refine cv_seq_k fun K hK => ?_
    refine cv_block ?_
    refine cv_seq_k fun K hK => ?_
    refine cv_region_then rfl ?_
    simp -implicitDefEqProofs (disch := first | omega | decide) only [seval, -Int.reducePow, -Nat.reducePow, cC, pv, binv, sFlAw1, undef, g3, g4]
    refine hK _ _ ?_
    clear hK K
    refine cv_seq_k fun K hK => ?_
    refine cv_region_then rfl ?_
    simp -implicitDefEqProofs (disch := first | omega | decide) only [seval, -Int.reducePow, -Nat.reducePow, cC, pv, binv, sFlAw1, undef, g3, g4]
    refine ⟨_, hE.tyf hx, fun tok htok => ?_⟩
    subst htok
    simp -implicitDefEqProofs (disch := first | omega | decide) only [seval, -Int.reducePow, -Nat.reducePow, cC, pv, binv, sFlAw1, undef, g3, g4]
    refine hK _ _ ?_
    clear hK K
    refine cv_cond ?_
    simp -implicitDefEqProofs (disch := first | omega | decide) only [seval, -Int.reducePow, -Nat.reducePow, cC, pv, binv, sFlAw1, undef, g3, g4]
    refine ⟨fun hc => ?_, fun hc => ?_⟩
    · refine cv_seq_k fun K hK => ?_
      refine cv_region_then rfl ?_
      simp -implicitDefEqProofs (disch := first | omega | decide) only [seval, -Int.reducePow, -Nat.reducePow, cC, pv, binv, sFlAw1, undef, g3, g4]
      refine hK _ _ ?_
      clear hK K
      refine cv_ret ⟨_, (by simp -implicitDefEqProofs (disch := first | omega | decide) only [seval, -Int.reducePow, -Nat.reducePow, cC, pv, binv, sFlAw1, undef, g3, g4]; rfl), fun w hw => ?_⟩
      first | exact ⟨_, rfl, trivial, hw.below⟩ | exact ⟨_, rfl, hw.below⟩
    refine cv_skip ?_
    try simp only [blockQ, thenQ]
    refine hK _ _ ?_
    clear hK K
    refine cv_region_then rfl ?_
    simp -implicitDefEqProofs (disch := first | omega | decide) only [seval, -Int.reducePow, -Nat.reducePow, cC, pv, binv, sFlAw1, undef, wrap_in, g3, g4]
    refine ⟨⟨k + 1, ?_⟩, ?_⟩
    · simp -implicitDefEqProofs (disch := first | omega | decide) only [seval, -Int.reducePow, -Nat.reducePow, cC, pv, binv, sFlAw1, undef, Int.natCast_add, g3, g4]
      repeat' (first | with_reducible exact trivial | with_reducible rfl | omega | refine And.intro ?_ ?_)
    · simp only [intOf]; omega
  refine cv_exit ?_
  simp only [blockQ, thenQ, if_true, ite_true]
  clear hK K
  refine hK _ _ ?_
  clear hK K
  refine cv_seq_k fun K hK => ?_
  refine cv_seq_k fun K hK => ?_
  refine cv_region_then rfl ?_
  simp -implicitDefEqProofs (disch := first | omega | decide) only [seval, -Int.reducePow, -Nat.reducePow, cC, pv, binv, sFlAw1, undef, g3, g4]
  refine hK _ _ ?_
  clear hK K
  refine cv_gen fun G5 hG => ?_
  have g5_1 := congrFun hG 1
  have g5_32 := congrFun hG 32
  have g5_33 := congrFun hG 33
  clear hG
  try simp -implicitDefEqProofs (disch := first | omega | decide) only [seval, -Int.reducePow, -Nat.reducePow, cC, pv, binv, sFlAw1, undef, g3, g4] at g5_1 g5_32 g5_33
  have g5 := And.intro g5_1 (And.intro g5_32 g5_33)
  refine cv_block ?_
  refine cv_loop (fun F' L' => ∃ (k : Nat), F' 1 = G5 1 ∧ F' 32 = G5 32 ∧ F' 33 = .int .i64 (k : Int) ∧ L' = [mBox b1 ⟨TA, tn, tc, ts, FA, fn, fc, gs⟩] ∧ k ≤ fn) (fun F' L' => 50 - (intOf (F' 33)).toNat) ?_ ?_
  · refine ⟨0, ?_⟩
    simp -implicitDefEqProofs (disch := first | omega | decide) only [seval, -Int.reducePow, -Nat.reducePow, cC, pv, binv, sFlAw1, undef, g3, g4, g5]
    omega
  intro G6 L' hI
  obtain ⟨k, q1, q32, q33, rfl, hk⟩ := hI
  have g6_1 := q1.trans g5_1
  have g6_32 := q32.trans g5_32
  have g6_33 := q33
  clear q1 q32 q33
  have g6 := And.intro g6_1 (And.intro g6_32 g6_33)
  refine cv_seq_k fun K hK => ?_
  refine cv_region_then rfl ?_
  simp -implicitDefEqProofs (disch := first | omega | decide) only [seval, -Int.reducePow, -Nat.reducePow, cC, pv, binv, sFlAw1, undef, g3, g4, g5, g6]
  refine hK _ _ ?_
  clear hK K
  refine cv_seq_k fun K hK => ?_
  refine cv_cond ?_
  simp -implicitDefEqProofs (disch := first | omega | decide) only [seval, -Int.reducePow, -Nat.reducePow, cC, pv, binv, sFlAw1, undef, g3, g4, g5, g6]
  refine ⟨fun hc => ?_, fun hc => ?_⟩
  · refine cv_skip ?_
    try simp only [blockQ, thenQ]
    have hlt2 : k < fn := by have := of_decide_eq_true ‹decide ((k : Int) < (fn : Int)) = true›; omega
    obtain ⟨b0, off, rfl, hb0, -⟩ := hG.cells (by omega)
    obtain ⟨x, hx⟩ := some_of (l := gs) (i := k) (by omega)
    refine hK _ _ ?_
    clear hK K
    refine cv_seq_k fun K hK => ?_
    refine cv_block ?_
    refine cv_seq_k fun K hK => ?_
    refine cv_region_then rfl ?_
    simp -implicitDefEqProofs (disch := first | omega | decide) only [seval, -Int.reducePow, -Nat.reducePow, cC, pv, binv, sFlAw1, undef, g3, g4, g5, g6]
    refine hK _ _ ?_
    clear hK K
    refine cv_seq_k fun K hK => ?_
    refine cv_region_then rfl ?_
    simp -implicitDefEqProofs (disch := first | omega | decide) only [seval, -Int.reducePow, -Nat.reducePow, cC, pv, binv, sFlAw1, undef, g3, g4, g5, g6]
    refine ⟨_, hG.fnf hx, fun tok htok => ?_⟩
    subst htok
    simp -implicitDefEqProofs (disch := first | omega | decide) only [seval, -Int.reducePow, -Nat.reducePow, cC, pv, binv, sFlAw1, undef, g3, g4, g5, g6]
    refine hK _ _ ?_
    clear hK K
    refine cv_cond ?_
    simp -implicitDefEqProofs (disch := first | omega | decide) only [seval, -Int.reducePow, -Nat.reducePow, cC, pv, binv, sFlAw1, undef, g3, g4, g5, g6]
    refine ⟨fun hc => ?_, fun hc => ?_⟩
    · refine cv_seq_k fun K hK => ?_
      refine cv_region_then rfl ?_
      simp -implicitDefEqProofs (disch := first | omega | decide) only [seval, -Int.reducePow, -Nat.reducePow, cC, pv, binv, sFlAw1, undef, g3, g4, g5, g6]
      refine hK _ _ ?_
      clear hK K
      refine cv_ret ⟨_, (by simp -implicitDefEqProofs (disch := first | omega | decide) only [seval, -Int.reducePow, -Nat.reducePow, cC, pv, binv, sFlAw1, undef, g3, g4, g5, g6]; rfl), fun w hw => ?_⟩
      first | exact ⟨_, rfl, trivial, hw.below⟩ | exact ⟨_, rfl, hw.below⟩
    refine cv_skip ?_
    try simp only [blockQ, thenQ]
    refine hK _ _ ?_
    clear hK K
    refine cv_region_then rfl ?_
    simp -implicitDefEqProofs (disch := first | omega | decide) only [seval, -Int.reducePow, -Nat.reducePow, cC, pv, binv, sFlAw1, undef, wrap_in, g3, g4, g5, g6]
    refine ⟨⟨k + 1, ?_⟩, ?_⟩
    · simp -implicitDefEqProofs (disch := first | omega | decide) only [seval, -Int.reducePow, -Nat.reducePow, cC, pv, binv, sFlAw1, undef, Int.natCast_add, g3, g4, g5, g6]
      repeat' (first | with_reducible exact trivial | with_reducible rfl | omega | refine And.intro ?_ ?_)
    · simp only [intOf]; omega
  refine cv_exit ?_
  simp only [blockQ, thenQ, if_true, ite_true]
  clear hK K
  refine hK _ _ ?_
  clear hK K
  refine cv_seq_k fun K hK => ?_
  refine cv_region_then rfl ?_
  simp -implicitDefEqProofs (disch := first | omega | decide) only [seval, -Int.reducePow, -Nat.reducePow, cC, pv, binv, sFlAw1, undef, g3, g4, g5, g6]
  refine hK _ _ ?_
  clear hK K
  refine cv_ret ⟨_, (by simp -implicitDefEqProofs (disch := first | omega | decide) only [seval, -Int.reducePow, -Nat.reducePow, cC, pv, binv, sFlAw1, undef, g3, g4, g5, g6]; rfl), fun w hw => ?_⟩
  first | exact ⟨_, rfl, trivial, hw.below⟩ | exact ⟨_, rfl, hw.below⟩
end Go.Proofs.Ythlhjljgpohgbaa
