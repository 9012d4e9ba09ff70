/- The reference's moves, static, about, Static. -/
import Derived.Test.YtlbmnioibiomfaaFlSt
namespace Go.Proofs.Ytlbmnioibiomfaa
open Go.RowKit Go.Shelf
set_option linter.unusedVariables false
set_option linter.unusedSimpArgs false
set_option maxRecDepth 100000
section
variable {W w : World} {L : List Res} {n c : Nat} {gs : List FnR}
theorem Sl.fnp {b off k : Nat} {x : FnR} (h : Sl W W.heap.size 4 (some ⟨b, off, none⟩) n c (cl fnc gs)) (hx : gs[k]? = some x) : LD Try.prog [] W L 3 ⟨b, off + k * 4, none⟩ (.int .i64 x.p) :=
  h.ld1 (m := 1) (i := k * 4) (by kernel_rfl) (cl_get (j := 0) fnc_len hx rfl)
theorem Sl.fnr {b off k : Nat} {x : FnR} (h : Sl W W.heap.size 4 (some ⟨b, off, none⟩) n c (cl fnc gs)) (hx : gs[k]? = some x) : LD Try.prog [] W L 3 ⟨b, off + k * 4 + 1, none⟩ (.int .i64 x.r) := by
  rw [Nat.add_assoc]
  exact h.ld1 (m := 1) (i := k * 4 + 1) (by kernel_rfl) (cl_get (j := 1) fnc_len hx rfl)
end
set_option maxRecDepth 100000 in
theorem sFlRSt1 : type_of% (And.intro (And.intro (And.intro @fBox.eq_1 (And.intro @tBox.eq_1 @iBox.eq_1)) (And.intro (And.intro @mBox.eq_1 @gBox.eq_1) (And.intro @flBox.eq_1 @fdV.eq_1))) (And.intro (And.intro @tyV.eq_1 (And.intro @insV.eq_1 @fnV.eq_1)) (And.intro (And.intro @modV.eq_1 @fltV.eq_1) (And.intro @fineF.eq_1 @Nat.mul_one)))) := (And.intro (And.intro (And.intro @fBox.eq_1 (And.intro @tBox.eq_1 @iBox.eq_1)) (And.intro (And.intro @mBox.eq_1 @gBox.eq_1) (And.intro @flBox.eq_1 @fdV.eq_1))) (And.intro (And.intro @tyV.eq_1 (And.intro @insV.eq_1 @fnV.eq_1)) (And.intro (And.intro @modV.eq_1 @fltV.eq_1) (And.intro @fineF.eq_1 @Nat.mul_one))))
set_option maxHeartbeats 1000000 in
theorem moves_any (m : ModR) (i : Ins) (W : World) (hM : Mod W W.heap.size m) (hi : i.op = 21 → i.arg < m.gs.length) (hh : i.op = 23 → i.arg ≤ 11) : Calls Try.prog 37 #[modV m, insV i] W fun e w' => e = .returned (.tuple #[.int .i64 (fxP m.gs i).1, .int .i64 (fxP m.gs i).2]) ∧ Below W.heap.size W w' := by
  have hlg := hM.glen
  have hG := hM.gs
  obtain ⟨TA, tn, tc, ts, FA, fn, fc, gs⟩ := m
  dsimp only at *
  refine calls_cv (M := []) (n := 48) [.tmp 4, .tmp 5] rfl Try.func37 rfl rfl (Nat.le_of_ble_eq_true rfl) (St.nil _ _) ?_
  refine cv_seq_k fun K hK => ?_
  refine cv_region_then rfl ?_
  simp -implicitDefEqProofs (disch := first | omega | decide) only [seval, -Int.reducePow, -Nat.reducePow, cC, pv, binv, sFlRSt1, undef]
  intro b1 hb1 b2 hb2 h2
  refine hK _ _ ?_
  clear hK K
  refine cv_seq_k fun K hK => ?_
  refine cv_seq_k fun K hK => ?_
  refine cv_region_then rfl ?_
  simp -implicitDefEqProofs (disch := first | omega | decide) only [seval, -Int.reducePow, -Nat.reducePow, cC, pv, binv, sFlRSt1, undef]
  refine hK _ _ ?_
  clear hK K
  refine cv_gen fun G1 hG => ?_
  have g1_2 := congrFun hG 2
  have g1_3 := congrFun hG 3
  have g1_12 := congrFun hG 12
  clear hG
  try simp -implicitDefEqProofs (disch := first | omega | decide) only [seval, -Int.reducePow, -Nat.reducePow, cC, pv, binv, sFlRSt1, undef] at g1_2 g1_3 g1_12
  have g1 := And.intro g1_2 (And.intro g1_3 g1_12)
  refine cv_block ?_
  refine cv_seq_k fun K hK => ?_
  refine cv_region_then rfl ?_
  simp -implicitDefEqProofs (disch := first | omega | decide) only [seval, -Int.reducePow, -Nat.reducePow, cC, pv, binv, sFlRSt1, undef, g1]
  refine hK _ _ ?_
  clear hK K
  refine cv_cond ?_
  simp -implicitDefEqProofs (disch := first | omega | decide) only [seval, -Int.reducePow, -Nat.reducePow, cC, pv, binv, sFlRSt1, undef, g1]
  refine ⟨fun hc => ?_, fun hc => ?_⟩
  · have q1 := of_decide_eq_true ‹_›
    have hlt : i.arg < fn := by have := hi q1; omega
    obtain ⟨b0, off, rfl, hb0, -⟩ := hG.cells (by omega)
    obtain ⟨x, hx⟩ := some_of (l := gs) (i := i.arg) (by omega)
    refine cv_seq_k fun K hK => ?_
    refine cv_draw [(true, 0), (true, 1), (true, 2), (true, 3), (true, 4), (true, 5), (true, 6), (true, 7), (true, 8), (true, 9), (true, 10), (true, 11), (true, 12), (true, 13), (true, 14), (true, 15)] [] mixA rfl (by kernel_rfl) (by kernel_rfl) rfl rfl ?_
    simp -implicitDefEqProofs (disch := first | omega | decide) only [seval, -Int.reducePow, -Nat.reducePow, cC, pv, binv, sFlRSt1, undef, g1]
    refine ⟨_, hG.fnp hx, fun tok htok => ?_⟩
    subst htok
    simp -implicitDefEqProofs (disch := first | omega | decide) only [seval, -Int.reducePow, -Nat.reducePow, cC, pv, binv, sFlRSt1, undef, g1]
    refine ⟨_, hG.fnr hx, fun tok htok => ?_⟩
    subst htok
    simp -implicitDefEqProofs (disch := first | omega | decide) only [seval, -Int.reducePow, -Nat.reducePow, cC, pv, binv, sFlRSt1, undef, g1]
    refine hK _ _ ?_
    clear hK K
    refine cv_ret ⟨_, (by simp -implicitDefEqProofs (disch := first | omega | decide) only [seval, -Int.reducePow, -Nat.reducePow, cC, pv, binv, sFlRSt1, undef, g1]; rfl), fun w hw => ?_⟩
    exact ⟨by unfold fxP; rw [if_pos q1, hx] <;> rfl, hw.below⟩
  have q1 := of_decide_eq_false ‹_›
  refine cv_seq_k fun K hK => ?_
  refine cv_region_then rfl ?_
  simp -implicitDefEqProofs (disch := first | omega | decide) only [seval, -Int.reducePow, -Nat.reducePow, cC, pv, binv, sFlRSt1, undef, g1]
  refine hK _ _ ?_
  clear hK K
  refine cv_cond ?_
  simp -implicitDefEqProofs (disch := first | omega | decide) only [seval, -Int.reducePow, -Nat.reducePow, cC, pv, binv, sFlRSt1, undef, g1]
  refine ⟨fun hc => ?_, fun hc => ?_⟩
  · have q2 := of_decide_eq_true ‹_›
    have := hh q2
    refine cv_seq_k fun K hK => ?_
    refine cv_region_then rfl ?_
    simp -implicitDefEqProofs (disch := first | omega | decide) only [seval, -Int.reducePow, -Nat.reducePow, cC, pv, binv, sFlRSt1, undef, wrap_in, g1]
    refine callV_ret (fun w hw => r_arity_any i.arg w) ?_
    try simp -implicitDefEqProofs (disch := first | omega | decide) only [seval, -Int.reducePow, -Nat.reducePow, cC, pv, binv, sFlRSt1, undef, g1]
    refine hK _ _ ?_
    clear hK K
    refine cv_seq_k fun K hK => ?_
    refine cv_region_then rfl ?_
    simp -implicitDefEqProofs (disch := first | omega | decide) only [seval, -Int.reducePow, -Nat.reducePow, cC, pv, binv, sFlRSt1, undef, g1]
    refine hK _ _ ?_
    clear hK K
    refine cv_ret ⟨_, (by simp -implicitDefEqProofs (disch := first | omega | decide) only [seval, -Int.reducePow, -Nat.reducePow, cC, pv, binv, sFlRSt1, undef, g1]; rfl), fun w hw => ?_⟩
    exact ⟨by unfold fxP; rw [if_neg q1, if_pos q2] <;> rfl, hw.below⟩
  have q2 := of_decide_eq_false ‹_›
  refine cv_skip ?_
  try simp only [blockQ, thenQ]
  refine hK _ _ ?_
  clear hK K
  refine cv_seq_k fun K hK => ?_
  refine cv_region_then rfl ?_
  simp -implicitDefEqProofs (disch := first | omega | decide) only [seval, -Int.reducePow, -Nat.reducePow, cC, pv, binv, sFlRSt1, undef, g1]
  refine callV_ret (fun w hw => r_effect_any i.op w) ?_
  try simp -implicitDefEqProofs (disch := first | omega | decide) only [seval, -Int.reducePow, -Nat.reducePow, cC, pv, binv, sFlRSt1, undef, g1]
  refine hK _ _ ?_
  clear hK K
  refine cv_seq_k fun K hK => ?_
  refine cv_region_then rfl ?_
  simp -implicitDefEqProofs (disch := first | omega | decide) only [seval, -Int.reducePow, -Nat.reducePow, cC, pv, binv, sFlRSt1, undef, g1]
  refine hK _ _ ?_
  clear hK K
  refine cv_ret ⟨_, (by simp -implicitDefEqProofs (disch := first | omega | decide) only [seval, -Int.reducePow, -Nat.reducePow, cC, pv, binv, sFlRSt1, undef, g1]; rfl), fun w hw => ?_⟩
  exact ⟨by unfold fxP; rw [if_neg q1, if_neg q2] <;> rfl, hw.below⟩
set_option maxHeartbeats 2000000 in
theorem rstatic_any (m : ModR) (f : Nat) (x : FnR) (k : Nat) (i : Ins) (W : World) (hM : Mod W W.heap.size m) (hf : m.gs[f]? = some x) (hi : x.code[k]? = some i)
    (hp : 0 ≤ x.p) (hl : 0 ≤ x.l) (hpl : x.p + x.l ≤ 64) (h32 : m.gs.length ≤ 32) (h1024 : x.code.length ≤ 1024) :
    Calls Try.prog 63 #[modV m, .int .i64 (f : Int), .int .i64 (k : Int)] W fun e w' => e = .returned (.int .i64 (stE m.gs.length x k i)) ∧ Below W.heap.size W w' := by
  have hlg := hM.glen
  have hG := hM.gs
  have hX := hM.fn x (List.mem_of_getElem? hf)
  have hxl : x.code.length = x.n := cl_row insc_len (by omega) hX.len
  have hk : k < x.n := by have := (List.getElem?_eq_some_iff.1 hi).1; omega
  obtain ⟨TA, tn, tc, ts, FA, fn, fc, gs⟩ := m
  obtain ⟨xp, xr, xl, xA, xn, xc, code⟩ := x
  dsimp only at *
  have hfk : f < fn := by have := (List.getElem?_eq_some_iff.1 hf).1; omega
  obtain ⟨b0, off, rfl, hb0, -⟩ := hX.cells (by omega)
  obtain ⟨b9, of9, rfl, hb9, -⟩ := hG.cells (by omega)
  refine calls_cv (M := []) (n := 92) [.tmp 6] rfl Try.func63 rfl rfl (Nat.le_of_ble_eq_true rfl) (St.nil _ _) ?_
  refine cv_seq_k fun K hK => ?_
  refine cv_region_then rfl ?_
  simp -implicitDefEqProofs (disch := first | omega | decide) only [seval, -Int.reducePow, -Nat.reducePow, cC, pv, binv, sFlRSt1, undef]
  intro b1 hb1
  refine hK _ _ ?_
  clear hK K
  refine cv_seq_k fun K hK => ?_
  refine cv_region_then rfl ?_
  simp -implicitDefEqProofs (disch := first | omega | decide) only [seval, -Int.reducePow, -Nat.reducePow, cC, pv, binv, sFlRSt1, undef]
  refine ⟨_, hG.fnl hf, fun tok htok => ?_⟩
  subst htok
  simp -implicitDefEqProofs (disch := first | omega | decide) only [seval, -Int.reducePow, -Nat.reducePow, cC, pv, binv, sFlRSt1, undef]
  intro b2 hb2 h2
  refine hK _ _ ?_
  clear hK K
  refine cv_seq_k fun K hK => ?_
  refine cv_region_then rfl ?_
  simp -implicitDefEqProofs (disch := first | omega | decide) only [seval, -Int.reducePow, -Nat.reducePow, cC, pv, binv, sFlRSt1, undef]
  refine ⟨_, hX.ins hi, fun tok htok => ?_⟩
  subst htok
  simp -implicitDefEqProofs (disch := first | omega | decide) only [seval, -Int.reducePow, -Nat.reducePow, cC, pv, binv, sFlRSt1, undef]
  intro b7 hb7 h7
  refine hK _ _ ?_
  clear hK K
  refine cv_gen fun G2 hG => ?_
  have g2_2 := congrFun hG 2
  have g2_3 := congrFun hG 3
  have g2_7 := congrFun hG 7
  have g2_8 := congrFun hG 8
  clear hG
  try simp -implicitDefEqProofs (disch := first | omega | decide) only [seval, -Int.reducePow, -Nat.reducePow, cC, pv, binv, sFlRSt1, undef] at g2_2 g2_3 g2_7 g2_8
  have g2 := And.intro g2_2 (And.intro g2_3 (And.intro g2_7 g2_8))
  refine cv_seq_k fun K hK => ?_
  refine cv_seq_k fun K hK => ?_
  refine cv_cut (fun _ _ => True) (fun F' L' => F' 2 = G2 2 ∧ F' 3 = G2 3 ∧ F' 7 = G2 7 ∧ F' 8 = G2 8 ∧ F' 35 = .bool (decide ((i.op = 19 ∨ i.op = 20) ∧ code.length ≤ i.arg)) ∧ L' = [iBox b7 i, gBox b2 ⟨xp, xr, xl, some ⟨b0, off, none⟩, xn, xc, code⟩, mBox b1 ⟨TA, tn, tc, ts, some ⟨b9, of9, none⟩, fn, fc, gs⟩]) ?_ ?_
  · refine cv_region_then rfl ?_
    simp -implicitDefEqProofs (disch := first | omega | decide) only [seval, -Int.reducePow, -Nat.reducePow, cC, pv, binv, sFlRSt1, undef, g2]
    repeat' ((first | refine vcg_cases (fun hg => ?_) (fun hg => ?_) | refine vdg_cases (fun hg => ?_) (fun hg => ?_)) <;> ((try simp only [Bool.not_eq_true', Bool.not_eq_false', decide_eq_true_eq, decide_eq_false_iff_not] at hg); (try simp -implicitDefEqProofs (disch := first | omega | decide) only [seval, -Int.reducePow, -Nat.reducePow, cC, pv, binv, sFlRSt1, undef, hg, wrap_in, wrapu, g2])))
    all_goals (repeat' refine And.intro ?_ ?_)
    all_goals (first | with_reducible rfl | (refine congrArg Value.bool ?_; rw [Bool.eq_iff_iff]; (try simp only [decide_eq_true_eq, eq_self, true_and, and_true, false_and, and_false, true_or, or_true, false_or, or_false, not_true_eq_false, not_false_eq_true, true_iff, iff_true, false_iff, iff_false, Bool.false_eq_true, Bool.not_eq_true', Bool.not_eq_true, decide_eq_false_iff_not, Bool.and_eq_true, Bool.or_eq_true]) <;> omega) | (refine congrArg (Value.int _) ?_; omega) | omega)
  intro G3 L' _ hF
  obtain ⟨q2, q3, q7, q8, q35, rfl⟩ := hF
  have g3_2 := q2.trans g2_2
  have g3_3 := q3.trans g2_3
  have g3_7 := q7.trans g2_7
  have g3_8 := q8.trans g2_8
  have g3_35 := q35
  clear q2 q3 q7 q8 q35
  have g3 := And.intro g3_2 (And.intro g3_3 (And.intro g3_7 (And.intro g3_8 g3_35)))
  refine hK _ _ ?_
  clear hK K
  refine cv_cond ?_
  simp -implicitDefEqProofs (disch := first | omega | decide) only [seval, -Int.reducePow, -Nat.reducePow, cC, pv, binv, sFlRSt1, undef, g3]
  refine ⟨fun hc => ?_, fun hc => ?_⟩
  · have q1 := of_decide_eq_true ‹_›
    refine cv_seq_k fun K hK => ?_
    refine cv_region_then rfl ?_
    simp -implicitDefEqProofs (disch := first | omega | decide) only [seval, -Int.reducePow, -Nat.reducePow, cC, pv, binv, sFlRSt1, undef, g3]
    refine hK _ _ ?_
    clear hK K
    refine cv_ret ⟨_, (by simp -implicitDefEqProofs (disch := first | omega | decide) only [seval, -Int.reducePow, -Nat.reducePow, cC, pv, binv, sFlRSt1, undef, g3]; rfl), fun w hw => ?_⟩
    exact ⟨by unfold stE; rw [if_pos q1], hw.below⟩
  have q1 := of_decide_eq_false ‹_›
  refine cv_skip ?_
  try simp only [blockQ, thenQ]
  refine hK _ _ ?_
  clear hK K
  refine cv_seq_k fun K hK => ?_
  refine cv_seq_k fun K hK => ?_
  refine cv_cut (fun _ _ => True) (fun F' L' => F' 2 = G3 2 ∧ F' 3 = G3 3 ∧ F' 7 = G3 7 ∧ F' 8 = G3 8 ∧ F' 54 = .bool (decide ((i.op = 2 ∨ i.op = 3) ∧ xp + xl ≤ (i.arg : Int))) ∧ L' = [iBox b7 i, gBox b2 ⟨xp, xr, xl, some ⟨b0, off, none⟩, xn, xc, code⟩, mBox b1 ⟨TA, tn, tc, ts, some ⟨b9, of9, none⟩, fn, fc, gs⟩]) ?_ ?_
  · refine cv_region_then rfl ?_
    simp -implicitDefEqProofs (disch := first | omega | decide) only [seval, -Int.reducePow, -Nat.reducePow, cC, pv, binv, sFlRSt1, undef, g3]
    repeat' ((first | refine vcg_cases (fun hg => ?_) (fun hg => ?_) | refine vdg_cases (fun hg => ?_) (fun hg => ?_)) <;> ((try simp only [Bool.not_eq_true', Bool.not_eq_false', decide_eq_true_eq, decide_eq_false_iff_not] at hg); (try simp -implicitDefEqProofs (disch := first | omega | decide) only [seval, -Int.reducePow, -Nat.reducePow, cC, pv, binv, sFlRSt1, undef, hg, wrap_in, wrapu, g3])))
    all_goals (repeat' refine And.intro ?_ ?_)
    all_goals (first | with_reducible rfl | (refine congrArg Value.bool ?_; rw [Bool.eq_iff_iff]; (try simp only [decide_eq_true_eq, eq_self, true_and, and_true, false_and, and_false, true_or, or_true, false_or, or_false, not_true_eq_false, not_false_eq_true, true_iff, iff_true, false_iff, iff_false, Bool.false_eq_true, Bool.not_eq_true', Bool.not_eq_true, decide_eq_false_iff_not, Bool.and_eq_true, Bool.or_eq_true]) <;> omega) | (refine congrArg (Value.int _) ?_; omega) | omega)
  intro G4 L' _ hF
  obtain ⟨q2, q3, q7, q8, q54, rfl⟩ := hF
  have g4_2 := q2.trans g3_2
  have g4_3 := q3.trans g3_3
  have g4_7 := q7.trans g3_7
  have g4_8 := q8.trans g3_8
  have g4_54 := q54
  clear q2 q3 q7 q8 q54
  have g4 := And.intro g4_2 (And.intro g4_3 (And.intro g4_7 (And.intro g4_8 g4_54)))
  refine hK _ _ ?_
  clear hK K
  refine cv_cond ?_
  simp -implicitDefEqProofs (disch := first | omega | decide) only [seval, -Int.reducePow, -Nat.reducePow, cC, pv, binv, sFlRSt1, undef, g4]
  refine ⟨fun hc => ?_, fun hc => ?_⟩
  · have q2 := of_decide_eq_true ‹_›
    refine cv_seq_k fun K hK => ?_
    refine cv_region_then rfl ?_
    simp -implicitDefEqProofs (disch := first | omega | decide) only [seval, -Int.reducePow, -Nat.reducePow, cC, pv, binv, sFlRSt1, undef, g4]
    refine hK _ _ ?_
    clear hK K
    refine cv_ret ⟨_, (by simp -implicitDefEqProofs (disch := first | omega | decide) only [seval, -Int.reducePow, -Nat.reducePow, cC, pv, binv, sFlRSt1, undef, g4]; rfl), fun w hw => ?_⟩
    exact ⟨by unfold stE; rw [if_neg q1, if_pos q2], hw.below⟩
  have q2 := of_decide_eq_false ‹_›
  refine cv_skip ?_
  try simp only [blockQ, thenQ]
  refine hK _ _ ?_
  clear hK K
  refine cv_seq_k fun K hK => ?_
  refine cv_seq_k fun K hK => ?_
  refine cv_cut (fun _ _ => True) (fun F' L' => F' 2 = G4 2 ∧ F' 7 = G4 7 ∧ F' 8 = G4 8 ∧ F' 66 = .bool (decide (i.op = 21 ∧ gs.length ≤ i.arg)) ∧ L' = [iBox b7 i, gBox b2 ⟨xp, xr, xl, some ⟨b0, off, none⟩, xn, xc, code⟩, mBox b1 ⟨TA, tn, tc, ts, some ⟨b9, of9, none⟩, fn, fc, gs⟩]) ?_ ?_
  · refine cv_region_then rfl ?_
    simp -implicitDefEqProofs (disch := first | omega | decide) only [seval, -Int.reducePow, -Nat.reducePow, cC, pv, binv, sFlRSt1, undef, g4]
    repeat' ((first | refine vcg_cases (fun hg => ?_) (fun hg => ?_) | refine vdg_cases (fun hg => ?_) (fun hg => ?_)) <;> ((try simp only [Bool.not_eq_true', Bool.not_eq_false', decide_eq_true_eq, decide_eq_false_iff_not] at hg); (try simp -implicitDefEqProofs (disch := first | omega | decide) only [seval, -Int.reducePow, -Nat.reducePow, cC, pv, binv, sFlRSt1, undef, hg, wrap_in, wrapu, g4])))
    all_goals (repeat' refine And.intro ?_ ?_)
    all_goals (first | with_reducible rfl | (refine congrArg Value.bool ?_; rw [Bool.eq_iff_iff]; (try simp only [decide_eq_true_eq, eq_self, true_and, and_true, false_and, and_false, true_or, or_true, false_or, or_false, not_true_eq_false, not_false_eq_true, true_iff, iff_true, false_iff, iff_false, Bool.false_eq_true, Bool.not_eq_true', Bool.not_eq_true, decide_eq_false_iff_not, Bool.and_eq_true, Bool.or_eq_true]) <;> omega) | (refine congrArg (Value.int _) ?_; omega) | omega)
  intro G5 L' _ hF
  obtain ⟨q2, q7, q8, q66, rfl⟩ := hF
  have g5_2 := q2.trans g4_2
  have g5_7 := q7.trans g4_7
  have g5_8 := q8.trans g4_8
  have g5_66 := q66
  clear q2 q7 q8 q66
  have g5 := And.intro g5_2 (And.intro g5_7 (And.intro g5_8 g5_66))
  refine hK _ _ ?_
  clear hK K
  refine cv_cond ?_
  simp -implicitDefEqProofs (disch := first | omega | decide) only [seval, -Int.reducePow, -Nat.reducePow, cC, pv, binv, sFlRSt1, undef, g5]
  refine ⟨fun hc => ?_, fun hc => ?_⟩
  · have q3 := of_decide_eq_true ‹_›
    refine cv_seq_k fun K hK => ?_
    refine cv_region_then rfl ?_
    simp -implicitDefEqProofs (disch := first | omega | decide) only [seval, -Int.reducePow, -Nat.reducePow, cC, pv, binv, sFlRSt1, undef, g5]
    refine hK _ _ ?_
    clear hK K
    refine cv_ret ⟨_, (by simp -implicitDefEqProofs (disch := first | omega | decide) only [seval, -Int.reducePow, -Nat.reducePow, cC, pv, binv, sFlRSt1, undef, g5]; rfl), fun w hw => ?_⟩
    exact ⟨by unfold stE; rw [if_neg q1, if_neg q2, if_pos q3], hw.below⟩
  have q3 := of_decide_eq_false ‹_›
  refine cv_skip ?_
  try simp only [blockQ, thenQ]
  refine hK _ _ ?_
  clear hK K
  refine cv_seq_k fun K hK => ?_
  refine cv_seq_k fun K hK => ?_
  refine cv_cut (fun _ _ => True) (fun F' L' => F' 2 = G5 2 ∧ F' 7 = G5 7 ∧ F' 8 = G5 8 ∧ F' 79 = .bool (decide (i.op = 23 ∧ ¬ hostP i.arg)) ∧ L' = [iBox b7 i, gBox b2 ⟨xp, xr, xl, some ⟨b0, off, none⟩, xn, xc, code⟩, mBox b1 ⟨TA, tn, tc, ts, some ⟨b9, of9, none⟩, fn, fc, gs⟩]) ?_ ?_
  · refine cv_region_then rfl ?_
    simp -implicitDefEqProofs (disch := first | omega | decide) only [seval, -Int.reducePow, -Nat.reducePow, cC, pv, binv, sFlRSt1, undef, g5]
    repeat' ((first | refine vcg_cases (fun hg => ?_) (fun hg => ?_) | refine vdg_cases (fun hg => ?_) (fun hg => ?_)) <;> ((try simp only [Bool.not_eq_true', Bool.not_eq_false', decide_eq_true_eq, decide_eq_false_iff_not] at hg); (try simp -implicitDefEqProofs (disch := first | omega | decide) only [seval, -Int.reducePow, -Nat.reducePow, cC, pv, binv, sFlRSt1, undef, hg, g5])))
    all_goals (repeat' refine And.intro ?_ ?_)
    all_goals (first | with_reducible rfl | (refine congrArg Value.bool ?_; rw [Bool.eq_iff_iff]; (try simp only [hostP, decide_eq_true_eq, eq_self, true_and, and_true, false_and, and_false, true_or, or_true, false_or, or_false, not_true_eq_false, not_false_eq_true, true_iff, iff_true, false_iff, iff_false, Bool.false_eq_true, Bool.not_eq_true', Bool.not_eq_true, decide_eq_false_iff_not, Bool.and_eq_true, Bool.or_eq_true]) <;> omega) | (refine congrArg (Value.int _) ?_; omega) | omega)
  intro G6 L' _ hF
  obtain ⟨q2, q7, q8, q79, rfl⟩ := hF
  have g6_2 := q2.trans g5_2
  have g6_7 := q7.trans g5_7
  have g6_8 := q8.trans g5_8
  have g6_79 := q79
  clear q2 q7 q8 q79
  have g6 := And.intro g6_2 (And.intro g6_7 (And.intro g6_8 g6_79))
  refine hK _ _ ?_
  clear hK K
  refine cv_cond ?_
  simp -implicitDefEqProofs (disch := first | omega | decide) only [seval, -Int.reducePow, -Nat.reducePow, cC, pv, binv, sFlRSt1, undef, g6]
  refine ⟨fun hc => ?_, fun hc => ?_⟩
  · have q4 := of_decide_eq_true ‹_›
    refine cv_seq_k fun K hK => ?_
    refine cv_region_then rfl ?_
    simp -implicitDefEqProofs (disch := first | omega | decide) only [seval, -Int.reducePow, -Nat.reducePow, cC, pv, binv, sFlRSt1, undef, g6]
    refine hK _ _ ?_
    clear hK K
    refine cv_ret ⟨_, (by simp -implicitDefEqProofs (disch := first | omega | decide) only [seval, -Int.reducePow, -Nat.reducePow, cC, pv, binv, sFlRSt1, undef, g6]; rfl), fun w hw => ?_⟩
    exact ⟨by unfold stE; rw [if_neg q1, if_neg q2, if_neg q3, if_pos q4], hw.below⟩
  have q4 := of_decide_eq_false ‹_›
  refine cv_skip ?_
  try simp only [blockQ, thenQ]
  refine hK _ _ ?_
  clear hK K
  refine cv_seq_k fun K hK => ?_
  refine cv_seq_k fun K hK => ?_
  refine cv_cut (fun _ _ => True) (fun F' L' => F' 91 = .bool (decide (k + 1 = code.length ∧ ¬ endsP i.op)) ∧ L' = [iBox b7 i, gBox b2 ⟨xp, xr, xl, some ⟨b0, off, none⟩, xn, xc, code⟩, mBox b1 ⟨TA, tn, tc, ts, some ⟨b9, of9, none⟩, fn, fc, gs⟩]) ?_ ?_
  · by_cases ha : (k : Int) = (xn : Int) - 1
    · have ha' : decide ((k : Int) = (xn : Int) - 1) = true := decide_eq_true ha
      refine cv_region_then rfl ?_
      simp -implicitDefEqProofs (disch := first | omega | decide) only [seval, -Int.reducePow, -Nat.reducePow, cC, pv, binv, sFlRSt1, undef, ha', wrap_in, g6]
      refine callV_ret (fun w hw => r_ends_any i.op w) ?_
      try simp -implicitDefEqProofs (disch := first | omega | decide) only [seval, -Int.reducePow, -Nat.reducePow, cC, pv, binv, sFlRSt1, undef, ha', g6]
      all_goals (repeat' refine And.intro ?_ ?_)
      all_goals (first | with_reducible rfl | (refine congrArg Value.bool ?_; rw [Bool.eq_iff_iff]; (try simp only [endsP, decide_eq_true_eq, eq_self, true_and, and_true, false_and, and_false, true_or, or_true, false_or, or_false, not_true_eq_false, not_false_eq_true, true_iff, iff_true, false_iff, iff_false, Bool.false_eq_true, Bool.not_eq_true', Bool.not_eq_true, decide_eq_false_iff_not, Bool.and_eq_true, Bool.or_eq_true]) <;> omega) | (refine congrArg (Value.int _) ?_; omega) | omega)
    · have ha' : decide ((k : Int) = (xn : Int) - 1) = false := decide_eq_false ha
      refine cv_region_then rfl ?_
      simp -implicitDefEqProofs (disch := first | omega | decide) only [seval, -Int.reducePow, -Nat.reducePow, cC, pv, binv, sFlRSt1, undef, ha', wrap_in, g6]
      all_goals (repeat' refine And.intro ?_ ?_)
      all_goals (first | with_reducible rfl | (refine congrArg Value.bool ?_; rw [Bool.eq_iff_iff]; (try simp only [decide_eq_true_eq, eq_self, true_and, and_true, false_and, and_false, true_or, or_true, false_or, or_false, not_true_eq_false, not_false_eq_true, true_iff, iff_true, false_iff, iff_false, Bool.false_eq_true, Bool.not_eq_true', Bool.not_eq_true, decide_eq_false_iff_not, Bool.and_eq_true, Bool.or_eq_true]) <;> omega) | (refine congrArg (Value.int _) ?_; omega) | omega)
  intro G7 L' _ hF
  obtain ⟨q91, rfl⟩ := hF
  have g7_91 := q91
  clear q91
  have g7 := g7_91
  refine hK _ _ ?_
  clear hK K
  refine cv_cond ?_
  simp -implicitDefEqProofs (disch := first | omega | decide) only [seval, -Int.reducePow, -Nat.reducePow, cC, pv, binv, sFlRSt1, undef, g7]
  refine ⟨fun hc => ?_, fun hc => ?_⟩
  · have q5 := of_decide_eq_true ‹_›
    refine cv_seq_k fun K hK => ?_
    refine cv_region_then rfl ?_
    simp -implicitDefEqProofs (disch := first | omega | decide) only [seval, -Int.reducePow, -Nat.reducePow, cC, pv, binv, sFlRSt1, undef, g7]
    refine hK _ _ ?_
    clear hK K
    refine cv_ret ⟨_, (by simp -implicitDefEqProofs (disch := first | omega | decide) only [seval, -Int.reducePow, -Nat.reducePow, cC, pv, binv, sFlRSt1, undef, g7]; rfl), fun w hw => ?_⟩
    exact ⟨by unfold stE; rw [if_neg q1, if_neg q2, if_neg q3, if_neg q4, if_pos q5], hw.below⟩
  have q5 := of_decide_eq_false ‹_›
  refine cv_skip ?_
  try simp only [blockQ, thenQ]
  refine hK _ _ ?_
  clear hK K
  refine cv_seq_k fun K hK => ?_
  refine cv_region_then rfl ?_
  simp -implicitDefEqProofs (disch := first | omega | decide) only [seval, -Int.reducePow, -Nat.reducePow, cC, pv, binv, sFlRSt1, undef, g7]
  refine hK _ _ ?_
  clear hK K
  refine cv_ret ⟨_, (by simp -implicitDefEqProofs (disch := first | omega | decide) only [seval, -Int.reducePow, -Nat.reducePow, cC, pv, binv, sFlRSt1, undef, g7]; rfl), fun w hw => ?_⟩
  exact ⟨by unfold stE; rw [if_neg q1, if_neg q2, if_neg q3, if_neg q4, if_neg q5], hw.below⟩
theorem about_any (m : ModR) (f : Int) (W : World) (hM : Mod W W.heap.size m) : Calls Try.prog 62 #[modV m, .int .i64 f] W fun e w' =>
    e = .returned (fltV (if (chkM m).1 = 0 then (if (fnAt m f).isSome then fineF else (26, -1, -1)) else chkM m)) ∧ Below W.heap.size W w' := by
  have hlg := hM.glen
  have hMat := fun {L : List Res} {w : World} (hw : St [] W L w) => hM.at hw
  obtain ⟨q, hq⟩ : ∃ q, chkM m = q := ⟨_, rfl⟩
  obtain ⟨TA, tn, tc, ts, FA, fn, fc, gs⟩ := m
  rw [hq]
  dsimp only at *
  refine calls_cv2 (M := []) (n := 23) [.cell 4 36] rfl Try.func62 rfl rfl (Nat.le_of_ble_eq_true rfl) (St.nil _ _) ?_
  refine cv_seq_k fun K hK => ?_
  refine cv_region_then rfl ?_
  simp -implicitDefEqProofs (disch := first | omega | decide) only [seval, -Int.reducePow, -Nat.reducePow, cC, pv, binv, sFlRSt1, undef]
  intro b1 hb1 b4 hb4 h4
  refine hK _ _ ?_
  clear hK K
  refine cv_seq_k fun K hK => ?_
  refine cv_region_then rfl ?_
  simp -implicitDefEqProofs (disch := first | omega | decide) only [seval, -Int.reducePow, -Nat.reducePow, cC, pv, binv, sFlRSt1, undef]
  refine callV_ret (fun w hw => rmcheck_any ⟨TA, tn, tc, ts, FA, fn, fc, gs⟩ w (hMat hw)) ?_
  try simp -implicitDefEqProofs (disch := first | omega | decide) only [seval, -Int.reducePow, -Nat.reducePow, cC, pv, binv, sFlRSt1, undef, hq]
  intro b6 hb6 h6
  refine hK _ _ ?_
  clear hK K
  refine cv_gen fun G8 hG => ?_
  have g8_1 := congrFun hG 1
  have g8_2 := congrFun hG 2
  have g8_4 := congrFun hG 4
  have g8_5 := congrFun hG 5
  clear hG
  try simp -implicitDefEqProofs (disch := first | omega | decide) only [seval, -Int.reducePow, -Nat.reducePow, cC, pv, binv, sFlRSt1, undef] at g8_1 g8_2 g8_4 g8_5
  have g8 := And.intro g8_1 (And.intro g8_2 (And.intro g8_4 g8_5))
  refine cv_seq_k fun K hK => ?_
  refine cv_seq_k fun K hK => ?_
  refine cv_region_then rfl ?_
  simp -implicitDefEqProofs (disch := first | omega | decide) only [seval, -Int.reducePow, -Nat.reducePow, cC, pv, binv, sFlRSt1, undef, g8]
  refine hK _ _ ?_
  clear hK K
  refine cv_cond ?_
  simp -implicitDefEqProofs (disch := first | omega | decide) only [seval, -Int.reducePow, -Nat.reducePow, cC, pv, binv, sFlRSt1, undef, g8]
  refine ⟨fun hc => ?_, fun hc => ?_⟩
  · have hz : ¬ q.1 = 0 := nd_true ‹(!decide (q.1 = 0)) = true›
    refine cv_seq_k fun K hK => ?_
    refine cv_region_then rfl ?_
    simp -implicitDefEqProofs (disch := first | omega | decide) only [seval, -Int.reducePow, -Nat.reducePow, cC, pv, binv, sFlRSt1, undef, g8]
    refine hK _ _ ?_
    clear hK K
    refine cv_ret ?_
    simp -implicitDefEqProofs (disch := first | omega | decide) only [seval, -Int.reducePow, -Nat.reducePow, cC, pv, binv, sFlRSt1, undef, retQ2, ressV, packV, g8]
    intro w hw
    exact ⟨by rw [if_neg hz] <;> rfl, hw.below⟩
  have hz : q.1 = 0 := Decidable.not_not.1 (nd_false ‹(!decide (q.1 = 0)) = false›)
  refine cv_skip ?_
  try simp only [blockQ, thenQ]
  refine hK _ _ ?_
  clear hK K
  refine cv_seq_k fun K hK => ?_
  refine cv_seq_k fun K hK => ?_
  refine cv_cut (fun _ _ => True) (fun F' L' => F' 4 = G8 4 ∧ F' 20 = .bool (decide (f < 0 ∨ (fn : Int) ≤ f)) ∧ L' = [flBox b6 q.1 q.2.1 q.2.2, flBox b4 0 0 0, mBox b1 ⟨TA, tn, tc, ts, FA, fn, fc, gs⟩]) ?_ ?_
  · refine cv_region_then rfl ?_
    simp -implicitDefEqProofs (disch := first | omega | decide) only [seval, -Int.reducePow, -Nat.reducePow, cC, pv, binv, sFlRSt1, undef, g8]
    repeat' ((first | refine vcg_cases (fun hg => ?_) (fun hg => ?_) | refine vdg_cases (fun hg => ?_) (fun hg => ?_)) <;> ((try simp only [Bool.not_eq_true', Bool.not_eq_false', decide_eq_true_eq, decide_eq_false_iff_not] at hg); (try simp -implicitDefEqProofs (disch := first | omega | decide) only [seval, -Int.reducePow, -Nat.reducePow, cC, pv, binv, sFlRSt1, undef, hg, g8])))
    all_goals (repeat' refine And.intro ?_ ?_)
    all_goals (first | with_reducible rfl | (refine congrArg Value.bool ?_; rw [Bool.eq_iff_iff]; (try simp only [decide_eq_true_eq, eq_self, true_and, and_true, false_and, and_false, true_or, or_true, false_or, or_false, not_true_eq_false, not_false_eq_true, true_iff, iff_true, false_iff, iff_false, Bool.false_eq_true, Bool.not_eq_true', Bool.not_eq_true, decide_eq_false_iff_not, Bool.and_eq_true, Bool.or_eq_true]) <;> omega) | (refine congrArg (Value.int _) ?_; omega) | omega)
  intro G9 L' _ hF
  obtain ⟨q4, q20, rfl⟩ := hF
  have g9_4 := q4.trans g8_4
  have g9_20 := q20
  clear q4 q20
  have g9 := And.intro g9_4 g9_20
  refine hK _ _ ?_
  clear hK K
  refine cv_cond ?_
  simp -implicitDefEqProofs (disch := first | omega | decide) only [seval, -Int.reducePow, -Nat.reducePow, cC, pv, binv, sFlRSt1, undef, g9]
  refine ⟨fun hc => ?_, fun hc => ?_⟩
  · have h1 := of_decide_eq_true ‹_›
    have hno : fnAt ⟨TA, tn, tc, ts, FA, fn, fc, gs⟩ f = none := by
      unfold fnAt
      split
      · rfl
      · exact List.getElem?_eq_none (by dsimp only; omega)
    refine cv_seq_k fun K hK => ?_
    refine cv_region_then rfl ?_
    simp -implicitDefEqProofs (disch := first | omega | decide) only [seval, -Int.reducePow, -Nat.reducePow, cC, pv, binv, sFlRSt1, undef, g9]
    refine callV_ret (fun w hw => fault_any 26 (-1) (-1) w) ?_
    try simp -implicitDefEqProofs (disch := first | omega | decide) only [seval, -Int.reducePow, -Nat.reducePow, cC, pv, binv, sFlRSt1, undef, g9]
    refine hK _ _ ?_
    clear hK K
    refine cv_ret ?_
    simp -implicitDefEqProofs (disch := first | omega | decide) only [seval, -Int.reducePow, -Nat.reducePow, cC, pv, binv, sFlRSt1, undef, retQ2, ressV, packV, g9]
    intro w hw
    exact ⟨by rw [hno, if_pos hz] <;> rfl, hw.below⟩
  have h1 := of_decide_eq_false ‹_›
  obtain ⟨k, rfl⟩ : ∃ k : Nat, f = (k : Int) := ⟨f.toNat, by omega⟩
  obtain ⟨x, hx⟩ := some_of (l := gs) (i := k) (by omega)
  have hyes : fnAt ⟨TA, tn, tc, ts, FA, fn, fc, gs⟩ (k : Int) = some x := by rw [fnAt_nat]; exact hx
  refine cv_skip ?_
  try simp only [blockQ, thenQ]
  refine hK _ _ ?_
  clear hK K
  refine cv_seq_k fun K hK => ?_
  refine cv_region_then rfl ?_
  simp -implicitDefEqProofs (disch := first | omega | decide) only [seval, -Int.reducePow, -Nat.reducePow, cC, pv, binv, sFlRSt1, undef, g9]
  refine callV_ret (fun w hw => fine_any w) ?_
  try simp -implicitDefEqProofs (disch := first | omega | decide) only [seval, -Int.reducePow, -Nat.reducePow, cC, pv, binv, sFlRSt1, undef, g9]
  refine hK _ _ ?_
  clear hK K
  refine cv_ret ?_
  simp -implicitDefEqProofs (disch := first | omega | decide) only [seval, -Int.reducePow, -Nat.reducePow, cC, pv, binv, sFlRSt1, undef, retQ2, ressV, packV, g9]
  intro w hw
  exact ⟨by rw [hyes, if_pos hz] <;> rfl, hw.below⟩
set_option maxHeartbeats 2000000 in
theorem rStatic_any (m : ModR) (f : Int) (W : World) (hM : Mod W W.heap.size m) : Calls Try.prog 36 #[modV m, .int .i64 f] W fun e w' => e = .returned (fltV (stF m f)) ∧ Below W.heap.size W w' := by
  have hMat := fun {L : List Res} {w : World} (hw : St [] W L w) => hM.at hw
  have hfn := hM.fn
  have hG := hM.gs
  have hlg := hM.glen
  obtain ⟨q, hq⟩ : ∃ q, (if (chkM m).1 = 0 then (if (fnAt m f).isSome then fineF else (26, -1, -1)) else chkM m) = q := ⟨_, rfl⟩
  obtain ⟨TA, tn, tc, ts, FA, fn, fc, gs⟩ := m
  dsimp only at *
  refine calls_cv2 (M := []) (n := 37) [.cell 4 36] rfl Try.func36 rfl rfl (Nat.le_of_ble_eq_true rfl) (St.nil _ _) ?_
  refine cv_seq_k fun K hK => ?_
  refine cv_region_then rfl ?_
  simp -implicitDefEqProofs (disch := first | omega | decide) only [seval, -Int.reducePow, -Nat.reducePow, cC, pv, binv, sFlRSt1, undef]
  intro b1 hb1 b4 hb4 h4
  refine hK _ _ ?_
  clear hK K
  refine cv_seq_k fun K hK => ?_
  refine cv_region_then rfl ?_
  simp -implicitDefEqProofs (disch := first | omega | decide) only [seval, -Int.reducePow, -Nat.reducePow, cC, pv, binv, sFlRSt1, undef]
  refine callV_ret (fun w hw => (by have := about_any ⟨TA, tn, tc, ts, FA, fn, fc, gs⟩ f w (hMat hw); rwa [hq] at this)) ?_
  simp -implicitDefEqProofs (disch := first | omega | decide) only [seval, -Int.reducePow, -Nat.reducePow, cC, pv, binv, sFlRSt1, undef]
  intro b6 hb6 h6
  refine hK _ _ ?_
  clear hK K
  refine cv_gen fun G10 hG => ?_
  have g10_1 := congrFun hG 1
  have g10_2 := congrFun hG 2
  have g10_4 := congrFun hG 4
  have g10_5 := congrFun hG 5
  clear hG
  try simp -implicitDefEqProofs (disch := first | omega | decide) only [seval, -Int.reducePow, -Nat.reducePow, cC, pv, binv, sFlRSt1, undef] at g10_1 g10_2 g10_4 g10_5
  have g10 := And.intro g10_1 (And.intro g10_2 (And.intro g10_4 g10_5))
  refine cv_seq_k fun K hK => ?_
  refine cv_seq_k fun K hK => ?_
  refine cv_region_then rfl ?_
  simp -implicitDefEqProofs (disch := first | omega | decide) only [seval, -Int.reducePow, -Nat.reducePow, cC, pv, binv, sFlRSt1, undef, g10]
  refine hK _ _ ?_
  clear hK K
  refine cv_cond ?_
  simp -implicitDefEqProofs (disch := first | omega | decide) only [seval, -Int.reducePow, -Nat.reducePow, cC, pv, binv, sFlRSt1, undef, g10]
  refine ⟨fun hc => ?_, fun hc => ?_⟩
  · have hz : ¬ q.1 = 0 := nd_true ‹(!decide (q.1 = 0)) = true›
    have hS : stF ⟨TA, tn, tc, ts, FA, fn, fc, gs⟩ f = q := by
      unfold stF
      rw [← hq] at hz ⊢
      split
      · rename_i h0
        rw [if_pos h0] at hz
        cases hf : fnAt ⟨TA, tn, tc, ts, FA, fn, fc, gs⟩ f with
        | none => rfl
        | some y => rw [hf] at hz; exact absurd rfl hz
      · rfl
    refine cv_seq_k fun K hK => ?_
    refine cv_region_then rfl ?_
    simp -implicitDefEqProofs (disch := first | omega | decide) only [seval, -Int.reducePow, -Nat.reducePow, cC, pv, binv, sFlRSt1, undef, g10]
    refine hK _ _ ?_
    clear hK K
    refine cv_ret ?_
    simp -implicitDefEqProofs (disch := first | omega | decide) only [seval, -Int.reducePow, -Nat.reducePow, cC, pv, binv, sFlRSt1, undef, retQ2, ressV, packV, g10]
    intro w hw
    exact ⟨by rw [hS] <;> rfl, hw.below⟩
  have hz : q.1 = 0 := Decidable.not_not.1 (nd_false ‹(!decide (q.1 = 0)) = false›)
  have h0 : (chkM ⟨TA, tn, tc, ts, FA, fn, fc, gs⟩).1 = 0 := by
    refine Decidable.byContradiction fun h0 => ?_
    rw [← hq, if_neg h0] at hz
    exact h0 hz
  obtain ⟨x, hy⟩ : ∃ y, fnAt ⟨TA, tn, tc, ts, FA, fn, fc, gs⟩ f = some y := by
    cases hf : fnAt ⟨TA, tn, tc, ts, FA, fn, fc, gs⟩ f with
    | none => rw [← hq, if_pos h0, hf] at hz; exact absurd (show (26 : Int) = 0 from hz) (by decide)
    | some y => exact ⟨y, rfl⟩
  obtain ⟨k, rfl, hk⟩ := fnAt_some hy
  dsimp only at hk
  obtain ⟨-, -, -, hg32, hck⟩ := chkM_ok h0
  obtain ⟨hfe, hce⟩ := hck k x hk
  obtain ⟨hp0, -, hl0, -, hpl, -, -, h1024, -⟩ := fnErr_ok hfe
  have hX := hfn x (List.mem_of_getElem? hk)
  have hxl : x.code.length = x.n := cl_row insc_len (by omega) hX.len
  have hS : stF ⟨TA, tn, tc, ts, FA, fn, fc, gs⟩ (k : Int) = stX gs.length (k : Int) x := by
    unfold stF
    rw [if_pos h0, hy]
  dsimp only at hg32
  have hkf : k < fn := by have := (List.getElem?_eq_some_iff.1 hk).1; omega
  obtain ⟨b9, of9, rfl, hb9, -⟩ := hG.cells (by omega)
  refine cv_skip ?_
  try simp only [blockQ, thenQ]
  refine hK _ _ ?_
  clear hK K
  refine cv_seq_k fun K hK => ?_
  refine cv_seq_k fun K hK => ?_
  refine cv_region_then rfl ?_
  simp -implicitDefEqProofs (disch := first | omega | decide) only [seval, -Int.reducePow, -Nat.reducePow, cC, pv, binv, sFlRSt1, undef, g10]
  refine hK _ _ ?_
  clear hK K
  refine cv_gen fun G11 hG => ?_
  have g11_1 := congrFun hG 1
  have g11_2 := congrFun hG 2
  have g11_4 := congrFun hG 4
  have g11_6 := congrFun hG 6
  clear hG
  try simp -implicitDefEqProofs (disch := first | omega | decide) only [seval, -Int.reducePow, -Nat.reducePow, cC, pv, binv, sFlRSt1, undef, g10] at g11_1 g11_2 g11_4 g11_6
  have g11 := And.intro g11_1 (And.intro g11_2 (And.intro g11_4 g11_6))
  refine cv_block ?_
  refine cv_loop (fun F' L' => ∃ (j : Nat), F' 1 = G11 1 ∧ F' 2 = G11 2 ∧ F' 4 = G11 4 ∧ F' 6 = .int .i64 (j : Int) ∧ L' = [flBox b6 q.1 q.2.1 q.2.2, flBox b4 0 0 0, mBox b1 ⟨TA, tn, tc, ts, some ⟨b9, of9, none⟩, fn, fc, gs⟩] ∧ j ≤ x.n ∧ firstS gs.length x 0 x.code = firstS gs.length x j (x.code.drop j)) (fun F' L' => 1100 - (intOf (F' 6)).toNat) ?_ ?_
  · refine ⟨0, ?_⟩
    simp -implicitDefEqProofs (disch := first | omega | decide) only [seval, -Int.reducePow, -Nat.reducePow, cC, pv, binv, sFlRSt1, undef, g11]
    omega
  intro G12 L' hI
  obtain ⟨j, q1, q2, q4, q6, rfl, ⟨hj, hi⟩⟩ := hI
  have g12_1 := q1.trans g11_1
  have g12_2 := q2.trans g11_2
  have g12_4 := q4.trans g11_4
  have g12_6 := q6
  clear q1 q2 q4 q6
  have g12 := And.intro g12_1 (And.intro g12_2 (And.intro g12_4 g12_6))
  refine cv_seq_k fun K hK => ?_
  refine cv_seq_k fun K hK => ?_
  refine cv_region_then rfl ?_
  simp -implicitDefEqProofs (disch := first | omega | decide) only [seval, -Int.reducePow, -Nat.reducePow, cC, pv, binv, sFlRSt1, undef, g11, g12]
  refine ⟨_, hG.fnf hk, fun tok htok => ?_⟩
  subst htok
  simp -implicitDefEqProofs (disch := first | omega | decide) only [seval, -Int.reducePow, -Nat.reducePow, cC, pv, binv, sFlRSt1, undef, g11, g12]
  refine hK _ _ ?_
  clear hK K
  refine cv_cond ?_
  simp -implicitDefEqProofs (disch := first | omega | decide) only [seval, -Int.reducePow, -Nat.reducePow, cC, pv, binv, sFlRSt1, undef, g11, g12]
  refine ⟨fun hc => ?_, fun hc => ?_⟩
  · refine cv_skip ?_
    try simp only [blockQ, thenQ]
    have hjt : j < x.n := by have := of_decide_eq_true ‹decide ((j : Int) < (x.n : Int)) = true›; omega
    obtain ⟨y, hy⟩ := some_of (l := x.code) (i := j) (by omega)
    rw [drop_at' hy] at hi
    obtain ⟨s, hs⟩ : ∃ s, stE gs.length x j y = s := ⟨_, rfl⟩
    refine hK _ _ ?_
    clear hK K
    refine cv_seq_k fun K hK => ?_
    refine cv_block ?_
    refine cv_seq_k fun K hK => ?_
    refine cv_region_then rfl ?_
    simp -implicitDefEqProofs (disch := first | omega | decide) only [seval, -Int.reducePow, -Nat.reducePow, cC, pv, binv, sFlRSt1, undef, g11, g12]
    refine callV_ret (fun w hw => rstatic_any ⟨TA, tn, tc, ts, some ⟨b9, of9, none⟩, fn, fc, gs⟩ k x j y w (hMat hw) hk hy hp0 hl0 hpl hg32 h1024) ?_
    try simp -implicitDefEqProofs (disch := first | omega | decide) only [seval, -Int.reducePow, -Nat.reducePow, cC, pv, binv, sFlRSt1, undef, hs, g11, g12]
    refine hK _ _ ?_
    clear hK K
    refine cv_seq_k fun K hK => ?_
    refine cv_region_then rfl ?_
    simp -implicitDefEqProofs (disch := first | omega | decide) only [seval, -Int.reducePow, -Nat.reducePow, cC, pv, binv, sFlRSt1, undef, g11, g12]
    refine hK _ _ ?_
    clear hK K
    refine cv_cond ?_
    simp -implicitDefEqProofs (disch := first | omega | decide) only [seval, -Int.reducePow, -Nat.reducePow, cC, pv, binv, sFlRSt1, undef, g11, g12]
    refine ⟨fun hc => ?_, fun hc => ?_⟩
    · have hz3 : ¬ s = 0 := nd_true ‹(!decide (s = 0)) = true›
      rw [firstS_no _ (by rw [hs]; exact hz3), hs] at hi
      refine cv_seq_k fun K hK => ?_
      refine cv_region_then rfl ?_
      simp -implicitDefEqProofs (disch := first | omega | decide) only [seval, -Int.reducePow, -Nat.reducePow, cC, pv, binv, sFlRSt1, undef, g11, g12]
      refine callV_ret (fun w hw => fault_any s (k : Int) (j : Int) w) ?_
      try simp -implicitDefEqProofs (disch := first | omega | decide) only [seval, -Int.reducePow, -Nat.reducePow, cC, pv, binv, sFlRSt1, undef, g11, g12]
      refine hK _ _ ?_
      clear hK K
      refine cv_ret ?_
      simp -implicitDefEqProofs (disch := first | omega | decide) only [seval, -Int.reducePow, -Nat.reducePow, cC, pv, binv, sFlRSt1, undef, retQ2, ressV, packV, g11, g12]
      intro w hw
      exact ⟨by rw [hS]; unfold stX; rw [hi, if_neg hz3] <;> rfl, hw.below⟩
    have hz3 : s = 0 := Decidable.not_not.1 (nd_false ‹(!decide (s = 0)) = false›)
    rw [firstS_yes _ (by rw [hs]; exact hz3)] at hi
    refine cv_skip ?_
    try simp only [blockQ, thenQ]
    refine hK _ _ ?_
    clear hK K
    refine cv_region_then rfl ?_
    simp -implicitDefEqProofs (disch := first | omega | decide) only [seval, -Int.reducePow, -Nat.reducePow, cC, pv, binv, sFlRSt1, undef, wrap_in, g11, g12]
    refine ⟨⟨j + 1, ?_⟩, ?_⟩
    · simp -implicitDefEqProofs (disch := first | omega | decide) only [seval, -Int.reducePow, -Nat.reducePow, cC, pv, binv, sFlRSt1, undef, Int.natCast_add, g11, g12]
      exact ⟨by omega, hi⟩
    · simp only [intOf]; omega
  refine cv_exit ?_
  simp only [blockQ, thenQ, if_true, ite_true]
  clear hK K
  refine hK _ _ ?_
  clear hK K
  have hje : j = x.n := by have := of_decide_eq_false ‹decide ((j : Int) < (x.n : Int)) = false›; omega
  rw [List.drop_of_length_le (by omega)] at hi
  refine cv_seq_k fun K hK => ?_
  refine cv_region_then rfl ?_
  simp -implicitDefEqProofs (disch := first | omega | decide) only [seval, -Int.reducePow, -Nat.reducePow, cC, pv, binv, sFlRSt1, undef, g11, g12]
  refine callV_ret (fun w hw => fine_any w) ?_
  try simp -implicitDefEqProofs (disch := first | omega | decide) only [seval, -Int.reducePow, -Nat.reducePow, cC, pv, binv, sFlRSt1, undef, g11, g12]
  refine hK _ _ ?_
  clear hK K
  refine cv_ret ?_
  simp -implicitDefEqProofs (disch := first | omega | decide) only [seval, -Int.reducePow, -Nat.reducePow, cC, pv, binv, sFlRSt1, undef, retQ2, ressV, packV, g11, g12]
  intro w hw
  exact ⟨by rw [hS]; unfold stX; rw [hi] <;> rfl, hw.below⟩
end Go.Proofs.Ytlbmnioibiomfaa
