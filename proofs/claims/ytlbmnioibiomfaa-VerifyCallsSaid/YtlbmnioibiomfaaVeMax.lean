/- verify.MaxHeight and the reference's. -/
import Derived.Test.YtlbmnioibiomfaaVeVer
import Derived.Test.YtlbmnioibiomfaaFlIns
namespace Go.Proofs.Ytlbmnioibiomfaa
open Go.RowKit Go.Shelf
set_option linter.unusedVariables false
set_option linter.unusedSimpArgs false
set_option maxRecDepth 100000
theorem xv_max3 {P : Program} {M : List Nat} {W : World} {L : List Res} {F : Fr} {d : Option Nat} {ty : TypeId} {pos : String} {af : Array Edge} {gd : Option (Nat × Bool)} {x y z : Operand} {ats : Array TypeId} {k : IntKind} {a b c : Int} {K : Bool → Value → List Res → Prop}
    (hx : ev F x = .int k a) (hy : ev F y = .int k b) (hz : ev F z = .int k c) (hK : K true (.int k (max (max a b) c)) L) : XV P M W ⟨d, .call { callee := .builtin .max, args := #[x, y, z], argTypes := ats }, ty, pos, af, gd⟩ F L K := fun w hw => by
  refine ⟨_, _, w, ?_, hw, hK⟩
  have e : ∀ a b : Int, (if b > a then b else a) = max a b := fun a b => by
    rw [Int.max_def]
    split <;> split <;> omega
  simp [execOp, resolve, invoke, builtin, hx, hy, hz, Builtin.max_, Builtin.max2, e]
theorem rx_max3 {P : Program} {M : List Nat} {W : World} {L : List Res} {F : Fr} {d : Option Nat} {ty : TypeId} {pos : String} {af : Array Edge} {gd : Option (Nat × Bool)} {x y z : Operand} {ats : Array TypeId} {k : IntKind} {a b c : Int} {K : Bool → Value → Prop}
    (hx : ev F x = .int k a) (hy : ev F y = .int k b) (hz : ev F z = .int k c) (hK : K true (.int k (max (max a b) c))) : RX P M W ⟨d, .call { callee := .builtin .max, args := #[x, y, z], argTypes := ats }, ty, pos, af, gd⟩ F L K := by
  refine ⟨_, fun w hw => ?_, fun tok h => by subst h; exact hK⟩
  have e : ∀ a b : Int, (if b > a then b else a) = max a b := fun a b => by
    rw [Int.max_def]
    split <;> split <;> omega
  simp [execOp, resolve, invoke, builtin, hx, hy, hz, Builtin.max_, Builtin.max2, e]
set_option maxRecDepth 100000 in
theorem sVeMax1 : type_of% (And.intro (And.intro (And.intro @fBox.eq_1 (And.intro @tBox.eq_1 @iBox.eq_1)) (And.intro (And.intro @mBox.eq_1 @gBox.eq_1) (And.intro @flBox.eq_1 @fdV.eq_1))) (And.intro (And.intro (And.intro @tyV.eq_1 @insV.eq_1) (And.intro @fnV.eq_1 @modV.eq_1)) (And.intro (And.intro @fltV.eq_1 @fineF.eq_1) (And.intro @Nat.mul_one @wrap_in)))) := (And.intro (And.intro (And.intro @fBox.eq_1 (And.intro @tBox.eq_1 @iBox.eq_1)) (And.intro (And.intro @mBox.eq_1 @gBox.eq_1) (And.intro @flBox.eq_1 @fdV.eq_1))) (And.intro (And.intro (And.intro @tyV.eq_1 @insV.eq_1) (And.intro @fnV.eq_1 @modV.eq_1)) (And.intro (And.intro @fltV.eq_1 @fineF.eq_1) (And.intro @Nat.mul_one @wrap_in))))
set_option maxHeartbeats 2000000 in
theorem MaxHeight_any (m : ModR) (f : Int) (W : World) (hM : Mod W W.heap.size m) : Calls Try.prog 39 #[modV m, .int .i64 f] W fun e w' => e = .returned (.tuple #[.int .i64 (maxM m f).1, .int .i64 (maxM m f).2]) ∧ Below W.heap.size W w' := by
  have hMat := fun {L : List Res} {w : World} (hw : St [] W L w) => hM.at hw
  have hlg := hM.glen
  obtain ⟨q, hq⟩ : ∃ q, verM m = q := ⟨_, rfl⟩
  have hok := fun h => verM_ok (m := m) h
  have hmx : maxM m f = if q.1 = 0 then (if f < 0 ∨ (m.gs.length : Int) ≤ f then (0, 26) else (mxL (hgtF m f).1, 0)) else (0, q.1) := by rw [← hq]; rfl
  rw [hq] at hok
  obtain ⟨TA, tn, tc, ts, FA, fn, fc, gs⟩ := m
  dsimp only at *
  rw [hlg] at hmx
  refine calls_cv (M := []) (n := 45) [.tmp 4, .tmp 5] rfl Try.func39 rfl rfl (Nat.le_of_ble_eq_true rfl) (St.nil _ _) ?_
  refine cv_seq_k fun K hK => ?_
  refine cv_region_then rfl ?_
  simp -implicitDefEqProofs (disch := first | omega | decide) only [seval, -Int.reducePow, -Nat.reducePow, cC, pv, binv, sVeMax1, undef]
  intro b2 hb2
  refine hK _ _ ?_
  clear hK K
  refine cv_seq_k fun K hK => ?_
  refine cv_seq_k fun K hK => ?_
  refine cv_region_then rfl ?_
  simp -implicitDefEqProofs (disch := first | omega | decide) only [seval, -Int.reducePow, -Nat.reducePow, cC, pv, binv, sVeMax1, undef]
  refine callV_ret (fun w hw => Verify_any ⟨TA, tn, tc, ts, FA, fn, fc, gs⟩ w (hMat hw)) ?_
  try simp -implicitDefEqProofs (disch := first | omega | decide) only [seval, -Int.reducePow, -Nat.reducePow, cC, pv, binv, sVeMax1, undef, hq]
  intro b6 hb6 hf6
  refine hK _ _ ?_
  clear hK K
  refine cv_gen fun G1 hG => ?_
  have g1_1 := congrFun hG 1
  have g1_2 := congrFun hG 2
  have g1_6 := congrFun hG 6
  clear hG
  try simp -implicitDefEqProofs (disch := first | omega | decide) only [seval, -Int.reducePow, -Nat.reducePow, cC, pv, binv, sVeMax1, undef] at g1_1 g1_2 g1_6
  have g1 := And.intro g1_1 (And.intro g1_2 g1_6)
  refine cv_seq_k fun K hK => ?_
  refine cv_region_then rfl ?_
  simp -implicitDefEqProofs (disch := first | omega | decide) only [seval, -Int.reducePow, -Nat.reducePow, cC, pv, binv, sVeMax1, undef, g1]
  refine hK _ _ ?_
  clear hK K
  refine cv_cond ?_
  simp -implicitDefEqProofs (disch := first | omega | decide) only [seval, -Int.reducePow, -Nat.reducePow, cC, pv, binv, sVeMax1, undef, g1]
  refine ⟨fun hc => ?_, fun hc => ?_⟩
  · have hz : ¬ q.1 = 0 := nd_true ‹(!decide (q.1 = 0)) = true›
    refine cv_seq_k fun K hK => ?_
    refine cv_draw [(true, 0), (true, 1), (true, 2), (true, 3)] [] mixA rfl (by kernel_rfl) (by kernel_rfl) rfl rfl ?_
    simp -implicitDefEqProofs (disch := first | omega | decide) only [seval, -Int.reducePow, -Nat.reducePow, cC, pv, binv, sVeMax1, undef, g1]
    refine hK _ _ ?_
    clear hK K
    refine cv_ret ⟨_, (by simp -implicitDefEqProofs (disch := first | omega | decide) only [seval, -Int.reducePow, -Nat.reducePow, cC, pv, binv, sVeMax1, undef, g1]; rfl), fun w hw => ?_⟩
    rw [hmx, if_neg hz]
    exact ⟨rfl, hw.below⟩
  have hz : q.1 = 0 := Decidable.not_not.1 (nd_false ‹(!decide (q.1 = 0)) = false›)
  rw [if_pos hz] at hmx
  obtain ⟨hch, -, hall⟩ := hok hz
  obtain ⟨-, -, -, hg32, hck⟩ := chkM_ok hch
  refine cv_skip ?_
  try simp only [blockQ, thenQ]
  refine hK _ _ ?_
  clear hK K
  refine cv_gen fun G2 hG => ?_
  have g2_1 := congrFun hG 1
  have g2_2 := congrFun hG 2
  clear hG
  try simp -implicitDefEqProofs (disch := first | omega | decide) only [seval, -Int.reducePow, -Nat.reducePow, cC, pv, binv, sVeMax1, undef, g1] at g2_1 g2_2
  have g2 := And.intro g2_1 g2_2
  refine cv_seq_k fun K hK => ?_
  refine cv_seq_k fun K hK => ?_
  refine cv_cut (fun _ _ => True) (fun F' L' => F' 1 = G2 1 ∧ F' 2 = G2 2 ∧ F' 27 = .bool (decide (f < 0 ∨ (fn : Int) ≤ f)) ∧ L' = [flBox b6 q.1 q.2.1 q.2.2, mBox b2 ⟨TA, tn, tc, ts, FA, fn, fc, gs⟩]) ?_ ?_
  · refine cv_region_then rfl ?_
    simp -implicitDefEqProofs (disch := first | omega | decide) only [seval, -Int.reducePow, -Nat.reducePow, cC, pv, binv, sVeMax1, undef, g2]
    repeat' ((first | refine vcg_cases (fun hg => ?_) (fun hg => ?_) | refine vdg_cases (fun hg => ?_) (fun hg => ?_)) <;> ((try simp only [Bool.not_eq_true', Bool.not_eq_false', decide_eq_true_eq, decide_eq_false_iff_not] at hg); (try simp -implicitDefEqProofs (disch := first | omega | decide) only [seval, -Int.reducePow, -Nat.reducePow, cC, pv, binv, sVeMax1, undef, hg, g2])))
    all_goals (repeat' refine And.intro ?_ ?_)
    all_goals (first | with_reducible rfl | (refine congrArg Value.bool ?_; rw [Bool.eq_iff_iff]; (try simp only [decide_eq_true_eq, eq_self, true_and, and_true, false_and, and_false, true_or, or_true, false_or, or_false, not_true_eq_false, not_false_eq_true, true_iff, iff_true, false_iff, iff_false, Bool.false_eq_true, Bool.not_eq_true', Bool.not_eq_true, decide_eq_false_iff_not, Bool.and_eq_true, Bool.or_eq_true]) <;> omega) | (refine congrArg (Value.int _) ?_; omega) | omega)
  intro G3 L' _ hF
  obtain ⟨q1, q2, q27, rfl⟩ := hF
  have g3_1 := q1.trans g2_1
  have g3_2 := q2.trans g2_2
  have g3_27 := q27
  clear q1 q2 q27
  have g3 := And.intro g3_1 (And.intro g3_2 g3_27)
  refine hK _ _ ?_
  clear hK K
  refine cv_cond ?_
  simp -implicitDefEqProofs (disch := first | omega | decide) only [seval, -Int.reducePow, -Nat.reducePow, cC, pv, binv, sVeMax1, undef, g3]
  refine ⟨fun hc => ?_, fun hc => ?_⟩
  · have q1 := of_decide_eq_true hc
    refine cv_seq_k fun K hK => ?_
    refine cv_region_then rfl ?_
    simp -implicitDefEqProofs (disch := first | omega | decide) only [seval, -Int.reducePow, -Nat.reducePow, cC, pv, binv, sVeMax1, undef, g3]
    refine hK _ _ ?_
    clear hK K
    refine cv_ret ⟨_, (by simp -implicitDefEqProofs (disch := first | omega | decide) only [seval, -Int.reducePow, -Nat.reducePow, cC, pv, binv, sVeMax1, undef, g3]; rfl), fun w hw => ?_⟩
    rw [hmx, if_pos q1]
    exact ⟨rfl, hw.below⟩
  have q1 := of_decide_eq_false hc
  rw [if_neg q1] at hmx
  obtain ⟨k, rfl⟩ : ∃ k : Nat, f = (k : Int) := ⟨f.toNat, by omega⟩
  obtain ⟨x, hf, hx, hsx, hR, hU⟩ := hgtF_okk (m := ⟨TA, tn, tc, ts, FA, fn, fc, gs⟩) (k := k) (by dsimp only; omega) (hall k (by omega))
  obtain ⟨hh1, hh2, hh3, hh4, hh5, hh6, -⟩ := hgt_spec hsx hx hR
  obtain ⟨-, -, -, -, -, -, -, h1024, -⟩ := fnErr_ok (hck k x hx).1
  rw [hU] at hmx
  refine cv_skip ?_
  try simp only [blockQ, thenQ]
  refine hK _ _ ?_
  clear hK K
  refine cv_seq_k fun K hK => ?_
  refine cv_region_then rfl ?_
  simp -implicitDefEqProofs (disch := first | omega | decide) only [seval, -Int.reducePow, -Nat.reducePow, cC, pv, binv, sVeMax1, undef, g3]
  refine callV_row (fun A n c => .tuple #[.slice A n c, fltV fineF]) (fun w hw => (by have := Heights_any ⟨TA, tn, tc, ts, FA, fn, fc, gs⟩ (k : Int) w (hMat hw); rw [hU] at this; exact this)) ?_
  intro A n c hl hr
  simp -implicitDefEqProofs (disch := first | omega | decide) only [seval, -Int.reducePow, -Nat.reducePow, cC, pv, binv, sVeMax1, undef, g3]
  intro b8 hb8 hf8
  refine hK _ _ ?_
  clear hK K
  have hn : n = hf.length := by have : (i64z hf).length = n * 1 := hl; rw [z_len] at this; omega
  subst hn
  refine cv_seq_k fun K hK => ?_
  refine cv_region_then rfl ?_
  simp -implicitDefEqProofs (disch := first | omega | decide) only [seval, -Int.reducePow, -Nat.reducePow, cC, pv, binv, sVeMax1, undef, g3]
  refine hK _ _ ?_
  clear hK K
  refine cv_rowA 1 rfl (by omega) fun g hAA hg hNN => ?_
  subst hAA
  simp only [List.eraseIdx_cons_zero, List.eraseIdx_cons_succ, neB_nil, neB_blk, neB_row, neB_snap, and_true, List.not_mem_nil, or_false] at hNN hg
  replace hg := And.intro hg hNN
  clear hNN
  refine cv_gen fun G4 hG => ?_
  have g4_7 := congrFun hG 7
  have g4_9 := congrFun hG 9
  clear hG
  try simp -implicitDefEqProofs (disch := first | omega | decide) only [seval, -Int.reducePow, -Nat.reducePow, cC, pv, binv, sVeMax1, undef, g3] at g4_7 g4_9
  have g4 := And.intro g4_7 g4_9
  refine cv_seq_k fun K hK => ?_
  refine cv_seq_k fun K hK => ?_
  refine cv_region_then rfl ?_
  simp -implicitDefEqProofs (disch := first | omega | decide) only [seval, -Int.reducePow, -Nat.reducePow, cC, pv, binv, sVeMax1, undef, g4]
  refine hK _ _ ?_
  clear hK K
  refine cv_gen fun G5 hG => ?_
  have g5_9 := congrFun hG 9
  have g5_34 := congrFun hG 34
  have g5_35 := congrFun hG 35
  have g5_36 := congrFun hG 36
  clear hG
  try simp -implicitDefEqProofs (disch := first | omega | decide) only [seval, -Int.reducePow, -Nat.reducePow, cC, pv, binv, sVeMax1, undef, g4] at g5_9 g5_34 g5_35 g5_36
  have g5 := And.intro g5_9 (And.intro g5_34 (And.intro g5_35 g5_36))
  refine cv_block ?_
  refine cv_loop (fun F' L' => ∃ (j : Nat) (M : Int), F' 9 = .int .i64 M ∧ F' 34 = G5 34 ∧ F' 35 = G5 35 ∧ F' 36 = .int .i64 (j : Int) ∧ L' = [flBox b8 0 (-1) (-1), .row (.slice (some ⟨g, 0, none⟩) hf.length c) 3 1 hf.length (i64z hf), flBox b6 q.1 q.2.1 q.2.2, mBox b2 ⟨TA, tn, tc, ts, FA, fn, fc, gs⟩] ∧ j ≤ hf.length ∧ M = (hf.take j).foldl max 0) (fun F' L' => 1100 - (intOf (F' 36)).toNat) ?_ ?_
  · refine ⟨0, 0, ?_⟩
    simp -implicitDefEqProofs (disch := first | omega | decide) only [seval, -Int.reducePow, -Nat.reducePow, cC, pv, binv, sVeMax1, undef, g5]
    exact ⟨by omega, rfl⟩
  intro G6 L' hI
  obtain ⟨j, M, q9, q34, q35, q36, rfl, ⟨hj, hM'⟩⟩ := hI
  have g6_9 := q9
  have g6_34 := q34.trans g5_34
  have g6_35 := q35.trans g5_35
  have g6_36 := q36
  clear q9 q34 q35 q36
  have g6 := And.intro g6_9 (And.intro g6_34 (And.intro g6_35 g6_36))
  refine cv_seq_k fun K hK => ?_
  refine cv_region_then rfl ?_
  simp -implicitDefEqProofs (disch := first | omega | decide) only [seval, -Int.reducePow, -Nat.reducePow, cC, pv, binv, sVeMax1, undef, g5, g6]
  refine hK _ _ ?_
  clear hK K
  refine cv_seq_k fun K hK => ?_
  refine cv_cond ?_
  simp -implicitDefEqProofs (disch := first | omega | decide) only [seval, -Int.reducePow, -Nat.reducePow, cC, pv, binv, sVeMax1, undef, g5, g6]
  refine ⟨fun hc => ?_, fun hc => ?_⟩
  · refine cv_skip ?_
    try simp only [blockQ, thenQ]
    have hjt : j < hf.length := by have := of_decide_eq_true ‹decide ((j : Int) < (hf.length : Int)) = true›; omega
    have hzj := z_get (h := hf) (k := j) hjt
    have hgj : hf[j]? = some (hAt hf j) := by unfold hAt; rw [List.getElem?_eq_getElem hjt]; rfl
    refine hK _ _ ?_
    clear hK K
    refine cv_seq_k fun K hK => ?_
    refine cv_block ?_
    refine cv_seq_k fun K hK => ?_
    refine cv_region_then rfl ?_
    simp -implicitDefEqProofs (disch := first | omega | decide) only [seval, -Int.reducePow, -Nat.reducePow, cC, pv, binv, sVeMax1, undef, g5, g6]
    refine ⟨_, ld_row1 (m := 1) (v := .int .i64 (hAt hf j)) (i := j) (.tail _ (.head _)) rfl hzj, fun tok htok => ?_⟩
    subst htok
    simp -implicitDefEqProofs (disch := first | omega | decide) only [seval, -Int.reducePow, -Nat.reducePow, cC, pv, binv, sVeMax1, undef, g5, g6]
    refine hK _ _ ?_
    clear hK K
    refine cv_region_q rfl ?_
    simp -implicitDefEqProofs (disch := first | omega | decide) only [seval, -Int.reducePow, -Nat.reducePow, cC, pv, binv, sVeMax1, undef, g5, g6]
    refine hK _ _ ?_
    clear hK K
    refine cv_region_then rfl ?_
    simp -implicitDefEqProofs (disch := first | omega | decide) only [seval, -Int.reducePow, -Nat.reducePow, cC, pv, binv, sVeMax1, undef, wrap_in, g5, g6]
    refine ⟨⟨j + 1, max M (hAt hf j), ?_⟩, ?_⟩
    · simp -implicitDefEqProofs (disch := first | omega | decide) only [seval, -Int.reducePow, -Nat.reducePow, cC, pv, binv, sVeMax1, undef, Int.natCast_add, g5, g6]
      exact ⟨by omega, by rw [mx_take hgj, hM']⟩
    · simp only [intOf]; omega
  refine cv_exit ?_
  simp only [blockQ, thenQ, if_true, ite_true]
  clear hK K
  refine hK _ _ ?_
  clear hK K
  have hjt : ¬ j < hf.length := by have := of_decide_eq_false ‹decide ((j : Int) < (hf.length : Int)) = false›; omega
  refine cv_seq_k fun K hK => ?_
  refine cv_region_then rfl ?_
  simp -implicitDefEqProofs (disch := first | omega | decide) only [seval, -Int.reducePow, -Nat.reducePow, cC, pv, binv, sVeMax1, undef, g5, g6]
  refine hK _ _ ?_
  clear hK K
  refine cv_ret ⟨_, (by simp -implicitDefEqProofs (disch := first | omega | decide) only [seval, -Int.reducePow, -Nat.reducePow, cC, pv, binv, sVeMax1, undef, g5, g6]; rfl), fun w hw => ?_⟩
  rw [hmx, hM', List.take_of_length_le (by omega)]
  exact ⟨rfl, hw.below⟩
set_option maxHeartbeats 2000000 in
theorem rMaxHeight_any (m : ModR) (f : Int) (W : World) (hM : Mod W W.heap.size m) : Calls Try.prog 40 #[modV m, .int .i64 f] W fun e w' => e = .returned (.tuple #[.int .i64 (maxM m f).1, .int .i64 (maxM m f).2]) ∧ Below W.heap.size W w' := by
  have hMat := fun {L : List Res} {w : World} (hw : St [] W L w) => hM.at hw
  have hlg := hM.glen
  have hG := hM.gs
  have hfn := hM.fn
  obtain ⟨q, hq⟩ : ∃ q, verM m = q := ⟨_, rfl⟩
  have hok := fun h => verM_ok (m := m) h
  have hmx : maxM m f = if q.1 = 0 then (if f < 0 ∨ (m.gs.length : Int) ≤ f then (0, 26) else (mxL (hgtF m f).1, 0)) else (0, q.1) := by rw [← hq]; rfl
  rw [hq] at hok
  obtain ⟨TA, tn, tc, ts, FA, fn, fc, gs⟩ := m
  dsimp only at *
  rw [hlg] at hmx
  refine calls_cv (M := []) (n := 75) [.tmp 4, .tmp 5] rfl Try.func40 rfl rfl (Nat.le_of_ble_eq_true rfl) (St.nil _ _) ?_
  refine cv_seq_k fun K hK => ?_
  refine cv_region_then rfl ?_
  simp -implicitDefEqProofs (disch := first | omega | decide) only [seval, -Int.reducePow, -Nat.reducePow, cC, pv, binv, sVeMax1, undef]
  intro b2 hb2
  refine hK _ _ ?_
  clear hK K
  refine cv_seq_k fun K hK => ?_
  refine cv_region_then rfl ?_
  simp -implicitDefEqProofs (disch := first | omega | decide) only [seval, -Int.reducePow, -Nat.reducePow, cC, pv, binv, sVeMax1, undef]
  refine callV_ret (fun w hw => rVerify_any ⟨TA, tn, tc, ts, FA, fn, fc, gs⟩ w (hMat hw)) ?_
  try simp -implicitDefEqProofs (disch := first | omega | decide) only [seval, -Int.reducePow, -Nat.reducePow, cC, pv, binv, sVeMax1, undef, hq]
  intro b6 hb6 hf6
  refine hK _ _ ?_
  clear hK K
  refine cv_gen fun G7 hG => ?_
  have g7_1 := congrFun hG 1
  have g7_2 := congrFun hG 2
  have g7_6 := congrFun hG 6
  clear hG
  try simp -implicitDefEqProofs (disch := first | omega | decide) only [seval, -Int.reducePow, -Nat.reducePow, cC, pv, binv, sVeMax1, undef] at g7_1 g7_2 g7_6
  have g7 := And.intro g7_1 (And.intro g7_2 g7_6)
  refine cv_seq_k fun K hK => ?_
  refine cv_seq_k fun K hK => ?_
  refine cv_region_then rfl ?_
  simp -implicitDefEqProofs (disch := first | omega | decide) only [seval, -Int.reducePow, -Nat.reducePow, cC, pv, binv, sVeMax1, undef, g7]
  refine hK _ _ ?_
  clear hK K
  refine cv_cond ?_
  simp -implicitDefEqProofs (disch := first | omega | decide) only [seval, -Int.reducePow, -Nat.reducePow, cC, pv, binv, sVeMax1, undef, g7]
  refine ⟨fun hc => ?_, fun hc => ?_⟩
  · have hz : ¬ q.1 = 0 := nd_true ‹(!decide (q.1 = 0)) = true›
    refine cv_seq_k fun K hK => ?_
    refine cv_draw [(true, 0), (true, 1), (true, 2), (true, 3)] [] mixA rfl (by kernel_rfl) (by kernel_rfl) rfl rfl ?_
    simp -implicitDefEqProofs (disch := first | omega | decide) only [seval, -Int.reducePow, -Nat.reducePow, cC, pv, binv, sVeMax1, undef, g7]
    refine hK _ _ ?_
    clear hK K
    refine cv_ret ⟨_, (by simp -implicitDefEqProofs (disch := first | omega | decide) only [seval, -Int.reducePow, -Nat.reducePow, cC, pv, binv, sVeMax1, undef, g7]; rfl), fun w hw => ?_⟩
    rw [hmx, if_neg hz]
    exact ⟨rfl, hw.below⟩
  have hz : q.1 = 0 := Decidable.not_not.1 (nd_false ‹(!decide (q.1 = 0)) = false›)
  rw [if_pos hz] at hmx
  obtain ⟨hch, -, hall⟩ := hok hz
  obtain ⟨-, -, -, hg32, hck⟩ := chkM_ok hch
  refine cv_skip ?_
  try simp only [blockQ, thenQ]
  refine hK _ _ ?_
  clear hK K
  refine cv_gen fun G8 hG => ?_
  have g8_1 := congrFun hG 1
  have g8_2 := congrFun hG 2
  clear hG
  try simp -implicitDefEqProofs (disch := first | omega | decide) only [seval, -Int.reducePow, -Nat.reducePow, cC, pv, binv, sVeMax1, undef, g7] at g8_1 g8_2
  have g8 := And.intro g8_1 g8_2
  refine cv_seq_k fun K hK => ?_
  refine cv_seq_k fun K hK => ?_
  refine cv_cut (fun _ _ => True) (fun F' L' => F' 1 = G8 1 ∧ F' 2 = G8 2 ∧ F' 28 = .bool (decide (f < 0 ∨ (fn : Int) ≤ f)) ∧ L' = [flBox b6 q.1 q.2.1 q.2.2, mBox b2 ⟨TA, tn, tc, ts, FA, fn, fc, gs⟩]) ?_ ?_
  · refine cv_region_then rfl ?_
    simp -implicitDefEqProofs (disch := first | omega | decide) only [seval, -Int.reducePow, -Nat.reducePow, cC, pv, binv, sVeMax1, undef, g8]
    repeat' ((first | refine vcg_cases (fun hg => ?_) (fun hg => ?_) | refine vdg_cases (fun hg => ?_) (fun hg => ?_)) <;> ((try simp only [Bool.not_eq_true', Bool.not_eq_false', decide_eq_true_eq, decide_eq_false_iff_not] at hg); (try simp -implicitDefEqProofs (disch := first | omega | decide) only [seval, -Int.reducePow, -Nat.reducePow, cC, pv, binv, sVeMax1, undef, hg, g8])))
    all_goals (repeat' refine And.intro ?_ ?_)
    all_goals (first | with_reducible rfl | (refine congrArg Value.bool ?_; rw [Bool.eq_iff_iff]; (try simp only [decide_eq_true_eq, eq_self, true_and, and_true, false_and, and_false, true_or, or_true, false_or, or_false, not_true_eq_false, not_false_eq_true, true_iff, iff_true, false_iff, iff_false, Bool.false_eq_true, Bool.not_eq_true', Bool.not_eq_true, decide_eq_false_iff_not, Bool.and_eq_true, Bool.or_eq_true]) <;> omega) | (refine congrArg (Value.int _) ?_; omega) | omega)
  intro G9 L' _ hF
  obtain ⟨q1, q2, q28, rfl⟩ := hF
  have g9_1 := q1.trans g8_1
  have g9_2 := q2.trans g8_2
  have g9_28 := q28
  clear q1 q2 q28
  have g9 := And.intro g9_1 (And.intro g9_2 g9_28)
  refine hK _ _ ?_
  clear hK K
  refine cv_cond ?_
  simp -implicitDefEqProofs (disch := first | omega | decide) only [seval, -Int.reducePow, -Nat.reducePow, cC, pv, binv, sVeMax1, undef, g9]
  refine ⟨fun hc => ?_, fun hc => ?_⟩
  · have q1 := of_decide_eq_true hc
    refine cv_seq_k fun K hK => ?_
    refine cv_region_then rfl ?_
    simp -implicitDefEqProofs (disch := first | omega | decide) only [seval, -Int.reducePow, -Nat.reducePow, cC, pv, binv, sVeMax1, undef, g9]
    refine hK _ _ ?_
    clear hK K
    refine cv_ret ⟨_, (by simp -implicitDefEqProofs (disch := first | omega | decide) only [seval, -Int.reducePow, -Nat.reducePow, cC, pv, binv, sVeMax1, undef, g9]; rfl), fun w hw => ?_⟩
    rw [hmx, if_pos q1]
    exact ⟨rfl, hw.below⟩
  have q1 := of_decide_eq_false hc
  rw [if_neg q1] at hmx
  obtain ⟨k, rfl⟩ : ∃ k : Nat, f = (k : Int) := ⟨f.toNat, by omega⟩
  obtain ⟨x, hf, hx, hsx, hR, hU⟩ := hgtF_okk (m := ⟨TA, tn, tc, ts, FA, fn, fc, gs⟩) (k := k) (by dsimp only; omega) (hall k (by omega))
  obtain ⟨hh1, hh2, hh3, hh4, hh5, hh6, -⟩ := hgt_spec hsx hx hR
  obtain ⟨-, -, -, -, -, -, -, h1024, -⟩ := fnErr_ok (hck k x hx).1
  obtain ⟨-, k', x', hk', hx', hst⟩ := stF_ok hsx
  obtain rfl : k' = k := by omega
  obtain rfl : x = x' := by
    dsimp only at hx hx'
    rw [hx] at hx'
    exact Option.some.inj hx'
  dsimp only at hx hh5 hst
  have hfx := fx_bd (gs := gs) (fun g hg => by
    obtain ⟨i, hi⟩ := List.getElem?_of_mem hg
    obtain ⟨g1, g2, g3, g4, g5, g6, -⟩ := fnErr_ok (hck i g hi).1
    omega)
  rw [hU] at hmx
  have hX := hfn x (List.mem_of_getElem? hx)
  have hxl : x.code.length = x.n := cl_row insc_len (by omega) hX.len
  obtain ⟨b0, off, hA, hb0, -⟩ := hX.cells (by omega)
  have hX' : Sl W W.heap.size 2 (some ⟨b0, off, none⟩) x.n x.c (cl insc x.code) := hA ▸ hX
  obtain ⟨b9, of9, rfl, hb9, -⟩ := hG.cells (by omega)
  refine cv_skip ?_
  try simp only [blockQ, thenQ]
  refine hK _ _ ?_
  clear hK K
  refine cv_seq_k fun K hK => ?_
  refine cv_region_then rfl ?_
  simp -implicitDefEqProofs (disch := first | omega | decide) only [seval, -Int.reducePow, -Nat.reducePow, cC, pv, binv, sVeMax1, undef, g9]
  refine callV_row (fun A n c => .tuple #[.slice A n c, fltV fineF]) (fun w hw => (by have := rHeights_any ⟨TA, tn, tc, ts, some ⟨b9, of9, none⟩, fn, fc, gs⟩ (k' : Int) w (hMat hw); rw [hU] at this; exact this)) ?_
  intro A n c hl hr
  simp -implicitDefEqProofs (disch := first | omega | decide) only [seval, -Int.reducePow, -Nat.reducePow, cC, pv, binv, sVeMax1, undef, g9]
  intro b8 hb8 hf8
  refine hK _ _ ?_
  clear hK K
  have hn : n = hf.length := by have : (i64z hf).length = n * 1 := hl; rw [z_len] at this; omega
  subst hn
  refine cv_seq_k fun K hK => ?_
  refine cv_region_then rfl ?_
  simp -implicitDefEqProofs (disch := first | omega | decide) only [seval, -Int.reducePow, -Nat.reducePow, cC, pv, binv, sVeMax1, undef, g9]
  refine hK _ _ ?_
  clear hK K
  refine cv_rowA 1 rfl (by omega) fun g hAA hg hNN => ?_
  subst hAA
  simp only [List.eraseIdx_cons_zero, List.eraseIdx_cons_succ, neB_nil, neB_blk, neB_row, neB_snap, and_true, List.not_mem_nil, or_false] at hNN hg
  replace hg := And.intro hg hNN
  clear hNN
  refine cv_seq_k fun K hK => ?_
  refine cv_seq_k fun K hK => ?_
  refine cv_region_then rfl ?_
  simp -implicitDefEqProofs (disch := first | omega | decide) only [seval, -Int.reducePow, -Nat.reducePow, cC, pv, binv, sVeMax1, undef, g9]
  refine hK _ _ ?_
  clear hK K
  refine cv_gen fun G10 hG => ?_
  have g10_1 := congrFun hG 1
  have g10_2 := congrFun hG 2
  have g10_7 := congrFun hG 7
  have g10_9 := congrFun hG 9
  have g10_10 := congrFun hG 10
  clear hG
  try simp -implicitDefEqProofs (disch := first | omega | decide) only [seval, -Int.reducePow, -Nat.reducePow, cC, pv, binv, sVeMax1, undef, g9] at g10_1 g10_2 g10_7 g10_9 g10_10
  have g10 := And.intro g10_1 (And.intro g10_2 (And.intro g10_7 (And.intro g10_9 g10_10)))
  refine cv_block ?_
  refine cv_loop (fun F' L' => ∃ (j : Nat) (M : Int), F' 1 = G10 1 ∧ F' 2 = G10 2 ∧ F' 7 = G10 7 ∧ F' 9 = .int .i64 M ∧ F' 10 = .int .i64 (j : Int) ∧ L' = [flBox b8 0 (-1) (-1), .row (.slice (some ⟨g, 0, none⟩) hf.length c) 3 1 hf.length (i64z hf), flBox b6 q.1 q.2.1 q.2.2, mBox b2 ⟨TA, tn, tc, ts, some ⟨b9, of9, none⟩, fn, fc, gs⟩] ∧ j ≤ hf.length ∧ 0 ≤ M ∧ M ≤ mxL hf ∧ ∀ i, i < j → hAt hf i ≤ M) (fun F' L' => 1100 - (intOf (F' 10)).toNat) ?_ ?_
  · refine ⟨0, 0, ?_⟩
    simp -implicitDefEqProofs (disch := first | omega | decide) only [seval, -Int.reducePow, -Nat.reducePow, cC, pv, binv, sVeMax1, undef, g10]
    and_intros
    all_goals first | omega | exact mx_nn _ | (intro i hi; omega)
  intro G11 L' hI
  obtain ⟨j, M, q1, q2, q7, q9, q10, rfl, ⟨hj, hM0, hM1, hM2⟩⟩ := hI
  have g11_1 := q1.trans g10_1
  have g11_2 := q2.trans g10_2
  have g11_7 := q7.trans g10_7
  have g11_9 := q9
  have g11_10 := q10
  clear q1 q2 q7 q9 q10
  have g11 := And.intro g11_1 (And.intro g11_2 (And.intro g11_7 (And.intro g11_9 g11_10)))
  refine cv_seq_k fun K hK => ?_
  refine cv_seq_k fun K hK => ?_
  refine cv_region_then rfl ?_
  simp -implicitDefEqProofs (disch := first | omega | decide) only [seval, -Int.reducePow, -Nat.reducePow, cC, pv, binv, sVeMax1, undef, g10, g11]
  refine hK _ _ ?_
  clear hK K
  refine cv_cond ?_
  simp -implicitDefEqProofs (disch := first | omega | decide) only [seval, -Int.reducePow, -Nat.reducePow, cC, pv, binv, sVeMax1, undef, g10, g11]
  refine ⟨fun hc => ?_, fun hc => ?_⟩
  · refine cv_skip ?_
    try simp only [blockQ, thenQ]
    have hjt : j < hf.length := by have := of_decide_eq_true ‹decide ((j : Int) < (hf.length : Int)) = true›; omega
    have hzj := z_get (h := hf) (k := j) hjt
    have hrj := hh4 j
    have hlm := le_mx (hAt_mem hjt)
    obtain ⟨i, hi⟩ := some_of (l := x.code) (i := j) (by omega)
    have hii : insAt x j = i := insAt_of hi
    have hci := fun ho => stE_call (hst j i hi) ho
    have hch := fun ho => stE_host (hst j i hi) ho
    have hgood := fun h => (hh5 j h).2
    have haf := fun h => after_mx hjt (hgood h) (fun y hy => by have := hh6 j (by omega) y hy; omega)
    rw [hii] at haf
    have hpq := hfx i
    obtain ⟨pq, hpq2⟩ : ∃ pq, fxP gs i = pq := ⟨_, rfl⟩
    rw [hpq2] at haf hpq
    obtain ⟨p, r⟩ := pq
    dsimp only at haf hpq
    obtain ⟨H, hH⟩ : ∃ H, hAt hf j = H := ⟨_, rfl⟩
    rw [hH] at hzj hrj haf hlm
    clear hgood
    refine hK _ _ ?_
    clear hK K
    refine cv_seq_k fun K hK => ?_
    refine cv_block ?_
    refine cv_seq_k fun K hK => ?_
    refine cv_region_then rfl ?_
    simp -implicitDefEqProofs (disch := first | omega | decide) only [seval, -Int.reducePow, -Nat.reducePow, cC, pv, binv, sVeMax1, undef, g10, g11]
    refine ⟨_, ld_row1 (m := 1) (v := .int .i64 H) (i := j) (.tail _ (.head _)) rfl hzj, fun tok htok => ?_⟩
    subst htok
    simp -implicitDefEqProofs (disch := first | omega | decide) only [seval, -Int.reducePow, -Nat.reducePow, cC, pv, binv, sVeMax1, undef, g10, g11]
    refine hK _ _ ?_
    clear hK K
    refine cv_cond ?_
    simp -implicitDefEqProofs (disch := first | omega | decide) only [seval, -Int.reducePow, -Nat.reducePow, cC, pv, binv, sVeMax1, undef, g10, g11]
    refine ⟨fun hc => ?_, fun hc => ?_⟩
    · have hH0 : 0 ≤ H := of_decide_eq_true ‹_›
      have hq1 := haf (by omega)
      refine cv_seq_k fun K hK => ?_
      refine cv_draw [(true, 0), (true, 1), (true, 2), (true, 3), (true, 4), (true, 5), (true, 6), (true, 7), (true, 8), (true, 9), (false, 10), (true, 11), (true, 12), (true, 13), (true, 14), (true, 15)] [] mixA rfl (by kernel_rfl) (by kernel_rfl) rfl rfl ?_
      simp -implicitDefEqProofs (disch := first | omega | decide) only [seval, -Int.reducePow, -Nat.reducePow, cC, pv, binv, sVeMax1, undef, g10, g11]
      refine ⟨_, hG.fnf hx, fun tok htok => ?_⟩
      subst htok
      simp -implicitDefEqProofs (disch := first | omega | decide) only [seval, -Int.reducePow, -Nat.reducePow, cC, pv, binv, sVeMax1, undef, g10, g11]
      simp -implicitDefEqProofs (disch := first | omega | decide) only [seval, -Int.reducePow, -Nat.reducePow, cC, pv, binv, sVeMax1, undef, hA, g10, g11]
      refine ⟨_, hX'.ins hi, fun tok htok => ?_⟩
      subst htok
      simp -implicitDefEqProofs (disch := first | omega | decide) only [seval, -Int.reducePow, -Nat.reducePow, cC, pv, binv, sVeMax1, undef, g10, g11]
      refine callV_ret (fun w hw => moves_any ⟨TA, tn, tc, ts, some ⟨b9, of9, none⟩, fn, fc, gs⟩ i w (hMat hw) hci hch) ?_
      try simp -implicitDefEqProofs (disch := first | omega | decide) only [seval, -Int.reducePow, -Nat.reducePow, cC, pv, binv, sVeMax1, undef, hpq2, g10, g11]
      refine hK _ _ ?_
      clear hK K
      refine cv_q ?_
      refine cv_draw [(true, 0), (true, 1), (true, 2), (true, 3), (true, 4), (true, 5), (true, 6), (true, 7), (true, 8), (true, 9), (true, 10), (true, 11), (true, 12), (true, 13), (true, 14)] [] mixA rfl (by kernel_rfl) (by kernel_rfl) rfl rfl ?_
      simp -implicitDefEqProofs (disch := first | omega | decide) only [seval, -Int.reducePow, -Nat.reducePow, cC, pv, binv, sVeMax1, undef, g10, g11]
      refine ⟨_, ld_row1 (m := 1) (v := .int .i64 H) (i := j) (.tail _ (.head _)) rfl hzj, fun tok htok => ?_⟩
      subst htok
      simp -implicitDefEqProofs (disch := first | omega | decide) only [seval, -Int.reducePow, -Nat.reducePow, cC, pv, binv, sVeMax1, undef, g10, g11]
      refine ⟨_, ld_row1 (m := 1) (v := .int .i64 H) (i := j) (.tail _ (.head _)) rfl hzj, fun tok htok => ?_⟩
      subst htok
      simp -implicitDefEqProofs (disch := first | omega | decide) only [seval, -Int.reducePow, -Nat.reducePow, cC, pv, binv, sVeMax1, undef, g10, g11]
      refine rx_max3 rfl rfl rfl ?_
      simp -implicitDefEqProofs (disch := first | omega | decide) only [seval, -Int.reducePow, -Nat.reducePow, cC, pv, binv, sVeMax1, undef, g10, g11]
      refine hK _ _ ?_
      clear hK K
      refine cv_region_then rfl ?_
      simp -implicitDefEqProofs (disch := first | omega | decide) only [seval, -Int.reducePow, -Nat.reducePow, cC, pv, binv, sVeMax1, undef, wrap_in, g10, g11]
      refine ⟨⟨j + 1, max (max M H) (H - p + r), ?_⟩, ?_⟩
      · simp -implicitDefEqProofs (disch := first | omega | decide) only [seval, -Int.reducePow, -Nat.reducePow, cC, pv, binv, sVeMax1, undef, Int.natCast_add, g10, g11]
        refine ⟨by omega, by omega, by omega, fun i' hi' => ?_⟩
        rcases Nat.lt_or_ge i' j with h1 | h1
        · have := hM2 i' h1
          omega
        · rw [show i' = j by omega, hH]
          omega
      · simp only [intOf]; omega
    · have hH0 : ¬ 0 ≤ H := of_decide_eq_false ‹_›
      refine cv_skip ?_
      try simp only [blockQ, thenQ]
      refine hK _ _ ?_
      clear hK K
      refine cv_region_then rfl ?_
      simp -implicitDefEqProofs (disch := first | omega | decide) only [seval, -Int.reducePow, -Nat.reducePow, cC, pv, binv, sVeMax1, undef, wrap_in, g10, g11]
      refine ⟨⟨j + 1, M, ?_⟩, ?_⟩
      · simp -implicitDefEqProofs (disch := first | omega | decide) only [seval, -Int.reducePow, -Nat.reducePow, cC, pv, binv, sVeMax1, undef, Int.natCast_add, g10, g11]
        refine ⟨by omega, by omega, by omega, fun i' hi' => ?_⟩
        rcases Nat.lt_or_ge i' j with h1 | h1
        · exact hM2 i' h1
        · rw [show i' = j by omega, hH]
          omega
      · simp only [intOf]; omega
  refine cv_exit ?_
  simp only [blockQ, thenQ, if_true, ite_true]
  clear hK K
  refine hK _ _ ?_
  clear hK K
  have hjt : ¬ j < hf.length := by have := of_decide_eq_false ‹decide ((j : Int) < (hf.length : Int)) = false›; omega
  have hME : M = mxL hf := by
    have := mx_le (h := hf) hM0 (fun y hy => by
      obtain ⟨t, ht, rfl⟩ := List.getElem_of_mem hy
      have := hM2 t (by omega)
      unfold hAt at this
      rwa [List.getElem?_eq_getElem ht] at this)
    omega
  refine cv_seq_k fun K hK => ?_
  refine cv_region_then rfl ?_
  simp -implicitDefEqProofs (disch := first | omega | decide) only [seval, -Int.reducePow, -Nat.reducePow, cC, pv, binv, sVeMax1, undef, g10, g11]
  refine hK _ _ ?_
  clear hK K
  refine cv_ret ⟨_, (by simp -implicitDefEqProofs (disch := first | omega | decide) only [seval, -Int.reducePow, -Nat.reducePow, cC, pv, binv, sVeMax1, undef, g10, g11]; rfl), fun w hw => ?_⟩
  rw [hmx, hME]
  exact ⟨rfl, hw.below⟩
end Go.Proofs.Ytlbmnioibiomfaa
