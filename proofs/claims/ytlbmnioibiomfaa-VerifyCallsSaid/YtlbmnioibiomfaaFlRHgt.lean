/- The reference's Heights. -/
import Derived.Test.YtlbmnioibiomfaaFlHgt
namespace Go.Proofs.Ytlbmnioibiomfaa
open Go.RowKit Go.Shelf
set_option linter.unusedVariables false
set_option linter.unusedSimpArgs false
set_option maxRecDepth 100000
section
variable {W w : World} {L : List Res} {n c : Nat} {is : List Ins}
theorem Sl.inop {b off k : Nat} {x : Ins} (h : Sl W W.heap.size 2 (some ⟨b, off, none⟩) n c (cl insc is)) (hx : is[k]? = some x) : LD Try.prog [] W L 3 ⟨b, off + k * 2, none⟩ (.int .i64 x.op) :=
  h.ld1 (m := 1) (i := k * 2) (by kernel_rfl) (cl_get (j := 0) insc_len hx rfl)
end
def h1F (n j : Nat) : List Int := 0 :: (List.replicate (j - 1) (-1) ++ List.replicate (n - j) 0)
theorem h1F_len {n j : Nat} (h1 : 1 ≤ j) (h : j ≤ n) : (h1F n j).length = n := by simp [h1F]; omega
theorem h1F_start {n : Nat} (h : 0 < n) : List.replicate n 0 = h1F n 1 := by
  obtain ⟨m, rfl⟩ : ∃ m, n = m + 1 := ⟨n - 1, by omega⟩
  simp [h1F, List.replicate_succ]
theorem h1F_set {n j : Nat} (h1 : 1 ≤ j) (h : j < n) : (h1F n j).set j (-1) = h1F n (j + 1) := by
  obtain ⟨i, rfl⟩ : ∃ i, j = i + 1 := ⟨j - 1, by omega⟩
  unfold h1F
  rw [List.set_cons_succ, List.set_append_right _ _ (by simp)]
  have e : i - (List.replicate (i + 1 - 1) (-1 : Int)).length = 0 := by simp
  rw [e, show n - (i + 1) = n - (i + 1 + 1) + 1 by omega, List.replicate_succ, List.set_cons_zero, show i + 1 + 1 - 1 = i + 1 by omega, List.replicate_succ', show i + 1 - 1 = i by omega]
  simp
theorem h1F_end {n : Nat} (h : 0 < n) : h1F n n = h0F n := by
  unfold h0F h1F
  obtain ⟨m, rfl⟩ : ∃ m, n = m + 1 := ⟨n - 1, by omega⟩
  simp [List.replicate_succ]
theorem stE_host {gl : Nat} {x : FnR} {k : Nat} {i : Ins} (h : stE gl x k i = 0) (ho : i.op = 23) : i.arg ≤ 11 := by
  unfold stE hostP at h
  split at h
  · cases h
  split at h
  · cases h
  split at h
  · cases h
  split at h
  · cases h
  · omega
set_option maxRecDepth 100000 in
theorem sFlRHgt1 : type_of% (And.intro (And.intro (And.intro @fBox.eq_1 (And.intro @tBox.eq_1 @iBox.eq_1)) (And.intro (And.intro @mBox.eq_1 @gBox.eq_1) (And.intro @flBox.eq_1 @fdV.eq_1))) (And.intro (And.intro (And.intro @tyV.eq_1 @insV.eq_1) (And.intro @fnV.eq_1 @modV.eq_1)) (And.intro (And.intro @fltV.eq_1 @fineF.eq_1) (And.intro @Nat.mul_one @wrap_in)))) := (And.intro (And.intro (And.intro @fBox.eq_1 (And.intro @tBox.eq_1 @iBox.eq_1)) (And.intro (And.intro @mBox.eq_1 @gBox.eq_1) (And.intro @flBox.eq_1 @fdV.eq_1))) (And.intro (And.intro (And.intro @tyV.eq_1 @insV.eq_1) (And.intro @fnV.eq_1 @modV.eq_1)) (And.intro (And.intro @fltV.eq_1 @fineF.eq_1) (And.intro @Nat.mul_one @wrap_in))))
set_option maxHeartbeats 4000000 in
theorem rHeights_any (m : ModR) (f : Int) (W : World) (hM : Mod W W.heap.size m) : Calls Try.prog 17 #[modV m, .int .i64 f] W (rowP 3 1 (fun v => .tuple #[v, fltV (hgtF m f).2]) (i64z (hgtF m f).1) W) := by
  have hMat := fun {L : List Res} {w : World} (hw : St [] W L w) => hM.at hw
  have hfn := hM.fn
  have hG := hM.gs
  have hlg := hM.glen
  obtain ⟨q, hq⟩ : ∃ q, stF m f = q := ⟨_, rfl⟩
  have hno := fun h => hgtF_no (m := m) (f := f) h
  obtain ⟨TA, tn, tc, ts, FA, fn, fc, gs⟩ := m
  dsimp only at *
  rw [hq] at hno
  refine calls_cv2 (M := []) (n := 165) [.tmp 4, .cell 5 36] rfl Try.func17 rfl rfl (Nat.le_of_ble_eq_true rfl) (St.nil _ _) ?_
  refine cv_seq_k fun K hK => ?_
  refine cv_region_then rfl ?_
  simp -implicitDefEqProofs (disch := first | omega | decide) only [seval, -Int.reducePow, -Nat.reducePow, cC, pv, binv, sFlRHgt1, undef]
  intro b2 hb2 b5 hb5 hf5
  refine hK _ _ ?_
  clear hK K
  refine cv_seq_k fun K hK => ?_
  refine cv_region_then rfl ?_
  simp -implicitDefEqProofs (disch := first | omega | decide) only [seval, -Int.reducePow, -Nat.reducePow, cC, pv, binv, sFlRHgt1, undef]
  refine callV_ret (fun w hw => rStatic_any ⟨TA, tn, tc, ts, FA, fn, fc, gs⟩ f w (hMat hw)) ?_
  try simp -implicitDefEqProofs (disch := first | omega | decide) only [seval, -Int.reducePow, -Nat.reducePow, cC, pv, binv, sFlRHgt1, undef, hq]
  intro b6 hb6 hf6
  refine hK _ _ ?_
  clear hK K
  refine cv_gen fun G1 hG => ?_
  have g1_1 := congrFun hG 1
  have g1_2 := congrFun hG 2
  have g1_5 := congrFun hG 5
  have g1_6 := congrFun hG 6
  clear hG
  try simp -implicitDefEqProofs (disch := first | omega | decide) only [seval, -Int.reducePow, -Nat.reducePow, cC, pv, binv, sFlRHgt1, undef] at g1_1 g1_2 g1_5 g1_6
  have g1 := And.intro g1_1 (And.intro g1_2 (And.intro g1_5 g1_6))
  refine cv_seq_k fun K hK => ?_
  refine cv_seq_k fun K hK => ?_
  refine cv_region_then rfl ?_
  simp -implicitDefEqProofs (disch := first | omega | decide) only [seval, -Int.reducePow, -Nat.reducePow, cC, pv, binv, sFlRHgt1, undef, g1]
  refine hK _ _ ?_
  clear hK K
  refine cv_cond ?_
  simp -implicitDefEqProofs (disch := first | omega | decide) only [seval, -Int.reducePow, -Nat.reducePow, cC, pv, binv, sFlRHgt1, undef, g1]
  refine ⟨fun hc => ?_, fun hc => ?_⟩
  · have hz : ¬ q.1 = 0 := nd_true ‹(!decide (q.1 = 0)) = true›
    refine cv_seq_k fun K hK => ?_
    refine cv_draw [(true, 0), (true, 1), (false, 2)] [2] mixA rfl (by kernel_rfl) (by kernel_rfl) rfl rfl ?_
    simp -implicitDefEqProofs (disch := first | omega | decide) only [seval, -Int.reducePow, -Nat.reducePow, cC, pv, binv, sFlRHgt1, undef, g1]
    refine hK _ _ ?_
    clear hK K
    refine cv_ret ?_
    simp -implicitDefEqProofs (disch := first | omega | decide) only [seval, -Int.reducePow, -Nat.reducePow, cC, pv, binv, sFlRHgt1, undef, retQ2, ressV, packV, g1]
    intro w hw
    rw [hno hz]
    exact rowP_nil hw
  have hz : q.1 = 0 := Decidable.not_not.1 (nd_false ‹(!decide (q.1 = 0)) = false›)
  obtain ⟨h0, k, x, rfl, hk, hst⟩ := stF_ok (by rw [hq]; exact hz)
  have hyes := hgtF_yes (by rw [hq]; exact hz) hk
  dsimp only at hk hst hyes
  obtain ⟨-, -, -, hg32, hck⟩ := chkM_ok h0
  obtain ⟨-, -, -, -, -, -, hc1, h1024, -⟩ := fnErr_ok (hck k x hk).1
  have hX := hfn x (List.mem_of_getElem? hk)
  have hxl : x.code.length = x.n := cl_row insc_len (by omega) hX.len
  have hkf : k < fn := by have := (List.getElem?_eq_some_iff.1 hk).1; omega
  have hnx := nx_in hst
  have hfx := fx_bd (gs := gs) (fun g hg => by
    obtain ⟨i, hi⟩ := List.getElem?_of_mem hg
    obtain ⟨g1, g2, g3, g4, g5, g6, -⟩ := fnErr_ok (hck i g hi).1
    omega)
  obtain ⟨b9, of9, rfl, hb9, -⟩ := hG.cells (by omega)
  refine cv_skip ?_
  try simp only [blockQ, thenQ]
  refine hK _ _ ?_
  clear hK K
  refine cv_seq_k fun K hK => ?_
  refine cv_region_then rfl ?_
  simp -implicitDefEqProofs (disch := first | omega | decide) only [seval, -Int.reducePow, -Nat.reducePow, cC, pv, binv, sFlRHgt1, undef, g1]
  refine ⟨_, hG.fnf hk, fun tok htok => ?_⟩
  subst htok
  simp -implicitDefEqProofs (disch := first | omega | decide) only [seval, -Int.reducePow, -Nat.reducePow, cC, pv, binv, sFlRHgt1, undef, g1]
  refine hK _ _ ?_
  clear hK K
  refine cv_gen fun G2 hG => ?_
  have g2_1 := congrFun hG 1
  have g2_2 := congrFun hG 2
  have g2_5 := congrFun hG 5
  have g2_7 := congrFun hG 7
  clear hG
  try simp -implicitDefEqProofs (disch := first | omega | decide) only [seval, -Int.reducePow, -Nat.reducePow, cC, pv, binv, sFlRHgt1, undef, g1] at g2_1 g2_2 g2_5 g2_7
  have g2 := And.intro g2_1 (And.intro g2_2 (And.intro g2_5 g2_7))
  refine cv_seq_k fun K hK => ?_
  refine cv_region_then rfl ?_
  simp -implicitDefEqProofs (disch := first | omega | decide) only [seval, -Int.reducePow, -Nat.reducePow, cC, pv, binv, sFlRHgt1, undef, g2]
  refine xv_make (u := .int .i64 0) tap45 rfl rfl rfl (by omega) (by omega) ?_
  intro b8 hb8 hf8
  simp -implicitDefEqProofs (disch := first | omega | decide) only [seval, -Int.reducePow, -Nat.reducePow, cC, pv, binv, sFlRHgt1, undef, g2]
  simp -implicitDefEqProofs (disch := first | omega | decide) only [seval, -Int.reducePow, -Nat.reducePow, cC, pv, binv, sFlRHgt1, undef, g2] at hf8
  refine hK _ _ ?_
  clear hK K
  refine cv_seq_k fun K hK => ?_
  refine cv_region_then rfl ?_
  simp -implicitDefEqProofs (disch := first | omega | decide) only [seval, -Int.reducePow, -Nat.reducePow, cC, pv, binv, sFlRHgt1, undef, g2]
  refine xv_make (u := .bool false) tapB rfl rfl rfl (by omega) (by omega) ?_
  intro b10 hb10 hf10
  simp -implicitDefEqProofs (disch := first | omega | decide) only [seval, -Int.reducePow, -Nat.reducePow, cC, pv, binv, sFlRHgt1, undef, g2]
  simp -implicitDefEqProofs (disch := first | omega | decide) only [seval, -Int.reducePow, -Nat.reducePow, cC, pv, binv, sFlRHgt1, undef, g2] at hf10
  rw [show List.replicate x.n (Value.bool false) = boz (List.replicate x.n false) by unfold boz; rw [List.map_replicate], show List.replicate x.n (Value.int .i64 0) = i64z (List.replicate x.n 0) by unfold i64z; rw [List.map_replicate]]
  refine hK _ _ ?_
  clear hK K
  refine cv_gen fun G3 hG => ?_
  have g3_1 := congrFun hG 1
  have g3_2 := congrFun hG 2
  have g3_5 := congrFun hG 5
  have g3_7 := congrFun hG 7
  have g3_8 := congrFun hG 8
  have g3_9 := congrFun hG 9
  clear hG
  try simp -implicitDefEqProofs (disch := first | omega | decide) only [seval, -Int.reducePow, -Nat.reducePow, cC, pv, binv, sFlRHgt1, undef, g2] at g3_1 g3_2 g3_5 g3_7 g3_8 g3_9
  have g3 := And.intro g3_1 (And.intro g3_2 (And.intro g3_5 (And.intro g3_7 (And.intro g3_8 g3_9))))
  refine cv_seq_k fun K hK => ?_
  refine cv_seq_k fun K hK => ?_
  refine cv_region_then rfl ?_
  simp -implicitDefEqProofs (disch := first | omega | decide) only [seval, -Int.reducePow, -Nat.reducePow, cC, pv, binv, sFlRHgt1, undef, g3]
  refine hK _ _ ?_
  clear hK K
  refine cv_block ?_
  refine cv_loop (fun F' L' => ∃ (j : Nat), F' 1 = G3 1 ∧ F' 2 = G3 2 ∧ F' 5 = G3 5 ∧ F' 7 = G3 7 ∧ F' 8 = G3 8 ∧ F' 9 = G3 9 ∧ F' 10 = .int .i64 (j : Int) ∧ L' = [.blk b10 4 (boz (List.replicate x.n false)), .blk b8 3 (i64z (h1F x.n j)), flBox b6 q.1 q.2.1 q.2.2, flBox b5 0 0 0, mBox b2 ⟨TA, tn, tc, ts, some ⟨b9, of9, none⟩, fn, fc, gs⟩] ∧ 1 ≤ j ∧ j ≤ x.n) (fun F' L' => 1100 - (intOf (F' 10)).toNat) ?_ ?_
  · refine ⟨1, ?_⟩
    simp -implicitDefEqProofs (disch := first | omega | decide) only [seval, -Int.reducePow, -Nat.reducePow, cC, pv, binv, sFlRHgt1, undef, g3]
    rw [h1F_start (by omega)]
    exact ⟨rfl, by omega⟩
  intro G4 L' hI
  obtain ⟨j, q1, q2, q5, q7, q8, q9, q10, rfl, ⟨hj1, hj⟩⟩ := hI
  have g4_1 := q1.trans g3_1
  have g4_2 := q2.trans g3_2
  have g4_5 := q5.trans g3_5
  have g4_7 := q7.trans g3_7
  have g4_8 := q8.trans g3_8
  have g4_9 := q9.trans g3_9
  have g4_10 := q10
  clear q1 q2 q5 q7 q8 q9 q10
  have g4 := And.intro g4_1 (And.intro g4_2 (And.intro g4_5 (And.intro g4_7 (And.intro g4_8 (And.intro g4_9 g4_10)))))
  refine cv_seq_k fun K hK => ?_
  refine cv_seq_k fun K hK => ?_
  refine cv_region_then rfl ?_
  simp -implicitDefEqProofs (disch := first | omega | decide) only [seval, -Int.reducePow, -Nat.reducePow, cC, pv, binv, sFlRHgt1, undef, g3, g4]
  refine hK _ _ ?_
  clear hK K
  refine cv_cond ?_
  simp -implicitDefEqProofs (disch := first | omega | decide) only [seval, -Int.reducePow, -Nat.reducePow, cC, pv, binv, sFlRHgt1, undef, g3, g4]
  refine ⟨fun hc => ?_, fun hc => ?_⟩
  · refine cv_skip ?_
    try simp only [blockQ, thenQ]
    have hlt : j < x.n := by have := of_decide_eq_true ‹decide ((j : Int) < (x.n : Int)) = true›; omega
    have hln := h1F_len hj1 hj
    have hst := z_set (h := h1F x.n j) (k := j) (-1) (by omega)
    rw [h1F_set hj1 hlt] at hst
    refine hK _ _ ?_
    clear hK K
    refine cv_seq_k fun K hK => ?_
    refine cv_block ?_
    refine cv_q ?_
    refine cv_region_then rfl ?_
    simp -implicitDefEqProofs (disch := first | omega | decide) only [seval, -Int.reducePow, -Nat.reducePow, cC, pv, binv, sFlRHgt1, undef, hst, z_len, hln, g3, g4]
    refine ⟨by omega, ?_⟩
    refine hK _ _ ?_
    clear hK K
    refine cv_region_then rfl ?_
    simp -implicitDefEqProofs (disch := first | omega | decide) only [seval, -Int.reducePow, -Nat.reducePow, cC, pv, binv, sFlRHgt1, undef, g3, g4]
    refine ⟨⟨j + 1, ?_⟩, ?_⟩
    · simp -implicitDefEqProofs (disch := first | omega | decide) only [seval, -Int.reducePow, -Nat.reducePow, cC, pv, binv, sFlRHgt1, undef, Int.natCast_add, g3, g4]
      omega
    · simp only [intOf]; omega
  refine cv_exit ?_
  simp only [blockQ, thenQ, if_true, ite_true]
  clear hK K
  refine hK _ _ ?_
  clear hK K
  have hje : j = x.n := by have := of_decide_eq_false ‹decide ((j : Int) < (x.n : Int)) = false›; omega
  rw [hje, h1F_end (by omega)]
  refine cv_gen fun G5 hG => ?_
  have g5_1 := congrFun hG 1
  have g5_2 := congrFun hG 2
  have g5_5 := congrFun hG 5
  have g5_7 := congrFun hG 7
  have g5_8 := congrFun hG 8
  have g5_9 := congrFun hG 9
  clear hG
  try simp -implicitDefEqProofs (disch := first | omega | decide) only [seval, -Int.reducePow, -Nat.reducePow, cC, pv, binv, sFlRHgt1, undef, g3, g4] at g5_1 g5_2 g5_5 g5_7 g5_8 g5_9
  have g5 := And.intro g5_1 (And.intro g5_2 (And.intro g5_5 (And.intro g5_7 (And.intro g5_8 g5_9))))
  refine cv_block ?_
  refine cv_loop (fun F' L' => ∃ (h : List Int) (d : List Bool) (fu : Nat), F' 1 = G5 1 ∧ F' 2 = G5 2 ∧ F' 5 = G5 5 ∧ F' 7 = G5 7 ∧ F' 8 = G5 8 ∧ F' 9 = G5 9 ∧ L' = [.blk b10 4 (boz d), .blk b8 3 (i64z h), flBox b6 q.1 q.2.1 q.2.2, flBox b5 0 0 0, mBox b2 ⟨TA, tn, tc, ts, some ⟨b9, of9, none⟩, fn, fc, gs⟩] ∧ RunOk gs x h d ∧ undone d ≤ fu ∧ hgtR gs x = runF gs x fu h d) (fun F' L' => undoneV L') ?_ ?_
  · refine ⟨h0F x.n, List.replicate x.n false, x.n, ?_⟩
    simp -implicitDefEqProofs (disch := first | omega | decide) only [seval, -Int.reducePow, -Nat.reducePow, cC, pv, binv, sFlRHgt1, undef, g3, g4, g5]
    rw [← hxl]
    exact ⟨run_zero (by omega), Nat.le_of_eq (undone_new _), rfl⟩
  intro G6 L' hI
  obtain ⟨h, d, fu, q1, q2, q5, q7, q8, q9, rfl, ⟨hrun, hfu, hrr⟩⟩ := hI
  have g6_1 := q1.trans g5_1
  have g6_2 := q2.trans g5_2
  have g6_5 := q5.trans g5_5
  have g6_7 := q7.trans g5_7
  have g6_8 := q8.trans g5_8
  have g6_9 := q9.trans g5_9
  clear q1 q2 q5 q7 q8 q9
  have g6 := And.intro g6_1 (And.intro g6_2 (And.intro g6_5 (And.intro g6_7 (And.intro g6_8 g6_9))))
  have hhl := hrun.hlen
  have hdl := hrun.dlen
  refine cv_block ?_
  refine cv_seq_k fun K hK => ?_
  refine cv_region_then rfl ?_
  simp -implicitDefEqProofs (disch := first | omega | decide) only [seval, -Int.reducePow, -Nat.reducePow, cC, pv, binv, sFlRHgt1, undef, g3, g4, g5, g6]
  refine hK _ _ ?_
  clear hK K
  refine cv_gen fun G7 hG => ?_
  have g7_1 := congrFun hG 1
  have g7_2 := congrFun hG 2
  have g7_5 := congrFun hG 5
  have g7_7 := congrFun hG 7
  have g7_8 := congrFun hG 8
  have g7_9 := congrFun hG 9
  have g7_11 := congrFun hG 11
  clear hG
  try simp -implicitDefEqProofs (disch := first | omega | decide) only [seval, -Int.reducePow, -Nat.reducePow, cC, pv, binv, sFlRHgt1, undef, g3, g4, g5, g6] at g7_1 g7_2 g7_5 g7_7 g7_8 g7_9 g7_11
  have g7 := And.intro g7_1 (And.intro g7_2 (And.intro g7_5 (And.intro g7_7 (And.intro g7_8 (And.intro g7_9 g7_11)))))
  refine cv_seq_k fun K hK => ?_
  refine cv_block ?_
  refine cv_loop (fun F' L' => ∃ (at' : Nat), F' 1 = G7 1 ∧ F' 2 = G7 2 ∧ F' 5 = G7 5 ∧ F' 7 = G7 7 ∧ F' 8 = G7 8 ∧ F' 9 = G7 9 ∧ F' 11 = .int .i64 (at' : Int) ∧ L' = [.blk b10 4 (boz d), .blk b8 3 (i64z h), flBox b6 q.1 q.2.1 q.2.2, flBox b5 0 0 0, mBox b2 ⟨TA, tn, tc, ts, some ⟨b9, of9, none⟩, fn, fc, gs⟩] ∧ at' ≤ x.n ∧ ∀ j, j < at' → openB h d j = false) (fun F' L' => 1100 - (intOf (F' 11)).toNat) ?_ ?_
  · refine ⟨0, ?_⟩
    simp -implicitDefEqProofs (disch := first | omega | decide) only [seval, -Int.reducePow, -Nat.reducePow, cC, pv, binv, sFlRHgt1, undef, g3, g4, g5, g6, g7]
    exact ⟨by omega, fun j hj => by omega⟩
  intro G8 L' hI
  obtain ⟨at', q1, q2, q5, q7, q8, q9, q11, rfl, ⟨hat, hop⟩⟩ := hI
  have g8_1 := q1.trans g7_1
  have g8_2 := q2.trans g7_2
  have g8_5 := q5.trans g7_5
  have g8_7 := q7.trans g7_7
  have g8_8 := q8.trans g7_8
  have g8_9 := q9.trans g7_9
  have g8_11 := q11
  clear q1 q2 q5 q7 q8 q9 q11
  have g8 := And.intro g8_1 (And.intro g8_2 (And.intro g8_5 (And.intro g8_7 (And.intro g8_8 (And.intro g8_9 g8_11)))))
  refine cv_seq_k fun K hK => ?_
  refine cv_seq_k fun K hK => ?_
  refine cv_cut (fun _ _ => True) (fun F' L' => F' 1 = G8 1 ∧ F' 2 = G8 2 ∧ F' 5 = G8 5 ∧ F' 7 = G8 7 ∧ F' 8 = G8 8 ∧ F' 9 = G8 9 ∧ F' 11 = G8 11 ∧ F' 61 = .bool (decide (at' < x.n ∧ openB h d at' = false)) ∧ L' = [.blk b10 4 (boz d), .blk b8 3 (i64z h), flBox b6 q.1 q.2.1 q.2.2, flBox b5 0 0 0, mBox b2 ⟨TA, tn, tc, ts, some ⟨b9, of9, none⟩, fn, fc, gs⟩]) ?_ ?_
  · by_cases hlt : at' < x.n
    · obtain ⟨db, hdb⟩ := some_of (l := d) (i := at') (by omega)
      have hzk := z_get (h := h) (k := at') (by omega)
      have hdk := bz_get hdb
      have hrk := hrun.rng at'
      obtain ⟨H, hH⟩ : ∃ H, hAt h at' = H := ⟨_, rfl⟩
      rw [hH] at hzk hrk
      have hob : openB h d at' = (decide (¬ H = -1) && !db) := by unfold openB; rw [hH, hdb] <;> rfl
      have h1' : decide ((at' : Int) < (x.n : Int)) = true := decide_eq_true (by omega)
      by_cases hH0 : H < 0
      · have h2' : decide (H < 0) = true := decide_eq_true hH0
        have hof : openB h d at' = false := by rw [hob, show H = -1 by omega]; rfl
        refine cv_region_then rfl ?_
        simp -implicitDefEqProofs (disch := first | omega | decide) only [seval, -Int.reducePow, -Nat.reducePow, cC, pv, binv, sFlRHgt1, undef, hzk, hdk, h1', h2', g3, g4, g5, g6, g7, g8]
        rw [hof]
        all_goals (repeat' refine And.intro ?_ ?_)
        all_goals (first | with_reducible rfl | (refine congrArg Value.bool ?_; rw [Bool.eq_iff_iff]; (try simp only [decide_eq_true_eq, eq_self, true_and, and_true, false_and, and_false, true_or, or_true, false_or, or_false, not_true_eq_false, not_false_eq_true, true_iff, iff_true, false_iff, iff_false, Bool.false_eq_true, Bool.not_eq_true', Bool.not_eq_true, decide_eq_false_iff_not, Bool.and_eq_true, Bool.or_eq_true]) <;> omega) | (refine congrArg (Value.int _) ?_; omega) | omega)
      · have h2' : decide (H < 0) = false := decide_eq_false hH0
        cases db
        · have hof : openB h d at' = true := by rw [hob]; simp; omega
          refine cv_region_then rfl ?_
          simp -implicitDefEqProofs (disch := first | omega | decide) only [seval, -Int.reducePow, -Nat.reducePow, cC, pv, binv, sFlRHgt1, undef, hzk, hdk, h1', h2', g3, g4, g5, g6, g7, g8]
          rw [hof]
          all_goals (repeat' refine And.intro ?_ ?_)
          all_goals (first | with_reducible rfl | (refine congrArg Value.bool ?_; rw [Bool.eq_iff_iff]; (try simp only [Bool.true_eq_false, decide_eq_true_eq, eq_self, true_and, and_true, false_and, and_false, true_or, or_true, false_or, or_false, not_true_eq_false, not_false_eq_true, true_iff, iff_true, false_iff, iff_false, Bool.false_eq_true, Bool.not_eq_true', Bool.not_eq_true, decide_eq_false_iff_not, Bool.and_eq_true, Bool.or_eq_true]) <;> omega) | (refine congrArg (Value.int _) ?_; omega) | omega)
        · have hof : openB h d at' = false := by rw [hob]; simp
          refine cv_region_then rfl ?_
          simp -implicitDefEqProofs (disch := first | omega | decide) only [seval, -Int.reducePow, -Nat.reducePow, cC, pv, binv, sFlRHgt1, undef, hzk, hdk, h1', h2', g3, g4, g5, g6, g7, g8]
          rw [hof]
          all_goals (repeat' refine And.intro ?_ ?_)
          all_goals (first | with_reducible rfl | (refine congrArg Value.bool ?_; rw [Bool.eq_iff_iff]; (try simp only [Bool.true_eq_false, decide_eq_true_eq, eq_self, true_and, and_true, false_and, and_false, true_or, or_true, false_or, or_false, not_true_eq_false, not_false_eq_true, true_iff, iff_true, false_iff, iff_false, Bool.false_eq_true, Bool.not_eq_true', Bool.not_eq_true, decide_eq_false_iff_not, Bool.and_eq_true, Bool.or_eq_true]) <;> omega) | (refine congrArg (Value.int _) ?_; omega) | omega)
    · have h1' : decide ((at' : Int) < (x.n : Int)) = false := decide_eq_false (by omega)
      refine cv_region_then rfl ?_
      simp -implicitDefEqProofs (disch := first | omega | decide) only [seval, -Int.reducePow, -Nat.reducePow, cC, pv, binv, sFlRHgt1, undef, h1', g3, g4, g5, g6, g7, g8]
      all_goals (repeat' refine And.intro ?_ ?_)
      all_goals (first | with_reducible rfl | (refine congrArg Value.bool ?_; rw [Bool.eq_iff_iff]; (try simp only [decide_eq_true_eq, eq_self, true_and, and_true, false_and, and_false, true_or, or_true, false_or, or_false, not_true_eq_false, not_false_eq_true, true_iff, iff_true, false_iff, iff_false, Bool.false_eq_true, Bool.not_eq_true', Bool.not_eq_true, decide_eq_false_iff_not, Bool.and_eq_true, Bool.or_eq_true]) <;> omega) | (refine congrArg (Value.int _) ?_; omega) | omega)
  intro G9 L' _ hF
  obtain ⟨q1, q2, q5, q7, q8, q9, q11, q61, rfl⟩ := hF
  have g9_1 := q1.trans g8_1
  have g9_2 := q2.trans g8_2
  have g9_5 := q5.trans g8_5
  have g9_7 := q7.trans g8_7
  have g9_8 := q8.trans g8_8
  have g9_9 := q9.trans g8_9
  have g9_11 := q11.trans g8_11
  have g9_61 := q61
  clear q1 q2 q5 q7 q8 q9 q11 q61
  have g9 := And.intro g9_1 (And.intro g9_2 (And.intro g9_5 (And.intro g9_7 (And.intro g9_8 (And.intro g9_9 (And.intro g9_11 g9_61))))))
  refine hK _ _ ?_
  clear hK K
  refine cv_cond ?_
  simp -implicitDefEqProofs (disch := first | omega | decide) only [seval, -Int.reducePow, -Nat.reducePow, cC, pv, binv, sFlRHgt1, undef, g3, g4, g5, g6, g7, g8, g9]
  refine ⟨fun hc => ?_, fun hc => ?_⟩
  · refine cv_skip ?_
    try simp only [blockQ, thenQ]
    obtain ⟨hlt, hof⟩ : at' < x.n ∧ openB h d at' = false := of_decide_eq_true ‹_›
    refine hK _ _ ?_
    clear hK K
    refine cv_block ?_
    refine cv_region_q rfl ?_
    simp -implicitDefEqProofs (disch := first | omega | decide) only [seval, -Int.reducePow, -Nat.reducePow, cC, pv, binv, sFlRHgt1, undef, wrap_in, g3, g4, g5, g6, g7, g8, g9]
    refine ⟨⟨at' + 1, ?_⟩, ?_⟩
    · simp -implicitDefEqProofs (disch := first | omega | decide) only [seval, -Int.reducePow, -Nat.reducePow, cC, pv, binv, sFlRHgt1, undef, Int.natCast_add, g3, g4, g5, g6, g7, g8, g9]
      refine ⟨by omega, fun j hj => ?_⟩
      rcases Nat.lt_or_ge j at' with h1 | h1
      · exact hop j h1
      · rw [show j = at' by omega]; exact hof
    · simp only [intOf]; omega
  refine cv_exit ?_
  simp only [blockQ, thenQ, if_true, ite_true]
  clear hK K
  refine hK _ _ ?_
  clear hK K
  have hnl : ¬ (at' < x.n ∧ openB h d at' = false) := of_decide_eq_false ‹_›
  by_cases hlt : at' < x.n
  · have hot : openB h d at' = true := by
      cases hx : openB h d at'
      · exact absurd ⟨hlt, hx⟩ hnl
      · rfl
    have hE' : decide ((at' : Int) = (x.n : Int)) = false := decide_eq_false (by omega)
    obtain ⟨i, hi⟩ := some_of (l := x.code) (i := at') (by omega)
    obtain ⟨db, hdb⟩ := some_of (l := d) (i := at') (by omega)
    have hii : insAt x at' = i := insAt_of hi
    have hzk := z_get (h := h) (k := at') (by omega)
    have hdk := bz_get hdb
    have hlb : leastB h d = some at' := leastB_some (by omega) hot hop
    have hrk := hrun.rng at'
    obtain ⟨v, hv⟩ : ∃ v, hAt h at' + ((fxP gs i).2 - (fxP gs i).1) = v := ⟨_, rfl⟩
    have hS := stepF_eq (x := x) hv
    have hpb := hfx i
    obtain ⟨pq, hpq⟩ : ∃ pq, fxP gs i = pq := ⟨_, rfl⟩
    rw [hpq] at hS hv hpb
    obtain ⟨p, r⟩ := pq
    dsimp only at hS hv hpb
    obtain ⟨H, hH⟩ : ∃ H, hAt h at' = H := ⟨_, rfl⟩
    have hot2 := hot
    unfold openB at hot2
    rw [hH, hdb] at hot2
    rw [hH] at hzk hrk hS hv
    obtain ⟨rfl, hHn⟩ : db = false ∧ ¬ H = -1 := by
      cases db
      · exact ⟨rfl, by simpa using hot2⟩
      · simp at hot2
    have hv' : H - p + r = v := by omega
    have hds := bz_set (d := d) (k := at') true (by omega)
    have hun := undone_set hdb
    obtain ⟨fu, rfl⟩ : ∃ fu', fu = fu' + 1 := ⟨fu - 1, by omega⟩
    have hci := fun ho => stE_call (hst at' i hi) ho
    have hch := fun ho => stE_host (hst at' i hi) ho
    have hnj : ∀ j ∈ nxP i at', j < x.code.length := fun j hj => hnx at' (by omega) j (by rwa [hii])
    obtain ⟨b0, off, hA, hb0, -⟩ := hX.cells (by omega)
    have hX' : Sl W W.heap.size 2 (some ⟨b0, off, none⟩) x.n x.c (cl insc x.code) := hA ▸ hX
    refine cv_seq_k fun K hK => ?_
    refine cv_seq_k fun K hK => ?_
    refine cv_region_then rfl ?_
    simp -implicitDefEqProofs (disch := first | omega | decide) only [seval, -Int.reducePow, -Nat.reducePow, cC, pv, binv, sFlRHgt1, undef, g3, g4, g5, g6, g7, g8, g9]
    refine hK _ _ ?_
    clear hK K
    refine cv_cond ?_
    simp -implicitDefEqProofs (disch := first | omega | decide) only [seval, -Int.reducePow, -Nat.reducePow, cC, pv, binv, sFlRHgt1, undef, hE', g3, g4, g5, g6, g7, g8, g9]
    refine cv_skip ?_
    try simp only [blockQ, thenQ]
    refine hK _ _ ?_
    clear hK K
    refine cv_seq_k fun K hK => ?_
    refine cv_region_then rfl ?_
    simp -implicitDefEqProofs (disch := first | omega | decide) only [seval, -Int.reducePow, -Nat.reducePow, cC, pv, binv, sFlRHgt1, undef, hds, bz_len, g3, g4, g5, g6, g7, g8, g9]
    refine ⟨by omega, ?_⟩
    refine hK _ _ ?_
    clear hK K
    refine cv_seq_k fun K hK => ?_
    refine cv_draw [(true, 0), (true, 1), (true, 2), (true, 3), (true, 4), (false, 5), (true, 6), (true, 7), (true, 8), (true, 9), (true, 10)] [] mixA rfl (by kernel_rfl) (by kernel_rfl) rfl rfl ?_
    simp -implicitDefEqProofs (disch := first | omega | decide) only [seval, -Int.reducePow, -Nat.reducePow, cC, pv, binv, sFlRHgt1, undef, hA, g3, g4, g5, g6, g7, g8, g9]
    refine ⟨_, hX'.ins hi, fun tok htok => ?_⟩
    subst htok
    simp -implicitDefEqProofs (disch := first | omega | decide) only [seval, -Int.reducePow, -Nat.reducePow, cC, pv, binv, sFlRHgt1, undef, hA, g3, g4, g5, g6, g7, g8, g9]
    refine callV_ret (fun w hw => moves_any ⟨TA, tn, tc, ts, some ⟨b9, of9, none⟩, fn, fc, gs⟩ i w (hMat hw) hci hch) ?_
    try simp -implicitDefEqProofs (disch := first | omega | decide) only [seval, -Int.reducePow, -Nat.reducePow, cC, pv, binv, sFlRHgt1, undef, hpq, g3, g4, g5, g6, g7, g8, g9]
    refine hK _ _ ?_
    clear hK K
    refine cv_seq_k fun K hK => ?_
    refine cv_region_then rfl ?_
    simp -implicitDefEqProofs (disch := first | omega | decide) only [seval, -Int.reducePow, -Nat.reducePow, cC, pv, binv, sFlRHgt1, undef, hzk, hv', g3, g4, g5, g6, g7, g8, g9]
    refine hK _ _ ?_
    clear hK K
    refine cv_gen fun G10 hG => ?_
    have g10_1 := congrFun hG 1
    have g10_2 := congrFun hG 2
    have g10_5 := congrFun hG 5
    have g10_7 := congrFun hG 7
    have g10_8 := congrFun hG 8
    have g10_9 := congrFun hG 9
    have g10_11 := congrFun hG 11
    have g10_12 := congrFun hG 12
    have g10_14 := congrFun hG 14
    clear hG
    try simp -implicitDefEqProofs (disch := first | omega | decide) only [seval, -Int.reducePow, -Nat.reducePow, cC, pv, binv, sFlRHgt1, undef, hA, g3, g4, g5, g6, g7, g8, g9] at g10_1 g10_2 g10_5 g10_7 g10_8 g10_9 g10_11 g10_12 g10_14
    have g10 := And.intro g10_1 (And.intro g10_2 (And.intro g10_5 (And.intro g10_7 (And.intro g10_8 (And.intro g10_9 (And.intro g10_11 (And.intro g10_12 g10_14)))))))
    refine cv_seq_k fun K hK => ?_
    refine cv_seq_k fun K hK => ?_
    refine cv_cut (fun _ _ => True) (fun F' L' => F' 1 = G10 1 ∧ F' 2 = G10 2 ∧ F' 5 = G10 5 ∧ F' 7 = G10 7 ∧ F' 8 = G10 8 ∧ F' 9 = G10 9 ∧ F' 11 = G10 11 ∧ F' 14 = G10 14 ∧ F' 120 = .bool (decide (H < p ∨ 64 < v ∨ (i.op = 22 ∧ ¬ H = x.r))) ∧ L' = [.blk b10 4 (boz (d.set at' true)), .blk b8 3 (i64z h), flBox b6 q.1 q.2.1 q.2.2, flBox b5 0 0 0, mBox b2 ⟨TA, tn, tc, ts, some ⟨b9, of9, none⟩, fn, fc, gs⟩]) ?_ ?_
    · by_cases a1 : H < p
      · have a1' : decide (H < p) = true := decide_eq_true a1
        refine cv_draw [(true, 0), (true, 1), (true, 2), (true, 3), (true, 4), (true, 5), (true, 6), (true, 7), (true, 8), (true, 9), (true, 10), (true, 11), (true, 12), (true, 13), (true, 14), (true, 15), (true, 16), (true, 17), (true, 18), (true, 19), (true, 20), (true, 21), (true, 22), (true, 23), (true, 24), (true, 25), (true, 26), (true, 27), (true, 28), (true, 29), (true, 30)] [] mixA rfl (by kernel_rfl) (by kernel_rfl) rfl rfl ?_
        simp -implicitDefEqProofs (disch := first | omega | decide) only [seval, -Int.reducePow, -Nat.reducePow, cC, pv, binv, sFlRHgt1, undef, hzk, a1', g3, g4, g5, g6, g7, g8, g10]
        all_goals (repeat' refine And.intro ?_ ?_)
        all_goals (first | with_reducible rfl | (refine congrArg Value.bool ?_; rw [Bool.eq_iff_iff]; (try simp only [decide_eq_true_eq, eq_self, true_and, and_true, false_and, and_false, true_or, or_true, false_or, or_false, not_true_eq_false, not_false_eq_true, true_iff, iff_true, false_iff, iff_false, Bool.false_eq_true, Bool.not_eq_true', Bool.not_eq_true, decide_eq_false_iff_not, Bool.and_eq_true, Bool.or_eq_true]) <;> omega) | (refine congrArg (Value.int _) ?_; omega) | omega)
      have a1' : decide (H < p) = false := decide_eq_false a1
      by_cases a2 : 64 < v
      · have a2' : decide (64 < v) = true := decide_eq_true a2
        refine cv_draw [(true, 0), (true, 1), (true, 2), (true, 3), (true, 4), (true, 5), (true, 6), (true, 7), (true, 8), (true, 9), (true, 10), (true, 11), (true, 12), (true, 13), (true, 14), (true, 15), (true, 16), (true, 17), (true, 18), (true, 19), (true, 20), (true, 21), (true, 22), (true, 23), (true, 24), (true, 25), (true, 26), (true, 27), (true, 28), (true, 29), (true, 30)] [] mixA rfl (by kernel_rfl) (by kernel_rfl) rfl rfl ?_
        simp -implicitDefEqProofs (disch := first | omega | decide) only [seval, -Int.reducePow, -Nat.reducePow, cC, pv, binv, sFlRHgt1, undef, hzk, a1', a2', g3, g4, g5, g6, g7, g8, g10]
        all_goals (repeat' refine And.intro ?_ ?_)
        all_goals (first | with_reducible rfl | (refine congrArg Value.bool ?_; rw [Bool.eq_iff_iff]; (try simp only [decide_eq_true_eq, eq_self, true_and, and_true, false_and, and_false, true_or, or_true, false_or, or_false, not_true_eq_false, not_false_eq_true, true_iff, iff_true, false_iff, iff_false, Bool.false_eq_true, Bool.not_eq_true', Bool.not_eq_true, decide_eq_false_iff_not, Bool.and_eq_true, Bool.or_eq_true]) <;> omega) | (refine congrArg (Value.int _) ?_; omega) | omega)
      have a2' : decide (64 < v) = false := decide_eq_false a2
      by_cases a3 : i.op = 22
      · have a3' : decide (i.op = 22) = true := decide_eq_true a3
        refine cv_draw [(true, 0), (true, 1), (true, 2), (true, 3), (true, 4), (true, 5), (true, 6), (true, 7), (true, 8), (true, 9), (true, 10), (true, 11), (true, 12), (true, 13), (true, 14), (true, 15), (true, 16), (true, 17), (true, 18), (true, 19), (true, 20), (true, 21), (true, 22), (true, 23), (true, 24), (true, 25), (true, 26), (true, 27), (true, 28), (true, 29), (true, 30)] [] mixA rfl (by kernel_rfl) (by kernel_rfl) rfl rfl ?_
        simp -implicitDefEqProofs (disch := first | omega | decide) only [seval, -Int.reducePow, -Nat.reducePow, cC, pv, binv, sFlRHgt1, undef, hzk, a1', a2', a3', hA, g3, g4, g5, g6, g7, g8, g10]
        refine ⟨_, hX'.inop hi, fun tok htok => ?_⟩
        subst htok
        simp -implicitDefEqProofs (disch := first | omega | decide) only [seval, -Int.reducePow, -Nat.reducePow, cC, pv, binv, sFlRHgt1, undef, hzk, a1', a2', a3', g3, g4, g5, g6, g7, g8, g10]
        refine ⟨_, hG.fnr hk, fun tok htok => ?_⟩
        subst htok
        simp -implicitDefEqProofs (disch := first | omega | decide) only [seval, -Int.reducePow, -Nat.reducePow, cC, pv, binv, sFlRHgt1, undef, hzk, a1', a2', a3', g3, g4, g5, g6, g7, g8, g10]
        all_goals (repeat' refine And.intro ?_ ?_)
        all_goals (first | with_reducible rfl | (refine congrArg Value.bool ?_; rw [Bool.eq_iff_iff]; (try simp only [decide_eq_true_eq, eq_self, true_and, and_true, false_and, and_false, true_or, or_true, false_or, or_false, not_true_eq_false, not_false_eq_true, true_iff, iff_true, false_iff, iff_false, Bool.false_eq_true, Bool.not_eq_true', Bool.not_eq_true, decide_eq_false_iff_not, Bool.and_eq_true, Bool.or_eq_true]) <;> omega) | (refine congrArg (Value.int _) ?_; omega) | omega)
      have a3' : decide (i.op = 22) = false := decide_eq_false a3
      refine cv_draw [(true, 0), (true, 1), (true, 2), (true, 3), (true, 4), (true, 5), (true, 6), (true, 7), (true, 8), (true, 9), (true, 10), (true, 11), (true, 12), (true, 13), (true, 14), (true, 15), (true, 16), (true, 17), (true, 18), (true, 19), (true, 20), (true, 21), (true, 22), (true, 23), (true, 24), (true, 25), (true, 26), (true, 27), (true, 28), (true, 29), (true, 30)] [] mixA rfl (by kernel_rfl) (by kernel_rfl) rfl rfl ?_
      simp -implicitDefEqProofs (disch := first | omega | decide) only [seval, -Int.reducePow, -Nat.reducePow, cC, pv, binv, sFlRHgt1, undef, hzk, a1', a2', a3', hA, g3, g4, g5, g6, g7, g8, g10]
      refine ⟨_, hX'.inop hi, fun tok htok => ?_⟩
      subst htok
      simp -implicitDefEqProofs (disch := first | omega | decide) only [seval, -Int.reducePow, -Nat.reducePow, cC, pv, binv, sFlRHgt1, undef, hzk, a1', a2', a3', g3, g4, g5, g6, g7, g8, g10]
      all_goals (repeat' refine And.intro ?_ ?_)
      all_goals (first | with_reducible rfl | (refine congrArg Value.bool ?_; rw [Bool.eq_iff_iff]; (try simp only [decide_eq_true_eq, eq_self, true_and, and_true, false_and, and_false, true_or, or_true, false_or, or_false, not_true_eq_false, not_false_eq_true, true_iff, iff_true, false_iff, iff_false, Bool.false_eq_true, Bool.not_eq_true', Bool.not_eq_true, decide_eq_false_iff_not, Bool.and_eq_true, Bool.or_eq_true]) <;> omega) | (refine congrArg (Value.int _) ?_; omega) | omega)
    intro G11 L' _ hF
    obtain ⟨q1, q2, q5, q7, q8, q9, q11, q14, q120, rfl⟩ := hF
    have g11_1 := q1.trans g10_1
    have g11_2 := q2.trans g10_2
    have g11_5 := q5.trans g10_5
    have g11_7 := q7.trans g10_7
    have g11_8 := q8.trans g10_8
    have g11_9 := q9.trans g10_9
    have g11_11 := q11.trans g10_11
    have g11_14 := q14.trans g10_14
    have g11_120 := q120
    clear q1 q2 q5 q7 q8 q9 q11 q14 q120
    have g11 := And.intro g11_1 (And.intro g11_2 (And.intro g11_5 (And.intro g11_7 (And.intro g11_8 (And.intro g11_9 (And.intro g11_11 (And.intro g11_14 g11_120)))))))
    refine hK _ _ ?_
    clear hK K
    refine cv_cond ?_
    simp -implicitDefEqProofs (disch := first | omega | decide) only [seval, -Int.reducePow, -Nat.reducePow, cC, pv, binv, sFlRHgt1, undef, g3, g4, g5, g6, g7, g8, g11]
    refine ⟨fun hc => ?_, fun hc => ?_⟩
    · have q1 := of_decide_eq_true ‹_›
      have hN : stepF gs x h at' i = none := by rw [hS, if_pos (by omega)]
      refine cv_seq_k fun K hK => ?_
      refine cv_region_then rfl ?_
      simp -implicitDefEqProofs (disch := first | omega | decide) only [seval, -Int.reducePow, -Nat.reducePow, cC, pv, binv, sFlRHgt1, undef, g3, g4, g5, g6, g7, g8, g11]
      refine callV_ret (fun w hw => fault_any 24 (k : Int) (at' : Int) w) ?_
      try simp -implicitDefEqProofs (disch := first | omega | decide) only [seval, -Int.reducePow, -Nat.reducePow, cC, pv, binv, sFlRHgt1, undef, g3, g4, g5, g6, g7, g8, g11]
      refine hK _ _ ?_
      clear hK K
      refine cv_ret ?_
      simp -implicitDefEqProofs (disch := first | omega | decide) only [seval, -Int.reducePow, -Nat.reducePow, cC, pv, binv, sFlRHgt1, undef, retQ2, ressV, packV, g3, g4, g5, g6, g7, g8, g11]
      intro w hw
      rw [hyes, hrr, runF_bad hlb (by rw [hii]; exact hN)]
      exact rowP_nil hw
    have q1 := of_decide_eq_false ‹_›
    rw [if_neg (by omega)] at hS
    refine cv_skip ?_
    try simp only [blockQ, thenQ]
    refine hK _ _ ?_
    clear hK K
    refine cv_pick_post [1, 2, 3, 4, 5] (by decide) ?_
    refine cv_seq_k fun K hK => ?_
    refine cv_region_then rfl ?_
    simp -implicitDefEqProofs (disch := first | omega | decide) only [seval, -Int.reducePow, -Nat.reducePow, cC, pv, binv, sFlRHgt1, undef, hA, g3, g4, g5, g6, g7, g8, g11]
    refine ⟨_, hX'.ins hi, fun tok htok => ?_⟩
    subst htok
    simp -implicitDefEqProofs (disch := first | omega | decide) only [seval, -Int.reducePow, -Nat.reducePow, cC, pv, binv, sFlRHgt1, undef, hA, g3, g4, g5, g6, g7, g8, g11]
    refine callV_row (fun A n c => .slice A n c) (fun w hw => frnext_any i at' w (by omega) (fun ho => by have := nx_arg hnj ho; omega)) ?_
    intro A6 n6 c6 hl6 hr6
    simp -implicitDefEqProofs (disch := first | omega | decide) only [seval, -Int.reducePow, -Nat.reducePow, cC, pv, binv, sFlRHgt1, undef, g3, g4, g5, g6, g7, g8, g11]
    refine hK _ _ ?_
    clear hK K
    have hn6 : (nxP i at').length = n6 := by rw [i64c_len] at hl6; omega
    have hn62 : n6 ≤ 2 := by
      rw [← hn6]
      unfold nxP
      repeat' split
      all_goals simp
    refine cv_seq_k fun K hK => ?_
    refine cv_region_then rfl ?_
    simp -implicitDefEqProofs (disch := first | omega | decide) only [seval, -Int.reducePow, -Nat.reducePow, cC, pv, binv, sFlRHgt1, undef, g3, g4, g5, g6, g7, g8, g11]
    refine hK _ _ ?_
    clear hK K
    refine cv_gen fun G12 hG => ?_
    have g12_1 := congrFun hG 1
    have g12_2 := congrFun hG 2
    have g12_5 := congrFun hG 5
    have g12_7 := congrFun hG 7
    have g12_8 := congrFun hG 8
    have g12_9 := congrFun hG 9
    have g12_11 := congrFun hG 11
    have g12_14 := congrFun hG 14
    have g12_15 := congrFun hG 15
    have g12_16 := congrFun hG 16
    clear hG
    try simp -implicitDefEqProofs (disch := first | omega | decide) only [seval, -Int.reducePow, -Nat.reducePow, cC, pv, binv, sFlRHgt1, undef, g3, g4, g5, g6, g7, g8, g11] at g12_1 g12_2 g12_5 g12_7 g12_8 g12_9 g12_11 g12_14 g12_15 g12_16
    have g12 := And.intro g12_1 (And.intro g12_2 (And.intro g12_5 (And.intro g12_7 (And.intro g12_8 (And.intro g12_9 (And.intro g12_11 (And.intro g12_14 (And.intro g12_15 g12_16))))))))
    refine cv_block ?_
    refine cv_loop (fun F' L' => ∃ (j : Nat) (h1 : List Int), F' 1 = G12 1 ∧ F' 2 = G12 2 ∧ F' 5 = G12 5 ∧ F' 7 = G12 7 ∧ F' 8 = G12 8 ∧ F' 9 = G12 9 ∧ F' 11 = G12 11 ∧ F' 14 = G12 14 ∧ F' 15 = G12 15 ∧ F' 16 = .int .i64 (j : Int) ∧ L' = [.row (.slice A6 n6 c6) 3 1 n6 (i64c (nxP i at')), .blk b10 4 (boz (d.set at' true)), .blk b8 3 (i64z h1), flBox b6 q.1 q.2.1 q.2.2, flBox b5 0 0 0, mBox b2 ⟨TA, tn, tc, ts, some ⟨b9, of9, none⟩, fn, fc, gs⟩] ∧ j ≤ n6 ∧ h1.length = h.length ∧ (∀ z, hAt h1 z = -1 ∨ 0 ≤ hAt h1 z) ∧ updF (nxP i at') v h = updF ((nxP i at').drop j) v h1) (fun F' L' => 1100 - (intOf (F' 16)).toNat) ?_ ?_
    · refine ⟨0, h, ?_⟩
      simp -implicitDefEqProofs (disch := first | omega | decide) only [seval, -Int.reducePow, -Nat.reducePow, cC, pv, binv, sFlRHgt1, undef, g3, g4, g5, g6, g7, g8, g12]
      exact ⟨by omega, fun z => (hrun.rng z).imp id And.left⟩
    intro G13 L' hI
    obtain ⟨j, h1, q1, q2, q5, q7, q8, q9, q11, q14, q15, q16, rfl, ⟨hj, hl1, hrz, hu⟩⟩ := hI
    have g13_1 := q1.trans g12_1
    have g13_2 := q2.trans g12_2
    have g13_5 := q5.trans g12_5
    have g13_7 := q7.trans g12_7
    have g13_8 := q8.trans g12_8
    have g13_9 := q9.trans g12_9
    have g13_11 := q11.trans g12_11
    have g13_14 := q14.trans g12_14
    have g13_15 := q15.trans g12_15
    have g13_16 := q16
    clear q1 q2 q5 q7 q8 q9 q11 q14 q15 q16
    have g13 := And.intro g13_1 (And.intro g13_2 (And.intro g13_5 (And.intro g13_7 (And.intro g13_8 (And.intro g13_9 (And.intro g13_11 (And.intro g13_14 (And.intro g13_15 g13_16))))))))
    refine cv_seq_k fun K hK => ?_
    refine cv_seq_k fun K hK => ?_
    refine cv_region_then rfl ?_
    simp -implicitDefEqProofs (disch := first | omega | decide) only [seval, -Int.reducePow, -Nat.reducePow, cC, pv, binv, sFlRHgt1, undef, g3, g4, g5, g6, g7, g8, g12, g13]
    refine hK _ _ ?_
    clear hK K
    refine cv_cond ?_
    simp -implicitDefEqProofs (disch := first | omega | decide) only [seval, -Int.reducePow, -Nat.reducePow, cC, pv, binv, sFlRHgt1, undef, g3, g4, g5, g6, g7, g8, g12, g13]
    refine ⟨fun hc => ?_, fun hc => ?_⟩
    · refine cv_skip ?_
      try simp only [blockQ, thenQ]
      have hjt : j < n6 := by have := of_decide_eq_true ‹decide ((j : Int) < (n6 : Int)) = true›; omega
      obtain ⟨y, hy⟩ := some_of (l := nxP i at') (i := j) (by omega)
      rw [drop_at' hy] at hu
      have hyc := hnj y (List.mem_of_getElem? hy)
      have hzy := z_get (h := h1) (k := y) (by omega)
      have hsy := z_set (h := h1) (k := y) v (by omega)
      have hry := hrz y
      obtain ⟨H1, hH1⟩ : ∃ H1, hAt h1 y = H1 := ⟨_, rfl⟩
      rw [hH1] at hzy hry
      refine hK _ _ ?_
      clear hK K
      refine cv_seq_k fun K hK => ?_
      refine cv_rowA 0 rfl (by omega) fun g hAA hg hNN => ?_
      subst hAA
      simp only [List.eraseIdx_cons_zero, List.eraseIdx_cons_succ, neB_nil, neB_blk, neB_row, neB_snap, and_true, List.not_mem_nil, or_false] at hNN hg
      replace hg := And.intro hg hNN
      clear hNN
      refine cv_block ?_
      refine cv_seq_k fun K hK => ?_
      refine cv_seq_k fun K hK => ?_
      refine cv_cut (fun _ _ => True) (fun F' L' => F' 1 = G13 1 ∧ F' 2 = G13 2 ∧ F' 5 = G13 5 ∧ F' 7 = G13 7 ∧ F' 8 = G13 8 ∧ F' 9 = G13 9 ∧ F' 11 = G13 11 ∧ F' 14 = G13 14 ∧ F' 15 = G13 15 ∧ F' 16 = G13 16 ∧ F' 154 = .bool (decide (0 ≤ H1 ∧ ¬ H1 = v)) ∧ L' = [.row (.slice (some ⟨g, 0, none⟩) n6 c6) 3 1 n6 (i64c (nxP i at')), .blk b10 4 (boz (d.set at' true)), .blk b8 3 (i64z h1), flBox b6 q.1 q.2.1 q.2.2, flBox b5 0 0 0, mBox b2 ⟨TA, tn, tc, ts, some ⟨b9, of9, none⟩, fn, fc, gs⟩]) ?_ ?_
      · by_cases a1 : 0 ≤ H1
        · have a1' : decide (0 ≤ H1) = true := decide_eq_true a1
          refine cv_region_then rfl ?_
          simp -implicitDefEqProofs (disch := first | omega | decide) only [seval, -Int.reducePow, -Nat.reducePow, cC, pv, binv, sFlRHgt1, undef, hzy, a1', g3, g4, g5, g6, g7, g8, g12, g13]
          refine ⟨_, ld_row1 (v := .int .i64 (y : Int)) (.head _) rfl (i64c_get hy), fun tok htok => ?_⟩
          subst htok
          simp -implicitDefEqProofs (disch := first | omega | decide) only [seval, -Int.reducePow, -Nat.reducePow, cC, pv, binv, sFlRHgt1, undef, hzy, a1', g3, g4, g5, g6, g7, g8, g12, g13]
          refine ⟨_, ld_row1 (v := .int .i64 (y : Int)) (.head _) rfl (i64c_get hy), fun tok htok => ?_⟩
          subst htok
          simp -implicitDefEqProofs (disch := first | omega | decide) only [seval, -Int.reducePow, -Nat.reducePow, cC, pv, binv, sFlRHgt1, undef, hzy, a1', g3, g4, g5, g6, g7, g8, g12, g13]
          all_goals (repeat' refine And.intro ?_ ?_)
          all_goals (first | with_reducible rfl | (refine congrArg Value.bool ?_; rw [Bool.eq_iff_iff]; (try simp only [decide_eq_true_eq, eq_self, true_and, and_true, false_and, and_false, true_or, or_true, false_or, or_false, not_true_eq_false, not_false_eq_true, true_iff, iff_true, false_iff, iff_false, Bool.false_eq_true, Bool.not_eq_true', Bool.not_eq_true, decide_eq_false_iff_not, Bool.and_eq_true, Bool.or_eq_true]) <;> omega) | (refine congrArg (Value.int _) ?_; omega) | omega)
        · have a1' : decide (0 ≤ H1) = false := decide_eq_false a1
          refine cv_region_then rfl ?_
          simp -implicitDefEqProofs (disch := first | omega | decide) only [seval, -Int.reducePow, -Nat.reducePow, cC, pv, binv, sFlRHgt1, undef, hzy, a1', g3, g4, g5, g6, g7, g8, g12, g13]
          refine ⟨_, ld_row1 (v := .int .i64 (y : Int)) (.head _) rfl (i64c_get hy), fun tok htok => ?_⟩
          subst htok
          simp -implicitDefEqProofs (disch := first | omega | decide) only [seval, -Int.reducePow, -Nat.reducePow, cC, pv, binv, sFlRHgt1, undef, hzy, a1', g3, g4, g5, g6, g7, g8, g12, g13]
          all_goals (repeat' refine And.intro ?_ ?_)
          all_goals (first | with_reducible rfl | (refine congrArg Value.bool ?_; rw [Bool.eq_iff_iff]; (try simp only [decide_eq_true_eq, eq_self, true_and, and_true, false_and, and_false, true_or, or_true, false_or, or_false, not_true_eq_false, not_false_eq_true, true_iff, iff_true, false_iff, iff_false, Bool.false_eq_true, Bool.not_eq_true', Bool.not_eq_true, decide_eq_false_iff_not, Bool.and_eq_true, Bool.or_eq_true]) <;> omega) | (refine congrArg (Value.int _) ?_; omega) | omega)
      intro G14 L' _ hF
      obtain ⟨q1, q2, q5, q7, q8, q9, q11, q14, q15, q16, q154, rfl⟩ := hF
      have g14_1 := q1.trans g13_1
      have g14_2 := q2.trans g13_2
      have g14_5 := q5.trans g13_5
      have g14_7 := q7.trans g13_7
      have g14_8 := q8.trans g13_8
      have g14_9 := q9.trans g13_9
      have g14_11 := q11.trans g13_11
      have g14_14 := q14.trans g13_14
      have g14_15 := q15.trans g13_15
      have g14_16 := q16.trans g13_16
      have g14_154 := q154
      clear q1 q2 q5 q7 q8 q9 q11 q14 q15 q16 q154
      have g14 := And.intro g14_1 (And.intro g14_2 (And.intro g14_5 (And.intro g14_7 (And.intro g14_8 (And.intro g14_9 (And.intro g14_11 (And.intro g14_14 (And.intro g14_15 (And.intro g14_16 g14_154)))))))))
      refine hK _ _ ?_
      clear hK K
      refine cv_cond ?_
      simp -implicitDefEqProofs (disch := first | omega | decide) only [seval, -Int.reducePow, -Nat.reducePow, cC, pv, binv, sFlRHgt1, undef, g3, g4, g5, g6, g7, g8, g12, g13, g14]
      refine ⟨fun hc => ?_, fun hc => ?_⟩
      · have q3 := of_decide_eq_true ‹_›
        rw [updF_no (by rw [hH1]; omega)] at hu
        refine cv_seq_k fun K hK => ?_
        refine cv_region_then rfl ?_
        simp -implicitDefEqProofs (disch := first | omega | decide) only [seval, -Int.reducePow, -Nat.reducePow, cC, pv, binv, sFlRHgt1, undef, g3, g4, g5, g6, g7, g8, g12, g13, g14]
        refine callV_ret (fun w hw => fault_any 24 (k : Int) (at' : Int) w) ?_
        try simp -implicitDefEqProofs (disch := first | omega | decide) only [seval, -Int.reducePow, -Nat.reducePow, cC, pv, binv, sFlRHgt1, undef, g3, g4, g5, g6, g7, g8, g12, g13, g14]
        refine hK _ _ ?_
        clear hK K
        refine cv_ret ?_
        simp -implicitDefEqProofs (disch := first | omega | decide) only [seval, -Int.reducePow, -Nat.reducePow, cC, pv, binv, sFlRHgt1, undef, retQ2, ressV, packV, g3, g4, g5, g6, g7, g8, g12, g13, g14]
        intro w hw
        rw [hyes, hrr, runF_bad hlb (by rw [hii, hS, hu])]
        exact rowP_nil hw
      have q3 := of_decide_eq_false ‹_›
      rw [updF_yes (by rw [hH1]; omega)] at hu
      refine cv_skip ?_
      try simp only [blockQ, thenQ]
      refine hK _ _ ?_
      clear hK K
      refine cv_q ?_
      refine cv_region_then rfl ?_
      simp -implicitDefEqProofs (disch := first | omega | decide) only [seval, -Int.reducePow, -Nat.reducePow, cC, pv, binv, sFlRHgt1, undef, g3, g4, g5, g6, g7, g8, g12, g13, g14]
      refine ⟨_, ld_row1 (v := .int .i64 (y : Int)) (.head _) rfl (i64c_get hy), fun tok htok => ?_⟩
      subst htok
      simp -implicitDefEqProofs (disch := first | omega | decide) only [seval, -Int.reducePow, -Nat.reducePow, cC, pv, binv, sFlRHgt1, undef, g3, g4, g5, g6, g7, g8, g12, g13, g14]
      simp -implicitDefEqProofs (disch := first | omega | decide) only [seval, -Int.reducePow, -Nat.reducePow, cC, pv, binv, sFlRHgt1, undef, hsy, z_len, g3, g4, g5, g6, g7, g8, g12, g13, g14]
      refine ⟨by omega, ?_⟩
      refine hK _ _ ?_
      clear hK K
      refine cv_region_then rfl ?_
      simp -implicitDefEqProofs (disch := first | omega | decide) only [seval, -Int.reducePow, -Nat.reducePow, cC, pv, binv, sFlRHgt1, undef, g3, g4, g5, g6, g7, g8, g12, g13, g14]
      refine ⟨⟨j + 1, h1.set y v, ?_⟩, ?_⟩
      · simp -implicitDefEqProofs (disch := first | omega | decide) only [seval, -Int.reducePow, -Nat.reducePow, cC, pv, binv, sFlRHgt1, undef, Int.natCast_add, g3, g4, g5, g6, g7, g8, g12, g13, g14]
        refine ⟨by omega, by rw [List.length_set]; exact hl1, fun z => ?_, hu⟩
        rw [hAt_set (by omega)]
        split
        · omega
        · exact hrz z
      · simp only [intOf]; omega
    refine cv_exit ?_
    simp only [blockQ, thenQ, if_true, ite_true]
    have hje : j = n6 := by have := of_decide_eq_false ‹decide ((j : Int) < (n6 : Int)) = false›; omega
    rw [List.drop_of_length_le (by omega), updF] at hu
    have hs1 : stepF gs x h at' (insAt x at') = some h1 := by rw [hii, hS, hu]
    rw [runF_go hlb hs1] at hrr
    obtain ⟨r1, -, -, -, -, -⟩ := run_step hrun (fun k _ => (hfx _).2.2.1) hnx hlb hs1
    refine ⟨⟨h1, d.set at' true, fu, ?_⟩, ?_⟩
    · simp -implicitDefEqProofs (disch := first | omega | decide) only [seval, -Int.reducePow, -Nat.reducePow, cC, pv, binv, sFlRHgt1, undef, hA, g3, g4, g5, g6, g7, g8, g12, g13]
      exact ⟨r1, by omega, hrr⟩
    · simp -implicitDefEqProofs (disch := first | omega | decide) only [seval, -Int.reducePow, -Nat.reducePow, cC, pv, binv, sFlRHgt1, undef, undoneV_boz, g3, g4, g5, g6, g7, g8, g12, g13]
      omega
  · have hE' : decide ((at' : Int) = (x.n : Int)) = true := decide_eq_true (by omega)
    have hln : leastB h d = none := leastB_none (fun j hj => hop j (by omega))
    rw [runF_end hln] at hrr
    refine cv_seq_k fun K hK => ?_
    refine cv_seq_k fun K hK => ?_
    refine cv_region_then rfl ?_
    simp -implicitDefEqProofs (disch := first | omega | decide) only [seval, -Int.reducePow, -Nat.reducePow, cC, pv, binv, sFlRHgt1, undef, g3, g4, g5, g6, g7, g8, g9]
    refine hK _ _ ?_
    clear hK K
    refine cv_cond ?_
    simp -implicitDefEqProofs (disch := first | omega | decide) only [seval, -Int.reducePow, -Nat.reducePow, cC, pv, binv, sFlRHgt1, undef, hE', g3, g4, g5, g6, g7, g8, g9]
    refine cv_pick [1, 3, 0] (by decide) ?_
    simp only [pickL, nth]
    refine cv_seq_k fun K hK => ?_
    refine cv_region_then rfl ?_
    simp -implicitDefEqProofs (disch := first | omega | decide) only [seval, -Int.reducePow, -Nat.reducePow, cC, pv, binv, sFlRHgt1, undef, g3, g4, g5, g6, g7, g8, g9]
    refine callV_ret (fun w hw => fine_any w) ?_
    try simp -implicitDefEqProofs (disch := first | omega | decide) only [seval, -Int.reducePow, -Nat.reducePow, cC, pv, binv, sFlRHgt1, undef, g3, g4, g5, g6, g7, g8, g9]
    refine hK _ _ ?_
    clear hK K
    refine cv_ret ?_
    simp -implicitDefEqProofs (disch := first | omega | decide) only [seval, -Int.reducePow, -Nat.reducePow, cC, pv, binv, sFlRHgt1, undef, retQ2, ressV, packV, g3, g4, g5, g6, g7, g8, g9]
    intro w hw
    rw [hyes, hrr]
    exact rowP_all hw (by rw [z_len]; show h.length = _; omega) (by omega)
end Go.Proofs.Ytlbmnioibiomfaa
