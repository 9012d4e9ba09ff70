/- The verify laws' changed modules. -/
import Derived.Test.YtlbmnioibiomfaaVeSame
import Derived.Test.YtlbmnioibiomfaaMore
namespace Go.Proofs.Ytlbmnioibiomfaa
open Go.RowKit Go.Shelf
set_option linter.unusedVariables false
set_option linter.unusedSimpArgs false
set_option maxRecDepth 100000
theorem cl_put : ∀ {l : List Ins} {k : Nat} {y : Ins}, k < l.length → List.take (k * 2) (cl insc l) ++ insc y ++ List.drop (k * 2 + 2) (cl insc l) = cl insc (l.set k y)
  | [], k, y, h => by simp at h
  | a :: l, 0, y, h => by
    show List.take 0 (insc a ++ cl insc l) ++ insc y ++ List.drop 2 (insc a ++ cl insc l) = insc y ++ cl insc l
    rw [List.drop_append]
    simp [insc_len]
  | a :: l, k + 1, y, h => by
    have ih := cl_put (l := l) (k := k) (y := y) (by simpa using h)
    show List.take ((k + 1) * 2) (insc a ++ cl insc l) ++ insc y ++ List.drop ((k + 1) * 2 + 2) (insc a ++ cl insc l) = insc a ++ cl insc (l.set k y)
    rw [← ih, show (k + 1) * 2 = 2 + k * 2 by omega, List.take_append, List.drop_append, insc_len]
    rw [List.take_of_length_le (by rw [insc_len]; omega), List.drop_of_length_le (by rw [insc_len]; omega)]
    simp
    omega
theorem cl_setF : ∀ {l : List FnR} {k : Nat} {g : FnR}, l[k]? = some g → ∀ (A : Option Addr) (n c : Nat) (is : List Ins), (cl fnc l).set (k * 4 + 3) (.slice A n c) = cl fnc (l.set k ⟨g.p, g.r, g.l, A, n, c, is⟩)
  | [], k, g, h, _, _, _, _ => by simp at h
  | a :: l, 0, g, h, A, n, c, is => by
    obtain rfl : a = g := by simpa using h
    rfl
  | a :: l, k + 1, g, h, A, n, c, is => by
    have ih := cl_setF (l := l) (k := k) (by simpa using h) A n c is
    show (.int .i64 a.p :: .int .i64 a.r :: .int .i64 a.l :: .slice a.A a.n a.c :: cl fnc l).set ((k + 1) * 4 + 3) _ = .int .i64 a.p :: .int .i64 a.r :: .int .i64 a.l :: .slice a.A a.n a.c :: cl fnc (l.set k _)
    rw [show (k + 1) * 4 + 3 = k * 4 + 3 + 1 + 1 + 1 + 1 by omega, List.set_cons_succ, List.set_cons_succ, List.set_cons_succ, List.set_cons_succ, ih]
set_option maxRecDepth 100000 in
theorem sVeChg1 : type_of% (And.intro (And.intro (And.intro @iBox.eq_1 @mBox.eq_1) (And.intro @modV.eq_1 @insV.eq_1)) (And.intro (And.intro @Nat.mul_one @cS) (And.intro @cM @wrap_in))) := (And.intro (And.intro (And.intro @iBox.eq_1 @mBox.eq_1) (And.intro @modV.eq_1 @insV.eq_1)) (And.intro (And.intro @Nat.mul_one @cS) (And.intro @cM @wrap_in)))
set_option maxHeartbeats 4000000 in
theorem changed_any (m : ModR) (D : Nat → Prop) (at' op arg : Nat) (W : World) (hM : ModD W D m) (hD : ∀ y, D y → y < W.heap.size) (hgd : Good m) (hat : at' ≤ 255) (hop : op ≤ 255) (harg : arg ≤ 65535) :
    Calls Try.prog 15 #[modV m, .int .u8 (at' : Int), .int .u8 (op : Int), .int .u16 (arg : Int)] W fun e w' => ∃ k : ModR, e = .returned (modV k) ∧ ModD w' (fun y => D y ∨ Nw W w' y) k ∧ Below W.heap.size W w' := by
  have hMm := hM.mod hD
  have hlg := hMm.glen
  have hG := hMm.gs
  have hg1 := hgd.g1
  have hg2 := hgd.g2
  have hgs := hgd.gs
  obtain ⟨TA, tn, tc, ts, FA, fn, fc, gs⟩ := m
  dsimp only at hlg hG hg1 hg2 hgs
  obtain ⟨bF, oF, rfl, hbF, -⟩ := hG.cells (by omega)
  refine calls_cv2 (M := []) (n := 71) [.cell 8 29] rfl Try.func15 rfl rfl (Nat.le_of_ble_eq_true rfl) (St.nil _ _) ?_
  refine cv_seq_k fun K hK => ?_
  refine cv_region_then rfl ?_
  simp -implicitDefEqProofs (disch := first | omega | decide) only [seval, -Int.reducePow, -Nat.reducePow, cC, pv, binv, sVeChg1, undef]
  intro b4 hb4 b8 hb8 h8
  refine hK _ _ ?_
  clear hK K
  refine cv_gen fun G1 hG => ?_
  have g1_1 := congrFun hG 1
  have g1_2 := congrFun hG 2
  have g1_3 := congrFun hG 3
  have g1_4 := congrFun hG 4
  have g1_8 := congrFun hG 8
  clear hG
  try simp -implicitDefEqProofs (disch := first | omega | decide) only [seval, -Int.reducePow, -Nat.reducePow, cC, pv, binv, sVeChg1, undef] at g1_1 g1_2 g1_3 g1_4 g1_8
  have g1 := And.intro g1_1 (And.intro g1_2 (And.intro g1_3 (And.intro g1_4 g1_8)))
  refine cv_seq_k fun K hK => ?_
  refine cv_cut (fun _ _ => True) (fun F' L' => ∃ (A7 : Option Addr) (c7 b9 : Nat), F' 1 = G1 1 ∧ F' 2 = G1 2 ∧ F' 3 = G1 3 ∧ F' 4 = G1 4 ∧ F' 8 = G1 8 ∧ F' 9 = .pointer (some ⟨b9, 0, none⟩) ∧ L' = [.row (.slice A7 fn c7) 58 4 fn (cl fnc gs), .blk b9 29 [.slice TA tn tc, .slice A7 fn c7], .blk b8 29 [.slice none 0 0, .slice none 0 0], .blk b4 29 [.slice TA tn tc, .slice (some ⟨bF, oF, none⟩) fn fc]] ∧ W.heap.size ≤ b9 ∧ b8 < b9 ∧ b4 < b9) ?_ ?_
  · refine cv_more [1] (by decide) (by simp only [pickL, nth, suf_cons, suf_nil, List.mem_cons, true_or, or_true, and_true, eq_self]) (.rd 0 (.rd 1 (.rd 3 (.rd 4 (.more 2 (.more 5 (.rd 6 (.act 7 (.act 8 (.done)))) (.act 7 (.act 5 (.rd 6 (.act 8 (.done)))))) (.act 7 (.act 2 (.act 5 (.rd 6 (.act 8 (.done))))))))))) [8] mixA rfl (by kernel_rfl) (by kernel_rfl) (by kernel_rfl) (by kernel_rfl) ?_
    simp only [pickL, nth]
    simp -implicitDefEqProofs (disch := first | omega | decide) only [seval, -Int.reducePow, -Nat.reducePow, cC, pv, binv, sVeChg1, undef, g1]
    repeat' (first
      | refine And.intro ?_ ?_
      | (intro b hb hf; skip)
      | (refine appV_lit 0 tap27 rfl rfl (fun w hw => (hG.at hw).reads) (cl_ones fnc_ones _) (by omega) (by omega) ?_
         intro A c hl hr
         simp -implicitDefEqProofs (disch := first | omega | decide) only [seval, -Int.reducePow, -Nat.reducePow, cC, pv, binv, sVeChg1, undef, g1])
      | (refine appV_lit 1 tap27 rfl rfl (fun w hw => (hG.at hw).reads) (cl_ones fnc_ones _) (by omega) (by omega) ?_
         intro A c hl hr
         simp -implicitDefEqProofs (disch := first | omega | decide) only [seval, -Int.reducePow, -Nat.reducePow, cC, pv, binv, sVeChg1, undef, g1]))
    all_goals (first
      | (refine ⟨[1, 0, 2, 3], by decide, _, _, _, rfl, rfl, ?_⟩; omega)
      | (refine ⟨[0, 1, 2, 3], by decide, _, _, _, rfl, rfl, ?_⟩; omega))
  intro G2 L' _ hF
  obtain ⟨A7, c7, b9, q1, q2, q3, q4, q8, q9, rfl, ⟨hb9, h89, h49⟩⟩ := hF
  have g2_1 := q1.trans g1_1
  have g2_2 := q2.trans g1_2
  have g2_3 := q3.trans g1_3
  have g2_4 := q4.trans g1_4
  have g2_8 := q8.trans g1_8
  have g2_9 := q9
  clear q1 q2 q3 q4 q8 q9
  have g2 := And.intro g2_1 (And.intro g2_2 (And.intro g2_3 (And.intro g2_4 (And.intro g2_8 g2_9))))
  refine hK _ _ ?_
  clear hK K
  have w1 : IntKind.u8.wrap ((at' : Int) / 128) = (at' : Int) / 128 := IntWalk.u8_in _ (by omega)
  have w2 : IntKind.i64.wrap ((at' : Int) / 128) = (at' : Int) / 128 := wrap_in (by omega) (by omega)
  obtain ⟨z, hz⟩ : ∃ z : Nat, (at' : Int) / 128 % (fn : Int) = (z : Int) := ⟨at' / 128 % fn, by rw [Int.natCast_emod, Int.natCast_ediv]; rfl⟩
  have hzn : z < fn := by
    have := Int.emod_lt_of_pos ((at' : Int) / 128) (show (0 : Int) < fn by omega)
    omega
  obtain ⟨g0, hg0⟩ := some_of (l := gs) (i := z) (by omega)
  obtain ⟨-, -, hc1, hc2, hok⟩ := hgs z g0 hg0
  have hD0 := hM.fn g0 (List.mem_of_getElem? hg0)
  have hC := hMm.fn g0 (List.mem_of_getElem? hg0)
  have hcn : g0.code.length = g0.n := cl_row insc_len (by omega) hC.len
  refine cv_seq_k fun K hK => ?_
  refine cv_region_then rfl ?_
  simp -implicitDefEqProofs (disch := first | omega | decide) only [seval, -Int.reducePow, -Nat.reducePow, cC, pv, binv, sVeChg1, undef, w1, w2, hz, g2]
  refine hK _ _ ?_
  clear hK K
  refine cv_rowA 0 rfl (by omega) fun gF hAA hgF hNN => ?_
  subst hAA
  simp only [List.eraseIdx_cons_zero, List.eraseIdx_cons_succ, neB_nil, neB_blk, neB_row, neB_snap, and_true, List.not_mem_nil, or_false] at hNN hgF
  replace hgF := And.intro hgF hNN
  clear hNN
  refine cv_gen fun G3 hG => ?_
  have g3_1 := congrFun hG 1
  have g3_2 := congrFun hG 2
  have g3_3 := congrFun hG 3
  have g3_4 := congrFun hG 4
  have g3_8 := congrFun hG 8
  have g3_9 := congrFun hG 9
  have g3_10 := congrFun hG 10
  clear hG
  try simp -implicitDefEqProofs (disch := first | omega | decide) only [seval, -Int.reducePow, -Nat.reducePow, cC, pv, binv, sVeChg1, undef, g2] at g3_1 g3_2 g3_3 g3_4 g3_8 g3_9 g3_10
  have g3 := And.intro g3_1 (And.intro g3_2 (And.intro g3_3 (And.intro g3_4 (And.intro g3_8 (And.intro g3_9 g3_10)))))
  have hlf : (cl fnc gs).length = fn * 4 := by rw [cl_len fnc_len, hlg]
  refine cv_seq_k fun K hK => ?_
  refine cv_draw_of (pickL [0, 1, 3] _) (fun w hw => hw.pick (by decide)) (by simp only [pickL, nth, suf_cons, suf_nil, List.mem_cons, true_or, or_true, and_true, eq_self]) [(true, 0), (true, 1), (true, 2), (true, 4), (true, 5), (true, 6), (true, 7), (true, 8), (true, 9), (false, 3), (false, 10), (true, 11), (true, 12), (false, 13)] [13] mixA rfl (by kernel_rfl) (by kernel_rfl) rfl rfl ?_
  simp -implicitDefEqProofs (disch := first | omega | decide) only [seval, -Int.reducePow, -Nat.reducePow, cC, pv, binv, sVeChg1, undef, g3]
  refine ⟨_, hG.fnf hg0, fun tok htok => ?_⟩
  subst htok
  simp -implicitDefEqProofs (disch := first | omega | decide) only [seval, -Int.reducePow, -Nat.reducePow, cC, pv, binv, sVeChg1, undef, g3]
  intro b29 hb29 hf29
  refine appV_lit 0 tap56 rfl rfl (fun w hw => (hC.at hw).reads) (cl_ones insc_ones _) (by omega) (by omega) ?_
  intro A9 c9 hl9 hr9
  simp -implicitDefEqProofs (disch := first | omega | decide) only [seval, -Int.reducePow, -Nat.reducePow, cC, pv, binv, sVeChg1, undef, g3]
  refine ⟨_, sv_row 1 rfl (by omega) (by kernel_rfl) rfl rfl, fun tok htok => ?_⟩
  subst htok
  simp -implicitDefEqProofs (disch := first | omega | decide) only [seval, -Int.reducePow, -Nat.reducePow, cC, pv, binv, sVeChg1, undef, g3]
  rw [cl_setF hg0 A9 g0.n c9 g0.code]
  refine hK _ _ ?_
  clear hK K
  refine cv_rowA 0 rfl (by omega) fun gC hAA hgC hNN => ?_
  subst hAA
  simp only [List.eraseIdx_cons_zero, List.eraseIdx_cons_succ, neB_nil, neB_blk, neB_row, neB_snap, and_true, List.not_mem_nil, or_false] at hNN hgC
  replace hgC := And.intro hgC hNN
  clear hNN
  refine cv_seq_k fun K hK => ?_
  refine cv_region_then rfl ?_
  simp -implicitDefEqProofs (disch := first | omega | decide) only [seval, -Int.reducePow, -Nat.reducePow, cC, pv, binv, sVeChg1, undef, g3]
  intro b11 hb11 hf11
  refine hK _ _ ?_
  clear hK K
  refine cv_gen fun G4 hG => ?_
  have g4_1 := congrFun hG 1
  have g4_3 := congrFun hG 3
  have g4_8 := congrFun hG 8
  have g4_9 := congrFun hG 9
  have g4_10 := congrFun hG 10
  have g4_11 := congrFun hG 11
  clear hG
  try simp -implicitDefEqProofs (disch := first | omega | decide) only [seval, -Int.reducePow, -Nat.reducePow, cC, pv, binv, sVeChg1, undef, g3] at g4_1 g4_3 g4_8 g4_9 g4_10 g4_11
  have g4 := And.intro g4_1 (And.intro g4_3 (And.intro g4_8 (And.intro g4_9 (And.intro g4_10 g4_11))))
  refine cv_seq_k fun K hK => ?_
  refine cv_cut (fun _ _ => True) (fun F' L' => ∃ (y : Ins), F' 1 = G4 1 ∧ F' 8 = G4 8 ∧ F' 9 = G4 9 ∧ F' 10 = G4 10 ∧ F' 11 = G4 11 ∧ L' = [.blk b11 55 [.int .i64 y.op, .int .u64 (y.arg : Int)], .row (.slice (some ⟨gC, 0, none⟩) g0.n c9) 55 2 g0.n (cl insc g0.code), .row (.slice (some ⟨gF, 0, none⟩) fn c7) 58 4 fn (cl fnc (gs.set z ⟨g0.p, g0.r, g0.l, some ⟨gC, 0, none⟩, g0.n, c9, g0.code⟩)), .blk b9 29 [.slice TA tn tc, .slice (some ⟨gF, 0, none⟩) fn c7], .blk b8 29 [.slice none 0 0, .slice none 0 0], .blk b4 29 [.slice TA tn tc, .slice (some ⟨bF, oF, none⟩) fn fc]] ∧ y.arg ≤ 65535) ?_ ?_
  · refine cv_seq_k fun K hK => ?_
    refine cv_region_then rfl ?_
    simp -implicitDefEqProofs (disch := first | omega | decide) only [seval, -Int.reducePow, -Nat.reducePow, cC, pv, binv, sVeChg1, undef, g4]
    refine callV_ret (fun w hw => r_hasArg_any (1 + (op : Int) % 25) w) ?_
    try simp -implicitDefEqProofs (disch := first | omega | decide) only [seval, -Int.reducePow, -Nat.reducePow, cC, pv, binv, sVeChg1, undef, g4]
    refine hK _ _ ?_
    clear hK K
    refine cv_cond ?_
    simp -implicitDefEqProofs (disch := first | omega | decide) only [seval, -Int.reducePow, -Nat.reducePow, cC, pv, binv, sVeChg1, undef, g4]
    refine ⟨fun hc => ?_, fun hc => ?_⟩
    · obtain ⟨a, ha⟩ : ∃ a : Nat, (arg : Int) % 14 = (a : Int) := ⟨arg % 14, by omega⟩
      have w3 : IntKind.u64.wrap (a : Int) = (a : Int) := IntWalk.u64_in _ (by omega)
      refine cv_region_q rfl ?_
      simp -implicitDefEqProofs (disch := first | omega | decide) only [seval, -Int.reducePow, -Nat.reducePow, cC, pv, binv, sVeChg1, undef, w3, ha, g4]
      refine ⟨⟨1 + (op : Int) % 25, a⟩, ?_⟩
      simp -implicitDefEqProofs (disch := first | omega | decide) only [seval, -Int.reducePow, -Nat.reducePow, cC, pv, binv, sVeChg1, undef, g4]
      omega
    · refine cv_skip ?_
      try simp only [blockQ, thenQ]
      simp -implicitDefEqProofs (disch := first | omega | decide) only [seval, -Int.reducePow, -Nat.reducePow, cC, pv, binv, sVeChg1, undef, g4]
      refine ⟨⟨1 + (op : Int) % 25, 0⟩, ?_⟩
      simp -implicitDefEqProofs (disch := first | omega | decide) only [seval, -Int.reducePow, -Nat.reducePow, cC, pv, binv, sVeChg1, undef, g4]
  intro G5 L' _ hF
  obtain ⟨y, q1, q8, q9, q10, q11, rfl, hya⟩ := hF
  have g5_1 := q1.trans g4_1
  have g5_8 := q8.trans g4_8
  have g5_9 := q9.trans g4_9
  have g5_10 := q10.trans g4_10
  have g5_11 := q11.trans g4_11
  clear q1 q8 q9 q10 q11
  have g5 := And.intro g5_1 (And.intro g5_8 (And.intro g5_9 (And.intro g5_10 g5_11)))
  refine hK _ _ ?_
  clear hK K
  refine cv_rowA 1 rfl (by omega) fun gN_ hAA hgN_ hnC => ?_
  cases hAA
  clear hgN_
  simp only [List.eraseIdx_cons_zero, List.eraseIdx_cons_succ, neB_nil, neB_blk, neB_row, neB_snap, and_true, sVeChg1, undef] at hnC
  refine cv_rowA 2 rfl (by omega) fun gN_ hAA hgN_ hnF => ?_
  cases hAA
  clear hgN_
  simp only [List.eraseIdx_cons_zero, List.eraseIdx_cons_succ, neB_nil, neB_blk, neB_row, neB_snap, and_true, sVeChg1, undef] at hnF
  have w4 : IntKind.i64.wrap ((at' : Int) % 128) = (at' : Int) % 128 := wrap_in (by omega) (by omega)
  obtain ⟨z2, hz2⟩ : ∃ z : Nat, (at' : Int) % 128 % (g0.n : Int) = (z : Int) := ⟨at' % 128 % g0.n, by rw [Int.natCast_emod, Int.natCast_emod]; rfl⟩
  have hzn2 : z2 < g0.n := by
    have := Int.emod_lt_of_pos ((at' : Int) % 128) (show (0 : Int) < g0.n by omega)
    omega
  have hcl2 : (cl insc g0.code).length = g0.n * 2 := by rw [cl_len insc_len, hcn]
  have hput := cl_put (l := g0.code) (k := z2) (y := y) (by omega)
  refine cv_seq_k fun K hK => ?_
  refine cv_draw_of (pickL [0, 1, 2, 3] _) (fun w hw => hw.pick (by decide)) (by simp only [pickL, nth, suf_cons, suf_nil, List.mem_cons, true_or, or_true, and_true, eq_self]) [(true, 0), (true, 1), (true, 2), (true, 3), (true, 4), (true, 5), (true, 6), (true, 7), (true, 8), (true, 9), (true, 10), (true, 11), (true, 12), (true, 13), (true, 14), (true, 15), (true, 16), (true, 17), (true, 18), (false, 19)] [19] mixA rfl (by kernel_rfl) (by kernel_rfl) rfl rfl ?_
  simp -implicitDefEqProofs (disch := first | omega | decide) only [seval, -Int.reducePow, -Nat.reducePow, cC, pv, binv, sVeChg1, undef, w4, hz2, g5]
  have hzs : (gs.set z ⟨g0.p, g0.r, g0.l, some ⟨gC, 0, none⟩, g0.n, c9, g0.code⟩)[z]? = some ⟨g0.p, g0.r, g0.l, some ⟨gC, 0, none⟩, g0.n, c9, g0.code⟩ := by rw [List.getElem?_set_self (by omega)]
  refine ⟨_, ld_row1 (m := 1) (v := .slice (some ⟨gC, 0, none⟩) g0.n c9) (i := z * 4 + 3) (.tail _ (.tail _ (.head _))) (by kernel_rfl) (cl_get (j := 3) fnc_len hzs rfl), fun tok htok => ?_⟩
  subst htok
  simp -implicitDefEqProofs (disch := first | omega | decide) only [seval, -Int.reducePow, -Nat.reducePow, cC, pv, binv, sVeChg1, undef, w4, hz2, g5]
  refine ⟨_, ld_row1 (m := 1) (v := .slice (some ⟨gC, 0, none⟩) g0.n c9) (i := z * 4 + 3) (.tail _ (.tail _ (.head _))) (by kernel_rfl) (cl_get (j := 3) fnc_len hzs rfl), fun tok htok => ?_⟩
  subst htok
  simp -implicitDefEqProofs (disch := first | omega | decide) only [seval, -Int.reducePow, -Nat.reducePow, cC, pv, binv, sVeChg1, undef, w4, hz2, g5]
  refine ⟨_, sv_rows 1 (i := z2 * 2) (vs := insc y) rfl (by rw [hcl2, insc_len]; omega) (by kernel_rfl) rfl, fun tok htok => ?_⟩
  subst htok
  simp -implicitDefEqProofs (disch := first | omega | decide) only [seval, -Int.reducePow, -Nat.reducePow, cC, pv, binv, sVeChg1, undef, g5]
  rw [insc_len, hput]
  refine hK _ _ ?_
  clear hK K
  refine cv_seq_k fun K hK => ?_
  refine cv_region_then rfl ?_
  simp -implicitDefEqProofs (disch := first | omega | decide) only [seval, -Int.reducePow, -Nat.reducePow, cC, pv, binv, sVeChg1, undef, g5]
  refine hK _ _ ?_
  clear hK K
  refine cv_ret ?_
  simp -implicitDefEqProofs (disch := first | omega | decide) only [seval, -Int.reducePow, -Nat.reducePow, cC, pv, binv, sVeChg1, undef, retQ2, ressV, packV, g5]
  intro w hw
  refine ⟨⟨TA, tn, tc, ts, some ⟨gF, 0, none⟩, fn, c7, gs.set z ⟨g0.p, g0.r, g0.l, some ⟨gC, 0, none⟩, g0.n, c9, g0.code.set z2 y⟩⟩, rfl, ?_, hw.below⟩
  have hb : ∀ y, D y → w.heap[y]? = W.heap[y]? := fun y hy => hw.pres.block y (hD y hy) (by simp)
  have hC2 : Sd w (Nw W w) 2 (some ⟨gC, 0, none⟩) g0.n c9 (cl insc (g0.code.set z2 y)) := Sd.ownNew (hw.tail.rowNew (by simp))
  have hF2 : Sd w (Nw W w) 4 (some ⟨gF, 0, none⟩) fn c7 (cl fnc (gs.set z ⟨g0.p, g0.r, g0.l, some ⟨gC, 0, none⟩, g0.n, c9, g0.code⟩)) := Sd.ownNew (hw.tail.tail.rowNew (by simp))
  rw [← cl_setF hg0 (some ⟨gC, 0, none⟩) g0.n c9 g0.code, cl_setF hg0 (some ⟨gC, 0, none⟩) g0.n c9 (g0.code.set z2 y)] at hF2
  refine ⟨hM.ts.same hb fun y hy => .inl hy, fun t ht => (hM.ty t ht).same hb fun y hy => .inl hy, hF2.mono fun y hy => .inr hy, fun g hg => ?_, fun g hg i hi => ?_⟩
  · rcases List.mem_or_eq_of_mem_set hg with hg | rfl
    · exact (hM.fn g hg).same hb fun y hy => .inl hy
    · exact hC2.mono fun y hy => .inr hy
  · rcases List.mem_or_eq_of_mem_set hg with hg | rfl
    · exact hM.arg g hg i hi
    · rcases List.mem_or_eq_of_mem_set hi with hi | rfl
      · exact hM.arg g0 (List.mem_of_getElem? hg0) i hi
      · omega
end Go.Proofs.Ytlbmnioibiomfaa
