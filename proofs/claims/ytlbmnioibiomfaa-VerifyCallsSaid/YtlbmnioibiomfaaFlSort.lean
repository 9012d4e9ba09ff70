/- slices.Sort and slices.Compact of two numbers. -/
import Derived.Test.YtlbmnioibiomfaaFlEng
import Derived.Test.YtlbmnioibiomfaaMore
namespace Go.Proofs.Ytlbmnioibiomfaa
open Go.RowKit Go.Shelf
set_option linter.unusedVariables false
set_option linter.unusedSimpArgs false
set_option maxRecDepth 100000
set_option maxRecDepth 100000 in
theorem sFlSort1 : type_of% (And.intro @Nat.mul_one @wrap_in) := (And.intro @Nat.mul_one @wrap_in)
theorem isNaN_any (x : Int) (W : World) : Calls Try.prog 122 #[.int .i64 x] W fun e w' => e = .returned (.bool false) ∧ Below W.heap.size W w' := by
  refine calls_cv (M := []) (n := 6) [.tmp 2] rfl Try.func122 rfl rfl (Nat.le_of_ble_eq_true rfl) (St.nil _ _) ?_
  refine cv_seq_k fun K hK => ?_
  refine cv_region_then rfl ?_
  simp -implicitDefEqProofs (disch := first | omega | decide) only [seval, -Int.reducePow, -Nat.reducePow, cC, pv, binv, sFlSort1, undef]
  refine hK _ _ ?_
  clear hK K
  refine cv_seq_k fun K hK => ?_
  refine cv_region_then rfl ?_
  simp -implicitDefEqProofs (disch := first | omega | decide) only [seval, -Int.reducePow, -Nat.reducePow, cC, pv, binv, sFlSort1, undef]
  refine hK _ _ ?_
  clear hK K
  refine cv_ret ⟨_, (by simp -implicitDefEqProofs (disch := first | omega | decide) only [seval, -Int.reducePow, -Nat.reducePow, cC, pv, binv, sFlSort1, undef]; rfl), fun w hw => ?_⟩
  exact ⟨rfl, hw.below⟩
theorem less_any (x y : Int) (W : World) : Calls Try.prog 110 #[.int .i64 x, .int .i64 y] W fun e w' => e = .returned (.bool (decide (x < y))) ∧ Below W.heap.size W w' := by
  refine calls_cv (M := []) (n := 17) [.tmp 4] rfl Try.func110 rfl rfl (Nat.le_of_ble_eq_true rfl) (St.nil _ _) ?_
  refine cv_seq_k fun K hK => ?_
  refine cv_region_then rfl ?_
  simp -implicitDefEqProofs (disch := first | omega | decide) only [seval, -Int.reducePow, -Nat.reducePow, cC, pv, binv, sFlSort1, undef]
  refine hK _ _ ?_
  clear hK K
  refine cv_seq_k fun K hK => ?_
  refine cv_region_then rfl ?_
  simp -implicitDefEqProofs (disch := first | omega | decide) only [seval, -Int.reducePow, -Nat.reducePow, cC, pv, binv, sFlSort1, undef]
  refine callV_ret (fun w hw => isNaN_any x w) ?_
  try simp -implicitDefEqProofs (disch := first | omega | decide) only [seval, -Int.reducePow, -Nat.reducePow, cC, pv, binv, sFlSort1, undef]
  refine hK _ _ ?_
  clear hK K
  refine cv_ret ⟨_, (by simp -implicitDefEqProofs (disch := first | omega | decide) only [seval, -Int.reducePow, -Nat.reducePow, cC, pv, binv, sFlSort1, undef]; rfl), fun w hw => ?_⟩
  exact ⟨rfl, hw.below⟩
def s2 (x y : Int) : List Value := if y < x then [.int .i64 y, .int .i64 x] else [.int .i64 x, .int .i64 y]
theorem insert2_any (b : Nat) (x y : Int) (W : World) (hW : W.heap[b]? = some (.cells #[.int .i64 x, .int .i64 y] 3 (0, 0))) :
    Calls Try.prog 104 #[.slice (some ⟨b, 0, none⟩) 2 2, .int .i64 0, .int .i64 2] W (modP b 3 (.tuple #[]) (s2 x y) W) := by
  refine calls_cv (M := [b]) (n := 49) [] rfl Try.func104 rfl rfl (Nat.le_of_ble_eq_true rfl)  (St.one (cs := [.int .i64 x, .int .i64 y]) hW) ?_
  refine cv_seq_k fun K hK => ?_
  refine cv_region_then rfl ?_
  simp -implicitDefEqProofs (disch := first | omega | decide) only [seval, -Int.reducePow, -Nat.reducePow, cC, pv, binv, sFlSort1, undef]
  refine hK _ _ ?_
  clear hK K
  refine cv_block ?_
  refine cv_times 2 ?_
  unfold timesV
  refine cv_seq_k fun K hK => ?_
  refine cv_seq_k fun K hK => ?_
  refine cv_region_then rfl ?_
  simp -implicitDefEqProofs (disch := first | omega | decide) only [seval, -Int.reducePow, -Nat.reducePow, cC, pv, binv, sFlSort1, undef]
  refine hK _ _ ?_
  clear hK K
  refine cv_cond ?_
  simp -implicitDefEqProofs (disch := first | omega | decide) only [seval, -Int.reducePow, -Nat.reducePow, cC, pv, binv, sFlSort1, undef]
  refine cv_skip ?_
  try simp only [blockQ, thenQ]
  refine hK _ _ ?_
  clear hK K
  refine cv_gen fun G1 hG => ?_
  have g1_0 := congrFun hG 0
  have g1_1 := congrFun hG 1
  have g1_2 := congrFun hG 2
  have g1_6 := congrFun hG 6
  clear hG
  try simp -implicitDefEqProofs (disch := first | omega | decide) only [seval, -Int.reducePow, -Nat.reducePow, cC, pv, binv, sFlSort1, undef] at g1_0 g1_1 g1_2 g1_6
  have g1 := And.intro g1_0 (And.intro g1_1 (And.intro g1_2 g1_6))
  refine cv_seq_k fun K hK => ?_
  refine cv_cut (fun _ _ => True) (fun F' L' => F' 0 = G1 0 ∧ F' 1 = G1 1 ∧ F' 2 = G1 2 ∧ F' 6 = G1 6 ∧ L' = [.blk b 3 (s2 x y)]) ?_ ?_
  · refine cv_block ?_
    refine cv_seq_k fun K hK => ?_
    refine cv_region_then rfl ?_
    simp -implicitDefEqProofs (disch := first | omega | decide) only [seval, -Int.reducePow, -Nat.reducePow, cC, pv, binv, sFlSort1, undef, g1]
    refine hK _ _ ?_
    clear hK K
    refine cv_block ?_
    refine cv_times 2 ?_
    unfold timesV
    refine cv_seq_k fun K hK => ?_
    refine cv_seq_k fun K hK => ?_
    refine cv_draw [(true, 0), (true, 1), (true, 2), (true, 3), (true, 4), (true, 5), (true, 6), (true, 7), (true, 8), (true, 9), (true, 10), (true, 11), (true, 12), (false, 13), (true, 14)] [] mixA rfl (by kernel_rfl) (by kernel_rfl) rfl rfl ?_
    simp -implicitDefEqProofs (disch := first | omega | decide) only [seval, -Int.reducePow, -Nat.reducePow, cC, pv, binv, sFlSort1, undef, g1]
    refine callV_ret (fun w hw => less_any y x w) ?_
    try simp -implicitDefEqProofs (disch := first | omega | decide) only [seval, -Int.reducePow, -Nat.reducePow, cC, pv, binv, sFlSort1, undef, g1]
    refine hK _ _ ?_
    clear hK K
    refine cv_cond ?_
    simp -implicitDefEqProofs (disch := first | omega | decide) only [seval, -Int.reducePow, -Nat.reducePow, cC, pv, binv, sFlSort1, undef, g1]
    refine ⟨fun hc => ?_, fun hc => ?_⟩
    · have h := of_decide_eq_true ‹decide (y < x) = true›
      refine cv_skip ?_
      try simp only [blockQ, thenQ]
      refine hK _ _ ?_
      clear hK K
      refine cv_seq_k fun K hK => ?_
      refine cv_cut (fun _ _ => True) (fun F' L' => F' 0 = G1 0 ∧ F' 1 = G1 1 ∧ F' 2 = G1 2 ∧ F' 6 = G1 6 ∧ F' 7 = .int .i64 1 ∧ L' = [.blk b 3 [.int .i64 y, .int .i64 x]]) ?_ ?_
      · refine cv_block ?_
        refine cv_q ?_
        refine cv_more [] (by decide) (by simp only [pickL, nth, suf_cons, suf_nil, List.mem_cons, true_or, or_true, and_true, eq_self]) (.rd 0 (.rd 1 (.rd 2 (.rd 3 (.rd 4 (.rd 5 (.rd 6 (.rd 7 (.rd 8 (.rd 10 (.rd 11 (.rd 12 (.more 9 (.act 13 (.rd 14 (.act 15 (.rd 16 (.act 17 (.done)))))) (.act 13 (.act 9 (.rd 14 (.act 15 (.rd 16 (.act 17 (.done)))))))))))))))))))) [17] mixA rfl (by kernel_rfl) (by kernel_rfl) (by kernel_rfl) (by kernel_rfl) ?_
        simp only [pickL, nth]
        simp -implicitDefEqProofs (disch := first | omega | decide) only [seval, -Int.reducePow, -Nat.reducePow, cC, pv, binv, sFlSort1, undef, cM, g1]
        refine ⟨?_, ?_⟩
        all_goals refine ⟨[0], by decide, ?_⟩
        all_goals simp only [pickL, nth]
        all_goals simp -implicitDefEqProofs (disch := first | omega | decide) only [seval, -Int.reducePow, -Nat.reducePow, cC, pv, binv, sFlSort1, undef, g1]
      intro G2 L' _ hF
      obtain ⟨q0, q1, q2, q6, q7, rfl⟩ := hF
      have g2_0 := q0.trans g1_0
      have g2_1 := q1.trans g1_1
      have g2_2 := q2.trans g1_2
      have g2_6 := q6.trans g1_6
      have g2_7 := q7
      clear q0 q1 q2 q6 q7
      have g2 := And.intro g2_0 (And.intro g2_1 (And.intro g2_2 (And.intro g2_6 g2_7)))
      refine hK _ _ ?_
      clear hK K
      refine cv_region_then rfl ?_
      simp -implicitDefEqProofs (disch := first | omega | decide) only [seval, -Int.reducePow, -Nat.reducePow, cC, pv, binv, sFlSort1, undef, g1, g2]
      unfold timesV
      refine cv_seq_k fun K hK => ?_
      refine cv_seq_k fun K hK => ?_
      refine cv_draw [(true, 0), (true, 1), (true, 2), (true, 3), (true, 4), (true, 5), (true, 6), (true, 7), (true, 8), (true, 9), (true, 10), (true, 11), (true, 12), (false, 13), (true, 14)] [] mixA rfl (by kernel_rfl) (by kernel_rfl) rfl rfl ?_
      simp -implicitDefEqProofs (disch := first | omega | decide) only [seval, -Int.reducePow, -Nat.reducePow, cC, pv, binv, sFlSort1, undef, g1, g2]
      refine hK _ _ ?_
      clear hK K
      refine cv_cond ?_
      simp -implicitDefEqProofs (disch := first | omega | decide) only [seval, -Int.reducePow, -Nat.reducePow, cC, pv, binv, sFlSort1, undef, g1, g2]
      refine cv_exit ?_
      simp only [blockQ, thenQ, if_true, ite_true]
      simp -implicitDefEqProofs (disch := first | omega | decide) only [seval, -Int.reducePow, -Nat.reducePow, cC, pv, binv, sFlSort1, undef, g1, g2]
      unfold s2
      rw [if_pos h]
    · have h := of_decide_eq_false ‹decide (y < x) = false›
      refine cv_exit ?_
      simp only [blockQ, thenQ, if_true, ite_true]
      simp -implicitDefEqProofs (disch := first | omega | decide) only [seval, -Int.reducePow, -Nat.reducePow, cC, pv, binv, sFlSort1, undef, g1]
      unfold s2
      rw [if_neg h]
  intro G3 L' _ hF
  obtain ⟨q0, q1, q2, q6, rfl⟩ := hF
  have g3_0 := q0.trans g1_0
  have g3_1 := q1.trans g1_1
  have g3_2 := q2.trans g1_2
  have g3_6 := q6.trans g1_6
  clear q0 q1 q2 q6
  have g3 := And.intro g3_0 (And.intro g3_1 (And.intro g3_2 g3_6))
  refine hK _ _ ?_
  clear hK K
  refine cv_region_then rfl ?_
  simp -implicitDefEqProofs (disch := first | omega | decide) only [seval, -Int.reducePow, -Nat.reducePow, cC, pv, binv, sFlSort1, undef, g3]
  unfold timesV
  refine cv_seq_k fun K hK => ?_
  refine cv_seq_k fun K hK => ?_
  refine cv_region_then rfl ?_
  simp -implicitDefEqProofs (disch := first | omega | decide) only [seval, -Int.reducePow, -Nat.reducePow, cC, pv, binv, sFlSort1, undef, g3]
  refine hK _ _ ?_
  clear hK K
  refine cv_cond ?_
  simp -implicitDefEqProofs (disch := first | omega | decide) only [seval, -Int.reducePow, -Nat.reducePow, cC, pv, binv, sFlSort1, undef, g3]
  refine cv_exit ?_
  simp only [blockQ, thenQ, if_true, ite_true]
  refine ⟨_, rfl, fun w hw => ⟨rfl, hw.hold 0 rfl, hw.pres⟩⟩
theorem pdq2_any (b : Nat) (x y lim : Int) (W : World) (hW : W.heap[b]? = some (.cells #[.int .i64 x, .int .i64 y] 3 (0, 0))) :
    Calls Try.prog 99 #[.slice (some ⟨b, 0, none⟩) 2 2, .int .i64 0, .int .i64 2, .int .i64 lim] W (modP b 3 (.tuple #[]) (s2 x y) W) := by
  refine calls_cv (M := [b]) (n := 134) [] rfl Try.func99 rfl rfl (Nat.le_of_ble_eq_true rfl)  (St.one (cs := [.int .i64 x, .int .i64 y]) hW) ?_
  refine cv_seq_k fun K hK => ?_
  refine cv_region_then rfl ?_
  simp -implicitDefEqProofs (disch := first | omega | decide) only [seval, -Int.reducePow, -Nat.reducePow, cC, pv, binv, sFlSort1, undef]
  refine hK _ _ ?_
  clear hK K
  refine cv_seq_k fun K hK => ?_
  refine cv_region_then rfl ?_
  simp -implicitDefEqProofs (disch := first | omega | decide) only [seval, -Int.reducePow, -Nat.reducePow, cC, pv, binv, sFlSort1, undef]
  refine hK _ _ ?_
  clear hK K
  refine cv_block ?_
  refine cv_times 1 ?_
  unfold timesV
  refine cv_block ?_
  refine cv_seq_k fun K hK => ?_
  refine cv_region_then rfl ?_
  simp -implicitDefEqProofs (disch := first | omega | decide) only [seval, -Int.reducePow, -Nat.reducePow, cC, pv, binv, sFlSort1, undef]
  refine hK _ _ ?_
  clear hK K
  refine cv_seq_k fun K hK => ?_
  refine cv_seq_k fun K hK => ?_
  refine cv_region_then rfl ?_
  simp -implicitDefEqProofs (disch := first | omega | decide) only [seval, -Int.reducePow, -Nat.reducePow, cC, pv, binv, sFlSort1, undef]
  refine hK _ _ ?_
  clear hK K
  refine cv_cond ?_
  simp -implicitDefEqProofs (disch := first | omega | decide) only [seval, -Int.reducePow, -Nat.reducePow, cC, pv, binv, sFlSort1, undef]
  refine cv_seq_k fun K hK => ?_
  refine cv_region_then rfl ?_
  simp -implicitDefEqProofs (disch := first | omega | decide) only [seval, -Int.reducePow, -Nat.reducePow, cC, pv, binv, sFlSort1, undef]
  refine callV_mod1 0 (fun w hw => insert2_any b x y w (hw.hold 0 rfl)) rfl ?_
  try simp -implicitDefEqProofs (disch := first | omega | decide) only [seval, -Int.reducePow, -Nat.reducePow, cC, pv, binv, sFlSort1, undef]
  refine hK _ _ ?_
  clear hK K
  refine cv_ret ⟨_, (by simp -implicitDefEqProofs (disch := first | omega | decide) only [seval, -Int.reducePow, -Nat.reducePow, cC, pv, binv, sFlSort1, undef]; rfl), fun w hw => ?_⟩
  exact ⟨rfl, hw.hold 0 rfl, hw.pres⟩
theorem len64_any (W : World) : Calls Try.prog 114 #[.int .u64 2] W fun e w' => (∃ v : Int, e = .returned (.int .i64 v) ∧ True) ∧ Below W.heap.size W w' := by
  refine calls_cv (M := []) (n := 25) [.tmp 2] rfl Try.func114 rfl rfl (Nat.le_of_ble_eq_true rfl) (St.nil _ _) ?_
  refine cv_seq_k fun K hK => ?_
  refine cv_region_then rfl ?_
  simp -implicitDefEqProofs (disch := first | omega | decide) only [seval, -Int.reducePow, -Nat.reducePow, cC, pv, binv, sFlSort1, undef]
  refine hK _ _ ?_
  clear hK K
  refine cv_seq_k fun K hK => ?_
  refine cv_seq_k fun K hK => ?_
  refine cv_region_then rfl ?_
  simp -implicitDefEqProofs (disch := first | omega | decide) only [seval, -Int.reducePow, -Nat.reducePow, cC, pv, binv, sFlSort1, undef]
  refine hK _ _ ?_
  clear hK K
  refine cv_cond ?_
  simp -implicitDefEqProofs (disch := first | omega | decide) only [seval, -Int.reducePow, -Nat.reducePow, cC, pv, binv, sFlSort1, undef]
  refine cv_skip ?_
  try simp only [blockQ, thenQ]
  refine hK _ _ ?_
  clear hK K
  refine cv_seq_k fun K hK => ?_
  refine cv_seq_k fun K hK => ?_
  refine cv_region_then rfl ?_
  simp -implicitDefEqProofs (disch := first | omega | decide) only [seval, -Int.reducePow, -Nat.reducePow, cC, pv, binv, sFlSort1, undef]
  refine hK _ _ ?_
  clear hK K
  refine cv_cond ?_
  simp -implicitDefEqProofs (disch := first | omega | decide) only [seval, -Int.reducePow, -Nat.reducePow, cC, pv, binv, sFlSort1, undef]
  refine cv_skip ?_
  try simp only [blockQ, thenQ]
  refine hK _ _ ?_
  clear hK K
  refine cv_seq_k fun K hK => ?_
  refine cv_seq_k fun K hK => ?_
  refine cv_region_then rfl ?_
  simp -implicitDefEqProofs (disch := first | omega | decide) only [seval, -Int.reducePow, -Nat.reducePow, cC, pv, binv, sFlSort1, undef]
  refine hK _ _ ?_
  clear hK K
  refine cv_cond ?_
  simp -implicitDefEqProofs (disch := first | omega | decide) only [seval, -Int.reducePow, -Nat.reducePow, cC, pv, binv, sFlSort1, undef]
  refine cv_skip ?_
  try simp only [blockQ, thenQ]
  refine hK _ _ ?_
  clear hK K
  refine cv_seq_k fun K hK => ?_
  refine cv_region_then rfl ?_
  simp -implicitDefEqProofs (disch := first | omega | decide) only [seval, -Int.reducePow, -Nat.reducePow, cC, pv, binv, sFlSort1, undef]
  refine hK _ _ ?_
  clear hK K
  refine cv_ret ⟨_, (by simp -implicitDefEqProofs (disch := first | omega | decide) only [seval, -Int.reducePow, -Nat.reducePow, cC, pv, binv, sFlSort1, undef]; rfl), fun w hw => ?_⟩
  exact ⟨⟨_, rfl, trivial⟩, hw.below⟩
theorem len_any (W : World) : Calls Try.prog 100 #[.int .u64 2] W fun e w' => (∃ v : Int, e = .returned (.int .i64 v) ∧ True) ∧ Below W.heap.size W w' := by
  refine calls_cv (M := []) (n := 8) [.tmp 2] rfl Try.func100 rfl rfl (Nat.le_of_ble_eq_true rfl) (St.nil _ _) ?_
  refine cv_seq_k fun K hK => ?_
  refine cv_region_then rfl ?_
  simp -implicitDefEqProofs (disch := first | omega | decide) only [seval, -Int.reducePow, -Nat.reducePow, cC, pv, binv, sFlSort1, undef]
  refine hK _ _ ?_
  clear hK K
  refine cv_seq_k fun K hK => ?_
  refine cv_cond ?_
  simp -implicitDefEqProofs (disch := first | omega | decide) only [seval, -Int.reducePow, -Nat.reducePow, cC, pv, binv, sFlSort1, undef]
  refine cv_skip ?_
  try simp only [blockQ, thenQ]
  refine hK _ _ ?_
  clear hK K
  refine cv_seq_k fun K hK => ?_
  refine cv_region_then rfl ?_
  simp -implicitDefEqProofs (disch := first | omega | decide) only [seval, -Int.reducePow, -Nat.reducePow, cC, pv, binv, sFlSort1, undef]
  refine callV_ex (fun v : Int => .int .i64 v) (fun _ => True) (fun w hw => len64_any w) ?_
  intro v hv
  simp -implicitDefEqProofs (disch := first | omega | decide) only [seval, -Int.reducePow, -Nat.reducePow, cC, pv, binv, sFlSort1, undef]
  refine hK _ _ ?_
  clear hK K
  refine cv_ret ⟨_, (by simp -implicitDefEqProofs (disch := first | omega | decide) only [seval, -Int.reducePow, -Nat.reducePow, cC, pv, binv, sFlSort1, undef]; rfl), fun w hw => ?_⟩
  exact ⟨⟨_, rfl, trivial⟩, hw.below⟩
theorem sort2_any (b : Nat) (x y : Int) (W : World) (hW : W.heap[b]? = some (.cells #[.int .i64 x, .int .i64 y] 3 (0, 0))) :
    Calls Try.prog 83 #[.slice (some ⟨b, 0, none⟩) 2 2] W (modP b 3 (.tuple #[]) (s2 x y) W) := by
  refine calls_cv (M := [b]) (n := 11) [] rfl Try.func83 rfl rfl (Nat.le_of_ble_eq_true rfl)  (St.one (cs := [.int .i64 x, .int .i64 y]) hW) ?_
  refine cv_seq_k fun K hK => ?_
  refine cv_region_then rfl ?_
  simp -implicitDefEqProofs (disch := first | omega | decide) only [seval, -Int.reducePow, -Nat.reducePow, cC, pv, binv, sFlSort1, undef]
  refine hK _ _ ?_
  clear hK K
  refine cv_region_q rfl ?_
  simp -implicitDefEqProofs (disch := first | omega | decide) only [seval, -Int.reducePow, -Nat.reducePow, cC, pv, binv, sFlSort1, undef]
  refine callV_ex (fun v : Int => .int .i64 v) (fun _ => True) (fun w hw => len_any w) ?_
  intro v hv
  simp -implicitDefEqProofs (disch := first | omega | decide) only [seval, -Int.reducePow, -Nat.reducePow, cC, pv, binv, sFlSort1, undef]
  refine callV_mod1 0 (fun w hw => pdq2_any b x y v w (hw.hold 0 rfl)) rfl ?_
  try simp -implicitDefEqProofs (disch := first | omega | decide) only [seval, -Int.reducePow, -Nat.reducePow, cC, pv, binv, sFlSort1, undef]
  refine ⟨_, rfl, fun w hw => ⟨rfl, hw.hold 0 rfl, hw.pres⟩⟩
theorem comp2_eq (b : Nat) (x : Int) (W : World) (hW : W.heap[b]? = some (.cells #[.int .i64 x, .int .i64 x] 3 (0, 0))) :
    Calls Try.prog 84 #[.slice (some ⟨b, 0, none⟩) 2 2] W (modP b 3 (.slice (some ⟨b, 0, none⟩) 1 2) [.int .i64 x, .int .i64 0] W) := by
  refine calls_cv (M := [b]) (n := 61) [.tmp 2] rfl Try.func84 rfl rfl (Nat.le_of_ble_eq_true rfl)  (St.one (cs := [.int .i64 x, .int .i64 x]) hW) ?_
  refine cv_seq_k fun K hK => ?_
  refine cv_region_then rfl ?_
  simp -implicitDefEqProofs (disch := first | omega | decide) only [seval, -Int.reducePow, -Nat.reducePow, cC, pv, binv, sFlSort1, undef]
  refine hK _ _ ?_
  clear hK K
  refine cv_seq_k fun K hK => ?_
  refine cv_seq_k fun K hK => ?_
  refine cv_region_then rfl ?_
  simp -implicitDefEqProofs (disch := first | omega | decide) only [seval, -Int.reducePow, -Nat.reducePow, cC, pv, binv, sFlSort1, undef]
  refine hK _ _ ?_
  clear hK K
  refine cv_cond ?_
  simp -implicitDefEqProofs (disch := first | omega | decide) only [seval, -Int.reducePow, -Nat.reducePow, cC, pv, binv, sFlSort1, undef]
  refine cv_skip ?_
  try simp only [blockQ, thenQ]
  refine hK _ _ ?_
  clear hK K
  refine cv_seq_k fun K hK => ?_
  refine cv_seq_k fun K hK => ?_
  refine cv_region_then rfl ?_
  simp -implicitDefEqProofs (disch := first | omega | decide) only [seval, -Int.reducePow, -Nat.reducePow, cC, pv, binv, sFlSort1, undef]
  refine hK _ _ ?_
  clear hK K
  refine cv_block ?_
  refine cv_times 1 ?_
  unfold timesV
  refine cv_seq_k fun K hK => ?_
  refine cv_seq_k fun K hK => ?_
  refine cv_region_then rfl ?_
  simp -implicitDefEqProofs (disch := first | omega | decide) only [seval, -Int.reducePow, -Nat.reducePow, cC, pv, binv, sFlSort1, undef]
  refine hK _ _ ?_
  clear hK K
  refine cv_cond ?_
  simp -implicitDefEqProofs (disch := first | omega | decide) only [seval, -Int.reducePow, -Nat.reducePow, cC, pv, binv, sFlSort1, undef]
  refine cv_skip ?_
  try simp only [blockQ, thenQ]
  refine hK _ _ ?_
  clear hK K
  refine cv_seq_k fun K hK => ?_
  refine cv_block ?_
  refine cv_seq_k fun K hK => ?_
  refine cv_draw [(true, 0), (true, 1), (true, 2), (true, 3), (true, 4), (true, 5), (true, 6), (true, 7), (true, 8), (true, 9)] [] mixA rfl (by kernel_rfl) (by kernel_rfl) rfl rfl ?_
  simp -implicitDefEqProofs (disch := first | omega | decide) only [seval, -Int.reducePow, -Nat.reducePow, cC, pv, binv, sFlSort1, undef]
  refine hK _ _ ?_
  clear hK K
  refine cv_cond ?_
  simp -implicitDefEqProofs (disch := first | omega | decide) only [seval, -Int.reducePow, -Nat.reducePow, cC, pv, binv, sFlSort1, undef]
  refine cv_seq_k fun K hK => ?_
  refine cv_region_then rfl ?_
  simp -implicitDefEqProofs (disch := first | omega | decide) only [seval, -Int.reducePow, -Nat.reducePow, cC, pv, binv, sFlSort1, undef]
  refine hK _ _ ?_
  clear hK K
  refine cv_seq_k fun K hK => ?_
  refine cv_seq_k fun K hK => ?_
  refine cv_region_then rfl ?_
  simp -implicitDefEqProofs (disch := first | omega | decide) only [seval, -Int.reducePow, -Nat.reducePow, cC, pv, binv, sFlSort1, undef]
  refine hK _ _ ?_
  clear hK K
  refine cv_block ?_
  refine cv_times 1 ?_
  unfold timesV
  refine cv_seq_k fun K hK => ?_
  refine cv_seq_k fun K hK => ?_
  refine cv_region_then rfl ?_
  simp -implicitDefEqProofs (disch := first | omega | decide) only [seval, -Int.reducePow, -Nat.reducePow, cC, pv, binv, sFlSort1, undef]
  refine hK _ _ ?_
  clear hK K
  refine cv_cond ?_
  simp -implicitDefEqProofs (disch := first | omega | decide) only [seval, -Int.reducePow, -Nat.reducePow, cC, pv, binv, sFlSort1, undef]
  refine cv_exit ?_
  simp only [blockQ, thenQ, if_true, ite_true]
  clear hK K
  refine hK _ _ ?_
  clear hK K
  refine cv_seq_k fun K hK => ?_
  refine cv_region_then rfl ?_
  simp -implicitDefEqProofs (disch := first | omega | decide) only [seval, -Int.reducePow, -Nat.reducePow, cC, pv, binv, sFlSort1, undef]
  refine xv_clear 0 (n := 0) (o := 1) (u := .int .i64 0) tap45 rfl rfl rfl rfl (by simp) ?_
  simp -implicitDefEqProofs (disch := first | omega | decide) only [seval, -Int.reducePow, -Nat.reducePow, cC, pv, binv, sFlSort1, undef]
  refine hK _ _ ?_
  clear hK K
  refine cv_seq_k fun K hK => ?_
  refine cv_region_then rfl ?_
  simp -implicitDefEqProofs (disch := first | omega | decide) only [seval, -Int.reducePow, -Nat.reducePow, cC, pv, binv, sFlSort1, undef]
  refine hK _ _ ?_
  clear hK K
  refine cv_ret ⟨_, (by simp -implicitDefEqProofs (disch := first | omega | decide) only [seval, -Int.reducePow, -Nat.reducePow, cC, pv, binv, sFlSort1, undef]; rfl), fun w hw => ?_⟩
  exact ⟨rfl, hw.hold 0 rfl, hw.pres⟩
theorem comp2_ne (b : Nat) (x y : Int) (W : World) (hW : W.heap[b]? = some (.cells #[.int .i64 x, .int .i64 y] 3 (0, 0))) (hne : ¬ y = x) :
    Calls Try.prog 84 #[.slice (some ⟨b, 0, none⟩) 2 2] W (modP b 3 (.slice (some ⟨b, 0, none⟩) 2 2) [.int .i64 x, .int .i64 y] W) := by
  refine calls_cv (M := [b]) (n := 61) [.tmp 2] rfl Try.func84 rfl rfl (Nat.le_of_ble_eq_true rfl)  (St.one (cs := [.int .i64 x, .int .i64 y]) hW) ?_
  refine cv_seq_k fun K hK => ?_
  refine cv_region_then rfl ?_
  simp -implicitDefEqProofs (disch := first | omega | decide) only [seval, -Int.reducePow, -Nat.reducePow, cC, pv, binv, sFlSort1, undef]
  refine hK _ _ ?_
  clear hK K
  refine cv_seq_k fun K hK => ?_
  refine cv_seq_k fun K hK => ?_
  refine cv_region_then rfl ?_
  simp -implicitDefEqProofs (disch := first | omega | decide) only [seval, -Int.reducePow, -Nat.reducePow, cC, pv, binv, sFlSort1, undef]
  refine hK _ _ ?_
  clear hK K
  refine cv_cond ?_
  simp -implicitDefEqProofs (disch := first | omega | decide) only [seval, -Int.reducePow, -Nat.reducePow, cC, pv, binv, sFlSort1, undef]
  refine cv_skip ?_
  try simp only [blockQ, thenQ]
  refine hK _ _ ?_
  clear hK K
  refine cv_seq_k fun K hK => ?_
  refine cv_seq_k fun K hK => ?_
  refine cv_region_then rfl ?_
  simp -implicitDefEqProofs (disch := first | omega | decide) only [seval, -Int.reducePow, -Nat.reducePow, cC, pv, binv, sFlSort1, undef]
  refine hK _ _ ?_
  clear hK K
  refine cv_block ?_
  refine cv_times 2 ?_
  unfold timesV
  refine cv_seq_k fun K hK => ?_
  refine cv_seq_k fun K hK => ?_
  refine cv_region_then rfl ?_
  simp -implicitDefEqProofs (disch := first | omega | decide) only [seval, -Int.reducePow, -Nat.reducePow, cC, pv, binv, sFlSort1, undef]
  refine hK _ _ ?_
  clear hK K
  refine cv_cond ?_
  simp -implicitDefEqProofs (disch := first | omega | decide) only [seval, -Int.reducePow, -Nat.reducePow, cC, pv, binv, sFlSort1, undef]
  refine cv_skip ?_
  try simp only [blockQ, thenQ]
  refine hK _ _ ?_
  clear hK K
  refine cv_seq_k fun K hK => ?_
  refine cv_block ?_
  refine cv_seq_k fun K hK => ?_
  refine cv_draw [(true, 0), (true, 1), (true, 2), (true, 3), (true, 4), (true, 5), (true, 6), (true, 7), (true, 8), (true, 9)] [] mixA rfl (by kernel_rfl) (by kernel_rfl) rfl rfl ?_
  simp -implicitDefEqProofs (disch := first | omega | decide) only [seval, -Int.reducePow, -Nat.reducePow, cC, pv, binv, sFlSort1, undef]
  refine hK _ _ ?_
  clear hK K
  refine cv_cond ?_
  simp -implicitDefEqProofs (disch := first | omega | decide) only [seval, -Int.reducePow, -Nat.reducePow, cC, pv, binv, sFlSort1, undef, hne]
  refine cv_skip ?_
  try simp only [blockQ, thenQ]
  refine hK _ _ ?_
  clear hK K
  refine cv_region_then rfl ?_
  simp -implicitDefEqProofs (disch := first | omega | decide) only [seval, -Int.reducePow, -Nat.reducePow, cC, pv, binv, sFlSort1, undef]
  unfold timesV
  refine cv_seq_k fun K hK => ?_
  refine cv_seq_k fun K hK => ?_
  refine cv_region_then rfl ?_
  simp -implicitDefEqProofs (disch := first | omega | decide) only [seval, -Int.reducePow, -Nat.reducePow, cC, pv, binv, sFlSort1, undef]
  refine hK _ _ ?_
  clear hK K
  refine cv_cond ?_
  simp -implicitDefEqProofs (disch := first | omega | decide) only [seval, -Int.reducePow, -Nat.reducePow, cC, pv, binv, sFlSort1, undef]
  refine cv_exit ?_
  simp only [blockQ, thenQ, if_true, ite_true]
  clear hK K
  refine hK _ _ ?_
  clear hK K
  refine cv_seq_k fun K hK => ?_
  refine cv_region_then rfl ?_
  simp -implicitDefEqProofs (disch := first | omega | decide) only [seval, -Int.reducePow, -Nat.reducePow, cC, pv, binv, sFlSort1, undef]
  refine hK _ _ ?_
  clear hK K
  refine cv_ret ⟨_, (by simp -implicitDefEqProofs (disch := first | omega | decide) only [seval, -Int.reducePow, -Nat.reducePow, cC, pv, binv, sFlSort1, undef]; rfl), fun w hw => ?_⟩
  exact ⟨rfl, hw.hold 0 rfl, hw.pres⟩
end Go.Proofs.Ytlbmnioibiomfaa
