/- slices.Repeat of one number. -/
import Derived.Test.YtlbmnioibiomfaaFlEng
import Derived.Test.YtlbmnioibiomfaaFlNext
namespace Go.Proofs.Ytlbmnioibiomfaa
open Go.RowKit Go.Shelf
set_option linter.unusedVariables false
set_option linter.unusedSimpArgs false
set_option maxRecDepth 100000
theorem m32 (n : Nat) (h : n ≤ 4294967295) : bits BinOp.and IntKind.u64 (n : Int) 4294967295 = (n : Int) := by
  have := bits_and_u64_nat n 4294967295 (by omega) (by omega)
  rw [show (4294967295 : Int) = ((4294967295 : Nat) : Int) from rfl, this, show (4294967295 : Nat) = 2 ^ 32 - 1 from rfl, Nat.and_two_pow_sub_one_eq_mod, Nat.mod_eq_of_lt (by omega)]
theorem m32_0 : bits BinOp.and IntKind.u64 0 4294967295 = 0 := m32 0 (by omega)
theorem m32_1 : bits BinOp.and IntKind.u64 1 4294967295 = 1 := m32 1 (by omega)
theorem d32_0 : (0 : Int) / 2 ^ 32 = 0 := by decide
theorem d32_1 : (1 : Int) / 2 ^ 32 = 0 := by decide
set_option maxRecDepth 100000 in
theorem sFlRep1 : type_of% (And.intro (And.intro (And.intro @Nat.mul_one (And.intro @wrap_in @m32_0)) (And.intro @m32_1 (And.intro @d32_0 @d32_1))) (And.intro (And.intro @Int.zero_mul (And.intro @Int.mul_zero @Int.one_mul)) (And.intro (And.intro @Int.mul_one @Int.zero_add) (And.intro @Int.add_zero @wrapu)))) := (And.intro (And.intro (And.intro @Nat.mul_one (And.intro @wrap_in @m32_0)) (And.intro @m32_1 (And.intro @d32_0 @d32_1))) (And.intro (And.intro @Int.zero_mul (And.intro @Int.mul_zero @Int.one_mul)) (And.intro (And.intro @Int.mul_one @Int.zero_add) (And.intro @Int.add_zero @wrapu))))
theorem mul64_any (n : Nat) (W : World) (h : n ≤ 1024) : Calls Try.prog 96 #[.int .u64 1, .int .u64 (n : Int)] W fun e w' => e = .returned (.tuple #[.int .u64 0, .int .u64 (n : Int)]) ∧ Below W.heap.size W w' := by
  have h1 := m32 n (by omega)
  have h2 : (n : Int) / 2 ^ 32 = 0 := by omega
  refine calls_cv (M := []) (n := 51) [.tmp 4, .tmp 5] rfl Try.func96 rfl rfl (Nat.le_of_ble_eq_true rfl) (St.nil _ _) ?_
  refine cv_seq_k fun K hK => ?_
  refine cv_region_then rfl ?_
  simp -implicitDefEqProofs (disch := first | omega | decide) only [seval, -Int.reducePow, -Nat.reducePow, cC, pv, binv, sFlRep1, undef, h1, h2]
  refine hK _ _ ?_
  clear hK K
  refine cv_seq_k fun K hK => ?_
  refine cv_region_then rfl ?_
  simp -implicitDefEqProofs (disch := first | omega | decide) only [seval, -Int.reducePow, -Nat.reducePow, cC, pv, binv, sFlRep1, undef, h1, h2]
  refine hK _ _ ?_
  clear hK K
  refine cv_seq_k fun K hK => ?_
  refine cv_region_then rfl ?_
  simp -implicitDefEqProofs (disch := first | omega | decide) only [seval, -Int.reducePow, -Nat.reducePow, cC, pv, binv, sFlRep1, undef, h1, h2]
  refine hK _ _ ?_
  clear hK K
  refine cv_seq_k fun K hK => ?_
  refine cv_region_then rfl ?_
  simp -implicitDefEqProofs (disch := first | omega | decide) only [seval, -Int.reducePow, -Nat.reducePow, cC, pv, binv, sFlRep1, undef, h1, h2]
  refine hK _ _ ?_
  clear hK K
  refine cv_seq_k fun K hK => ?_
  refine cv_region_then rfl ?_
  simp -implicitDefEqProofs (disch := first | omega | decide) only [seval, -Int.reducePow, -Nat.reducePow, cC, pv, binv, sFlRep1, undef, h1, h2]
  refine hK _ _ ?_
  clear hK K
  refine cv_gen fun G1 hG => ?_
  have g1_0 := congrFun hG 0
  have g1_1 := congrFun hG 1
  have g1_6 := congrFun hG 6
  have g1_7 := congrFun hG 7
  have g1_8 := congrFun hG 8
  have g1_9 := congrFun hG 9
  clear hG
  try simp -implicitDefEqProofs (disch := first | omega | decide) only [seval, -Int.reducePow, -Nat.reducePow, cC, pv, binv, sFlRep1, undef] at g1_0 g1_1 g1_6 g1_7 g1_8 g1_9
  have g1 := And.intro g1_0 (And.intro g1_1 (And.intro g1_6 (And.intro g1_7 (And.intro g1_8 g1_9))))
  refine cv_seq_k fun K hK => ?_
  refine cv_region_then rfl ?_
  simp -implicitDefEqProofs (disch := first | omega | decide) only [seval, -Int.reducePow, -Nat.reducePow, cC, pv, binv, sFlRep1, undef, h1, h2, g1]
  refine hK _ _ ?_
  clear hK K
  refine cv_seq_k fun K hK => ?_
  refine cv_region_then rfl ?_
  simp -implicitDefEqProofs (disch := first | omega | decide) only [seval, -Int.reducePow, -Nat.reducePow, cC, pv, binv, sFlRep1, undef, h1, h2, g1]
  refine hK _ _ ?_
  clear hK K
  refine cv_seq_k fun K hK => ?_
  refine cv_region_then rfl ?_
  simp -implicitDefEqProofs (disch := first | omega | decide) only [seval, -Int.reducePow, -Nat.reducePow, cC, pv, binv, sFlRep1, undef, h1, h2, g1]
  refine hK _ _ ?_
  clear hK K
  refine cv_seq_k fun K hK => ?_
  refine cv_region_then rfl ?_
  simp -implicitDefEqProofs (disch := first | omega | decide) only [seval, -Int.reducePow, -Nat.reducePow, cC, pv, binv, sFlRep1, undef, h1, h2, g1]
  refine hK _ _ ?_
  clear hK K
  refine cv_gen fun G2 hG => ?_
  have g2_0 := congrFun hG 0
  have g2_1 := congrFun hG 1
  have g2_6 := congrFun hG 6
  have g2_7 := congrFun hG 7
  have g2_9 := congrFun hG 9
  have g2_12 := congrFun hG 12
  have g2_13 := congrFun hG 13
  clear hG
  try simp -implicitDefEqProofs (disch := first | omega | decide) only [seval, -Int.reducePow, -Nat.reducePow, cC, pv, binv, sFlRep1, undef, g1] at g2_0 g2_1 g2_6 g2_7 g2_9 g2_12 g2_13
  have g2 := And.intro g2_0 (And.intro g2_1 (And.intro g2_6 (And.intro g2_7 (And.intro g2_9 (And.intro g2_12 g2_13)))))
  refine cv_seq_k fun K hK => ?_
  refine cv_region_then rfl ?_
  simp -implicitDefEqProofs (disch := first | omega | decide) only [seval, -Int.reducePow, -Nat.reducePow, cC, pv, binv, sFlRep1, undef, h1, h2, g2]
  refine hK _ _ ?_
  clear hK K
  refine cv_seq_k fun K hK => ?_
  refine cv_region_then rfl ?_
  simp -implicitDefEqProofs (disch := first | omega | decide) only [seval, -Int.reducePow, -Nat.reducePow, cC, pv, binv, sFlRep1, undef, h1, h2, g2]
  refine hK _ _ ?_
  clear hK K
  refine cv_gen fun G3 hG => ?_
  have g3_0 := congrFun hG 0
  have g3_1 := congrFun hG 1
  have g3_4 := congrFun hG 4
  clear hG
  try simp -implicitDefEqProofs (disch := first | omega | decide) only [seval, -Int.reducePow, -Nat.reducePow, cC, pv, binv, sFlRep1, undef, g2] at g3_0 g3_1 g3_4
  have g3 := And.intro g3_0 (And.intro g3_1 g3_4)
  refine cv_seq_k fun K hK => ?_
  refine cv_region_then rfl ?_
  simp -implicitDefEqProofs (disch := first | omega | decide) only [seval, -Int.reducePow, -Nat.reducePow, cC, pv, binv, sFlRep1, undef, h1, h2, g3]
  refine hK _ _ ?_
  clear hK K
  refine cv_ret ⟨_, (by simp -implicitDefEqProofs (disch := first | omega | decide) only [seval, -Int.reducePow, -Nat.reducePow, cC, pv, binv, sFlRep1, undef, g3]; rfl), fun w hw => ?_⟩
  exact ⟨rfl, hw.below⟩
theorem mul_any (n : Nat) (W : World) (h : n ≤ 1024) : Calls Try.prog 81 #[.int .u64 1, .int .u64 (n : Int)] W fun e w' => e = .returned (.tuple #[.int .u64 0, .int .u64 (n : Int)]) ∧ Below W.heap.size W w' := by
  refine calls_cv (M := []) (n := 30) [.tmp 4, .tmp 5] rfl Try.func81 rfl rfl (Nat.le_of_ble_eq_true rfl) (St.nil _ _) ?_
  refine cv_seq_k fun K hK => ?_
  refine cv_region_then rfl ?_
  simp -implicitDefEqProofs (disch := first | omega | decide) only [seval, -Int.reducePow, -Nat.reducePow, cC, pv, binv, sFlRep1, undef]
  refine hK _ _ ?_
  clear hK K
  refine cv_seq_k fun K hK => ?_
  refine cv_cond ?_
  simp -implicitDefEqProofs (disch := first | omega | decide) only [seval, -Int.reducePow, -Nat.reducePow, cC, pv, binv, sFlRep1, undef]
  refine cv_skip ?_
  try simp only [blockQ, thenQ]
  refine hK _ _ ?_
  clear hK K
  refine cv_seq_k fun K hK => ?_
  refine cv_region_then rfl ?_
  simp -implicitDefEqProofs (disch := first | omega | decide) only [seval, -Int.reducePow, -Nat.reducePow, cC, pv, binv, sFlRep1, undef]
  refine callV_ret (fun w hw => mul64_any n w h) ?_
  try simp -implicitDefEqProofs (disch := first | omega | decide) only [seval, -Int.reducePow, -Nat.reducePow, cC, pv, binv, sFlRep1, undef]
  refine hK _ _ ?_
  clear hK K
  refine cv_seq_k fun K hK => ?_
  refine cv_region_then rfl ?_
  simp -implicitDefEqProofs (disch := first | omega | decide) only [seval, -Int.reducePow, -Nat.reducePow, cC, pv, binv, sFlRep1, undef]
  refine hK _ _ ?_
  clear hK K
  refine cv_ret ⟨_, (by simp -implicitDefEqProofs (disch := first | omega | decide) only [seval, -Int.reducePow, -Nat.reducePow, cC, pv, binv, sFlRep1, undef]; rfl), fun w hw => ?_⟩
  exact ⟨rfl, hw.below⟩
theorem rep_dbl (n k p : Nat) (u v : Value) (h : k + p ≤ n) : List.take k (List.replicate k u ++ List.replicate (n - k) v) ++ List.replicate p u ++ List.drop (k + p) (List.replicate k u ++ List.replicate (n - k) v) = List.replicate (k + p) u ++ List.replicate (n - (k + p)) v := by
  rw [List.take_left' (by simp), List.replicate_append_replicate, List.drop_append, List.drop_of_length_le (by simp), List.drop_replicate, List.length_replicate, List.nil_append]
  congr 2
  omega
set_option maxHeartbeats 1000000 in
theorem repeat_any (a n : Nat) (W : World) (ha : Sl W W.heap.size 1 (some ⟨a, 0, none⟩) 1 1 [.int .i64 (-1)]) (h1 : 1 ≤ n) (h : n ≤ 1024) :
    Calls Try.prog 56 #[.slice (some ⟨a, 0, none⟩) 1 1, .int .i64 (n : Int)] W fun e w' => ∃ b, e = .returned (.slice (some ⟨b, 0, none⟩) n n) ∧ W.heap.size ≤ b ∧ w'.heap[b]? = some (.cells (List.replicate n (.int .i64 (-1))).toArray 3 (0, 0)) ∧ Below W.heap.size W w' := by
  have h0 : decide ((n : Int) < 0) = false := decide_eq_false (by omega)
  have h9 : decide (9223372036854775807 < (n : Int)) = false := decide_eq_false (by omega)
  refine calls_cv (M := []) (n := 48) [.tmp 4] rfl Try.func56 rfl rfl (Nat.le_of_ble_eq_true rfl) (St.nil _ _) ?_
  refine cv_seq_k fun K hK => ?_
  refine cv_region_then rfl ?_
  simp -implicitDefEqProofs (disch := first | omega | decide) only [seval, -Int.reducePow, -Nat.reducePow, cC, pv, binv, sFlRep1, undef]
  refine hK _ _ ?_
  clear hK K
  refine cv_seq_k fun K hK => ?_
  refine cv_seq_k fun K hK => ?_
  refine cv_region_then rfl ?_
  simp -implicitDefEqProofs (disch := first | omega | decide) only [seval, -Int.reducePow, -Nat.reducePow, cC, pv, binv, sFlRep1, undef]
  refine hK _ _ ?_
  clear hK K
  refine cv_cond ?_
  simp -implicitDefEqProofs (disch := first | omega | decide) only [seval, -Int.reducePow, -Nat.reducePow, cC, pv, binv, sFlRep1, undef, h0]
  refine cv_skip ?_
  try simp only [blockQ, thenQ]
  refine hK _ _ ?_
  clear hK K
  refine cv_seq_k fun K hK => ?_
  refine cv_region_then rfl ?_
  simp -implicitDefEqProofs (disch := first | omega | decide) only [seval, -Int.reducePow, -Nat.reducePow, cC, pv, binv, sFlRep1, undef]
  refine callV_ret (fun w hw => mul_any n w h) ?_
  try simp -implicitDefEqProofs (disch := first | omega | decide) only [seval, -Int.reducePow, -Nat.reducePow, cC, pv, binv, sFlRep1, undef]
  refine hK _ _ ?_
  clear hK K
  refine cv_seq_k fun K hK => ?_
  refine cv_seq_k fun K hK => ?_
  refine cv_region_then rfl ?_
  simp -implicitDefEqProofs (disch := first | omega | decide) only [seval, -Int.reducePow, -Nat.reducePow, cC, pv, binv, sFlRep1, undef]
  refine hK _ _ ?_
  clear hK K
  refine cv_cond ?_
  simp -implicitDefEqProofs (disch := first | omega | decide) only [seval, -Int.reducePow, -Nat.reducePow, cC, pv, binv, sFlRep1, undef, h9]
  refine cv_skip ?_
  try simp only [blockQ, thenQ]
  refine hK _ _ ?_
  clear hK K
  refine cv_seq_k fun K hK => ?_
  refine cv_region_then rfl ?_
  simp -implicitDefEqProofs (disch := first | omega | decide) only [seval, -Int.reducePow, -Nat.reducePow, cC, pv, binv, sFlRep1, undef]
  refine xv_make (u := .int .i64 0) tap45 rfl rfl rfl (by omega) (by omega) ?_
  intro b hb hfb
  simp -implicitDefEqProofs (disch := first | omega | decide) only [seval, -Int.reducePow, -Nat.reducePow, cC, pv, binv, sFlRep1, undef]
  refine hK _ _ ?_
  clear hK K
  refine cv_seq_k fun K hK => ?_
  refine cv_region_then rfl ?_
  simp -implicitDefEqProofs (disch := first | omega | decide) only [seval, -Int.reducePow, -Nat.reducePow, cC, pv, binv, sFlRep1, undef]
  refine xv_copy 0 (news := [.int .i64 (-1)]) tap45 rfl rfl rfl (by show 1 = min 1 n; omega) (fun w hw j v hv => ?_) (by simp; omega) rfl ?_
  · obtain ⟨b', o', e, hb', hc⟩ := (ha.at hw).cells (by omega)
    cases e
    rw [Addr.add_lit]
    exact hc j v hv
  simp -implicitDefEqProofs (disch := first | omega | decide) only [seval, -Int.reducePow, -Nat.reducePow, cC, pv, binv, sFlRep1, undef]
  refine hK _ _ ?_
  clear hK K
  refine cv_gen fun G4 hG => ?_
  have g4_7 := congrFun hG 7
  have g4_8 := congrFun hG 8
  clear hG
  try simp -implicitDefEqProofs (disch := first | omega | decide) only [seval, -Int.reducePow, -Nat.reducePow, cC, pv, binv, sFlRep1, undef] at g4_7 g4_8
  have g4 := And.intro g4_7 g4_8
  refine cv_seq_k fun K hK => ?_
  refine cv_block ?_
  refine cv_loop (fun F' L' => ∃ (k : Nat), F' 7 = G4 7 ∧ F' 8 = .int .i64 (k : Int) ∧ L' = [.blk b 3 (List.replicate k (.int .i64 (-1)) ++ List.replicate (n - k) (.int .i64 0))] ∧ 1 ≤ k ∧ k ≤ n) (fun F' L' => 1100 - (intOf (F' 8)).toNat) ?_ ?_
  · refine ⟨1, ?_⟩
    simp -implicitDefEqProofs (disch := first | omega | decide) only [seval, -Int.reducePow, -Nat.reducePow, cC, pv, binv, sFlRep1, undef, g4]
    refine ⟨?_, by omega⟩
    simp
  intro G5 L' hI
  obtain ⟨k, q7, q8, rfl, ⟨hk1, hk⟩⟩ := hI
  have g5_7 := q7.trans g4_7
  have g5_8 := q8
  clear q7 q8
  have g5 := And.intro g5_7 g5_8
  refine cv_seq_k fun K hK => ?_
  refine cv_seq_k fun K hK => ?_
  refine cv_region_then rfl ?_
  simp -implicitDefEqProofs (disch := first | omega | decide) only [seval, -Int.reducePow, -Nat.reducePow, cC, pv, binv, sFlRep1, undef, g4, g5]
  refine hK _ _ ?_
  clear hK K
  refine cv_cond ?_
  simp -implicitDefEqProofs (disch := first | omega | decide) only [seval, -Int.reducePow, -Nat.reducePow, cC, pv, binv, sFlRep1, undef, g4, g5]
  refine ⟨fun hc => ?_, fun hc => ?_⟩
  · refine cv_skip ?_
    try simp only [blockQ, thenQ]
    have hkn : k < n := by have := of_decide_eq_true ‹decide ((k : Int) < (n : Int)) = true›; omega
    refine hK _ _ ?_
    clear hK K
    refine cv_block ?_
    have hsb : sbase n k 1 (some ⟨b, 0, none⟩) = some ⟨b, k, none⟩ := by rw [sbase_some (by omega), Addr.add_lit, Nat.mul_one, Nat.zero_add]
    refine cv_q ?_
    refine cv_draw_of (pickL [] _) (fun w hw => hw.pick (by decide)) (by simp only [pickL, nth, suf_cons, suf_nil, List.mem_cons, true_or, or_true, and_true, eq_self]) [(true, 0), (true, 1), (true, 2), (true, 3), (true, 4), (true, 5), (true, 6), (false, 7), (true, 8), (true, 9)] [] mixA rfl (by kernel_rfl) (by kernel_rfl) rfl rfl ?_
    simp -implicitDefEqProofs (disch := first | omega | decide) only [seval, -Int.reducePow, -Nat.reducePow, cC, pv, binv, sFlRep1, undef, hsb, g4, g5]
    refine xv_copy 0 (news := List.replicate (min (n - k) k) (.int .i64 (-1))) tap45 rfl rfl rfl (by rw [List.length_replicate]; exact Nat.min_comm _ _) (fun w hw j v hv => ?_) (by simp; omega) (by simp [ones, Value.oneCell']) ?_
    · have hj : j < min (n - k) k := by
        have := (List.getElem?_eq_some_iff.1 hv).1
        rwa [List.length_replicate] at this
      rw [Addr.add_lit, Nat.zero_add, hw.blk_cell (.head _), List.getElem?_append_left (by rw [List.length_replicate]; omega), List.getElem?_replicate, if_pos (by omega), ← hv, List.getElem?_replicate, if_pos hj]
    simp -implicitDefEqProofs (disch := first | omega | decide) only [seval, -Int.reducePow, -Nat.reducePow, cC, pv, binv, sFlRep1, undef, hsb, g4, g5]
    obtain ⟨p, hp⟩ : ∃ p, min (n - k) k = p := ⟨_, rfl⟩
    rw [hp, List.length_replicate, rep_dbl n k p _ _ (by omega), ← Int.natCast_add, wrap_in (by omega) (by omega)]
    refine ⟨⟨k + p, rfl, rfl, by omega, by omega⟩, ?_⟩
    simp only [intOf]
    omega
  refine cv_exit ?_
  simp only [blockQ, thenQ, if_true, ite_true]
  clear hK K
  refine hK _ _ ?_
  clear hK K
  have hkn : k = n := by have := of_decide_eq_false ‹decide ((k : Int) < (n : Int)) = false›; omega
  refine cv_seq_k fun K hK => ?_
  refine cv_region_then rfl ?_
  simp -implicitDefEqProofs (disch := first | omega | decide) only [seval, -Int.reducePow, -Nat.reducePow, cC, pv, binv, sFlRep1, undef, g4, g5]
  refine hK _ _ ?_
  clear hK K
  refine cv_ret ⟨_, (by simp -implicitDefEqProofs (disch := first | omega | decide) only [seval, -Int.reducePow, -Nat.reducePow, cC, pv, binv, sFlRep1, undef, g4, g5]; rfl), fun w hw => ?_⟩
  subst hkn
  refine ⟨b, rfl, hb, ?_, hw.below⟩
  have := hw.hold 0 rfl
  simpa using this
end Go.Proofs.Ytlbmnioibiomfaa
