/- The law VerifyCalls, walked. -/
import Derived.Test.YtlbmnioibiomfaaVeSame
import Derived.Test.YtlbmnioibiomfaaMore
namespace Go.Proofs.Ytlbmnioibiomfaa
open Go.RowKit Go.Shelf
set_option linter.unusedVariables false
set_option linter.unusedSimpArgs false
set_option maxRecDepth 100000
set_option maxRecDepth 100000 in
theorem sVeLCalls1 : type_of% (And.intro (And.intro @mBox.eq_1 (And.intro @modV.eq_1 @insV.eq_1)) (And.intro (And.intro @fnV.eq_1 @Nat.mul_one) (And.intro @cS @wrap_in))) := (And.intro (And.intro @mBox.eq_1 (And.intro @modV.eq_1 @insV.eq_1)) (And.intro (And.intro @fnV.eq_1 @Nat.mul_one) (And.intro @cS @wrap_in)))
set_option maxHeartbeats 4000000 in
theorem vCalls_walk (W : World) (A : Option Addr) (n c : Nat) (l : List Nat) (hE : Sl W W.heap.size 1 A n c (byt l)) (hb : ∀ x ∈ l, x < 256) (dead : Int) (hd : 0 ≤ dead ∧ dead ≤ 255) :
    Calls Try.prog 7 #[.slice A n c, .int .u8 dead] W fun e w' => e = .returned (.bool true) ∧ Below W.heap.size W w' := by
  have hcap := hE.cap
  have hmax := hE.max
  obtain ⟨N, hN⟩ : ∃ N, IntKind.i64.wrap (2 + (n : Int)) = N := ⟨_, rfl⟩
  have hN2 : N = 2 + (n : Int) ∨ N < 0 := by
    rw [← hN, IntKind.wrap_i64]
    omega
  refine calls_cv (M := []) (n := 65) [.tmp 4] rfl Try.func7 rfl rfl (Nat.le_of_ble_eq_true rfl) (St.nil _ _) ?_
  refine cv_seq_k fun K hK => ?_
  refine cv_region_then rfl ?_
  simp -implicitDefEqProofs (disch := first | omega | decide) only [seval, -Int.reducePow, -Nat.reducePow, cC, pv, binv, sVeLCalls1, undef]
  refine hK _ _ ?_
  clear hK K
  refine cv_seq_k fun K hK => ?_
  refine cv_region_then rfl ?_
  simp -implicitDefEqProofs (disch := first | omega | decide) only [seval, -Int.reducePow, -Nat.reducePow, cC, pv, binv, sVeLCalls1, undef, hN]
  refine hK _ _ ?_
  clear hK K
  refine cv_seq_k fun K hK => ?_
  refine cv_seq_k fun K hK => ?_
  refine cv_region_then rfl ?_
  simp -implicitDefEqProofs (disch := first | omega | decide) only [seval, -Int.reducePow, -Nat.reducePow, cC, pv, binv, sVeLCalls1, undef, hN]
  refine hK _ _ ?_
  clear hK K
  refine cv_gen fun G1 hG => ?_
  have g1_0 := congrFun hG 0
  have g1_1 := congrFun hG 1
  have g1_5 := congrFun hG 5
  have g1_13 := congrFun hG 13
  clear hG
  try simp -implicitDefEqProofs (disch := first | omega | decide) only [seval, -Int.reducePow, -Nat.reducePow, cC, pv, binv, sVeLCalls1, undef, hN] at g1_0 g1_1 g1_5 g1_13
  have g1 := And.intro g1_0 (And.intro g1_1 (And.intro g1_5 g1_13))
  refine cv_cond ?_
  simp -implicitDefEqProofs (disch := first | omega | decide) only [seval, -Int.reducePow, -Nat.reducePow, cC, pv, binv, sVeLCalls1, undef, g1]
  refine ⟨fun hc => ?_, fun hc => ?_⟩
  · refine cv_seq_k fun K hK => ?_
    refine cv_region_then rfl ?_
    simp -implicitDefEqProofs (disch := first | omega | decide) only [seval, -Int.reducePow, -Nat.reducePow, cC, pv, binv, sVeLCalls1, undef, g1]
    refine callV_ret (fun w hw => vAwake_any w) ?_
    try simp -implicitDefEqProofs (disch := first | omega | decide) only [seval, -Int.reducePow, -Nat.reducePow, cC, pv, binv, sVeLCalls1, undef, g1]
    refine hK _ _ ?_
    clear hK K
    refine cv_ret ⟨_, (by simp -implicitDefEqProofs (disch := first | omega | decide) only [seval, -Int.reducePow, -Nat.reducePow, cC, pv, binv, sVeLCalls1, undef, g1]; rfl), fun w hw => ?_⟩
    exact ⟨rfl, hw.below⟩
  have hN12 : ¬ 12 < N := of_decide_eq_false hc
  refine cv_skip ?_
  try simp only [blockQ, thenQ]
  refine hK _ _ ?_
  clear hK K
  refine cv_seq_k fun K hK => ?_
  refine cv_region_then rfl ?_
  simp -implicitDefEqProofs (disch := first | omega | decide) only [seval, -Int.reducePow, -Nat.reducePow, cC, pv, binv, sVeLCalls1, undef, g1]
  intro b6 hb6
  refine hK _ _ ?_
  clear hK K
  refine cv_seq_k fun K hK => ?_
  refine cv_seq_k fun K hK => ?_
  refine cv_region_then rfl ?_
  simp -implicitDefEqProofs (disch := first | omega | decide) only [seval, -Int.reducePow, -Nat.reducePow, cC, pv, binv, sVeLCalls1, undef, g1]
  refine hK _ _ ?_
  clear hK K
  refine cv_gen fun G2 hG => ?_
  have g2_0 := congrFun hG 0
  have g2_1 := congrFun hG 1
  have g2_5 := congrFun hG 5
  have g2_6 := congrFun hG 6
  have g2_7 := congrFun hG 7
  clear hG
  try simp -implicitDefEqProofs (disch := first | omega | decide) only [seval, -Int.reducePow, -Nat.reducePow, cC, pv, binv, sVeLCalls1, undef, g1] at g2_0 g2_1 g2_5 g2_6 g2_7
  have g2 := And.intro g2_0 (And.intro g2_1 (And.intro g2_5 (And.intro g2_6 g2_7)))
  refine cv_block ?_
  refine cv_nil 58 4 ?_
  refine cv_snap [0, 1] (by decide) fun v0 f0 hv0 hf0 => ?_
  simp only [pickL, nth]
  refine cv_loop (fun F' L' => ∃ (i : Nat) (A7 : Option Addr) (c7 : Nat) (gs : List FnR) (v : World) (f : List Nat), F' 0 = G2 0 ∧ F' 1 = G2 1 ∧ F' 5 = G2 5 ∧ F' 6 = G2 6 ∧ F' 7 = .int .i64 (i : Int) ∧ L' = [snap [] W v f, .row (.slice A7 i c7) 58 4 i (cl fnc gs), .blk b6 29 [.slice none 0 0, .slice A7 i c7]] ∧ i ≤ 12 ∧ (∀ g ∈ gs, Sd v (Dm [] W f) 2 g.A g.n g.c (cl insc g.code) ∧ ∀ x ∈ g.code, x.arg < 18446744073709551616)) (fun F' L' => 20 - (intOf (F' 7)).toNat) ?_ ?_
  · refine ⟨0, none, 0, [], v0, f0, ?_⟩
    simp -implicitDefEqProofs (disch := first | omega | decide) only [seval, -Int.reducePow, -Nat.reducePow, cC, pv, binv, sVeLCalls1, undef, g2]
    exact ⟨rfl, by simp⟩
  intro G3 L' hI
  obtain ⟨i, A7, c7, gs, v, f, q0, q1, q5, q6, q7, rfl, ⟨hi8, hfn⟩⟩ := hI
  have g3_0 := q0.trans g2_0
  have g3_1 := q1.trans g2_1
  have g3_5 := q5.trans g2_5
  have g3_6 := q6.trans g2_6
  have g3_7 := q7
  clear q0 q1 q5 q6 q7
  have g3 := And.intro g3_0 (And.intro g3_1 (And.intro g3_5 (And.intro g3_6 g3_7)))
  refine cv_seq_k fun K hK => ?_
  refine cv_seq_k fun K hK => ?_
  refine cv_region_then rfl ?_
  simp -implicitDefEqProofs (disch := first | omega | decide) only [seval, -Int.reducePow, -Nat.reducePow, cC, pv, binv, sVeLCalls1, undef, g2, g3]
  refine hK _ _ ?_
  clear hK K
  refine cv_cond ?_
  simp -implicitDefEqProofs (disch := first | omega | decide) only [seval, -Int.reducePow, -Nat.reducePow, cC, pv, binv, sVeLCalls1, undef, g2, g3]
  refine ⟨fun hc => ?_, fun hc => ?_⟩
  · have hiN : (i : Int) < N := of_decide_eq_true hc
    have hNn : N = 2 + (n : Int) := by omega
    have w1 : IntKind.u64.wrap (i : Int) = (i : Int) := IntWalk.u64_in _ (by omega)
    refine cv_skip ?_
    try simp only [blockQ, thenQ]
    refine hK _ _ ?_
    clear hK K
    refine cv_seq_k fun K hK => ?_
    refine cv_block ?_
    refine cv_seq_k fun K hK => ?_
    refine cv_region_then rfl ?_
    simp -implicitDefEqProofs (disch := first | omega | decide) only [seval, -Int.reducePow, -Nat.reducePow, cC, pv, binv, sVeLCalls1, undef, w1, g2, g3]
    intro bC hbC hfC
    refine hK _ _ ?_
    clear hK K
    refine cv_gen fun G4 hG => ?_
    have g4_0 := congrFun hG 0
    have g4_1 := congrFun hG 1
    have g4_5 := congrFun hG 5
    have g4_6 := congrFun hG 6
    have g4_7 := congrFun hG 7
    have g4_8 := congrFun hG 8
    clear hG
    try simp -implicitDefEqProofs (disch := first | omega | decide) only [seval, -Int.reducePow, -Nat.reducePow, cC, pv, binv, sVeLCalls1, undef, g2, g3] at g4_0 g4_1 g4_5 g4_6 g4_7 g4_8
    have g4 := And.intro g4_0 (And.intro g4_1 (And.intro g4_5 (And.intro g4_6 (And.intro g4_7 g4_8))))
    refine cv_seq_k fun K hK => ?_
    refine cv_cut (fun _ _ => True) (fun F' L' => ∃ (a : Nat), F' 0 = G4 0 ∧ F' 1 = G4 1 ∧ F' 5 = G4 5 ∧ F' 6 = G4 6 ∧ F' 7 = G4 7 ∧ F' 8 = G4 8 ∧ L' = [.blk bC 55 [.int .i64 21, .int .u64 (a : Int), .int .i64 25, .int .u64 0], snap [] W v f, .row (.slice A7 i c7) 58 4 i (cl fnc gs), .blk b6 29 [.slice none 0 0, .slice A7 i c7]] ∧ a < 18446744073709551616) ?_ ?_
    · refine cv_seq_k fun K hK => ?_
      refine cv_region_then rfl ?_
      simp -implicitDefEqProofs (disch := first | omega | decide) only [seval, -Int.reducePow, -Nat.reducePow, cC, pv, binv, sVeLCalls1, undef, g2, g3, g4]
      refine hK _ _ ?_
      clear hK K
      refine cv_cond ?_
      simp -implicitDefEqProofs (disch := first | omega | decide) only [seval, -Int.reducePow, -Nat.reducePow, cC, pv, binv, sVeLCalls1, undef, g2, g3, g4]
      refine ⟨fun hc => ?_, fun hc => ?_⟩
      · have hin : i < n := by have := of_decide_eq_true hc; omega
        obtain ⟨b0, off, rfl, hb0, -⟩ := hE.cells (by omega)
        have hll : l.length = n := by have := hE.len; simpa [byt] using this
        obtain ⟨y, hy⟩ := some_of (l := l) (i := i) (by omega)
        have hy2 := hb y (List.mem_of_getElem? hy)
        obtain ⟨a, ha⟩ : ∃ a : Nat, (y : Int) % N = (a : Int) := ⟨((y : Int) % N).toNat, by have := Int.emod_nonneg (y : Int) (show N ≠ 0 by omega); omega⟩
        have haN : (a : Int) < N := by rw [← ha]; exact Int.emod_lt_of_pos _ (by omega)
        have w2 : IntKind.u64.wrap (a : Int) = (a : Int) := IntWalk.u64_in _ (by omega)
        refine cv_region_q rfl ?_
        simp -implicitDefEqProofs (disch := first | omega | decide) only [seval, -Int.reducePow, -Nat.reducePow, cC, pv, binv, sVeLCalls1, undef, g2, g3, g4]
        refine ⟨_, hE.ld1 (m := 1) (v := .int .u8 (y : Int)) (i := i) rfl (by simp [byt, hy]), fun tok htok => ?_⟩
        subst htok
        simp -implicitDefEqProofs (disch := first | omega | decide) only [seval, -Int.reducePow, -Nat.reducePow, cC, pv, binv, sVeLCalls1, undef, ha, w2, g2, g3, g4]
        refine ⟨a, ?_⟩
        simp -implicitDefEqProofs (disch := first | omega | decide) only [seval, -Int.reducePow, -Nat.reducePow, cC, pv, binv, sVeLCalls1, undef, g2, g3, g4]
        omega
      · refine cv_skip ?_
        try simp only [blockQ, thenQ]
        simp -implicitDefEqProofs (disch := first | omega | decide) only [seval, -Int.reducePow, -Nat.reducePow, cC, pv, binv, sVeLCalls1, undef, g2, g3, g4]
        refine ⟨i, ?_⟩
        simp -implicitDefEqProofs (disch := first | omega | decide) only [seval, -Int.reducePow, -Nat.reducePow, cC, pv, binv, sVeLCalls1, undef, g2, g3, g4]
        omega
    intro G5 L' _ hF
    obtain ⟨a, q0, q1, q5, q6, q7, q8, rfl, ha⟩ := hF
    have g5_0 := q0.trans g4_0
    have g5_1 := q1.trans g4_1
    have g5_5 := q5.trans g4_5
    have g5_6 := q6.trans g4_6
    have g5_7 := q7.trans g4_7
    have g5_8 := q8.trans g4_8
    clear q0 q1 q5 q6 q7 q8
    have g5 := And.intro g5_0 (And.intro g5_1 (And.intro g5_5 (And.intro g5_6 (And.intro g5_7 g5_8))))
    refine hK _ _ ?_
    clear hK K
    refine cv_seq_k fun K hK => ?_
    refine cv_cut (fun _ _ => True) (fun F' L' => ∃ (y : Ins), F' 0 = G5 0 ∧ F' 1 = G5 1 ∧ F' 5 = G5 5 ∧ F' 6 = G5 6 ∧ F' 7 = G5 7 ∧ F' 8 = G5 8 ∧ L' = [.blk bC 55 [.int .i64 y.op, .int .u64 (y.arg : Int), .int .i64 25, .int .u64 0], snap [] W v f, .row (.slice A7 i c7) 58 4 i (cl fnc gs), .blk b6 29 [.slice none 0 0, .slice A7 i c7]] ∧ y.arg < 18446744073709551616) ?_ ?_
    · refine cv_seq_k fun K hK => ?_
      refine cv_region_then rfl ?_
      simp -implicitDefEqProofs (disch := first | omega | decide) only [seval, -Int.reducePow, -Nat.reducePow, cC, pv, binv, sVeLCalls1, undef, g2, g3, g5]
      refine hK _ _ ?_
      clear hK K
      refine cv_cond ?_
      simp -implicitDefEqProofs (disch := first | omega | decide) only [seval, -Int.reducePow, -Nat.reducePow, cC, pv, binv, sVeLCalls1, undef, g2, g3, g5]
      refine ⟨fun hc => ?_, fun hc => ?_⟩
      · refine cv_region_q rfl ?_
        simp -implicitDefEqProofs (disch := first | omega | decide) only [seval, -Int.reducePow, -Nat.reducePow, cC, pv, binv, sVeLCalls1, undef, g2, g3, g5]
        refine ⟨⟨19, 1⟩, ?_⟩
        simp -implicitDefEqProofs (disch := first | omega | decide) only [seval, -Int.reducePow, -Nat.reducePow, cC, pv, binv, sVeLCalls1, undef, g2, g3, g5]
      · refine cv_skip ?_
        try simp only [blockQ, thenQ]
        simp -implicitDefEqProofs (disch := first | omega | decide) only [seval, -Int.reducePow, -Nat.reducePow, cC, pv, binv, sVeLCalls1, undef, g2, g3, g5]
        refine ⟨⟨21, a⟩, ?_⟩
        simp -implicitDefEqProofs (disch := first | omega | decide) only [seval, -Int.reducePow, -Nat.reducePow, cC, pv, binv, sVeLCalls1, undef, g2, g3, g5]
        omega
    intro G6 L' _ hF
    obtain ⟨y, q0, q1, q5, q6, q7, q8, rfl, hya⟩ := hF
    have g6_0 := q0.trans g5_0
    have g6_1 := q1.trans g5_1
    have g6_5 := q5.trans g5_5
    have g6_6 := q6.trans g5_6
    have g6_7 := q7.trans g5_7
    have g6_8 := q8.trans g5_8
    clear q0 q1 q5 q6 q7 q8
    have g6 := And.intro g6_0 (And.intro g6_1 (And.intro g6_5 (And.intro g6_6 (And.intro g6_7 g6_8))))
    refine hK _ _ ?_
    clear hK K
    refine cv_region_q rfl ?_
    simp -implicitDefEqProofs (disch := first | omega | decide) only [seval, -Int.reducePow, -Nat.reducePow, cC, pv, binv, sVeLCalls1, undef, g2, g3, g6]
    intro b42 hb42 h42
    refine appV_at 3 tap27 rfl (fun w hw => src_blk (size := 4) (.head _) rfl hw) rfl (by omega) (by omega) ?_
    intro A9 c9 hl9 hr9
    simp -implicitDefEqProofs (disch := first | omega | decide) only [seval, -Int.reducePow, -Nat.reducePow, cC, pv, binv, sVeLCalls1, undef, g2, g3, g6]
    refine hK _ _ ?_
    clear hK K
    refine cv_gen fun G7 hG => ?_
    have g7_0 := congrFun hG 0
    have g7_1 := congrFun hG 1
    have g7_5 := congrFun hG 5
    have g7_6 := congrFun hG 6
    have g7_7 := congrFun hG 7
    clear hG
    try simp -implicitDefEqProofs (disch := first | omega | decide) only [seval, -Int.reducePow, -Nat.reducePow, cC, pv, binv, sVeLCalls1, undef, g2, g3, g6] at g7_0 g7_1 g7_5 g7_6 g7_7
    have g7 := And.intro g7_0 (And.intro g7_1 (And.intro g7_5 (And.intro g7_6 g7_7)))
    refine cv_snap [0, 4] (by decide) fun v' f' hv' hf' => ?_
    simp only [pickL, nth]
    have hC := hv'.sdb (size := 2) (n := 2) hf' 2 rfl (by decide) (by simp) rfl (by omega)
    obtain ⟨k1, k3⟩ := hv'.snapK hf' 3 rfl (by decide) (by simp)
    have hfn' : ∀ h ∈ gs ++ [⟨0, 0, 0, some ⟨bC, 0, none⟩, 2, 2, [y, ⟨25, 0⟩]⟩], Sd v' (Dm [] W f') 2 h.A h.n h.c (cl insc h.code) ∧ ∀ x ∈ h.code, x.arg < 18446744073709551616 := by
      intro h hh
      rcases List.mem_append.1 hh with hh | hh
      · exact ⟨(hfn h hh).1.same k1 k3, (hfn h hh).2⟩
      · obtain rfl : h = ⟨0, 0, 0, some ⟨bC, 0, none⟩, 2, 2, [y, ⟨25, 0⟩]⟩ := by simpa using hh
        refine ⟨hC, fun x hx => ?_⟩
        simp at hx
        rcases hx with rfl | rfl
        · exact hya
        · decide
    clear hC k1 k3 hv' hf'
    refine cv_region_then rfl ?_
    simp -implicitDefEqProofs (disch := first | omega | decide) only [seval, -Int.reducePow, -Nat.reducePow, cC, pv, binv, sVeLCalls1, undef, wrap_in, g2, g3, g7]
    refine ⟨⟨i + 1, A9, c9, gs ++ [⟨0, 0, 0, some ⟨bC, 0, none⟩, 2, 2, [y, ⟨25, 0⟩]⟩], v', f', ?_⟩, ?_⟩
    · simp -implicitDefEqProofs (disch := first | omega | decide) only [seval, -Int.reducePow, -Nat.reducePow, cC, pv, binv, sVeLCalls1, undef, Int.natCast_add, cl_snoc, fnc, g2, g3, g7]
      exact ⟨by omega, hfn'⟩
    · simp only [intOf]; omega
  refine cv_exit ?_
  simp only [blockQ, thenQ, if_true, ite_true]
  clear hK K
  refine hK _ _ ?_
  clear hK K
  refine cv_gen fun G8 hG => ?_
  have g8_5 := congrFun hG 5
  have g8_6 := congrFun hG 6
  clear hG
  try simp -implicitDefEqProofs (disch := first | omega | decide) only [seval, -Int.reducePow, -Nat.reducePow, cC, pv, binv, sVeLCalls1, undef, g2, g3] at g8_5 g8_6
  have g8 := And.intro g8_5 g8_6
  refine cv_snap [2] (by decide) fun v6 f6 hv6 hf6 => ?_
  simp only [pickL, nth]
  have k4 := hv6.footK hf6 (k := 1) rfl (by decide) (by simp)
  obtain ⟨k1, k3⟩ := hv6.snapK hf6 0 rfl (by decide) (by simp)
  obtain ⟨m, hm⟩ : ∃ m : ModR, m = ⟨none, 0, 0, [], A7, i, c7, gs⟩ := ⟨_, rfl⟩
  have hkD : ModD v6 (Dm [] W f6) m := by
    subst hm
    exact ⟨Sd.nil, by simp, (Sd.of_own (hv6.holds _ (.tail _ (.head _))) fun g hg => k4 g (by simpa [Res.foot] using hg) : Sd v6 (fun y => y ∈ f6) 4 A7 i c7 (cl fnc gs)).mono fun y hy => .inl hy, fun g hg => (hfn g hg).1.same k1 k3, fun g hg => (hfn g hg).2⟩
  have hmV : (Value.agg #[.slice none 0 0, .slice A7 i c7]) = modV m := by rw [hm]; rfl
  clear hm k4 k1 k3 hv6 hf6 hfn hv0 hf0
  refine cv_seq_k fun K hK => ?_
  refine cv_region_then rfl ?_
  simp -implicitDefEqProofs (disch := first | omega | decide) only [seval, -Int.reducePow, -Nat.reducePow, cC, pv, binv, sVeLCalls1, undef, g2, g3, g8]
  refine callV_ret (fun w hw => vAwake_any w) ?_
  try simp -implicitDefEqProofs (disch := first | omega | decide) only [seval, -Int.reducePow, -Nat.reducePow, cC, pv, binv, sVeLCalls1, undef, g2, g3, g8]
  rw [hmV]
  refine callV_ret (fun w hw => vSame_any m _ w (hkD.at hw 0 rfl)) ?_
  try simp -implicitDefEqProofs (disch := first | omega | decide) only [seval, -Int.reducePow, -Nat.reducePow, cC, pv, binv, sVeLCalls1, undef, g2, g3, g8]
  refine hK _ _ ?_
  clear hK K
  refine cv_ret ⟨_, (by simp -implicitDefEqProofs (disch := first | omega | decide) only [seval, -Int.reducePow, -Nat.reducePow, cC, pv, binv, sVeLCalls1, undef, g2, g3, g8]; rfl), fun w hw => ?_⟩
  exact ⟨rfl, hw.below⟩
end Go.Proofs.Ytlbmnioibiomfaa
