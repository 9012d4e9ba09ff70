/- The law ModuleLong, walked. -/
import Derived.Test.YtehfnjaompkikaaMDec
import Derived.Test.YtehfnjaompkikaaMBk
import Derived.Test.YtehfnjaompkikaaMREnc
import Derived.Test.YtehfnjaompkikaaMAw
import Derived.Test.YtehfnjaompkikaaZero
namespace Go.Proofs.Ytehfnjaompkikaa
open Go.RowKit Go.Shelf
set_option linter.unusedVariables false
set_option linter.unusedSimpArgs false
set_option maxRecDepth 100000
theorem aw_arg (b5 b7 : Nat) : ∀ g ∈ (awM b5 b7).gs, ∀ i ∈ g.code, i.arg < 18446744073709551616 := by
  intro g hg i hi
  obtain rfl : g = ⟨0, 0, 0, some ⟨b5, 0, none⟩, 1, 1, [⟨25, 0⟩]⟩ := by simpa [awM] using hg
  obtain rfl : i = ⟨25, 0⟩ := by simpa using hi
  decide
theorem decM_long {K : Nat} (h : 65524 ≤ K) (h2 : K ≤ 65527) : decM (awE ++ List.replicate K 0) = .error (if 65525 < K then 4 else 3) := by
  have hl : (awE ++ List.replicate K 0).length = 11 + K := by rw [List.length_append, List.length_replicate]; rfl
  unfold decM
  rw [hl]
  by_cases hk : 65525 < K
  · rw [if_pos (by omega), if_pos hk]
  · rw [if_neg (by omega), if_neg hk]
    have h4 : (awE ++ List.replicate K 0).take 4 = magicB := rfl
    rw [if_neg (fun h => h h4)]
    have hd := decX_enc (m := awM 0 0) (by rw [aw_chk]; rfl) (aw_arg 0 0) (List.replicate K 0)
    rw [aw_enc] at hd
    have h5 : (awE ++ List.replicate K 0).drop 4 = awE.drop 4 ++ List.replicate K 0 := rfl
    rw [h5]
    have h6 : decL (awE.drop 4 ++ List.replicate K 0) = .error 3 := by
      unfold decL
      rw [hd]
      dsimp only
      rw [if_neg]
      intro h0
      have := congrArg List.length h0
      rw [List.length_replicate] at this
      simp at this
      omega
    rw [h6]
    rfl
theorem long_byt (K : Nat) : byt (magicB ++ [0, 1, 0, 0, 0, 1, 25]) ++ List.replicate K (Value.int .u8 0) = byt (awE ++ List.replicate K 0) := by
  rw [byt_append awE, show byt (List.replicate K 0) = List.replicate K (.int .u8 0) from by simp [byt]]
  rfl
set_option maxHeartbeats 8000000 in
theorem mLong_walk (W : World) (fu : Int) (hfu : 0 ≤ fu ∧ fu ≤ 255) (nn : Int) (hnn : 0 ≤ nn ∧ nn ≤ 255) :
    Calls Try.prog 5 #[.int .u8 fu, .int .u8 nn] W fun e w' => e = .returned (.bool true) ∧ Below W.heap.size W w' := by
  obtain ⟨u, rfl⟩ : ∃ x : Nat, fu = (x : Int) := ⟨fu.toNat, by omega⟩
  obtain ⟨n, rfl⟩ : ∃ x : Nat, nn = (x : Int) := ⟨nn.toNat, by omega⟩
  have e4 : IntKind.i64.wrap ((u : Int) % 4) = ((u % 4 : Nat) : Int) := by rw [wrap_in (by omega) (by omega)]; omega
  have e5 : IntKind.i64.wrap (5 + ((u % 4 : Nat) : Int)) = ((5 + u % 4 : Nat) : Int) := by rw [wrap_in (by omega) (by omega)]; omega
  have e3 : IntKind.i64.wrap ((n : Int) % 3) = ((n % 3 : Nat) : Int) := by rw [wrap_in (by omega) (by omega)]; omega
  have e6 : IntKind.i64.wrap (1024 - ((n % 3 : Nat) : Int)) = ((1024 - n % 3 : Nat) : Int) := by rw [wrap_in (by omega) (by omega)]; omega
  have e7 : IntKind.i64.wrap ((n : Int) % 4) = ((n % 4 : Nat) : Int) := by rw [wrap_in (by omega) (by omega)]; omega
  have e8 : IntKind.i64.wrap (65524 + ((n % 4 : Nat) : Int)) = ((65524 + n % 4 : Nat) : Int) := by rw [wrap_in (by omega) (by omega)]; omega
  refine calls_cv (M := []) (n := 99) [.tmp 4] rfl Try.func5 rfl rfl (Nat.le_of_ble_eq_true rfl) (St.nil _ _) ?_
  refine cv_seq_k fun K hK => ?_
  refine cv_region_then rfl ?_
  simp -implicitDefEqProofs (disch := first | omega | decide) only [seval, -Int.reducePow, -Nat.reducePow, cA, cB, pv, binv, fresh, thenQ, blockQ, retQ, Value.oneCell', Value.cells, undef, Nat.mul_one, mBox, mdV, modV, cS]
  refine hK _ _ ?_
  clear hK K
  refine cv_seq_k fun K hK => ?_
  refine cv_region_then rfl ?_
  simp -implicitDefEqProofs (disch := first | omega | decide) only [seval, -Int.reducePow, -Nat.reducePow, cA, cB, pv, binv, fresh, thenQ, blockQ, retQ, Value.oneCell', Value.cells, undef, Nat.mul_one, mBox, mdV, modV, cS]
  intro b5 hb5
  refine hK _ _ ?_
  clear hK K
  refine cv_seq_k fun K hK => ?_
  refine cv_seq_k fun K hK => ?_
  refine cv_region_then rfl ?_
  simp -implicitDefEqProofs (disch := first | omega | decide) only [seval, -Int.reducePow, -Nat.reducePow, cA, cB, pv, binv, fresh, thenQ, blockQ, retQ, Value.oneCell', Value.cells, undef, Nat.mul_one, mBox, mdV, modV, cS]
  refine hK _ _ ?_
  clear hK K
  refine cv_gen fun G1 hG => ?_
  have g1_0 := congrFun hG 0
  have g1_1 := congrFun hG 1
  have g1_5 := congrFun hG 5
  have g1_6 := congrFun hG 6
  clear hG
  try simp -implicitDefEqProofs (disch := first | omega | decide) only [seval, -Int.reducePow, -Nat.reducePow, cA, cB, pv, binv, fresh, thenQ, blockQ, retQ, Value.oneCell', Value.cells, undef, Nat.mul_one, mBox, mdV, modV, cS] at g1_0 g1_1 g1_5 g1_6
  refine cv_block ?_
  refine cv_nil 43 4 ?_
  refine cv_snap [0, 1] (by decide) fun v0 f0 hv0 hf0 => ?_
  simp only [pickL, nth]
  refine cv_loop (fun F' L' => ∃ (i : Nat) (A7 : Option Addr) (c7 : Nat) (gs : List FnR) (v : World) (f : List Nat), F' 0 = G1 0 ∧ F' 1 = G1 1 ∧ F' 5 = G1 5 ∧ F' 6 = .int .i64 (i : Int) ∧ L' = [snap [] W v f, .row (.slice A7 i c7) 43 4 i (cl fnc gs), .blk b5 25 [.slice none 0 0, .slice A7 i c7]] ∧ i ≤ 8 ∧ (∀ g ∈ gs, Sd v (fun y => y ∈ f) 2 g.A g.n g.c (cl insc g.code) ∧ ∀ x ∈ g.code, x.arg < 18446744073709551616)) (fun F' L' => 20 - (intOf (F' 6)).toNat) ?_ ?_
  · refine ⟨0, none, 0, [], v0, f0, ?_⟩
    simp -implicitDefEqProofs (disch := first | omega | decide) only [seval, -Int.reducePow, -Nat.reducePow, cA, cB, pv, binv, fresh, thenQ, blockQ, retQ, Value.oneCell', Value.cells, undef, Nat.mul_one, mBox, mdV, modV, cS, g1_0, g1_1, g1_5, g1_6]
    exact ⟨rfl, by simp⟩
  intro G2 L' hI
  obtain ⟨i, A7, c7, gs, v, f, q0, q1, q5, q6, rfl, ⟨hi8, hfn⟩⟩ := hI
  have g2_0 := q0.trans g1_0
  have g2_1 := q1.trans g1_1
  have g2_5 := q5.trans g1_5
  have g2_6 := q6
  clear q0 q1 q5 q6
  refine cv_seq_k fun K hK => ?_
  refine cv_seq_k fun K hK => ?_
  refine cv_region_then rfl ?_
  simp -implicitDefEqProofs (disch := first | omega | decide) only [seval, -Int.reducePow, -Nat.reducePow, cA, cB, pv, binv, fresh, thenQ, blockQ, retQ, Value.oneCell', Value.cells, undef, Nat.mul_one, mBox, mdV, modV, cS, e4, e5, g1_0, g1_1, g1_5, g1_6, g2_0, g2_1, g2_5, g2_6]
  refine hK _ _ ?_
  clear hK K
  refine cv_cond ?_
  simp -implicitDefEqProofs (disch := first | omega | decide) only [seval, -Int.reducePow, -Nat.reducePow, cA, cB, pv, binv, fresh, thenQ, blockQ, retQ, Value.oneCell', Value.cells, undef, Nat.mul_one, mBox, mdV, modV, cS, g1_0, g1_1, g1_5, g1_6, g2_0, g2_1, g2_5, g2_6]
  refine ⟨fun hc => ?_, fun hc => ?_⟩
  · have hlt : i < 5 + u % 4 := by have := of_decide_eq_true hc; omega
    refine cv_skip ?_
    try simp only [blockQ, thenQ]
    refine hK _ _ ?_
    clear hK K
    refine cv_seq_k fun K hK => ?_
    refine cv_block ?_
    refine cv_seq_k fun K hK => ?_
    refine cv_region_then rfl ?_
    simp -implicitDefEqProofs (disch := first | omega | decide) only [seval, -Int.reducePow, -Nat.reducePow, cA, cB, pv, binv, fresh, thenQ, blockQ, retQ, Value.oneCell', Value.cells, undef, Nat.mul_one, mBox, mdV, modV, cS, g1_0, g1_1, g1_5, g1_6, g2_0, g2_1, g2_5, g2_6]
    intro b7 hb7 h7
    refine hK _ _ ?_
    clear hK K
    refine cv_seq_k fun K hK => ?_
    refine cv_seq_k fun K hK => ?_
    refine cv_region_then rfl ?_
    simp -implicitDefEqProofs (disch := first | omega | decide) only [seval, -Int.reducePow, -Nat.reducePow, cA, cB, pv, binv, fresh, thenQ, blockQ, retQ, Value.oneCell', Value.cells, undef, Nat.mul_one, mBox, mdV, modV, cS, g1_0, g1_1, g1_5, g1_6, g2_0, g2_1, g2_5, g2_6]
    refine hK _ _ ?_
    clear hK K
    refine cv_gen fun G3 hG => ?_
    have g3_0 := congrFun hG 0
    have g3_1 := congrFun hG 1
    have g3_5 := congrFun hG 5
    have g3_6 := congrFun hG 6
    have g3_7 := congrFun hG 7
    have g3_8 := congrFun hG 8
    clear hG
    try simp -implicitDefEqProofs (disch := first | omega | decide) only [seval, -Int.reducePow, -Nat.reducePow, cA, cB, pv, binv, fresh, thenQ, blockQ, retQ, Value.oneCell', Value.cells, undef, Nat.mul_one, mBox, mdV, modV, cS, g1_0, g1_1, g1_5, g1_6, g2_0, g2_1, g2_5, g2_6] at g3_0 g3_1 g3_5 g3_6 g3_7 g3_8
    refine cv_block ?_
    refine cv_nil 46 2 ?_
    refine cv_loop (fun F' L' => ∃ (j : Nat) (A8 : Option Addr) (c8 : Nat) (cs : List Ins), F' 0 = G3 0 ∧ F' 1 = G3 1 ∧ F' 5 = G3 5 ∧ F' 6 = G3 6 ∧ F' 7 = G3 7 ∧ F' 8 = .int .i64 (j : Int) ∧ L' = [.row (.slice A8 j c8) 46 2 j (cl insc cs), .blk b7 43 [.int .i64 0, .int .i64 0, .int .i64 0, .slice A8 j c8], snap [] W v f, .row (.slice A7 i c7) 43 4 i (cl fnc gs), .blk b5 25 [.slice none 0 0, .slice A7 i c7]] ∧ j ≤ 1024 ∧ (∀ x ∈ cs, x.arg < 18446744073709551616)) (fun F' L' => 2000 - (intOf (F' 8)).toNat) ?_ ?_
    · refine ⟨0, none, 0, [], ?_⟩
      simp -implicitDefEqProofs (disch := first | omega | decide) only [seval, -Int.reducePow, -Nat.reducePow, cA, cB, pv, binv, fresh, thenQ, blockQ, retQ, Value.oneCell', Value.cells, undef, Nat.mul_one, mBox, mdV, modV, cS, g1_0, g1_1, g1_5, g1_6, g2_0, g2_1, g2_5, g2_6, g3_0, g3_1, g3_5, g3_6, g3_7, g3_8]
      exact ⟨rfl, by simp⟩
    intro G4 L' hI
    obtain ⟨j, A8, c8, cs, q0, q1, q5, q6, q7, q8, rfl, ⟨hj, harg⟩⟩ := hI
    have g4_0 := q0.trans g3_0
    have g4_1 := q1.trans g3_1
    have g4_5 := q5.trans g3_5
    have g4_6 := q6.trans g3_6
    have g4_7 := q7.trans g3_7
    have g4_8 := q8
    clear q0 q1 q5 q6 q7 q8
    refine cv_seq_k fun K hK => ?_
    refine cv_seq_k fun K hK => ?_
    refine cv_region_then rfl ?_
    simp -implicitDefEqProofs (disch := first | omega | decide) only [seval, -Int.reducePow, -Nat.reducePow, cA, cB, pv, binv, fresh, thenQ, blockQ, retQ, Value.oneCell', Value.cells, undef, Nat.mul_one, mBox, mdV, modV, cS, e3, e6, g1_0, g1_1, g1_5, g1_6, g2_0, g2_1, g2_5, g2_6, g3_0, g3_1, g3_5, g3_6, g3_7, g3_8, g4_0, g4_1, g4_5, g4_6, g4_7, g4_8]
    refine hK _ _ ?_
    clear hK K
    refine cv_cond ?_
    simp -implicitDefEqProofs (disch := first | omega | decide) only [seval, -Int.reducePow, -Nat.reducePow, cA, cB, pv, binv, fresh, thenQ, blockQ, retQ, Value.oneCell', Value.cells, undef, Nat.mul_one, mBox, mdV, modV, cS, g1_0, g1_1, g1_5, g1_6, g2_0, g2_1, g2_5, g2_6, g3_0, g3_1, g3_5, g3_6, g3_7, g3_8, g4_0, g4_1, g4_5, g4_6, g4_7, g4_8]
    refine ⟨fun hc => ?_, fun hc => ?_⟩
    · have hlj : j < 1024 - n % 3 := by have := of_decide_eq_true hc; omega
      refine cv_skip ?_
      try simp only [blockQ, thenQ]
      refine hK _ _ ?_
      clear hK K
      refine cv_seq_k fun K hK => ?_
      refine cv_block ?_
      refine cv_region_q rfl ?_
      simp -implicitDefEqProofs (disch := first | omega | decide) only [seval, -Int.reducePow, -Nat.reducePow, cA, cB, pv, binv, fresh, thenQ, blockQ, retQ, Value.oneCell', Value.cells, undef, Nat.mul_one, mBox, mdV, modV, cS, g1_0, g1_1, g1_5, g1_6, g2_0, g2_1, g2_5, g2_6, g3_0, g3_1, g3_5, g3_6, g3_7, g3_8, g4_0, g4_1, g4_5, g4_6, g4_7, g4_8]
      intro b36 hb36 h36
      refine appV_at 1 tap41 rfl (fun w hw => src_blk (size := 2) (.head _) rfl hw) rfl (by omega) (by omega) ?_
      intro A9 c9 hl9 hr9
      simp -implicitDefEqProofs (disch := first | omega | decide) only [seval, -Int.reducePow, -Nat.reducePow, cA, cB, pv, binv, fresh, thenQ, blockQ, retQ, Value.oneCell', Value.cells, undef, Nat.mul_one, mBox, mdV, modV, cS, g1_0, g1_1, g1_5, g1_6, g2_0, g2_1, g2_5, g2_6, g3_0, g3_1, g3_5, g3_6, g3_7, g3_8, g4_0, g4_1, g4_5, g4_6, g4_7, g4_8]
      refine hK _ _ ?_
      clear hK K
      refine cv_pick [0, 2, 3, 4, 5] (by decide) ?_
      simp only [pickL, nth]
      refine cv_region_then rfl ?_
      simp -implicitDefEqProofs (disch := first | omega | decide) only [seval, -Int.reducePow, -Nat.reducePow, cA, cB, pv, binv, fresh, thenQ, blockQ, retQ, Value.oneCell', Value.cells, undef, Nat.mul_one, mBox, mdV, modV, cS, wrap_in, g1_0, g1_1, g1_5, g1_6, g2_0, g2_1, g2_5, g2_6, g3_0, g3_1, g3_5, g3_6, g3_7, g3_8, g4_0, g4_1, g4_5, g4_6, g4_7, g4_8]
      refine ⟨⟨j + 1, A9, c9, cs ++ [⟨1, 4611686018427387904⟩], ?_⟩, ?_⟩
      · simp -implicitDefEqProofs (disch := first | omega | decide) only [seval, -Int.reducePow, -Nat.reducePow, cA, cB, pv, binv, fresh, thenQ, blockQ, retQ, Value.oneCell', Value.cells, undef, Nat.mul_one, mBox, mdV, modV, cS, Int.natCast_add, cl_snoc, insc, g1_0, g1_1, g1_5, g1_6, g2_0, g2_1, g2_5, g2_6, g3_0, g3_1, g3_5, g3_6, g3_7, g3_8, g4_0, g4_1, g4_5, g4_6, g4_7, g4_8]
        refine ⟨by omega, fun x hx => ?_⟩
        rcases List.mem_append.1 hx with hx | hx
        · exact harg x hx
        · obtain rfl : x = ⟨1, 4611686018427387904⟩ := by simpa using hx
          decide
      · simp only [intOf]; omega
    refine cv_exit ?_
    simp only [blockQ, thenQ, if_true, ite_true]
    clear hK K
    refine hK _ _ ?_
    clear hK K
    refine cv_region_q rfl ?_
    simp -implicitDefEqProofs (disch := first | omega | decide) only [seval, -Int.reducePow, -Nat.reducePow, cA, cB, pv, binv, fresh, thenQ, blockQ, retQ, Value.oneCell', Value.cells, undef, Nat.mul_one, mBox, mdV, modV, cS, g1_0, g1_1, g1_5, g1_6, g2_0, g2_1, g2_5, g2_6, g3_0, g3_1, g3_5, g3_6, g3_7, g3_8, g4_0, g4_1, g4_5, g4_6, g4_7, g4_8]
    intro b42 hb42 h42
    refine appV_at 4 tap23 rfl (fun w hw => src_blk (size := 4) (.head _) rfl hw) rfl (by omega) (by omega) ?_
    intro A9 c9 hl9 hr9
    simp -implicitDefEqProofs (disch := first | omega | decide) only [seval, -Int.reducePow, -Nat.reducePow, cA, cB, pv, binv, fresh, thenQ, blockQ, retQ, Value.oneCell', Value.cells, undef, Nat.mul_one, mBox, mdV, modV, cS, g1_0, g1_1, g1_5, g1_6, g2_0, g2_1, g2_5, g2_6, g3_0, g3_1, g3_5, g3_6, g3_7, g3_8, g4_0, g4_1, g4_5, g4_6, g4_7, g4_8]
    refine hK _ _ ?_
    clear hK K
    refine cv_gen fun G5 hG => ?_
    have g5_0 := congrFun hG 0
    have g5_1 := congrFun hG 1
    have g5_5 := congrFun hG 5
    have g5_6 := congrFun hG 6
    clear hG
    try simp -implicitDefEqProofs (disch := first | omega | decide) only [seval, -Int.reducePow, -Nat.reducePow, cA, cB, pv, binv, fresh, thenQ, blockQ, retQ, Value.oneCell', Value.cells, undef, Nat.mul_one, mBox, mdV, modV, cS, g1_0, g1_1, g1_5, g1_6, g2_0, g2_1, g2_5, g2_6, g3_0, g3_1, g3_5, g3_6, g3_7, g3_8, g4_0, g4_1, g4_5, g4_6, g4_7, g4_8] at g5_0 g5_1 g5_5 g5_6
    refine cv_snap [0, 5] (by decide) fun v' f' hv' hf' => ?_
    simp only [pickL, nth]
    have k4 := hv'.footK hf' (k := 2) rfl (by decide) (by simp)
    obtain ⟨k1, -⟩ := hv'.snapK hf' 4 rfl (by decide) (by simp)
    have k3 := hv'.footK hf' (k := 4) rfl (by decide) (by simp)
    simp only [snap_foot] at k3
    have hfn' : ∀ h ∈ gs ++ [⟨0, 0, 0, A8, j, c8, cs⟩], Sd v' (fun y => y ∈ f') 2 h.A h.n h.c (cl insc h.code) ∧ ∀ x ∈ h.code, x.arg < 18446744073709551616 := by
      intro h hh
      rcases List.mem_append.1 hh with hh | hh
      · exact ⟨(hfn h hh).1.same (fun y hy => k1 y (.inl hy)) k3, (hfn h hh).2⟩
      · obtain rfl : h = ⟨0, 0, 0, A8, j, c8, cs⟩ := by simpa using hh
        exact ⟨Sd.of_own (hv'.holds _ (.tail _ (.tail _ (.head _)))) fun g hg => k4 g (by simpa [Res.foot] using hg), harg⟩
    clear k4 k1 k3 hv' hf'
    refine cv_region_then rfl ?_
    simp -implicitDefEqProofs (disch := first | omega | decide) only [seval, -Int.reducePow, -Nat.reducePow, cA, cB, pv, binv, fresh, thenQ, blockQ, retQ, Value.oneCell', Value.cells, undef, Nat.mul_one, mBox, mdV, modV, cS, wrap_in, g1_0, g1_1, g1_5, g1_6, g2_0, g2_1, g2_5, g2_6, g3_0, g3_1, g3_5, g3_6, g3_7, g3_8, g4_0, g4_1, g4_5, g4_6, g4_7, g4_8, g5_0, g5_1, g5_5, g5_6]
    refine ⟨⟨i + 1, A9, c9, gs ++ [⟨0, 0, 0, A8, j, c8, cs⟩], v', f', ?_⟩, ?_⟩
    · simp -implicitDefEqProofs (disch := first | omega | decide) only [seval, -Int.reducePow, -Nat.reducePow, cA, cB, pv, binv, fresh, thenQ, blockQ, retQ, Value.oneCell', Value.cells, undef, Nat.mul_one, mBox, mdV, modV, cS, Int.natCast_add, cl_snoc, fnc, g1_0, g1_1, g1_5, g1_6, g2_0, g2_1, g2_5, g2_6, g3_0, g3_1, g3_5, g3_6, g3_7, g3_8, g4_0, g4_1, g4_5, g4_6, g4_7, g4_8, g5_0, g5_1, g5_5, g5_6]
      exact ⟨by omega, hfn'⟩
    · simp only [intOf]; omega
  refine cv_exit ?_
  simp only [blockQ, thenQ, if_true, ite_true]
  clear hK K
  refine hK _ _ ?_
  clear hK K
  refine cv_gen fun G6 hG => ?_
  have g6_1 := congrFun hG 1
  have g6_5 := congrFun hG 5
  clear hG
  try simp -implicitDefEqProofs (disch := first | omega | decide) only [seval, -Int.reducePow, -Nat.reducePow, cA, cB, pv, binv, fresh, thenQ, blockQ, retQ, Value.oneCell', Value.cells, undef, Nat.mul_one, mBox, mdV, modV, cS, g1_0, g1_1, g1_5, g1_6, g2_0, g2_1, g2_5, g2_6] at g6_1 g6_5
  refine cv_snap [2] (by decide) fun v6 f6 hv6 hf6 => ?_
  simp only [pickL, nth]
  have k4 := hv6.footK hf6 (k := 1) rfl (by decide) (by simp)
  obtain ⟨k1, -⟩ := hv6.snapK hf6 0 rfl (by decide) (by simp)
  have k3 := hv6.footK hf6 (k := 0) rfl (by decide) (by simp)
  simp only [snap_foot] at k3
  obtain ⟨m, hm⟩ : ∃ m : ModR, m = ⟨none, 0, 0, [], A7, i, c7, gs⟩ := ⟨_, rfl⟩
  have hkD : ModD v6 (Dm [] W f6) m := by
    subst hm
    exact ⟨Sd.nil, by simp, (Sd.of_own (hv6.holds _ (.tail _ (.head _))) fun g hg => k4 g (by simpa [Res.foot] using hg) : Sd v6 (fun y => y ∈ f6) 4 A7 i c7 (cl fnc gs)).mono fun y hy => .inl hy, fun g hg => ((hfn g hg).1.same (fun y hy => k1 y (.inl hy)) k3).mono fun y hy => .inl hy, fun g hg => (hfn g hg).2⟩
  have hmV : (Value.agg #[.slice none 0 0, .slice A7 i c7]) = modV m := by rw [hm]; rfl
  clear hm k4 k1 k3 hv6 hf6 hfn hv0 hf0
  refine cv_seq_k fun K hK => ?_
  refine cv_region_then rfl ?_
  simp -implicitDefEqProofs (disch := first | omega | decide) only [seval, -Int.reducePow, -Nat.reducePow, cA, cB, pv, binv, fresh, thenQ, blockQ, retQ, Value.oneCell', Value.cells, undef, Nat.mul_one, mBox, mdV, modV, cS, g1_0, g1_1, g1_5, g1_6, g2_0, g2_1, g2_5, g2_6, g6_1, g6_5]
  rw [hmV]
  refine callV_row (fun A n c => .tuple #[.slice A n c, .int .i64 (errM m)]) (fun w hw => menc_any m w (hkD.at hw 0 rfl)) ?_
  intro A1 n1 c1 hl1 hr1
  simp -implicitDefEqProofs (disch := first | omega | decide) only [seval, -Int.reducePow, -Nat.reducePow, cA, cB, pv, binv, fresh, thenQ, blockQ, retQ, Value.oneCell', Value.cells, undef, Nat.mul_one, mBox, mdV, modV, cS, g1_0, g1_1, g1_5, g1_6, g2_0, g2_1, g2_5, g2_6, g6_1, g6_5]
  refine hK _ _ ?_
  clear hK K
  refine cv_seq_k fun K hK => ?_
  refine cv_region_then rfl ?_
  simp -implicitDefEqProofs (disch := first | omega | decide) only [seval, -Int.reducePow, -Nat.reducePow, cA, cB, pv, binv, fresh, thenQ, blockQ, retQ, Value.oneCell', Value.cells, undef, Nat.mul_one, mBox, mdV, modV, cS, g1_0, g1_1, g1_5, g1_6, g2_0, g2_1, g2_5, g2_6, g6_1, g6_5]
  rw [hmV]
  refine callV_row (fun A n c => .tuple #[.slice A n c, .int .i64 (errM m)]) (fun w hw => rmenc_any m w (hkD.at hw 1 rfl)) ?_
  intro A2 n2 c2 hl2 hr2
  simp -implicitDefEqProofs (disch := first | omega | decide) only [seval, -Int.reducePow, -Nat.reducePow, cA, cB, pv, binv, fresh, thenQ, blockQ, retQ, Value.oneCell', Value.cells, undef, Nat.mul_one, mBox, mdV, modV, cS, g1_0, g1_1, g1_5, g1_6, g2_0, g2_1, g2_5, g2_6, g6_1, g6_5]
  refine hK _ _ ?_
  clear hK K
  refine cv_gen fun G7 hG => ?_
  have g7_1 := congrFun hG 1
  have g7_9 := congrFun hG 9
  have g7_10 := congrFun hG 10
  have g7_11 := congrFun hG 11
  have g7_12 := congrFun hG 12
  clear hG
  try simp -implicitDefEqProofs (disch := first | omega | decide) only [seval, -Int.reducePow, -Nat.reducePow, cA, cB, pv, binv, fresh, thenQ, blockQ, retQ, Value.oneCell', Value.cells, undef, Nat.mul_one, mBox, mdV, modV, cS, g1_0, g1_1, g1_5, g1_6, g2_0, g2_1, g2_5, g2_6, g6_1, g6_5] at g7_1 g7_9 g7_10 g7_11 g7_12
  refine cv_seq_k fun K hK => ?_
  refine cv_region_then rfl ?_
  simp -implicitDefEqProofs (disch := first | omega | decide) only [seval, -Int.reducePow, -Nat.reducePow, cA, cB, pv, binv, fresh, thenQ, blockQ, retQ, Value.oneCell', Value.cells, undef, Nat.mul_one, mBox, mdV, modV, cS, g1_0, g1_1, g1_5, g1_6, g2_0, g2_1, g2_5, g2_6, g7_1, g7_9, g7_10, g7_11, g7_12]
  intro b56 hb56 h56
  refine xv_mark 0 rfl Try.underlying36 Try.underlying5 rfl ?_
  simp -implicitDefEqProofs (disch := first | omega | decide) only [seval, -Int.reducePow, -Nat.reducePow, cA, cB, pv, binv, fresh, thenQ, blockQ, retQ, Value.oneCell', Value.cells, undef, Nat.mul_one, mBox, mdV, modV, cS, g1_0, g1_1, g1_5, g1_6, g2_0, g2_1, g2_5, g2_6, g7_1, g7_9, g7_10, g7_11, g7_12]
  intro b58 hb58 h58
  refine appV_full (olds := byt magicB) (news := byt [0, 1, 0, 0, 0, 1, 25]) tap36 (by omega) (by omega) (fun w hw => ?_) (fun w hw => src_blk (size := 1) (.head _) rfl hw) (by omega) (by omega) ?_
  · exact Sl.of_rd hw 1 rfl rfl (by omega)
  intro A3 c3 hl3 hr3
  rw [← byt_append]
  obtain ⟨g3, rfl, -⟩ : ∃ g, A3 = some ⟨g, 0, none⟩ ∧ W.heap.size ≤ g := by
    rcases hr3 with ⟨rfl, h0⟩ | ⟨g, rfl, h, _⟩
    · omega
    · exact ⟨g, rfl, by simpa using h⟩
  simp -implicitDefEqProofs (disch := first | omega | decide) only [seval, -Int.reducePow, -Nat.reducePow, cA, cB, pv, binv, fresh, thenQ, blockQ, retQ, Value.oneCell', Value.cells, undef, Nat.mul_one, mBox, mdV, modV, cS, e7, e8, g1_0, g1_1, g1_5, g1_6, g2_0, g2_1, g2_5, g2_6, g7_1, g7_9, g7_10, g7_11, g7_12]
  refine xv_appz 0 (k := 65524 + n % 4) (u := .int .u8 0) tap36 Try.underlying3 (by kernel_rfl) rfl rfl rfl (by omega) rfl (by omega) (by omega) (by omega) ?_
  intro A4 c4 hl4 hr4
  rw [show byt (magicB ++ [0, 1, 0, 0, 0, 1, 25]) ++ List.replicate (65524 + n % 4) (Value.int .u8 0) = byt (awE ++ List.replicate (65524 + n % 4) 0) from long_byt _]
  simp -implicitDefEqProofs (disch := first | omega | decide) only [seval, -Int.reducePow, -Nat.reducePow, cA, cB, pv, binv, fresh, thenQ, blockQ, retQ, Value.oneCell', Value.cells, undef, Nat.mul_one, mBox, mdV, modV, cS, g1_0, g1_1, g1_5, g1_6, g2_0, g2_1, g2_5, g2_6, g7_1, g7_9, g7_10, g7_11, g7_12]
  refine callV_nest mdV (mdΦ (awE ++ List.replicate (65524 + n % 4) 0)) (fun w hw => mdec_any A4 _ c4 _ w (hw.slb 0 rfl) ?_) ?_
  · exact app_bytes (show ∀ x ∈ awE, x < 256 by decide) fun x hx => by rw [List.eq_of_mem_replicate hx]; decide
  rintro ⟨j1, j2⟩ w2 w3 f3 hw2 hw3 hj hNw
  obtain ⟨rfl, rfl⟩ : j1 = zMod ∧ j2 = (if 65525 < 65524 + n % 4 then 4 else 3) := by
    have hd := decM_long (K := 65524 + n % 4) (by omega) (by omega)
    rcases hj.2 with ⟨h1, h2⟩ | ⟨h1, h2, h3⟩
    · rw [hd] at h2
      cases h2
    · rw [hd] at h2
      injection h2 with h2
      exact ⟨h3, h2.symm⟩
  clear hj hw2 hw3 hNw
  have key : ∃ e : Int, (if 65525 < 65524 + n % 4 then (4 : Int) else 3) = e ∧ (e = 4 ∨ e = 3) ∧ decide (e = 4) = decide ((1 : Int) < (n : Int) % 4) := by
    by_cases h : 65525 < 65524 + n % 4
    · exact ⟨4, if_pos h, .inl rfl, (decide_eq_true (by omega)).symm⟩
    · exact ⟨3, if_neg h, .inr rfl, (decide_eq_false (by omega)).symm⟩
  obtain ⟨e, he, he2, he3⟩ := key
  rw [he]
  have he0 : ¬ e = 0 := by omega
  simp -implicitDefEqProofs (disch := first | omega | decide) only [seval, -Int.reducePow, -Nat.reducePow, cA, cB, pv, binv, fresh, thenQ, blockQ, retQ, Value.oneCell', Value.cells, undef, Nat.mul_one, mBox, mdV, modV, cS, zMod, g1_0, g1_1, g1_5, g1_6, g2_0, g2_1, g2_5, g2_6, g7_1, g7_9, g7_10, g7_11, g7_12]
  intro b13 hb13 h13
  refine hK _ _ ?_
  clear hK K
  refine cv_seq_k fun K hK => ?_
  refine cv_region_then rfl ?_
  simp -implicitDefEqProofs (disch := first | omega | decide) only [seval, -Int.reducePow, -Nat.reducePow, cA, cB, pv, binv, fresh, thenQ, blockQ, retQ, Value.oneCell', Value.cells, undef, Nat.mul_one, mBox, mdV, modV, cS, g1_0, g1_1, g1_5, g1_6, g2_0, g2_1, g2_5, g2_6, g7_1, g7_9, g7_10, g7_11, g7_12]
  refine callV_ret (fun w hw => awake_any w) ?_
  try simp -implicitDefEqProofs (disch := first | omega | decide) only [seval, -Int.reducePow, -Nat.reducePow, cA, cB, pv, binv, fresh, thenQ, blockQ, retQ, Value.oneCell', Value.cells, undef, Nat.mul_one, mBox, mdV, modV, cS, g1_0, g1_1, g1_5, g1_6, g2_0, g2_1, g2_5, g2_6, g7_1, g7_9, g7_10, g7_11, g7_12]
  refine ⟨_, fun w hw => hw.strk 6 rfl, fun tok htok => ?_⟩
  subst htok
  simp -implicitDefEqProofs (disch := first | omega | decide) only [seval, -Int.reducePow, -Nat.reducePow, cA, cB, pv, binv, fresh, thenQ, blockQ, retQ, Value.oneCell', Value.cells, undef, Nat.mul_one, mBox, mdV, modV, cS, g1_0, g1_1, g1_5, g1_6, g2_0, g2_1, g2_5, g2_6, g7_1, g7_9, g7_10, g7_11, g7_12]
  refine ⟨_, fun w hw => hw.strk 5 rfl, fun tok htok => ?_⟩
  subst htok
  simp -implicitDefEqProofs (disch := first | omega | decide) only [seval, -Int.reducePow, -Nat.reducePow, cA, cB, pv, binv, fresh, thenQ, blockQ, retQ, Value.oneCell', Value.cells, undef, Nat.mul_one, mBox, mdV, modV, cS, he3, he0, g1_0, g1_1, g1_5, g1_6, g2_0, g2_1, g2_5, g2_6, g7_1, g7_9, g7_10, g7_11, g7_12]
  refine hK _ _ ?_
  clear hK K
  refine cv_ret ⟨_, (by simp -implicitDefEqProofs (disch := first | omega | decide) only [seval, -Int.reducePow, -Nat.reducePow, cA, cB, pv, binv, fresh, thenQ, blockQ, retQ, Value.oneCell', Value.cells, undef, Nat.mul_one, mBox, mdV, modV, cS, g1_0, g1_1, g1_5, g1_6, g2_0, g2_1, g2_5, g2_6, g7_1, g7_9, g7_10, g7_11, g7_12]; rfl), fun w hw => ?_⟩
  exact ⟨rfl, hw.below⟩
end Go.Proofs.Ytehfnjaompkikaa
