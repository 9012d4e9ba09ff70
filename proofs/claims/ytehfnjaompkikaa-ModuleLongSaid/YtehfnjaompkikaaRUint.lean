/- The reference's numbers. -/
import Derived.Test.YtehfnjaompkikaaWUint
namespace Go.Proofs.Ytehfnjaompkikaa
open Go.RowKit Go.Shelf
set_option linter.unusedVariables false
set_option linter.unusedSimpArgs false
set_option maxRecDepth 100000
set_option maxHeartbeats 2000000 in
theorem rput_any (A : Option Addr) (n c : Nat) (l : List Nat) (x : Nat) (W : World) (hE : Sl W W.heap.size 1 A n c (byt l)) (hn : n ≤ 10000000) (hx : x < 18446744073709551616) :
    Calls Try.prog 20 #[.slice A n c, .int .u64 x] W (rowP 5 1 (fun v => v) (byt (l ++ putU x)) W) := by
  have hln : l.length = n := byt_row hE.len
  have hp := putU_len10 hx
  refine calls_cv (M := []) (n := 25) [.tmp 4] rfl Try.func20 rfl rfl (Nat.le_of_ble_eq_true rfl) (St.nil _ _) ?_
  refine cv_seq_k fun K hK => ?_
  refine cv_region_then rfl ?_
  simp -implicitDefEqProofs (disch := first | omega | decide) only [seval, -Int.reducePow, -Nat.reducePow, cA, cB, pv, binv, fresh, thenQ, blockQ, retQ, Value.oneCell', Value.cells, Nat.mul_one, undef]
  refine hK _ _ ?_
  clear hK K
  refine cv_seq_k fun K hK => ?_
  refine cv_region_then rfl ?_
  simp -implicitDefEqProofs (disch := first | omega | decide) only [seval, -Int.reducePow, -Nat.reducePow, cA, cB, pv, binv, fresh, thenQ, blockQ, retQ, Value.oneCell', Value.cells, Nat.mul_one, undef]
  intro b hb
  refine appV_lit 0 tap36 rfl rfl (fun w hw => (hE.at hw).reads) (ones_byt _) (by omega) (by omega) ?_
  intro A1 c1 hl1 _
  simp -implicitDefEqProofs (disch := first | omega | decide) only [seval, -Int.reducePow, -Nat.reducePow, cA, cB, pv, binv, fresh, thenQ, blockQ, retQ, Value.oneCell', Value.cells, Nat.mul_one, undef]
  refine hK _ _ ?_
  clear hK K
  refine cv_gen fun G1 hG => ?_
  have g1_1 := congrFun hG 1
  have g1_5 := congrFun hG 5
  clear hG
  try simp -implicitDefEqProofs (disch := first | omega | decide) only [seval, -Int.reducePow, -Nat.reducePow, cA, cB, pv, binv, fresh, thenQ, blockQ, retQ, Value.oneCell', Value.cells, Nat.mul_one, undef] at g1_1 g1_5
  refine cv_seq_k fun K hK => ?_
  refine cv_block ?_
  refine cv_loop (fun F' L' => ∃ (y : Nat) (m : List Nat) (A6 : Option Addr) (n6 c6 : Nat), F' 1 = .int .u64 (y : Int) ∧ F' 5 = .slice A6 n6 c6 ∧ L' = [.row (.slice A6 n6 c6) 5 1 n6 (byt m)] ∧ y ≤ x ∧ m ++ putU y = l ++ putU x ∧ n6 + (putU y).length ≤ 10000010) (fun F' L' => (intOf (F' 1)).toNat) ?_ ?_
  · refine ⟨x, l, A1, n, c1, ?_⟩
    simp -implicitDefEqProofs (disch := first | omega | decide) only [seval, -Int.reducePow, -Nat.reducePow, cA, cB, pv, binv, fresh, thenQ, blockQ, retQ, Value.oneCell', Value.cells, Nat.mul_one, undef, g1_1, g1_5]
    omega
  · intro G2 L' hI
    obtain ⟨y, m, A6, n6, c6, q1, q5, rfl, ⟨hy, hm, h6⟩⟩ := hI
    have g2_1 := q1
    have g2_5 := q5
    clear q1 q5
    refine cv_seq_k fun K hK => ?_
    refine cv_seq_k fun K hK => ?_
    refine cv_region_then rfl ?_
    simp -implicitDefEqProofs (disch := first | omega | decide) only [seval, -Int.reducePow, -Nat.reducePow, cA, cB, pv, binv, fresh, thenQ, blockQ, retQ, Value.oneCell', Value.cells, Nat.mul_one, undef, g1_1, g1_5, g2_1, g2_5]
    refine hK _ _ ?_
    clear hK K
    refine cv_cond ?_
    simp -implicitDefEqProofs (disch := first | omega | decide) only [seval, -Int.reducePow, -Nat.reducePow, cA, cB, pv, binv, fresh, thenQ, blockQ, retQ, Value.oneCell', Value.cells, Nat.mul_one, undef, g1_1, g1_5, g2_1, g2_5]
    refine ⟨fun hc => ?_, fun hc => ?_⟩
    · refine cv_skip ?_
      try simp only [blockQ, thenQ]
      have hy1 : ¬ y < 128 := by simp at hc; omega
      rw [putU_big hy1] at hm h6
      simp only [List.length_cons] at h6
      have e1 : IntKind.u64.wrap ((y : Int) % 128 + 128) = ((y % 128 + 128 : Nat) : Int) := by rw [IntKind.wrap_u64]; omega
      have e2 : IntKind.u8.wrap ((y % 128 + 128 : Nat) : Int) = ((y % 128 + 128 : Nat) : Int) := by rw [IntKind.wrap_u8]; omega
      have e3 : IntKind.u64.wrap ((y : Int) / 128) = ((y / 128 : Nat) : Int) := by rw [IntKind.wrap_u64]; omega
      refine hK _ _ ?_
      clear hK K
      refine cv_block ?_
      refine cv_seq_k fun K hK => ?_
      refine cv_region_then rfl ?_
      simp -implicitDefEqProofs (disch := first | omega | decide) only [seval, -Int.reducePow, -Nat.reducePow, cA, cB, pv, binv, fresh, thenQ, blockQ, retQ, Value.oneCell', Value.cells, Nat.mul_one, undef, e1, e2, g1_1, g1_5, g2_1, g2_5]
      intro b hb
      refine appV_at 1 tap36 rfl (fun w hw => src_blk (size := 1) (.head _) rfl hw) rfl (by omega) (by omega) ?_
      intro A' c' hl _
      simp -implicitDefEqProofs (disch := first | omega | decide) only [seval, -Int.reducePow, -Nat.reducePow, cA, cB, pv, binv, fresh, thenQ, blockQ, retQ, Value.oneCell', Value.cells, Nat.mul_one, undef, g1_1, g1_5, g2_1, g2_5]
      refine hK _ _ ?_
      clear hK K
      refine cv_pick [0] (by decide) ?_
      simp only [pickL, nth]
      refine cv_region_q rfl ?_
      simp -implicitDefEqProofs (disch := first | omega | decide) only [seval, -Int.reducePow, -Nat.reducePow, cA, cB, pv, binv, fresh, thenQ, blockQ, retQ, Value.oneCell', Value.cells, Nat.mul_one, undef, e3, g1_1, g1_5, g2_1, g2_5]
      refine ⟨⟨y / 128, m ++ [y % 128 + 128], A', n6 + 1, c', ?_⟩, ?_⟩
      · simp -implicitDefEqProofs (disch := first | omega | decide) only [seval, -Int.reducePow, -Nat.reducePow, cA, cB, pv, binv, fresh, thenQ, blockQ, retQ, Value.oneCell', Value.cells, Nat.mul_one, undef, byt_snoc, g1_1, g1_5, g2_1, g2_5]
        exact ⟨by omega, by rw [← hm]; simp, by omega⟩
      · simp -implicitDefEqProofs (disch := first | omega | decide) only [seval, -Int.reducePow, -Nat.reducePow, cA, cB, pv, binv, fresh, thenQ, blockQ, retQ, Value.oneCell', Value.cells, Nat.mul_one, undef, intOf, g1_1, g1_5, g2_1, g2_5]
        omega
    · refine cv_exit ?_
      simp only [blockQ, thenQ, if_true, ite_true]
      clear hK K
      refine hK _ _ ?_
      clear hK K
      have hy1 : y < 128 := by simp at hc; omega
      rw [putU_small hy1] at hm h6
      refine cv_seq_k fun K hK => ?_
      refine cv_region_then rfl ?_
      simp -implicitDefEqProofs (disch := first | omega | decide) only [seval, -Int.reducePow, -Nat.reducePow, cA, cB, pv, binv, fresh, thenQ, blockQ, retQ, Value.oneCell', Value.cells, Nat.mul_one, undef, u8_of hy1, g1_1, g1_5, g2_1, g2_5]
      intro b hb
      refine appV_at 1 tap36 rfl (fun w hw => src_blk (size := 1) (.head _) rfl hw) rfl (by (simp at h6; omega)) (by (simp at h6; omega)) ?_
      intro A' c' hl _
      simp -implicitDefEqProofs (disch := first | omega | decide) only [seval, -Int.reducePow, -Nat.reducePow, cA, cB, pv, binv, fresh, thenQ, blockQ, retQ, Value.oneCell', Value.cells, Nat.mul_one, undef, g1_1, g1_5, g2_1, g2_5]
      refine hK _ _ ?_
      clear hK K
      refine cv_ret ⟨_, (by simp -implicitDefEqProofs (disch := first | omega | decide) only [seval, -Int.reducePow, -Nat.reducePow, cA, cB, pv, binv, fresh, thenQ, blockQ, retQ, Value.oneCell', Value.cells, Nat.mul_one, undef, g1_1, g1_5, g2_1, g2_5]; rfl), fun w hw => ?_⟩
      exact ⟨A', _, c', rfl, by rw [← hm, byt_snoc]; exact ownsRow_new (hw.holds _ (.head _)) (hw.own _ (.head _)), hw.below⟩

theorem val_step {l : List Nat} {j x : Nat} (h : l[j]? = some x) : val (l.drop j) = x % 128 + 128 * val (l.drop (j + 1)) := by rw [drop_at h]; rfl
set_option maxHeartbeats 4000000 in
theorem ruint_any (A : Option Addr) (n c : Nat) (l : List Nat) (W : World) (hE : Sl W W.heap.size 1 A n c (byt l)) (hb : ∀ x ∈ l, x < 256) :
    Calls Try.prog 74 #[.slice A n c] W fun e w' => e = .returned (uV (uD 0 l)) ∧ Below W.heap.size W w' := by
  have hln : l.length = n := byt_row hE.len
  have hcap := hE.cap
  have hmax := hE.max
  refine calls_cv (M := []) (n := 73) [.tmp 2, .tmp 3, .tmp 4] rfl Try.func74 rfl rfl (Nat.le_of_ble_eq_true rfl) (St.nil _ _) ?_
  refine cv_seq_k fun K hK => ?_
  refine cv_region_then rfl ?_
  simp -implicitDefEqProofs (disch := first | omega | decide) only [seval, -Int.reducePow, -Nat.reducePow, cA, cB, pv, binv, fresh, thenQ, blockQ, retQ, Value.oneCell', Value.cells, Nat.mul_one, undef]
  refine hK _ _ ?_
  clear hK K
  refine cv_seq_k fun K hK => ?_
  refine cv_region_then rfl ?_
  simp -implicitDefEqProofs (disch := first | omega | decide) only [seval, -Int.reducePow, -Nat.reducePow, cA, cB, pv, binv, fresh, thenQ, blockQ, retQ, Value.oneCell', Value.cells, Nat.mul_one, undef]
  refine hK _ _ ?_
  clear hK K
  refine cv_gen fun G3 hG => ?_
  have g3_0 := congrFun hG 0
  have g3_5 := congrFun hG 5
  clear hG
  try simp -implicitDefEqProofs (disch := first | omega | decide) only [seval, -Int.reducePow, -Nat.reducePow, cA, cB, pv, binv, fresh, thenQ, blockQ, retQ, Value.oneCell', Value.cells, Nat.mul_one, undef] at g3_0 g3_5
  refine cv_seq_k fun K hK => ?_
  refine cv_block ?_
  refine cv_loop (fun F' L' => ∃ (k : Nat), F' 0 = G3 0 ∧ F' 5 = .int .i64 (k : Int) ∧ L' = [] ∧ k ≤ n ∧ k ≤ 10 ∧ (∀ j, j < k → 128 ≤ l.getD j 0)) (fun F' L' => 10 - (intOf (F' 5)).toNat) ?_ ?_
  · refine ⟨0, ?_⟩
    simp -implicitDefEqProofs (disch := first | omega | decide) only [seval, -Int.reducePow, -Nat.reducePow, cA, cB, pv, binv, fresh, thenQ, blockQ, retQ, Value.oneCell', Value.cells, Nat.mul_one, undef, g3_0, g3_5]
    exact ⟨by omega, fun j hj => by omega⟩
  · intro G4 L' hI
    obtain ⟨k, q0, q5, rfl, ⟨hk, hk10, hl⟩⟩ := hI
    have g4_0 := q0.trans g3_0
    have g4_5 := q5
    clear q0 q5
    refine cv_seq_k fun K hK => ?_
    refine cv_seq_k fun K hK => ?_
    refine cv_cut (fun _ _ => True) (fun F' L' => F' 0 = G4 0 ∧ F' 5 = G4 5 ∧ F' 22 = .bool (decide (k < n ∧ k < 10 ∧ 128 ≤ l.getD k 0)) ∧ L' = []) ?_ ?_
    · by_cases hlt : k < n
      · obtain ⟨b0, off, rfl, hb0, -⟩ := hE.cells (by omega)
        obtain ⟨x, hx⟩ := some_at (l := l) (i := k) (by omega)
        have hlt' : (k : Int) < n := by omega
        by_cases h10 : k < 10
        · have h10' : (k : Int) < 10 := by omega
          refine cv_region_then rfl ?_
          simp -implicitDefEqProofs (disch := first | omega | decide) only [seval, -Int.reducePow, -Nat.reducePow, cA, cB, pv, binv, fresh, thenQ, blockQ, retQ, Value.oneCell', Value.cells, Nat.mul_one, undef, hlt', h10', g3_0, g3_5, g4_0, g4_5]
          refine ⟨_, hE.ld1 (m := 1) (by kernel_rfl) (byt_get hx), fun tok htok => ?_⟩
          subst htok
          simp -implicitDefEqProofs (disch := first | omega | decide) only [seval, -Int.reducePow, -Nat.reducePow, cA, cB, pv, binv, fresh, thenQ, blockQ, retQ, Value.oneCell', Value.cells, Nat.mul_one, undef, hlt', h10', g3_0, g3_5, g4_0, g4_5]
          rw [getD_of hx]
          all_goals (repeat' refine And.intro ?_ ?_)
          all_goals (first | with_reducible rfl | (refine congrArg Value.bool ?_; rw [Bool.eq_iff_iff]; (try simp only [decide_eq_true_eq, eq_self, true_and, and_true, false_and, and_false, true_or, or_true, false_or, or_false, not_true_eq_false, not_false_eq_true, true_iff, iff_true, false_iff, iff_false, Bool.false_eq_true, Bool.not_eq_true', Bool.not_eq_true, decide_eq_false_iff_not, Bool.and_eq_true, Bool.or_eq_true]) <;> omega) | (refine congrArg (Value.int _) ?_; omega) | omega)
        · have h10' : ¬ (k : Int) < 10 := by omega
          refine cv_region_then rfl ?_
          simp -implicitDefEqProofs (disch := first | omega | decide) only [seval, -Int.reducePow, -Nat.reducePow, cA, cB, pv, binv, fresh, thenQ, blockQ, retQ, Value.oneCell', Value.cells, Nat.mul_one, undef, hlt', h10', g3_0, g3_5, g4_0, g4_5]
          all_goals (first | (simp [h10]; done) | (simp [h10]; omega))
      · have hlt' : ¬ (k : Int) < n := by omega
        refine cv_region_then rfl ?_
        simp -implicitDefEqProofs (disch := first | omega | decide) only [seval, -Int.reducePow, -Nat.reducePow, cA, cB, pv, binv, fresh, thenQ, blockQ, retQ, Value.oneCell', Value.cells, Nat.mul_one, undef, hlt', g3_0, g3_5, g4_0, g4_5]
        all_goals (first | (simp [hlt]; done) | (simp [hlt]; omega))
    · intro G5 L' _ hF
      obtain ⟨q0, q5, q22, rfl⟩ := hF
      have g5_0 := q0.trans g4_0
      have g5_5 := q5.trans g4_5
      have g5_22 := q22
      clear q0 q5 q22
      refine hK _ _ ?_
      clear hK K
      refine cv_cond ?_
      simp -implicitDefEqProofs (disch := first | omega | decide) only [seval, -Int.reducePow, -Nat.reducePow, cA, cB, pv, binv, fresh, thenQ, blockQ, retQ, Value.oneCell', Value.cells, Nat.mul_one, undef, g3_0, g3_5, g4_0, g4_5, g5_0, g5_5, g5_22]
      refine ⟨fun hc => ?_, fun hc => ?_⟩
      · refine cv_skip ?_
        try simp only [blockQ, thenQ]
        have hc := of_decide_eq_true hc
        refine hK _ _ ?_
        clear hK K
        refine cv_block ?_
        refine cv_region_q rfl ?_
        simp -implicitDefEqProofs (disch := first | omega | decide) only [seval, -Int.reducePow, -Nat.reducePow, cA, cB, pv, binv, fresh, thenQ, blockQ, retQ, Value.oneCell', Value.cells, Nat.mul_one, undef, wrap_in, g3_0, g3_5, g4_0, g4_5, g5_0, g5_5, g5_22]
        refine ⟨⟨k + 1, ?_⟩, ?_⟩
        · simp -implicitDefEqProofs (disch := first | omega | decide) only [seval, -Int.reducePow, -Nat.reducePow, cA, cB, pv, binv, fresh, thenQ, blockQ, retQ, Value.oneCell', Value.cells, Nat.mul_one, undef, Int.natCast_add, g3_0, g3_5, g4_0, g4_5, g5_0, g5_5, g5_22]
          refine ⟨by omega, by omega, fun j hj => ?_⟩
          by_cases e : j = k
          · subst e; exact hc.2.2
          · exact hl j (by omega)
        · simp only [intOf]; omega
      · refine cv_exit ?_
        simp only [blockQ, thenQ, if_true, ite_true]
        clear hK K
        refine hK _ _ ?_
        clear hK K
        have hc := of_decide_eq_false hc
        refine cv_seq_k fun K hK => ?_
        refine cv_seq_k fun K hK => ?_
        refine cv_cut (fun _ _ => True) (fun F' L' => F' 0 = G5 0 ∧ F' 5 = G5 5 ∧ F' 32 = .bool (decide (k = n ∧ k < 10)) ∧ L' = []) ?_ ?_
        · refine cv_region_then rfl ?_
          simp -implicitDefEqProofs (disch := first | omega | decide) only [seval, -Int.reducePow, -Nat.reducePow, cA, cB, pv, binv, fresh, thenQ, blockQ, retQ, Value.oneCell', Value.cells, Nat.mul_one, undef, g3_0, g3_5, g4_0, g4_5, g5_0, g5_5, g5_22]
          repeat' ((first | refine vcg_cases (fun hg => ?_) (fun hg => ?_) | refine vdg_cases (fun hg => ?_) (fun hg => ?_)) <;> ((try simp only [Bool.not_eq_true', Bool.not_eq_false', decide_eq_true_eq, decide_eq_false_iff_not] at hg); (try simp -implicitDefEqProofs (disch := first | omega | decide) only [seval, -Int.reducePow, -Nat.reducePow, cA, cB, pv, binv, fresh, thenQ, blockQ, retQ, Value.oneCell', Value.cells, Nat.mul_one, undef, hg, g3_0, g3_5, g4_0, g4_5, g5_0, g5_5, g5_22])))
          all_goals (repeat' refine And.intro ?_ ?_)
          all_goals (first | with_reducible rfl | (refine congrArg Value.bool ?_; rw [Bool.eq_iff_iff]; (try simp only [decide_eq_true_eq, eq_self, true_and, and_true, false_and, and_false, true_or, or_true, false_or, or_false, not_true_eq_false, not_false_eq_true, true_iff, iff_true, false_iff, iff_false, Bool.false_eq_true, Bool.not_eq_true', Bool.not_eq_true, decide_eq_false_iff_not, Bool.and_eq_true, Bool.or_eq_true]) <;> omega) | (refine congrArg (Value.int _) ?_; omega) | omega)
        · intro G6 L' _ hF
          obtain ⟨q0, q5, q32, rfl⟩ := hF
          have g6_0 := q0.trans g5_0
          have g6_5 := q5.trans g5_5
          have g6_32 := q32
          clear q0 q5 q32
          refine hK _ _ ?_
          clear hK K
          refine cv_cond ?_
          simp -implicitDefEqProofs (disch := first | omega | decide) only [seval, -Int.reducePow, -Nat.reducePow, cA, cB, pv, binv, fresh, thenQ, blockQ, retQ, Value.oneCell', Value.cells, Nat.mul_one, undef, g3_0, g3_5, g4_0, g4_5, g6_0, g6_5, g6_32]
          refine ⟨fun hc => ?_, fun hc => ?_⟩
          · have h2 := of_decide_eq_true ‹_›
            refine cv_seq_k fun K hK => ?_
            refine cv_region_then rfl ?_
            simp -implicitDefEqProofs (disch := first | omega | decide) only [seval, -Int.reducePow, -Nat.reducePow, cA, cB, pv, binv, fresh, thenQ, blockQ, retQ, Value.oneCell', Value.cells, Nat.mul_one, undef, g3_0, g3_5, g4_0, g4_5, g6_0, g6_5, g6_32]
            refine hK _ _ ?_
            clear hK K
            refine cv_ret ⟨_, (by simp -implicitDefEqProofs (disch := first | omega | decide) only [seval, -Int.reducePow, -Nat.reducePow, cA, cB, pv, binv, fresh, thenQ, blockQ, retQ, Value.oneCell', Value.cells, Nat.mul_one, undef, g3_0, g3_5, g4_0, g4_5, g6_0, g6_5, g6_32]; rfl), fun w hw => ?_⟩
            rw [uD_trunc hb hl (by omega) h2.2]
            exact ⟨rfl, hw.below⟩
          · have h2 := of_decide_eq_false ‹_›
            refine cv_skip ?_
            try simp only [blockQ, thenQ]
            refine hK _ _ ?_
            clear hK K
            refine cv_seq_k fun K hK => ?_
            refine cv_seq_k fun K hK => ?_
            refine cv_cut (fun _ _ => True) (fun F' L' => F' 0 = G6 0 ∧ F' 5 = G6 5 ∧ F' 55 = .bool (decide (k = 10 ∨ (k = 9 ∧ 1 < l.getD k 0) ∨ (0 < k ∧ l.getD k 0 = 0))) ∧ L' = []) ?_ ?_
            · by_cases h10 : k = 10
              · subst h10
                refine cv_region_then rfl ?_
                simp -implicitDefEqProofs (disch := first | omega | decide) only [seval, -Int.reducePow, -Nat.reducePow, cA, cB, pv, binv, fresh, thenQ, blockQ, retQ, Value.oneCell', Value.cells, Nat.mul_one, undef, g3_0, g3_5, g4_0, g4_5, g6_0, g6_5, g6_32]
                all_goals (first | (simp; done) | (simp; omega))
              · obtain ⟨b0, off, rfl, hb0, -⟩ := hE.cells (by omega)
                obtain ⟨x, hx⟩ := some_at (l := l) (i := k) (by omega)
                have h10' : ¬ (k : Int) = 10 := by omega
                rw [getD_of hx]
                by_cases h9 : k = 9
                · subst h9
                  by_cases h1 : 1 < x
                  · have h1' : (1 : Int) < x := by omega
                    refine cv_region_then rfl ?_
                    simp -implicitDefEqProofs (disch := first | omega | decide) only [seval, -Int.reducePow, -Nat.reducePow, cA, cB, pv, binv, fresh, thenQ, blockQ, retQ, Value.oneCell', Value.cells, Nat.mul_one, undef, h1', g3_0, g3_5, g4_0, g4_5, g6_0, g6_5, g6_32]
                    refine ⟨_, hE.ld1 (m := 1) (by kernel_rfl) (byt_get hx), fun tok htok => ?_⟩
                    subst htok
                    simp -implicitDefEqProofs (disch := first | omega | decide) only [seval, -Int.reducePow, -Nat.reducePow, cA, cB, pv, binv, fresh, thenQ, blockQ, retQ, Value.oneCell', Value.cells, Nat.mul_one, undef, h1', g3_0, g3_5, g4_0, g4_5, g6_0, g6_5, g6_32]
                    all_goals (repeat' refine And.intro ?_ ?_)
                    all_goals (first | with_reducible rfl | (refine congrArg Value.bool ?_; rw [Bool.eq_iff_iff]; (try simp only [decide_eq_true_eq, eq_self, true_and, and_true, false_and, and_false, true_or, or_true, false_or, or_false, not_true_eq_false, not_false_eq_true, true_iff, iff_true, false_iff, iff_false, Bool.false_eq_true, Bool.not_eq_true', Bool.not_eq_true, decide_eq_false_iff_not, Bool.and_eq_true, Bool.or_eq_true]) <;> omega) | (refine congrArg (Value.int _) ?_; omega) | omega)
                  · have h1' : ¬ (1 : Int) < x := by omega
                    refine cv_region_then rfl ?_
                    simp -implicitDefEqProofs (disch := first | omega | decide) only [seval, -Int.reducePow, -Nat.reducePow, cA, cB, pv, binv, fresh, thenQ, blockQ, retQ, Value.oneCell', Value.cells, Nat.mul_one, undef, h1', g3_0, g3_5, g4_0, g4_5, g6_0, g6_5, g6_32]
                    refine ⟨_, hE.ld1 (m := 1) (by kernel_rfl) (byt_get hx), fun tok htok => ?_⟩
                    subst htok
                    simp -implicitDefEqProofs (disch := first | omega | decide) only [seval, -Int.reducePow, -Nat.reducePow, cA, cB, pv, binv, fresh, thenQ, blockQ, retQ, Value.oneCell', Value.cells, Nat.mul_one, undef, h1', g3_0, g3_5, g4_0, g4_5, g6_0, g6_5, g6_32]
                    refine ⟨_, hE.ld1 (m := 1) (by kernel_rfl) (byt_get hx), fun tok htok => ?_⟩
                    subst htok
                    simp -implicitDefEqProofs (disch := first | omega | decide) only [seval, -Int.reducePow, -Nat.reducePow, cA, cB, pv, binv, fresh, thenQ, blockQ, retQ, Value.oneCell', Value.cells, Nat.mul_one, undef, h1', g3_0, g3_5, g4_0, g4_5, g6_0, g6_5, g6_32]
                    all_goals (repeat' refine And.intro ?_ ?_)
                    all_goals (first | with_reducible rfl | (refine congrArg Value.bool ?_; rw [Bool.eq_iff_iff]; (try simp only [decide_eq_true_eq, eq_self, true_and, and_true, false_and, and_false, true_or, or_true, false_or, or_false, not_true_eq_false, not_false_eq_true, true_iff, iff_true, false_iff, iff_false, Bool.false_eq_true, Bool.not_eq_true', Bool.not_eq_true, decide_eq_false_iff_not, Bool.and_eq_true, Bool.or_eq_true]) <;> omega) | (refine congrArg (Value.int _) ?_; omega) | omega)
                · have h9' : ¬ (k : Int) = 9 := by omega
                  by_cases h0 : 0 < k
                  · have h0' : (0 : Int) < k := by omega
                    refine cv_region_then rfl ?_
                    simp -implicitDefEqProofs (disch := first | omega | decide) only [seval, -Int.reducePow, -Nat.reducePow, cA, cB, pv, binv, fresh, thenQ, blockQ, retQ, Value.oneCell', Value.cells, Nat.mul_one, undef, h10', h9', h0', g3_0, g3_5, g4_0, g4_5, g6_0, g6_5, g6_32]
                    refine ⟨_, hE.ld1 (m := 1) (by kernel_rfl) (byt_get hx), fun tok htok => ?_⟩
                    subst htok
                    simp -implicitDefEqProofs (disch := first | omega | decide) only [seval, -Int.reducePow, -Nat.reducePow, cA, cB, pv, binv, fresh, thenQ, blockQ, retQ, Value.oneCell', Value.cells, Nat.mul_one, undef, h10', h9', h0', g3_0, g3_5, g4_0, g4_5, g6_0, g6_5, g6_32]
                    all_goals (repeat' refine And.intro ?_ ?_)
                    all_goals (first | with_reducible rfl | (refine congrArg Value.bool ?_; rw [Bool.eq_iff_iff]; (try simp only [decide_eq_true_eq, eq_self, true_and, and_true, false_and, and_false, true_or, or_true, false_or, or_false, not_true_eq_false, not_false_eq_true, true_iff, iff_true, false_iff, iff_false, Bool.false_eq_true, Bool.not_eq_true', Bool.not_eq_true, decide_eq_false_iff_not, Bool.and_eq_true, Bool.or_eq_true]) <;> omega) | (refine congrArg (Value.int _) ?_; omega) | omega)
                  · have h0' : ¬ (0 : Int) < k := by omega
                    refine cv_region_then rfl ?_
                    simp -implicitDefEqProofs (disch := first | omega | decide) only [seval, -Int.reducePow, -Nat.reducePow, cA, cB, pv, binv, fresh, thenQ, blockQ, retQ, Value.oneCell', Value.cells, Nat.mul_one, undef, h10', h9', h0', g3_0, g3_5, g4_0, g4_5, g6_0, g6_5, g6_32]
                    all_goals (first | (simp [h10, h9, h0]; done) | (simp [h10, h9, h0]; omega))
            · intro G7 L' _ hF
              obtain ⟨q0, q5, q55, rfl⟩ := hF
              have g7_0 := q0.trans g6_0
              have g7_5 := q5.trans g6_5
              have g7_55 := q55
              clear q0 q5 q55
              refine hK _ _ ?_
              clear hK K
              refine cv_cond ?_
              simp -implicitDefEqProofs (disch := first | omega | decide) only [seval, -Int.reducePow, -Nat.reducePow, cA, cB, pv, binv, fresh, thenQ, blockQ, retQ, Value.oneCell', Value.cells, Nat.mul_one, undef, g3_0, g3_5, g4_0, g4_5, g7_0, g7_5, g7_55]
              refine ⟨fun hc => ?_, fun hc => ?_⟩
              · have h3 := of_decide_eq_true ‹_›
                refine cv_seq_k fun K hK => ?_
                refine cv_region_then rfl ?_
                simp -implicitDefEqProofs (disch := first | omega | decide) only [seval, -Int.reducePow, -Nat.reducePow, cA, cB, pv, binv, fresh, thenQ, blockQ, retQ, Value.oneCell', Value.cells, Nat.mul_one, undef, g3_0, g3_5, g4_0, g4_5, g7_0, g7_5, g7_55]
                refine hK _ _ ?_
                clear hK K
                refine cv_ret ⟨_, (by simp -implicitDefEqProofs (disch := first | omega | decide) only [seval, -Int.reducePow, -Nat.reducePow, cA, cB, pv, binv, fresh, thenQ, blockQ, retQ, Value.oneCell', Value.cells, Nat.mul_one, undef, g3_0, g3_5, g4_0, g4_5, g7_0, g7_5, g7_55]; rfl), fun w hw => ?_⟩
                have hU : uD 0 l = (0, 0, 3) := by
                  by_cases h10 : k = 10
                  · exact uD_bad10 hb hl (by omega) h10
                  · exact uD_bad hb hl (by omega) (by omega) (by rcases h3 with h | h | h; exact absurd h h10; exact .inl h; exact .inr h)
                rw [hU]
                exact ⟨rfl, hw.below⟩
              · have h3 := of_decide_eq_false ‹_›
                have hk9 : k ≤ 9 := by omega
                have hU := uD_good hb hl (show k < l.length by omega) hk9 (by omega) (by omega)
                have hlt := (uD_lt hb).1
                rw [hU] at hlt
                simp only at hlt
                refine cv_skip ?_
                try simp only [blockQ, thenQ]
                refine hK _ _ ?_
                clear hK K
                refine cv_seq_k fun K hK => ?_
                refine cv_region_then rfl ?_
                simp -implicitDefEqProofs (disch := first | omega | decide) only [seval, -Int.reducePow, -Nat.reducePow, cA, cB, pv, binv, fresh, thenQ, blockQ, retQ, Value.oneCell', Value.cells, Nat.mul_one, undef, g3_0, g3_5, g4_0, g4_5, g7_0, g7_5, g7_55]
                refine hK _ _ ?_
                clear hK K
                refine cv_seq_k fun K hK => ?_
                refine cv_seq_k fun K hK => ?_
                refine cv_region_then rfl ?_
                simp -implicitDefEqProofs (disch := first | omega | decide) only [seval, -Int.reducePow, -Nat.reducePow, cA, cB, pv, binv, fresh, thenQ, blockQ, retQ, Value.oneCell', Value.cells, Nat.mul_one, undef, g3_0, g3_5, g4_0, g4_5, g7_0, g7_5, g7_55]
                refine hK _ _ ?_
                clear hK K
                refine cv_gen fun G8 hG => ?_
                have g8_0 := congrFun hG 0
                have g8_5 := congrFun hG 5
                have g8_6 := congrFun hG 6
                have g8_7 := congrFun hG 7
                clear hG
                try simp -implicitDefEqProofs (disch := first | omega | decide) only [seval, -Int.reducePow, -Nat.reducePow, cA, cB, pv, binv, fresh, thenQ, blockQ, retQ, Value.oneCell', Value.cells, Nat.mul_one, undef, g3_0, g3_5, g4_0, g4_5, g7_0, g7_5, g7_55] at g8_0 g8_5 g8_6 g8_7
                refine cv_block ?_
                refine cv_loop (fun F' L' => ∃ (i : Nat), F' 0 = G8 0 ∧ F' 5 = G8 5 ∧ F' 6 = .int .u64 (val ((l.take (k + 1)).drop i) : Int) ∧ F' 7 = .int .i64 ((i : Int) - 1) ∧ L' = [] ∧ i ≤ k + 1) (fun F' L' => (intOf (F' 7) + 1).toNat) ?_ ?_
                · refine ⟨k + 1, ?_⟩
                  have e0 : val ((l.take (k + 1)).drop (k + 1)) = 0 := by rw [List.drop_of_length_le (by rw [List.length_take]; omega)]; rfl
                  simp -implicitDefEqProofs (disch := first | omega | decide) only [seval, -Int.reducePow, -Nat.reducePow, cA, cB, pv, binv, fresh, thenQ, blockQ, retQ, Value.oneCell', Value.cells, Nat.mul_one, undef, e0, g3_0, g3_5, g4_0, g4_5, g8_0, g8_5, g8_6, g8_7]
                  exact congrArg (Value.int .i64) (by omega)
                · intro G9 L' hI
                  obtain ⟨i, q0, q5, q6, q7, rfl, hi⟩ := hI
                  have g9_0 := q0.trans g8_0
                  have g9_5 := q5.trans g8_5
                  have g9_6 := q6
                  have g9_7 := q7
                  clear q0 q5 q6 q7
                  refine cv_seq_k fun K hK => ?_
                  refine cv_seq_k fun K hK => ?_
                  refine cv_region_then rfl ?_
                  simp -implicitDefEqProofs (disch := first | omega | decide) only [seval, -Int.reducePow, -Nat.reducePow, cA, cB, pv, binv, fresh, thenQ, blockQ, retQ, Value.oneCell', Value.cells, Nat.mul_one, undef, g3_0, g3_5, g4_0, g4_5, g8_0, g8_5, g8_6, g8_7, g9_0, g9_5, g9_6, g9_7]
                  refine hK _ _ ?_
                  clear hK K
                  refine cv_cond ?_
                  simp -implicitDefEqProofs (disch := first | omega | decide) only [seval, -Int.reducePow, -Nat.reducePow, cA, cB, pv, binv, fresh, thenQ, blockQ, retQ, Value.oneCell', Value.cells, Nat.mul_one, undef, g3_0, g3_5, g4_0, g4_5, g8_0, g8_5, g8_6, g8_7, g9_0, g9_5, g9_6, g9_7]
                  refine ⟨fun hc => ?_, fun hc => ?_⟩
                  · refine cv_skip ?_
                    try simp only [blockQ, thenQ]
                    obtain ⟨j, rfl⟩ : ∃ j, i = j + 1 := ⟨i - 1, by simp at hc; omega⟩
                    obtain ⟨b0, off, rfl, hb0, -⟩ := hE.cells (by omega)
                    obtain ⟨x, hx⟩ := some_at (l := l) (i := j) (by omega)
                    have hxb := hb x (List.mem_of_getElem? hx)
                    have hx2 : (l.take (k + 1))[j]? = some x := by rw [List.getElem?_take, if_pos (by omega)]; exact hx
                    have hs := val_step hx2
                    have hle := val_drop_le (l.take (k + 1)) j
                    generalize val ((l.take (k + 1)).drop (j + 1)) = v at *
                    have e0 : ((j + 1 : Nat) : Int) - 1 = (j : Int) := by omega
                    have e1 : IntKind.u64.wrap ((v : Int) * 128) = ((v * 128 : Nat) : Int) := by rw [IntKind.wrap_u64]; omega
                    have e2 : IntKind.u64.wrap ((x : Int) % 128) = ((x % 128 : Nat) : Int) := by rw [IntKind.wrap_u64]; omega
                    have e3 : IntKind.u64.wrap (((v * 128 : Nat) : Int) + ((x % 128 : Nat) : Int)) = (val ((l.take (k + 1)).drop j) : Int) := by rw [IntKind.wrap_u64, hs]; omega
                    have e4 : IntKind.i64.wrap ((j : Int) - 1) = (j : Int) - 1 := wrap_in (by omega) (by omega)
                    refine hK _ _ ?_
                    clear hK K
                    refine cv_seq_k fun K hK => ?_
                    refine cv_block ?_
                    refine cv_region_q rfl ?_
                    simp -implicitDefEqProofs (disch := first | omega | decide) only [seval, -Int.reducePow, -Nat.reducePow, cA, cB, pv, binv, fresh, thenQ, blockQ, retQ, Value.oneCell', Value.cells, Nat.mul_one, undef, e0, e1, g3_0, g3_5, g4_0, g4_5, g8_0, g8_5, g8_6, g8_7, g9_0, g9_5, g9_6, g9_7]
                    refine ⟨_, hE.ld1 (m := 1) (by kernel_rfl) (byt_get hx), fun tok htok => ?_⟩
                    subst htok
                    simp -implicitDefEqProofs (disch := first | omega | decide) only [seval, -Int.reducePow, -Nat.reducePow, cA, cB, pv, binv, fresh, thenQ, blockQ, retQ, Value.oneCell', Value.cells, Nat.mul_one, undef, e1, e2, e3, g3_0, g3_5, g4_0, g4_5, g8_0, g8_5, g8_6, g8_7, g9_0, g9_5, g9_6, g9_7]
                    refine hK _ _ ?_
                    clear hK K
                    refine cv_region_then rfl ?_
                    simp -implicitDefEqProofs (disch := first | omega | decide) only [seval, -Int.reducePow, -Nat.reducePow, cA, cB, pv, binv, fresh, thenQ, blockQ, retQ, Value.oneCell', Value.cells, Nat.mul_one, undef, e0, e4, g3_0, g3_5, g4_0, g4_5, g8_0, g8_5, g8_6, g8_7, g9_0, g9_5, g9_6, g9_7]
                    refine ⟨⟨j, ?_⟩, ?_⟩
                    · simp -implicitDefEqProofs (disch := first | omega | decide) only [seval, -Int.reducePow, -Nat.reducePow, cA, cB, pv, binv, fresh, thenQ, blockQ, retQ, Value.oneCell', Value.cells, Nat.mul_one, undef, g3_0, g3_5, g4_0, g4_5, g8_0, g8_5, g8_6, g8_7, g9_0, g9_5, g9_6, g9_7]
                      omega
                    · simp only [intOf]; omega
                  · refine cv_exit ?_
                    simp only [blockQ, thenQ, if_true, ite_true]
                    clear hK K
                    refine hK _ _ ?_
                    clear hK K
                    obtain rfl : i = 0 := by simp at hc; omega
                    refine cv_seq_k fun K hK => ?_
                    refine cv_region_then rfl ?_
                    simp -implicitDefEqProofs (disch := first | omega | decide) only [seval, -Int.reducePow, -Nat.reducePow, cA, cB, pv, binv, fresh, thenQ, blockQ, retQ, Value.oneCell', Value.cells, Nat.mul_one, undef, wrap_in, g3_0, g3_5, g4_0, g4_5, g8_0, g8_5, g8_6, g8_7, g9_0, g9_5, g9_6, g9_7]
                    refine hK _ _ ?_
                    clear hK K
                    refine cv_ret ⟨_, (by simp -implicitDefEqProofs (disch := first | omega | decide) only [seval, -Int.reducePow, -Nat.reducePow, cA, cB, pv, binv, fresh, thenQ, blockQ, retQ, Value.oneCell', Value.cells, Nat.mul_one, undef, g3_0, g3_5, g4_0, g4_5, g8_0, g8_5, g8_6, g8_7, g9_0, g9_5, g9_6, g9_7]; rfl), fun w hw => ?_⟩
                    rw [hU]
                    exact ⟨rfl, hw.below⟩
end Go.Proofs.Ytehfnjaompkikaa
