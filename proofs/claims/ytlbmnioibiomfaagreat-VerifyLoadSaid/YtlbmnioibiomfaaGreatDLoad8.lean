/- The reference's numbers. -/
import Derived.Test.YtlbmnioibiomfaaGreatDLoad4
import Derived.Test.YtlbmnioibiomfaaGreatDLoad5
import Derived.Test.YtlbmnioibiomfaaGreatDLoad2
import Derived.Test.YtlbmnioibiomfaaGreatDLoad7
namespace Go.Proofs.YtlbmnioibiomfaaGreat
open Go.RowKit Go.Shelf
set_option linter.unusedVariables false
set_option linter.unusedSimpArgs false
set_option maxRecDepth 100000
set_option maxHeartbeats 2000000 in
theorem rput_any (A : Option Addr) (n c : Nat) (l : List Nat) (x : Nat) (W : World) (hE : Sl W W.heap.size 1 A n c (byt l)) (hn : n ≤ 10000000) (hx : x < 18446744073709551616) :
    Calls Tryz.prog 22 #[.slice A n c, .int .u64 x] W (rowP 5 1 (fun v => v) (byt (l ++ putU x)) W) := by
  have hln : l.length = n := byt_row hE.len
  have hp := putU_len10 hx
  refine calls_cv (M := []) (n := 25) [.tmp 4] rfl Tryz.func22 rfl rfl (Nat.le_of_ble_eq_true rfl) (St.nil _ _) ?_
  refine cv_seq_k fun K hK => ?_
  refine cv_region_then rfl ?_
  simp -implicitDefEqProofs (disch := first | omega | decide) only [seval, -Int.reducePow, -Nat.reducePow, cC, pv, binv, Nat.mul_one, undef]
  refine hK _ _ ?_
  clear hK K
  refine cv_seq_k fun K hK => ?_
  refine cv_region_then rfl ?_
  simp -implicitDefEqProofs (disch := first | omega | decide) only [seval, -Int.reducePow, -Nat.reducePow, cC, pv, binv, Nat.mul_one, undef]
  intro b hb
  refine appV_lit 0 tap22 rfl rfl (fun w hw => (hE.at hw).reads) (ones_byt _) (by omega) (by omega) ?_
  intro A1 c1 hl1 _
  simp -implicitDefEqProofs (disch := first | omega | decide) only [seval, -Int.reducePow, -Nat.reducePow, cC, pv, binv, Nat.mul_one, undef]
  refine hK _ _ ?_
  clear hK K
  refine cv_gen fun G1 hG => ?_
  have g1_1 := congrFun hG 1
  have g1_5 := congrFun hG 5
  clear hG
  try simp -implicitDefEqProofs (disch := first | omega | decide) only [seval, -Int.reducePow, -Nat.reducePow, cC, pv, binv, Nat.mul_one, undef] at g1_1 g1_5
  have g1 := And.intro g1_1 g1_5
  refine cv_seq_k fun K hK => ?_
  refine cv_block ?_
  refine cv_loop (fun F' L' => ∃ (y : Nat) (m : List Nat) (A6 : Option Addr) (n6 c6 : Nat), F' 1 = .int .u64 (y : Int) ∧ F' 5 = .slice A6 n6 c6 ∧ L' = [.row (.slice A6 n6 c6) 5 1 n6 (byt m)] ∧ y ≤ x ∧ m ++ putU y = l ++ putU x ∧ n6 + (putU y).length ≤ 10000010) (fun F' L' => (intOf (F' 1)).toNat) ?_ ?_
  · refine ⟨x, l, A1, n, c1, ?_⟩
    simp -implicitDefEqProofs (disch := first | omega | decide) only [seval, -Int.reducePow, -Nat.reducePow, cC, pv, binv, Nat.mul_one, undef, g1]
    omega
  · intro G2 L' hI
    obtain ⟨y, m, A6, n6, c6, q1, q5, rfl, ⟨hy, hm, h6⟩⟩ := hI
    have g2_1 := q1
    have g2_5 := q5
    clear q1 q5
    have g2 := And.intro g2_1 g2_5
    refine cv_seq_k fun K hK => ?_
    refine cv_seq_k fun K hK => ?_
    refine cv_region_then rfl ?_
    simp -implicitDefEqProofs (disch := first | omega | decide) only [seval, -Int.reducePow, -Nat.reducePow, cC, pv, binv, Nat.mul_one, undef, g1, g2]
    refine hK _ _ ?_
    clear hK K
    refine cv_cond ?_
    simp -implicitDefEqProofs (disch := first | omega | decide) only [seval, -Int.reducePow, -Nat.reducePow, cC, pv, binv, Nat.mul_one, undef, g1, g2]
    refine ⟨fun hc => ?_, fun hc => ?_⟩
    · refine cv_skip ?_
      try simp only [blockQ, thenQ]
      have hy1 : ¬ y < 128 := by simp at hc; omega
      rw [putU_big hy1] at hm h6
      simp only [List.length_cons] at h6
      have e1 : IntKind.u64.wrap ((y : Int) % 128 + 128) = ((y % 128 + 128 : Nat) : Int) := by rw [IntKind.wrap_u64]; omega
      have e2 : IntKind.u8.wrap ((y % 128 + 128 : Nat) : Int) = ((y % 128 + 128 : Nat) : Int) := by rw [IntKind.wrap_u8]; omega
      have e3 : IntKind.u64.wrap ((y : Int) / 128) = ((y / 128 : Nat) : Int) := by rw [IntKind.wrap_u64]; omega
      refine hK _ _ ?_
      clear hK K
      refine cv_block ?_
      refine cv_seq_k fun K hK => ?_
      refine cv_region_then rfl ?_
      simp -implicitDefEqProofs (disch := first | omega | decide) only [seval, -Int.reducePow, -Nat.reducePow, cC, pv, binv, Nat.mul_one, undef, e1, e2, g1, g2]
      intro b hb
      refine appV_at 1 tap22 rfl (fun w hw => src_blk (size := 1) (.head _) rfl hw) rfl (by omega) (by omega) ?_
      intro A' c' hl _
      simp -implicitDefEqProofs (disch := first | omega | decide) only [seval, -Int.reducePow, -Nat.reducePow, cC, pv, binv, Nat.mul_one, undef, g1, g2]
      refine hK _ _ ?_
      clear hK K
      refine cv_pick [0] (by decide) ?_
      simp only [pickL, nth]
      refine cv_region_q rfl ?_
      simp -implicitDefEqProofs (disch := first | omega | decide) only [seval, -Int.reducePow, -Nat.reducePow, cC, pv, binv, Nat.mul_one, undef, e3, g1, g2]
      refine ⟨⟨y / 128, m ++ [y % 128 + 128], A', n6 + 1, c', ?_⟩, ?_⟩
      · simp -implicitDefEqProofs (disch := first | omega | decide) only [seval, -Int.reducePow, -Nat.reducePow, cC, pv, binv, Nat.mul_one, undef, byt_snoc, g1, g2]
        exact ⟨by omega, by rw [← hm]; simp, by omega⟩
      · simp -implicitDefEqProofs (disch := first | omega | decide) only [seval, -Int.reducePow, -Nat.reducePow, cC, pv, binv, Nat.mul_one, undef, intOf, g1, g2]
        omega
    · refine cv_exit ?_
      simp only [blockQ, thenQ, if_true, ite_true]
      clear hK K
      refine hK _ _ ?_
      clear hK K
      have hy1 : y < 128 := by simp at hc; omega
      rw [putU_small hy1] at hm h6
      refine cv_seq_k fun K hK => ?_
      refine cv_region_then rfl ?_
      simp -implicitDefEqProofs (disch := first | omega | decide) only [seval, -Int.reducePow, -Nat.reducePow, cC, pv, binv, Nat.mul_one, undef, u8_of hy1, g1, g2]
      intro b hb
      refine appV_at 1 tap22 rfl (fun w hw => src_blk (size := 1) (.head _) rfl hw) rfl (by (simp at h6; omega)) (by (simp at h6; omega)) ?_
      intro A' c' hl _
      simp -implicitDefEqProofs (disch := first | omega | decide) only [seval, -Int.reducePow, -Nat.reducePow, cC, pv, binv, Nat.mul_one, undef, g1, g2]
      refine hK _ _ ?_
      clear hK K
      refine cv_ret ⟨_, (by simp -implicitDefEqProofs (disch := first | omega | decide) only [seval, -Int.reducePow, -Nat.reducePow, cC, pv, binv, Nat.mul_one, undef, g1, g2]; rfl), fun w hw => ?_⟩
      exact ⟨A', _, c', rfl, by rw [← hm, byt_snoc]; exact ownsRow_new (hw.holds _ (.head _)) (hw.own _ (.head _)), hw.below⟩

theorem val_step {l : List Nat} {j x : Nat} (h : l[j]? = some x) : val (l.drop j) = x % 128 + 128 * val (l.drop (j + 1)) := by rw [drop_at h]; rfl
set_option maxHeartbeats 4000000 in
theorem ruint_any (A : Option Addr) (n c : Nat) (l : List Nat) (W : World) (hE : Sl W W.heap.size 1 A n c (byt l)) (hb : ∀ x ∈ l, x < 256) :
    Calls Tryz.prog 75 #[.slice A n c] W fun e w' => e = .returned (uV (uD 0 l)) ∧ Below W.heap.size W w' := by
  have hln : l.length = n := byt_row hE.len
  have hcap := hE.cap
  have hmax := hE.max
  refine calls_cv (M := []) (n := 73) [.tmp 2, .tmp 3, .tmp 4] rfl Tryz.func75 rfl rfl (Nat.le_of_ble_eq_true rfl) (St.nil _ _) ?_
  refine cv_seq_k fun K hK => ?_
  refine cv_region_then rfl ?_
  simp -implicitDefEqProofs (disch := first | omega | decide) only [seval, -Int.reducePow, -Nat.reducePow, cC, pv, binv, Nat.mul_one, undef]
  refine hK _ _ ?_
  clear hK K
  refine cv_seq_k fun K hK => ?_
  refine cv_region_then rfl ?_
  simp -implicitDefEqProofs (disch := first | omega | decide) only [seval, -Int.reducePow, -Nat.reducePow, cC, pv, binv, Nat.mul_one, undef]
  refine hK _ _ ?_
  clear hK K
  refine cv_gen fun G3 hG => ?_
  have g3_0 := congrFun hG 0
  have g3_5 := congrFun hG 5
  clear hG
  try simp -implicitDefEqProofs (disch := first | omega | decide) only [seval, -Int.reducePow, -Nat.reducePow, cC, pv, binv, Nat.mul_one, undef] at g3_0 g3_5
  have g3 := And.intro g3_0 g3_5
  refine cv_seq_k fun K hK => ?_
  refine cv_block ?_
  refine cv_loop (fun F' L' => ∃ (k : Nat), F' 0 = G3 0 ∧ F' 5 = .int .i64 (k : Int) ∧ L' = [] ∧ k ≤ n ∧ k ≤ 10 ∧ (∀ j, j < k → 128 ≤ l.getD j 0)) (fun F' L' => 10 - (intOf (F' 5)).toNat) ?_ ?_
  · refine ⟨0, ?_⟩
    simp -implicitDefEqProofs (disch := first | omega | decide) only [seval, -Int.reducePow, -Nat.reducePow, cC, pv, binv, Nat.mul_one, undef, g3]
    exact ⟨by omega, fun j hj => by omega⟩
  · intro G4 L' hI
    obtain ⟨k, q0, q5, rfl, ⟨hk, hk10, hl⟩⟩ := hI
    have g4_0 := q0.trans g3_0
    have g4_5 := q5
    clear q0 q5
    have g4 := And.intro g4_0 g4_5
    refine cv_seq_k fun K hK => ?_
    refine cv_seq_k fun K hK => ?_
    refine cv_cut (fun _ _ => True) (fun F' L' => F' 0 = G4 0 ∧ F' 5 = G4 5 ∧ F' 22 = .bool (decide (k < n ∧ k < 10 ∧ 128 ≤ l.getD k 0)) ∧ L' = []) ?_ ?_
    · by_cases hlt : k < n
      · obtain ⟨b0, off, rfl, hb0, -⟩ := hE.cells (by omega)
        obtain ⟨x, hx⟩ := some_at (l := l) (i := k) (by omega)
        have hlt' : (k : Int) < n := by omega
        by_cases h10 : k < 10
        · have h10' : (k : Int) < 10 := by omega
          refine cv_region_then rfl ?_
          simp -implicitDefEqProofs (disch := first | omega | decide) only [seval, -Int.reducePow, -Nat.reducePow, cC, pv, binv, Nat.mul_one, undef, hlt', h10', g3, g4]
          refine ⟨_, hE.ld1 (m := 1) (by kernel_rfl) (byt_get hx), fun tok htok => ?_⟩
          subst htok
          simp -implicitDefEqProofs (disch := first | omega | decide) only [seval, -Int.reducePow, -Nat.reducePow, cC, pv, binv, Nat.mul_one, undef, hlt', h10', g3, g4]
          rw [getD_of hx]
          all_goals (repeat' refine And.intro ?_ ?_)
          all_goals (first | with_reducible rfl | (refine congrArg Value.bool ?_; rw [Bool.eq_iff_iff]; (try simp only [decide_eq_true_eq, eq_self, true_and, and_true, false_and, and_false, true_or, or_true, false_or, or_false, not_true_eq_false, not_false_eq_true, true_iff, iff_true, false_iff, iff_false, Bool.false_eq_true, Bool.not_eq_true', Bool.not_eq_true, decide_eq_false_iff_not, Bool.and_eq_true, Bool.or_eq_true]) <;> omega) | (refine congrArg (Value.int _) ?_; omega) | omega)
        · have h10' : ¬ (k : Int) < 10 := by omega
          refine cv_region_then rfl ?_
          simp -implicitDefEqProofs (disch := first | omega | decide) only [seval, -Int.reducePow, -Nat.reducePow, cC, pv, binv, Nat.mul_one, undef, hlt', h10', g3, g4]
          all_goals (first | (simp [h10]; done) | (simp [h10]; omega))
      · have hlt' : ¬ (k : Int) < n := by omega
        refine cv_region_then rfl ?_
        simp -implicitDefEqProofs (disch := first | omega | decide) only [seval, -Int.reducePow, -Nat.reducePow, cC, pv, binv, Nat.mul_one, undef, hlt', g3, g4]
        all_goals (first | (simp [hlt]; done) | (simp [hlt]; omega))
    · intro G5 L' _ hF
      obtain ⟨q0, q5, q22, rfl⟩ := hF
      have g5_0 := q0.trans g4_0
      have g5_5 := q5.trans g4_5
      have g5_22 := q22
      clear q0 q5 q22
      have g5 := And.intro g5_0 (And.intro g5_5 g5_22)
      refine hK _ _ ?_
      clear hK K
      refine cv_cond ?_
      simp -implicitDefEqProofs (disch := first | omega | decide) only [seval, -Int.reducePow, -Nat.reducePow, cC, pv, binv, Nat.mul_one, undef, g3, g4, g5]
      refine ⟨fun hc => ?_, fun hc => ?_⟩
      · refine cv_skip ?_
        try simp only [blockQ, thenQ]
        have hc := of_decide_eq_true hc
        refine hK _ _ ?_
        clear hK K
        refine cv_block ?_
        refine cv_region_q rfl ?_
        simp -implicitDefEqProofs (disch := first | omega | decide) only [seval, -Int.reducePow, -Nat.reducePow, cC, pv, binv, Nat.mul_one, undef, wrap_in, g3, g4, g5]
        refine ⟨⟨k + 1, ?_⟩, ?_⟩
        · simp -implicitDefEqProofs (disch := first | omega | decide) only [seval, -Int.reducePow, -Nat.reducePow, cC, pv, binv, Nat.mul_one, undef, Int.natCast_add, g3, g4, g5]
          refine ⟨by omega, by omega, fun j hj => ?_⟩
          by_cases e : j = k
          · subst e; exact hc.2.2
          · exact hl j (by omega)
        · simp only [intOf]; omega
      · refine cv_exit ?_
        simp only [blockQ, thenQ, if_true, ite_true]
        clear hK K
        refine hK _ _ ?_
        clear hK K
        have hc := of_decide_eq_false hc
        refine cv_seq_k fun K hK => ?_
        refine cv_seq_k fun K hK => ?_
        refine cv_cut (fun _ _ => True) (fun F' L' => F' 0 = G5 0 ∧ F' 5 = G5 5 ∧ F' 32 = .bool (decide (k = n ∧ k < 10)) ∧ L' = []) ?_ ?_
        · refine cv_region_then rfl ?_
          simp -implicitDefEqProofs (disch := first | omega | decide) only [seval, -Int.reducePow, -Nat.reducePow, cC, pv, binv, Nat.mul_one, undef, g3, g4, g5]
          repeat' ((first | refine vcg_cases (fun hg => ?_) (fun hg => ?_) | refine vdg_cases (fun hg => ?_) (fun hg => ?_)) <;> ((try simp only [Bool.not_eq_true', Bool.not_eq_false', decide_eq_true_eq, decide_eq_false_iff_not] at hg); (try simp -implicitDefEqProofs (disch := first | omega | decide) only [seval, -Int.reducePow, -Nat.reducePow, cC, pv, binv, Nat.mul_one, undef, hg, g3, g4, g5])))
          all_goals (repeat' refine And.intro ?_ ?_)
          all_goals (first | with_reducible rfl | (refine congrArg Value.bool ?_; rw [Bool.eq_iff_iff]; (try simp only [decide_eq_true_eq, eq_self, true_and, and_true, false_and, and_false, true_or, or_true, false_or, or_false, not_true_eq_false, not_false_eq_true, true_iff, iff_true, false_iff, iff_false, Bool.false_eq_true, Bool.not_eq_true', Bool.not_eq_true, decide_eq_false_iff_not, Bool.and_eq_true, Bool.or_eq_true]) <;> omega) | (refine congrArg (Value.int _) ?_; omega) | omega)
        · intro G6 L' _ hF
          obtain ⟨q0, q5, q32, rfl⟩ := hF
          have g6_0 := q0.trans g5_0
          have g6_5 := q5.trans g5_5
          have g6_32 := q32
          clear q0 q5 q32
          have g6 := And.intro g6_0 (And.intro g6_5 g6_32)
          refine hK _ _ ?_
          clear hK K
          refine cv_cond ?_
          simp -implicitDefEqProofs (disch := first | omega | decide) only [seval, -Int.reducePow, -Nat.reducePow, cC, pv, binv, Nat.mul_one, undef, g3, g4, g6]
          refine ⟨fun hc => ?_, fun hc => ?_⟩
          · have h2 := of_decide_eq_true ‹_›
            refine cv_seq_k fun K hK => ?_
            refine cv_region_then rfl ?_
            simp -implicitDefEqProofs (disch := first | omega | decide) only [seval, -Int.reducePow, -Nat.reducePow, cC, pv, binv, Nat.mul_one, undef, g3, g4, g6]
            refine hK _ _ ?_
            clear hK K
            refine cv_ret ⟨_, (by simp -implicitDefEqProofs (disch := first | omega | decide) only [seval, -Int.reducePow, -Nat.reducePow, cC, pv, binv, Nat.mul_one, undef, g3, g4, g6]; rfl), fun w hw => ?_⟩
            rw [uD_trunc hb hl (by omega) h2.2]
            exact ⟨rfl, hw.below⟩
          · have h2 := of_decide_eq_false ‹_›
            refine cv_skip ?_
            try simp only [blockQ, thenQ]
            refine hK _ _ ?_
            clear hK K
            refine cv_seq_k fun K hK => ?_
            refine cv_seq_k fun K hK => ?_
            refine cv_cut (fun _ _ => True) (fun F' L' => F' 0 = G6 0 ∧ F' 5 = G6 5 ∧ F' 55 = .bool (decide (k = 10 ∨ (k = 9 ∧ 1 < l.getD k 0) ∨ (0 < k ∧ l.getD k 0 = 0))) ∧ L' = []) ?_ ?_
            · by_cases h10 : k = 10
              · subst h10
                refine cv_region_then rfl ?_
                simp -implicitDefEqProofs (disch := first | omega | decide) only [seval, -Int.reducePow, -Nat.reducePow, cC, pv, binv, Nat.mul_one, undef, g3, g4, g6]
                all_goals (first | (simp; done) | (simp; omega))
              · obtain ⟨b0, off, rfl, hb0, -⟩ := hE.cells (by omega)
                obtain ⟨x, hx⟩ := some_at (l := l) (i := k) (by omega)
                have h10' : ¬ (k : Int) = 10 := by omega
                rw [getD_of hx]
                by_cases h9 : k = 9
                · subst h9
                  by_cases h1 : 1 < x
                  · have h1' : (1 : Int) < x := by omega
                    refine cv_region_then rfl ?_
                    simp -implicitDefEqProofs (disch := first | omega | decide) only [seval, -Int.reducePow, -Nat.reducePow, cC, pv, binv, Nat.mul_one, undef, h1', g3, g4, g6]
                    refine ⟨_, hE.ld1 (m := 1) (by kernel_rfl) (byt_get hx), fun tok htok => ?_⟩
                    subst htok
                    simp -implicitDefEqProofs (disch := first | omega | decide) only [seval, -Int.reducePow, -Nat.reducePow, cC, pv, binv, Nat.mul_one, undef, h1', g3, g4, g6]
                    all_goals (repeat' refine And.intro ?_ ?_)
                    all_goals (first | with_reducible rfl | (refine congrArg Value.bool ?_; rw [Bool.eq_iff_iff]; (try simp only [decide_eq_true_eq, eq_self, true_and, and_true, false_and, and_false, true_or, or_true, false_or, or_false, not_true_eq_false, not_false_eq_true, true_iff, iff_true, false_iff, iff_false, Bool.false_eq_true, Bool.not_eq_true', Bool.not_eq_true, decide_eq_false_iff_not, Bool.and_eq_true, Bool.or_eq_true]) <;> omega) | (refine congrArg (Value.int _) ?_; omega) | omega)
                  · have h1' : ¬ (1 : Int) < x := by omega
                    refine cv_region_then rfl ?_
                    simp -implicitDefEqProofs (disch := first | omega | decide) only [seval, -Int.reducePow, -Nat.reducePow, cC, pv, binv, Nat.mul_one, undef, h1', g3, g4, g6]
                    refine ⟨_, hE.ld1 (m := 1) (by kernel_rfl) (byt_get hx), fun tok htok => ?_⟩
                    subst htok
                    simp -implicitDefEqProofs (disch := first | omega | decide) only [seval, -Int.reducePow, -Nat.reducePow, cC, pv, binv, Nat.mul_one, undef, h1', g3, g4, g6]
                    refine ⟨_, hE.ld1 (m := 1) (by kernel_rfl) (byt_get hx), fun tok htok => ?_⟩
                    subst htok
                    simp -implicitDefEqProofs (disch := first | omega | decide) only [seval, -Int.reducePow, -Nat.reducePow, cC, pv, binv, Nat.mul_one, undef, h1', g3, g4, g6]
                    all_goals (repeat' refine And.intro ?_ ?_)
                    all_goals (first | with_reducible rfl | (refine congrArg Value.bool ?_; rw [Bool.eq_iff_iff]; (try simp only [decide_eq_true_eq, eq_self, true_and, and_true, false_and, and_false, true_or, or_true, false_or, or_false, not_true_eq_false, not_false_eq_true, true_iff, iff_true, false_iff, iff_false, Bool.false_eq_true, Bool.not_eq_true', Bool.not_eq_true, decide_eq_false_iff_not, Bool.and_eq_true, Bool.or_eq_true]) <;> omega) | (refine congrArg (Value.int _) ?_; omega) | omega)
                · have h9' : ¬ (k : Int) = 9 := by omega
                  by_cases h0 : 0 < k
                  · have h0' : (0 : Int) < k := by omega
                    refine cv_region_then rfl ?_
                    simp -implicitDefEqProofs (disch := first | omega | decide) only [seval, -Int.reducePow, -Nat.reducePow, cC, pv, binv, Nat.mul_one, undef, h10', h9', h0', g3, g4, g6]
                    refine ⟨_, hE.ld1 (m := 1) (by kernel_rfl) (byt_get hx), fun tok htok => ?_⟩
                    subst htok
                    simp -implicitDefEqProofs (disch := first | omega | decide) only [seval, -Int.reducePow, -Nat.reducePow, cC, pv, binv, Nat.mul_one, undef, h10', h9', h0', g3, g4, g6]
                    all_goals (repeat' refine And.intro ?_ ?_)
                    all_goals (first | with_reducible rfl | (refine congrArg Value.bool ?_; rw [Bool.eq_iff_iff]; (try simp only [decide_eq_true_eq, eq_self, true_and, and_true, false_and, and_false, true_or, or_true, false_or, or_false, not_true_eq_false, not_false_eq_true, true_iff, iff_true, false_iff, iff_false, Bool.false_eq_true, Bool.not_eq_true', Bool.not_eq_true, decide_eq_false_iff_not, Bool.and_eq_true, Bool.or_eq_true]) <;> omega) | (refine congrArg (Value.int _) ?_; omega) | omega)
                  · have h0' : ¬ (0 : Int) < k := by omega
                    refine cv_region_then rfl ?_
                    simp -implicitDefEqProofs (disch := first | omega | decide) only [seval, -Int.reducePow, -Nat.reducePow, cC, pv, binv, Nat.mul_one, undef, h10', h9', h0', g3, g4, g6]
                    all_goals (first | (simp [h10, h9, h0]; done) | (simp [h10, h9, h0]; omega))
            · intro G7 L' _ hF
              obtain ⟨q0, q5, q55, rfl⟩ := hF
              have g7_0 := q0.trans g6_0
              have g7_5 := q5.trans g6_5
              have g7_55 := q55
              clear q0 q5 q55
              have g7 := And.intro g7_0 (And.intro g7_5 g7_55)
              refine hK _ _ ?_
              clear hK K
              refine cv_cond ?_
              simp -implicitDefEqProofs (disch := first | omega | decide) only [seval, -Int.reducePow, -Nat.reducePow, cC, pv, binv, Nat.mul_one, undef, g3, g4, g7]
              refine ⟨fun hc => ?_, fun hc => ?_⟩
              · have h3 := of_decide_eq_true ‹_›
                refine cv_seq_k fun K hK => ?_
                refine cv_region_then rfl ?_
                simp -implicitDefEqProofs (disch := first | omega | decide) only [seval, -Int.reducePow, -Nat.reducePow, cC, pv, binv, Nat.mul_one, undef, g3, g4, g7]
                refine hK _ _ ?_
                clear hK K
                refine cv_ret ⟨_, (by simp -implicitDefEqProofs (disch := first | omega | decide) only [seval, -Int.reducePow, -Nat.reducePow, cC, pv, binv, Nat.mul_one, undef, g3, g4, g7]; rfl), fun w hw => ?_⟩
                have hU : uD 0 l = (0, 0, 3) := by
                  by_cases h10 : k = 10
                  · exact uD_bad10 hb hl (by omega) h10
                  · exact uD_bad hb hl (by omega) (by omega) (by rcases h3 with h | h | h; exact absurd h h10; exact .inl h; exact .inr h)
                rw [hU]
                exact ⟨rfl, hw.below⟩
              · have h3 := of_decide_eq_false ‹_›
                have hk9 : k ≤ 9 := by omega
                have hU := uD_good hb hl (show k < l.length by omega) hk9 (by omega) (by omega)
                have hlt := (uD_lt hb).1
                rw [hU] at hlt
                simp only at hlt
                refine cv_skip ?_
                try simp only [blockQ, thenQ]
                refine hK _ _ ?_
                clear hK K
                refine cv_seq_k fun K hK => ?_
                refine cv_region_then rfl ?_
                simp -implicitDefEqProofs (disch := first | omega | decide) only [seval, -Int.reducePow, -Nat.reducePow, cC, pv, binv, Nat.mul_one, undef, g3, g4, g7]
                refine hK _ _ ?_
                clear hK K
                refine cv_seq_k fun K hK => ?_
                refine cv_seq_k fun K hK => ?_
                refine cv_region_then rfl ?_
                simp -implicitDefEqProofs (disch := first | omega | decide) only [seval, -Int.reducePow, -Nat.reducePow, cC, pv, binv, Nat.mul_one, undef, g3, g4, g7]
                refine hK _ _ ?_
                clear hK K
                refine cv_gen fun G8 hG => ?_
                have g8_0 := congrFun hG 0
                have g8_5 := congrFun hG 5
                have g8_6 := congrFun hG 6
                have g8_7 := congrFun hG 7
                clear hG
                try simp -implicitDefEqProofs (disch := first | omega | decide) only [seval, -Int.reducePow, -Nat.reducePow, cC, pv, binv, Nat.mul_one, undef, g3, g4, g7] at g8_0 g8_5 g8_6 g8_7
                have g8 := And.intro g8_0 (And.intro g8_5 (And.intro g8_6 g8_7))
                refine cv_block ?_
                refine cv_loop (fun F' L' => ∃ (i : Nat), F' 0 = G8 0 ∧ F' 5 = G8 5 ∧ F' 6 = .int .u64 (val ((l.take (k + 1)).drop i) : Int) ∧ F' 7 = .int .i64 ((i : Int) - 1) ∧ L' = [] ∧ i ≤ k + 1) (fun F' L' => (intOf (F' 7) + 1).toNat) ?_ ?_
                · refine ⟨k + 1, ?_⟩
                  have e0 : val ((l.take (k + 1)).drop (k + 1)) = 0 := by rw [List.drop_of_length_le (by rw [List.length_take]; omega)]; rfl
                  simp -implicitDefEqProofs (disch := first | omega | decide) only [seval, -Int.reducePow, -Nat.reducePow, cC, pv, binv, Nat.mul_one, undef, e0, g3, g4, g8]
                  exact congrArg (Value.int .i64) (by omega)
                · intro G9 L' hI
                  obtain ⟨i, q0, q5, q6, q7, rfl, hi⟩ := hI
                  have g9_0 := q0.trans g8_0
                  have g9_5 := q5.trans g8_5
                  have g9_6 := q6
                  have g9_7 := q7
                  clear q0 q5 q6 q7
                  have g9 := And.intro g9_0 (And.intro g9_5 (And.intro g9_6 g9_7))
                  refine cv_seq_k fun K hK => ?_
                  refine cv_seq_k fun K hK => ?_
                  refine cv_region_then rfl ?_
                  simp -implicitDefEqProofs (disch := first | omega | decide) only [seval, -Int.reducePow, -Nat.reducePow, cC, pv, binv, Nat.mul_one, undef, g3, g4, g8, g9]
                  refine hK _ _ ?_
                  clear hK K
                  refine cv_cond ?_
                  simp -implicitDefEqProofs (disch := first | omega | decide) only [seval, -Int.reducePow, -Nat.reducePow, cC, pv, binv, Nat.mul_one, undef, g3, g4, g8, g9]
                  refine ⟨fun hc => ?_, fun hc => ?_⟩
                  · refine cv_skip ?_
                    try simp only [blockQ, thenQ]
                    obtain ⟨j, rfl⟩ : ∃ j, i = j + 1 := ⟨i - 1, by simp at hc; omega⟩
                    obtain ⟨b0, off, rfl, hb0, -⟩ := hE.cells (by omega)
                    obtain ⟨x, hx⟩ := some_at (l := l) (i := j) (by omega)
                    have hxb := hb x (List.mem_of_getElem? hx)
                    have hx2 : (l.take (k + 1))[j]? = some x := by rw [List.getElem?_take, if_pos (by omega)]; exact hx
                    have hs := val_step hx2
                    have hle := val_drop_le (l.take (k + 1)) j
                    generalize val ((l.take (k + 1)).drop (j + 1)) = v at *
                    have e0 : ((j + 1 : Nat) : Int) - 1 = (j : Int) := by omega
                    have e1 : IntKind.u64.wrap ((v : Int) * 128) = ((v * 128 : Nat) : Int) := by rw [IntKind.wrap_u64]; omega
                    have e2 : IntKind.u64.wrap ((x : Int) % 128) = ((x % 128 : Nat) : Int) := by rw [IntKind.wrap_u64]; omega
                    have e3 : IntKind.u64.wrap (((v * 128 : Nat) : Int) + ((x % 128 : Nat) : Int)) = (val ((l.take (k + 1)).drop j) : Int) := by rw [IntKind.wrap_u64, hs]; omega
                    have e4 : IntKind.i64.wrap ((j : Int) - 1) = (j : Int) - 1 := wrap_in (by omega) (by omega)
                    refine hK _ _ ?_
                    clear hK K
                    refine cv_seq_k fun K hK => ?_
                    refine cv_block ?_
                    refine cv_region_q rfl ?_
                    simp -implicitDefEqProofs (disch := first | omega | decide) only [seval, -Int.reducePow, -Nat.reducePow, cC, pv, binv, Nat.mul_one, undef, e0, e1, g3, g4, g8, g9]
                    refine ⟨_, hE.ld1 (m := 1) (by kernel_rfl) (byt_get hx), fun tok htok => ?_⟩
                    subst htok
                    simp -implicitDefEqProofs (disch := first | omega | decide) only [seval, -Int.reducePow, -Nat.reducePow, cC, pv, binv, Nat.mul_one, undef, e1, e2, e3, g3, g4, g8, g9]
                    refine hK _ _ ?_
                    clear hK K
                    refine cv_region_then rfl ?_
                    simp -implicitDefEqProofs (disch := first | omega | decide) only [seval, -Int.reducePow, -Nat.reducePow, cC, pv, binv, Nat.mul_one, undef, e0, e4, g3, g4, g8, g9]
                    refine ⟨⟨j, ?_⟩, ?_⟩
                    · simp -implicitDefEqProofs (disch := first | omega | decide) only [seval, -Int.reducePow, -Nat.reducePow, cC, pv, binv, Nat.mul_one, undef, g3, g4, g8, g9]
                      omega
                    · simp only [intOf]; omega
                  · refine cv_exit ?_
                    simp only [blockQ, thenQ, if_true, ite_true]
                    clear hK K
                    refine hK _ _ ?_
                    clear hK K
                    obtain rfl : i = 0 := by simp at hc; omega
                    refine cv_seq_k fun K hK => ?_
                    refine cv_region_then rfl ?_
                    simp -implicitDefEqProofs (disch := first | omega | decide) only [seval, -Int.reducePow, -Nat.reducePow, cC, pv, binv, Nat.mul_one, undef, wrap_in, g3, g4, g8, g9]
                    refine hK _ _ ?_
                    clear hK K
                    refine cv_ret ⟨_, (by simp -implicitDefEqProofs (disch := first | omega | decide) only [seval, -Int.reducePow, -Nat.reducePow, cC, pv, binv, Nat.mul_one, undef, g3, g4, g8, g9]; rfl), fun w hw => ?_⟩
                    rw [hU]
                    exact ⟨rfl, hw.below⟩
end Go.Proofs.YtlbmnioibiomfaaGreat
/- The reference's DecodeType and SameType; same. -/
namespace Go.Proofs.YtlbmnioibiomfaaGreat
open Go.RowKit Go.Shelf
set_option linter.unusedVariables false
set_option linter.unusedSimpArgs false
set_option maxRecDepth 100000
def iV (r : Nat × Nat × Int) : Value := .tuple #[.int .i64 (r.1 : Int), .int .i64 (r.2.1 : Int), .int .i64 r.2.2]
set_option maxRecDepth 100000 in
theorem sRDec1 : type_of% (And.intro (And.intro (And.intro @fBox.eq_1 @tBox.eq_1) (And.intro @fdV.eq_1 (And.intro @tyV.eq_1 @rdBox.eq_1))) (And.intro (And.intro @rdCells.eq_1 @uV.eq_1) (And.intro @iV.eq_1 (And.intro @Nat.mul_one @decV.eq_1)))) := (And.intro (And.intro (And.intro @fBox.eq_1 @tBox.eq_1) (And.intro @fdV.eq_1 (And.intro @tyV.eq_1 @rdBox.eq_1))) (And.intro (And.intro @rdCells.eq_1 @uV.eq_1) (And.intro @iV.eq_1 (And.intro @Nat.mul_one @decV.eq_1))))
set_option maxHeartbeats 2000000 in
theorem small_any (A : Option Addr) (n c : Nat) (l : List Nat) (p most : Nat) (W : World) (hE : Sl W W.heap.size 1 A n c (byt l)) (hb : ∀ x ∈ l, x < 256) (hp : p ≤ n) (hn : n ≤ 4611686018427387904) (hm : most ≤ 1000000) :
    Calls Tryz.prog 96 #[.slice A n c, .int .i64 (p : Int), .int .u64 (most : Int)] W fun e w' => e = .returned (iV (smF l p most)) ∧ Below W.heap.size W w' := by
  have hln : l.length = n := byt_row hE.len
  have hcap := hE.cap
  have hmax := hE.max
  have hbd := drop_byte hb p
  obtain ⟨q, hq⟩ : ∃ q, uD 0 (l.drop p) = q := ⟨_, rfl⟩
  have hqc := uD_cases (l.drop p) 0 (by omega) hbd
  rw [hq, List.length_drop, hln] at hqc
  refine calls_cv (M := []) (n := 31) [.tmp 6, .tmp 7, .tmp 8] rfl Tryz.func96 rfl rfl (Nat.le_of_ble_eq_true rfl) (St.nil _ _) ?_
  refine cv_seq_k fun K hK => ?_
  refine cv_region_then rfl ?_
  simp -implicitDefEqProofs (disch := first | omega | decide) only [seval, -Int.reducePow, -Nat.reducePow, cC, pv, binv, sRDec1, undef]
  refine hK _ _ ?_
  clear hK K
  refine cv_seq_k fun K hK => ?_
  refine cv_region_then rfl ?_
  simp -implicitDefEqProofs (disch := first | omega | decide) only [seval, -Int.reducePow, -Nat.reducePow, cC, pv, binv, sRDec1, undef]
  refine callV_ret (fun w hw => ruint_any (sbase c p 1 A) (n - p) (c - p) (l.drop p) w ((hE.at hw).bdrop hp) hbd) ?_
  try simp -implicitDefEqProofs (disch := first | omega | decide) only [seval, -Int.reducePow, -Nat.reducePow, cC, pv, binv, sRDec1, undef, hq]
  refine hK _ _ ?_
  clear hK K
  refine cv_seq_k fun K hK => ?_
  refine cv_seq_k fun K hK => ?_
  refine cv_region_then rfl ?_
  simp -implicitDefEqProofs (disch := first | omega | decide) only [seval, -Int.reducePow, -Nat.reducePow, cC, pv, binv, sRDec1, undef]
  refine hK _ _ ?_
  clear hK K
  refine cv_cond ?_
  simp -implicitDefEqProofs (disch := first | omega | decide) only [seval, -Int.reducePow, -Nat.reducePow, cC, pv, binv, sRDec1, undef]
  refine ⟨fun hc => ?_, fun hc => ?_⟩
  · have h0 : ¬ q.2.2 = 0 := by simpa using hc
    refine cv_seq_k fun K hK => ?_
    refine cv_region_then rfl ?_
    simp -implicitDefEqProofs (disch := first | omega | decide) only [seval, -Int.reducePow, -Nat.reducePow, cC, pv, binv, sRDec1, undef]
    refine hK _ _ ?_
    clear hK K
    refine cv_ret ⟨_, (by simp -implicitDefEqProofs (disch := first | omega | decide) only [seval, -Int.reducePow, -Nat.reducePow, cC, pv, binv, sRDec1, undef]; rfl), fun w hw => ?_⟩
    exact ⟨by unfold smF; rw [hq, if_neg h0]; rfl, hw.below⟩
  have h0 : q.2.2 = 0 := by simpa using hc
  refine cv_skip ?_
  try simp only [blockQ, thenQ]
  refine hK _ _ ?_
  clear hK K
  refine cv_seq_k fun K hK => ?_
  refine cv_seq_k fun K hK => ?_
  refine cv_region_then rfl ?_
  simp -implicitDefEqProofs (disch := first | omega | decide) only [seval, -Int.reducePow, -Nat.reducePow, cC, pv, binv, sRDec1, undef]
  refine hK _ _ ?_
  clear hK K
  refine cv_cond ?_
  simp -implicitDefEqProofs (disch := first | omega | decide) only [seval, -Int.reducePow, -Nat.reducePow, cC, pv, binv, sRDec1, undef]
  refine ⟨fun hc => ?_, fun hc => ?_⟩
  · have hm1 : most < q.1 := by have := of_decide_eq_true ‹_›; omega
    refine cv_seq_k fun K hK => ?_
    refine cv_region_then rfl ?_
    simp -implicitDefEqProofs (disch := first | omega | decide) only [seval, -Int.reducePow, -Nat.reducePow, cC, pv, binv, sRDec1, undef]
    refine hK _ _ ?_
    clear hK K
    refine cv_ret ⟨_, (by simp -implicitDefEqProofs (disch := first | omega | decide) only [seval, -Int.reducePow, -Nat.reducePow, cC, pv, binv, sRDec1, undef]; rfl), fun w hw => ?_⟩
    exact ⟨by unfold smF; rw [hq, if_pos h0, if_pos hm1]; rfl, hw.below⟩
  have hm1 : ¬ most < q.1 := by have := of_decide_eq_false ‹_›; omega
  have hql : p + q.2.1 ≤ n := by
    rcases hqc with h | h
    · omega
    · have := h.2.2.2.2.1; omega
  have e9 : IntKind.i64.wrap ((p : Int) + (q.2.1 : Int)) = ((p + q.2.1 : Nat) : Int) := by rw [wrap_in (by omega) (by omega)]; omega
  have e8 : IntKind.i64.wrap (q.1 : Int) = (q.1 : Int) := wrap_in (by omega) (by omega)
  refine cv_skip ?_
  try simp only [blockQ, thenQ]
  refine hK _ _ ?_
  clear hK K
  refine cv_seq_k fun K hK => ?_
  refine cv_region_then rfl ?_
  simp -implicitDefEqProofs (disch := first | omega | decide) only [seval, -Int.reducePow, -Nat.reducePow, cC, pv, binv, sRDec1, undef, e9, e8]
  refine hK _ _ ?_
  clear hK K
  refine cv_ret ⟨_, (by simp -implicitDefEqProofs (disch := first | omega | decide) only [seval, -Int.reducePow, -Nat.reducePow, cC, pv, binv, sRDec1, undef]; rfl), fun w hw => ?_⟩
  exact ⟨by unfold smF; rw [hq, if_pos h0, if_neg hm1]; rfl, hw.below⟩
set_option maxHeartbeats 4000000 in
theorem rdecode_any (A : Option Addr) (n c : Nat) (l : List Nat) (W : World) (hE : Sl W W.heap.size 1 A n c (byt l)) (hb : ∀ x ∈ l, x < 256) (hn : n ≤ 4611686018427387904) :
    Calls Tryz.prog 76 #[.slice A n c] W (rowP 89 2 (decV (decF l)) (cl fdc (decF l).2.1) W) := by
  have hln : l.length = n := byt_row hE.len
  obtain ⟨q1, h1⟩ : ∃ q, smF l 0 65536 = q := ⟨_, rfl⟩
  have k1 := smF_cases hb (p := 0) (most := 65536) (by omega)
  rw [h1] at k1
  refine calls_cv2 (M := []) (n := 82) [.cell 2 67, .tmp 3, .tmp 4] rfl Tryz.func76 rfl rfl (Nat.le_of_ble_eq_true rfl) (St.nil _ _) ?_
  refine cv_seq_k fun K hK => ?_
  refine cv_region_then rfl ?_
  simp -implicitDefEqProofs (disch := first | omega | decide) only [seval, -Int.reducePow, -Nat.reducePow, cC, pv, binv, sRDec1, undef]
  intro b2 hb2
  refine hK _ _ ?_
  clear hK K
  refine cv_seq_k fun K hK => ?_
  refine cv_region_then rfl ?_
  simp -implicitDefEqProofs (disch := first | omega | decide) only [seval, -Int.reducePow, -Nat.reducePow, cC, pv, binv, sRDec1, undef]
  refine callV_ret (fun w hw => small_any A n c l 0 65536 w (hE.at hw) hb (by omega) hn (by omega)) ?_
  try simp -implicitDefEqProofs (disch := first | omega | decide) only [seval, -Int.reducePow, -Nat.reducePow, cC, pv, binv, sRDec1, undef, h1]
  refine hK _ _ ?_
  clear hK K
  refine cv_seq_k fun K hK => ?_
  refine cv_seq_k fun K hK => ?_
  refine cv_region_then rfl ?_
  simp -implicitDefEqProofs (disch := first | omega | decide) only [seval, -Int.reducePow, -Nat.reducePow, cC, pv, binv, sRDec1, undef]
  refine hK _ _ ?_
  clear hK K
  refine cv_cond ?_
  simp -implicitDefEqProofs (disch := first | omega | decide) only [seval, -Int.reducePow, -Nat.reducePow, cC, pv, binv, sRDec1, undef]
  refine ⟨fun hc => ?_, fun hc => ?_⟩
  · have h0 : ¬ q1.2.2 = 0 := by simpa using hc
    have hD : decF l = (0, [], 0, q1.2.2) := by unfold decF; rw [h1, if_neg h0]
    refine cv_seq_k fun K hK => ?_
    refine cv_region_then rfl ?_
    simp -implicitDefEqProofs (disch := first | omega | decide) only [seval, -Int.reducePow, -Nat.reducePow, cC, pv, binv, sRDec1, undef]
    refine hK _ _ ?_
    clear hK K
    refine cv_ret ?_
    simp -implicitDefEqProofs (disch := first | omega | decide) only [seval, -Int.reducePow, -Nat.reducePow, cC, pv, binv, sRDec1, undef, retQ2, ressV, packV]
    intro w hw
    rw [hD]
    exact ⟨none, 0, 0, rfl, World.ownsRow_nil _ _ _ _, hw.below⟩
  have h0 : q1.2.2 = 0 := by simpa using hc
  have k1 := k1.resolve_left fun h => h.1 h0
  obtain ⟨q2, h2⟩ : ∃ q, smF l q1.2.1 32 = q := ⟨_, rfl⟩
  obtain ⟨q3, h3⟩ : ∃ q, smF l q1.2.1 65536 = q := ⟨_, rfl⟩
  have k3 := smF_cases hb (p := q1.2.1) (most := 65536) k1.2.2.2.1
  rw [h3] at k3
  have h23 : q2 = if q3.2.2 = 0 then (if 32 < q3.1 then (0, 0, 4) else q3) else q3 := by
    rw [← h2, ← h3]
    unfold smF
    by_cases e : (uD 0 (l.drop q1.2.1)).2.2 = 0
    · simp only [if_pos e]
      by_cases e2 : 65536 < (uD 0 (l.drop q1.2.1)).1
      · rw [if_pos e2, if_pos (by omega)]
        simp
      · rw [if_neg e2]
        simp
    · simp only [if_neg e]
  refine cv_skip ?_
  try simp only [blockQ, thenQ]
  refine hK _ _ ?_
  clear hK K
  refine cv_seq_k fun K hK => ?_
  refine cv_region_then rfl ?_
  simp -implicitDefEqProofs (disch := first | omega | decide) only [seval, -Int.reducePow, -Nat.reducePow, cC, pv, binv, sRDec1, undef]
  refine callV_ret (fun w hw => small_any A n c l q1.2.1 65536 w (hE.at hw) hb (by omega) hn (by omega)) ?_
  try simp -implicitDefEqProofs (disch := first | omega | decide) only [seval, -Int.reducePow, -Nat.reducePow, cC, pv, binv, sRDec1, undef, h3]
  refine hK _ _ ?_
  clear hK K
  refine cv_seq_k fun K hK => ?_
  refine cv_seq_k fun K hK => ?_
  refine cv_region_then rfl ?_
  simp -implicitDefEqProofs (disch := first | omega | decide) only [seval, -Int.reducePow, -Nat.reducePow, cC, pv, binv, sRDec1, undef]
  refine hK _ _ ?_
  clear hK K
  refine cv_cond ?_
  simp -implicitDefEqProofs (disch := first | omega | decide) only [seval, -Int.reducePow, -Nat.reducePow, cC, pv, binv, sRDec1, undef]
  refine ⟨fun hc => ?_, fun hc => ?_⟩
  · have hz : ¬ q3.2.2 = 0 := by simpa using ‹(!decide (q3.2.2 = 0)) = true›
    rw [if_neg hz] at h23
    have hD : decF l = (0, [], 0, q3.2.2) := by unfold decF; rw [h1, h2, if_pos h0, h23, if_neg hz]
    refine cv_seq_k fun K hK => ?_
    refine cv_region_then rfl ?_
    simp -implicitDefEqProofs (disch := first | omega | decide) only [seval, -Int.reducePow, -Nat.reducePow, cC, pv, binv, sRDec1, undef]
    refine hK _ _ ?_
    clear hK K
    refine cv_ret ?_
    simp -implicitDefEqProofs (disch := first | omega | decide) only [seval, -Int.reducePow, -Nat.reducePow, cC, pv, binv, sRDec1, undef, retQ2, ressV, packV]
    intro w hw
    rw [hD]
    exact ⟨none, 0, 0, rfl, World.ownsRow_nil _ _ _ _, hw.below⟩
  have hz : q3.2.2 = 0 := by simpa using ‹(!decide (q3.2.2 = 0)) = false›
  rw [if_pos hz] at h23
  have k3 := k3.resolve_left fun h => h.1 hz
  refine cv_skip ?_
  try simp only [blockQ, thenQ]
  refine hK _ _ ?_
  clear hK K
  refine cv_seq_k fun K hK => ?_
  refine cv_seq_k fun K hK => ?_
  refine cv_region_then rfl ?_
  simp -implicitDefEqProofs (disch := first | omega | decide) only [seval, -Int.reducePow, -Nat.reducePow, cC, pv, binv, sRDec1, undef]
  refine hK _ _ ?_
  clear hK K
  refine cv_cond ?_
  simp -implicitDefEqProofs (disch := first | omega | decide) only [seval, -Int.reducePow, -Nat.reducePow, cC, pv, binv, sRDec1, undef]
  refine ⟨fun hc => ?_, fun hc => ?_⟩
  · have hm : 32 < q3.1 := by have := of_decide_eq_true ‹_›; omega
    rw [if_pos hm] at h23
    have hD : decF l = (0, [], 0, 4) := by unfold decF; rw [h1, h2, if_pos h0, h23, if_neg (by simp)]
    refine cv_seq_k fun K hK => ?_
    refine cv_region_then rfl ?_
    simp -implicitDefEqProofs (disch := first | omega | decide) only [seval, -Int.reducePow, -Nat.reducePow, cC, pv, binv, sRDec1, undef]
    refine hK _ _ ?_
    clear hK K
    refine cv_ret ?_
    simp -implicitDefEqProofs (disch := first | omega | decide) only [seval, -Int.reducePow, -Nat.reducePow, cC, pv, binv, sRDec1, undef, retQ2, ressV, packV]
    intro w hw
    rw [hD]
    exact ⟨none, 0, 0, rfl, World.ownsRow_nil _ _ _ _, hw.below⟩
  have hm : ¬ 32 < q3.1 := by have := of_decide_eq_false ‹_›; omega
  rw [if_neg hm] at h23
  refine cv_skip ?_
  try simp only [blockQ, thenQ]
  refine hK _ _ ?_
  clear hK K
  refine cv_seq_k fun K hK => ?_
  refine cv_region_then rfl ?_
  simp -implicitDefEqProofs (disch := first | omega | decide) only [seval, -Int.reducePow, -Nat.reducePow, cC, pv, binv, sRDec1, undef]
  intro b9 hb9 h9
  refine hK _ _ ?_
  clear hK K
  refine cv_seq_k fun K hK => ?_
  refine cv_seq_k fun K hK => ?_
  refine cv_region_then rfl ?_
  simp -implicitDefEqProofs (disch := first | omega | decide) only [seval, -Int.reducePow, -Nat.reducePow, cC, pv, binv, sRDec1, undef]
  refine hK _ _ ?_
  clear hK K
  refine cv_gen fun G1 hG => ?_
  have g1_0 := congrFun hG 0
  have g1_2 := congrFun hG 2
  have g1_6 := congrFun hG 6
  have g1_8 := congrFun hG 8
  have g1_9 := congrFun hG 9
  have g1_10 := congrFun hG 10
  clear hG
  try simp -implicitDefEqProofs (disch := first | omega | decide) only [seval, -Int.reducePow, -Nat.reducePow, cC, pv, binv, sRDec1, undef] at g1_0 g1_2 g1_6 g1_8 g1_9 g1_10
  have g1 := And.intro g1_0 (And.intro g1_2 (And.intro g1_6 (And.intro g1_8 (And.intro g1_9 g1_10))))
  refine cv_block ?_
  refine cv_nil 89 2 ?_
  refine cv_loop (fun F' L' => ∃ (j p c6 : Nat) (A6 : Option Addr) (gs : List Fd), F' 0 = G1 0 ∧ F' 2 = G1 2 ∧ F' 6 = .int .i64 (p : Int) ∧ F' 8 = G1 8 ∧ F' 9 = G1 9 ∧ F' 10 = .int .i64 (j : Int) ∧ L' = [.row (.slice A6 j c6) 89 2 j (cl fdc gs), tBox b9 (q1.1 : Int) A6 j c6, tBox b2 0 none 0 0] ∧ dInv l q3.1 q3.2.1 j gs p) (fun F' L' => 40 - (intOf (F' 10)).toNat) ?_ ?_
  · refine ⟨0, q3.2.1, 0, none, [], ?_⟩
    simp -implicitDefEqProofs (disch := first | omega | decide) only [seval, -Int.reducePow, -Nat.reducePow, cC, pv, binv, sRDec1, undef, hz, g1]
    exact ⟨rfl, dInv_start k3.2.2.2.1⟩
  intro G2 L' hI
  obtain ⟨j, p, c6, A6, gs, q0, q2, q6, q8, q9, q10, rfl, hI⟩ := hI
  have g2_0 := q0.trans g1_0
  have g2_2 := q2.trans g1_2
  have g2_6 := q6
  have g2_8 := q8.trans g1_8
  have g2_9 := q9.trans g1_9
  have g2_10 := q10
  clear q0 q2 q6 q8 q9 q10
  have g2 := And.intro g2_0 (And.intro g2_2 (And.intro g2_6 (And.intro g2_8 (And.intro g2_9 g2_10))))
  have hI1 := hI.1
  have hp := hI.2.2.1
  refine cv_seq_k fun K hK => ?_
  refine cv_seq_k fun K hK => ?_
  refine cv_region_then rfl ?_
  simp -implicitDefEqProofs (disch := first | omega | decide) only [seval, -Int.reducePow, -Nat.reducePow, cC, pv, binv, sRDec1, undef, g1, g2]
  refine hK _ _ ?_
  clear hK K
  refine cv_cond ?_
  simp -implicitDefEqProofs (disch := first | omega | decide) only [seval, -Int.reducePow, -Nat.reducePow, cC, pv, binv, sRDec1, undef, g1, g2]
  refine ⟨fun hc => ?_, fun hc => ?_⟩
  · refine cv_skip ?_
    try simp only [blockQ, thenQ]
    have hj : j < q3.1 := by have := of_decide_eq_true ‹_›; omega
    obtain ⟨s1, e1⟩ : ∃ q, smF l p 65536 = q := ⟨_, rfl⟩
    have m1 := smF_cases hb (most := 65536) hp
    rw [e1] at m1
    refine hK _ _ ?_
    clear hK K
    refine cv_seq_k fun K hK => ?_
    refine cv_block ?_
    refine cv_seq_k fun K hK => ?_
    refine cv_region_then rfl ?_
    simp -implicitDefEqProofs (disch := first | omega | decide) only [seval, -Int.reducePow, -Nat.reducePow, cC, pv, binv, sRDec1, undef, g1, g2]
    intro b11 hb11 h11
    refine hK _ _ ?_
    clear hK K
    refine cv_seq_k fun K hK => ?_
    refine cv_region_then rfl ?_
    simp -implicitDefEqProofs (disch := first | omega | decide) only [seval, -Int.reducePow, -Nat.reducePow, cC, pv, binv, sRDec1, undef, g1, g2]
    refine callV_ret (fun w hw => small_any A n c l p 65536 w (hE.at hw) hb (by omega) hn (by omega)) ?_
    try simp -implicitDefEqProofs (disch := first | omega | decide) only [seval, -Int.reducePow, -Nat.reducePow, cC, pv, binv, sRDec1, undef, e1, g1, g2]
    refine hK _ _ ?_
    clear hK K
    refine cv_seq_k fun K hK => ?_
    refine cv_seq_k fun K hK => ?_
    refine cv_region_then rfl ?_
    simp -implicitDefEqProofs (disch := first | omega | decide) only [seval, -Int.reducePow, -Nat.reducePow, cC, pv, binv, sRDec1, undef, g1, g2]
    refine hK _ _ ?_
    clear hK K
    refine cv_cond ?_
    simp -implicitDefEqProofs (disch := first | omega | decide) only [seval, -Int.reducePow, -Nat.reducePow, cC, pv, binv, sRDec1, undef, g1, g2]
    refine ⟨fun hc => ?_, fun hc => ?_⟩
    · have hz1 : ¬ s1.2.2 = 0 := by simpa using ‹(!decide (s1.2.2 = 0)) = true›
      have hr := dInv_err1 hI hj (by rw [e1]; exact hz1)
      rw [e1] at hr
      have hD : decF l = (0, [], 0, s1.2.2) := by unfold decF; rw [h1, h2, if_pos h0, h23, if_pos hz, hr, if_neg hz1]
      refine cv_seq_k fun K hK => ?_
      refine cv_region_then rfl ?_
      simp -implicitDefEqProofs (disch := first | omega | decide) only [seval, -Int.reducePow, -Nat.reducePow, cC, pv, binv, sRDec1, undef, g1, g2]
      refine hK _ _ ?_
      clear hK K
      refine cv_ret ?_
      simp -implicitDefEqProofs (disch := first | omega | decide) only [seval, -Int.reducePow, -Nat.reducePow, cC, pv, binv, sRDec1, undef, retQ2, ressV, packV, g1, g2]
      intro w hw
      rw [hD]
      exact ⟨none, 0, 0, rfl, World.ownsRow_nil _ _ _ _, hw.below⟩
    have hz1 : s1.2.2 = 0 := by simpa using ‹(!decide (s1.2.2 = 0)) = false›
    have m1 := m1.resolve_left fun h => h.1 hz1
    obtain ⟨s2, e2⟩ : ∃ q, smF l s1.2.1 65536 = q := ⟨_, rfl⟩
    have m2 := smF_cases hb (most := 65536) m1.2.2.2.1
    rw [e2] at m2
    refine cv_skip ?_
    try simp only [blockQ, thenQ]
    refine hK _ _ ?_
    clear hK K
    refine cv_seq_k fun K hK => ?_
    refine cv_region_then rfl ?_
    simp -implicitDefEqProofs (disch := first | omega | decide) only [seval, -Int.reducePow, -Nat.reducePow, cC, pv, binv, sRDec1, undef, g1, g2]
    refine callV_ret (fun w hw => small_any A n c l s1.2.1 65536 w (hE.at hw) hb (by omega) hn (by omega)) ?_
    try simp -implicitDefEqProofs (disch := first | omega | decide) only [seval, -Int.reducePow, -Nat.reducePow, cC, pv, binv, sRDec1, undef, e2, g1, g2]
    refine hK _ _ ?_
    clear hK K
    refine cv_seq_k fun K hK => ?_
    refine cv_seq_k fun K hK => ?_
    refine cv_region_then rfl ?_
    simp -implicitDefEqProofs (disch := first | omega | decide) only [seval, -Int.reducePow, -Nat.reducePow, cC, pv, binv, sRDec1, undef, g1, g2]
    refine hK _ _ ?_
    clear hK K
    refine cv_cond ?_
    simp -implicitDefEqProofs (disch := first | omega | decide) only [seval, -Int.reducePow, -Nat.reducePow, cC, pv, binv, sRDec1, undef, g1, g2]
    refine ⟨fun hc => ?_, fun hc => ?_⟩
    · have hz2 : ¬ s2.2.2 = 0 := by simpa using ‹(!decide (s2.2.2 = 0)) = true›
      have hr := dInv_err2 hI hj (by rw [e1]; exact hz1) (by rw [e1, e2]; exact hz2)
      rw [e1, e2] at hr
      have hD : decF l = (0, [], 0, s2.2.2) := by unfold decF; rw [h1, h2, if_pos h0, h23, if_pos hz, hr, if_neg hz2]
      refine cv_seq_k fun K hK => ?_
      refine cv_region_then rfl ?_
      simp -implicitDefEqProofs (disch := first | omega | decide) only [seval, -Int.reducePow, -Nat.reducePow, cC, pv, binv, sRDec1, undef, g1, g2]
      refine hK _ _ ?_
      clear hK K
      refine cv_ret ?_
      simp -implicitDefEqProofs (disch := first | omega | decide) only [seval, -Int.reducePow, -Nat.reducePow, cC, pv, binv, sRDec1, undef, retQ2, ressV, packV, g1, g2]
      intro w hw
      rw [hD]
      exact ⟨none, 0, 0, rfl, World.ownsRow_nil _ _ _ _, hw.below⟩
    have hz2 : s2.2.2 = 0 := by simpa using ‹(!decide (s2.2.2 = 0)) = false›
    have hI2 := dInv_step hb hI hj (by rw [e1]; exact hz1) (by rw [e1, e2]; exact hz2)
    rw [e1, e2] at hI2
    refine cv_skip ?_
    try simp only [blockQ, thenQ]
    refine hK _ _ ?_
    clear hK K
    refine cv_region_q rfl ?_
    simp -implicitDefEqProofs (disch := first | omega | decide) only [seval, -Int.reducePow, -Nat.reducePow, cC, pv, binv, sRDec1, undef, g1, g2]
    intro b8 hb8 h8
    refine appV_at 2 tap65 rfl (fun w hw => src_blk (size := 2) (.head _) rfl hw) rfl (by omega) (by omega) ?_
    intro A' c' hl' hr'
    simp -implicitDefEqProofs (disch := first | omega | decide) only [seval, -Int.reducePow, -Nat.reducePow, cC, pv, binv, sRDec1, undef, g1, g2]
    refine hK _ _ ?_
    clear hK K
    refine cv_pick [0, 3, 4] (by decide) ?_
    simp only [pickL, nth]
    refine cv_region_then rfl ?_
    simp -implicitDefEqProofs (disch := first | omega | decide) only [seval, -Int.reducePow, -Nat.reducePow, cC, pv, binv, sRDec1, undef, wrap_in, g1, g2]
    refine ⟨⟨j + 1, s2.2.1, c', A', gs ++ [⟨(s1.1 : Int), (s2.1 : Int)⟩], ?_⟩, ?_⟩
    · simp -implicitDefEqProofs (disch := first | omega | decide) only [seval, -Int.reducePow, -Nat.reducePow, cC, pv, binv, sRDec1, undef, Int.natCast_add, cl_snoc, fdc, hz2, g1, g2]
      exact hI2
    · simp only [intOf]; omega
  refine cv_exit ?_
  simp only [blockQ, thenQ, if_true, ite_true]
  clear hK K
  refine hK _ _ ?_
  clear hK K
  have hj : j = q3.1 := by have := of_decide_eq_false ‹_›; omega
  subst hj
  have hr := inv_end hI.2.2.2
  have hD : decF l = if chk (q1.1 : Int) gs = 0 then ((q1.1 : Int), gs, p, 0) else (0, [], 0, chk (q1.1 : Int) gs) := by
    unfold decF
    rw [h1, h2, if_pos h0, h23, if_pos hz, hr, if_pos rfl]
  refine cv_gen fun G3 hG => ?_
  have g3_2 := congrFun hG 2
  have g3_6 := congrFun hG 6
  have g3_9 := congrFun hG 9
  clear hG
  try simp -implicitDefEqProofs (disch := first | omega | decide) only [seval, -Int.reducePow, -Nat.reducePow, cC, pv, binv, sRDec1, undef, g1, g2] at g3_2 g3_6 g3_9
  have g3 := And.intro g3_2 (And.intro g3_6 g3_9)
  refine cv_seq_k fun K hK => ?_
  refine cv_seq_k fun K hK => ?_
  refine cv_region_then rfl ?_
  simp -implicitDefEqProofs (disch := first | omega | decide) only [seval, -Int.reducePow, -Nat.reducePow, cC, pv, binv, sRDec1, undef, g1, g2, g3]
  refine callV_ret (fun w hw => rcheck_any A6 q3.1 c6 gs (q1.1 : Int) w (hw.slr 0 rfl)) ?_
  try simp -implicitDefEqProofs (disch := first | omega | decide) only [seval, -Int.reducePow, -Nat.reducePow, cC, pv, binv, sRDec1, undef, g1, g2, g3]
  refine hK _ _ ?_
  clear hK K
  refine cv_seq_k fun K hK => ?_
  refine cv_region_then rfl ?_
  simp -implicitDefEqProofs (disch := first | omega | decide) only [seval, -Int.reducePow, -Nat.reducePow, cC, pv, binv, sRDec1, undef, g1, g2, g3]
  refine hK _ _ ?_
  clear hK K
  refine cv_cond ?_
  simp -implicitDefEqProofs (disch := first | omega | decide) only [seval, -Int.reducePow, -Nat.reducePow, cC, pv, binv, sRDec1, undef, g1, g2, g3]
  refine ⟨fun hc => ?_, fun hc => ?_⟩
  · have hz : ¬ chk (q1.1 : Int) gs = 0 := by simpa using ‹(!decide (chk (q1.1 : Int) gs = 0)) = true›
    rw [if_neg hz] at hD
    refine cv_seq_k fun K hK => ?_
    refine cv_region_then rfl ?_
    simp -implicitDefEqProofs (disch := first | omega | decide) only [seval, -Int.reducePow, -Nat.reducePow, cC, pv, binv, sRDec1, undef, g1, g2, g3]
    refine hK _ _ ?_
    clear hK K
    refine cv_ret ?_
    simp -implicitDefEqProofs (disch := first | omega | decide) only [seval, -Int.reducePow, -Nat.reducePow, cC, pv, binv, sRDec1, undef, retQ2, ressV, packV, g1, g2, g3]
    intro w hw
    rw [hD]
    exact ⟨none, 0, 0, rfl, World.ownsRow_nil _ _ _ _, hw.below⟩
  have hz : chk (q1.1 : Int) gs = 0 := by simpa using ‹(!decide (chk (q1.1 : Int) gs = 0)) = false›
  rw [if_pos hz] at hD
  refine cv_skip ?_
  try simp only [blockQ, thenQ]
  refine hK _ _ ?_
  clear hK K
  refine cv_seq_k fun K hK => ?_
  refine cv_region_then rfl ?_
  simp -implicitDefEqProofs (disch := first | omega | decide) only [seval, -Int.reducePow, -Nat.reducePow, cC, pv, binv, sRDec1, undef, g1, g2, g3]
  refine hK _ _ ?_
  clear hK K
  refine cv_ret ?_
  simp -implicitDefEqProofs (disch := first | omega | decide) only [seval, -Int.reducePow, -Nat.reducePow, cC, pv, binv, sRDec1, undef, retQ2, ressV, packV, g1, g2, g3]
  intro w hw
  rw [hD]
  exact ⟨A6, q3.1, c6, rfl, hw.rowNew (by simp), hw.below⟩
end Go.Proofs.YtlbmnioibiomfaaGreat
/- The reference's instructions: Encode, Decode. -/
namespace Go.Proofs.YtlbmnioibiomfaaGreat
open Go.RowKit Go.Shelf
set_option linter.unusedVariables false
set_option linter.unusedSimpArgs false
set_option maxRecDepth 100000
set_option maxRecDepth 100000 in
theorem sRInsE1 : type_of% (And.intro (And.intro @iBox.eq_1 @insV.eq_1) (And.intro @uV.eq_1 @Nat.mul_one)) := (And.intro (And.intro @iBox.eq_1 @insV.eq_1) (And.intro @uV.eq_1 @Nat.mul_one))
set_option maxHeartbeats 1000000 in
theorem r_ienc_any (i : Ins) (W : World) (hx : i.arg < 18446744073709551616) : Calls Tryz.prog 24 #[insV i] W (rowP 5 1 (fun v => .tuple #[v, .int .i64 i.err]) (byt (encIE i)) W) := by
  refine calls_cv (M := []) (n := 23) [.tmp 2, .tmp 3] rfl Tryz.func24 rfl rfl (Nat.le_of_ble_eq_true rfl) (St.nil _ _) ?_
  refine cv_seq_k fun K hK => ?_
  refine cv_region_then rfl ?_
  simp -implicitDefEqProofs (disch := first | omega | decide) only [seval, -Int.reducePow, -Nat.reducePow, cC, pv, binv, sRInsE1, undef]
  intro b hb
  refine hK _ _ ?_
  clear hK K
  refine cv_gen fun G1 hG => ?_
  have g1_1 := congrFun hG 1
  clear hG
  try simp -implicitDefEqProofs (disch := first | omega | decide) only [seval, -Int.reducePow, -Nat.reducePow, cC, pv, binv, sRInsE1, undef] at g1_1
  have g1 := g1_1
  refine cv_seq_k fun K hK => ?_
  refine cv_seq_k fun K hK => ?_
  refine cv_region_then rfl ?_
  simp -implicitDefEqProofs (disch := first | omega | decide) only [seval, -Int.reducePow, -Nat.reducePow, cC, pv, binv, sRInsE1, undef, g1]
  refine callV_ret (fun w hw => r_icheck_any i w) ?_
  try simp -implicitDefEqProofs (disch := first | omega | decide) only [seval, -Int.reducePow, -Nat.reducePow, cC, pv, binv, sRInsE1, undef, g1]
  refine hK _ _ ?_
  clear hK K
  refine cv_seq_k fun K hK => ?_
  refine cv_region_then rfl ?_
  simp -implicitDefEqProofs (disch := first | omega | decide) only [seval, -Int.reducePow, -Nat.reducePow, cC, pv, binv, sRInsE1, undef, g1]
  refine hK _ _ ?_
  clear hK K
  refine cv_cond ?_
  simp -implicitDefEqProofs (disch := first | omega | decide) only [seval, -Int.reducePow, -Nat.reducePow, cC, pv, binv, sRInsE1, undef, g1]
  refine ⟨fun hc => ?_, fun hc => ?_⟩
  · have hz : ¬ i.err = 0 := by simpa using hc
    refine cv_seq_k fun K hK => ?_
    refine cv_region_then rfl ?_
    simp -implicitDefEqProofs (disch := first | omega | decide) only [seval, -Int.reducePow, -Nat.reducePow, cC, pv, binv, sRInsE1, undef, g1]
    refine hK _ _ ?_
    clear hK K
    refine cv_ret ⟨_, (by simp -implicitDefEqProofs (disch := first | omega | decide) only [seval, -Int.reducePow, -Nat.reducePow, cC, pv, binv, sRInsE1, undef, g1]; rfl), fun w hw => ?_⟩
    exact ⟨none, 0, 0, rfl, by unfold encIE; rw [if_neg hz]; exact World.ownsRow_nil _ _ _ _, hw.below⟩
  have hz : i.err = 0 := by simpa using hc
  have hz2 := Ins.err_zero hz
  have hE : encIE i = encI i := by unfold encIE; rw [if_pos hz]
  have e1 : IntKind.u8.wrap i.op = ((i.op.toNat : Nat) : Int) := by
    have := hz2.1
    rw [IntKind.wrap_u8]
    omega
  refine cv_skip ?_
  try simp only [blockQ, thenQ]
  refine hK _ _ ?_
  clear hK K
  refine cv_seq_k fun K hK => ?_
  refine cv_region_then rfl ?_
  simp -implicitDefEqProofs (disch := first | omega | decide) only [seval, -Int.reducePow, -Nat.reducePow, cC, pv, binv, sRInsE1, undef, e1, g1]
  intro b5 hb5 h5
  refine hK _ _ ?_
  clear hK K
  refine cv_gen fun G2 hG => ?_
  have g2_1 := congrFun hG 1
  have g2_5 := congrFun hG 5
  clear hG
  try simp -implicitDefEqProofs (disch := first | omega | decide) only [seval, -Int.reducePow, -Nat.reducePow, cC, pv, binv, sRInsE1, undef, g1] at g2_1 g2_5
  have g2 := And.intro g2_1 g2_5
  have hb1 : byt [i.op.toNat] = [.int .u8 ((i.op.toNat : Nat) : Int)] := rfl
  refine cv_seq_k fun K hK => ?_
  by_cases ha : argP i.op
  · have ha' : decide (argP i.op) = true := decide_eq_true ha
    have hE2 : encI i = [i.op.toNat] ++ putU i.arg := by unfold encI; rw [if_pos ha]; rfl
    refine cv_seq_k fun K hK => ?_
    refine cv_region_then rfl ?_
    simp -implicitDefEqProofs (disch := first | omega | decide) only [seval, -Int.reducePow, -Nat.reducePow, cC, pv, binv, sRInsE1, undef, g2]
    refine callV_ret (fun w hw => r_hasArg_any i.op w) ?_
    try simp -implicitDefEqProofs (disch := first | omega | decide) only [seval, -Int.reducePow, -Nat.reducePow, cC, pv, binv, sRInsE1, undef, ha', g2]
    refine hK _ _ ?_
    clear hK K
    refine cv_cond ?_
    simp -implicitDefEqProofs (disch := first | omega | decide) only [seval, -Int.reducePow, -Nat.reducePow, cC, pv, binv, sRInsE1, undef, g2]
    refine cv_region_q rfl ?_
    simp -implicitDefEqProofs (disch := first | omega | decide) only [seval, -Int.reducePow, -Nat.reducePow, cC, pv, binv, sRInsE1, undef, g2]
    refine callV_row (fun A' n' c' => .slice A' n' c') (fun w hw => rput_any (some ⟨b5, 0, none⟩) 1 1 [i.op.toNat] i.arg w (Sl.of_blk hw (.head _) rfl (by omega)) (by omega) hx) ?_
    intro A1 n1 c1 hl1 _
    simp -implicitDefEqProofs (disch := first | omega | decide) only [seval, -Int.reducePow, -Nat.reducePow, cC, pv, binv, sRInsE1, undef, g2]
    refine hK _ _ ?_
    clear hK K
    refine cv_seq_k fun K hK => ?_
    refine cv_region_then rfl ?_
    simp -implicitDefEqProofs (disch := first | omega | decide) only [seval, -Int.reducePow, -Nat.reducePow, cC, pv, binv, sRInsE1, undef, g2]
    refine hK _ _ ?_
    clear hK K
    refine cv_ret ⟨_, (by simp -implicitDefEqProofs (disch := first | omega | decide) only [seval, -Int.reducePow, -Nat.reducePow, cC, pv, binv, sRInsE1, undef, g2]; rfl), fun w hw => ?_⟩
    exact ⟨A1, n1, c1, by rw [hz], by rw [hE, hE2]; exact hw.rowNew (by simp), hw.below⟩
  · have ha' : decide (argP i.op) = false := decide_eq_false ha
    have hE2 : encI i = [i.op.toNat] := by unfold encI; rw [if_neg ha]
    refine cv_seq_k fun K hK => ?_
    refine cv_region_then rfl ?_
    simp -implicitDefEqProofs (disch := first | omega | decide) only [seval, -Int.reducePow, -Nat.reducePow, cC, pv, binv, sRInsE1, undef, g2]
    refine callV_ret (fun w hw => r_hasArg_any i.op w) ?_
    try simp -implicitDefEqProofs (disch := first | omega | decide) only [seval, -Int.reducePow, -Nat.reducePow, cC, pv, binv, sRInsE1, undef, ha', g2]
    refine hK _ _ ?_
    clear hK K
    refine cv_cond ?_
    simp -implicitDefEqProofs (disch := first | omega | decide) only [seval, -Int.reducePow, -Nat.reducePow, cC, pv, binv, sRInsE1, undef, g2]
    refine cv_skip ?_
    try simp only [blockQ, thenQ]
    refine hK _ _ ?_
    clear hK K
    refine cv_seq_k fun K hK => ?_
    refine cv_region_then rfl ?_
    simp -implicitDefEqProofs (disch := first | omega | decide) only [seval, -Int.reducePow, -Nat.reducePow, cC, pv, binv, sRInsE1, undef, g2]
    refine hK _ _ ?_
    clear hK K
    refine cv_ret ⟨_, (by simp -implicitDefEqProofs (disch := first | omega | decide) only [seval, -Int.reducePow, -Nat.reducePow, cC, pv, binv, sRInsE1, undef, g2]; rfl), fun w hw => ?_⟩
    have hr := hw.blk_row (size := 1) (n := 1) rfl (by omega)
    exact ⟨some ⟨b5, 0, none⟩, 1, 1, by rw [hz], by rw [hE, hE2]; exact hr.rowNew (by simp), hw.below⟩
set_option maxRecDepth 100000 in
theorem sRInsE2 : type_of% (And.intro (And.intro @iBox.eq_1 @insV.eq_1) (And.intro @uV.eq_1 (And.intro @Nat.mul_one @diV.eq_1))) := (And.intro (And.intro @iBox.eq_1 @insV.eq_1) (And.intro @uV.eq_1 (And.intro @Nat.mul_one @diV.eq_1)))
set_option maxHeartbeats 1000000 in
theorem r_dec_any (A : Option Addr) (n c : Nat) (l : List Nat) (W : World) (hE : Sl W W.heap.size 1 A n c (byt l)) (hb : ∀ x ∈ l, x < 256) :
    Calls Tryz.prog 77 #[.slice A n c] W fun e w' => e = .returned (diV (decI l)) ∧ Below W.heap.size W w' := by
  have hln : l.length = n := byt_row hE.len
  have hcap := hE.cap
  have hmax := hE.max
  refine calls_cv2 (M := []) (n := 42) [.cell 2 39, .tmp 3, .tmp 4] rfl Tryz.func77 rfl rfl (Nat.le_of_ble_eq_true rfl) (St.nil _ _) ?_
  refine cv_seq_k fun K hK => ?_
  refine cv_region_then rfl ?_
  simp -implicitDefEqProofs (disch := first | omega | decide) only [seval, -Int.reducePow, -Nat.reducePow, cC, pv, binv, sRInsE2, undef]
  intro b2 hb2
  refine hK _ _ ?_
  clear hK K
  refine cv_gen fun G3 hG => ?_
  have g3_0 := congrFun hG 0
  have g3_2 := congrFun hG 2
  clear hG
  try simp -implicitDefEqProofs (disch := first | omega | decide) only [seval, -Int.reducePow, -Nat.reducePow, cC, pv, binv, sRInsE2, undef] at g3_0 g3_2
  have g3 := And.intro g3_0 g3_2
  refine cv_seq_k fun K hK => ?_
  refine cv_seq_k fun K hK => ?_
  refine cv_region_then rfl ?_
  simp -implicitDefEqProofs (disch := first | omega | decide) only [seval, -Int.reducePow, -Nat.reducePow, cC, pv, binv, sRInsE2, undef, g3]
  refine hK _ _ ?_
  clear hK K
  refine cv_cond ?_
  simp -implicitDefEqProofs (disch := first | omega | decide) only [seval, -Int.reducePow, -Nat.reducePow, cC, pv, binv, sRInsE2, undef, g3]
  refine ⟨fun hc => ?_, fun hc => ?_⟩
  · have hn : n = 0 := by have := of_decide_eq_true hc; omega
    have hl : l = [] := List.eq_nil_of_length_eq_zero (by omega)
    refine cv_seq_k fun K hK => ?_
    refine cv_region_then rfl ?_
    simp -implicitDefEqProofs (disch := first | omega | decide) only [seval, -Int.reducePow, -Nat.reducePow, cC, pv, binv, sRInsE2, undef, g3]
    refine hK _ _ ?_
    clear hK K
    refine cv_ret ?_
    simp -implicitDefEqProofs (disch := first | omega | decide) only [seval, -Int.reducePow, -Nat.reducePow, cC, pv, binv, sRInsE2, undef, retQ2, ressV, packV, g3]
    intro w hw
    rw [hl]
    exact ⟨rfl, hw.below⟩
  have hn : 0 < n := by have := of_decide_eq_false hc; omega
  obtain ⟨b0, off, rfl, hb0, -⟩ := hE.cells hn
  obtain ⟨x, r, rfl⟩ : ∃ x r, l = x :: r := by
    cases l with
    | nil => simp at hln; omega
    | cons x r => exact ⟨x, r, rfl⟩
  have hxb := hb x (by simp)
  have hbr : ∀ y ∈ r, y < 256 := fun y hy => hb y (by simp [hy])
  have hl0 := hE.ld1 (L := [.blk b2 39 [.int .i64 0, .int .u64 0]]) (P := Tryz.prog) (T := 5) (i := 0) (m := 1) (by kernel_rfl) (byt_get (x := x) rfl)
  rw [Nat.add_zero] at hl0
  refine cv_skip ?_
  try simp only [blockQ, thenQ]
  refine hK _ _ ?_
  clear hK K
  refine cv_seq_k fun K hK => ?_
  refine cv_region_then rfl ?_
  simp -implicitDefEqProofs (disch := first | omega | decide) only [seval, -Int.reducePow, -Nat.reducePow, cC, pv, binv, sRInsE2, undef, Nat.zero_mul, g3]
  refine ⟨_, hl0, fun tok htok => ?_⟩
  subst htok
  simp -implicitDefEqProofs (disch := first | omega | decide) only [seval, -Int.reducePow, -Nat.reducePow, cC, pv, binv, sRInsE2, undef, wrap_in, g3]
  refine hK _ _ ?_
  clear hK K
  refine cv_gen fun G4 hG => ?_
  have g4_0 := congrFun hG 0
  have g4_2 := congrFun hG 2
  have g4_5 := congrFun hG 5
  clear hG
  try simp -implicitDefEqProofs (disch := first | omega | decide) only [seval, -Int.reducePow, -Nat.reducePow, cC, pv, binv, sRInsE2, undef, g3] at g4_0 g4_2 g4_5
  have g4 := And.intro g4_0 (And.intro g4_2 g4_5)
  refine cv_seq_k fun K hK => ?_
  refine cv_seq_k fun K hK => ?_
  refine cv_region_then rfl ?_
  simp -implicitDefEqProofs (disch := first | omega | decide) only [seval, -Int.reducePow, -Nat.reducePow, cC, pv, binv, sRInsE2, undef, g4]
  refine callV_ret (fun w hw => r_known_any (x : Int) w) ?_
  try simp -implicitDefEqProofs (disch := first | omega | decide) only [seval, -Int.reducePow, -Nat.reducePow, cC, pv, binv, sRInsE2, undef, g4]
  refine hK _ _ ?_
  clear hK K
  refine cv_cond ?_
  simp -implicitDefEqProofs (disch := first | omega | decide) only [seval, -Int.reducePow, -Nat.reducePow, cC, pv, binv, sRInsE2, undef, g4]
  refine ⟨fun hc => ?_, fun hc => ?_⟩
  · have h : ¬ knownP (x : Int) := nd_true hc
    refine cv_seq_k fun K hK => ?_
    refine cv_region_then rfl ?_
    simp -implicitDefEqProofs (disch := first | omega | decide) only [seval, -Int.reducePow, -Nat.reducePow, cC, pv, binv, sRInsE2, undef, g4]
    refine hK _ _ ?_
    clear hK K
    refine cv_ret ?_
    simp -implicitDefEqProofs (disch := first | omega | decide) only [seval, -Int.reducePow, -Nat.reducePow, cC, pv, binv, sRInsE2, undef, retQ2, ressV, packV, g4]
    intro w hw
    rw [decI_cons, if_pos h]
    exact ⟨rfl, hw.below⟩
  have h : ¬ ¬ knownP (x : Int) := nd_false hc
  refine cv_skip ?_
  try simp only [blockQ, thenQ]
  refine hK _ _ ?_
  clear hK K
  refine cv_seq_k fun K hK => ?_
  refine cv_seq_k fun K hK => ?_
  refine cv_region_then rfl ?_
  simp -implicitDefEqProofs (disch := first | omega | decide) only [seval, -Int.reducePow, -Nat.reducePow, cC, pv, binv, sRInsE2, undef, g4]
  refine callV_ret (fun w hw => r_hasArg_any (x : Int) w) ?_
  try simp -implicitDefEqProofs (disch := first | omega | decide) only [seval, -Int.reducePow, -Nat.reducePow, cC, pv, binv, sRInsE2, undef, g4]
  refine hK _ _ ?_
  clear hK K
  refine cv_cond ?_
  simp -implicitDefEqProofs (disch := first | omega | decide) only [seval, -Int.reducePow, -Nat.reducePow, cC, pv, binv, sRInsE2, undef, g4]
  refine ⟨fun hc => ?_, fun hc => ?_⟩
  · have ha : ¬ argP (x : Int) := nd_true ‹(!decide (argP (x : Int))) = true›
    refine cv_seq_k fun K hK => ?_
    refine cv_region_then rfl ?_
    simp -implicitDefEqProofs (disch := first | omega | decide) only [seval, -Int.reducePow, -Nat.reducePow, cC, pv, binv, sRInsE2, undef, g4]
    refine hK _ _ ?_
    clear hK K
    refine cv_ret ?_
    simp -implicitDefEqProofs (disch := first | omega | decide) only [seval, -Int.reducePow, -Nat.reducePow, cC, pv, binv, sRInsE2, undef, retQ2, ressV, packV, g4]
    intro w hw
    rw [decI_cons, if_neg h, if_pos ha]
    exact ⟨rfl, hw.below⟩
  have ha : ¬ ¬ argP (x : Int) := nd_false ‹(!decide (argP (x : Int))) = false›
  have hD := hE.bdrop (k := 1) (by omega)
  rw [List.drop_succ_cons, List.drop_zero] at hD
  have hqc := uD_lt hbr
  obtain ⟨q, hq⟩ : ∃ q, uD 0 r = q := ⟨_, rfl⟩
  rw [hq] at hqc
  refine cv_skip ?_
  try simp only [blockQ, thenQ]
  refine hK _ _ ?_
  clear hK K
  refine cv_seq_k fun K hK => ?_
  refine cv_region_then rfl ?_
  simp -implicitDefEqProofs (disch := first | omega | decide) only [seval, -Int.reducePow, -Nat.reducePow, cC, pv, binv, sRInsE2, undef, g4]
  refine callV_ret (fun w hw => ruint_any (sbase c 1 1 (some ⟨b0, off, none⟩)) (n - 1) (c - 1) r w (hD.at hw) hbr) ?_
  try simp -implicitDefEqProofs (disch := first | omega | decide) only [seval, -Int.reducePow, -Nat.reducePow, cC, pv, binv, sRInsE2, undef, hq, g4]
  refine hK _ _ ?_
  clear hK K
  refine cv_gen fun G5 hG => ?_
  have g5_2 := congrFun hG 2
  have g5_5 := congrFun hG 5
  have g5_6 := congrFun hG 6
  have g5_7 := congrFun hG 7
  have g5_8 := congrFun hG 8
  clear hG
  try simp -implicitDefEqProofs (disch := first | omega | decide) only [seval, -Int.reducePow, -Nat.reducePow, cC, pv, binv, sRInsE2, undef, g4] at g5_2 g5_5 g5_6 g5_7 g5_8
  have g5 := And.intro g5_2 (And.intro g5_5 (And.intro g5_6 (And.intro g5_7 g5_8)))
  refine cv_seq_k fun K hK => ?_
  refine cv_seq_k fun K hK => ?_
  refine cv_region_then rfl ?_
  simp -implicitDefEqProofs (disch := first | omega | decide) only [seval, -Int.reducePow, -Nat.reducePow, cC, pv, binv, sRInsE2, undef, g5]
  refine hK _ _ ?_
  clear hK K
  refine cv_cond ?_
  simp -implicitDefEqProofs (disch := first | omega | decide) only [seval, -Int.reducePow, -Nat.reducePow, cC, pv, binv, sRInsE2, undef, g5]
  refine ⟨fun hc => ?_, fun hc => ?_⟩
  · have hz : ¬ q.2.2 = 0 := by simpa using ‹(!decide (q.2.2 = 0)) = true›
    refine cv_seq_k fun K hK => ?_
    refine cv_region_then rfl ?_
    simp -implicitDefEqProofs (disch := first | omega | decide) only [seval, -Int.reducePow, -Nat.reducePow, cC, pv, binv, sRInsE2, undef, g5]
    refine hK _ _ ?_
    clear hK K
    refine cv_ret ?_
    simp -implicitDefEqProofs (disch := first | omega | decide) only [seval, -Int.reducePow, -Nat.reducePow, cC, pv, binv, sRInsE2, undef, retQ2, ressV, packV, g5]
    intro w hw
    rw [decI_cons, if_neg h, if_neg ha, hq, if_neg hz]
    exact ⟨rfl, hw.below⟩
  have hz : q.2.2 = 0 := by simpa using ‹(!decide (q.2.2 = 0)) = false›
  have e1 : (1 : Int) + (q.2.1 : Int) = ((1 + q.2.1 : Nat) : Int) := by omega
  refine cv_skip ?_
  try simp only [blockQ, thenQ]
  refine hK _ _ ?_
  clear hK K
  refine cv_seq_k fun K hK => ?_
  refine cv_region_then rfl ?_
  simp -implicitDefEqProofs (disch := first | omega | decide) only [seval, -Int.reducePow, -Nat.reducePow, cC, pv, binv, sRInsE2, undef, e1, wrap_in, g5]
  refine hK _ _ ?_
  clear hK K
  refine cv_ret ?_
  simp -implicitDefEqProofs (disch := first | omega | decide) only [seval, -Int.reducePow, -Nat.reducePow, cC, pv, binv, sRInsE2, undef, retQ2, ressV, packV, g5]
  intro w hw
  rw [decI_cons, if_neg h, if_neg ha, hq, if_pos hz]
  exact ⟨rfl, hw.below⟩
end Go.Proofs.YtlbmnioibiomfaaGreat
/- The reference's reader. -/
namespace Go.Proofs.YtlbmnioibiomfaaGreat
open Go.RowKit Go.Shelf
set_option linter.unusedVariables false
set_option linter.unusedSimpArgs false
set_option maxRecDepth 100000
def eyB (r : Nat) (A : Option Addr) (n c : Nat) (err : Int) : Res := .blk r 101 [.slice A n c, .int .i64 err]
set_option maxRecDepth 100000 in
theorem sMEye1 : type_of% (And.intro (And.intro @Nat.mul_one @mrC.eq_1) (And.intro @eyB.eq_1 @uV.eq_1)) := (And.intro (And.intro @Nat.mul_one @mrC.eq_1) (And.intro @eyB.eq_1 @uV.eq_1))
set_option maxHeartbeats 2000000 in
theorem enumber_any (r : Nat) (A : Option Addr) (n c : Nat) (l : List Nat) (most : Nat) (err : Int) (W : World) (hW : W.heap[r]? = some (.cells (mrC A n c err).toArray 101 (0, 0))) (hE : Sl W W.heap.size 1 A n c (byt l)) (ha : 0 < n → Apt A [r]) (hb : ∀ x ∈ l, x < 256) (hm : most ≤ 1024) :
    Calls Tryz.prog 53 #[.pointer (some ⟨r, 0, none⟩), .int .i64 (most : Int)] W (modP r 101 (.int .i64 ((numE err l most).1 : Int)) (mrC (sbase c (numE err l most).2.1 1 A) (n - (numE err l most).2.1) (c - (numE err l most).2.1) (numE err l most).2.2) W) := by
  have hln : l.length = n := byt_row hE.len
  have hcap := hE.cap
  have hmax := hE.max
  have em := i64v most (by omega)
  refine calls_cv (M := [r]) (n := 51) [.tmp 4] rfl Tryz.func53 rfl rfl (Nat.le_of_ble_eq_true rfl)  (St.one hW) ?_
  refine cv_seq_k fun K hK => ?_
  refine cv_region_then rfl ?_
  simp -implicitDefEqProofs (disch := first | omega | decide) only [seval, -Int.reducePow, -Nat.reducePow, cC, pv, binv, sMEye1, undef]
  refine hK _ _ ?_
  clear hK K
  refine cv_seq_k fun K hK => ?_
  refine cv_seq_k fun K hK => ?_
  refine cv_region_then rfl ?_
  simp -implicitDefEqProofs (disch := first | omega | decide) only [seval, -Int.reducePow, -Nat.reducePow, cC, pv, binv, sMEye1, undef]
  refine hK _ _ ?_
  clear hK K
  refine cv_cond ?_
  simp -implicitDefEqProofs (disch := first | omega | decide) only [seval, -Int.reducePow, -Nat.reducePow, cC, pv, binv, sMEye1, undef]
  refine ⟨fun hc => ?_, fun hc => ?_⟩
  · have he : ¬ err = 0 := by simpa using hc
    have hF : numE err l most = (0, 0, err) := by unfold numE; rw [if_neg he]
    refine cv_seq_k fun K hK => ?_
    refine cv_region_then rfl ?_
    simp -implicitDefEqProofs (disch := first | omega | decide) only [seval, -Int.reducePow, -Nat.reducePow, cC, pv, binv, sMEye1, undef]
    refine hK _ _ ?_
    clear hK K
    refine cv_ret ⟨_, (by simp -implicitDefEqProofs (disch := first | omega | decide) only [seval, -Int.reducePow, -Nat.reducePow, cC, pv, binv, sMEye1, undef]; rfl), fun w hw => ?_⟩
    rw [hF, sbase_zero]
    exact ⟨rfl, hw.hold 0 rfl, hw.pres⟩
  have he : err = 0 := by simpa using hc
  subst he
  refine cv_skip ?_
  try simp only [blockQ, thenQ]
  refine hK _ _ ?_
  clear hK K
  obtain ⟨q, hq⟩ : ∃ q, uD 0 l = q := ⟨_, rfl⟩
  have hqc := uD_cases l 0 (by omega) hb
  have hlt := uD_lt hb
  rw [hq] at hqc hlt
  rw [hln] at hqc
  refine cv_seq_k fun K hK => ?_
  refine cv_region_then rfl ?_
  simp -implicitDefEqProofs (disch := first | omega | decide) only [seval, -Int.reducePow, -Nat.reducePow, cC, pv, binv, sMEye1, undef]
  refine callV_ret (fun w hw => ruint_any A n c l w (hE.atM' hw ha) hb) ?_
  try simp -implicitDefEqProofs (disch := first | omega | decide) only [seval, -Int.reducePow, -Nat.reducePow, cC, pv, binv, sMEye1, undef, hq]
  refine hK _ _ ?_
  clear hK K
  refine cv_gen fun G1 hG => ?_
  have g1_0 := congrFun hG 0
  have g1_1 := congrFun hG 1
  have g1_5 := congrFun hG 5
  have g1_6 := congrFun hG 6
  have g1_7 := congrFun hG 7
  clear hG
  try simp -implicitDefEqProofs (disch := first | omega | decide) only [seval, -Int.reducePow, -Nat.reducePow, cC, pv, binv, sMEye1, undef, hq] at g1_0 g1_1 g1_5 g1_6 g1_7
  have g1 := And.intro g1_0 (And.intro g1_1 (And.intro g1_5 (And.intro g1_6 g1_7)))
  obtain ⟨e', he'⟩ : ∃ e', (if q.2.2 = 0 then (if most < q.1 then 4 else 0) else q.2.2 : Int) = e' := ⟨_, rfl⟩
  refine cv_seq_k fun K hK => ?_
  refine cv_cut (fun _ _ => True) (fun F' L' => F' 0 = G1 0 ∧ F' 5 = G1 5 ∧ F' 6 = G1 6 ∧ F' 7 = .int .i64 e' ∧ L' = [eyB r A n c 0]) ?_ ?_
  · by_cases h0 : q.2.2 = 0
    · rw [if_pos h0] at he'
      refine cv_seq_k fun K hK => ?_
      refine cv_cut (fun _ _ => True) (fun F' L' => F' 0 = G1 0 ∧ F' 5 = G1 5 ∧ F' 6 = G1 6 ∧ F' 7 = G1 7 ∧ F' 33 = .bool (decide (most < q.1)) ∧ L' = [eyB r A n c 0]) ?_ ?_
      · refine cv_region_then rfl ?_
        simp -implicitDefEqProofs (disch := first | omega | decide) only [seval, -Int.reducePow, -Nat.reducePow, cC, pv, binv, sMEye1, undef, h0, em, g1]
        repeat' ((first | refine vcg_cases (fun hg => ?_) (fun hg => ?_) | refine vdg_cases (fun hg => ?_) (fun hg => ?_)) <;> ((try simp only [Bool.not_eq_true', Bool.not_eq_false', decide_eq_true_eq, decide_eq_false_iff_not] at hg); (try simp -implicitDefEqProofs (disch := first | omega | decide) only [seval, -Int.reducePow, -Nat.reducePow, cC, pv, binv, sMEye1, undef, hg, g1])))
        all_goals (repeat' refine And.intro ?_ ?_)
        all_goals (first | with_reducible rfl | (refine congrArg Value.bool ?_; rw [Bool.eq_iff_iff]; (try simp only [decide_eq_true_eq, eq_self, true_and, and_true, false_and, and_false, true_or, or_true, false_or, or_false, not_true_eq_false, not_false_eq_true, true_iff, iff_true, false_iff, iff_false, Bool.false_eq_true, Bool.not_eq_true', Bool.not_eq_true, decide_eq_false_iff_not, Bool.and_eq_true, Bool.or_eq_true]) <;> omega) | (refine congrArg (Value.int _) ?_; omega) | omega)
      intro G2 L' _ hF
      obtain ⟨q0, q5, q6, q7, q33, rfl⟩ := hF
      have g2_0 := q0.trans g1_0
      have g2_5 := q5.trans g1_5
      have g2_6 := q6.trans g1_6
      have g2_7 := q7.trans g1_7
      have g2_33 := q33
      clear q0 q5 q6 q7 q33
      have g2 := And.intro g2_0 (And.intro g2_5 (And.intro g2_6 (And.intro g2_7 g2_33)))
      refine hK _ _ ?_
      clear hK K
      refine cv_cond ?_
      simp -implicitDefEqProofs (disch := first | omega | decide) only [seval, -Int.reducePow, -Nat.reducePow, cC, pv, binv, sMEye1, undef, g1, g2]
      refine ⟨fun hc => ?_, fun hc => ?_⟩
      · have hm1 := of_decide_eq_true ‹_›
        rw [if_pos hm1] at he'
        refine cv_region_q rfl ?_
        simp -implicitDefEqProofs (disch := first | omega | decide) only [seval, -Int.reducePow, -Nat.reducePow, cC, pv, binv, sMEye1, undef, g1, g2]
        all_goals (first | (simp [← he']; done) | (simp [← he']; omega))
      · have hm1 := of_decide_eq_false ‹_›
        rw [if_neg hm1] at he'
        refine cv_skip ?_
        try simp only [blockQ, thenQ]
        simp -implicitDefEqProofs (disch := first | omega | decide) only [seval, -Int.reducePow, -Nat.reducePow, cC, pv, binv, sMEye1, undef, g1, g2]
        rw [← he', h0]
    · rw [if_neg h0] at he'
      refine cv_seq_k fun K hK => ?_
      refine cv_region_then rfl ?_
      simp -implicitDefEqProofs (disch := first | omega | decide) only [seval, -Int.reducePow, -Nat.reducePow, cC, pv, binv, sMEye1, undef, h0, em, g1]
      refine hK _ _ ?_
      clear hK K
      refine cv_cond ?_
      simp -implicitDefEqProofs (disch := first | omega | decide) only [seval, -Int.reducePow, -Nat.reducePow, cC, pv, binv, sMEye1, undef, g1]
      refine cv_skip ?_
      try simp only [blockQ, thenQ]
      simp -implicitDefEqProofs (disch := first | omega | decide) only [seval, -Int.reducePow, -Nat.reducePow, cC, pv, binv, sMEye1, undef, g1]
      rw [← he']
  intro G3 L' _ hF
  obtain ⟨q0, q5, q6, q7, rfl⟩ := hF
  have g3_0 := q0.trans g1_0
  have g3_5 := q5.trans g1_5
  have g3_6 := q6.trans g1_6
  have g3_7 := q7
  clear q0 q5 q6 q7
  have g3 := And.intro g3_0 (And.intro g3_5 (And.intro g3_6 g3_7))
  refine hK _ _ ?_
  clear hK K
  have hS : numE 0 l most = if e' = 0 then (q.1, q.2.1, 0) else (0, 0, e') := by
    unfold numE smF
    rw [if_pos rfl, List.drop_zero, hq]
    by_cases h0 : q.2.2 = 0
    · rw [if_pos h0] at he' ⊢
      by_cases hm1 : most < q.1
      · rw [if_pos hm1] at he' ⊢
        rw [← he', if_neg (by omega)]
      · rw [if_neg hm1] at he' ⊢
        rw [← he', if_pos rfl, Nat.zero_add]
    · rw [if_neg h0] at he' ⊢
      rw [← he', if_neg h0]
  have h0 : e' = 0 → q.2.1 ≤ n := fun h => by
    rcases hqc with h3 | h3
    · omega
    · exact h3.2.2.2.2.1
  have hq1 : e' = 0 → q.1 ≤ most := fun h => by
    by_cases h0 : q.2.2 = 0
    · rw [if_pos h0] at he'
      by_cases hm1 : most < q.1
      · rw [if_pos hm1] at he'; omega
      · omega
    · rw [if_neg h0] at he'; omega
  refine cv_seq_k fun K hK => ?_
  refine cv_seq_k fun K hK => ?_
  refine cv_region_then rfl ?_
  simp -implicitDefEqProofs (disch := first | omega | decide) only [seval, -Int.reducePow, -Nat.reducePow, cC, pv, binv, sMEye1, undef, g3]
  refine hK _ _ ?_
  clear hK K
  refine cv_cond ?_
  simp -implicitDefEqProofs (disch := first | omega | decide) only [seval, -Int.reducePow, -Nat.reducePow, cC, pv, binv, sMEye1, undef, g3]
  refine ⟨fun hc => ?_, fun hc => ?_⟩
  · have h1 : ¬ e' = 0 := by simpa using hc
    rw [if_neg h1] at hS
    refine cv_seq_k fun K hK => ?_
    refine cv_region_then rfl ?_
    simp -implicitDefEqProofs (disch := first | omega | decide) only [seval, -Int.reducePow, -Nat.reducePow, cC, pv, binv, sMEye1, undef, g3]
    refine hK _ _ ?_
    clear hK K
    refine cv_seq_k fun K hK => ?_
    refine cv_region_then rfl ?_
    simp -implicitDefEqProofs (disch := first | omega | decide) only [seval, -Int.reducePow, -Nat.reducePow, cC, pv, binv, sMEye1, undef, g3]
    refine hK _ _ ?_
    clear hK K
    refine cv_ret ⟨_, (by simp -implicitDefEqProofs (disch := first | omega | decide) only [seval, -Int.reducePow, -Nat.reducePow, cC, pv, binv, sMEye1, undef, g3]; rfl), fun w hw => ?_⟩
    rw [hS]
    dsimp only
    rw [sbase_zero]
    exact ⟨rfl, hw.hold 0 rfl, hw.pres⟩
  have h1 : e' = 0 := by simpa using hc
  rw [if_pos h1] at hS
  have := hq1 h1
  have := h0 h1
  refine cv_skip ?_
  try simp only [blockQ, thenQ]
  refine hK _ _ ?_
  clear hK K
  refine cv_seq_k fun K hK => ?_
  refine cv_region_then rfl ?_
  simp -implicitDefEqProofs (disch := first | omega | decide) only [seval, -Int.reducePow, -Nat.reducePow, cC, pv, binv, sMEye1, undef, g3]
  refine hK _ _ ?_
  clear hK K
  refine cv_seq_k fun K hK => ?_
  refine cv_region_then rfl ?_
  simp -implicitDefEqProofs (disch := first | omega | decide) only [seval, -Int.reducePow, -Nat.reducePow, cC, pv, binv, sMEye1, undef, wrap_in, g3]
  refine hK _ _ ?_
  clear hK K
  refine cv_ret ⟨_, (by simp -implicitDefEqProofs (disch := first | omega | decide) only [seval, -Int.reducePow, -Nat.reducePow, cC, pv, binv, sMEye1, undef, g3]; rfl), fun w hw => ?_⟩
  rw [hS]
  exact ⟨rfl, hw.hold 0 rfl, hw.pres⟩
theorem enum_any {W : World} {r n c n' c' most v : Nat} {A A' : Option Addr} {l l' : List Nat} {e e' : Int} (h : NumS A n c l e most v A' n' c' l' e') (hW : W.heap[r]? = some (.cells (mrC A n c e).toArray 101 (0, 0))) (hL : Lt W r A n c l) (hm : most ≤ 1024) :
    Calls Tryz.prog 53 #[.pointer (some ⟨r, 0, none⟩), .int .i64 (most : Int)] W (modP r 101 (.int .i64 (v : Int)) (mrC A' n' c' e') W) := by
  obtain ⟨k, h1, rfl, rfl, rfl, rfl⟩ := h.ex
  have := enumber_any r A n c l most e W hW hL.sl hL.ap hL.bt hm
  rw [h1] at this
  exact this
theorem decF_le {l : List Nat} (hb : ∀ x ∈ l, x < 256) : (decF l).2.2.1 ≤ l.length := by
  by_cases h : (decF l).2.2.2 = 0
  · exact (decF_only hb h).2.2
  · rw [decF_err h]; omega
set_option maxRecDepth 100000 in
theorem sMEye2 : type_of% (And.intro (And.intro @Nat.mul_one (And.intro @mrC.eq_1 @eyB.eq_1)) (And.intro (And.intro @decV.eq_1 @tBox.eq_1) (And.intro @diV.eq_1 @iBox.eq_1))) := (And.intro (And.intro @Nat.mul_one (And.intro @mrC.eq_1 @eyB.eq_1)) (And.intro (And.intro @decV.eq_1 @tBox.eq_1) (And.intro @diV.eq_1 @iBox.eq_1)))
set_option maxHeartbeats 2000000 in
theorem kind_any (r : Nat) (A : Option Addr) (n c : Nat) (l : List Nat) (W : World) (hW : W.heap[r]? = some (.cells (mrC A n c 0).toArray 101 (0, 0))) (hL : Lt W r A n c l) :
    Calls Tryz.prog 54 #[.pointer (some ⟨r, 0, none⟩)] W (modRowP r 101 (mrC (sbase c (decF l).2.2.1 1 A) (n - (decF l).2.2.1) (c - (decF l).2.2.1) (decF l).2.2.2) 89 2 (fun v => .agg #[.int .i64 (decF l).1, v]) (cl fdc (decF l).2.1) W) := by
  have hcap := hL.sl.cap
  have hmax := hL.sl.max
  have hle := decF_le hL.bt
  rw [hL.len] at hle
  obtain ⟨d, hd⟩ : ∃ d, decF l = d := ⟨_, rfl⟩
  rw [hd] at hle ⊢
  refine calls_cv2 (M := [r]) (n := 35) [.cell 2 67] rfl Tryz.func54 rfl rfl (Nat.le_of_ble_eq_true rfl)  (St.one hW) ?_
  refine cv_seq_k fun K hK => ?_
  refine cv_region_then rfl ?_
  simp -implicitDefEqProofs (disch := first | omega | decide) only [seval, -Int.reducePow, -Nat.reducePow, cC, pv, binv, sMEye2, undef]
  intro b2 hb2 h2
  refine hK _ _ ?_
  clear hK K
  refine cv_seq_k fun K hK => ?_
  refine cv_seq_k fun K hK => ?_
  refine cv_region_then rfl ?_
  simp -implicitDefEqProofs (disch := first | omega | decide) only [seval, -Int.reducePow, -Nat.reducePow, cC, pv, binv, sMEye2, undef]
  refine hK _ _ ?_
  clear hK K
  refine cv_cond ?_
  simp -implicitDefEqProofs (disch := first | omega | decide) only [seval, -Int.reducePow, -Nat.reducePow, cC, pv, binv, sMEye2, undef]
  refine cv_skip ?_
  try simp only [blockQ, thenQ]
  refine hK _ _ ?_
  clear hK K
  refine cv_seq_k fun K hK => ?_
  refine cv_region_then rfl ?_
  simp -implicitDefEqProofs (disch := first | omega | decide) only [seval, -Int.reducePow, -Nat.reducePow, cC, pv, binv, sMEye2, undef]
  refine callV_row (fun A5 n5 c5 => decV (decF l) (.slice A5 n5 c5)) (fun w hw => rdecode_any A n c l w (hL.at hw).sl hL.bt hL.sz) ?_
  rw [hd]
  intro A5 n5 c5 hl5 hr5
  simp -implicitDefEqProofs (disch := first | omega | decide) only [seval, -Int.reducePow, -Nat.reducePow, cC, pv, binv, sMEye2, undef]
  intro b3 hb3 h3
  refine hK _ _ ?_
  clear hK K
  refine cv_seq_k fun K hK => ?_
  refine cv_region_then rfl ?_
  simp -implicitDefEqProofs (disch := first | omega | decide) only [seval, -Int.reducePow, -Nat.reducePow, cC, pv, binv, sMEye2, undef]
  refine hK _ _ ?_
  clear hK K
  refine cv_seq_k fun K hK => ?_
  refine cv_region_then rfl ?_
  simp -implicitDefEqProofs (disch := first | omega | decide) only [seval, -Int.reducePow, -Nat.reducePow, cC, pv, binv, sMEye2, undef]
  refine hK _ _ ?_
  clear hK K
  refine cv_pick [1, 0, 2, 3] (by decide) ?_
  simp only [pickL, nth]
  refine cv_seq_k fun K hK => ?_
  refine cv_region_then rfl ?_
  simp -implicitDefEqProofs (disch := first | omega | decide) only [seval, -Int.reducePow, -Nat.reducePow, cC, pv, binv, sMEye2, undef]
  refine hK _ _ ?_
  clear hK K
  refine cv_ret ?_
  simp -implicitDefEqProofs (disch := first | omega | decide) only [seval, -Int.reducePow, -Nat.reducePow, cC, pv, binv, sMEye2, undef, retQ2, ressV, packV]
  intro w hw
  exact ⟨A5, n5, c5, rfl, hw.rowNew (by simp [Res.foot]), hw.hold 3 rfl, hw.pres⟩
set_option maxHeartbeats 2000000 in
theorem einstr_any (r : Nat) (A : Option Addr) (n c : Nat) (l : List Nat) (W : World) (hW : W.heap[r]? = some (.cells (mrC A n c 0).toArray 101 (0, 0))) (hL : Lt W r A n c l) :
    Calls Tryz.prog 55 #[.pointer (some ⟨r, 0, none⟩)] W (modP r 101 (insV (decI l).1) (mrC (sbase c (decI l).2.1 1 A) (n - (decI l).2.1) (c - (decI l).2.1) (decI l).2.2) W) := by
  have hcap := hL.sl.cap
  have hmax := hL.sl.max
  have hle := (decI_le hL.bt).2.1
  rw [hL.len] at hle
  obtain ⟨d, hd⟩ : ∃ d, decI l = d := ⟨_, rfl⟩
  rw [hd] at hle ⊢
  refine calls_cv2 (M := [r]) (n := 35) [.cell 2 39] rfl Tryz.func55 rfl rfl (Nat.le_of_ble_eq_true rfl)  (St.one hW) ?_
  refine cv_seq_k fun K hK => ?_
  refine cv_region_then rfl ?_
  simp -implicitDefEqProofs (disch := first | omega | decide) only [seval, -Int.reducePow, -Nat.reducePow, cC, pv, binv, sMEye2, undef]
  intro b2 hb2 h2
  refine hK _ _ ?_
  clear hK K
  refine cv_seq_k fun K hK => ?_
  refine cv_seq_k fun K hK => ?_
  refine cv_region_then rfl ?_
  simp -implicitDefEqProofs (disch := first | omega | decide) only [seval, -Int.reducePow, -Nat.reducePow, cC, pv, binv, sMEye2, undef]
  refine hK _ _ ?_
  clear hK K
  refine cv_cond ?_
  simp -implicitDefEqProofs (disch := first | omega | decide) only [seval, -Int.reducePow, -Nat.reducePow, cC, pv, binv, sMEye2, undef]
  refine cv_skip ?_
  try simp only [blockQ, thenQ]
  refine hK _ _ ?_
  clear hK K
  refine cv_seq_k fun K hK => ?_
  refine cv_region_then rfl ?_
  simp -implicitDefEqProofs (disch := first | omega | decide) only [seval, -Int.reducePow, -Nat.reducePow, cC, pv, binv, sMEye2, undef]
  refine callV_ret (fun w hw => r_dec_any A n c l w (hL.at hw).sl hL.bt) ?_
  try simp -implicitDefEqProofs (disch := first | omega | decide) only [seval, -Int.reducePow, -Nat.reducePow, cC, pv, binv, sMEye2, undef, hd]
  intro b3 hb3 h3
  refine hK _ _ ?_
  clear hK K
  refine cv_seq_k fun K hK => ?_
  refine cv_region_then rfl ?_
  simp -implicitDefEqProofs (disch := first | omega | decide) only [seval, -Int.reducePow, -Nat.reducePow, cC, pv, binv, sMEye2, undef]
  refine hK _ _ ?_
  clear hK K
  refine cv_seq_k fun K hK => ?_
  refine cv_region_then rfl ?_
  simp -implicitDefEqProofs (disch := first | omega | decide) only [seval, -Int.reducePow, -Nat.reducePow, cC, pv, binv, sMEye2, undef]
  refine hK _ _ ?_
  clear hK K
  refine cv_seq_k fun K hK => ?_
  refine cv_region_then rfl ?_
  simp -implicitDefEqProofs (disch := first | omega | decide) only [seval, -Int.reducePow, -Nat.reducePow, cC, pv, binv, sMEye2, undef]
  refine hK _ _ ?_
  clear hK K
  refine cv_ret ?_
  simp -implicitDefEqProofs (disch := first | omega | decide) only [seval, -Int.reducePow, -Nat.reducePow, cC, pv, binv, sMEye2, undef, retQ2, ressV, packV]
  intro w hw
  exact ⟨rfl, hw.hold 2 rfl, hw.pres⟩
end Go.Proofs.YtlbmnioibiomfaaGreat
/- pluginhostref19.DecodeModule. -/
namespace Go.Proofs.YtlbmnioibiomfaaGreat
open Go.RowKit Go.Shelf
set_option linter.unusedVariables false
set_option linter.unusedSimpArgs false
set_option maxRecDepth 100000
theorem magic_str : bstr magicB = ⟨#[80, 72, 77, 49]⟩ := by rw [bstr_eq]; rfl
set_option maxRecDepth 100000 in
theorem sMRDec1 : type_of% (And.intro (And.intro @Nat.mul_one (And.intro @mrC.eq_1 @eyB.eq_1)) (And.intro (And.intro @mBox.eq_1 @modV.eq_1) (And.intro @cS @fltV.eq_1))) := (And.intro (And.intro @Nat.mul_one (And.intro @mrC.eq_1 @eyB.eq_1)) (And.intro (And.intro @mBox.eq_1 @modV.eq_1) (And.intro @cS @fltV.eq_1)))
set_option maxHeartbeats 8000000 in
theorem rmdec_any (A : Option Addr) (n c : Nat) (l : List Nat) (W : World) (hE : Sl W W.heap.size 1 A n c (byt l)) (hb : ∀ x ∈ l, x < 256) :
    Calls Tryz.prog 30 #[.slice A n c] W fun e w' => ∃ i, e = .returned (mdV i) ∧ mdΦ l i W w' ∧ Below W.heap.size W w' := by
  have hln : l.length = n := byt_row hE.len
  have hcap := hE.cap
  have hmax := hE.max
  refine calls_cv2 (M := []) (n := 139) [.cell 2 30, .tmp 3] rfl Tryz.func30 rfl rfl (Nat.le_of_ble_eq_true rfl) (St.nil _ _) ?_
  refine cv_seq_k fun K hK => ?_
  refine cv_region_then rfl ?_
  simp -implicitDefEqProofs (disch := first | omega | decide) only [seval, -Int.reducePow, -Nat.reducePow, cC, pv, binv, sMRDec1, undef]
  intro b2 hb2
  refine hK _ _ ?_
  clear hK K
  refine cv_seq_k fun K hK => ?_
  refine cv_seq_k fun K hK => ?_
  refine cv_region_then rfl ?_
  simp -implicitDefEqProofs (disch := first | omega | decide) only [seval, -Int.reducePow, -Nat.reducePow, cC, pv, binv, sMRDec1, undef]
  refine hK _ _ ?_
  clear hK K
  refine cv_cond ?_
  simp -implicitDefEqProofs (disch := first | omega | decide) only [seval, -Int.reducePow, -Nat.reducePow, cC, pv, binv, sMRDec1, undef]
  refine ⟨fun hc => ?_, fun hc => ?_⟩
  · have h := of_decide_eq_true hc
    refine cv_seq_k fun K hK => ?_
    refine cv_region_then rfl ?_
    simp -implicitDefEqProofs (disch := first | omega | decide) only [seval, -Int.reducePow, -Nat.reducePow, cC, pv, binv, sMRDec1, undef]
    refine hK _ _ ?_
    clear hK K
    refine cv_ret ?_
    simp -implicitDefEqProofs (disch := first | omega | decide) only [seval, -Int.reducePow, -Nat.reducePow, cC, pv, binv, sMRDec1, undef, retQ2, ressV, packV]
    intro w hw
    refine ⟨(zMod, 4), rfl, mdΦ_no _ _ (by omega) ?_, hw.below⟩
    unfold decM
    rw [if_pos (by omega)]
  have hn : n ≤ 65536 := by have := of_decide_eq_false hc; omega
  refine cv_skip ?_
  try simp only [blockQ, thenQ]
  refine hK _ _ ?_
  clear hK K
  refine cv_gen fun G1 hG => ?_
  have g1_0 := congrFun hG 0
  have g1_2 := congrFun hG 2
  clear hG
  try simp -implicitDefEqProofs (disch := first | omega | decide) only [seval, -Int.reducePow, -Nat.reducePow, cC, pv, binv, sMRDec1, undef] at g1_0 g1_2
  have g1 := And.intro g1_0 g1_2
  refine cv_seq_k fun K hK => ?_
  refine cv_seq_k fun K hK => ?_
  refine cv_cut (fun _ _ => True) (fun F' L' => F' 0 = G1 0 ∧ F' 2 = G1 2 ∧ F' 24 = .bool (decide (¬ l.take 4 = magicB)) ∧ L' = [.blk b2 30 [.slice none 0 0, .slice none 0 0]]) ?_ ?_
  · by_cases h4 : n < 4
    · have hd : decide ((n : Int) < 4) = true := decide_eq_true (by omega)
      refine cv_region_then rfl ?_
      simp -implicitDefEqProofs (disch := first | omega | decide) only [seval, -Int.reducePow, -Nat.reducePow, cC, pv, binv, sMRDec1, undef, hd, g1]
      have h5 : ¬ l.take 4 = magicB := fun h => by
        have := congrArg List.length h
        rw [List.length_take] at this
        simp [magicB] at this
        omega
      simp [h5]
    · have hd : decide ((n : Int) < 4) = false := decide_eq_false (by omega)
      refine cv_region_then rfl ?_
      simp -implicitDefEqProofs (disch := first | omega | decide) only [seval, -Int.reducePow, -Nat.reducePow, cC, pv, binv, sMRDec1, undef, hd, g1]
      refine ⟨_, fun w hw => ((hE.at hw).btake (k := 4) (by omega)).reads, fun tok htok => ?_⟩
      subst htok
      simp -implicitDefEqProofs (disch := first | omega | decide) only [seval, -Int.reducePow, -Nat.reducePow, cC, pv, binv, sMRDec1, undef, g1]
      rw [← magic_str, bstr_beq (fun x hx => hb x (List.mem_of_mem_take hx)) (by decide), decide_not]
  intro G2 L' _ hF
  obtain ⟨q0, q2, q24, rfl⟩ := hF
  have g2_0 := q0.trans g1_0
  have g2_2 := q2.trans g1_2
  have g2_24 := q24
  clear q0 q2 q24
  have g2 := And.intro g2_0 (And.intro g2_2 g2_24)
  refine hK _ _ ?_
  clear hK K
  refine cv_cond ?_
  simp -implicitDefEqProofs (disch := first | omega | decide) only [seval, -Int.reducePow, -Nat.reducePow, cC, pv, binv, sMRDec1, undef, g2]
  refine ⟨fun hc => ?_, fun hc => ?_⟩
  · have hp := of_decide_eq_true hc
    refine cv_seq_k fun K hK => ?_
    refine cv_region_then rfl ?_
    simp -implicitDefEqProofs (disch := first | omega | decide) only [seval, -Int.reducePow, -Nat.reducePow, cC, pv, binv, sMRDec1, undef, g2]
    refine hK _ _ ?_
    clear hK K
    refine cv_ret ?_
    simp -implicitDefEqProofs (disch := first | omega | decide) only [seval, -Int.reducePow, -Nat.reducePow, cC, pv, binv, sMRDec1, undef, retQ2, ressV, packV, g2]
    intro w hw
    refine ⟨(zMod, 3), rfl, mdΦ_no _ _ (by omega) ?_, hw.below⟩
    unfold decM
    rw [if_neg (by omega), if_pos hp]
  have hp := of_decide_eq_false hc
  refine cv_skip ?_
  try simp only [blockQ, thenQ]
  refine hK _ _ ?_
  clear hK K
  have hm4 : 4 ≤ n := by
    have := congrArg List.length (Classical.not_not.1 hp)
    rw [List.length_take] at this
    simp [magicB] at this
    omega
  obtain ⟨A0, hA0⟩ : ∃ X, sbase c 4 1 A = X := ⟨_, rfl⟩
  have hE0 := hE.bdrop hm4
  rw [hA0] at hE0
  have hdec : decM l = decK (decL (l.drop 4)) := by
    unfold decM
    rw [if_neg (by omega), if_neg hp]
  refine cv_seq_k fun K hK => ?_
  refine cv_region_then rfl ?_
  simp -implicitDefEqProofs (disch := first | omega | decide) only [seval, -Int.reducePow, -Nat.reducePow, cC, pv, binv, sMRDec1, undef, hA0, g2]
  intro r hb4 h4
  refine hK _ _ ?_
  clear hK K
  refine cv_seq_k fun K hK => ?_
  refine cv_region_then rfl ?_
  simp -implicitDefEqProofs (disch := first | omega | decide) only [seval, -Int.reducePow, -Nat.reducePow, cC, pv, binv, sMRDec1, undef, g2]
  intro b5 hb5 h5
  refine hK _ _ ?_
  clear hK K
  refine cv_pick [0, 2, 1] (by decide) ?_
  simp only [pickL, nth]
  have hL : Lt W r A0 (n - 4) (c - 4) (l.drop 4) := ⟨hE0, fun h0 => Apt.of_below hE0 h0 (by simp; omega), drop_byte hb 4, by omega⟩
  generalize hl4 : l.drop 4 = k at *
  generalize n - 4 = n0 at *
  generalize c - 4 = c0 at *
  have hLw : ∀ {L w}, St [] W L w → Lt w r A0 n0 c0 k := fun hw => ⟨hE0.at hw, hL.ap, hL.bt, hL.sz⟩
  obtain ⟨v1, A1, n1, c1, l1, e1, s1, L1⟩ := hL.num 0 32 (by omega)
  have hS : Lc tyX (thenX (.ok ((), k)) (cntX tyX 32)) () v1 0 [] l1 e1 := s1.start (.start () k)
  have hv1 := s1.le
  refine cv_seq_k fun K hK => ?_
  refine cv_region_then rfl ?_
  simp -implicitDefEqProofs (disch := first | omega | decide) only [seval, -Int.reducePow, -Nat.reducePow, cC, pv, binv, sMRDec1, undef, g2]
  refine callV_mod1 2 (fun w hw => enum_any (most := 32) s1 (hw.hold 2 rfl) (hLw hw) (by omega)) rfl ?_
  try simp -implicitDefEqProofs (disch := first | omega | decide) only [seval, -Int.reducePow, -Nat.reducePow, cC, pv, binv, sMRDec1, undef, g2]
  refine hK _ _ ?_
  clear hK K
  refine cv_gen fun G3 hG => ?_
  have g3_2 := congrFun hG 2
  have g3_4 := congrFun hG 4
  have g3_5 := congrFun hG 5
  have g3_6 := congrFun hG 6
  clear hG
  try simp -implicitDefEqProofs (disch := first | omega | decide) only [seval, -Int.reducePow, -Nat.reducePow, cC, pv, binv, sMRDec1, undef, g2] at g3_2 g3_4 g3_5 g3_6
  have g3 := And.intro g3_2 (And.intro g3_4 (And.intro g3_5 g3_6))
  refine cv_seq_k fun K hK => ?_
  refine cv_seq_k fun K hK => ?_
  refine cv_region_then rfl ?_
  simp -implicitDefEqProofs (disch := first | omega | decide) only [seval, -Int.reducePow, -Nat.reducePow, cC, pv, binv, sMRDec1, undef, g3]
  refine hK _ _ ?_
  clear hK K
  refine cv_gen fun G4 hG => ?_
  have g4_2 := congrFun hG 2
  have g4_4 := congrFun hG 4
  have g4_5 := congrFun hG 5
  have g4_6 := congrFun hG 6
  have g4_7 := congrFun hG 7
  clear hG
  try simp -implicitDefEqProofs (disch := first | omega | decide) only [seval, -Int.reducePow, -Nat.reducePow, cC, pv, binv, sMRDec1, undef, g3] at g4_2 g4_4 g4_5 g4_6 g4_7
  have g4 := And.intro g4_2 (And.intro g4_4 (And.intro g4_5 (And.intro g4_6 g4_7)))
  refine cv_block ?_
  refine cv_nil 67 2 ?_
  refine cv_snap [0, 1, 2, 3] (by decide) fun v0 f0 hv0 hf0 => ?_
  simp only [pickL, nth]
  refine cv_loop (fun F' L' => ∃ (j : Nat) (A6 : Option Addr) (c6 : Nat) (ts : List TyR) (A' : Option Addr) (n' c' : Nat) (l' : List Nat) (e' : Int) (v : World) (f : List Nat), F' 2 = G4 2 ∧ F' 4 = G4 4 ∧ F' 5 = G4 5 ∧ F' 6 = G4 6 ∧ F' 7 = .int .i64 (j : Int) ∧ L' = [snap [] W v f, .row (.slice A6 j c6) 67 2 j (cl tyc ts), .blk b5 30 [.slice A6 j c6, .slice none 0 0], .blk b2 30 [.slice none 0 0, .slice none 0 0], eyB r A' n' c' e'] ∧ Sub r A0 n0 c0 k A' n' c' l' ∧ Lc tyX (thenX (.ok ((), k)) (cntX tyX 32)) () v1 j (ts.map tyD) l' e' ∧ (∀ t ∈ ts, Sd v (fun y => y ∈ f) 2 t.A t.n t.c (cl fdc t.fs))) (fun F' L' => 100 - (intOf (F' 7)).toNat) ?_ ?_
  · refine ⟨0, none, 0, [], A1, n1, c1, l1, e1, v0, f0, ?_⟩
    simp -implicitDefEqProofs (disch := first | omega | decide) only [seval, -Int.reducePow, -Nat.reducePow, cC, pv, binv, sMRDec1, undef, g4]
    exact ⟨rfl, s1.sub .refl, hS, by simp⟩
  intro G5 L' hI
  obtain ⟨j, A6, c6, ts, A', n', c', l', e', v, f, q2, q4, q5, q6, q7, rfl, ⟨hsub, hS', hty⟩⟩ := hI
  have g5_2 := q2.trans g4_2
  have g5_4 := q4.trans g4_4
  have g5_5 := q5.trans g4_5
  have g5_6 := q6.trans g4_6
  have g5_7 := q7
  clear q2 q4 q5 q6 q7
  have g5 := And.intro g5_2 (And.intro g5_4 (And.intro g5_5 (And.intro g5_6 g5_7)))
  refine cv_seq_k fun K hK => ?_
  refine cv_seq_k fun K hK => ?_
  refine cv_cut (fun _ _ => True) (fun F' L' => F' 2 = G5 2 ∧ F' 4 = G5 4 ∧ F' 5 = G5 5 ∧ F' 6 = G5 6 ∧ F' 7 = G5 7 ∧ F' 41 = .bool (decide (j < v1 ∧ e' = 0)) ∧ L' = [snap [] W v f, .row (.slice A6 j c6) 67 2 j (cl tyc ts), .blk b5 30 [.slice A6 j c6, .slice none 0 0], .blk b2 30 [.slice none 0 0, .slice none 0 0], eyB r A' n' c' e']) ?_ ?_
  · refine cv_region_then rfl ?_
    simp -implicitDefEqProofs (disch := first | omega | decide) only [seval, -Int.reducePow, -Nat.reducePow, cC, pv, binv, sMRDec1, undef, g4, g5]
    repeat' ((first | refine vcg_cases (fun hg => ?_) (fun hg => ?_) | refine vdg_cases (fun hg => ?_) (fun hg => ?_)) <;> ((try simp only [Bool.not_eq_true', Bool.not_eq_false', decide_eq_true_eq, decide_eq_false_iff_not] at hg); (try simp -implicitDefEqProofs (disch := first | omega | decide) only [seval, -Int.reducePow, -Nat.reducePow, cC, pv, binv, sMRDec1, undef, hg, g4, g5])))
    all_goals (repeat' refine And.intro ?_ ?_)
    all_goals (first | with_reducible rfl | (refine congrArg Value.bool ?_; rw [Bool.eq_iff_iff]; (try simp only [decide_eq_true_eq, eq_self, true_and, and_true, false_and, and_false, true_or, or_true, false_or, or_false, not_true_eq_false, not_false_eq_true, true_iff, iff_true, false_iff, iff_false, Bool.false_eq_true, Bool.not_eq_true', Bool.not_eq_true, decide_eq_false_iff_not, Bool.and_eq_true, Bool.or_eq_true]) <;> omega) | (refine congrArg (Value.int _) ?_; omega) | omega)
  intro G6 L' _ hF
  obtain ⟨q2, q4, q5, q6, q7, q41, rfl⟩ := hF
  have g6_2 := q2.trans g5_2
  have g6_4 := q4.trans g5_4
  have g6_5 := q5.trans g5_5
  have g6_6 := q6.trans g5_6
  have g6_7 := q7.trans g5_7
  have g6_41 := q41
  clear q2 q4 q5 q6 q7 q41
  have g6 := And.intro g6_2 (And.intro g6_4 (And.intro g6_5 (And.intro g6_6 (And.intro g6_7 g6_41))))
  refine hK _ _ ?_
  clear hK K
  refine cv_cond ?_
  simp -implicitDefEqProofs (disch := first | omega | decide) only [seval, -Int.reducePow, -Nat.reducePow, cC, pv, binv, sMRDec1, undef, g4, g5, g6]
  refine ⟨fun hc => ?_, fun hc => ?_⟩
  · obtain ⟨hj, h0⟩ := of_decide_eq_true hc
    subst h0
    have hL' := hsub W hL
    have hLw' : ∀ {L w}, St [] W L w → Lt w r A' n' c' l' := fun hw => hsub _ (hLw hw)
    obtain ⟨d, hd⟩ : ∃ d, decF l' = d := ⟨_, rfl⟩
    have ho := tyX_out l'
    have hdl := decF_le hL'.bt
    rw [hL'.len] at hdl
    rw [hd] at ho hdl
    have hst := hS'.step hj ho
    have hk := fun w h1 h2 => kind_any r A' n' c' l' w h1 h2
    rw [hd] at hk
    refine cv_skip ?_
    try simp only [blockQ, thenQ]
    refine hK _ _ ?_
    clear hK K
    refine cv_seq_k fun K hK => ?_
    refine cv_block ?_
    refine cv_q ?_
    refine cv_draw_of (pickL [2] _) (fun w hw => hw.pick (by decide)) (by simp only [pickL, nth, suf_cons, suf_nil, List.mem_cons, true_or, or_true, and_true, eq_self]) [(true, 0), (true, 1), (true, 2), (false, 3), (false, 4), (false, 5), (true, 6), (false, 7)] [7] mixA rfl (by kernel_rfl) (by kernel_rfl) rfl rfl ?_
    simp -implicitDefEqProofs (disch := first | omega | decide) only [seval, -Int.reducePow, -Nat.reducePow, cC, pv, binv, sMRDec1, undef, g4, g5, g6]
    refine callV_modRow 4 (fun w hw => hk w (hw.hold 4 rfl) (hLw' hw)) rfl ?_
    intro A5 n5 c5 hl5 hr5
    simp -implicitDefEqProofs (disch := first | omega | decide) only [seval, -Int.reducePow, -Nat.reducePow, cC, pv, binv, sMRDec1, undef, g4, g5, g6]
    intro b48 hb48 h48
    refine appV_at 3 tap27 rfl (fun w hw => src_blk (size := 2) (.head _) rfl hw) rfl (by omega) (by omega) ?_
    intro A7 c7 hl7 hr7
    simp -implicitDefEqProofs (disch := first | omega | decide) only [seval, -Int.reducePow, -Nat.reducePow, cC, pv, binv, sMRDec1, undef, g4, g5, g6]
    refine hK _ _ ?_
    clear hK K
    refine cv_gen fun G7 hG => ?_
    have g7_2 := congrFun hG 2
    have g7_4 := congrFun hG 4
    have g7_5 := congrFun hG 5
    have g7_6 := congrFun hG 6
    have g7_7 := congrFun hG 7
    clear hG
    try simp -implicitDefEqProofs (disch := first | omega | decide) only [seval, -Int.reducePow, -Nat.reducePow, cC, pv, binv, sMRDec1, undef, g4, g5, g6] at g7_2 g7_4 g7_5 g7_6 g7_7
    have g7 := And.intro g7_2 (And.intro g7_4 (And.intro g7_5 (And.intro g7_6 g7_7)))
    refine cv_snap [0, 4, 5, 6] (by decide) fun v' f' hv' hf' => ?_
    simp only [pickL, nth]
    have k4 := hv'.footK hf' (k := 2) rfl (by decide) (by simp [pickL, nth, Res.foot])
    obtain ⟨k1, -⟩ := hv'.snapK hf' 3 rfl (by decide) (by simp [pickL, nth, Res.foot])
    have k3 := hv'.footK hf' (k := 3) rfl (by decide) (by simp [pickL, nth, Res.foot])
    simp only [snap_foot] at k3
    have hty' : ∀ t ∈ ts ++ [⟨d.1, A5, n5, c5, d.2.1⟩], Sd v' (fun y => y ∈ f') 2 t.A t.n t.c (cl fdc t.fs) := by
      intro t ht
      rcases List.mem_append.1 ht with ht | ht
      · exact (hty t ht).same (fun y hy => k1 y (.inl hy)) k3
      · obtain rfl : t = ⟨d.1, A5, n5, c5, d.2.1⟩ := by simpa using ht
        exact Sd.of_own (hv'.holds _ (.tail _ (.tail _ (.head _)))) fun g hg => k4 g (by simpa [Res.foot] using hg)
    clear k4 k1 k3 hv' hf'
    refine cv_region_then rfl ?_
    simp -implicitDefEqProofs (disch := first | omega | decide) only [seval, -Int.reducePow, -Nat.reducePow, cC, pv, binv, sMRDec1, undef, wrap_in, g4, g5, g7]
    refine ⟨⟨j + 1, A7, c7, ts ++ [⟨d.1, A5, n5, c5, d.2.1⟩], sbase c' d.2.2.1 1 A', n' - d.2.2.1, c' - d.2.2.1, l'.drop d.2.2.1, d.2.2.2, v', f', ?_⟩, ?_⟩
    · simp -implicitDefEqProofs (disch := first | omega | decide) only [seval, -Int.reducePow, -Nat.reducePow, cC, pv, binv, sMRDec1, undef, Int.natCast_add, cl_snoc, tyc, g4, g5, g7]
      refine ⟨hsub.drop hdl, ?_, hty'⟩
      rw [List.map_append]
      exact hst
    · simp only [intOf]; omega
  refine cv_exit ?_
  simp only [blockQ, thenQ, if_true, ite_true]
  clear hK K
  refine hK _ _ ?_
  clear hK K
  have hj : ¬ j < v1 ∨ ¬ e' = 0 := by
    by_cases h : j < v1
    · exact .inr fun h0 => of_decide_eq_false hc ⟨h, h0⟩
    · exact .inl h
  have ho := hS'.fin hj
  have hj32 := hS'.1
  have hL' := hsub W hL
  obtain ⟨v2, A2, n2, c2, l2, e2, s2, L2⟩ := hL'.num e' 32 (by omega)
  have hS2 : Lc fnX (decX k) ((), ts.map tyD) v2 0 [] l2 e2 := s2.start ho
  have hsub2 := s2.sub hsub
  have hv2 := s2.le
  have hLw' : ∀ {L w}, St [] W L w → Lt w r A' n' c' l' := fun hw => hsub _ (hLw hw)
  refine cv_gen fun G8 hG => ?_
  have g8_2 := congrFun hG 2
  have g8_4 := congrFun hG 4
  have g8_5 := congrFun hG 5
  clear hG
  try simp -implicitDefEqProofs (disch := first | omega | decide) only [seval, -Int.reducePow, -Nat.reducePow, cC, pv, binv, sMRDec1, undef, g4, g5, g6] at g8_2 g8_4 g8_5
  have g8 := And.intro g8_2 (And.intro g8_4 g8_5)
  refine cv_len 1 rfl fun hl6 => ?_
  refine cv_seq_k fun K hK => ?_
  refine cv_region_then rfl ?_
  simp -implicitDefEqProofs (disch := first | omega | decide) only [seval, -Int.reducePow, -Nat.reducePow, cC, pv, binv, sMRDec1, undef, g4, g5, g8]
  refine callV_mod1 4 (fun w hw => enum_any (most := 32) s2 (hw.hold 4 rfl) (hLw' hw) (by omega)) rfl ?_
  try simp -implicitDefEqProofs (disch := first | omega | decide) only [seval, -Int.reducePow, -Nat.reducePow, cC, pv, binv, sMRDec1, undef, g4, g5, g8]
  refine hK _ _ ?_
  clear hK K
  refine cv_seq_k fun K hK => ?_
  refine cv_seq_k fun K hK => ?_
  refine cv_region_then rfl ?_
  simp -implicitDefEqProofs (disch := first | omega | decide) only [seval, -Int.reducePow, -Nat.reducePow, cC, pv, binv, sMRDec1, undef, g4, g5, g8]
  refine hK _ _ ?_
  clear hK K
  refine cv_gen fun G9 hG => ?_
  have g9_2 := congrFun hG 2
  have g9_4 := congrFun hG 4
  have g9_5 := congrFun hG 5
  have g9_6 := congrFun hG 6
  have g9_8 := congrFun hG 8
  clear hG
  try simp -implicitDefEqProofs (disch := first | omega | decide) only [seval, -Int.reducePow, -Nat.reducePow, cC, pv, binv, sMRDec1, undef, g4, g5, g8] at g9_2 g9_4 g9_5 g9_6 g9_8
  have g9 := And.intro g9_2 (And.intro g9_4 (And.intro g9_5 (And.intro g9_6 g9_8)))
  refine cv_block ?_
  refine cv_snap [2, 3, 4] (by decide) fun v5 f5 hv5 hf5 => ?_
  simp only [pickL, nth]
  have k4 := hv5.footK hf5 (k := 1) rfl (by decide) (by simp [pickL, nth, Res.foot])
  obtain ⟨k1, -⟩ := hv5.snapK hf5 0 rfl (by decide) (by simp [pickL, nth, Res.foot])
  have k3 := hv5.footK hf5 (k := 0) rfl (by decide) (by simp [pickL, nth, Res.foot])
  simp only [snap_foot] at k3
  have hT5 : Sd v5 (fun y => y ∈ f5) 2 A6 j c6 (cl tyc ts) := Sd.of_own (hv5.holds _ (.tail _ (.head _))) fun g hg => k4 g (by simpa [Res.foot] using hg)
  have hty5 : ∀ t ∈ ts, Sd v5 (fun y => y ∈ f5) 2 t.A t.n t.c (cl fdc t.fs) := fun t ht => (hty t ht).same (fun y hy => k1 y (.inl hy)) k3
  clear k4 k1 k3 hv5 hf5 hty
  refine cv_nil 42 4 ?_
  refine cv_pick [1, 0, 2, 3, 4] (by decide) ?_
  simp only [pickL, nth]
  refine cv_loop (fun F' L' => ∃ (i : Nat) (A7 : Option Addr) (c7 : Nat) (gs : List FnR) (A' : Option Addr) (n' c' : Nat) (l' : List Nat) (e' : Int) (v : World) (f : List Nat), F' 2 = G9 2 ∧ F' 4 = G9 4 ∧ F' 5 = G9 5 ∧ F' 6 = G9 6 ∧ F' 8 = .int .i64 (i : Int) ∧ L' = [snap [] W v f, .row (.slice A7 i c7) 42 4 i (cl fnc gs), .blk b5 30 [.slice A6 j c6, .slice A7 i c7], .blk b2 30 [.slice none 0 0, .slice none 0 0], eyB r A' n' c' e'] ∧ Sub r A0 n0 c0 k A' n' c' l' ∧ (∃ qs, Lc fnX (decX k) ((), ts.map tyD) v2 i qs l' e' ∧ gs.map fnD = qs.map qD) ∧ Sd v (fun y => y ∈ f) 2 A6 j c6 (cl tyc ts) ∧ (∀ t ∈ ts, Sd v (fun y => y ∈ f) 2 t.A t.n t.c (cl fdc t.fs)) ∧ (∀ g ∈ gs, Sd v (fun y => y ∈ f) 2 g.A g.n g.c (cl insc g.code) ∧ ∀ x ∈ g.code, x.arg < 18446744073709551616)) (fun F' L' => 100 - (intOf (F' 8)).toNat) ?_ ?_
  · refine ⟨0, none, 0, [], A2, n2, c2, l2, e2, v5, f5, ?_⟩
    simp -implicitDefEqProofs (disch := first | omega | decide) only [seval, -Int.reducePow, -Nat.reducePow, cC, pv, binv, sMRDec1, undef, g4, g5, g9]
    exact ⟨rfl, hsub2, ⟨[], hS2, rfl⟩, hT5, hty5, by simp⟩
  clear hT5 hty5 hS2 ho hL' hS' hLw' hsub hsub2
  intro G10 L' hI
  obtain ⟨i, A7, c7, gs, A', n', c', l', e', v, f, q2, q4, q5, q6, q8, rfl, ⟨hsub, ⟨qs, hS', hqs⟩, hT, hty, hfn⟩⟩ := hI
  have g10_2 := q2.trans g9_2
  have g10_4 := q4.trans g9_4
  have g10_5 := q5.trans g9_5
  have g10_6 := q6.trans g9_6
  have g10_8 := q8
  clear q2 q4 q5 q6 q8
  have g10 := And.intro g10_2 (And.intro g10_4 (And.intro g10_5 (And.intro g10_6 g10_8)))
  refine cv_seq_k fun K hK => ?_
  refine cv_seq_k fun K hK => ?_
  refine cv_cut (fun _ _ => True) (fun F' L' => F' 2 = G10 2 ∧ F' 4 = G10 4 ∧ F' 5 = G10 5 ∧ F' 6 = G10 6 ∧ F' 8 = G10 8 ∧ F' 62 = .bool (decide (i < v2 ∧ e' = 0)) ∧ L' = [snap [] W v f, .row (.slice A7 i c7) 42 4 i (cl fnc gs), .blk b5 30 [.slice A6 j c6, .slice A7 i c7], .blk b2 30 [.slice none 0 0, .slice none 0 0], eyB r A' n' c' e']) ?_ ?_
  · refine cv_region_then rfl ?_
    simp -implicitDefEqProofs (disch := first | omega | decide) only [seval, -Int.reducePow, -Nat.reducePow, cC, pv, binv, sMRDec1, undef, g4, g5, g9, g10]
    repeat' ((first | refine vcg_cases (fun hg => ?_) (fun hg => ?_) | refine vdg_cases (fun hg => ?_) (fun hg => ?_)) <;> ((try simp only [Bool.not_eq_true', Bool.not_eq_false', decide_eq_true_eq, decide_eq_false_iff_not] at hg); (try simp -implicitDefEqProofs (disch := first | omega | decide) only [seval, -Int.reducePow, -Nat.reducePow, cC, pv, binv, sMRDec1, undef, hg, g4, g5, g9, g10])))
    all_goals (repeat' refine And.intro ?_ ?_)
    all_goals (first | with_reducible rfl | (refine congrArg Value.bool ?_; rw [Bool.eq_iff_iff]; (try simp only [decide_eq_true_eq, eq_self, true_and, and_true, false_and, and_false, true_or, or_true, false_or, or_false, not_true_eq_false, not_false_eq_true, true_iff, iff_true, false_iff, iff_false, Bool.false_eq_true, Bool.not_eq_true', Bool.not_eq_true, decide_eq_false_iff_not, Bool.and_eq_true, Bool.or_eq_true]) <;> omega) | (refine congrArg (Value.int _) ?_; omega) | omega)
  intro G11 L' _ hF
  obtain ⟨q2, q4, q5, q6, q8, q62, rfl⟩ := hF
  have g11_2 := q2.trans g10_2
  have g11_4 := q4.trans g10_4
  have g11_5 := q5.trans g10_5
  have g11_6 := q6.trans g10_6
  have g11_8 := q8.trans g10_8
  have g11_62 := q62
  clear q2 q4 q5 q6 q8 q62
  have g11 := And.intro g11_2 (And.intro g11_4 (And.intro g11_5 (And.intro g11_6 (And.intro g11_8 g11_62))))
  refine hK _ _ ?_
  clear hK K
  refine cv_cond ?_
  simp -implicitDefEqProofs (disch := first | omega | decide) only [seval, -Int.reducePow, -Nat.reducePow, cC, pv, binv, sMRDec1, undef, g4, g5, g9, g10, g11]
  refine ⟨fun hc => ?_, fun hc => ?_⟩
  · obtain ⟨hj, h0⟩ := of_decide_eq_true hc
    subst h0
    have hL' := hsub W hL
    have hLw' : ∀ {L w}, St [] W L w → Lt w r A' n' c' l' := fun hw => hsub _ (hLw hw)
    obtain ⟨v3, A3, n3, c3, l3, e3, s3, L3⟩ := hL'.num 0 1024 (by omega)
    obtain ⟨v4, A4, n4, c4, l4, e4, s4, L4⟩ := L3.num e3 1024 (by omega)
    obtain ⟨v5, A5, n5, c5, l5, e5, s5, L5⟩ := L4.num e4 1024 (by omega)
    obtain ⟨v6, A8, n8, c8, l8, e8, s6, L6⟩ := L5.num e5 1024 (by omega)
    have u3 := s3.sub hsub
    have u4 := s4.sub u3
    have u5 := s5.sub u4
    have u6 := s6.sub u5
    have hS6 : Lc inX (fnX l') ((((), v3), v4), v5) v6 0 [] l8 e8 := s6.start (s5.out (s4.out (s3.out (.start () l'))))
    have hv6 := s6.le
    refine cv_skip ?_
    try simp only [blockQ, thenQ]
    refine hK _ _ ?_
    clear hK K
    refine cv_seq_k fun K hK => ?_
    refine cv_block ?_
    refine cv_seq_k fun K hK => ?_
    refine cv_region_then rfl ?_
    simp -implicitDefEqProofs (disch := first | omega | decide) only [seval, -Int.reducePow, -Nat.reducePow, cC, pv, binv, sMRDec1, undef, g4, g5, g9, g10, g11]
    intro b9 hb9 h9
    refine hK _ _ ?_
    clear hK K
    refine cv_seq_k fun K hK => ?_
    refine cv_region_then rfl ?_
    simp -implicitDefEqProofs (disch := first | omega | decide) only [seval, -Int.reducePow, -Nat.reducePow, cC, pv, binv, sMRDec1, undef, g4, g5, g9, g10, g11]
    refine callV_mod1 5 (fun w hw => enum_any (most := 1024) s3 (hw.hold 5 rfl) (hLw' hw) (by omega)) rfl ?_
    try simp -implicitDefEqProofs (disch := first | omega | decide) only [seval, -Int.reducePow, -Nat.reducePow, cC, pv, binv, sMRDec1, undef, g4, g5, g9, g10, g11]
    refine hK _ _ ?_
    clear hK K
    refine cv_seq_k fun K hK => ?_
    refine cv_region_then rfl ?_
    simp -implicitDefEqProofs (disch := first | omega | decide) only [seval, -Int.reducePow, -Nat.reducePow, cC, pv, binv, sMRDec1, undef, g4, g5, g9, g10, g11]
    refine callV_mod1 5 (fun w hw => enum_any (most := 1024) s4 (hw.hold 5 rfl) (u3 _ (hLw hw)) (by omega)) rfl ?_
    try simp -implicitDefEqProofs (disch := first | omega | decide) only [seval, -Int.reducePow, -Nat.reducePow, cC, pv, binv, sMRDec1, undef, g4, g5, g9, g10, g11]
    refine hK _ _ ?_
    clear hK K
    refine cv_seq_k fun K hK => ?_
    refine cv_region_then rfl ?_
    simp -implicitDefEqProofs (disch := first | omega | decide) only [seval, -Int.reducePow, -Nat.reducePow, cC, pv, binv, sMRDec1, undef, g4, g5, g9, g10, g11]
    refine callV_mod1 5 (fun w hw => enum_any (most := 1024) s5 (hw.hold 5 rfl) (u4 _ (hLw hw)) (by omega)) rfl ?_
    try simp -implicitDefEqProofs (disch := first | omega | decide) only [seval, -Int.reducePow, -Nat.reducePow, cC, pv, binv, sMRDec1, undef, g4, g5, g9, g10, g11]
    refine hK _ _ ?_
    clear hK K
    refine cv_seq_k fun K hK => ?_
    refine cv_region_then rfl ?_
    simp -implicitDefEqProofs (disch := first | omega | decide) only [seval, -Int.reducePow, -Nat.reducePow, cC, pv, binv, sMRDec1, undef, g4, g5, g9, g10, g11]
    refine callV_mod1 5 (fun w hw => enum_any (most := 1024) s6 (hw.hold 5 rfl) (u5 _ (hLw hw)) (by omega)) rfl ?_
    try simp -implicitDefEqProofs (disch := first | omega | decide) only [seval, -Int.reducePow, -Nat.reducePow, cC, pv, binv, sMRDec1, undef, g4, g5, g9, g10, g11]
    refine hK _ _ ?_
    clear hK K
    refine cv_seq_k fun K hK => ?_
    refine cv_seq_k fun K hK => ?_
    refine cv_region_then rfl ?_
    simp -implicitDefEqProofs (disch := first | omega | decide) only [seval, -Int.reducePow, -Nat.reducePow, cC, pv, binv, sMRDec1, undef, g4, g5, g9, g10, g11]
    refine hK _ _ ?_
    clear hK K
    refine cv_gen fun G12 hG => ?_
    have g12_2 := congrFun hG 2
    have g12_4 := congrFun hG 4
    have g12_5 := congrFun hG 5
    have g12_6 := congrFun hG 6
    have g12_8 := congrFun hG 8
    have g12_9 := congrFun hG 9
    have g12_10 := congrFun hG 10
    have g12_11 := congrFun hG 11
    clear hG
    try simp -implicitDefEqProofs (disch := first | omega | decide) only [seval, -Int.reducePow, -Nat.reducePow, cC, pv, binv, sMRDec1, undef, g4, g5, g9, g10, g11] at g12_2 g12_4 g12_5 g12_6 g12_8 g12_9 g12_10 g12_11
    have g12 := And.intro g12_2 (And.intro g12_4 (And.intro g12_5 (And.intro g12_6 (And.intro g12_8 (And.intro g12_9 (And.intro g12_10 g12_11))))))
    refine cv_block ?_
    refine cv_nil 39 2 ?_
    refine cv_loop (fun F' L' => ∃ (q : Nat) (A9 : Option Addr) (c9 : Nat) (cs : List Ins) (A' : Option Addr) (n' c' : Nat) (y' : List Nat) (e' : Int), F' 2 = G12 2 ∧ F' 4 = G12 4 ∧ F' 5 = G12 5 ∧ F' 6 = G12 6 ∧ F' 8 = G12 8 ∧ F' 9 = G12 9 ∧ F' 10 = G12 10 ∧ F' 11 = .int .i64 (q : Int) ∧ L' = [.row (.slice A9 q c9) 39 2 q (cl insc cs), .blk b9 42 [.int .i64 (v3 : Int), .int .i64 (v4 : Int), .int .i64 (v5 : Int), .slice A9 q c9], snap [] W v f, .row (.slice A7 i c7) 42 4 i (cl fnc gs), .blk b5 30 [.slice A6 j c6, .slice A7 i c7], .blk b2 30 [.slice none 0 0, .slice none 0 0], eyB r A' n' c' e'] ∧ Sub r A0 n0 c0 k A' n' c' y' ∧ Lc inX (fnX l') ((((), v3), v4), v5) v6 q cs y' e' ∧ (∀ x ∈ cs, x.arg < 18446744073709551616)) (fun F' L' => 2000 - (intOf (F' 11)).toNat) ?_ ?_
    · refine ⟨0, none, 0, [], A8, n8, c8, l8, e8, ?_⟩
      simp -implicitDefEqProofs (disch := first | omega | decide) only [seval, -Int.reducePow, -Nat.reducePow, cC, pv, binv, sMRDec1, undef, g4, g5, g9, g10, g12]
      exact ⟨rfl, u6, hS6, by simp⟩
    clear hS6 u6 u5 u4 u3 L6 L5 L4 L3 s6 s5 s4 s3 hLw' hL'
    intro G13 L' hI
    obtain ⟨q, A9, c9, cs, A', n', c', y', e', q2, q4, q5, q6, q8, q9, q10, q11, rfl, ⟨hsq, hSq, harg⟩⟩ := hI
    have g13_2 := q2.trans g12_2
    have g13_4 := q4.trans g12_4
    have g13_5 := q5.trans g12_5
    have g13_6 := q6.trans g12_6
    have g13_8 := q8.trans g12_8
    have g13_9 := q9.trans g12_9
    have g13_10 := q10.trans g12_10
    have g13_11 := q11
    clear q2 q4 q5 q6 q8 q9 q10 q11
    have g13 := And.intro g13_2 (And.intro g13_4 (And.intro g13_5 (And.intro g13_6 (And.intro g13_8 (And.intro g13_9 (And.intro g13_10 g13_11))))))
    refine cv_seq_k fun K hK => ?_
    refine cv_seq_k fun K hK => ?_
    refine cv_cut (fun _ _ => True) (fun F' L' => F' 2 = G13 2 ∧ F' 4 = G13 4 ∧ F' 5 = G13 5 ∧ F' 6 = G13 6 ∧ F' 8 = G13 8 ∧ F' 9 = G13 9 ∧ F' 10 = G13 10 ∧ F' 11 = G13 11 ∧ F' 85 = .bool (decide (q < v6 ∧ e' = 0)) ∧ L' = [.row (.slice A9 q c9) 39 2 q (cl insc cs), .blk b9 42 [.int .i64 (v3 : Int), .int .i64 (v4 : Int), .int .i64 (v5 : Int), .slice A9 q c9], snap [] W v f, .row (.slice A7 i c7) 42 4 i (cl fnc gs), .blk b5 30 [.slice A6 j c6, .slice A7 i c7], .blk b2 30 [.slice none 0 0, .slice none 0 0], eyB r A' n' c' e']) ?_ ?_
    · refine cv_region_then rfl ?_
      simp -implicitDefEqProofs (disch := first | omega | decide) only [seval, -Int.reducePow, -Nat.reducePow, cC, pv, binv, sMRDec1, undef, g4, g5, g9, g10, g12, g13]
      repeat' ((first | refine vcg_cases (fun hg => ?_) (fun hg => ?_) | refine vdg_cases (fun hg => ?_) (fun hg => ?_)) <;> ((try simp only [Bool.not_eq_true', Bool.not_eq_false', decide_eq_true_eq, decide_eq_false_iff_not] at hg); (try simp -implicitDefEqProofs (disch := first | omega | decide) only [seval, -Int.reducePow, -Nat.reducePow, cC, pv, binv, sMRDec1, undef, hg, g4, g5, g9, g10, g12, g13])))
      all_goals (repeat' refine And.intro ?_ ?_)
      all_goals (first | with_reducible rfl | (refine congrArg Value.bool ?_; rw [Bool.eq_iff_iff]; (try simp only [decide_eq_true_eq, eq_self, true_and, and_true, false_and, and_false, true_or, or_true, false_or, or_false, not_true_eq_false, not_false_eq_true, true_iff, iff_true, false_iff, iff_false, Bool.false_eq_true, Bool.not_eq_true', Bool.not_eq_true, decide_eq_false_iff_not, Bool.and_eq_true, Bool.or_eq_true]) <;> omega) | (refine congrArg (Value.int _) ?_; omega) | omega)
    intro G14 L' _ hF
    obtain ⟨q2, q4, q5, q6, q8, q9, q10, q11, q85, rfl⟩ := hF
    have g14_2 := q2.trans g13_2
    have g14_4 := q4.trans g13_4
    have g14_5 := q5.trans g13_5
    have g14_6 := q6.trans g13_6
    have g14_8 := q8.trans g13_8
    have g14_9 := q9.trans g13_9
    have g14_10 := q10.trans g13_10
    have g14_11 := q11.trans g13_11
    have g14_85 := q85
    clear q2 q4 q5 q6 q8 q9 q10 q11 q85
    have g14 := And.intro g14_2 (And.intro g14_4 (And.intro g14_5 (And.intro g14_6 (And.intro g14_8 (And.intro g14_9 (And.intro g14_10 (And.intro g14_11 g14_85)))))))
    refine hK _ _ ?_
    clear hK K
    refine cv_cond ?_
    simp -implicitDefEqProofs (disch := first | omega | decide) only [seval, -Int.reducePow, -Nat.reducePow, cC, pv, binv, sMRDec1, undef, g4, g5, g9, g10, g12, g13, g14]
    refine ⟨fun hc => ?_, fun hc => ?_⟩
    · obtain ⟨hq, h0⟩ := of_decide_eq_true hc
      subst h0
      have hLq := hsq W hL
      have hLwq : ∀ {L w}, St [] W L w → Lt w r A' n' c' y' := fun hw => hsq _ (hLw hw)
      obtain ⟨d, hd⟩ : ∃ d, decI y' = d := ⟨_, rfl⟩
      have ho := inX_out y'
      have hdl := decI_le hLq.bt
      rw [hLq.len] at hdl
      rw [hd] at ho hdl
      have hst := hSq.step hq ho
      have hk := fun w h1 h2 => einstr_any r A' n' c' y' w h1 h2
      rw [hd] at hk
      refine cv_skip ?_
      try simp only [blockQ, thenQ]
      refine hK _ _ ?_
      clear hK K
      refine cv_seq_k fun K hK => ?_
      refine cv_block ?_
      refine cv_q ?_
      refine cv_draw_of (pickL [1] _) (fun w hw => hw.pick (by decide)) (by simp only [pickL, nth, suf_cons, suf_nil, List.mem_cons, true_or, or_true, and_true, eq_self]) [(true, 0), (true, 1), (true, 2), (false, 3), (false, 4), (false, 5), (true, 6), (false, 7)] [7] mixA rfl (by kernel_rfl) (by kernel_rfl) rfl rfl ?_
      simp -implicitDefEqProofs (disch := first | omega | decide) only [seval, -Int.reducePow, -Nat.reducePow, cC, pv, binv, sMRDec1, undef, g4, g5, g9, g10, g12, g13, g14]
      refine callV_mod1 6 (fun w hw => hk w (hw.hold 6 rfl) (hLwq hw)) rfl ?_
      try simp -implicitDefEqProofs (disch := first | omega | decide) only [seval, -Int.reducePow, -Nat.reducePow, cC, pv, binv, sMRDec1, undef, insV, g4, g5, g9, g10, g12, g13, g14]
      intro b92 hb92 h92
      refine appV_at 1 tap40 rfl (fun w hw => src_blk (size := 2) (.head _) rfl hw) rfl (by omega) (by omega) ?_
      intro A5 c5 hl5 hr5
      simp -implicitDefEqProofs (disch := first | omega | decide) only [seval, -Int.reducePow, -Nat.reducePow, cC, pv, binv, sMRDec1, undef, g4, g5, g9, g10, g12, g13, g14]
      refine hK _ _ ?_
      clear hK K
      refine cv_gen fun G15 hG => ?_
      have g15_2 := congrFun hG 2
      have g15_4 := congrFun hG 4
      have g15_5 := congrFun hG 5
      have g15_6 := congrFun hG 6
      have g15_8 := congrFun hG 8
      have g15_9 := congrFun hG 9
      have g15_10 := congrFun hG 10
      have g15_11 := congrFun hG 11
      clear hG
      try simp -implicitDefEqProofs (disch := first | omega | decide) only [seval, -Int.reducePow, -Nat.reducePow, cC, pv, binv, sMRDec1, undef, g4, g5, g9, g10, g12, g13, g14] at g15_2 g15_4 g15_5 g15_6 g15_8 g15_9 g15_10 g15_11
      have g15 := And.intro g15_2 (And.intro g15_4 (And.intro g15_5 (And.intro g15_6 (And.intro g15_8 (And.intro g15_9 (And.intro g15_10 g15_11))))))
      refine cv_pick [0, 2, 3, 4, 5, 6, 7] (by decide) ?_
      simp only [pickL, nth]
      refine cv_region_then rfl ?_
      simp -implicitDefEqProofs (disch := first | omega | decide) only [seval, -Int.reducePow, -Nat.reducePow, cC, pv, binv, sMRDec1, undef, wrap_in, g4, g5, g9, g10, g12, g13, g15]
      refine ⟨⟨q + 1, A5, c5, cs ++ [d.1], sbase c' d.2.1 1 A', n' - d.2.1, c' - d.2.1, y'.drop d.2.1, d.2.2, ?_⟩, ?_⟩
      · simp -implicitDefEqProofs (disch := first | omega | decide) only [seval, -Int.reducePow, -Nat.reducePow, cC, pv, binv, sMRDec1, undef, Int.natCast_add, cl_snoc, insc, g4, g5, g9, g10, g12, g13, g15]
        repeat' (first | with_reducible exact trivial | with_reducible rfl | omega | refine And.intro ?_ ?_)
        · exact hsq.drop hdl.2.1
        · intro x hx
          rcases List.mem_append.1 hx with hx | hx
          · exact harg x hx
          · obtain rfl : x = d.1 := by simpa using hx
            exact hdl.1
      · simp only [intOf]; omega
    refine cv_exit ?_
    simp only [blockQ, thenQ, if_true, ite_true]
    clear hK K
    refine hK _ _ ?_
    clear hK K
    have hq : ¬ q < v6 ∨ ¬ e' = 0 := by
      by_cases h : q < v6
      · exact .inr fun h0 => of_decide_eq_false hc ⟨h, h0⟩
      · exact .inl h
    have ho := hSq.fin hq
    have hst := hS'.step hj ho
    refine cv_region_q rfl ?_
    simp -implicitDefEqProofs (disch := first | omega | decide) only [seval, -Int.reducePow, -Nat.reducePow, cC, pv, binv, sMRDec1, undef, g4, g5, g9, g10, g12, g13, g14]
    intro b98 hb98 h98
    refine appV_at 4 tap28 rfl (fun w hw => src_blk (size := 4) (.head _) rfl hw) rfl (by omega) (by omega) ?_
    intro A5 c5 hl5 hr5
    simp -implicitDefEqProofs (disch := first | omega | decide) only [seval, -Int.reducePow, -Nat.reducePow, cC, pv, binv, sMRDec1, undef, g4, g5, g9, g10, g12, g13, g14]
    refine hK _ _ ?_
    clear hK K
    refine cv_gen fun G16 hG => ?_
    have g16_2 := congrFun hG 2
    have g16_4 := congrFun hG 4
    have g16_5 := congrFun hG 5
    have g16_6 := congrFun hG 6
    have g16_8 := congrFun hG 8
    clear hG
    try simp -implicitDefEqProofs (disch := first | omega | decide) only [seval, -Int.reducePow, -Nat.reducePow, cC, pv, binv, sMRDec1, undef, g4, g5, g9, g10, g12, g13, g14] at g16_2 g16_4 g16_5 g16_6 g16_8
    have g16 := And.intro g16_2 (And.intro g16_4 (And.intro g16_5 (And.intro g16_6 g16_8)))
    refine cv_snap [0, 5, 6, 7] (by decide) fun v' f' hv' hf' => ?_
    simp only [pickL, nth]
    obtain ⟨k1, -⟩ := hv'.snapK hf' 4 rfl (by decide) (by simp [pickL, nth, Res.foot])
    have k3 := hv'.footK hf' (k := 4) rfl (by decide) (by simp [pickL, nth, Res.foot])
    have k4 := hv'.footK hf' (k := 2) rfl (by decide) (by simp [pickL, nth, Res.foot])
    simp only [snap_foot] at k3
    have hT' : Sd v' (fun y => y ∈ f') 2 A6 j c6 (cl tyc ts) := hT.same (fun y hy => k1 y (.inl hy)) k3
    have hty' : ∀ t ∈ ts, Sd v' (fun y => y ∈ f') 2 t.A t.n t.c (cl fdc t.fs) := fun t ht => (hty t ht).same (fun y hy => k1 y (.inl hy)) k3
    have hfn' : ∀ h ∈ gs ++ [⟨(v3 : Int), (v4 : Int), (v5 : Int), A9, q, c9, cs⟩], Sd v' (fun y => y ∈ f') 2 h.A h.n h.c (cl insc h.code) ∧ ∀ x ∈ h.code, x.arg < 18446744073709551616 := by
      intro h hh
      rcases List.mem_append.1 hh with hh | hh
      · exact ⟨(hfn h hh).1.same (fun y hy => k1 y (.inl hy)) k3, (hfn h hh).2⟩
      · obtain rfl : h = ⟨(v3 : Int), (v4 : Int), (v5 : Int), A9, q, c9, cs⟩ := by simpa using hh
        exact ⟨Sd.of_own (hv'.holds _ (.tail _ (.tail _ (.head _)))) fun g hg => k4 g (by simpa [Res.foot] using hg), harg⟩
    clear k1 k3 k4 hv' hf' hT hty hfn
    refine cv_region_then rfl ?_
    simp -implicitDefEqProofs (disch := first | omega | decide) only [seval, -Int.reducePow, -Nat.reducePow, cC, pv, binv, sMRDec1, undef, wrap_in, g4, g5, g9, g10, g12, g13, g16]
    refine ⟨⟨i + 1, A5, c5, gs ++ [⟨(v3 : Int), (v4 : Int), (v5 : Int), A9, q, c9, cs⟩], A', n', c', y', e', v', f', ?_⟩, ?_⟩
    · simp -implicitDefEqProofs (disch := first | omega | decide) only [seval, -Int.reducePow, -Nat.reducePow, cC, pv, binv, sMRDec1, undef, Int.natCast_add, cl_snoc, fnc, g4, g5, g9, g10, g12, g13, g16]
      refine ⟨hsq, ⟨_, hst, by rw [List.map_append, List.map_append, hqs, List.map_singleton, List.map_singleton]; rfl⟩, hT', hty', hfn'⟩
    · simp only [intOf]; omega
  refine cv_exit ?_
  simp only [blockQ, thenQ, if_true, ite_true]
  clear hK K
  refine hK _ _ ?_
  clear hK K
  have hj : ¬ i < v2 ∨ ¬ e' = 0 := by
    by_cases h : i < v2
    · exact .inr fun h0 => of_decide_eq_false hc ⟨h, h0⟩
    · exact .inl h
  have ho := hS'.fin hj
  have hi32 := hS'.1
  have hln' := (hsub W hL).len
  refine cv_gen fun G17 hG => ?_
  have g17_2 := congrFun hG 2
  have g17_4 := congrFun hG 4
  have g17_5 := congrFun hG 5
  clear hG
  try simp -implicitDefEqProofs (disch := first | omega | decide) only [seval, -Int.reducePow, -Nat.reducePow, cC, pv, binv, sMRDec1, undef, g4, g5, g9, g10, g11] at g17_2 g17_4 g17_5
  have g17 := And.intro g17_2 (And.intro g17_4 g17_5)
  refine cv_snap [2, 3, 4] (by decide) fun v6 f6 hv6 hf6 => ?_
  simp only [pickL, nth]
  have k4 := hv6.footK hf6 (k := 1) rfl (by decide) (by simp [pickL, nth, Res.foot])
  obtain ⟨k1, -⟩ := hv6.snapK hf6 0 rfl (by decide) (by simp [pickL, nth, Res.foot])
  have k3 := hv6.footK hf6 (k := 0) rfl (by decide) (by simp [pickL, nth, Res.foot])
  simp only [snap_foot] at k3
  obtain ⟨m, hm⟩ : ∃ m : ModR, m = ⟨A6, j, c6, ts, A7, i, c7, gs⟩ := ⟨_, rfl⟩
  have hk6 : ModD v6 (fun y => y ∈ f6) m := by
    subst hm
    exact ⟨hT.same (fun y hy => k1 y (.inl hy)) k3, fun t ht => (hty t ht).same (fun y hy => k1 y (.inl hy)) k3, Sd.of_own (hv6.holds _ (.tail _ (.head _))) fun g hg => k4 g (by simpa [Res.foot] using hg), fun g hg => (hfn g hg).1.same (fun y hy => k1 y (.inl hy)) k3, fun g hg => (hfn g hg).2⟩
  have hkD : ModD v6 (Dm [] W f6) m := hk6.mono fun y hy => .inl hy
  clear k4 k1 k3 hv6 hf6 hT hty hfn
  refine cv_seq_k fun K hK => ?_
  refine cv_cut (fun _ _ => True) (fun F' L' => ∃ (e9 : Int), F' 2 = G17 2 ∧ F' 4 = G17 4 ∧ F' 5 = G17 5 ∧ L' = [snap [] W v6 f6, .blk b5 30 [.slice A6 j c6, .slice A7 i c7], .blk b2 30 [.slice none 0 0, .slice none 0 0], eyB r A' n' c' e9] ∧ e9 = if e' = 0 ∧ 0 < n' then 3 else e') ?_ ?_
  · refine cv_seq_k fun K hK => ?_
    refine cv_cut (fun _ _ => True) (fun F' L' => F' 2 = G17 2 ∧ F' 4 = G17 4 ∧ F' 5 = G17 5 ∧ F' 113 = .bool (decide (e' = 0 ∧ 0 < n')) ∧ L' = [snap [] W v6 f6, .blk b5 30 [.slice A6 j c6, .slice A7 i c7], .blk b2 30 [.slice none 0 0, .slice none 0 0], eyB r A' n' c' e']) ?_ ?_
    · refine cv_region_then rfl ?_
      simp -implicitDefEqProofs (disch := first | omega | decide) only [seval, -Int.reducePow, -Nat.reducePow, cC, pv, binv, sMRDec1, undef, g4, g5, g9, g10, g17]
      repeat' ((first | refine vcg_cases (fun hg => ?_) (fun hg => ?_) | refine vdg_cases (fun hg => ?_) (fun hg => ?_)) <;> ((try simp only [Bool.not_eq_true', Bool.not_eq_false', decide_eq_true_eq, decide_eq_false_iff_not] at hg); (try simp -implicitDefEqProofs (disch := first | omega | decide) only [seval, -Int.reducePow, -Nat.reducePow, cC, pv, binv, sMRDec1, undef, hg, g4, g5, g9, g10, g17])))
      all_goals (repeat' refine And.intro ?_ ?_)
      all_goals (first | with_reducible rfl | (refine congrArg Value.bool ?_; rw [Bool.eq_iff_iff]; (try simp only [decide_eq_true_eq, eq_self, true_and, and_true, false_and, and_false, true_or, or_true, false_or, or_false, not_true_eq_false, not_false_eq_true, true_iff, iff_true, false_iff, iff_false, Bool.false_eq_true, Bool.not_eq_true', Bool.not_eq_true, decide_eq_false_iff_not, Bool.and_eq_true, Bool.or_eq_true]) <;> omega) | (refine congrArg (Value.int _) ?_; omega) | omega)
    intro G18 L' _ hF
    obtain ⟨q2, q4, q5, q113, rfl⟩ := hF
    have g18_2 := q2.trans g17_2
    have g18_4 := q4.trans g17_4
    have g18_5 := q5.trans g17_5
    have g18_113 := q113
    clear q2 q4 q5 q113
    have g18 := And.intro g18_2 (And.intro g18_4 (And.intro g18_5 g18_113))
    refine hK _ _ ?_
    clear hK K
    refine cv_cond ?_
    simp -implicitDefEqProofs (disch := first | omega | decide) only [seval, -Int.reducePow, -Nat.reducePow, cC, pv, binv, sMRDec1, undef, g4, g5, g9, g10, g17, g18]
    refine ⟨fun hc => ?_, fun hc => ?_⟩
    · have h9 := of_decide_eq_true ‹_›
      refine cv_region_q rfl ?_
      simp -implicitDefEqProofs (disch := first | omega | decide) only [seval, -Int.reducePow, -Nat.reducePow, cC, pv, binv, sMRDec1, undef, g4, g5, g9, g10, g17, g18]
      exact ⟨_, rfl, by rw [if_pos h9]⟩
    · have h9 := of_decide_eq_false ‹_›
      refine cv_skip ?_
      try simp only [blockQ, thenQ]
      simp -implicitDefEqProofs (disch := first | omega | decide) only [seval, -Int.reducePow, -Nat.reducePow, cC, pv, binv, sMRDec1, undef, g4, g5, g9, g10, g17, g18]
      exact ⟨_, rfl, by rw [if_neg h9]⟩
  intro G19 L' _ hF
  obtain ⟨e9, q2, q4, q5, rfl, he9⟩ := hF
  have g19_2 := q2.trans g17_2
  have g19_4 := q4.trans g17_4
  have g19_5 := q5.trans g17_5
  clear q2 q4 q5
  have g19 := And.intro g19_2 (And.intro g19_4 g19_5)
  refine hK _ _ ?_
  clear hK K
  have hres : (e9 = 0 → decM l = if (chkM m).1 = 0 then .ok (datM m) else .error (chkM m).1) ∧ (¬ e9 = 0 → decM l = .error e9) := by
    rw [hdec]
    rcases ho with ⟨h0, ho⟩ | ⟨h0, ho⟩
    · by_cases h1 : 0 < n'
      · rw [if_pos ⟨h0, h1⟩] at he9
        refine ⟨fun h => by omega, fun _ => ?_⟩
        have : decL k = .error 3 := by
          unfold decL
          rw [ho]
          dsimp only
          rw [if_neg (fun h => by rw [h] at hln'; simp at hln'; omega)]
        rw [this, he9]
        rfl
      · rw [if_neg (fun h => h1 h.2)] at he9
        have hl0 : l' = [] := List.length_eq_zero_iff.1 (by omega)
        refine ⟨fun _ => decK_ok (q := (((), ts.map tyD), qs)) ?_ ?_, fun h => absurd (he9.trans h0) h⟩
        · unfold decL
          rw [ho]
          dsimp only
          rw [if_pos hl0]
        · subst hm
          unfold datM datQ
          rw [hqs]
          rfl
    · rw [if_neg (fun h => h0 h.1)] at he9
      refine ⟨fun h => absurd (he9.symm.trans h) h0, fun _ => ?_⟩
      rw [decL_err ho, he9]
      rfl
  clear he9 ho hS' hqs
  have hmV : modV m = .agg #[.slice A6 j c6, .slice A7 i c7] := by rw [hm]; rfl
  clear hm
  refine cv_seq_k fun K hK => ?_
  refine cv_cut (fun _ _ => True) (fun F' L' => ∃ (e3 : Int), F' 2 = G19 2 ∧ F' 4 = G19 4 ∧ F' 5 = G19 5 ∧ L' = [snap [] W v6 f6, .blk b5 30 [.slice A6 j c6, .slice A7 i c7], .blk b2 30 [.slice none 0 0, .slice none 0 0], eyB r A' n' c' e3] ∧ e3 = if e9 = 0 then (chkM m).1 else e9) ?_ ?_
  · refine cv_seq_k fun K hK => ?_
    refine cv_region_then rfl ?_
    simp -implicitDefEqProofs (disch := first | omega | decide) only [seval, -Int.reducePow, -Nat.reducePow, cC, pv, binv, sMRDec1, undef, g4, g5, g9, g10, g19]
    refine hK _ _ ?_
    clear hK K
    refine cv_cond ?_
    simp -implicitDefEqProofs (disch := first | omega | decide) only [seval, -Int.reducePow, -Nat.reducePow, cC, pv, binv, sMRDec1, undef, g4, g5, g9, g10, g19]
    refine ⟨fun hc => ?_, fun hc => ?_⟩
    · have he : e9 = 0 := of_decide_eq_true ‹_›
      refine cv_region_q rfl ?_
      simp -implicitDefEqProofs (disch := first | omega | decide) only [seval, -Int.reducePow, -Nat.reducePow, cC, pv, binv, sMRDec1, undef, g4, g5, g9, g10, g19]
      rw [← hmV]
      refine callV_ret (fun w hw => rmcheck_any m w (hkD.at hw 0 rfl)) ?_
      try simp -implicitDefEqProofs (disch := first | omega | decide) only [seval, -Int.reducePow, -Nat.reducePow, cC, pv, binv, sMRDec1, undef, g4, g5, g9, g10, g19]
      exact ⟨_, rfl, by rw [if_pos he]⟩
    · have he : ¬ e9 = 0 := of_decide_eq_false ‹_›
      refine cv_skip ?_
      try simp only [blockQ, thenQ]
      simp -implicitDefEqProofs (disch := first | omega | decide) only [seval, -Int.reducePow, -Nat.reducePow, cC, pv, binv, sMRDec1, undef, g4, g5, g9, g10, g19]
      exact ⟨_, rfl, by rw [if_neg he]⟩
  intro G20 L' _ hF
  obtain ⟨e3, q2, q4, q5, rfl, he3⟩ := hF
  have g20_2 := q2.trans g19_2
  have g20_4 := q4.trans g19_4
  have g20_5 := q5.trans g19_5
  clear q2 q4 q5
  have g20 := And.intro g20_2 (And.intro g20_4 g20_5)
  refine hK _ _ ?_
  clear hK K
  refine cv_seq_k fun K hK => ?_
  refine cv_seq_k fun K hK => ?_
  refine cv_region_then rfl ?_
  simp -implicitDefEqProofs (disch := first | omega | decide) only [seval, -Int.reducePow, -Nat.reducePow, cC, pv, binv, sMRDec1, undef, g4, g5, g9, g10, g20]
  refine hK _ _ ?_
  clear hK K
  refine cv_cond ?_
  simp -implicitDefEqProofs (disch := first | omega | decide) only [seval, -Int.reducePow, -Nat.reducePow, cC, pv, binv, sMRDec1, undef, g4, g5, g9, g10, g20]
  refine ⟨fun hc => ?_, fun hc => ?_⟩
  · have hz : ¬ e3 = 0 := by simpa using ‹(!decide (e3 = 0)) = true›
    have hD : decM l = .error e3 := by
      by_cases he : e9 = 0
      · rw [if_pos he] at he3
        rw [hres.1 he, if_neg (by rw [← he3]; exact hz), he3]
      · rw [if_neg he] at he3
        rw [hres.2 he, he3]
    refine cv_seq_k fun K hK => ?_
    refine cv_draw_of (pickL [3] _) (fun w hw => hw.pick (by decide)) (by simp only [pickL, nth, suf_cons, suf_nil, List.mem_cons, true_or, or_true, and_true, eq_self]) [(true, 0), (true, 1), (true, 2), (true, 3), (true, 4), (false, 5), (true, 6)] [] mixA rfl (by kernel_rfl) (by kernel_rfl) rfl rfl ?_
    simp -implicitDefEqProofs (disch := first | omega | decide) only [seval, -Int.reducePow, -Nat.reducePow, cC, pv, binv, sMRDec1, undef, g4, g5, g9, g10, g20]
    refine hK _ _ ?_
    clear hK K
    refine cv_ret ?_
    simp -implicitDefEqProofs (disch := first | omega | decide) only [seval, -Int.reducePow, -Nat.reducePow, cC, pv, binv, sMRDec1, undef, retQ2, ressV, packV, g4, g5, g9, g10, g20]
    intro w hw
    exact ⟨(zMod, e3), rfl, mdΦ_no _ _ hz hD, hw.below⟩
  have hz : e3 = 0 := by simpa using ‹(!decide (e3 = 0)) = false›
  have he : e9 = 0 := by
    by_cases he : e9 = 0
    · exact he
    · rw [if_neg he] at he3; omega
  have hD : decM l = .ok (datM m) := by
    rw [if_pos he] at he3
    rw [hres.1 he, if_pos (by rw [← he3]; exact hz)]
  refine cv_skip ?_
  try simp only [blockQ, thenQ]
  refine hK _ _ ?_
  clear hK K
  refine cv_seq_k fun K hK => ?_
  refine cv_region_then rfl ?_
  simp -implicitDefEqProofs (disch := first | omega | decide) only [seval, -Int.reducePow, -Nat.reducePow, cC, pv, binv, sMRDec1, undef, g4, g5, g9, g10, g20]
  refine hK _ _ ?_
  clear hK K
  refine cv_ret ?_
  simp -implicitDefEqProofs (disch := first | omega | decide) only [seval, -Int.reducePow, -Nat.reducePow, cC, pv, binv, sMRDec1, undef, retQ2, ressV, packV, g4, g5, g9, g10, g20]
  intro w hw
  exact ⟨(m, 0), by rw [mdV, hmV], ⟨hk6.same (fun y hy => hw.snap_same (.head _) y (.inl hy)) (hw.snapNew 0 rfl (by simp)), .inl ⟨rfl, hD⟩⟩, hw.below⟩
end Go.Proofs.YtlbmnioibiomfaaGreat
/- The reference's EncodeType. -/
namespace Go.Proofs.YtlbmnioibiomfaaGreat
open Go.RowKit Go.Shelf
set_option linter.unusedVariables false
set_option linter.unusedSimpArgs false
set_option maxRecDepth 100000
set_option maxRecDepth 100000 in
theorem sRTEnc1 : type_of% (And.intro (And.intro @fBox.eq_1 @tBox.eq_1) (And.intro @fdV.eq_1 (And.intro @tyV.eq_1 @Nat.mul_one))) := (And.intro (And.intro @fBox.eq_1 @tBox.eq_1) (And.intro @fdV.eq_1 (And.intro @tyV.eq_1 @Nat.mul_one)))
set_option maxHeartbeats 2000000 in
theorem renc_any (A : Option Addr) (n c : Nat) (fs : List Fd) (len : Int) (W : World) (hE : Sl W W.heap.size 2 A n c (cl fdc fs)) :
    Calls Tryz.prog 23 #[tyV len A n c] W (rowP 5 1 (fun v => .tuple #[v, .int .i64 (chk len fs)]) (byt (encT len fs)) W) := by
  have hln : fs.length = n := cl_row fdc_len (by omega) hE.len
  refine calls_cv (M := []) (n := 48) [.tmp 2, .tmp 3] rfl Tryz.func23 rfl rfl (Nat.le_of_ble_eq_true rfl) (St.nil _ _) ?_
  refine cv_seq_k fun K hK => ?_
  refine cv_region_then rfl ?_
  simp -implicitDefEqProofs (disch := first | omega | decide) only [seval, -Int.reducePow, -Nat.reducePow, cC, pv, binv, sRTEnc1, undef]
  intro b hb
  refine hK _ _ ?_
  clear hK K
  refine cv_seq_k fun K hK => ?_
  refine cv_seq_k fun K hK => ?_
  refine cv_region_then rfl ?_
  simp -implicitDefEqProofs (disch := first | omega | decide) only [seval, -Int.reducePow, -Nat.reducePow, cC, pv, binv, sRTEnc1, undef]
  refine callV_ret (fun w hw => rcheck_any A n c fs len w (hE.at hw)) ?_
  try simp -implicitDefEqProofs (disch := first | omega | decide) only [seval, -Int.reducePow, -Nat.reducePow, cC, pv, binv, sRTEnc1, undef]
  refine hK _ _ ?_
  clear hK K
  refine cv_seq_k fun K hK => ?_
  refine cv_region_then rfl ?_
  simp -implicitDefEqProofs (disch := first | omega | decide) only [seval, -Int.reducePow, -Nat.reducePow, cC, pv, binv, sRTEnc1, undef]
  refine hK _ _ ?_
  clear hK K
  refine cv_cond ?_
  simp -implicitDefEqProofs (disch := first | omega | decide) only [seval, -Int.reducePow, -Nat.reducePow, cC, pv, binv, sRTEnc1, undef]
  refine ⟨fun hc => ?_, fun hc => ?_⟩
  · have hz : ¬ chk len fs = 0 := by simpa using hc
    refine cv_seq_k fun K hK => ?_
    refine cv_region_then rfl ?_
    simp -implicitDefEqProofs (disch := first | omega | decide) only [seval, -Int.reducePow, -Nat.reducePow, cC, pv, binv, sRTEnc1, undef]
    refine hK _ _ ?_
    clear hK K
    refine cv_ret ⟨_, (by simp -implicitDefEqProofs (disch := first | omega | decide) only [seval, -Int.reducePow, -Nat.reducePow, cC, pv, binv, sRTEnc1, undef]; rfl), fun w hw => ?_⟩
    have hT : encT len fs = [] := by unfold encT; rw [if_neg hz]
    exact ⟨none, 0, 0, rfl, by rw [hT]; exact World.ownsRow_nil _ _ _ _, hw.below⟩
  have hz : chk len fs = 0 := by simpa using hc
  have hT : encT len fs = encB len fs := by unfold encT; rw [if_pos hz]
  obtain ⟨q1, q2, q3, q4, q5, q6, q7⟩ := chk_zero hz
  have e1 : IntKind.u64.wrap len = ((len.toNat : Nat) : Int) := u64_toNat (by omega) (by omega)
  have e2 : IntKind.u64.wrap (n : Int) = (n : Int) := u64_in (by omega)
  refine cv_skip ?_
  try simp only [blockQ, thenQ]
  refine hK _ _ ?_
  clear hK K
  refine cv_seq_k fun K hK => ?_
  refine cv_region_then rfl ?_
  simp -implicitDefEqProofs (disch := first | omega | decide) only [seval, -Int.reducePow, -Nat.reducePow, cC, pv, binv, sRTEnc1, undef, e1]
  refine callV_row (fun A' n' c' => .slice A' n' c') (fun w hw => rput_any none 0 0 [] len.toNat w (Sl.nil 1) (by omega) (by omega)) ?_
  intro A1 n1 c1 hl1 _
  simp -implicitDefEqProofs (disch := first | omega | decide) only [seval, -Int.reducePow, -Nat.reducePow, cC, pv, binv, sRTEnc1, undef]
  refine hK _ _ ?_
  clear hK K
  have hn1 : n1 ≤ 10 := by have := byt_row hl1; have := putU_len10 (n := len.toNat) (by omega); simp at *; omega
  refine cv_seq_k fun K hK => ?_
  refine cv_region_then rfl ?_
  simp -implicitDefEqProofs (disch := first | omega | decide) only [seval, -Int.reducePow, -Nat.reducePow, cC, pv, binv, sRTEnc1, undef, e2]
  refine callV_row (fun A' n' c' => .slice A' n' c') (fun w hw => rput_any A1 n1 c1 _ n w (hw.slb 0 rfl) (by omega) (by omega)) ?_
  intro A2 n2 c2 hl2 _
  simp -implicitDefEqProofs (disch := first | omega | decide) only [seval, -Int.reducePow, -Nat.reducePow, cC, pv, binv, sRTEnc1, undef]
  refine hK _ _ ?_
  clear hK K
  refine cv_pick [0, 2] (by decide) ?_
  simp only [pickL, nth]
  refine cv_seq_k fun K hK => ?_
  refine cv_seq_k fun K hK => ?_
  refine cv_region_then rfl ?_
  simp -implicitDefEqProofs (disch := first | omega | decide) only [seval, -Int.reducePow, -Nat.reducePow, cC, pv, binv, sRTEnc1, undef]
  refine hK _ _ ?_
  clear hK K
  refine cv_gen fun G1 hG => ?_
  have g1_1 := congrFun hG 1
  have g1_5 := congrFun hG 5
  have g1_6 := congrFun hG 6
  clear hG
  try simp -implicitDefEqProofs (disch := first | omega | decide) only [seval, -Int.reducePow, -Nat.reducePow, cC, pv, binv, sRTEnc1, undef] at g1_1 g1_5 g1_6
  have g1 := And.intro g1_1 (And.intro g1_5 g1_6)
  refine cv_block ?_
  refine cv_loop (fun F' L' => ∃ (k : Nat) (A6 : Option Addr) (n6 c6 : Nat), F' 1 = G1 1 ∧ F' 5 = .slice A6 n6 c6 ∧ F' 6 = .int .i64 (k : Int) ∧ L' = [.row (.slice A6 n6 c6) 5 1 n6 (byt (putU len.toNat ++ putU n ++ (fs.take k).flatMap encFd)), tBox b len A n c] ∧ k ≤ n ∧ (putU len.toNat ++ putU n ++ (fs.take k).flatMap encFd).length = n6) (fun F' L' => 40 - (intOf (F' 6)).toNat) ?_ ?_
  · refine ⟨0, A2, n2, c2, ?_⟩
    simp -implicitDefEqProofs (disch := first | omega | decide) only [seval, -Int.reducePow, -Nat.reducePow, cC, pv, binv, sRTEnc1, undef, List.flatMap_nil, g1]
    exact ⟨by omega, byt_row hl2⟩
  intro G2 L' hI
  obtain ⟨k, A6, n6, c6, q1, q5, q6, rfl, ⟨hk, h6⟩⟩ := hI
  have g2_1 := q1.trans g1_1
  have g2_5 := q5
  have g2_6 := q6
  clear q1 q5 q6
  have g2 := And.intro g2_1 (And.intro g2_5 g2_6)
  refine cv_seq_k fun K hK => ?_
  refine cv_seq_k fun K hK => ?_
  refine cv_region_then rfl ?_
  simp -implicitDefEqProofs (disch := first | omega | decide) only [seval, -Int.reducePow, -Nat.reducePow, cC, pv, binv, sRTEnc1, undef, g1, g2]
  refine hK _ _ ?_
  clear hK K
  refine cv_cond ?_
  simp -implicitDefEqProofs (disch := first | omega | decide) only [seval, -Int.reducePow, -Nat.reducePow, cC, pv, binv, sRTEnc1, undef, g1, g2]
  refine ⟨fun hc => ?_, fun hc => ?_⟩
  · refine cv_skip ?_
    try simp only [blockQ, thenQ]
    have hlt : k < n := by have := of_decide_eq_true ‹_›; omega
    obtain ⟨b0, off, rfl, hb0, -⟩ := hE.cells (by omega)
    obtain ⟨x, hx⟩ := some_of (l := fs) (i := k) (by omega)
    have hx0 := Fd.err_zero (q6 x (List.mem_of_getElem? hx))
    have e3 : IntKind.u64.wrap x.kind = ((x.kind.toNat : Nat) : Int) := u64_toNat (by omega) (by omega)
    have hfl := flat_len (okFs_take q6 k)
    have h20 : n6 ≤ 300 := by
      have h1 := putU_len10 (n := len.toNat) (by omega)
      have h2 := putU_len10 (n := n) (by omega)
      rw [List.length_append, List.length_append] at h6
      rw [List.length_take] at hfl
      omega
    have e4 : IntKind.u64.wrap x.count = ((x.count.toNat : Nat) : Int) := u64_toNat (by omega) (by omega)
    refine hK _ _ ?_
    clear hK K
    refine cv_seq_k fun K hK => ?_
    refine cv_block ?_
    refine cv_seq_k fun K hK => ?_
    refine cv_region_then rfl ?_
    simp -implicitDefEqProofs (disch := first | omega | decide) only [seval, -Int.reducePow, -Nat.reducePow, cC, pv, binv, sRTEnc1, undef, g1, g2]
    refine ⟨_, hE.fld0 hx, fun tok htok => ?_⟩
    subst htok
    simp -implicitDefEqProofs (disch := first | omega | decide) only [seval, -Int.reducePow, -Nat.reducePow, cC, pv, binv, sRTEnc1, undef, e3, g1, g2]
    refine callV_row (fun A' n' c' => .slice A' n' c') (fun w hw => rput_any A6 n6 c6 _ x.kind.toNat w (hw.slb 0 rfl) (by omega) (by omega)) ?_
    intro A7 n7 c7 hl7 _
    simp -implicitDefEqProofs (disch := first | omega | decide) only [seval, -Int.reducePow, -Nat.reducePow, cC, pv, binv, sRTEnc1, undef, g1, g2]
    refine hK _ _ ?_
    clear hK K
    refine cv_pick [0, 2] (by decide) ?_
    simp only [pickL, nth]
    refine cv_region_q rfl ?_
    simp -implicitDefEqProofs (disch := first | omega | decide) only [seval, -Int.reducePow, -Nat.reducePow, cC, pv, binv, sRTEnc1, undef, g1, g2]
    refine ⟨_, hE.fld1 hx, fun tok htok => ?_⟩
    subst htok
    simp -implicitDefEqProofs (disch := first | omega | decide) only [seval, -Int.reducePow, -Nat.reducePow, cC, pv, binv, sRTEnc1, undef, e4, g1, g2]
    have hn7 : n7 ≤ n6 + 10 := by
      have h1 := byt_row hl7
      have h2 := putU_len10 (n := x.kind.toNat) (by omega)
      rw [List.length_append] at h1
      omega
    refine callV_row (fun A' n' c' => .slice A' n' c') (fun w hw => rput_any A7 n7 c7 _ x.count.toNat w (hw.slb 0 rfl) (by omega) (by omega)) ?_
    intro A8 n8 c8 hl8 _
    simp -implicitDefEqProofs (disch := first | omega | decide) only [seval, -Int.reducePow, -Nat.reducePow, cC, pv, binv, sRTEnc1, undef, g1, g2]
    refine hK _ _ ?_
    clear hK K
    refine cv_pick [0, 2] (by decide) ?_
    simp only [pickL, nth]
    refine cv_region_then rfl ?_
    simp -implicitDefEqProofs (disch := first | omega | decide) only [seval, -Int.reducePow, -Nat.reducePow, cC, pv, binv, sRTEnc1, undef, wrap_in, g1, g2]
    refine ⟨⟨k + 1, A8, n8, c8, ?_⟩, ?_⟩
    · simp -implicitDefEqProofs (disch := first | omega | decide) only [seval, -Int.reducePow, -Nat.reducePow, cC, pv, binv, sRTEnc1, undef, Int.natCast_add, flat_take hx, ← List.append_assoc, g1, g2]
      exact ⟨by omega, byt_row hl8⟩
    · simp only [intOf]; omega
  refine cv_exit ?_
  simp only [blockQ, thenQ, if_true, ite_true]
  clear hK K
  refine hK _ _ ?_
  clear hK K
  obtain rfl : n = k := by have := of_decide_eq_false ‹_›; omega
  rw [List.take_of_length_le (by omega)] at *
  refine cv_seq_k fun K hK => ?_
  refine cv_region_then rfl ?_
  simp -implicitDefEqProofs (disch := first | omega | decide) only [seval, -Int.reducePow, -Nat.reducePow, cC, pv, binv, sRTEnc1, undef, g1, g2]
  refine hK _ _ ?_
  clear hK K
  refine cv_ret ⟨_, (by simp -implicitDefEqProofs (disch := first | omega | decide) only [seval, -Int.reducePow, -Nat.reducePow, cC, pv, binv, sRTEnc1, undef, g1, g2]; rfl), fun w hw => ?_⟩
  exact ⟨A6, n6, c6, by rw [hz], by rw [hT]; unfold encB; rw [hln]; exact hw.rowNew (by simp), hw.below⟩
end Go.Proofs.YtlbmnioibiomfaaGreat
/- EncodeModule. -/
namespace Go.Proofs.YtlbmnioibiomfaaGreat
open Go.RowKit Go.Shelf
set_option linter.unusedVariables false
set_option linter.unusedSimpArgs false
set_option maxRecDepth 100000
set_option maxRecDepth 100000 in
theorem sMREnc1 : type_of% (And.intro (And.intro (And.intro @fBox.eq_1 (And.intro @tBox.eq_1 @iBox.eq_1)) (And.intro (And.intro @mBox.eq_1 @gBox.eq_1) (And.intro @flBox.eq_1 @fdV.eq_1))) (And.intro (And.intro (And.intro @tyV.eq_1 @insV.eq_1) (And.intro @fnV.eq_1 @modV.eq_1)) (And.intro (And.intro @fltV.eq_1 @fineF.eq_1) (And.intro @cS @Nat.mul_one)))) := (And.intro (And.intro (And.intro @fBox.eq_1 (And.intro @tBox.eq_1 @iBox.eq_1)) (And.intro (And.intro @mBox.eq_1 @gBox.eq_1) (And.intro @flBox.eq_1 @fdV.eq_1))) (And.intro (And.intro (And.intro @tyV.eq_1 @insV.eq_1) (And.intro @fnV.eq_1 @modV.eq_1)) (And.intro (And.intro @fltV.eq_1 @fineF.eq_1) (And.intro @cS @Nat.mul_one))))
set_option maxHeartbeats 8000000 in
theorem rmenc_any (m : ModR) (W : World) (hM : Mod W W.heap.size m) : Calls Tryz.prog 10 #[modV m] W (rowP 5 1 (fun v => .tuple #[v, .int .i64 (errM m)]) (byt (encMod m)) W) := by
  have hlt := hM.tlen
  have hlg := hM.glen
  have hE := hM.ts
  have hty := hM.ty
  have hG := hM.gs
  have hfn := hM.fn
  have harg := hM.arg
  have hno := errM_no (m := m)
  have hbig := errM_big (m := m)
  have hok := errM_ok (m := m)
  have hMat := fun {L : List Res} {w : World} (hw : St [] W L w) => hM.at hw
  have hchk := chkM_ok (m := m)
  have henc : encM m = magicB ++ putU m.ts.length ++ m.ts.flatMap encTy ++ putU m.gs.length ++ m.gs.flatMap encFn := rfl
  obtain ⟨q, hq⟩ : ∃ q, chkM m = q := ⟨_, rfl⟩
  rw [hq] at hno hbig hok hchk
  generalize hem : encM m = em at *
  generalize hme : encMod m = me at *
  generalize her : errM m = er at *
  obtain ⟨TA, tn, tc, ts, FA, fn, fc, gs⟩ := m
  dsimp only at *
  refine calls_cv (M := []) (n := 109) [.tmp 2, .tmp 3] rfl Tryz.func10 rfl rfl (Nat.le_of_ble_eq_true rfl) (St.nil _ _) ?_
  refine cv_seq_k fun K hK => ?_
  refine cv_region_then rfl ?_
  simp -implicitDefEqProofs (disch := first | omega | decide) only [seval, -Int.reducePow, -Nat.reducePow, cC, pv, binv, sMREnc1, undef]
  intro b1 hb1
  refine hK _ _ ?_
  clear hK K
  refine cv_seq_k fun K hK => ?_
  refine cv_region_then rfl ?_
  simp -implicitDefEqProofs (disch := first | omega | decide) only [seval, -Int.reducePow, -Nat.reducePow, cC, pv, binv, sMREnc1, undef]
  refine callV_ret (fun w hw => rmcheck_any ⟨TA, tn, tc, ts, FA, fn, fc, gs⟩ w (hMat hw)) ?_
  try simp -implicitDefEqProofs (disch := first | omega | decide) only [seval, -Int.reducePow, -Nat.reducePow, cC, pv, binv, sMREnc1, undef, hq]
  intro b4 hb4 h4
  refine hK _ _ ?_
  clear hK K
  refine cv_seq_k fun K hK => ?_
  refine cv_seq_k fun K hK => ?_
  refine cv_region_then rfl ?_
  simp -implicitDefEqProofs (disch := first | omega | decide) only [seval, -Int.reducePow, -Nat.reducePow, cC, pv, binv, sMREnc1, undef]
  refine hK _ _ ?_
  clear hK K
  refine cv_cond ?_
  simp -implicitDefEqProofs (disch := first | omega | decide) only [seval, -Int.reducePow, -Nat.reducePow, cC, pv, binv, sMREnc1, undef]
  refine ⟨fun hc => ?_, fun hc => ?_⟩
  · have hz : ¬ q.1 = 0 := nd_true ‹(!decide (q.1 = 0)) = true›
    refine cv_seq_k fun K hK => ?_
    refine cv_draw [(true, 0), (true, 1), (true, 2), (true, 3)] [] mixA rfl (by kernel_rfl) (by kernel_rfl) rfl rfl ?_
    simp -implicitDefEqProofs (disch := first | omega | decide) only [seval, -Int.reducePow, -Nat.reducePow, cC, pv, binv, sMREnc1, undef]
    refine hK _ _ ?_
    clear hK K
    refine cv_ret ⟨_, (by simp -implicitDefEqProofs (disch := first | omega | decide) only [seval, -Int.reducePow, -Nat.reducePow, cC, pv, binv, sMREnc1, undef]; rfl), fun w hw => ?_⟩
    exact ⟨none, 0, 0, by rw [(hno hz).1], by rw [(hno hz).2]; exact World.ownsRow_nil _ _ _ _, hw.below⟩
  have hz : q.1 = 0 := Decidable.not_not.1 (nd_false ‹(!decide (q.1 = 0)) = false›)
  obtain ⟨k1, k2, k3, k4, k5⟩ := hchk hz
  have e1 := i64v tn (by omega)
  have e2 := i64v fn (by omega)
  refine cv_skip ?_
  try simp only [blockQ, thenQ]
  refine hK _ _ ?_
  clear hK K
  refine cv_seq_k fun K hK => ?_
  refine cv_region_then rfl ?_
  simp -implicitDefEqProofs (disch := first | omega | decide) only [seval, -Int.reducePow, -Nat.reducePow, cC, pv, binv, sMREnc1, undef]
  intro b5 hb5 h5
  refine xv_mark 0 rfl Tryz.underlying22 Tryz.underlying5 rfl ?_
  simp -implicitDefEqProofs (disch := first | omega | decide) only [seval, -Int.reducePow, -Nat.reducePow, cC, pv, binv, sMREnc1, undef, e1]
  refine callV_row (fun A' n' c' => .slice A' n' c') (fun w hw => rput_any (some ⟨b5, 0, none⟩) 4 4 magicB tn w (mgOk b5 hw) (by omega) (by omega)) ?_
  intro A1 n1 c1 hl1 _
  simp -implicitDefEqProofs (disch := first | omega | decide) only [seval, -Int.reducePow, -Nat.reducePow, cC, pv, binv, sMREnc1, undef]
  refine hK _ _ ?_
  clear hK K
  have hn1 : n1 ≤ 20 := by have := byt_row hl1; have := putU_len10 (n := tn) (by omega); simp [magicB] at *; omega
  refine cv_pick [0, 3] (by decide) ?_
  simp only [pickL, nth]
  refine cv_seq_k fun K hK => ?_
  refine cv_seq_k fun K hK => ?_
  refine cv_region_then rfl ?_
  simp -implicitDefEqProofs (disch := first | omega | decide) only [seval, -Int.reducePow, -Nat.reducePow, cC, pv, binv, sMREnc1, undef]
  refine hK _ _ ?_
  clear hK K
  refine cv_gen fun G1 hG => ?_
  have g1_1 := congrFun hG 1
  have g1_5 := congrFun hG 5
  have g1_6 := congrFun hG 6
  clear hG
  try simp -implicitDefEqProofs (disch := first | omega | decide) only [seval, -Int.reducePow, -Nat.reducePow, cC, pv, binv, sMREnc1, undef] at g1_1 g1_5 g1_6
  have g1 := And.intro g1_1 (And.intro g1_5 g1_6)
  refine cv_block ?_
  refine cv_loop (fun F' L' => ∃ (k : Nat) (A6 : Option Addr) (n6 c6 : Nat), F' 1 = G1 1 ∧ F' 5 = .slice A6 n6 c6 ∧ F' 6 = .int .i64 (k : Int) ∧ L' = [.row (.slice A6 n6 c6) 5 1 n6 (byt (magicB ++ putU tn ++ (ts.take k).flatMap encTy)), mBox b1 ⟨TA, tn, tc, ts, FA, fn, fc, gs⟩] ∧ k ≤ tn ∧ n6 ≤ 20 + 200 * k) (fun F' L' => 40 - (intOf (F' 6)).toNat) ?_ ?_
  · refine ⟨0, A1, n1, c1, ?_⟩
    simp -implicitDefEqProofs (disch := first | omega | decide) only [seval, -Int.reducePow, -Nat.reducePow, cC, pv, binv, sMREnc1, undef, g1]
    simp only [List.flatMap_nil, List.append_nil]
    repeat' (first | with_reducible exact trivial | with_reducible rfl | omega | refine And.intro ?_ ?_)
  intro G2 L' hI
  obtain ⟨k, A6, n6, c6, q1, q5, q6, rfl, ⟨hk, h6⟩⟩ := hI
  have g2_1 := q1.trans g1_1
  have g2_5 := q5
  have g2_6 := q6
  clear q1 q5 q6
  have g2 := And.intro g2_1 (And.intro g2_5 g2_6)
  refine cv_seq_k fun K hK => ?_
  refine cv_seq_k fun K hK => ?_
  refine cv_region_then rfl ?_
  simp -implicitDefEqProofs (disch := first | omega | decide) only [seval, -Int.reducePow, -Nat.reducePow, cC, pv, binv, sMREnc1, undef, g1, g2]
  refine hK _ _ ?_
  clear hK K
  refine cv_cond ?_
  simp -implicitDefEqProofs (disch := first | omega | decide) only [seval, -Int.reducePow, -Nat.reducePow, cC, pv, binv, sMREnc1, undef, g1, g2]
  refine ⟨fun hc => ?_, fun hc => ?_⟩
  · refine cv_skip ?_
    try simp only [blockQ, thenQ]
    have hlt2 : k < tn := by have := of_decide_eq_true ‹_›; omega
    obtain ⟨b0, off, rfl, hb0, -⟩ := hE.cells (by omega)
    obtain ⟨x, hx⟩ := some_of (l := ts) (i := k) (by omega)
    have hxm := List.mem_of_getElem? hx
    have hX := hty x hxm
    have hxz := k2 x hxm
    have hxl := (encB_len hxz).1
    refine hK _ _ ?_
    clear hK K
    refine cv_seq_k fun K hK => ?_
    refine cv_block ?_
    refine cv_seq_k fun K hK => ?_
    refine cv_region_then rfl ?_
    simp -implicitDefEqProofs (disch := first | omega | decide) only [seval, -Int.reducePow, -Nat.reducePow, cC, pv, binv, sMREnc1, undef, g1, g2]
    refine ⟨_, hE.tyl hx, fun tok htok => ?_⟩
    subst htok
    simp -implicitDefEqProofs (disch := first | omega | decide) only [seval, -Int.reducePow, -Nat.reducePow, cC, pv, binv, sMREnc1, undef, g1, g2]
    refine callV_row (fun A' n' c' => .tuple #[.slice A' n' c', .int .i64 (chk x.len x.fs)]) (fun w hw => renc_any x.A x.n x.c x.fs x.len w (hX.at hw)) ?_
    intro A8 n8 c8 hl8 _
    rw [encT_eq hxz] at *
    have hn8 : n8 ≤ 198 := by have := byt_row hl8; unfold encTy at this; omega
    simp -implicitDefEqProofs (disch := first | omega | decide) only [seval, -Int.reducePow, -Nat.reducePow, cC, pv, binv, sMREnc1, undef, g1, g2]
    refine hK _ _ ?_
    clear hK K
    refine cv_region_q rfl ?_
    simp -implicitDefEqProofs (disch := first | omega | decide) only [seval, -Int.reducePow, -Nat.reducePow, cC, pv, binv, sMREnc1, undef, g1, g2]
    refine appV_at 1 tap22 rfl (fun w hw => src_row (.head _) hw) (ones_byt _) (by omega) (by omega) ?_
    intro A9 c9 hl9 _
    simp -implicitDefEqProofs (disch := first | omega | decide) only [seval, -Int.reducePow, -Nat.reducePow, cC, pv, binv, sMREnc1, undef, g1, g2]
    refine hK _ _ ?_
    clear hK K
    refine cv_pick [0, 2] (by decide) ?_
    simp only [pickL, nth]
    refine cv_region_then rfl ?_
    simp -implicitDefEqProofs (disch := first | omega | decide) only [seval, -Int.reducePow, -Nat.reducePow, cC, pv, binv, sMREnc1, undef, wrap_in, g1, g2]
    refine ⟨⟨k + 1, A9, n6 + n8, c9, ?_⟩, ?_⟩
    · simp -implicitDefEqProofs (disch := first | omega | decide) only [seval, -Int.reducePow, -Nat.reducePow, cC, pv, binv, sMREnc1, undef, Int.natCast_add, g1, g2]
      rw [flat_snoc encTy hx, ← List.append_assoc (magicB ++ putU tn), byt_append _ (encTy x)]
      exact ⟨rfl, by omega, by omega⟩
    · simp only [intOf]; omega
  refine cv_exit ?_
  simp only [blockQ, thenQ, if_true, ite_true]
  clear hK K
  refine hK _ _ ?_
  clear hK K
  obtain rfl : tn = k := by have := of_decide_eq_false ‹_›; omega
  rw [List.take_of_length_le (by omega)]
  refine cv_len 0 rfl fun hl6 => ?_
  refine cv_seq_k fun K hK => ?_
  refine cv_region_then rfl ?_
  simp -implicitDefEqProofs (disch := first | omega | decide) only [seval, -Int.reducePow, -Nat.reducePow, cC, pv, binv, sMREnc1, undef, e2, g1, g2]
  refine callV_row (fun A' n' c' => .slice A' n' c') (fun w hw => rput_any A6 n6 c6 _ fn w (hw.slb 0 rfl) (by omega) (by omega)) ?_
  intro A9 n9 c9 hl9 _
  simp -implicitDefEqProofs (disch := first | omega | decide) only [seval, -Int.reducePow, -Nat.reducePow, cC, pv, binv, sMREnc1, undef, g1, g2]
  refine hK _ _ ?_
  clear hK K
  have hn9 : n9 ≤ 7000 := by have q1 := byt_row hl9; have q2 := byt_row hl6; have q3 := putU_len10 (n := fn) (by omega); rw [List.length_append] at q1; omega
  refine cv_pick [0, 2] (by decide) ?_
  simp only [pickL, nth]
  generalize hpre : magicB ++ putU tn ++ ts.flatMap encTy ++ putU fn = pre at *
  refine cv_seq_k fun K hK => ?_
  refine cv_seq_k fun K hK => ?_
  refine cv_region_then rfl ?_
  simp -implicitDefEqProofs (disch := first | omega | decide) only [seval, -Int.reducePow, -Nat.reducePow, cC, pv, binv, sMREnc1, undef, g1, g2]
  refine hK _ _ ?_
  clear hK K
  refine cv_gen fun G3 hG => ?_
  have g3_1 := congrFun hG 1
  have g3_5 := congrFun hG 5
  have g3_9 := congrFun hG 9
  clear hG
  try simp -implicitDefEqProofs (disch := first | omega | decide) only [seval, -Int.reducePow, -Nat.reducePow, cC, pv, binv, sMREnc1, undef, g1, g2] at g3_1 g3_5 g3_9
  have g3 := And.intro g3_1 (And.intro g3_5 g3_9)
  refine cv_block ?_
  refine cv_loop (fun F' L' => ∃ (k : Nat) (A6 : Option Addr) (n6 c6 : Nat), F' 1 = G3 1 ∧ F' 5 = .slice A6 n6 c6 ∧ F' 9 = .int .i64 (k : Int) ∧ L' = [.row (.slice A6 n6 c6) 5 1 n6 (byt (pre ++ (gs.take k).flatMap encFn)), mBox b1 ⟨TA, tn, tc, ts, FA, fn, fc, gs⟩] ∧ k ≤ fn ∧ n6 ≤ 7000 + 12000 * k) (fun F' L' => 40 - (intOf (F' 9)).toNat) ?_ ?_
  · refine ⟨0, A9, n9, c9, ?_⟩
    simp -implicitDefEqProofs (disch := first | omega | decide) only [seval, -Int.reducePow, -Nat.reducePow, cC, pv, binv, sMREnc1, undef, g1, g2, g3]
    simp only [List.flatMap_nil, List.append_nil]
    repeat' (first | with_reducible exact trivial | with_reducible rfl | omega | refine And.intro ?_ ?_)
  intro G4 L' hI
  obtain ⟨k, A6, n6, c6, q1, q5, q9, rfl, ⟨hk, h6⟩⟩ := hI
  have g4_1 := q1.trans g3_1
  have g4_5 := q5
  have g4_9 := q9
  clear q1 q5 q9
  have g4 := And.intro g4_1 (And.intro g4_5 g4_9)
  refine cv_seq_k fun K hK => ?_
  refine cv_seq_k fun K hK => ?_
  refine cv_region_then rfl ?_
  simp -implicitDefEqProofs (disch := first | omega | decide) only [seval, -Int.reducePow, -Nat.reducePow, cC, pv, binv, sMREnc1, undef, g1, g2, g3, g4]
  refine hK _ _ ?_
  clear hK K
  refine cv_cond ?_
  simp -implicitDefEqProofs (disch := first | omega | decide) only [seval, -Int.reducePow, -Nat.reducePow, cC, pv, binv, sMREnc1, undef, g1, g2, g3, g4]
  refine ⟨fun hc => ?_, fun hc => ?_⟩
  · refine cv_skip ?_
    try simp only [blockQ, thenQ]
    have hlt2 : k < fn := by have := of_decide_eq_true ‹decide ((k : Int) < (fn : Int)) = true›; omega
    obtain ⟨b0, off, rfl, hb0, -⟩ := hG.cells (by omega)
    obtain ⟨x, hx⟩ := some_of (l := gs) (i := k) (by omega)
    have hxm := List.mem_of_getElem? hx
    have hX := hfn x hxm
    have hxi := k5 k x hx
    have hxa := harg x hxm
    have hxl : x.code.length = x.n := cl_row insc_len (by omega) hX.len
    have hsn := flat_snoc encFn hx
    have henx : encFn x = [x.p.toNat, x.r.toNat, x.l.toNat, x.code.length].flatMap putU ++ x.code.flatMap encI := rfl
    generalize hex : encFn x = ex at *
    have hxf := fnErr_ok hxi.1
    have hld := hG.fnl (L := [.row (.slice A6 n6 c6) 5 1 n6 (byt (pre ++ (gs.take k).flatMap encFn)), mBox b1 ⟨TA, tn, tc, ts, some ⟨b0, off, none⟩, fn, fc, gs⟩]) hx
    have hxi2 := hxi.2
    clear hx hxm hxi
    obtain ⟨xp, xr, xl, xA, xn, xc, code⟩ := x
    dsimp only at *
    obtain ⟨p, rfl⟩ := Int.eq_ofNat_of_zero_le hxf.1
    obtain ⟨r, rfl⟩ := Int.eq_ofNat_of_zero_le hxf.2.1
    obtain ⟨l, rfl⟩ := Int.eq_ofNat_of_zero_le hxf.2.2.1
    simp only [Int.toNat_natCast] at henx
    rw [hxl] at henx
    generalize hpg : pre ++ (gs.take k).flatMap encFn = pg at *
    have ep := i64v p (by omega)
    have er := i64v r (by omega)
    have el := i64v l (by omega)
    have en := i64v xn (by omega)
    have bp := putU_len10 (n := p) (by omega)
    have br := putU_len10 (n := r) (by omega)
    have bl := putU_len10 (n := l) (by omega)
    have bn := putU_len10 (n := xn) (by omega)
    refine hK _ _ ?_
    clear hK K
    refine cv_len 0 rfl fun hl0 => ?_
    refine cv_seq_k fun K hK => ?_
    refine cv_block ?_
    refine cv_seq_k fun K hK => ?_
    refine cv_region_then rfl ?_
    simp -implicitDefEqProofs (disch := first | omega | decide) only [seval, -Int.reducePow, -Nat.reducePow, cC, pv, binv, sMREnc1, undef, g1, g2, g3, g4]
    refine ⟨_, hld, fun tok htok => ?_⟩
    subst htok
    simp -implicitDefEqProofs (disch := first | omega | decide) only [seval, -Int.reducePow, -Nat.reducePow, cC, pv, binv, sMREnc1, undef, g1, g2, g3, g4]
    intro b11 hb11 h11
    refine hK _ _ ?_
    clear hK K
    refine cv_seq_k fun K hK => ?_
    refine cv_region_then rfl ?_
    simp -implicitDefEqProofs (disch := first | omega | decide) only [seval, -Int.reducePow, -Nat.reducePow, cC, pv, binv, sMREnc1, undef, ep, g1, g2, g3, g4]
    refine callV_row (fun A' n' c' => .slice A' n' c') (fun w hw => rput_any A6 n6 c6 _ p w (hw.slb 1 rfl) (by omega) (by omega)) ?_
    intro A7 n7 c7 hl7 _
    have hn7 : n7 ≤ n6 + 10 := by have q1 := byt_row hl7; have q2 := byt_row hl0; rw [List.length_append] at q1; omega
    simp -implicitDefEqProofs (disch := first | omega | decide) only [seval, -Int.reducePow, -Nat.reducePow, cC, pv, binv, sMREnc1, undef, g1, g2, g3, g4]
    refine hK _ _ ?_
    clear hK K
    refine cv_pick [0, 1, 3] (by decide) ?_
    simp only [pickL, nth]
    refine cv_seq_k fun K hK => ?_
    refine cv_region_then rfl ?_
    simp -implicitDefEqProofs (disch := first | omega | decide) only [seval, -Int.reducePow, -Nat.reducePow, cC, pv, binv, sMREnc1, undef, er, g1, g2, g3, g4]
    refine callV_row (fun A' n' c' => .slice A' n' c') (fun w hw => rput_any A7 n7 c7 _ r w (hw.slb 0 rfl) (by omega) (by omega)) ?_
    intro A8 n8 c8 hl8 _
    have hn8 : n8 ≤ n7 + 10 := by have q1 := byt_row hl8; have q2 := byt_row hl7; rw [List.length_append] at q1; omega
    simp -implicitDefEqProofs (disch := first | omega | decide) only [seval, -Int.reducePow, -Nat.reducePow, cC, pv, binv, sMREnc1, undef, g1, g2, g3, g4]
    refine hK _ _ ?_
    clear hK K
    refine cv_pick [0, 2, 3] (by decide) ?_
    simp only [pickL, nth]
    refine cv_seq_k fun K hK => ?_
    refine cv_region_then rfl ?_
    simp -implicitDefEqProofs (disch := first | omega | decide) only [seval, -Int.reducePow, -Nat.reducePow, cC, pv, binv, sMREnc1, undef, el, g1, g2, g3, g4]
    refine callV_row (fun A' n' c' => .slice A' n' c') (fun w hw => rput_any A8 n8 c8 _ l w (hw.slb 0 rfl) (by omega) (by omega)) ?_
    intro A10 n10 c10 hl10 _
    have hn10 : n10 ≤ n8 + 10 := by have q1 := byt_row hl10; have q2 := byt_row hl8; rw [List.length_append] at q1; omega
    simp -implicitDefEqProofs (disch := first | omega | decide) only [seval, -Int.reducePow, -Nat.reducePow, cC, pv, binv, sMREnc1, undef, g1, g2, g3, g4]
    refine hK _ _ ?_
    clear hK K
    refine cv_pick [0, 2, 3] (by decide) ?_
    simp only [pickL, nth]
    refine cv_seq_k fun K hK => ?_
    refine cv_region_then rfl ?_
    simp -implicitDefEqProofs (disch := first | omega | decide) only [seval, -Int.reducePow, -Nat.reducePow, cC, pv, binv, sMREnc1, undef, en, g1, g2, g3, g4]
    refine callV_row (fun A' n' c' => .slice A' n' c') (fun w hw => rput_any A10 n10 c10 _ xn w (hw.slb 0 rfl) (by omega) (by omega)) ?_
    intro A11 n11 c11 hl11 _
    have hn11 : n11 ≤ n10 + 10 := by have q1 := byt_row hl11; have q2 := byt_row hl10; rw [List.length_append] at q1; omega
    simp -implicitDefEqProofs (disch := first | omega | decide) only [seval, -Int.reducePow, -Nat.reducePow, cC, pv, binv, sMREnc1, undef, g1, g2, g3, g4]
    refine hK _ _ ?_
    clear hK K
    refine cv_pick [0, 2, 3] (by decide) ?_
    simp only [pickL, nth]
    have hpe : pg ++ putU p ++ putU r ++ putU l ++ putU xn = pg ++ [p, r, l, xn].flatMap putU := by simp
    rw [hpe]
    refine cv_seq_k fun K hK => ?_
    refine cv_region_then rfl ?_
    simp -implicitDefEqProofs (disch := first | omega | decide) only [seval, -Int.reducePow, -Nat.reducePow, cC, pv, binv, sMREnc1, undef, g1, g2, g3, g4]
    refine hK _ _ ?_
    clear hK K
    refine cv_gen fun G5 hG => ?_
    have g5_1 := congrFun hG 1
    have g5_5 := congrFun hG 5
    have g5_9 := congrFun hG 9
    have g5_10 := congrFun hG 10
    have g5_11 := congrFun hG 11
    clear hG
    try simp -implicitDefEqProofs (disch := first | omega | decide) only [seval, -Int.reducePow, -Nat.reducePow, cC, pv, binv, sMREnc1, undef, g1, g2, g3, g4] at g5_1 g5_5 g5_9 g5_10 g5_11
    have g5 := And.intro g5_1 (And.intro g5_5 (And.intro g5_9 (And.intro g5_10 g5_11)))
    refine cv_block ?_
    refine cv_loop (fun F' L' => ∃ (j : Nat) (A7 : Option Addr) (n7 c7 : Nat), F' 1 = G5 1 ∧ F' 5 = .slice A7 n7 c7 ∧ F' 9 = G5 9 ∧ F' 10 = G5 10 ∧ F' 11 = .int .i64 (j : Int) ∧ L' = [.row (.slice A7 n7 c7) 5 1 n7 (byt (pg ++ [p, r, l, xn].flatMap putU ++ (code.take j).flatMap encI)), .blk b11 42 [.int .i64 (p : Int), .int .i64 (r : Int), .int .i64 (l : Int), .slice xA xn xc], mBox b1 ⟨TA, tn, tc, ts, some ⟨b0, off, none⟩, fn, fc, gs⟩] ∧ j ≤ xn ∧ n7 ≤ 7000 + 12000 * k + 40 + 11 * j) (fun F' L' => 1100 - (intOf (F' 11)).toNat) ?_ ?_
    · refine ⟨0, A11, n11, c11, ?_⟩
      simp -implicitDefEqProofs (disch := first | omega | decide) only [seval, -Int.reducePow, -Nat.reducePow, cC, pv, binv, sMREnc1, undef, g1, g2, g3, g4, g5]
      simp only [List.flatMap_nil, List.append_nil]
      repeat' (first | with_reducible exact trivial | with_reducible rfl | omega | refine And.intro ?_ ?_)
    intro G6 L' hI
    obtain ⟨j, A7, n7, c7, q1, q5, q9, q10, q11, rfl, ⟨hj, h7⟩⟩ := hI
    have g6_1 := q1.trans g5_1
    have g6_5 := q5
    have g6_9 := q9.trans g5_9
    have g6_10 := q10.trans g5_10
    have g6_11 := q11
    clear q1 q5 q9 q10 q11
    have g6 := And.intro g6_1 (And.intro g6_5 (And.intro g6_9 (And.intro g6_10 g6_11)))
    refine cv_seq_k fun K hK => ?_
    refine cv_seq_k fun K hK => ?_
    refine cv_region_then rfl ?_
    simp -implicitDefEqProofs (disch := first | omega | decide) only [seval, -Int.reducePow, -Nat.reducePow, cC, pv, binv, sMREnc1, undef, g1, g2, g3, g4, g5, g6]
    refine hK _ _ ?_
    clear hK K
    refine cv_cond ?_
    simp -implicitDefEqProofs (disch := first | omega | decide) only [seval, -Int.reducePow, -Nat.reducePow, cC, pv, binv, sMREnc1, undef, g1, g2, g3, g4, g5, g6]
    refine ⟨fun hc => ?_, fun hc => ?_⟩
    · refine cv_skip ?_
      try simp only [blockQ, thenQ]
      have hjt : j < xn := by have := of_decide_eq_true ‹decide ((j : Int) < (xn : Int)) = true›; omega
      obtain ⟨xb, xo, hxA, hxb, -⟩ := hX.cells (by omega)
      subst hxA
      obtain ⟨y, hy⟩ := some_of (l := code) (i := j) (by omega)
      have hym := List.mem_of_getElem? hy
      have hyz := hxi2 y hym
      have hya := hxa y hym
      refine hK _ _ ?_
      clear hK K
      refine cv_seq_k fun K hK => ?_
      refine cv_block ?_
      refine cv_seq_k fun K hK => ?_
      refine cv_region_then rfl ?_
      simp -implicitDefEqProofs (disch := first | omega | decide) only [seval, -Int.reducePow, -Nat.reducePow, cC, pv, binv, sMREnc1, undef, g1, g2, g3, g4, g5, g6]
      refine ⟨_, hX.ins hy, fun tok htok => ?_⟩
      subst htok
      simp -implicitDefEqProofs (disch := first | omega | decide) only [seval, -Int.reducePow, -Nat.reducePow, cC, pv, binv, sMREnc1, undef, g1, g2, g3, g4, g5, g6]
      refine callV_row (fun A' n' c' => .tuple #[.slice A' n' c', .int .i64 y.err]) (fun w hw => r_ienc_any y w hya) ?_
      intro A8 n8 c8 hl8 _
      rw [encIE_eq hyz] at *
      have hn8 : n8 ≤ 11 := by have := byt_row hl8; have := encI_len hya; omega
      simp -implicitDefEqProofs (disch := first | omega | decide) only [seval, -Int.reducePow, -Nat.reducePow, cC, pv, binv, sMREnc1, undef, g1, g2, g3, g4, g5, g6]
      refine hK _ _ ?_
      clear hK K
      refine cv_region_q rfl ?_
      simp -implicitDefEqProofs (disch := first | omega | decide) only [seval, -Int.reducePow, -Nat.reducePow, cC, pv, binv, sMREnc1, undef, g1, g2, g3, g4, g5, g6]
      refine appV_at 1 tap22 rfl (fun w hw => src_row (.head _) hw) (ones_byt _) (by omega) (by omega) ?_
      intro A9 c9 hl9 _
      simp -implicitDefEqProofs (disch := first | omega | decide) only [seval, -Int.reducePow, -Nat.reducePow, cC, pv, binv, sMREnc1, undef, g1, g2, g3, g4, g5, g6]
      refine hK _ _ ?_
      clear hK K
      refine cv_pick [0, 2, 3] (by decide) ?_
      simp only [pickL, nth]
      refine cv_region_then rfl ?_
      simp -implicitDefEqProofs (disch := first | omega | decide) only [seval, -Int.reducePow, -Nat.reducePow, cC, pv, binv, sMREnc1, undef, wrap_in, g1, g2, g3, g4, g5, g6]
      refine ⟨⟨j + 1, A9, n7 + n8, c9, ?_⟩, ?_⟩
      · simp -implicitDefEqProofs (disch := first | omega | decide) only [seval, -Int.reducePow, -Nat.reducePow, cC, pv, binv, sMREnc1, undef, Int.natCast_add, g1, g2, g3, g4, g5, g6]
        rw [flat_snoc encI hy, ← List.append_assoc (pg ++ _), byt_append _ (encI y)]
        exact ⟨rfl, by omega, by omega⟩
      · simp only [intOf]; omega
    refine cv_exit ?_
    simp only [blockQ, thenQ, if_true, ite_true]
    clear hK K
    refine hK _ _ ?_
    clear hK K
    obtain rfl : j = xn := by have := of_decide_eq_false ‹decide ((j : Int) < (xn : Int)) = false›; omega
    rw [List.take_of_length_le (by omega), List.append_assoc, ← henx, ← hpg, List.append_assoc, ← hsn]
    refine cv_pick [0, 2] (by decide) ?_
    simp only [pickL, nth]
    refine cv_region_then rfl ?_
    simp -implicitDefEqProofs (disch := first | omega | decide) only [seval, -Int.reducePow, -Nat.reducePow, cC, pv, binv, sMREnc1, undef, wrap_in, g1, g2, g3, g4, g5, g6]
    refine ⟨⟨k + 1, A7, n7, c7, ?_⟩, ?_⟩
    · simp -implicitDefEqProofs (disch := first | omega | decide) only [seval, -Int.reducePow, -Nat.reducePow, cC, pv, binv, sMREnc1, undef, Int.natCast_add, g1, g2, g3, g4, g5, g6]
      repeat' (first | with_reducible exact trivial | with_reducible rfl | omega | refine And.intro ?_ ?_)
    · simp only [intOf]; omega
  refine cv_exit ?_
  simp only [blockQ, thenQ, if_true, ite_true]
  clear hK K
  refine hK _ _ ?_
  clear hK K
  obtain rfl : fn = k := by have := of_decide_eq_false ‹decide ((k : Int) < (fn : Int)) = false›; omega
  rw [List.take_of_length_le (by omega)]
  rw [hlt, hlg, hpre] at henc
  rw [← henc]
  refine cv_len 0 rfl fun hl => ?_
  have hl := byt_row hl
  refine cv_seq_k fun K hK => ?_
  refine cv_seq_k fun K hK => ?_
  refine cv_region_then rfl ?_
  simp -implicitDefEqProofs (disch := first | omega | decide) only [seval, -Int.reducePow, -Nat.reducePow, cC, pv, binv, sMREnc1, undef, g1, g2, g3, g4]
  refine hK _ _ ?_
  clear hK K
  refine cv_cond ?_
  simp -implicitDefEqProofs (disch := first | omega | decide) only [seval, -Int.reducePow, -Nat.reducePow, cC, pv, binv, sMREnc1, undef, g1, g2, g3, g4]
  refine ⟨fun hc => ?_, fun hc => ?_⟩
  · have h2 : 65536 < em.length := by have := of_decide_eq_true ‹decide ((65536 : Int) < (n6 : Int)) = true›; omega
    refine cv_seq_k fun K hK => ?_
    refine cv_region_then rfl ?_
    simp -implicitDefEqProofs (disch := first | omega | decide) only [seval, -Int.reducePow, -Nat.reducePow, cC, pv, binv, sMREnc1, undef, g1, g2, g3, g4]
    refine hK _ _ ?_
    clear hK K
    refine cv_ret ⟨_, (by simp -implicitDefEqProofs (disch := first | omega | decide) only [seval, -Int.reducePow, -Nat.reducePow, cC, pv, binv, sMREnc1, undef, g1, g2, g3, g4]; rfl), fun w hw => ?_⟩
    exact ⟨none, 0, 0, by rw [(hbig hz h2).1], by rw [(hbig hz h2).2]; exact World.ownsRow_nil _ _ _ _, hw.below⟩
  have h2 : ¬ 65536 < em.length := by have := of_decide_eq_false ‹decide ((65536 : Int) < (n6 : Int)) = false›; omega
  refine cv_skip ?_
  try simp only [blockQ, thenQ]
  refine hK _ _ ?_
  clear hK K
  refine cv_seq_k fun K hK => ?_
  refine cv_region_then rfl ?_
  simp -implicitDefEqProofs (disch := first | omega | decide) only [seval, -Int.reducePow, -Nat.reducePow, cC, pv, binv, sMREnc1, undef, g1, g2, g3, g4]
  refine hK _ _ ?_
  clear hK K
  refine cv_ret ⟨_, (by simp -implicitDefEqProofs (disch := first | omega | decide) only [seval, -Int.reducePow, -Nat.reducePow, cC, pv, binv, sMREnc1, undef, g1, g2, g3, g4]; rfl), fun w hw => ?_⟩
  exact ⟨A6, n6, c6, by rw [(hok hz h2).1], by rw [(hok hz h2).2]; exact hw.rowNew (by simp), hw.below⟩
end Go.Proofs.YtlbmnioibiomfaaGreat
/- verify.Load and its definition. -/
namespace Go.Proofs.YtlbmnioibiomfaaGreat
open Go.RowKit Go.Shelf
set_option linter.unusedVariables false
set_option linter.unusedSimpArgs false
set_option maxRecDepth 100000
def vldV (i : ModR × Flt) : Value := .tuple #[modV i.1, fltV i.2]
def ldΦ (l : List Nat) (i : ModR × Flt) (w w' : World) : Prop := ModD w' (Nw w w') i.1 ∧ ldP l i.1 i.2
set_option maxRecDepth 100000 in
theorem sVeLd1 : type_of% (And.intro (And.intro (And.intro @mBox.eq_1 @modV.eq_1) (And.intro @flBox.eq_1 @fltV.eq_1)) (And.intro (And.intro @fineF.eq_1 @mdV.eq_1) (And.intro @Nat.mul_one (And.intro @cS @wrap_in)))) := (And.intro (And.intro (And.intro @mBox.eq_1 @modV.eq_1) (And.intro @flBox.eq_1 @fltV.eq_1)) (And.intro (And.intro @fineF.eq_1 @mdV.eq_1) (And.intro @Nat.mul_one (And.intro @cS @wrap_in))))
set_option maxHeartbeats 2000000 in
theorem Load_any (A : Option Addr) (n c : Nat) (l : List Nat) (W : World) (hE : Sl W W.heap.size 1 A n c (byt l)) (hb : ∀ x ∈ l, x < 256) :
    Calls Tryz.prog 16 #[.slice A n c] W fun e w' => ∃ i, e = .returned (vldV i) ∧ ldΦ l i W w' ∧ Below W.heap.size W w' := by
  have hmV : ∀ m : ModR, (Value.agg #[.slice m.TA m.tn m.tc, .slice m.FA m.fn m.fc]) = modV m := fun _ => rfl
  refine calls_cv2 (M := []) (n := 26) [.cell 2 30, .cell 3 45] rfl Tryz.func16 rfl rfl (Nat.le_of_ble_eq_true rfl) (St.nil _ _) ?_
  refine cv_seq_k fun K hK => ?_
  refine cv_region_then rfl ?_
  simp -implicitDefEqProofs (disch := first | omega | decide) only [seval, -Int.reducePow, -Nat.reducePow, cC, pv, binv, sVeLd1, undef]
  intro b2 hb2 b3 hb3 hf3
  refine hK _ _ ?_
  clear hK K
  refine cv_seq_k fun K hK => ?_
  refine cv_region_then rfl ?_
  simp -implicitDefEqProofs (disch := first | omega | decide) only [seval, -Int.reducePow, -Nat.reducePow, cC, pv, binv, sVeLd1, undef]
  refine callV_nest mdV (mdΦ l) (fun w hw => mdec_any A n c l w (hE.at hw) hb) ?_
  rintro ⟨k, e⟩ w0 w1 f1 hw0 hw1 ⟨hk, hd⟩ hNw
  dsimp only at hk hd
  have hkD : ModD w1 (Dm [] W f1) k := hk.mono fun y hy => .inl (hNw y hy)
  simp -implicitDefEqProofs (disch := first | omega | decide) only [seval, -Int.reducePow, -Nat.reducePow, cC, pv, binv, sVeLd1, undef]
  intro b4 hb4 hf4
  refine hK _ _ ?_
  clear hK K
  refine cv_gen fun G1 hG => ?_
  have g1_2 := congrFun hG 2
  have g1_3 := congrFun hG 3
  have g1_4 := congrFun hG 4
  have g1_5 := congrFun hG 5
  clear hG
  try simp -implicitDefEqProofs (disch := first | omega | decide) only [seval, -Int.reducePow, -Nat.reducePow, cC, pv, binv, sVeLd1, undef] at g1_2 g1_3 g1_4 g1_5
  have g1 := And.intro g1_2 (And.intro g1_3 (And.intro g1_4 g1_5))
  refine cv_seq_k fun K hK => ?_
  refine cv_seq_k fun K hK => ?_
  refine cv_region_then rfl ?_
  simp -implicitDefEqProofs (disch := first | omega | decide) only [seval, -Int.reducePow, -Nat.reducePow, cC, pv, binv, sVeLd1, undef, g1]
  refine hK _ _ ?_
  clear hK K
  refine cv_cond ?_
  simp -implicitDefEqProofs (disch := first | omega | decide) only [seval, -Int.reducePow, -Nat.reducePow, cC, pv, binv, sVeLd1, undef, g1]
  refine ⟨fun hc => ?_, fun hc => ?_⟩
  · have hz : ¬ e = 0 := nd_true ‹(!decide (e = 0)) = true›
    refine cv_seq_k fun K hK => ?_
    refine cv_region_then rfl ?_
    simp -implicitDefEqProofs (disch := first | omega | decide) only [seval, -Int.reducePow, -Nat.reducePow, cC, pv, binv, sVeLd1, undef, g1]
    refine hK _ _ ?_
    clear hK K
    refine cv_ret ?_
    simp -implicitDefEqProofs (disch := first | omega | decide) only [seval, -Int.reducePow, -Nat.reducePow, cC, pv, binv, sVeLd1, undef, retQ2, ressV, packV, g1]
    intro w hw
    exact ⟨(zMod, (e, -1, -1)), rfl, ⟨zMod_D _ _, .inl ⟨e, hz, hd.elim (fun h => absurd h.1 hz) fun h => h.2.1, rfl, rfl⟩⟩, hw.below⟩
  have hz : e = 0 := Decidable.not_not.1 (nd_false ‹(!decide (e = 0)) = false›)
  have hdec : decM l = .ok (datM k) := hd.elim (fun h => h.2) fun h => absurd hz h.1
  obtain ⟨V, hV⟩ : ∃ V, verM k = V := ⟨_, rfl⟩
  refine cv_skip ?_
  try simp only [blockQ, thenQ]
  refine hK _ _ ?_
  clear hK K
  refine cv_seq_k fun K hK => ?_
  refine cv_seq_k fun K hK => ?_
  refine cv_region_then rfl ?_
  simp -implicitDefEqProofs (disch := first | omega | decide) only [seval, -Int.reducePow, -Nat.reducePow, cC, pv, binv, sVeLd1, undef, g1]
  rw [hmV k]
  refine callV_ret (fun w hw => Verify_any k w (hkD.at hw 1 rfl)) ?_
  try simp -implicitDefEqProofs (disch := first | omega | decide) only [seval, -Int.reducePow, -Nat.reducePow, cC, pv, binv, sVeLd1, undef, hV, g1]
  intro b6 hb6 hf6
  refine hK _ _ ?_
  clear hK K
  refine cv_gen fun G2 hG => ?_
  have g2_2 := congrFun hG 2
  have g2_3 := congrFun hG 3
  have g2_4 := congrFun hG 4
  have g2_6 := congrFun hG 6
  clear hG
  try simp -implicitDefEqProofs (disch := first | omega | decide) only [seval, -Int.reducePow, -Nat.reducePow, cC, pv, binv, sVeLd1, undef, g1] at g2_2 g2_3 g2_4 g2_6
  have g2 := And.intro g2_2 (And.intro g2_3 (And.intro g2_4 g2_6))
  refine cv_seq_k fun K hK => ?_
  refine cv_region_then rfl ?_
  simp -implicitDefEqProofs (disch := first | omega | decide) only [seval, -Int.reducePow, -Nat.reducePow, cC, pv, binv, sVeLd1, undef, g2]
  refine hK _ _ ?_
  clear hK K
  refine cv_cond ?_
  simp -implicitDefEqProofs (disch := first | omega | decide) only [seval, -Int.reducePow, -Nat.reducePow, cC, pv, binv, sVeLd1, undef, g2]
  refine ⟨fun hc => ?_, fun hc => ?_⟩
  · have hv : ¬ V.1 = 0 := nd_true ‹(!decide (V.1 = 0)) = true›
    refine cv_seq_k fun K hK => ?_
    refine cv_draw_of (pickL [0] _) (fun w hw => hw.pick (by decide)) (by simp only [pickL, nth, suf_cons, suf_nil, List.mem_cons, true_or, or_true, and_true, eq_self]) [(true, 0), (true, 1), (false, 2), (false, 3)] [3] mixA rfl (by kernel_rfl) (by kernel_rfl) rfl rfl ?_
    simp -implicitDefEqProofs (disch := first | omega | decide) only [seval, -Int.reducePow, -Nat.reducePow, cC, pv, binv, sVeLd1, undef, g2]
    refine hK _ _ ?_
    clear hK K
    refine cv_ret ?_
    simp -implicitDefEqProofs (disch := first | omega | decide) only [seval, -Int.reducePow, -Nat.reducePow, cC, pv, binv, sVeLd1, undef, retQ2, ressV, packV, g2]
    intro w hw
    exact ⟨(zMod, V), rfl, ⟨zMod_D _ _, .inr ⟨k, hdec, .inr ⟨by rw [hV]; exact hv, rfl, hV.symm⟩⟩⟩, hw.below⟩
  have hv : V.1 = 0 := Decidable.not_not.1 (nd_false ‹(!decide (V.1 = 0)) = false›)
  refine cv_skip ?_
  try simp only [blockQ, thenQ]
  refine hK _ _ ?_
  clear hK K
  refine cv_seq_k fun K hK => ?_
  refine cv_region_then rfl ?_
  simp -implicitDefEqProofs (disch := first | omega | decide) only [seval, -Int.reducePow, -Nat.reducePow, cC, pv, binv, sVeLd1, undef, g2]
  refine hK _ _ ?_
  clear hK K
  refine cv_pick [2, 0, 1, 3, 4] (by decide) ?_
  simp only [pickL, nth]
  refine cv_ret ?_
  simp -implicitDefEqProofs (disch := first | omega | decide) only [seval, -Int.reducePow, -Nat.reducePow, cC, pv, binv, sVeLd1, undef, retQ2, ressV, packV, g2]
  intro w hw
  exact ⟨(k, fineF), rfl, ⟨hk.same (fun y hy => hw.snap_same (.head _) y (.inl (hNw y hy))) fun y hy => hw.snapNew 0 rfl (by simp) y (hNw y hy), .inr ⟨k, hdec, .inl ⟨by rw [hV]; exact hv, rfl, rfl⟩⟩⟩, hw.below⟩
set_option maxHeartbeats 2000000 in
theorem rLoad_any (A : Option Addr) (n c : Nat) (l : List Nat) (W : World) (hE : Sl W W.heap.size 1 A n c (byt l)) (hb : ∀ x ∈ l, x < 256) :
    Calls Tryz.prog 17 #[.slice A n c] W fun e w' => ∃ i, e = .returned (vldV i) ∧ ldΦ l i W w' ∧ Below W.heap.size W w' := by
  have hmV : ∀ m : ModR, (Value.agg #[.slice m.TA m.tn m.tc, .slice m.FA m.fn m.fc]) = modV m := fun _ => rfl
  refine calls_cv2 (M := []) (n := 26) [.cell 2 30, .cell 3 45] rfl Tryz.func17 rfl rfl (Nat.le_of_ble_eq_true rfl) (St.nil _ _) ?_
  refine cv_seq_k fun K hK => ?_
  refine cv_region_then rfl ?_
  simp -implicitDefEqProofs (disch := first | omega | decide) only [seval, -Int.reducePow, -Nat.reducePow, cC, pv, binv, sVeLd1, undef]
  intro b2 hb2 b3 hb3 hf3
  refine hK _ _ ?_
  clear hK K
  refine cv_seq_k fun K hK => ?_
  refine cv_region_then rfl ?_
  simp -implicitDefEqProofs (disch := first | omega | decide) only [seval, -Int.reducePow, -Nat.reducePow, cC, pv, binv, sVeLd1, undef]
  refine callV_nest mdV (mdΦ l) (fun w hw => rmdec_any A n c l w (hE.at hw) hb) ?_
  rintro ⟨k, e⟩ w0 w1 f1 hw0 hw1 ⟨hk, hd⟩ hNw
  dsimp only at hk hd
  have hkD : ModD w1 (Dm [] W f1) k := hk.mono fun y hy => .inl (hNw y hy)
  simp -implicitDefEqProofs (disch := first | omega | decide) only [seval, -Int.reducePow, -Nat.reducePow, cC, pv, binv, sVeLd1, undef]
  intro b4 hb4 hf4
  refine hK _ _ ?_
  clear hK K
  refine cv_gen fun G3 hG => ?_
  have g3_2 := congrFun hG 2
  have g3_3 := congrFun hG 3
  have g3_4 := congrFun hG 4
  have g3_5 := congrFun hG 5
  clear hG
  try simp -implicitDefEqProofs (disch := first | omega | decide) only [seval, -Int.reducePow, -Nat.reducePow, cC, pv, binv, sVeLd1, undef] at g3_2 g3_3 g3_4 g3_5
  have g3 := And.intro g3_2 (And.intro g3_3 (And.intro g3_4 g3_5))
  refine cv_seq_k fun K hK => ?_
  refine cv_seq_k fun K hK => ?_
  refine cv_region_then rfl ?_
  simp -implicitDefEqProofs (disch := first | omega | decide) only [seval, -Int.reducePow, -Nat.reducePow, cC, pv, binv, sVeLd1, undef, g3]
  refine hK _ _ ?_
  clear hK K
  refine cv_cond ?_
  simp -implicitDefEqProofs (disch := first | omega | decide) only [seval, -Int.reducePow, -Nat.reducePow, cC, pv, binv, sVeLd1, undef, g3]
  refine ⟨fun hc => ?_, fun hc => ?_⟩
  · have hz : ¬ e = 0 := nd_true ‹(!decide (e = 0)) = true›
    refine cv_seq_k fun K hK => ?_
    refine cv_region_then rfl ?_
    simp -implicitDefEqProofs (disch := first | omega | decide) only [seval, -Int.reducePow, -Nat.reducePow, cC, pv, binv, sVeLd1, undef, g3]
    refine callV_ret (fun w hw => fault_any e (-1) (-1) w) ?_
    try simp -implicitDefEqProofs (disch := first | omega | decide) only [seval, -Int.reducePow, -Nat.reducePow, cC, pv, binv, sVeLd1, undef, g3]
    refine hK _ _ ?_
    clear hK K
    refine cv_ret ?_
    simp -implicitDefEqProofs (disch := first | omega | decide) only [seval, -Int.reducePow, -Nat.reducePow, cC, pv, binv, sVeLd1, undef, retQ2, ressV, packV, g3]
    intro w hw
    exact ⟨(zMod, (e, -1, -1)), rfl, ⟨zMod_D _ _, .inl ⟨e, hz, hd.elim (fun h => absurd h.1 hz) fun h => h.2.1, rfl, rfl⟩⟩, hw.below⟩
  have hz : e = 0 := Decidable.not_not.1 (nd_false ‹(!decide (e = 0)) = false›)
  have hdec : decM l = .ok (datM k) := hd.elim (fun h => h.2) fun h => absurd hz h.1
  obtain ⟨V, hV⟩ : ∃ V, verM k = V := ⟨_, rfl⟩
  refine cv_skip ?_
  try simp only [blockQ, thenQ]
  refine hK _ _ ?_
  clear hK K
  refine cv_seq_k fun K hK => ?_
  refine cv_region_then rfl ?_
  simp -implicitDefEqProofs (disch := first | omega | decide) only [seval, -Int.reducePow, -Nat.reducePow, cC, pv, binv, sVeLd1, undef, g3]
  rw [hmV k]
  refine callV_ret (fun w hw => rVerify_any k w (hkD.at hw 1 rfl)) ?_
  try simp -implicitDefEqProofs (disch := first | omega | decide) only [seval, -Int.reducePow, -Nat.reducePow, cC, pv, binv, sVeLd1, undef, hV, g3]
  intro b6 hb6 hf6
  refine hK _ _ ?_
  clear hK K
  refine cv_gen fun G4 hG => ?_
  have g4_2 := congrFun hG 2
  have g4_3 := congrFun hG 3
  have g4_4 := congrFun hG 4
  have g4_6 := congrFun hG 6
  clear hG
  try simp -implicitDefEqProofs (disch := first | omega | decide) only [seval, -Int.reducePow, -Nat.reducePow, cC, pv, binv, sVeLd1, undef, g3] at g4_2 g4_3 g4_4 g4_6
  have g4 := And.intro g4_2 (And.intro g4_3 (And.intro g4_4 g4_6))
  refine cv_seq_k fun K hK => ?_
  refine cv_seq_k fun K hK => ?_
  refine cv_region_then rfl ?_
  simp -implicitDefEqProofs (disch := first | omega | decide) only [seval, -Int.reducePow, -Nat.reducePow, cC, pv, binv, sVeLd1, undef, g4]
  refine hK _ _ ?_
  clear hK K
  refine cv_cond ?_
  simp -implicitDefEqProofs (disch := first | omega | decide) only [seval, -Int.reducePow, -Nat.reducePow, cC, pv, binv, sVeLd1, undef, g4]
  refine ⟨fun hc => ?_, fun hc => ?_⟩
  · have hv : ¬ V.1 = 0 := nd_true ‹(!decide (V.1 = 0)) = true›
    refine cv_seq_k fun K hK => ?_
    refine cv_draw_of (pickL [0] _) (fun w hw => hw.pick (by decide)) (by simp only [pickL, nth, suf_cons, suf_nil, List.mem_cons, true_or, or_true, and_true, eq_self]) [(true, 0), (true, 1), (false, 2), (false, 3)] [3] mixA rfl (by kernel_rfl) (by kernel_rfl) rfl rfl ?_
    simp -implicitDefEqProofs (disch := first | omega | decide) only [seval, -Int.reducePow, -Nat.reducePow, cC, pv, binv, sVeLd1, undef, g4]
    refine hK _ _ ?_
    clear hK K
    refine cv_ret ?_
    simp -implicitDefEqProofs (disch := first | omega | decide) only [seval, -Int.reducePow, -Nat.reducePow, cC, pv, binv, sVeLd1, undef, retQ2, ressV, packV, g4]
    intro w hw
    exact ⟨(zMod, V), rfl, ⟨zMod_D _ _, .inr ⟨k, hdec, .inr ⟨by rw [hV]; exact hv, rfl, hV.symm⟩⟩⟩, hw.below⟩
  have hv : V.1 = 0 := Decidable.not_not.1 (nd_false ‹(!decide (V.1 = 0)) = false›)
  refine cv_skip ?_
  try simp only [blockQ, thenQ]
  refine hK _ _ ?_
  clear hK K
  refine cv_seq_k fun K hK => ?_
  refine cv_draw_of (pickL [1] _) (fun w hw => hw.pick (by decide)) (by simp only [pickL, nth, suf_cons, suf_nil, List.mem_cons, true_or, or_true, and_true, eq_self]) [(true, 0), (false, 1), (false, 2), (false, 3)] [2, 3] mixA rfl (by kernel_rfl) (by kernel_rfl) rfl rfl ?_
  simp -implicitDefEqProofs (disch := first | omega | decide) only [seval, -Int.reducePow, -Nat.reducePow, cC, pv, binv, sVeLd1, undef, g4]
  refine callV_ret (fun w hw => fine_any w) ?_
  try simp -implicitDefEqProofs (disch := first | omega | decide) only [seval, -Int.reducePow, -Nat.reducePow, cC, pv, binv, sVeLd1, undef, g4]
  refine hK _ _ ?_
  clear hK K
  refine cv_pick [2, 0, 1, 3, 4] (by decide) ?_
  simp only [pickL, nth]
  refine cv_ret ?_
  simp -implicitDefEqProofs (disch := first | omega | decide) only [seval, -Int.reducePow, -Nat.reducePow, cC, pv, binv, sVeLd1, undef, retQ2, ressV, packV, g4]
  intro w hw
  exact ⟨(k, fineF), rfl, ⟨hk.same (fun y hy => hw.snap_same (.head _) y (.inl (hNw y hy))) fun y hy => hw.snapNew 0 rfl (by simp) y (hNw y hy), .inr ⟨k, hdec, .inl ⟨by rw [hV]; exact hv, rfl, rfl⟩⟩⟩, hw.below⟩
set_option maxHeartbeats 2000000 in
theorem encoded_any (m : ModR) (W : World) (hM : Mod W W.heap.size m) : Calls Tryz.prog 5 #[modV m] W (rowP 5 1 (fun v => v) (byt (encMod m)) W) := by
  have hmV : ∀ m : ModR, (Value.agg #[.slice m.TA m.tn m.tc, .slice m.FA m.fn m.fc]) = modV m := fun _ => rfl
  refine calls_cv (M := []) (n := 11) [.tmp 2] rfl Tryz.func5 rfl rfl (Nat.le_of_ble_eq_true rfl) (St.nil _ _) ?_
  refine cv_seq_k fun K hK => ?_
  refine cv_region_then rfl ?_
  simp -implicitDefEqProofs (disch := first | omega | decide) only [seval, -Int.reducePow, -Nat.reducePow, cC, pv, binv, sVeLd1, undef]
  intro b1 hb1
  refine hK _ _ ?_
  clear hK K
  refine cv_seq_k fun K hK => ?_
  refine cv_region_then rfl ?_
  simp -implicitDefEqProofs (disch := first | omega | decide) only [seval, -Int.reducePow, -Nat.reducePow, cC, pv, binv, sVeLd1, undef]
  rw [hmV m]
  refine callV_row (fun A n c => .tuple #[.slice A n c, .int .i64 (errM m)]) (fun w hw => rmenc_any m w (hM.at hw)) ?_
  intro A n c hl hr
  simp -implicitDefEqProofs (disch := first | omega | decide) only [seval, -Int.reducePow, -Nat.reducePow, cC, pv, binv, sVeLd1, undef]
  refine hK _ _ ?_
  clear hK K
  refine cv_seq_k fun K hK => ?_
  refine cv_region_then rfl ?_
  simp -implicitDefEqProofs (disch := first | omega | decide) only [seval, -Int.reducePow, -Nat.reducePow, cC, pv, binv, sVeLd1, undef]
  refine hK _ _ ?_
  clear hK K
  refine cv_ret ⟨_, (by simp -implicitDefEqProofs (disch := first | omega | decide) only [seval, -Int.reducePow, -Nat.reducePow, cC, pv, binv, sVeLd1, undef]; rfl), fun w hw => ?_⟩
  exact ⟨A, n, c, rfl, hw.rowNew (by simp), hw.below⟩
end Go.Proofs.YtlbmnioibiomfaaGreat
/- SameType. -/
namespace Go.Proofs.YtlbmnioibiomfaaGreat
open Go.RowKit Go.Shelf
set_option linter.unusedVariables false
set_option linter.unusedSimpArgs false
set_option maxRecDepth 100000
set_option maxRecDepth 100000 in
theorem sSameT1 : type_of% (And.intro (And.intro @fBox.eq_1 @tBox.eq_1) (And.intro @fdV.eq_1 (And.intro @tyV.eq_1 @Nat.mul_one))) := (And.intro (And.intro @fBox.eq_1 @tBox.eq_1) (And.intro @fdV.eq_1 (And.intro @tyV.eq_1 @Nat.mul_one)))
set_option maxHeartbeats 2000000 in
theorem sameType_any (A B : Option Addr) (n c m d : Nat) (fs gs : List Fd) (x y : Int) (W : World) (hE : Sl W W.heap.size 2 A n c (cl fdc fs)) (hF : Sl W W.heap.size 2 B m d (cl fdc gs)) :
    Calls Tryz.prog 34 #[tyV x A n c, tyV y B m d] W fun e w' => e = .returned (.bool (decide (x = y ∧ fs = gs))) ∧ Below W.heap.size W w' := by
  have hln : fs.length = n := cl_row fdc_len (by omega) hE.len
  have hlm : gs.length = m := cl_row fdc_len (by omega) hF.len
  have hmax := hE.max
  have hcap := hE.cap
  refine calls_cv (M := []) (n := 38) [.tmp 4] rfl Tryz.func34 rfl rfl (Nat.le_of_ble_eq_true rfl) (St.nil _ _) ?_
  refine cv_seq_k fun K hK => ?_
  refine cv_region_then rfl ?_
  simp -implicitDefEqProofs (disch := first | omega | decide) only [seval, -Int.reducePow, -Nat.reducePow, cC, pv, binv, sSameT1, undef]
  intro b2 hb2 b3 hb3 h3
  refine hK _ _ ?_
  clear hK K
  refine cv_gen fun G1 hG => ?_
  have g1_2 := congrFun hG 2
  have g1_3 := congrFun hG 3
  clear hG
  try simp -implicitDefEqProofs (disch := first | omega | decide) only [seval, -Int.reducePow, -Nat.reducePow, cC, pv, binv, sSameT1, undef] at g1_2 g1_3
  have g1 := And.intro g1_2 g1_3
  refine cv_seq_k fun K hK => ?_
  refine cv_seq_k fun K hK => ?_
  refine cv_cut (fun _ _ => True) (fun F' L' => F' 2 = G1 2 ∧ F' 3 = G1 3 ∧ F' 19 = .bool (decide (¬ x = y ∨ ¬ n = m)) ∧ L' = [tBox b3 y B m d, tBox b2 x A n c]) ?_ ?_
  · refine cv_region_then rfl ?_
    simp -implicitDefEqProofs (disch := first | omega | decide) only [seval, -Int.reducePow, -Nat.reducePow, cC, pv, binv, sSameT1, undef, g1]
    repeat' ((first | refine vcg_cases (fun hg => ?_) (fun hg => ?_) | refine vdg_cases (fun hg => ?_) (fun hg => ?_)) <;> ((try simp only [Bool.not_eq_true', Bool.not_eq_false', decide_eq_true_eq, decide_eq_false_iff_not] at hg); (try simp -implicitDefEqProofs (disch := first | omega | decide) only [seval, -Int.reducePow, -Nat.reducePow, cC, pv, binv, sSameT1, undef, hg, g1])))
    all_goals (repeat' refine And.intro ?_ ?_)
    all_goals (first | with_reducible rfl | (refine congrArg Value.bool ?_; rw [Bool.eq_iff_iff]; (try simp only [decide_eq_true_eq, eq_self, true_and, and_true, false_and, and_false, true_or, or_true, false_or, or_false, not_true_eq_false, not_false_eq_true, true_iff, iff_true, false_iff, iff_false, Bool.false_eq_true, Bool.not_eq_true', Bool.not_eq_true, decide_eq_false_iff_not, Bool.and_eq_true, Bool.or_eq_true]) <;> omega) | (refine congrArg (Value.int _) ?_; omega) | omega)
  intro G2 L' _ hF
  obtain ⟨q2, q3, q19, rfl⟩ := hF
  have g2_2 := q2.trans g1_2
  have g2_3 := q3.trans g1_3
  have g2_19 := q19
  clear q2 q3 q19
  have g2 := And.intro g2_2 (And.intro g2_3 g2_19)
  refine hK _ _ ?_
  clear hK K
  refine cv_cond ?_
  simp -implicitDefEqProofs (disch := first | omega | decide) only [seval, -Int.reducePow, -Nat.reducePow, cC, pv, binv, sSameT1, undef, g2]
  refine ⟨fun hc => ?_, fun hc => ?_⟩
  · have q1 := of_decide_eq_true hc
    refine cv_seq_k fun K hK => ?_
    refine cv_region_then rfl ?_
    simp -implicitDefEqProofs (disch := first | omega | decide) only [seval, -Int.reducePow, -Nat.reducePow, cC, pv, binv, sSameT1, undef, g2]
    refine hK _ _ ?_
    clear hK K
    refine cv_ret ⟨_, (by simp -implicitDefEqProofs (disch := first | omega | decide) only [seval, -Int.reducePow, -Nat.reducePow, cC, pv, binv, sSameT1, undef, g2]; rfl), fun w hw => ?_⟩
    refine ⟨?_, hw.below⟩
    rw [decide_eq_false]
    rintro ⟨h1, h2⟩
    subst h2
    omega
  have q1 := of_decide_eq_false hc
  obtain ⟨rfl, rfl⟩ : x = y ∧ n = m := by omega
  refine cv_skip ?_
  try simp only [blockQ, thenQ]
  refine hK _ _ ?_
  clear hK K
  refine cv_seq_k fun K hK => ?_
  refine cv_seq_k fun K hK => ?_
  refine cv_region_then rfl ?_
  simp -implicitDefEqProofs (disch := first | omega | decide) only [seval, -Int.reducePow, -Nat.reducePow, cC, pv, binv, sSameT1, undef, g2]
  refine hK _ _ ?_
  clear hK K
  refine cv_gen fun G3 hG => ?_
  have g3_2 := congrFun hG 2
  have g3_3 := congrFun hG 3
  have g3_5 := congrFun hG 5
  clear hG
  try simp -implicitDefEqProofs (disch := first | omega | decide) only [seval, -Int.reducePow, -Nat.reducePow, cC, pv, binv, sSameT1, undef, g2] at g3_2 g3_3 g3_5
  have g3 := And.intro g3_2 (And.intro g3_3 g3_5)
  refine cv_block ?_
  refine cv_loop (fun F' L' => ∃ (k : Nat), F' 2 = G3 2 ∧ F' 3 = G3 3 ∧ F' 5 = .int .i64 (k : Int) ∧ L' = [tBox b3 x B n d, tBox b2 x A n c] ∧ k ≤ n ∧ fs.take k = gs.take k) (fun F' L' => n - (intOf (F' 5)).toNat) ?_ ?_
  · refine ⟨0, ?_⟩
    simp -implicitDefEqProofs (disch := first | omega | decide) only [seval, -Int.reducePow, -Nat.reducePow, cC, pv, binv, sSameT1, undef, g3]
    omega
  intro G4 L' hI
  obtain ⟨k, q2, q3, q5, rfl, ⟨hk, hq⟩⟩ := hI
  have g4_2 := q2.trans g3_2
  have g4_3 := q3.trans g3_3
  have g4_5 := q5
  clear q2 q3 q5
  have g4 := And.intro g4_2 (And.intro g4_3 g4_5)
  refine cv_seq_k fun K hK => ?_
  refine cv_seq_k fun K hK => ?_
  refine cv_region_then rfl ?_
  simp -implicitDefEqProofs (disch := first | omega | decide) only [seval, -Int.reducePow, -Nat.reducePow, cC, pv, binv, sSameT1, undef, g3, g4]
  refine hK _ _ ?_
  clear hK K
  refine cv_cond ?_
  simp -implicitDefEqProofs (disch := first | omega | decide) only [seval, -Int.reducePow, -Nat.reducePow, cC, pv, binv, sSameT1, undef, g3, g4]
  refine ⟨fun hc => ?_, fun hc => ?_⟩
  · refine cv_skip ?_
    try simp only [blockQ, thenQ]
    have hlt : k < n := by have := of_decide_eq_true ‹_›; omega
    obtain ⟨b0, off, rfl, hb0, -⟩ := hE.cells (by omega)
    obtain ⟨b1, off1, rfl, hb1, -⟩ := hF.cells (by omega)
    obtain ⟨u, hu⟩ := some_of (l := fs) (i := k) (by omega)
    obtain ⟨v, hv⟩ := some_of (l := gs) (i := k) (by omega)
    refine hK _ _ ?_
    clear hK K
    refine cv_seq_k fun K hK => ?_
    refine cv_block ?_
    refine cv_seq_k fun K hK => ?_
    refine cv_draw [(true, 0), (true, 1), (true, 2), (true, 3), (true, 4), (true, 5), (true, 6), (true, 7), (true, 8), (true, 9), (true, 10)] [] mixA rfl (by kernel_rfl) (by kernel_rfl) rfl rfl ?_
    simp -implicitDefEqProofs (disch := first | omega | decide) only [seval, -Int.reducePow, -Nat.reducePow, cC, pv, binv, sSameT1, undef, g3, g4]
    refine ⟨_, hE.fld hu, fun tok htok => ?_⟩
    subst htok
    simp -implicitDefEqProofs (disch := first | omega | decide) only [seval, -Int.reducePow, -Nat.reducePow, cC, pv, binv, sSameT1, undef, g3, g4]
    refine ⟨_, hF.fld hv, fun tok htok => ?_⟩
    subst htok
    simp -implicitDefEqProofs (disch := first | omega | decide) only [seval, -Int.reducePow, -Nat.reducePow, cC, pv, binv, sSameT1, undef, g3, g4]
    refine hK _ _ ?_
    clear hK K
    refine cv_cond ?_
    simp -implicitDefEqProofs (disch := first | omega | decide) only [seval, -Int.reducePow, -Nat.reducePow, cC, pv, binv, sSameT1, undef, g3, g4]
    refine ⟨fun hc => ?_, fun hc => ?_⟩
    · have hne : ¬ u = v := by
        rintro rfl
        simp at hc
      refine cv_seq_k fun K hK => ?_
      refine cv_region_then rfl ?_
      simp -implicitDefEqProofs (disch := first | omega | decide) only [seval, -Int.reducePow, -Nat.reducePow, cC, pv, binv, sSameT1, undef, g3, g4]
      refine hK _ _ ?_
      clear hK K
      refine cv_ret ⟨_, (by simp -implicitDefEqProofs (disch := first | omega | decide) only [seval, -Int.reducePow, -Nat.reducePow, cC, pv, binv, sSameT1, undef, g3, g4]; rfl), fun w hw => ?_⟩
      refine ⟨?_, hw.below⟩
      rw [decide_eq_false]
      rintro ⟨-, rfl⟩
      rw [hu] at hv
      injection hv with hv
      exact hne hv
    have huv : u = v := by
      obtain ⟨u1, u2⟩ := u
      obtain ⟨v1, v2⟩ := v
      simpa using hc
    subst huv
    refine cv_skip ?_
    try simp only [blockQ, thenQ]
    refine hK _ _ ?_
    clear hK K
    refine cv_region_then rfl ?_
    simp -implicitDefEqProofs (disch := first | omega | decide) only [seval, -Int.reducePow, -Nat.reducePow, cC, pv, binv, sSameT1, undef, wrap_in, g3, g4]
    refine ⟨⟨k + 1, ?_⟩, ?_⟩
    · simp -implicitDefEqProofs (disch := first | omega | decide) only [seval, -Int.reducePow, -Nat.reducePow, cC, pv, binv, sSameT1, undef, Int.natCast_add, g3, g4]
      refine ⟨by omega, ?_⟩
      obtain ⟨h1, h2⟩ := List.getElem?_eq_some_iff.1 hu
      obtain ⟨h3, h4⟩ := List.getElem?_eq_some_iff.1 hv
      rw [List.take_succ_eq_append_getElem h1, List.take_succ_eq_append_getElem h3, h2, h4, hq]
    · simp only [intOf]; omega
  refine cv_exit ?_
  simp only [blockQ, thenQ, if_true, ite_true]
  clear hK K
  refine hK _ _ ?_
  clear hK K
  have hkn : k = n := by have := of_decide_eq_false ‹_›; omega
  subst hkn
  rw [List.take_of_length_le (by omega), List.take_of_length_le (by omega)] at hq
  refine cv_seq_k fun K hK => ?_
  refine cv_region_then rfl ?_
  simp -implicitDefEqProofs (disch := first | omega | decide) only [seval, -Int.reducePow, -Nat.reducePow, cC, pv, binv, sSameT1, undef, g3, g4]
  refine hK _ _ ?_
  clear hK K
  refine cv_ret ⟨_, (by simp -implicitDefEqProofs (disch := first | omega | decide) only [seval, -Int.reducePow, -Nat.reducePow, cC, pv, binv, sSameT1, undef, g3, g4]; rfl), fun w hw => ?_⟩
  exact ⟨by simp [hq], hw.below⟩
end Go.Proofs.YtlbmnioibiomfaaGreat
/- SameModule. -/
namespace Go.Proofs.YtlbmnioibiomfaaGreat
open Go.RowKit Go.Shelf
set_option linter.unusedVariables false
set_option linter.unusedSimpArgs false
set_option maxRecDepth 100000
theorem take_succ2 {α : Type} {xs ys : List α} {k : Nat} {x : α} (h : xs.take k = ys.take k) (hx : xs[k]? = some x) (hy : ys[k]? = some x) : xs.take (k + 1) = ys.take (k + 1) := by
  obtain ⟨h1, h2⟩ := List.getElem?_eq_some_iff.1 hx
  obtain ⟨h3, h4⟩ := List.getElem?_eq_some_iff.1 hy
  rw [List.take_succ_eq_append_getElem h1, List.take_succ_eq_append_getElem h3, h2, h4, h]
set_option maxRecDepth 100000 in
theorem sMSame1 : type_of% (And.intro (And.intro @Nat.mul_one (And.intro @gBox.eq_1 @fnV.eq_1)) (And.intro (And.intro @tBox.eq_1 @tyV.eq_1) (And.intro @mBox.eq_1 @modV.eq_1))) := (And.intro (And.intro @Nat.mul_one (And.intro @gBox.eq_1 @fnV.eq_1)) (And.intro (And.intro @tBox.eq_1 @tyV.eq_1) (And.intro @mBox.eq_1 @modV.eq_1)))
set_option maxHeartbeats 4000000 in
theorem sameFunc_any (f g : FnR) (W : World) (hE : Sl W W.heap.size 2 f.A f.n f.c (cl insc f.code)) (hF : Sl W W.heap.size 2 g.A g.n g.c (cl insc g.code)) :
    Calls Tryz.prog 35 #[fnV f, fnV g] W fun e w' => e = .returned (.bool (decide (fnD f = fnD g))) ∧ Below W.heap.size W w' := by
  obtain ⟨p, r, lo, A, n, c, fs⟩ := f
  obtain ⟨p2, r2, lo2, B, m, d, gs⟩ := g
  dsimp only at hE hF
  have hln : fs.length = n := cl_row insc_len (by omega) hE.len
  have hlm : gs.length = m := cl_row insc_len (by omega) hF.len
  have hmax := hE.max
  have hcap := hE.cap
  have hfn : fnD ⟨p, r, lo, A, n, c, fs⟩ = fnD ⟨p2, r2, lo2, B, m, d, gs⟩ ↔ p = p2 ∧ r = r2 ∧ lo = lo2 ∧ fs = gs := by simp [fnD]
  rw [decide_eq_decide.2 hfn]
  refine calls_cv (M := []) (n := 52) [.tmp 4] rfl Tryz.func35 rfl rfl (Nat.le_of_ble_eq_true rfl) (St.nil _ _) ?_
  refine cv_seq_k fun K hK => ?_
  refine cv_region_then rfl ?_
  simp -implicitDefEqProofs (disch := first | omega | decide) only [seval, -Int.reducePow, -Nat.reducePow, cC, pv, binv, sMSame1, undef]
  intro b2 hb2 b3 hb3 h3
  refine hK _ _ ?_
  clear hK K
  refine cv_gen fun G1 hG => ?_
  have g1_2 := congrFun hG 2
  have g1_3 := congrFun hG 3
  clear hG
  try simp -implicitDefEqProofs (disch := first | omega | decide) only [seval, -Int.reducePow, -Nat.reducePow, cC, pv, binv, sMSame1, undef] at g1_2 g1_3
  have g1 := And.intro g1_2 g1_3
  refine cv_seq_k fun K hK => ?_
  refine cv_seq_k fun K hK => ?_
  refine cv_cut (fun _ _ => True) (fun F' L' => F' 2 = G1 2 ∧ F' 3 = G1 3 ∧ F' 33 = .bool (decide (¬ p = p2 ∨ ¬ r = r2 ∨ ¬ lo = lo2 ∨ ¬ n = m)) ∧ L' = [.blk b3 42 [.int .i64 p2, .int .i64 r2, .int .i64 lo2, .slice B m d], .blk b2 42 [.int .i64 p, .int .i64 r, .int .i64 lo, .slice A n c]]) ?_ ?_
  · refine cv_region_then rfl ?_
    simp -implicitDefEqProofs (disch := first | omega | decide) only [seval, -Int.reducePow, -Nat.reducePow, cC, pv, binv, sMSame1, undef, g1]
    repeat' ((first | refine vcg_cases (fun hg => ?_) (fun hg => ?_) | refine vdg_cases (fun hg => ?_) (fun hg => ?_)) <;> ((try simp only [Bool.not_eq_true', Bool.not_eq_false', decide_eq_true_eq, decide_eq_false_iff_not] at hg); (try simp -implicitDefEqProofs (disch := first | omega | decide) only [seval, -Int.reducePow, -Nat.reducePow, cC, pv, binv, sMSame1, undef, hg, g1])))
    all_goals (repeat' refine And.intro ?_ ?_)
    all_goals (first | with_reducible rfl | (refine congrArg Value.bool ?_; rw [Bool.eq_iff_iff]; (try simp only [decide_eq_true_eq, eq_self, true_and, and_true, false_and, and_false, true_or, or_true, false_or, or_false, not_true_eq_false, not_false_eq_true, true_iff, iff_true, false_iff, iff_false, Bool.false_eq_true, Bool.not_eq_true', Bool.not_eq_true, decide_eq_false_iff_not, Bool.and_eq_true, Bool.or_eq_true]) <;> omega) | (refine congrArg (Value.int _) ?_; omega) | omega)
  intro G2 L' _ hF
  obtain ⟨q2, q3, q33, rfl⟩ := hF
  have g2_2 := q2.trans g1_2
  have g2_3 := q3.trans g1_3
  have g2_33 := q33
  clear q2 q3 q33
  have g2 := And.intro g2_2 (And.intro g2_3 g2_33)
  refine hK _ _ ?_
  clear hK K
  refine cv_cond ?_
  simp -implicitDefEqProofs (disch := first | omega | decide) only [seval, -Int.reducePow, -Nat.reducePow, cC, pv, binv, sMSame1, undef, g2]
  refine ⟨fun hc => ?_, fun hc => ?_⟩
  · have q1 := of_decide_eq_true hc
    refine cv_seq_k fun K hK => ?_
    refine cv_region_then rfl ?_
    simp -implicitDefEqProofs (disch := first | omega | decide) only [seval, -Int.reducePow, -Nat.reducePow, cC, pv, binv, sMSame1, undef, g2]
    refine hK _ _ ?_
    clear hK K
    refine cv_ret ⟨_, (by simp -implicitDefEqProofs (disch := first | omega | decide) only [seval, -Int.reducePow, -Nat.reducePow, cC, pv, binv, sMSame1, undef, g2]; rfl), fun w hw => ?_⟩
    refine ⟨?_, hw.below⟩
    rw [decide_eq_false]
    rintro ⟨h1, h2, h3, h4⟩
    subst h4
    omega
  have q1 := of_decide_eq_false hc
  obtain ⟨rfl, rfl, rfl, rfl⟩ : p = p2 ∧ r = r2 ∧ lo = lo2 ∧ n = m := by omega
  refine cv_skip ?_
  try simp only [blockQ, thenQ]
  refine hK _ _ ?_
  clear hK K
  refine cv_seq_k fun K hK => ?_
  refine cv_seq_k fun K hK => ?_
  refine cv_region_then rfl ?_
  simp -implicitDefEqProofs (disch := first | omega | decide) only [seval, -Int.reducePow, -Nat.reducePow, cC, pv, binv, sMSame1, undef, g2]
  refine hK _ _ ?_
  clear hK K
  refine cv_gen fun G3 hG => ?_
  have g3_2 := congrFun hG 2
  have g3_3 := congrFun hG 3
  have g3_5 := congrFun hG 5
  clear hG
  try simp -implicitDefEqProofs (disch := first | omega | decide) only [seval, -Int.reducePow, -Nat.reducePow, cC, pv, binv, sMSame1, undef, g2] at g3_2 g3_3 g3_5
  have g3 := And.intro g3_2 (And.intro g3_3 g3_5)
  refine cv_block ?_
  refine cv_loop (fun F' L' => ∃ (k : Nat), F' 2 = G3 2 ∧ F' 3 = G3 3 ∧ F' 5 = .int .i64 (k : Int) ∧ L' = [.blk b3 42 [.int .i64 p, .int .i64 r, .int .i64 lo, .slice B n d], .blk b2 42 [.int .i64 p, .int .i64 r, .int .i64 lo, .slice A n c]] ∧ k ≤ n ∧ fs.take k = gs.take k) (fun F' L' => n - (intOf (F' 5)).toNat) ?_ ?_
  · refine ⟨0, ?_⟩
    simp -implicitDefEqProofs (disch := first | omega | decide) only [seval, -Int.reducePow, -Nat.reducePow, cC, pv, binv, sMSame1, undef, g3]
    omega
  intro G4 L' hI
  obtain ⟨k, q2, q3, q5, rfl, ⟨hk, hq⟩⟩ := hI
  have g4_2 := q2.trans g3_2
  have g4_3 := q3.trans g3_3
  have g4_5 := q5
  clear q2 q3 q5
  have g4 := And.intro g4_2 (And.intro g4_3 g4_5)
  refine cv_seq_k fun K hK => ?_
  refine cv_seq_k fun K hK => ?_
  refine cv_region_then rfl ?_
  simp -implicitDefEqProofs (disch := first | omega | decide) only [seval, -Int.reducePow, -Nat.reducePow, cC, pv, binv, sMSame1, undef, g3, g4]
  refine hK _ _ ?_
  clear hK K
  refine cv_cond ?_
  simp -implicitDefEqProofs (disch := first | omega | decide) only [seval, -Int.reducePow, -Nat.reducePow, cC, pv, binv, sMSame1, undef, g3, g4]
  refine ⟨fun hc => ?_, fun hc => ?_⟩
  · refine cv_skip ?_
    try simp only [blockQ, thenQ]
    have hlt : k < n := by have := of_decide_eq_true ‹_›; omega
    obtain ⟨b0, off, rfl, hb0, -⟩ := hE.cells (by omega)
    obtain ⟨b1, off1, rfl, hb1, -⟩ := hF.cells (by omega)
    obtain ⟨u, hu⟩ := some_of (l := fs) (i := k) (by omega)
    obtain ⟨v, hv⟩ := some_of (l := gs) (i := k) (by omega)
    refine hK _ _ ?_
    clear hK K
    refine cv_seq_k fun K hK => ?_
    refine cv_block ?_
    refine cv_seq_k fun K hK => ?_
    refine cv_draw [(true, 0), (true, 1), (true, 2), (true, 3), (true, 4), (true, 5), (true, 6), (true, 7), (true, 8), (true, 9), (true, 10)] [] mixA rfl (by kernel_rfl) (by kernel_rfl) rfl rfl ?_
    simp -implicitDefEqProofs (disch := first | omega | decide) only [seval, -Int.reducePow, -Nat.reducePow, cC, pv, binv, sMSame1, undef, g3, g4]
    refine ⟨_, hE.ins hu, fun tok htok => ?_⟩
    subst htok
    simp -implicitDefEqProofs (disch := first | omega | decide) only [seval, -Int.reducePow, -Nat.reducePow, cC, pv, binv, sMSame1, undef, g3, g4]
    refine ⟨_, hF.ins hv, fun tok htok => ?_⟩
    subst htok
    simp -implicitDefEqProofs (disch := first | omega | decide) only [seval, -Int.reducePow, -Nat.reducePow, cC, pv, binv, sMSame1, undef, g3, g4]
    refine hK _ _ ?_
    clear hK K
    refine cv_cond ?_
    simp -implicitDefEqProofs (disch := first | omega | decide) only [seval, -Int.reducePow, -Nat.reducePow, cC, pv, binv, sMSame1, undef, g3, g4]
    refine ⟨fun hc => ?_, fun hc => ?_⟩
    · have hne : ¬ u = v := by
        rintro rfl
        simp at hc
      refine cv_seq_k fun K hK => ?_
      refine cv_region_then rfl ?_
      simp -implicitDefEqProofs (disch := first | omega | decide) only [seval, -Int.reducePow, -Nat.reducePow, cC, pv, binv, sMSame1, undef, g3, g4]
      refine hK _ _ ?_
      clear hK K
      refine cv_ret ⟨_, (by simp -implicitDefEqProofs (disch := first | omega | decide) only [seval, -Int.reducePow, -Nat.reducePow, cC, pv, binv, sMSame1, undef, g3, g4]; rfl), fun w hw => ?_⟩
      refine ⟨?_, hw.below⟩
      rw [decide_eq_false]
      rintro ⟨-, -, -, rfl⟩
      rw [hu] at hv
      injection hv with hv
      exact hne hv
    have huv : u = v := by
      obtain ⟨u1, u2⟩ := u
      obtain ⟨v1, v2⟩ := v
      simp at hc
      simp
      omega
    subst huv
    refine cv_skip ?_
    try simp only [blockQ, thenQ]
    refine hK _ _ ?_
    clear hK K
    refine cv_region_then rfl ?_
    simp -implicitDefEqProofs (disch := first | omega | decide) only [seval, -Int.reducePow, -Nat.reducePow, cC, pv, binv, sMSame1, undef, wrap_in, g3, g4]
    refine ⟨⟨k + 1, ?_⟩, ?_⟩
    · simp -implicitDefEqProofs (disch := first | omega | decide) only [seval, -Int.reducePow, -Nat.reducePow, cC, pv, binv, sMSame1, undef, Int.natCast_add, g3, g4]
      exact ⟨by omega, take_succ2 hq hu hv⟩
    · simp only [intOf]; omega
  refine cv_exit ?_
  simp only [blockQ, thenQ, if_true, ite_true]
  clear hK K
  refine hK _ _ ?_
  clear hK K
  have hkn : k = n := by have := of_decide_eq_false ‹_›; omega
  subst hkn
  rw [List.take_of_length_le (by omega), List.take_of_length_le (by omega)] at hq
  refine cv_seq_k fun K hK => ?_
  refine cv_region_then rfl ?_
  simp -implicitDefEqProofs (disch := first | omega | decide) only [seval, -Int.reducePow, -Nat.reducePow, cC, pv, binv, sMSame1, undef, g3, g4]
  refine hK _ _ ?_
  clear hK K
  refine cv_ret ⟨_, (by simp -implicitDefEqProofs (disch := first | omega | decide) only [seval, -Int.reducePow, -Nat.reducePow, cC, pv, binv, sMSame1, undef, g3, g4]; rfl), fun w hw => ?_⟩
  exact ⟨by simp [hq], hw.below⟩
theorem map_snoc {α β : Type} {xs ys : List α} {k : Nat} {x y : α} (d : α → β) (h : (xs.take k).map d = (ys.take k).map d) (hx : xs[k]? = some x) (hy : ys[k]? = some y) (hd : d x = d y) : (xs.take (k + 1)).map d = (ys.take (k + 1)).map d := by
  obtain ⟨h1, h2⟩ := List.getElem?_eq_some_iff.1 hx
  obtain ⟨h3, h4⟩ := List.getElem?_eq_some_iff.1 hy
  rw [List.take_succ_eq_append_getElem h1, List.take_succ_eq_append_getElem h3, h2, h4, List.map_append, List.map_append, h, List.map_singleton, List.map_singleton, hd]
theorem map_at {α β : Type} {xs ys : List α} {k : Nat} {x y : α} (d : α → β) (h : xs.map d = ys.map d) (hx : xs[k]? = some x) (hy : ys[k]? = some y) : d x = d y := by
  have := congrArg (fun l => l[k]?) h
  simp only [List.getElem?_map, hx, hy, Option.map_some, Option.some.injEq] at this
  exact this
set_option maxHeartbeats 8000000 in
theorem sameModule_any (m k : ModR) (W : World) (hM : Mod W W.heap.size m) (kM : Mod W W.heap.size k) :
    Calls Tryz.prog 18 #[modV m, modV k] W fun e w' => e = .returned (.bool (decide (datM m = datM k))) ∧ Below W.heap.size W w' := by
  have hlt := hM.tlen
  have hlg := hM.glen
  have klt := kM.tlen
  have klg := kM.glen
  have hE := hM.ts
  have hG := hM.gs
  have kE := kM.ts
  have kG := kM.gs
  have hme := hE.max
  have hce := hE.cap
  have hmg := hG.max
  have hcg := hG.cap
  obtain ⟨TA, tn, tc, ts, FA, fn, fc, gs⟩ := m
  obtain ⟨TB, sn, sc, us, FB, hn, hc', hs⟩ := k
  dsimp only at hlt hlg klt klg hE hG kE kG hme hce hmg hcg
  have hdm : datM ⟨TA, tn, tc, ts, FA, fn, fc, gs⟩ = datM ⟨TB, sn, sc, us, FB, hn, hc', hs⟩ ↔ ts.map tyD = us.map tyD ∧ gs.map fnD = hs.map fnD := by
    show ((ts.map tyD, gs.map fnD) = (us.map tyD, hs.map fnD)) ↔ _
    simp
  rw [decide_eq_decide.2 hdm]
  refine calls_cv (M := []) (n := 61) [.tmp 4] rfl Tryz.func18 rfl rfl (Nat.le_of_ble_eq_true rfl) (St.nil _ _) ?_
  refine cv_seq_k fun K hK => ?_
  refine cv_region_then rfl ?_
  simp -implicitDefEqProofs (disch := first | omega | decide) only [seval, -Int.reducePow, -Nat.reducePow, cC, pv, binv, sMSame1, undef]
  intro b2 hb2 b3 hb3 h3
  refine hK _ _ ?_
  clear hK K
  refine cv_gen fun G5 hG => ?_
  have g5_2 := congrFun hG 2
  have g5_3 := congrFun hG 3
  clear hG
  try simp -implicitDefEqProofs (disch := first | omega | decide) only [seval, -Int.reducePow, -Nat.reducePow, cC, pv, binv, sMSame1, undef] at g5_2 g5_3
  have g5 := And.intro g5_2 g5_3
  refine cv_seq_k fun K hK => ?_
  refine cv_seq_k fun K hK => ?_
  refine cv_cut (fun _ _ => True) (fun F' L' => F' 2 = G5 2 ∧ F' 3 = G5 3 ∧ F' 22 = .bool (decide (¬ tn = sn ∨ ¬ fn = hn)) ∧ L' = [.blk b3 30 [.slice TB sn sc, .slice FB hn hc'], .blk b2 30 [.slice TA tn tc, .slice FA fn fc]]) ?_ ?_
  · refine cv_region_then rfl ?_
    simp -implicitDefEqProofs (disch := first | omega | decide) only [seval, -Int.reducePow, -Nat.reducePow, cC, pv, binv, sMSame1, undef, g5]
    repeat' ((first | refine vcg_cases (fun hg => ?_) (fun hg => ?_) | refine vdg_cases (fun hg => ?_) (fun hg => ?_)) <;> ((try simp only [Bool.not_eq_true', Bool.not_eq_false', decide_eq_true_eq, decide_eq_false_iff_not] at hg); (try simp -implicitDefEqProofs (disch := first | omega | decide) only [seval, -Int.reducePow, -Nat.reducePow, cC, pv, binv, sMSame1, undef, hg, g5])))
    all_goals (repeat' refine And.intro ?_ ?_)
    all_goals (first | with_reducible rfl | (refine congrArg Value.bool ?_; rw [Bool.eq_iff_iff]; (try simp only [decide_eq_true_eq, eq_self, true_and, and_true, false_and, and_false, true_or, or_true, false_or, or_false, not_true_eq_false, not_false_eq_true, true_iff, iff_true, false_iff, iff_false, Bool.false_eq_true, Bool.not_eq_true', Bool.not_eq_true, decide_eq_false_iff_not, Bool.and_eq_true, Bool.or_eq_true]) <;> omega) | (refine congrArg (Value.int _) ?_; omega) | omega)
  intro G6 L' _ hF
  obtain ⟨q2, q3, q22, rfl⟩ := hF
  have g6_2 := q2.trans g5_2
  have g6_3 := q3.trans g5_3
  have g6_22 := q22
  clear q2 q3 q22
  have g6 := And.intro g6_2 (And.intro g6_3 g6_22)
  refine hK _ _ ?_
  clear hK K
  refine cv_cond ?_
  simp -implicitDefEqProofs (disch := first | omega | decide) only [seval, -Int.reducePow, -Nat.reducePow, cC, pv, binv, sMSame1, undef, g6]
  refine ⟨fun hc => ?_, fun hc => ?_⟩
  · have q1 := of_decide_eq_true hc
    refine cv_seq_k fun K hK => ?_
    refine cv_region_then rfl ?_
    simp -implicitDefEqProofs (disch := first | omega | decide) only [seval, -Int.reducePow, -Nat.reducePow, cC, pv, binv, sMSame1, undef, g6]
    refine hK _ _ ?_
    clear hK K
    refine cv_ret ⟨_, (by simp -implicitDefEqProofs (disch := first | omega | decide) only [seval, -Int.reducePow, -Nat.reducePow, cC, pv, binv, sMSame1, undef, g6]; rfl), fun w hw => ?_⟩
    refine ⟨?_, hw.below⟩
    rw [decide_eq_false]
    rintro ⟨h1, h2⟩
    have := len_dat h1
    have := len_dat h2
    omega
  have q1 := of_decide_eq_false hc
  obtain ⟨rfl, rfl⟩ : tn = sn ∧ fn = hn := by omega
  refine cv_skip ?_
  try simp only [blockQ, thenQ]
  refine hK _ _ ?_
  clear hK K
  refine cv_seq_k fun K hK => ?_
  refine cv_seq_k fun K hK => ?_
  refine cv_region_then rfl ?_
  simp -implicitDefEqProofs (disch := first | omega | decide) only [seval, -Int.reducePow, -Nat.reducePow, cC, pv, binv, sMSame1, undef, g6]
  refine hK _ _ ?_
  clear hK K
  refine cv_gen fun G7 hG => ?_
  have g7_2 := congrFun hG 2
  have g7_3 := congrFun hG 3
  have g7_5 := congrFun hG 5
  clear hG
  try simp -implicitDefEqProofs (disch := first | omega | decide) only [seval, -Int.reducePow, -Nat.reducePow, cC, pv, binv, sMSame1, undef, g6] at g7_2 g7_3 g7_5
  have g7 := And.intro g7_2 (And.intro g7_3 g7_5)
  refine cv_block ?_
  refine cv_loop (fun F' L' => ∃ (i : Nat), F' 2 = G7 2 ∧ F' 3 = G7 3 ∧ F' 5 = .int .i64 (i : Int) ∧ L' = [.blk b3 30 [.slice TB tn sc, .slice FB fn hc'], .blk b2 30 [.slice TA tn tc, .slice FA fn fc]] ∧ i ≤ tn ∧ (ts.take i).map tyD = (us.take i).map tyD) (fun F' L' => tn - (intOf (F' 5)).toNat) ?_ ?_
  · refine ⟨0, ?_⟩
    simp -implicitDefEqProofs (disch := first | omega | decide) only [seval, -Int.reducePow, -Nat.reducePow, cC, pv, binv, sMSame1, undef, g7]
    omega
  intro G8 L' hI
  obtain ⟨i, q2, q3, q5, rfl, ⟨hk, hq⟩⟩ := hI
  have g8_2 := q2.trans g7_2
  have g8_3 := q3.trans g7_3
  have g8_5 := q5
  clear q2 q3 q5
  have g8 := And.intro g8_2 (And.intro g8_3 g8_5)
  refine cv_seq_k fun K hK => ?_
  refine cv_seq_k fun K hK => ?_
  refine cv_region_then rfl ?_
  simp -implicitDefEqProofs (disch := first | omega | decide) only [seval, -Int.reducePow, -Nat.reducePow, cC, pv, binv, sMSame1, undef, g7, g8]
  refine hK _ _ ?_
  clear hK K
  refine cv_cond ?_
  simp -implicitDefEqProofs (disch := first | omega | decide) only [seval, -Int.reducePow, -Nat.reducePow, cC, pv, binv, sMSame1, undef, g7, g8]
  refine ⟨fun hc => ?_, fun hc => ?_⟩
  · refine cv_skip ?_
    try simp only [blockQ, thenQ]
    have hlt2 : i < tn := by have := of_decide_eq_true ‹_›; omega
    obtain ⟨u, hu⟩ := some_of (l := ts) (i := i) (by omega)
    obtain ⟨v, hv⟩ := some_of (l := us) (i := i) (by omega)
    have hut := hM.ty u (List.mem_of_getElem? hu)
    have hvt := kM.ty v (List.mem_of_getElem? hv)
    obtain ⟨b0, off, rfl, hb0, -⟩ := hE.cells (by omega)
    obtain ⟨b1, off1, rfl, hb1, -⟩ := kE.cells (by omega)
    refine hK _ _ ?_
    clear hK K
    refine cv_seq_k fun K hK => ?_
    refine cv_block ?_
    refine cv_seq_k fun K hK => ?_
    refine cv_draw [(true, 0), (true, 1), (true, 2), (true, 3), (true, 4), (true, 5), (true, 6), (true, 7), (true, 8), (true, 9), (false, 10), (true, 11)] [] mixA rfl (by kernel_rfl) (by kernel_rfl) rfl rfl ?_
    simp -implicitDefEqProofs (disch := first | omega | decide) only [seval, -Int.reducePow, -Nat.reducePow, cC, pv, binv, sMSame1, undef, g7, g8]
    refine ⟨_, hE.tyl hu, fun tok htok => ?_⟩
    subst htok
    simp -implicitDefEqProofs (disch := first | omega | decide) only [seval, -Int.reducePow, -Nat.reducePow, cC, pv, binv, sMSame1, undef, g7, g8]
    refine ⟨_, kE.tyl hv, fun tok htok => ?_⟩
    subst htok
    simp -implicitDefEqProofs (disch := first | omega | decide) only [seval, -Int.reducePow, -Nat.reducePow, cC, pv, binv, sMSame1, undef, g7, g8]
    refine callV_ret (fun w hw => sameType_any u.A v.A u.n u.c v.n v.c u.fs v.fs u.len v.len w (hut.at hw) (hvt.at hw)) ?_
    try simp -implicitDefEqProofs (disch := first | omega | decide) only [seval, -Int.reducePow, -Nat.reducePow, cC, pv, binv, sMSame1, undef, g7, g8]
    refine hK _ _ ?_
    clear hK K
    refine cv_cond ?_
    simp -implicitDefEqProofs (disch := first | omega | decide) only [seval, -Int.reducePow, -Nat.reducePow, cC, pv, binv, sMSame1, undef, g7, g8]
    refine ⟨fun hc => ?_, fun hc => ?_⟩
    · have hne : ¬ (u.len = v.len ∧ u.fs = v.fs) := fun h => by simp [h] at hc
      refine cv_seq_k fun K hK => ?_
      refine cv_region_then rfl ?_
      simp -implicitDefEqProofs (disch := first | omega | decide) only [seval, -Int.reducePow, -Nat.reducePow, cC, pv, binv, sMSame1, undef, g7, g8]
      refine hK _ _ ?_
      clear hK K
      refine cv_ret ⟨_, (by simp -implicitDefEqProofs (disch := first | omega | decide) only [seval, -Int.reducePow, -Nat.reducePow, cC, pv, binv, sMSame1, undef, g7, g8]; rfl), fun w hw => ?_⟩
      refine ⟨?_, hw.below⟩
      rw [decide_eq_false]
      rintro ⟨h1, -⟩
      have := map_at tyD h1 hu hv
      unfold tyD at this
      simp only [Prod.mk.injEq] at this
      exact hne this
    have huv : u.len = v.len ∧ u.fs = v.fs := by simpa using hc
    refine cv_skip ?_
    try simp only [blockQ, thenQ]
    refine hK _ _ ?_
    clear hK K
    refine cv_region_then rfl ?_
    simp -implicitDefEqProofs (disch := first | omega | decide) only [seval, -Int.reducePow, -Nat.reducePow, cC, pv, binv, sMSame1, undef, wrap_in, g7, g8]
    refine ⟨⟨i + 1, ?_⟩, ?_⟩
    · simp -implicitDefEqProofs (disch := first | omega | decide) only [seval, -Int.reducePow, -Nat.reducePow, cC, pv, binv, sMSame1, undef, Int.natCast_add, g7, g8]
      exact ⟨by omega, map_snoc tyD hq hu hv (by unfold tyD; rw [huv.1, huv.2])⟩
    · simp only [intOf]; omega
  refine cv_exit ?_
  simp only [blockQ, thenQ, if_true, ite_true]
  clear hK K
  refine hK _ _ ?_
  clear hK K
  have hkn : i = tn := by have := of_decide_eq_false ‹_›; omega
  subst hkn
  rw [List.take_of_length_le (by omega), List.take_of_length_le (by omega)] at hq
  refine cv_seq_k fun K hK => ?_
  refine cv_seq_k fun K hK => ?_
  refine cv_region_then rfl ?_
  simp -implicitDefEqProofs (disch := first | omega | decide) only [seval, -Int.reducePow, -Nat.reducePow, cC, pv, binv, sMSame1, undef, g7, g8]
  refine hK _ _ ?_
  clear hK K
  refine cv_gen fun G9 hG => ?_
  have g9_2 := congrFun hG 2
  have g9_3 := congrFun hG 3
  have g9_6 := congrFun hG 6
  clear hG
  try simp -implicitDefEqProofs (disch := first | omega | decide) only [seval, -Int.reducePow, -Nat.reducePow, cC, pv, binv, sMSame1, undef, g7, g8] at g9_2 g9_3 g9_6
  have g9 := And.intro g9_2 (And.intro g9_3 g9_6)
  refine cv_block ?_
  refine cv_loop (fun F' L' => ∃ (j : Nat), F' 2 = G9 2 ∧ F' 3 = G9 3 ∧ F' 6 = .int .i64 (j : Int) ∧ L' = [.blk b3 30 [.slice TB i sc, .slice FB fn hc'], .blk b2 30 [.slice TA i tc, .slice FA fn fc]] ∧ j ≤ fn ∧ (gs.take j).map fnD = (hs.take j).map fnD) (fun F' L' => fn - (intOf (F' 6)).toNat) ?_ ?_
  · refine ⟨0, ?_⟩
    simp -implicitDefEqProofs (disch := first | omega | decide) only [seval, -Int.reducePow, -Nat.reducePow, cC, pv, binv, sMSame1, undef, g7, g8, g9]
    omega
  intro G10 L' hI
  obtain ⟨j, q2, q3, q6, rfl, ⟨hk2, hq2⟩⟩ := hI
  have g10_2 := q2.trans g9_2
  have g10_3 := q3.trans g9_3
  have g10_6 := q6
  clear q2 q3 q6
  have g10 := And.intro g10_2 (And.intro g10_3 g10_6)
  refine cv_seq_k fun K hK => ?_
  refine cv_seq_k fun K hK => ?_
  refine cv_region_then rfl ?_
  simp -implicitDefEqProofs (disch := first | omega | decide) only [seval, -Int.reducePow, -Nat.reducePow, cC, pv, binv, sMSame1, undef, g7, g8, g9, g10]
  refine hK _ _ ?_
  clear hK K
  refine cv_cond ?_
  simp -implicitDefEqProofs (disch := first | omega | decide) only [seval, -Int.reducePow, -Nat.reducePow, cC, pv, binv, sMSame1, undef, g7, g8, g9, g10]
  refine ⟨fun hc => ?_, fun hc => ?_⟩
  · refine cv_skip ?_
    try simp only [blockQ, thenQ]
    have hlt2 : j < fn := by have := of_decide_eq_true ‹_›; omega
    obtain ⟨u, hu⟩ := some_of (l := gs) (i := j) (by omega)
    obtain ⟨v, hv⟩ := some_of (l := hs) (i := j) (by omega)
    have hut := hM.fn u (List.mem_of_getElem? hu)
    have hvt := kM.fn v (List.mem_of_getElem? hv)
    obtain ⟨b0, off, rfl, hb0, -⟩ := hG.cells (by omega)
    obtain ⟨b1, off1, rfl, hb1, -⟩ := kG.cells (by omega)
    refine hK _ _ ?_
    clear hK K
    refine cv_seq_k fun K hK => ?_
    refine cv_block ?_
    refine cv_seq_k fun K hK => ?_
    refine cv_draw [(true, 0), (true, 1), (true, 2), (true, 3), (true, 4), (true, 5), (true, 6), (true, 7), (true, 8), (true, 9), (false, 10), (true, 11)] [] mixA rfl (by kernel_rfl) (by kernel_rfl) rfl rfl ?_
    simp -implicitDefEqProofs (disch := first | omega | decide) only [seval, -Int.reducePow, -Nat.reducePow, cC, pv, binv, sMSame1, undef, g7, g8, g9, g10]
    refine ⟨_, hG.fnl hu, fun tok htok => ?_⟩
    subst htok
    simp -implicitDefEqProofs (disch := first | omega | decide) only [seval, -Int.reducePow, -Nat.reducePow, cC, pv, binv, sMSame1, undef, g7, g8, g9, g10]
    refine ⟨_, kG.fnl hv, fun tok htok => ?_⟩
    subst htok
    simp -implicitDefEqProofs (disch := first | omega | decide) only [seval, -Int.reducePow, -Nat.reducePow, cC, pv, binv, sMSame1, undef, g7, g8, g9, g10]
    refine callV_ret (fun w hw => sameFunc_any u v w (hut.at hw) (hvt.at hw)) ?_
    try simp -implicitDefEqProofs (disch := first | omega | decide) only [seval, -Int.reducePow, -Nat.reducePow, cC, pv, binv, sMSame1, undef, g7, g8, g9, g10]
    refine hK _ _ ?_
    clear hK K
    refine cv_cond ?_
    simp -implicitDefEqProofs (disch := first | omega | decide) only [seval, -Int.reducePow, -Nat.reducePow, cC, pv, binv, sMSame1, undef, g7, g8, g9, g10]
    refine ⟨fun hc => ?_, fun hc => ?_⟩
    · have hne : ¬ fnD u = fnD v := by simpa using hc
      refine cv_seq_k fun K hK => ?_
      refine cv_region_then rfl ?_
      simp -implicitDefEqProofs (disch := first | omega | decide) only [seval, -Int.reducePow, -Nat.reducePow, cC, pv, binv, sMSame1, undef, g7, g8, g9, g10]
      refine hK _ _ ?_
      clear hK K
      refine cv_ret ⟨_, (by simp -implicitDefEqProofs (disch := first | omega | decide) only [seval, -Int.reducePow, -Nat.reducePow, cC, pv, binv, sMSame1, undef, g7, g8, g9, g10]; rfl), fun w hw => ?_⟩
      refine ⟨?_, hw.below⟩
      rw [decide_eq_false]
      rintro ⟨-, h1⟩
      exact hne (map_at fnD h1 hu hv)
    have huv : fnD u = fnD v := by simpa using hc
    refine cv_skip ?_
    try simp only [blockQ, thenQ]
    refine hK _ _ ?_
    clear hK K
    refine cv_region_then rfl ?_
    simp -implicitDefEqProofs (disch := first | omega | decide) only [seval, -Int.reducePow, -Nat.reducePow, cC, pv, binv, sMSame1, undef, wrap_in, g7, g8, g9, g10]
    refine ⟨⟨j + 1, ?_⟩, ?_⟩
    · simp -implicitDefEqProofs (disch := first | omega | decide) only [seval, -Int.reducePow, -Nat.reducePow, cC, pv, binv, sMSame1, undef, Int.natCast_add, g7, g8, g9, g10]
      exact ⟨by omega, map_snoc fnD hq2 hu hv huv⟩
    · simp only [intOf]; omega
  refine cv_exit ?_
  simp only [blockQ, thenQ, if_true, ite_true]
  clear hK K
  refine hK _ _ ?_
  clear hK K
  have hkn : j = fn := by have := of_decide_eq_false ‹_›; omega
  subst hkn
  rw [List.take_of_length_le (by omega), List.take_of_length_le (by omega)] at hq2
  refine cv_seq_k fun K hK => ?_
  refine cv_region_then rfl ?_
  simp -implicitDefEqProofs (disch := first | omega | decide) only [seval, -Int.reducePow, -Nat.reducePow, cC, pv, binv, sMSame1, undef, g7, g8, g9, g10]
  refine hK _ _ ?_
  clear hK K
  refine cv_ret ⟨_, (by simp -implicitDefEqProofs (disch := first | omega | decide) only [seval, -Int.reducePow, -Nat.reducePow, cC, pv, binv, sMSame1, undef, g7, g8, g9, g10]; rfl), fun w hw => ?_⟩
  exact ⟨by simp [hq, hq2], hw.below⟩
end Go.Proofs.YtlbmnioibiomfaaGreat
/- Decoding modules inverts encoding them: plain. -/
namespace Go.Proofs.YtlbmnioibiomfaaGreat
open Go.RowKit Go.Shelf
set_option linter.unusedVariables false
set_option linter.unusedSimpArgs false
def bytesP (l : List Nat) : Prop := ∀ x ∈ l, x < 256
/-! ## An encoding is read back -/
theorem encM_magic (m : ModR) : (encM m).take 4 = magicB := by
  unfold encM
  rw [List.append_assoc, List.append_assoc, List.append_assoc]
  show (magicB ++ _).take magicB.length = _
  rw [List.take_left]
theorem encTy_bytes (t : TyR) : bytesP (encTy t) := encB_byte _ _
theorem encI_bytes {i : Ins} (h : i.err = 0) : bytesP (encI i) := fun x hx => by
  obtain ⟨hk, -⟩ := Ins.err_zero h
  unfold encI at hx
  rcases List.mem_cons.1 hx with rfl | hx
  · omega
  · split at hx
    · exact putU_byte _ x hx
    · cases hx
theorem flat_bytes {α : Type} (f : α → List Nat) : ∀ (l : List α), (∀ x ∈ l, bytesP (f x)) → bytesP (l.flatMap f) := fun l h x hx => by
  obtain ⟨y, hy, hx⟩ := List.mem_flatMap.1 hx
  exact h y hy x hx
theorem app_bytes {a b : List Nat} (ha : bytesP a) (hb : bytesP b) : bytesP (a ++ b) := fun x hx => (List.mem_append.1 hx).elim (ha x) (hb x)
theorem encM_bytes {m : ModR} (h : (chkM m).1 = 0) : bytesP (encM m) := by
  obtain ⟨h1, h2, h3, h4, h5⟩ := chkM_ok h
  unfold encM
  refine app_bytes (app_bytes (app_bytes (app_bytes (show ∀ x ∈ magicB, x < 256 by decide) (putU_byte _)) (flat_bytes _ _ fun t _ => encTy_bytes t)) (putU_byte _)) (flat_bytes _ _ fun g hg => ?_)
  obtain ⟨j, hj⟩ := List.mem_iff_getElem?.1 hg
  exact app_bytes (flat_bytes _ _ fun n _ => putU_byte n) (flat_bytes _ _ fun i hi => encI_bytes ((h5 j g hj).2 i hi))
end Go.Proofs.YtlbmnioibiomfaaGreat
/- Bytes that are changed; the length of an encoding: plain. -/
namespace Go.Proofs.YtlbmnioibiomfaaGreat
open Go.RowKit Go.Shelf
set_option linter.unusedVariables false
set_option linter.unusedSimpArgs false
set_option maxRecDepth 100000
theorem byte_parts {m : List Nat} (h : ∀ x ∈ m, x < 256) {c : Nat} (hc : c < 256) (k : Nat) : (∀ x ∈ m.take k ++ [c] ++ m.drop k, x < 256) ∧ (∀ x ∈ m.take k ++ m.drop (k + 1), x < 256) ∧ ∀ x ∈ m.set k c, x < 256 := by
  refine ⟨fun x hx => ?_, fun x hx => ?_, fun x hx => ?_⟩
  · simp only [List.mem_append, List.mem_singleton] at hx
    rcases hx with (hx | hx) | hx
    · exact h x (List.mem_of_mem_take hx)
    · omega
    · exact h x (List.mem_of_mem_drop hx)
  · rcases List.mem_append.1 hx with hx | hx
    · exact h x (List.mem_of_mem_take hx)
    · exact h x (List.mem_of_mem_drop hx)
  · rcases List.mem_or_eq_of_mem_set hx with hx | hx
    · exact h x hx
    · omega
theorem byt_set (m : List Nat) (k c : Nat) : (byt m).set k (.int .u8 (c : Int)) = byt (m.set k c) := by simp [byt, List.map_set]
theorem encM_pos (m : ModR) : 4 ≤ (encM m).length := by
  have := congrArg List.length (encM_magic m)
  rw [List.length_take] at this
  simp [magicB] at this
  omega
end Go.Proofs.YtlbmnioibiomfaaGreat
/- The law VerifyLoad, walked. -/
namespace Go.Proofs.YtlbmnioibiomfaaGreat
open Go.RowKit Go.Shelf
set_option linter.unusedVariables false
set_option linter.unusedSimpArgs false
set_option maxRecDepth 100000
set_option maxRecDepth 100000 in
theorem sVeLLd1 : type_of% (And.intro (And.intro (And.intro @mBox.eq_1 @modV.eq_1) (And.intro @flBox.eq_1 (And.intro @fltV.eq_1 @fineF.eq_1))) (And.intro (And.intro @vldV.eq_1 (And.intro @tape.eq_1 @tpBox.eq_1)) (And.intro @Nat.mul_one (And.intro @cS @wrap_in)))) := (And.intro (And.intro (And.intro @mBox.eq_1 @modV.eq_1) (And.intro @flBox.eq_1 (And.intro @fltV.eq_1 @fineF.eq_1))) (And.intro (And.intro @vldV.eq_1 (And.intro @tape.eq_1 @tpBox.eq_1)) (And.intro @Nat.mul_one (And.intro @cS @wrap_in))))
set_option maxHeartbeats 4000000 in
theorem sameLoad_any (A : Option Addr) (n c : Nat) (l : List Nat) (W : World) (hE : Sl W W.heap.size 1 A n c (byt l)) (hb : ∀ x ∈ l, x < 256) :
    Calls Tryz.prog 8 #[.slice A n c] W fun e w' => e = .returned (.bool true) ∧ Below W.heap.size W w' := by
  have hmV : ∀ m : ModR, (Value.agg #[.slice m.TA m.tn m.tc, .slice m.FA m.fn m.fc]) = modV m := fun _ => rfl
  refine calls_cv (M := []) (n := 25) [.tmp 2] rfl Tryz.func8 rfl rfl (Nat.le_of_ble_eq_true rfl) (St.nil _ _) ?_
  refine cv_seq_k fun K hK => ?_
  refine cv_region_then rfl ?_
  simp -implicitDefEqProofs (disch := first | omega | decide) only [seval, -Int.reducePow, -Nat.reducePow, cC, pv, binv, sVeLLd1, undef]
  refine hK _ _ ?_
  clear hK K
  refine cv_seq_k fun K hK => ?_
  refine cv_region_then rfl ?_
  simp -implicitDefEqProofs (disch := first | omega | decide) only [seval, -Int.reducePow, -Nat.reducePow, cC, pv, binv, sVeLLd1, undef]
  refine callV_nest vldV (ldΦ l) (fun w hw => Load_any A n c l w (hE.at hw) hb) ?_
  rintro ⟨k, f⟩ w0 w1 f1 hw0 hw1 ⟨hk, hp⟩ hNw
  dsimp only at hk hp
  have hkD : ModD w1 (Dm [] W f1) k := hk.mono fun y hy => .inl (hNw y hy)
  simp -implicitDefEqProofs (disch := first | omega | decide) only [seval, -Int.reducePow, -Nat.reducePow, cC, pv, binv, sVeLLd1, undef]
  intro b3 hb3 b4 hb4 hf4
  simp -implicitDefEqProofs (disch := first | omega | decide) only [seval, -Int.reducePow, -Nat.reducePow, cC, pv, binv, sVeLLd1, undef]
  refine hK _ _ ?_
  clear hK K
  refine cv_seq_k fun K hK => ?_
  refine cv_region_then rfl ?_
  simp -implicitDefEqProofs (disch := first | omega | decide) only [seval, -Int.reducePow, -Nat.reducePow, cC, pv, binv, sVeLLd1, undef]
  refine callV_nest vldV (ldΦ l) (fun w hw => rLoad_any A n c l w (hE.at hw) hb) ?_
  rintro ⟨k2, f'⟩ w2 w3 f2 hw2 hw3 ⟨hk2, hp2⟩ hNw2
  dsimp only at hk2 hp2
  have hkD2 : ModD w3 (Dm [] W f2) k2 := hk2.mono fun y hy => .inl (hNw2 y hy)
  obtain ⟨hd, rfl⟩ := ldP_same hp hp2
  simp -implicitDefEqProofs (disch := first | omega | decide) only [seval, -Int.reducePow, -Nat.reducePow, cC, pv, binv, sVeLLd1, undef]
  intro b5 hb5 hf5 b6 hb6 hf6
  simp -implicitDefEqProofs (disch := first | omega | decide) only [seval, -Int.reducePow, -Nat.reducePow, cC, pv, binv, sVeLLd1, undef]
  refine hK _ _ ?_
  clear hK K
  refine cv_gen fun G1 hG => ?_
  have g1_3 := congrFun hG 3
  have g1_4 := congrFun hG 4
  have g1_5 := congrFun hG 5
  have g1_6 := congrFun hG 6
  clear hG
  try simp -implicitDefEqProofs (disch := first | omega | decide) only [seval, -Int.reducePow, -Nat.reducePow, cC, pv, binv, sVeLLd1, undef] at g1_3 g1_4 g1_5 g1_6
  have g1 := And.intro g1_3 (And.intro g1_4 (And.intro g1_5 g1_6))
  refine cv_seq_k fun K hK => ?_
  refine cv_region_then rfl ?_
  simp -implicitDefEqProofs (disch := first | omega | decide) only [seval, -Int.reducePow, -Nat.reducePow, cC, pv, binv, sVeLLd1, undef, g1]
  rw [hmV k, hmV k2]
  refine callV_ret (fun w hw => sameModule_any k k2 w (hkD.at hw 5 rfl) (hkD2.at hw 2 rfl)) ?_
  try simp -implicitDefEqProofs (disch := first | omega | decide) only [seval, -Int.reducePow, -Nat.reducePow, cC, pv, binv, sVeLLd1, undef, hd, g1]
  refine hK _ _ ?_
  clear hK K
  refine cv_ret ⟨_, (by simp -implicitDefEqProofs (disch := first | omega | decide) only [seval, -Int.reducePow, -Nat.reducePow, cC, pv, binv, sVeLLd1, undef, g1]; rfl), fun w hw => ?_⟩
  exact ⟨rfl, hw.below⟩
set_option maxHeartbeats 8000000 in
theorem vLoad_walk (W : World) (A : Option Addr) (n c : Nat) (raw : List Nat) (hE : Sl W W.heap.size 1 A n c (byt raw)) (hb : ∀ x ∈ raw, x < 256) (B : Option Addr) (m d : Nat) (l : List Nat) (hU : Sl W W.heap.size 1 B m d (u16c l)) (hl : ∀ x ∈ l, x < 65536) (at' : Int) (hat : 0 ≤ at' ∧ at' ≤ 65535) (by' : Int) (hby : 0 ≤ by' ∧ by' ≤ 255) :
    Calls Tryz.prog 3 #[.slice A n c, .slice B m d, .int .u16 at', .int .u8 by'] W fun e w' => e = .returned (.bool true) ∧ Below W.heap.size W w' := by
  have hl60 : ∀ x ∈ l.take 60, x < 65536 := fun x hx => hl x (List.mem_of_mem_take hx)
  have hmV : ∀ m : ModR, (Value.agg #[.slice m.TA m.tn m.tc, .slice m.FA m.fn m.fc]) = modV m := fun _ => rfl
  obtain ⟨x, rfl⟩ : ∃ x : Nat, by' = (x : Int) := ⟨by'.toNat, by omega⟩
  obtain ⟨p, rfl⟩ : ∃ x : Nat, at' = (x : Int) := ⟨at'.toNat, by omega⟩
  refine calls_cv (M := []) (n := 43) [.tmp 8] rfl Tryz.func3 rfl rfl (Nat.le_of_ble_eq_true rfl) (St.nil _ _) ?_
  refine cv_seq_k fun K hK => ?_
  refine cv_region_then rfl ?_
  simp -implicitDefEqProofs (disch := first | omega | decide) only [seval, -Int.reducePow, -Nat.reducePow, cC, pv, binv, sVeLLd1, undef]
  refine hK _ _ ?_
  clear hK K
  refine cv_seq_k fun K hK => ?_
  refine cv_seq_k fun K hK => ?_
  refine cv_region_then rfl ?_
  simp -implicitDefEqProofs (disch := first | omega | decide) only [seval, -Int.reducePow, -Nat.reducePow, cC, pv, binv, sVeLLd1, undef]
  refine hK _ _ ?_
  clear hK K
  refine cv_cond ?_
  simp -implicitDefEqProofs (disch := first | omega | decide) only [seval, -Int.reducePow, -Nat.reducePow, cC, pv, binv, sVeLLd1, undef]
  refine ⟨fun hc => ?_, fun hc => ?_⟩
  · refine cv_seq_k fun K hK => ?_
    refine cv_region_then rfl ?_
    simp -implicitDefEqProofs (disch := first | omega | decide) only [seval, -Int.reducePow, -Nat.reducePow, cC, pv, binv, sVeLLd1, undef]
    refine callV_ret (fun w hw => vAwake_any w) ?_
    try simp -implicitDefEqProofs (disch := first | omega | decide) only [seval, -Int.reducePow, -Nat.reducePow, cC, pv, binv, sVeLLd1, undef]
    refine hK _ _ ?_
    clear hK K
    refine cv_ret ⟨_, (by simp -implicitDefEqProofs (disch := first | omega | decide) only [seval, -Int.reducePow, -Nat.reducePow, cC, pv, binv, sVeLLd1, undef]; rfl), fun w hw => ?_⟩
    exact ⟨rfl, hw.below⟩
  refine cv_skip ?_
  try simp only [blockQ, thenQ]
  refine hK _ _ ?_
  clear hK K
  refine cv_seq_k fun K hK => ?_
  refine cv_region_then rfl ?_
  simp -implicitDefEqProofs (disch := first | omega | decide) only [seval, -Int.reducePow, -Nat.reducePow, cC, pv, binv, sVeLLd1, undef]
  refine callV_boxRow (fun w hw => of_any B m d l 60 w (hU.at hw) (by omega)) ?_
  intro b4 A2 n2 c2 hl2 hb4 hf4 hr2
  simp -implicitDefEqProofs (disch := first | omega | decide) only [seval, -Int.reducePow, -Nat.reducePow, cC, pv, binv, sVeLLd1, undef] at hf4
  simp -implicitDefEqProofs (disch := first | omega | decide) only [seval, -Int.reducePow, -Nat.reducePow, cC, pv, binv, sVeLLd1, undef]
  refine callV_nestM 1 (fun p : ModR × Nat => modV p.1) (fun p w w' => ModD w' (Nw w w') p.1 ∧ Good p.1) (fun p => tape A2 n2 c2 p.2) rfl (fun w hw => module_any b4 A2 n2 c2 (l.take 60) 0 10 w (hw.hold 1 rfl) (hw.slr 0 rfl) (fun _ => hr2.apt) hl60 (by omega) (by omega)) ?_
  rintro ⟨k1, j⟩ w0 w1 f1 hw0 hw1 ⟨hk, hg⟩ hNw
  dsimp only at *
  have hkD : ModD w1 (Dm [] W f1) k1 := hk.mono fun y hy => .inl (hNw y hy)
  have hchk : (chkM k1).1 = 0 := by rw [hg.chk]; rfl
  have hbb : ∀ x ∈ encM k1, x < 256 := encM_bytes hchk
  obtain ⟨he1, he2⟩ := hg.err
  have hlen := hg.len
  have hpl := encM_pos k1
  simp -implicitDefEqProofs (disch := first | omega | decide) only [seval, -Int.reducePow, -Nat.reducePow, cC, pv, binv, sVeLLd1, undef]
  rw [hmV k1]
  refine callV_row (fun A n c => .slice A n c) (fun w hw => (by have := encoded_any k1 w (hkD.at hw 0 rfl); rw [he2] at this; exact this)) ?_
  intro A4 n4 c4 hl4 hr4
  have hn4 : (encM k1).length = n4 := byt_row hl4
  simp -implicitDefEqProofs (disch := first | omega | decide) only [seval, -Int.reducePow, -Nat.reducePow, cC, pv, binv, sVeLLd1, undef]
  refine hK _ _ ?_
  clear hK K
  refine cv_pick [0] (by decide) ?_
  simp only [pickL, nth]
  refine cv_cap 0 rfl fun hcap hcmax => ?_
  obtain ⟨g, rfl, hgw⟩ : ∃ g, A4 = some ⟨g, 0, none⟩ ∧ W.heap.size ≤ g := by
    rcases hr4 with ⟨rfl, h0⟩ | ⟨g, rfl, h, _⟩
    · omega
    · exact ⟨g, rfl, by simpa using h⟩
  clear he1 he2 hk hkD hw0 hw1 hNw hchk hg
  generalize encM k1 = bs at *
  refine cv_gen fun G2 hG => ?_
  have g2_0 := congrFun hG 0
  have g2_2 := congrFun hG 2
  have g2_3 := congrFun hG 3
  have g2_9 := congrFun hG 9
  clear hG
  try simp -implicitDefEqProofs (disch := first | omega | decide) only [seval, -Int.reducePow, -Nat.reducePow, cC, pv, binv, sVeLLd1, undef] at g2_0 g2_2 g2_3 g2_9
  have g2 := And.intro g2_0 (And.intro g2_2 (And.intro g2_3 g2_9))
  refine cv_seq_k fun K hK => ?_
  refine cv_cut (fun _ _ => True) (fun F' L' => ∃ (m9 : List Nat), F' 0 = G2 0 ∧ F' 9 = G2 9 ∧ L' = [.row (.slice (some ⟨g, 0, none⟩) n4 c4) 5 1 n4 (byt m9)] ∧ (∀ x ∈ m9, x < 256)) ?_ ?_
  · have hn0 : decide ((0 : Int) < (n4 : Int)) = true := decide_eq_true (by omega)
    obtain ⟨r, hr⟩ : ∃ r : Int, (x : Int) % 3 = r := ⟨_, rfl⟩
    refine cv_seq_k fun K hK => ?_
    refine cv_region_then rfl ?_
    simp -implicitDefEqProofs (disch := first | omega | decide) only [seval, -Int.reducePow, -Nat.reducePow, cC, pv, binv, sVeLLd1, undef, hn0, hr, g2]
    refine hK _ _ ?_
    clear hK K
    refine cv_cond ?_
    simp -implicitDefEqProofs (disch := first | omega | decide) only [seval, -Int.reducePow, -Nat.reducePow, cC, pv, binv, sVeLLd1, undef, g2]
    refine ⟨fun hc => ?_, fun hc => ?_⟩
    · obtain ⟨k, hk⟩ : ∃ k : Nat, (p : Int) % (n4 : Int) = (k : Int) := ⟨p % n4, by rw [Int.natCast_emod]⟩
      have hkn : k < n4 := by
        have := Int.emod_lt_of_pos (p : Int) (show (0 : Int) < n4 by omega)
        omega
      refine cv_region_q rfl ?_
      simp -implicitDefEqProofs (disch := first | omega | decide) only [seval, -Int.reducePow, -Nat.reducePow, cC, pv, binv, sVeLLd1, undef, hk, g2]
      refine ⟨_, sv_row 0 rfl (by rw [byt_len]; omega) (by kernel_rfl) rfl rfl, fun tok htok => ?_⟩
      subst htok
      simp -implicitDefEqProofs (disch := first | omega | decide) only [seval, -Int.reducePow, -Nat.reducePow, cC, pv, binv, sVeLLd1, undef, g2]
      exact ⟨bs.set k x, by rw [byt_set], (byte_parts hbb (show x < 256 by omega) k).2.2⟩
    · refine cv_skip ?_
      try simp only [blockQ, thenQ]
      simp -implicitDefEqProofs (disch := first | omega | decide) only [seval, -Int.reducePow, -Nat.reducePow, cC, pv, binv, sVeLLd1, undef, g2]
      exact ⟨bs, rfl, hbb⟩
  intro G3 L' _ hF
  obtain ⟨m9, q0, q9, rfl, h9⟩ := hF
  have g3_0 := q0.trans g2_0
  have g3_9 := q9.trans g2_9
  clear q0 q9
  have g3 := And.intro g3_0 g3_9
  refine hK _ _ ?_
  clear hK K
  refine cv_gen fun G4 hG => ?_
  have g4_0 := congrFun hG 0
  have g4_9 := congrFun hG 9
  clear hG
  try simp -implicitDefEqProofs (disch := first | omega | decide) only [seval, -Int.reducePow, -Nat.reducePow, cC, pv, binv, sVeLLd1, undef, g3] at g4_0 g4_9
  have g4 := And.intro g4_0 g4_9
  refine cv_seq_k fun K hK => ?_
  refine cv_region_then rfl ?_
  simp -implicitDefEqProofs (disch := first | omega | decide) only [seval, -Int.reducePow, -Nat.reducePow, cC, pv, binv, sVeLLd1, undef, g4]
  refine callV_ret (fun w hw => vAwake_any w) ?_
  try simp -implicitDefEqProofs (disch := first | omega | decide) only [seval, -Int.reducePow, -Nat.reducePow, cC, pv, binv, sVeLLd1, undef, g4]
  refine callV_ret (fun w hw => sameLoad_any A n c raw w (hE.at hw) hb) ?_
  try simp -implicitDefEqProofs (disch := first | omega | decide) only [seval, -Int.reducePow, -Nat.reducePow, cC, pv, binv, sVeLLd1, undef, g4]
  refine callV_ret (fun w hw => sameLoad_any (some ⟨g, 0, none⟩) n4 c4 m9 w (hw.slb 0 rfl) h9) ?_
  try simp -implicitDefEqProofs (disch := first | omega | decide) only [seval, -Int.reducePow, -Nat.reducePow, cC, pv, binv, sVeLLd1, undef, g4]
  refine hK _ _ ?_
  clear hK K
  refine cv_ret ⟨_, (by simp -implicitDefEqProofs (disch := first | omega | decide) only [seval, -Int.reducePow, -Nat.reducePow, cC, pv, binv, sVeLLd1, undef, g4]; rfl), fun w hw => ?_⟩
  exact ⟨rfl, hw.below⟩
end Go.Proofs.YtlbmnioibiomfaaGreat
