/- wire's numbers: PutUint, in both packages. -/
import Derived.Test.YtehfnjaompkikaaWPlain
import Derived.Test.YtehfnjaompkikaaTy
namespace Go.Proofs.Ytehfnjaompkikaa
open Go.RowKit Go.Shelf
set_option linter.unusedVariables false
set_option linter.unusedSimpArgs false
set_option maxRecDepth 100000

theorem clone_byt (A : Option Addr) (n c : Nat) (l : List Nat) (W : World) (hE : Sl W W.heap.size 1 A n c (byt l)) (hn : n ≤ 20000000) :
    Calls Try.prog 52 #[.slice A n c] W (rowP 5 1 (fun v => v) (byt l) W) := by
  refine calls_cv (M := []) (n := 8) [.tmp 2] rfl Try.func52 rfl rfl (Nat.le_of_ble_eq_true rfl) (St.nil _ _) ?_
  refine cv_seq_k fun K hK => ?_
  refine cv_region_then rfl ?_
  simp -implicitDefEqProofs (disch := first | omega | decide) only [seval, -Int.reducePow, -Nat.reducePow, cA, cB, pv, binv, fresh, thenQ, blockQ, retQ, Value.oneCell', Value.cells]
  refine hK _ _ ?_
  clear hK K
  refine cv_seq_k fun K hK => ?_
  refine cv_seq_k fun K hK => ?_
  refine cv_region_then rfl ?_
  simp -implicitDefEqProofs (disch := first | omega | decide) only [seval, -Int.reducePow, -Nat.reducePow, cA, cB, pv, binv, fresh, thenQ, blockQ, retQ, Value.oneCell', Value.cells]
  refine hK _ _ ?_
  clear hK K
  refine cv_cond ?_
  simp -implicitDefEqProofs (disch := first | omega | decide) only [seval, -Int.reducePow, -Nat.reducePow, cA, cB, pv, binv, fresh, thenQ, blockQ, retQ, Value.oneCell', Value.cells]
  refine ⟨fun hc => ?_, fun hc => ?_⟩
  · refine cv_seq_k fun K hK => ?_
    refine cv_region_then rfl ?_
    simp -implicitDefEqProofs (disch := first | omega | decide) only [seval, -Int.reducePow, -Nat.reducePow, cA, cB, pv, binv, fresh, thenQ, blockQ, retQ, Value.oneCell', Value.cells]
    refine hK _ _ ?_
    clear hK K
    refine cv_ret ⟨_, (by simp -implicitDefEqProofs (disch := first | omega | decide) only [seval, -Int.reducePow, -Nat.reducePow, cA, cB, pv, binv, fresh, thenQ, blockQ, retQ, Value.oneCell', Value.cells]; rfl), fun w hw => ?_⟩
    have hx : byt l = [] := (hE.isNone hc).2
    exact ⟨none, 0, 0, rfl, by rw [hx]; exact World.ownsRow_nil _ _ _ _, hw.below⟩
  · refine cv_skip ?_
    try simp only [blockQ, thenQ]
    refine hK _ _ ?_
    clear hK K
    refine cv_seq_k fun K hK => ?_
    refine cv_region_then rfl ?_
    simp -implicitDefEqProofs (disch := first | omega | decide) only [seval, -Int.reducePow, -Nat.reducePow, cA, cB, pv, binv, fresh, thenQ, blockQ, retQ, Value.oneCell', Value.cells]
    intro b hb
    refine appV_lit 0 tap36 rfl rfl (fun w hw => (hE.at hw).reads) (ones_byt _) (by omega) (by omega) ?_
    intro A' c' hl _
    simp -implicitDefEqProofs (disch := first | omega | decide) only [seval, -Int.reducePow, -Nat.reducePow, cA, cB, pv, binv, fresh, thenQ, blockQ, retQ, Value.oneCell', Value.cells]
    refine hK _ _ ?_
    clear hK K
    refine cv_ret ⟨_, (by simp -implicitDefEqProofs (disch := first | omega | decide) only [seval, -Int.reducePow, -Nat.reducePow, cA, cB, pv, binv, fresh, thenQ, blockQ, retQ, Value.oneCell', Value.cells]; rfl), fun w hw => ?_⟩
    exact ⟨A', _, c', rfl, ownsRow_new (hw.holds _ (.head _)) (hw.own _ (.head _)), hw.below⟩

theorem u64_shr {y : Nat} : (y : Int) / 2 ^ 7 = ((y / 128 : Nat) : Int) := by omega
theorem u8_of {y : Nat} (h : y < 128) : IntKind.u8.wrap (y : Int) = (y : Int) := by rw [IntKind.wrap_u8]; omega
set_option maxHeartbeats 2000000 in
theorem put_any (A : Option Addr) (n c : Nat) (l : List Nat) (x : Nat) (W : World) (hE : Sl W W.heap.size 1 A n c (byt l)) (hn : n ≤ 10000000) (hx : x < 18446744073709551616) :
    Calls Try.prog 31 #[.slice A n c, .int .u64 x] W (rowP 5 1 (fun v => v) (byt (l ++ putU x)) W) := by
  refine calls_cv (M := []) (n := 23) [.tmp 4] rfl Try.func31 rfl rfl (Nat.le_of_ble_eq_true rfl) (St.nil _ _) ?_
  refine cv_seq_k fun K hK => ?_
  refine cv_region_then rfl ?_
  simp -implicitDefEqProofs (disch := first | omega | decide) only [seval, -Int.reducePow, -Nat.reducePow, cA, cB, pv, binv, fresh, thenQ, blockQ, retQ, Value.oneCell', Value.cells, Int.natCast_add]
  refine hK _ _ ?_
  clear hK K
  refine cv_seq_k fun K hK => ?_
  refine cv_region_then rfl ?_
  simp -implicitDefEqProofs (disch := first | omega | decide) only [seval, -Int.reducePow, -Nat.reducePow, cA, cB, pv, binv, fresh, thenQ, blockQ, retQ, Value.oneCell', Value.cells, Int.natCast_add]
  refine callV_row (fun A' n' c' => .slice A' n' c') (fun w hw => clone_byt A n c l w (hE.at hw) (by omega)) ?_
  intro A1 n1 c1 hl1 _
  simp -implicitDefEqProofs (disch := first | omega | decide) only [seval, -Int.reducePow, -Nat.reducePow, cA, cB, pv, binv, fresh, thenQ, blockQ, retQ, Value.oneCell', Value.cells, Int.natCast_add]
  refine hK _ _ ?_
  clear hK K
  refine cv_gen fun G1 hG => ?_
  have g1_1 := congrFun hG 1
  have g1_5 := congrFun hG 5
  clear hG
  try simp -implicitDefEqProofs (disch := first | omega | decide) only [seval, -Int.reducePow, -Nat.reducePow, cA, cB, pv, binv, fresh, thenQ, blockQ, retQ, Value.oneCell', Value.cells, Int.natCast_add] at g1_1 g1_5
  have hn1 : n1 ≤ 10000000 := by have := byt_row hl1; have := byt_row hE.len; omega
  have hp := putU_len10 hx
  refine cv_seq_k fun K hK => ?_
  refine cv_block ?_
  refine cv_loop (fun F' L' => ∃ (y : Nat) (m : List Nat) (A6 : Option Addr) (n6 c6 : Nat), F' 1 = .int .u64 (y : Int) ∧ F' 5 = .slice A6 n6 c6 ∧ L' = [.row (.slice A6 n6 c6) 5 1 n6 (byt m)] ∧ y ≤ x ∧ m ++ putU y = l ++ putU x ∧ n6 + (putU y).length ≤ 10000010) (fun F' L' => (intOf (F' 1)).toNat) ?_ ?_
  · refine ⟨x, l, A1, n1, c1, ?_⟩
    simp -implicitDefEqProofs (disch := first | omega | decide) only [seval, -Int.reducePow, -Nat.reducePow, cA, cB, pv, binv, fresh, thenQ, blockQ, retQ, Value.oneCell', Value.cells, Int.natCast_add, g1_1, g1_5]
    omega
  · intro G2 L' hI
    obtain ⟨y, m, A6, n6, c6, q1, q5, rfl, ⟨hy, hm, h6⟩⟩ := hI
    have g2_1 := q1
    have g2_5 := q5
    clear q1 q5
    refine cv_seq_k fun K hK => ?_
    refine cv_seq_k fun K hK => ?_
    refine cv_region_then rfl ?_
    simp -implicitDefEqProofs (disch := first | omega | decide) only [seval, -Int.reducePow, -Nat.reducePow, cA, cB, pv, binv, fresh, thenQ, blockQ, retQ, Value.oneCell', Value.cells, Int.natCast_add, g1_1, g1_5, g2_1, g2_5]
    refine hK _ _ ?_
    clear hK K
    refine cv_cond ?_
    simp -implicitDefEqProofs (disch := first | omega | decide) only [seval, -Int.reducePow, -Nat.reducePow, cA, cB, pv, binv, fresh, thenQ, blockQ, retQ, Value.oneCell', Value.cells, Int.natCast_add, g1_1, g1_5, g2_1, g2_5]
    refine ⟨fun hc => ?_, fun hc => ?_⟩
    · refine cv_skip ?_
      try simp only [blockQ, thenQ]
      have hy1 : ¬ y < 128 := by simp at hc; omega
      rw [putU_big hy1] at hm h6
      simp only [List.length_cons] at h6
      refine hK _ _ ?_
      clear hK K
      refine cv_block ?_
      refine cv_seq_k fun K hK => ?_
      refine cv_region_then rfl ?_
      simp -implicitDefEqProofs (disch := first | omega | decide) only [seval, -Int.reducePow, -Nat.reducePow, cA, cB, pv, binv, fresh, thenQ, blockQ, retQ, Value.oneCell', Value.cells, Int.natCast_add, low_or, g1_1, g1_5, g2_1, g2_5]
      intro b hb
      refine appV_at 1 tap36 rfl (fun w hw => src_blk (size := 1) (.head _) rfl hw) rfl (by omega) (by omega) ?_
      intro A' c' hl _
      simp -implicitDefEqProofs (disch := first | omega | decide) only [seval, -Int.reducePow, -Nat.reducePow, cA, cB, pv, binv, fresh, thenQ, blockQ, retQ, Value.oneCell', Value.cells, Int.natCast_add, g1_1, g1_5, g2_1, g2_5]
      refine hK _ _ ?_
      clear hK K
      refine cv_pick [0] (by decide) ?_
      simp only [pickL, nth]
      refine cv_region_q rfl ?_
      simp -implicitDefEqProofs (disch := first | omega | decide) only [seval, -Int.reducePow, -Nat.reducePow, cA, cB, pv, binv, fresh, thenQ, blockQ, retQ, Value.oneCell', Value.cells, Int.natCast_add, IntKind.bits, u64_shr, g1_1, g1_5, g2_1, g2_5]
      refine ⟨⟨y / 128, m ++ [y % 128 + 128], A', n6 + 1, c', ?_⟩, ?_⟩
      · simp -implicitDefEqProofs (disch := first | omega | decide) only [seval, -Int.reducePow, -Nat.reducePow, cA, cB, pv, binv, fresh, thenQ, blockQ, retQ, Value.oneCell', Value.cells, Int.natCast_add, byt_snoc, g1_1, g1_5, g2_1, g2_5]
        exact ⟨by omega, by rw [← hm]; simp, by omega⟩
      · simp -implicitDefEqProofs (disch := first | omega | decide) only [seval, -Int.reducePow, -Nat.reducePow, cA, cB, pv, binv, fresh, thenQ, blockQ, retQ, Value.oneCell', Value.cells, Int.natCast_add, intOf, g1_1, g1_5, g2_1, g2_5]
        omega
    · refine cv_exit ?_
      simp only [blockQ, thenQ, if_true, ite_true]
      clear hK K
      refine hK _ _ ?_
      clear hK K
      have hy1 : y < 128 := by simp at hc; omega
      rw [putU_small hy1] at hm h6
      refine cv_seq_k fun K hK => ?_
      refine cv_region_then rfl ?_
      simp -implicitDefEqProofs (disch := first | omega | decide) only [seval, -Int.reducePow, -Nat.reducePow, cA, cB, pv, binv, fresh, thenQ, blockQ, retQ, Value.oneCell', Value.cells, Int.natCast_add, u8_of hy1, g1_1, g1_5, g2_1, g2_5]
      intro b hb
      refine appV_at 1 tap36 rfl (fun w hw => src_blk (size := 1) (.head _) rfl hw) rfl (by (simp at h6; omega)) (by (simp at h6; omega)) ?_
      intro A' c' hl _
      simp -implicitDefEqProofs (disch := first | omega | decide) only [seval, -Int.reducePow, -Nat.reducePow, cA, cB, pv, binv, fresh, thenQ, blockQ, retQ, Value.oneCell', Value.cells, Int.natCast_add, g1_1, g1_5, g2_1, g2_5]
      refine hK _ _ ?_
      clear hK K
      refine cv_ret ⟨_, (by simp -implicitDefEqProofs (disch := first | omega | decide) only [seval, -Int.reducePow, -Nat.reducePow, cA, cB, pv, binv, fresh, thenQ, blockQ, retQ, Value.oneCell', Value.cells, Int.natCast_add, g1_1, g1_5, g2_1, g2_5]; rfl), fun w hw => ?_⟩
      exact ⟨A', _, c', rfl, by rw [← hm, byt_snoc]; exact ownsRow_new (hw.holds _ (.head _)) (hw.own _ (.head _)), hw.below⟩
end Go.Proofs.Ytehfnjaompkikaa
