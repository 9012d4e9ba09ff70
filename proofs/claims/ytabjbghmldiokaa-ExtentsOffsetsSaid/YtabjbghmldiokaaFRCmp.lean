/- The contract of the reference's Complement. -/
import Derived.Test.YtabjbghmldiokaaFCmp
import Derived.Test.YtabjbghmldiokaaExRValid
import Derived.Test.YtabjbghmldiokaaExRInsP
namespace Go.Proofs.Ytabjbghmldiokaa
open Go.RowKit Go.Shelf
set_option linter.unusedVariables false
set_option linter.unusedSimpArgs false
set_option maxRecDepth 100000

namespace Ex
/-- Complement's answer, from the gaps of the set alone. -/
theorem compF_eq {xs : List Ext} {s : Int} (hv : vld xs) (h0 : 0 ≤ s) (h1 : s ≤ 1048576) (h : ∀ i, i < xs.length → (get xs i).end_ ≤ s) :
    compF xs s = (cOut xs xs.length ++ (if cAt xs xs.length < s then [⟨cAt xs xs.length, s - cAt xs xs.length⟩] else []), 0) := by
  have hb : cBad xs s = false := by
    unfold cBad
    rw [vldB_yes hv]
    by_cases hp : 0 < xs.length
    · have := h (xs.length - 1) (by omega)
      simp only [hp, Bool.not_true, Bool.false_or, decide_true, Bool.true_and, Bool.or_eq_false_iff, decide_eq_false_iff_not]
      omega
    · simp only [hp, Bool.not_true, Bool.false_or, decide_false, Bool.false_and, Bool.or_false, Bool.or_eq_false_iff, decide_eq_false_iff_not]
      omega
  unfold compF
  rw [hb, if_neg Bool.false_ne_true, cOut_succ, cOut_app (Nat.le_refl _)]
  unfold gapAt
  rw [cAt_app (Nat.le_refl _), get_last]
theorem compF_bad {xs : List Ext} {s : Int} (h : ¬ vld xs ∨ s < 0 ∨ 1048576 < s ∨ ∃ i, i < xs.length ∧ s < (get xs i).end_) : compF xs s = ([], 1) := by
  have hb : cBad xs s = true := by
    unfold cBad
    by_cases hv : vld xs
    · rcases h with h | h | h | ⟨i, hi, h⟩
      · exact absurd hv h
      · simp [h]
      · simp [h]
      · have := vld_le hv (show i ≤ xs.length - 1 by omega) (by omega)
        have h2 : s < (get xs (xs.length - 1)).end_ := by omega
        simp [h2, show 0 < xs.length by omega]
    · have : vldB xs = false := by
        rw [Bool.eq_false_iff]
        intro h
        exact hv ((vldB_iff xs).1 h)
      simp [this]
  unfold compF
  rw [hb]
  rfl
end Ex

set_option maxHeartbeats 2000000 in
theorem rcomplement_any (A : Option Addr) (n c : Nat) (xs : List Ext) (s : Int) (W : World) (hE : Exts W W.heap.size A n c xs) (hn : n ≤ 1000) (hR : ∀ i, i < n → -9223372036854775808 ≤ (Ex.get xs i).len ∧ (Ex.get xs i).len ≤ 9223372036854775807) :
    Calls Try.prog 25 #[.slice A n c, .int .i64 s] W (rowPost 24 2 (fun v => .tuple #[v, .int .i64 (Ex.compF xs s).2]) (exCells (Ex.compF xs s).1) W) := by
  have hl := hE.len
  refine calls_cv (M := []) (n := 81) [.tmp 4, .tmp 5] rfl Try.func25 rfl rfl (Nat.le_of_ble_eq_true rfl) (St.nil _ _) ?_
  refine cv_seq_k fun K hK => ?_
  refine cv_region_then rfl ?_
  simp -implicitDefEqProofs (disch := first | omega | decide) only [seval, -Int.reducePow, -Nat.reducePow, cC, pv, binv, eBox, undef]
  refine hK _ _ ?_
  clear hK K
  refine cv_gen fun G1 hG => ?_
  have g1_0 := congrFun hG 0
  have g1_1 := congrFun hG 1
  clear hG
  try simp -implicitDefEqProofs (disch := first | omega | decide) only [seval, -Int.reducePow, -Nat.reducePow, cC, pv, binv, eBox, undef] at g1_0 g1_1
  have g1 := And.intro g1_0 g1_1
  refine cv_seq_k fun K hK => ?_
  refine cv_seq_k fun K hK => ?_
  refine cv_cut (fun _ _ => True) (fun F' L' => F' 0 = G1 0 ∧ F' 1 = G1 1 ∧ F' 19 = .bool (!Ex.vldB xs || decide (s < 0) || decide (1048576 < s)) ∧ L' = []) ?_ ?_
  · refine cv_region_then rfl ?_
    simp -implicitDefEqProofs (disch := first | omega | decide) only [seval, -Int.reducePow, -Nat.reducePow, cC, pv, binv, eBox, undef, g1]
    refine callV_ret (fun w hw => rvalid_any A n c xs w (hE.at hw) hR) ?_
    try simp -implicitDefEqProofs (disch := first | omega | decide) only [seval, -Int.reducePow, -Nat.reducePow, cC, pv, binv, eBox, undef, g1]
    repeat' ((first | refine vcg_cases (fun hg => ?_) (fun hg => ?_) | refine vdg_cases (fun hg => ?_) (fun hg => ?_)) <;> ((try simp only [Bool.not_eq_true', Bool.not_eq_false', decide_eq_true_eq, decide_eq_false_iff_not] at hg); (try simp -implicitDefEqProofs (disch := first | omega | decide) only [seval, -Int.reducePow, -Nat.reducePow, cC, pv, binv, eBox, undef, hg, g1])))
    all_goals (first | (simp [hg]; done) | (simp [hg]; omega))
  · intro G2 L' _ hF
    obtain ⟨q0, q1, q19, rfl⟩ := hF
    have g2_0 := q0.trans g1_0
    have g2_1 := q1.trans g1_1
    have g2_19 := q19
    clear q0 q1 q19
    have g2 := And.intro g2_0 (And.intro g2_1 g2_19)
    refine hK _ _ ?_
    clear hK K
    refine cv_cond ?_
    simp -implicitDefEqProofs (disch := first | omega | decide) only [seval, -Int.reducePow, -Nat.reducePow, cC, pv, binv, eBox, undef, g2]
    refine ⟨fun hc => ?_, fun hc => ?_⟩
    · refine cv_seq_k fun K hK => ?_
      refine cv_region_then rfl ?_
      simp -implicitDefEqProofs (disch := first | omega | decide) only [seval, -Int.reducePow, -Nat.reducePow, cC, pv, binv, eBox, undef, g2]
      refine hK _ _ ?_
      clear hK K
      refine cv_ret ⟨_, (by simp -implicitDefEqProofs (disch := first | omega | decide) only [seval, -Int.reducePow, -Nat.reducePow, cC, pv, binv, eBox, undef, g2]; rfl), fun w hw => ?_⟩
      have hF : Ex.compF xs s = ([], 1) := by
        refine Ex.compF_bad ?_
        rw [← Ex.vldB_iff]
        simp only [Bool.or_eq_true, Bool.not_eq_true', decide_eq_true_eq] at hc
        rcases hc with (h | h) | h
        · left; rw [h]; simp
        · exact .inr (.inl h)
        · exact .inr (.inr (.inl h))
      exact ⟨none, 0, 0, by rw [hF], by rw [hF]; exact World.ownsRow_nil _ _ _ _, hw.below⟩
    · refine cv_skip ?_
      try simp only [blockQ, thenQ]
      simp only [Bool.or_eq_false_iff, Bool.not_eq_false', decide_eq_false_iff_not] at hc
      obtain ⟨⟨hv, hs0⟩, hs1⟩ := hc
      have hv := (Ex.vldB_iff xs).1 hv
      refine hK _ _ ?_
      clear hK K
      refine cv_seq_k fun K hK => ?_
      refine cv_region_then rfl ?_
      simp -implicitDefEqProofs (disch := first | omega | decide) only [seval, -Int.reducePow, -Nat.reducePow, cC, pv, binv, eBox, undef, g2]
      refine hK _ _ ?_
      clear hK K
      refine cv_seq_k fun K hK => ?_
      refine cv_region_then rfl ?_
      simp -implicitDefEqProofs (disch := first | omega | decide) only [seval, -Int.reducePow, -Nat.reducePow, cC, pv, binv, eBox, undef, g2]
      refine hK _ _ ?_
      clear hK K
      refine cv_seq_k fun K hK => ?_
      refine cv_seq_k fun K hK => ?_
      refine cv_region_then rfl ?_
      simp -implicitDefEqProofs (disch := first | omega | decide) only [seval, -Int.reducePow, -Nat.reducePow, cC, pv, binv, eBox, undef, g2]
      refine hK _ _ ?_
      clear hK K
      refine cv_gen fun G3 hG => ?_
      have g3_0 := congrFun hG 0
      have g3_1 := congrFun hG 1
      have g3_6 := congrFun hG 6
      have g3_7 := congrFun hG 7
      have g3_8 := congrFun hG 8
      clear hG
      try simp -implicitDefEqProofs (disch := first | omega | decide) only [seval, -Int.reducePow, -Nat.reducePow, cC, pv, binv, eBox, undef, g2] at g3_0 g3_1 g3_6 g3_7 g3_8
      have g3 := And.intro g3_0 (And.intro g3_1 (And.intro g3_6 (And.intro g3_7 g3_8)))
      refine cv_nil 24 2 ?_
      refine cv_block ?_
      refine cv_loop (fun F' L' => ∃ (k : Nat) (A6 : Option Addr) (n6 c6 : Nat), F' 0 = G3 0 ∧ F' 1 = G3 1 ∧ F' 6 = .slice A6 n6 c6 ∧ F' 7 = .int .i64 (Ex.cAt xs k) ∧ F' 8 = .int .i64 (k : Int) ∧ L' = [.row (.slice A6 n6 c6) 24 2 n6 (exCells (Ex.cOut xs k))] ∧ k ≤ n ∧ n6 ≤ k ∧ ∀ i, i < k → (Ex.get xs i).end_ ≤ s) (fun F' L' => n - (intOf (F' 8)).toNat) ?_ ?_
      · refine ⟨0, none, 0, 0, ?_⟩
        have z1 : Ex.cAt xs 0 = 0 := rfl
        have z2 : Ex.cOut xs 0 = [] := rfl
        simp -implicitDefEqProofs (disch := first | omega | decide) only [seval, -Int.reducePow, -Nat.reducePow, cC, pv, binv, eBox, undef, z1, z2, g3]
        exact ⟨rfl, by omega, by omega⟩
      · intro G4 L' hI
        obtain ⟨k, A6, n6, c6, q0, q1, q6, q7, q8, rfl, ⟨hk, h6, hle⟩⟩ := hI
        have g4_0 := q0.trans g3_0
        have g4_1 := q1.trans g3_1
        have g4_6 := q6
        have g4_7 := q7
        have g4_8 := q8
        clear q0 q1 q6 q7 q8
        have g4 := And.intro g4_0 (And.intro g4_1 (And.intro g4_6 (And.intro g4_7 g4_8)))
        refine cv_seq_k fun K hK => ?_
        refine cv_seq_k fun K hK => ?_
        refine cv_region_then rfl ?_
        simp -implicitDefEqProofs (disch := first | omega | decide) only [seval, -Int.reducePow, -Nat.reducePow, cC, pv, binv, eBox, undef, g3, g4]
        refine hK _ _ ?_
        clear hK K
        refine cv_cond ?_
        simp -implicitDefEqProofs (disch := first | omega | decide) only [seval, -Int.reducePow, -Nat.reducePow, cC, pv, binv, eBox, undef, g3, g4]
        refine ⟨fun hc => ?_, fun hc => ?_⟩
        · refine cv_skip ?_
          try simp only [blockQ, thenQ]
          have hlt : k < n := by have := of_decide_eq_true hc; omega
          obtain ⟨b0, off, rfl, hb0, -⟩ := hE.cells (by omega)
          obtain ⟨x, hx⟩ : ∃ x, Ex.get xs k = x := ⟨_, rfl⟩
          have hxb : 0 ≤ x.off ∧ 0 < x.len ∧ x.off + x.len ≤ 1048576 := by rw [← hx]; exact vld_prop hv (by omega)
          have hab := Ex.cAt_bd hv (show k ≤ xs.length by omega)
          have hS1 := Ex.cOut_succ xs k
          have hS2 : Ex.cAt xs (k + 1) = x.off + x.len := by rw [← hx]; rfl
          unfold Ex.gapAt at hS1
          rw [hx] at hS1
          refine hK _ _ ?_
          clear hK K
          refine cv_seq_k fun K hK => ?_
          refine cv_cut (fun _ _ => True) (fun F' L' => ∃ (A6 : Option Addr) (n6 c6 : Nat), F' 0 = G4 0 ∧ F' 1 = G4 1 ∧ F' 6 = .slice A6 n6 c6 ∧ F' 7 = .int .i64 (Ex.cAt xs (k + 1)) ∧ F' 8 = G4 8 ∧ L' = [.row (.slice A6 n6 c6) 24 2 n6 (exCells (Ex.cOut xs (k + 1)))] ∧ n6 ≤ k + 1 ∧ x.off + x.len ≤ s) ?_ ?_
          · refine cv_block ?_
            refine cv_seq_k fun K hK => ?_
            refine cv_seq_k fun K hK => ?_
            refine cv_draw [(true, 0), (true, 1), (true, 2), (true, 3), (true, 4), (true, 5), (true, 6), (true, 7), (true, 8), (true, 9), (true, 10), (true, 11), (true, 12)] [] mixA rfl (by kernel_rfl) (by kernel_rfl) rfl rfl ?_
            simp -implicitDefEqProofs (disch := first | omega | decide) only [seval, -Int.reducePow, -Nat.reducePow, cC, pv, binv, eBox, undef, g3, g4]
            refine ⟨_, hE.ld0 hlt, fun tok htok => ?_⟩
            subst htok
            simp -implicitDefEqProofs (disch := first | omega | decide) only [seval, -Int.reducePow, -Nat.reducePow, cC, pv, binv, eBox, undef, g3, g4]
            refine ⟨_, hE.ld1 hlt, fun tok htok => ?_⟩
            subst htok
            simp -implicitDefEqProofs (disch := first | omega | decide) only [seval, -Int.reducePow, -Nat.reducePow, cC, pv, binv, eBox, undef, wrap_in, g3, g4]
            rw [hx]
            refine hK _ _ ?_
            clear hK K
            refine cv_cond ?_
            simp -implicitDefEqProofs (disch := first | omega | decide) only [seval, -Int.reducePow, -Nat.reducePow, cC, pv, binv, eBox, undef, wrap_in, g3, g4]
            refine ⟨fun hc => ?_, fun hc => ?_⟩
            · have hcs : s < x.off + x.len := by simpa [wrap_in (show -9223372036854775808 ≤ x.off + x.len by omega) (show x.off + x.len ≤ 9223372036854775807 by omega)] using hc
              refine cv_seq_k fun K hK => ?_
              refine cv_region_then rfl ?_
              simp -implicitDefEqProofs (disch := first | omega | decide) only [seval, -Int.reducePow, -Nat.reducePow, cC, pv, binv, eBox, undef, g3, g4]
              refine hK _ _ ?_
              clear hK K
              refine cv_ret ⟨_, (by simp -implicitDefEqProofs (disch := first | omega | decide) only [seval, -Int.reducePow, -Nat.reducePow, cC, pv, binv, eBox, undef, g3, g4]; rfl), fun w hw => ?_⟩
              have hF : Ex.compF xs s = ([], 1) := Ex.compF_bad (.inr (.inr (.inr ⟨k, by omega, by rw [hx]; exact hcs⟩)))
              exact ⟨none, 0, 0, by rw [hF], by rw [hF]; exact World.ownsRow_nil _ _ _ _, hw.below⟩
            · have hcs : ¬ s < x.off + x.len := by simpa [wrap_in (show -9223372036854775808 ≤ x.off + x.len by omega) (show x.off + x.len ≤ 9223372036854775807 by omega)] using hc
              refine cv_skip ?_
              try simp only [blockQ, thenQ]
              refine hK _ _ ?_
              clear hK K
              refine cv_gen fun G5 hG => ?_
              have g5_0 := congrFun hG 0
              have g5_1 := congrFun hG 1
              have g5_6 := congrFun hG 6
              have g5_7 := congrFun hG 7
              have g5_8 := congrFun hG 8
              clear hG
              try simp -implicitDefEqProofs (disch := first | omega | decide) only [seval, -Int.reducePow, -Nat.reducePow, cC, pv, binv, eBox, undef, g3, g4] at g5_0 g5_1 g5_6 g5_7 g5_8
              have g5 := And.intro g5_0 (And.intro g5_1 (And.intro g5_6 (And.intro g5_7 g5_8)))
              refine cv_seq_k fun K hK => ?_
              refine cv_cut (fun _ _ => True) (fun F' L' => ∃ (A8 : Option Addr) (n8 c8 : Nat), F' 0 = G5 0 ∧ F' 1 = G5 1 ∧ F' 6 = .slice A8 n8 c8 ∧ F' 8 = G5 8 ∧ L' = [.row (.slice A8 n8 c8) 24 2 n8 (exCells (Ex.cOut xs (k + 1)))] ∧ n8 ≤ n6 + 1) ?_ ?_
              · refine cv_seq_k fun K hK => ?_
                refine cv_region_then rfl ?_
                simp -implicitDefEqProofs (disch := first | omega | decide) only [seval, -Int.reducePow, -Nat.reducePow, cC, pv, binv, eBox, undef, g3, g4, g5]
                refine ⟨_, hE.ld0 hlt, fun tok htok => ?_⟩
                subst htok
                simp -implicitDefEqProofs (disch := first | omega | decide) only [seval, -Int.reducePow, -Nat.reducePow, cC, pv, binv, eBox, undef, g3, g4, g5]
                rw [hx]
                refine hK _ _ ?_
                clear hK K
                refine cv_cond ?_
                simp -implicitDefEqProofs (disch := first | omega | decide) only [seval, -Int.reducePow, -Nat.reducePow, cC, pv, binv, eBox, undef, g3, g4, g5]
                refine ⟨fun hc => ?_, fun hc => ?_⟩
                · rw [if_pos (of_decide_eq_true hc)] at hS1
                  refine cv_pick_post [0] (by decide) ?_
                  refine cv_region_q rfl ?_
                  simp -implicitDefEqProofs (disch := first | omega | decide) only [seval, -Int.reducePow, -Nat.reducePow, cC, pv, binv, eBox, undef, g3, g4, g5]
                  refine ⟨_, hE.ld0 hlt, fun tok htok => ?_⟩
                  subst htok
                  simp -implicitDefEqProofs (disch := first | omega | decide) only [seval, -Int.reducePow, -Nat.reducePow, cC, pv, binv, eBox, undef, wrap_in, g3, g4, g5]
                  rw [hx]
                  simp -implicitDefEqProofs (disch := first | omega | decide) only [seval, -Int.reducePow, -Nat.reducePow, cC, pv, binv, eBox, undef, wrap_in, g3, g4, g5]
                  intro b5 hb5
                  refine appV_at 1 tap22 rfl (fun w hw => src_blk (size := 2) (.head _) rfl hw) rfl (by omega) (by omega) ?_
                  intro A' c' hl' _
                  simp -implicitDefEqProofs (disch := first | omega | decide) only [seval, -Int.reducePow, -Nat.reducePow, cC, pv, binv, eBox, undef, g3, g4, g5]
                  exact ⟨A', n6 + 1, c', rfl, by rw [hS1, exCells_snoc], by omega⟩
                · rw [if_neg (of_decide_eq_false hc)] at hS1
                  refine cv_skip ?_
                  try simp only [blockQ, thenQ]
                  simp -implicitDefEqProofs (disch := first | omega | decide) only [seval, -Int.reducePow, -Nat.reducePow, cC, pv, binv, eBox, undef, g3, g4, g5]
                  exact ⟨A6, n6, c6, rfl, by rw [hS1, List.append_nil], by omega⟩
              · intro G6 L' _ hF
                obtain ⟨A8, n8, c8, q0, q1, q6, q8, rfl, h8⟩ := hF
                have g6_0 := q0.trans g5_0
                have g6_1 := q1.trans g5_1
                have g6_6 := q6
                have g6_8 := q8.trans g5_8
                clear q0 q1 q6 q8
                have g6 := And.intro g6_0 (And.intro g6_1 (And.intro g6_6 g6_8))
                refine hK _ _ ?_
                clear hK K
                refine cv_q ?_
                refine cv_draw [(true, 0), (true, 1), (true, 2), (true, 3), (true, 4), (true, 5), (true, 6), (true, 7), (true, 8), (true, 9), (true, 10), (true, 11)] [] mixA rfl (by kernel_rfl) (by kernel_rfl) rfl rfl ?_
                simp -implicitDefEqProofs (disch := first | omega | decide) only [seval, -Int.reducePow, -Nat.reducePow, cC, pv, binv, eBox, undef, g3, g4, g6]
                refine ⟨_, hE.ld0 hlt, fun tok htok => ?_⟩
                subst htok
                simp -implicitDefEqProofs (disch := first | omega | decide) only [seval, -Int.reducePow, -Nat.reducePow, cC, pv, binv, eBox, undef, g3, g4, g6]
                refine ⟨_, hE.ld1 hlt, fun tok htok => ?_⟩
                subst htok
                simp -implicitDefEqProofs (disch := first | omega | decide) only [seval, -Int.reducePow, -Nat.reducePow, cC, pv, binv, eBox, undef, wrap_in, g3, g4, g6]
                exact ⟨A8, n8, c8, rfl, by rw [hS2, hx, wrap_in (by omega) (by omega)], rfl, by omega, by omega⟩
          · intro G7 L' _ hF
            obtain ⟨A6, n6, c6, q0, q1, q6, q7, q8, rfl, ⟨h6, hcs⟩⟩ := hF
            have g7_0 := q0.trans g4_0
            have g7_1 := q1.trans g4_1
            have g7_6 := q6
            have g7_7 := q7
            have g7_8 := q8.trans g4_8
            clear q0 q1 q6 q7 q8
            have g7 := And.intro g7_0 (And.intro g7_1 (And.intro g7_6 (And.intro g7_7 g7_8)))
            refine hK _ _ ?_
            clear hK K
            refine cv_region_then rfl ?_
            simp -implicitDefEqProofs (disch := first | omega | decide) only [seval, -Int.reducePow, -Nat.reducePow, cC, pv, binv, eBox, undef, wrap_in, g3, g4, g7]
            refine ⟨⟨k + 1, A6, n6, c6, ?_⟩, ?_⟩
            · simp -implicitDefEqProofs (disch := first | omega | decide) only [seval, -Int.reducePow, -Nat.reducePow, cC, pv, binv, eBox, undef, Int.natCast_add, g3, g4, g7]
              refine ⟨by omega, by omega, fun i hi => ?_⟩
              by_cases h : i < k
              · exact hle i h
              · have : i = k := by omega
                rw [this, hx]
                exact hcs
            · simp only [intOf]; omega
        · refine cv_exit ?_
          simp only [blockQ, thenQ, if_true, ite_true]
          clear hK K
          refine hK _ _ ?_
          clear hK K
          have hnk : n = k := by have := of_decide_eq_false hc; omega
          subst hnk
          have hF := Ex.compF_eq hv (show 0 ≤ s by omega) (show s ≤ 1048576 by omega) (by rw [hl]; exact hle)
          rw [hl] at hF
          have hab := Ex.cAt_bd hv (show n ≤ xs.length by omega)
          refine cv_gen fun G8 hG => ?_
          have g8_1 := congrFun hG 1
          have g8_6 := congrFun hG 6
          have g8_7 := congrFun hG 7
          clear hG
          try simp -implicitDefEqProofs (disch := first | omega | decide) only [seval, -Int.reducePow, -Nat.reducePow, cC, pv, binv, eBox, undef, g3, g4] at g8_1 g8_6 g8_7
          have g8 := And.intro g8_1 (And.intro g8_6 g8_7)
          refine cv_seq_k fun K hK => ?_
          refine cv_cut (fun _ _ => True) (fun F' L' => ∃ (A8 : Option Addr) (n8 c8 : Nat), F' 6 = .slice A8 n8 c8 ∧ L' = [.row (.slice A8 n8 c8) 24 2 n8 (exCells (Ex.compF xs s).1)]) ?_ ?_
          · refine cv_seq_k fun K hK => ?_
            refine cv_region_then rfl ?_
            simp -implicitDefEqProofs (disch := first | omega | decide) only [seval, -Int.reducePow, -Nat.reducePow, cC, pv, binv, eBox, undef, g3, g4, g8]
            refine hK _ _ ?_
            clear hK K
            refine cv_cond ?_
            simp -implicitDefEqProofs (disch := first | omega | decide) only [seval, -Int.reducePow, -Nat.reducePow, cC, pv, binv, eBox, undef, g3, g4, g8]
            refine ⟨fun hc => ?_, fun hc => ?_⟩
            · rw [if_pos (of_decide_eq_true hc)] at hF
              refine cv_pick_post [0] (by decide) ?_
              refine cv_region_q rfl ?_
              simp -implicitDefEqProofs (disch := first | omega | decide) only [seval, -Int.reducePow, -Nat.reducePow, cC, pv, binv, eBox, undef, wrap_in, g3, g4, g8]
              intro b5 hb5
              refine appV_at 1 tap22 rfl (fun w hw => src_blk (size := 2) (.head _) rfl hw) rfl (by omega) (by omega) ?_
              intro A' c' hl' _
              simp -implicitDefEqProofs (disch := first | omega | decide) only [seval, -Int.reducePow, -Nat.reducePow, cC, pv, binv, eBox, undef, g3, g4, g8]
              exact ⟨A', n6 + 1, c', rfl, by rw [hF, exCells_snoc]⟩
            · rw [if_neg (of_decide_eq_false hc), List.append_nil] at hF
              refine cv_skip ?_
              try simp only [blockQ, thenQ]
              simp -implicitDefEqProofs (disch := first | omega | decide) only [seval, -Int.reducePow, -Nat.reducePow, cC, pv, binv, eBox, undef, g3, g4, g8]
              exact ⟨A6, n6, c6, rfl, by rw [hF]⟩
          · intro G9 L' _ hF
            obtain ⟨A8, n8, c8, q6, rfl⟩ := hF
            have g9_6 := q6
            clear q6
            have g9 := g9_6
            refine hK _ _ ?_
            clear hK K
            refine cv_seq_k fun K hK => ?_
            refine cv_region_then rfl ?_
            simp -implicitDefEqProofs (disch := first | omega | decide) only [seval, -Int.reducePow, -Nat.reducePow, cC, pv, binv, eBox, undef, g3, g4, g9]
            refine hK _ _ ?_
            clear hK K
            refine cv_ret ⟨_, (by simp -implicitDefEqProofs (disch := first | omega | decide) only [seval, -Int.reducePow, -Nat.reducePow, cC, pv, binv, eBox, undef, g3, g4, g9]; rfl), fun w hw => ?_⟩
            have hF2 : (Ex.compF xs s).2 = 0 := by rw [hF]
            exact ⟨A8, n8, c8, by rw [hF2], ownsRow_new (hw.holds _ (.head _)) (hw.own _ (.head _)), hw.below⟩
end Go.Proofs.Ytabjbghmldiokaa
