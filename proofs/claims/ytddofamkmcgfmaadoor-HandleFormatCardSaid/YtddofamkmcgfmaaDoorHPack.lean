/- Packing. -/
import Derived.Test.YtddofamkmcgfmaaDoorHNum
namespace Go.Proofs.YtddofamkmcgfmaaDoor
open Go.RowKit Go.Shelf
set_option linter.unusedVariables false
set_option linter.unusedSimpArgs false
set_option maxRecDepth 100000
theorem pk_bits {s g t : Nat} (hs : s < 16777216) (hg : g < 4294967296) (ht : t < 256) : ∃ U V R T : Nat, IntKind.u64.wrap ((g : Int) * 2 ^ 24) = (U : Int) ∧ IntKind.u64.wrap ((t : Int) * 2 ^ 56) = (V : Int) ∧
    bits .or .u64 (s : Int) (U : Int) = (R : Int) ∧ bits .or .u64 (R : Int) (V : Int) = (T : Int) ∧ (T : Int) = (t : Int) * 72057594037927936 + (g : Int) * 16777216 + (s : Int) :=
  ⟨_, _, _, _, shl24 hg, shl56 ht, or24 hs (by omega), or56 (by omega) (by omega), pk_cast s g t⟩
theorem pk_any (s g t : Nat) (W : World) (hs : s < 16777216) (hg : g < 4294967296) (ht : t < 256) : Calls Tryd.prog 24 #[.int .i64 (s : Int), .int .i64 (g : Int), .int .i64 (t : Int)] W fun e w' => e = .returned (.int .u64 ((t : Int) * 72057594037927936 + (g : Int) * 16777216 + (s : Int))) ∧ Below W.heap.size W w' := by
  have e1 : IntKind.u64.wrap (s : Int) = (s : Int) := u64_id (by omega)
  have e2 : IntKind.u64.wrap (g : Int) = (g : Int) := u64_id (by omega)
  have e3 : IntKind.u64.wrap (t : Int) = (t : Int) := u64_id (by omega)
  obtain ⟨U, V, R, T, e4, e5, e6, e7, e8⟩ := pk_bits hs hg ht
  rw [← e8]
  refine calls_cv (M := []) (n := 17) [.tmp 6] rfl Tryd.func24 rfl rfl (Nat.le_of_ble_eq_true rfl) (St.nil _ _) ?_
  refine cv_seq_k fun K hK => ?_
  refine cv_region_then rfl ?_
  simp -implicitDefEqProofs (disch := first | omega | decide) only [seval, -Int.reducePow, -Nat.reducePow, cC, pv, binv, undef]
  refine hK _ _ ?_
  clear hK K
  refine cv_seq_k fun K hK => ?_
  refine cv_region_then rfl ?_
  simp -implicitDefEqProofs (disch := first | omega | decide) only [seval, -Int.reducePow, -Nat.reducePow, cC, pv, binv, undef, e1, e2, e3, e4, e5, e6, e7, IntKind.bits]
  refine hK _ _ ?_
  clear hK K
  refine cv_ret ⟨_, (by simp -implicitDefEqProofs (disch := first | omega | decide) only [seval, -Int.reducePow, -Nat.reducePow, cC, pv, binv, undef]; rfl), fun w hw => ?_⟩
  exact ⟨rfl, hw.below⟩
def pkV (r : Int × Int) : Value := .tuple #[.int .u64 r.1, .int .i64 r.2]
theorem pack_any (s g t : Int) (W : World) : Calls Tryd.prog 9 #[.int .i64 s, .int .i64 g, .int .i64 t] W fun e w' => e = .returned (pkV (pkF s g t)) ∧ Below W.heap.size W w' := by
  refine calls_cv (M := []) (n := 34) [.tmp 6, .tmp 7] rfl Tryd.func9 rfl rfl (Nat.le_of_ble_eq_true rfl) (St.nil _ _) ?_
  refine cv_seq_k fun K hK => ?_
  refine cv_region_then rfl ?_
  simp -implicitDefEqProofs (disch := first | omega | decide) only [seval, -Int.reducePow, -Nat.reducePow, cC, pv, binv, undef, pkV]
  refine hK _ _ ?_
  clear hK K
  refine cv_gen fun G1 hG => ?_
  have g1_0 := congrFun hG 0
  have g1_1 := congrFun hG 1
  have g1_2 := congrFun hG 2
  clear hG
  try simp -implicitDefEqProofs (disch := first | omega | decide) only [seval, -Int.reducePow, -Nat.reducePow, cC, pv, binv, undef, pkV] at g1_0 g1_1 g1_2
  have g1 := And.intro g1_0 (And.intro g1_1 g1_2)
  refine cv_seq_k fun K hK => ?_
  refine cv_seq_k fun K hK => ?_
  refine cv_cut (fun _ _ => True) (fun F' L' => F' 0 = G1 0 ∧ F' 1 = G1 1 ∧ F' 2 = G1 2 ∧ F' 29 = .bool (decide (s < 0 ∨ 16777215 < s ∨ g < 1 ∨ 4294967295 < g ∨ t < 1 ∨ 255 < t)) ∧ L' = []) ?_ ?_
  · refine cv_region_then rfl ?_
    simp -implicitDefEqProofs (disch := first | omega | decide) only [seval, -Int.reducePow, -Nat.reducePow, cC, pv, binv, undef, pkV, g1]
    repeat' ((first | refine vcg_cases (fun hg => ?_) (fun hg => ?_) | refine vdg_cases (fun hg => ?_) (fun hg => ?_)) <;> ((try simp only [Bool.not_eq_true', Bool.not_eq_false', decide_eq_true_eq, decide_eq_false_iff_not] at hg); (try simp -implicitDefEqProofs (disch := first | omega | decide) only [seval, -Int.reducePow, -Nat.reducePow, cC, pv, binv, undef, pkV, hg, g1])))
    all_goals (repeat' refine And.intro ?_ ?_)
    all_goals (first | with_reducible rfl | (refine congrArg Value.bool ?_; rw [Bool.eq_iff_iff]; (try simp only [decide_eq_true_eq, eq_self, true_and, and_true, false_and, and_false, true_or, or_true, false_or, or_false, not_true_eq_false, not_false_eq_true, true_iff, iff_true, false_iff, iff_false, Bool.false_eq_true, Bool.not_eq_true', Bool.not_eq_true, decide_eq_false_iff_not, Bool.and_eq_true, Bool.or_eq_true]) <;> omega) | (refine congrArg (Value.int _) ?_; omega) | omega)
  intro G2 L' _ hF
  obtain ⟨q0, q1, q2, q29, rfl⟩ := hF
  have g2_0 := q0.trans g1_0
  have g2_1 := q1.trans g1_1
  have g2_2 := q2.trans g1_2
  have g2_29 := q29
  clear q0 q1 q2 q29
  have g2 := And.intro g2_0 (And.intro g2_1 (And.intro g2_2 g2_29))
  refine hK _ _ ?_
  clear hK K
  refine cv_cond ?_
  simp -implicitDefEqProofs (disch := first | omega | decide) only [seval, -Int.reducePow, -Nat.reducePow, cC, pv, binv, undef, pkV, g2]
  refine ⟨fun hc => ?_, fun hc => ?_⟩
  · have h := of_decide_eq_true hc
    refine cv_seq_k fun K hK => ?_
    refine cv_region_then rfl ?_
    simp -implicitDefEqProofs (disch := first | omega | decide) only [seval, -Int.reducePow, -Nat.reducePow, cC, pv, binv, undef, pkV, g2]
    refine hK _ _ ?_
    clear hK K
    refine cv_ret ⟨_, (by simp -implicitDefEqProofs (disch := first | omega | decide) only [seval, -Int.reducePow, -Nat.reducePow, cC, pv, binv, undef, pkV, g2]; rfl), fun w hw => ?_⟩
    exact ⟨by unfold pkF; rw [if_pos h], hw.below⟩
  have h := of_decide_eq_false hc
  obtain ⟨a, rfl⟩ : ∃ a : Nat, s = a := ⟨s.toNat, by omega⟩
  obtain ⟨b, rfl⟩ : ∃ a : Nat, g = a := ⟨g.toNat, by omega⟩
  obtain ⟨c, rfl⟩ : ∃ a : Nat, t = a := ⟨t.toNat, by omega⟩
  refine cv_skip ?_
  try simp only [blockQ, thenQ]
  refine hK _ _ ?_
  clear hK K
  refine cv_seq_k fun K hK => ?_
  refine cv_region_then rfl ?_
  simp -implicitDefEqProofs (disch := first | omega | decide) only [seval, -Int.reducePow, -Nat.reducePow, cC, pv, binv, undef, pkV, g2]
  refine callV_ret (fun w hw => pk_any a b c w (by omega) (by omega) (by omega)) ?_
  try simp -implicitDefEqProofs (disch := first | omega | decide) only [seval, -Int.reducePow, -Nat.reducePow, cC, pv, binv, undef, pkV, g2]
  refine hK _ _ ?_
  clear hK K
  refine cv_ret ⟨_, (by simp -implicitDefEqProofs (disch := first | omega | decide) only [seval, -Int.reducePow, -Nat.reducePow, cC, pv, binv, undef, pkV, g2]; rfl), fun w hw => ?_⟩
  exact ⟨by unfold pkF; rw [if_neg h]; rfl, hw.below⟩
theorem rpack_any (s g t : Int) (W : World) : Calls Tryd.prog 10 #[.int .i64 s, .int .i64 g, .int .i64 t] W fun e w' => e = .returned (pkV (pkF s g t)) ∧ Below W.heap.size W w' := by
  refine calls_cv (M := []) (n := 40) [.tmp 6, .tmp 7] rfl Tryd.func10 rfl rfl (Nat.le_of_ble_eq_true rfl) (St.nil _ _) ?_
  refine cv_seq_k fun K hK => ?_
  refine cv_region_then rfl ?_
  simp -implicitDefEqProofs (disch := first | omega | decide) only [seval, -Int.reducePow, -Nat.reducePow, cC, pv, binv, undef, pkV]
  refine hK _ _ ?_
  clear hK K
  refine cv_gen fun G3 hG => ?_
  have g3_0 := congrFun hG 0
  have g3_1 := congrFun hG 1
  have g3_2 := congrFun hG 2
  clear hG
  try simp -implicitDefEqProofs (disch := first | omega | decide) only [seval, -Int.reducePow, -Nat.reducePow, cC, pv, binv, undef, pkV] at g3_0 g3_1 g3_2
  have g3 := And.intro g3_0 (And.intro g3_1 g3_2)
  refine cv_seq_k fun K hK => ?_
  refine cv_seq_k fun K hK => ?_
  refine cv_cut (fun _ _ => True) (fun F' L' => F' 0 = G3 0 ∧ F' 1 = G3 1 ∧ F' 2 = G3 2 ∧ F' 29 = .bool (decide (s < 0 ∨ 16777215 < s ∨ g < 1 ∨ 4294967295 < g ∨ t < 1 ∨ 255 < t)) ∧ L' = []) ?_ ?_
  · refine cv_region_then rfl ?_
    simp -implicitDefEqProofs (disch := first | omega | decide) only [seval, -Int.reducePow, -Nat.reducePow, cC, pv, binv, undef, pkV, g3]
    repeat' ((first | refine vcg_cases (fun hg => ?_) (fun hg => ?_) | refine vdg_cases (fun hg => ?_) (fun hg => ?_)) <;> ((try simp only [Bool.not_eq_true', Bool.not_eq_false', decide_eq_true_eq, decide_eq_false_iff_not] at hg); (try simp -implicitDefEqProofs (disch := first | omega | decide) only [seval, -Int.reducePow, -Nat.reducePow, cC, pv, binv, undef, pkV, hg, g3])))
    all_goals (repeat' refine And.intro ?_ ?_)
    all_goals (first | with_reducible rfl | (refine congrArg Value.bool ?_; rw [Bool.eq_iff_iff]; (try simp only [decide_eq_true_eq, eq_self, true_and, and_true, false_and, and_false, true_or, or_true, false_or, or_false, not_true_eq_false, not_false_eq_true, true_iff, iff_true, false_iff, iff_false, Bool.false_eq_true, Bool.not_eq_true', Bool.not_eq_true, decide_eq_false_iff_not, Bool.and_eq_true, Bool.or_eq_true]) <;> omega) | (refine congrArg (Value.int _) ?_; omega) | omega)
  intro G4 L' _ hF
  obtain ⟨q0, q1, q2, q29, rfl⟩ := hF
  have g4_0 := q0.trans g3_0
  have g4_1 := q1.trans g3_1
  have g4_2 := q2.trans g3_2
  have g4_29 := q29
  clear q0 q1 q2 q29
  have g4 := And.intro g4_0 (And.intro g4_1 (And.intro g4_2 g4_29))
  refine hK _ _ ?_
  clear hK K
  refine cv_cond ?_
  simp -implicitDefEqProofs (disch := first | omega | decide) only [seval, -Int.reducePow, -Nat.reducePow, cC, pv, binv, undef, pkV, g4]
  refine ⟨fun hc => ?_, fun hc => ?_⟩
  · have h := of_decide_eq_true hc
    refine cv_seq_k fun K hK => ?_
    refine cv_region_then rfl ?_
    simp -implicitDefEqProofs (disch := first | omega | decide) only [seval, -Int.reducePow, -Nat.reducePow, cC, pv, binv, undef, pkV, g4]
    refine hK _ _ ?_
    clear hK K
    refine cv_ret ⟨_, (by simp -implicitDefEqProofs (disch := first | omega | decide) only [seval, -Int.reducePow, -Nat.reducePow, cC, pv, binv, undef, pkV, g4]; rfl), fun w hw => ?_⟩
    exact ⟨by unfold pkF; rw [if_pos h], hw.below⟩
  have h := of_decide_eq_false hc
  have e1 : ∀ x : Int, 0 ≤ x → x < 18446744073709551616 → IntKind.u64.wrap x = x := fun x h0 h1 => by rw [IntKind.wrap_u64]; omega
  refine cv_skip ?_
  try simp only [blockQ, thenQ]
  refine hK _ _ ?_
  clear hK K
  refine cv_seq_k fun K hK => ?_
  refine cv_region_then rfl ?_
  simp -implicitDefEqProofs (disch := first | omega | decide) only [seval, -Int.reducePow, -Nat.reducePow, cC, pv, binv, undef, pkV, e1, g4]
  refine hK _ _ ?_
  clear hK K
  refine cv_ret ⟨_, (by simp -implicitDefEqProofs (disch := first | omega | decide) only [seval, -Int.reducePow, -Nat.reducePow, cC, pv, binv, undef, pkV, g4]; rfl), fun w hw => ?_⟩
  exact ⟨by unfold pkF; rw [if_neg h]; rfl, hw.below⟩

end Go.Proofs.YtddofamkmcgfmaaDoor
