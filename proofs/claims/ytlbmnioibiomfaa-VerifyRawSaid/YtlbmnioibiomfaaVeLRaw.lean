/- The law VerifyRaw, walked. -/
import Derived.Test.YtlbmnioibiomfaaVeSame
namespace Go.Proofs.Ytlbmnioibiomfaa
open Go.RowKit Go.Shelf
set_option linter.unusedVariables false
set_option linter.unusedSimpArgs false
set_option maxRecDepth 100000
set_option maxRecDepth 100000 in
theorem sVeLRaw1 : type_of% (And.intro @mBox.eq_1 (And.intro @modV.eq_1 @Nat.mul_one)) := (And.intro @mBox.eq_1 (And.intro @modV.eq_1 @Nat.mul_one))
theorem vRaw_walk (W : World) (m : ModR) (hM : Mod W W.heap.size m) (f : Int) (hf : -9223372036854775808 ≤ f ∧ f ≤ 9223372036854775807) :
    Calls Try.prog 6 #[modV m, .int .i64 f] W fun e w' => e = .returned (.bool true) ∧ Below W.heap.size W w' := by
  have hmV : (Value.agg #[.slice m.TA m.tn m.tc, .slice m.FA m.fn m.fc]) = modV m := rfl
  refine calls_cv (M := []) (n := 15) [.tmp 4] rfl Try.func6 rfl rfl (Nat.le_of_ble_eq_true rfl) (St.nil _ _) ?_
  refine cv_seq_k fun K hK => ?_
  refine cv_region_then rfl ?_
  simp -implicitDefEqProofs (disch := first | omega | decide) only [seval, -Int.reducePow, -Nat.reducePow, cC, pv, binv, sVeLRaw1, undef]
  intro b2 hb2
  refine hK _ _ ?_
  clear hK K
  refine cv_seq_k fun K hK => ?_
  refine cv_seq_k fun K hK => ?_
  refine cv_region_then rfl ?_
  simp -implicitDefEqProofs (disch := first | omega | decide) only [seval, -Int.reducePow, -Nat.reducePow, cC, pv, binv, sVeLRaw1, undef]
  rw [hmV]
  refine callV_ex (fun r : Bool => .bool r) (fun _ => True) (fun w hw => vFew_ex m w (hM.at hw)) ?_
  intro r _
  simp -implicitDefEqProofs (disch := first | omega | decide) only [seval, -Int.reducePow, -Nat.reducePow, cC, pv, binv, sVeLRaw1, undef]
  refine hK _ _ ?_
  clear hK K
  refine cv_gen fun G1 hG => ?_
  have g1_1 := congrFun hG 1
  have g1_2 := congrFun hG 2
  have g1_7 := congrFun hG 7
  clear hG
  try simp -implicitDefEqProofs (disch := first | omega | decide) only [seval, -Int.reducePow, -Nat.reducePow, cC, pv, binv, sVeLRaw1, undef] at g1_1 g1_2 g1_7
  have g1 := And.intro g1_1 (And.intro g1_2 g1_7)
  refine cv_cond ?_
  simp -implicitDefEqProofs (disch := first | omega | decide) only [seval, -Int.reducePow, -Nat.reducePow, cC, pv, binv, sVeLRaw1, undef, g1]
  refine ⟨fun hc => ?_, fun hc => ?_⟩
  · refine cv_seq_k fun K hK => ?_
    refine cv_region_then rfl ?_
    simp -implicitDefEqProofs (disch := first | omega | decide) only [seval, -Int.reducePow, -Nat.reducePow, cC, pv, binv, sVeLRaw1, undef, g1]
    refine callV_ret (fun w hw => vAwake_any w) ?_
    try simp -implicitDefEqProofs (disch := first | omega | decide) only [seval, -Int.reducePow, -Nat.reducePow, cC, pv, binv, sVeLRaw1, undef, g1]
    refine hK _ _ ?_
    clear hK K
    refine cv_ret ⟨_, (by simp -implicitDefEqProofs (disch := first | omega | decide) only [seval, -Int.reducePow, -Nat.reducePow, cC, pv, binv, sVeLRaw1, undef, g1]; rfl), fun w hw => ?_⟩
    exact ⟨rfl, hw.below⟩
  refine cv_skip ?_
  try simp only [blockQ, thenQ]
  refine hK _ _ ?_
  clear hK K
  refine cv_seq_k fun K hK => ?_
  refine cv_region_then rfl ?_
  simp -implicitDefEqProofs (disch := first | omega | decide) only [seval, -Int.reducePow, -Nat.reducePow, cC, pv, binv, sVeLRaw1, undef, g1]
  refine callV_ret (fun w hw => vAwake_any w) ?_
  try simp -implicitDefEqProofs (disch := first | omega | decide) only [seval, -Int.reducePow, -Nat.reducePow, cC, pv, binv, sVeLRaw1, undef, g1]
  rw [hmV]
  refine callV_ret (fun w hw => vSame_any m f w (hM.at hw)) ?_
  try simp -implicitDefEqProofs (disch := first | omega | decide) only [seval, -Int.reducePow, -Nat.reducePow, cC, pv, binv, sVeLRaw1, undef, g1]
  refine hK _ _ ?_
  clear hK K
  refine cv_ret ⟨_, (by simp -implicitDefEqProofs (disch := first | omega | decide) only [seval, -Int.reducePow, -Nat.reducePow, cC, pv, binv, sVeLRaw1, undef, g1]; rfl), fun w hw => ?_⟩
  exact ⟨rfl, hw.below⟩
end Go.Proofs.Ytlbmnioibiomfaa
