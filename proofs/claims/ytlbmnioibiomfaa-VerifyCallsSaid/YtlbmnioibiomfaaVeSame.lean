/- bools, same, few, awake of verify's laws. -/
import Derived.Test.YtlbmnioibiomfaaVeMax
import Derived.Test.YtlbmnioibiomfaaVeRch
import Derived.Test.YtlbmnioibiomfaaMk
namespace Go.Proofs.Ytlbmnioibiomfaa
open Go.RowKit Go.Shelf
set_option linter.unusedVariables false
set_option linter.unusedSimpArgs false
set_option maxRecDepth 100000
set_option maxRecDepth 100000 in
theorem sVeSame1 : type_of% (And.intro @Nat.mul_one @wrap_in) := (And.intro @Nat.mul_one @wrap_in)
theorem bz_row {a : List Bool} {n : Nat} (h : (boz a).length = n * 1) : a.length = n := by rw [bz_len] at h; omega
set_option maxHeartbeats 1000000 in
theorem bools_any (A B : Option Addr) (n c k d : Nat) (a b : List Bool) (W : World) (hA : Sl W W.heap.size 1 A n c (boz a)) (hB : Sl W W.heap.size 1 B k d (boz b)) :
    Calls Try.prog 42 #[.slice A n c, .slice B k d] W fun e w' => e = .returned (.bool (decide (a = b))) ∧ Below W.heap.size W w' := by
  have ha := bz_row hA.len
  have hb := bz_row hB.len
  have hca := hA.cap
  have hma := hA.max
  refine calls_cv (M := []) (n := 26) [.tmp 4] rfl Try.func42 rfl rfl (Nat.le_of_ble_eq_true rfl) (St.nil _ _) ?_
  refine cv_seq_k fun K hK => ?_
  refine cv_region_then rfl ?_
  simp -implicitDefEqProofs (disch := first | omega | decide) only [seval, -Int.reducePow, -Nat.reducePow, cC, pv, binv, sVeSame1, undef]
  refine hK _ _ ?_
  clear hK K
  refine cv_seq_k fun K hK => ?_
  refine cv_seq_k fun K hK => ?_
  refine cv_region_then rfl ?_
  simp -implicitDefEqProofs (disch := first | omega | decide) only [seval, -Int.reducePow, -Nat.reducePow, cC, pv, binv, sVeSame1, undef]
  refine hK _ _ ?_
  clear hK K
  refine cv_cond ?_
  simp -implicitDefEqProofs (disch := first | omega | decide) only [seval, -Int.reducePow, -Nat.reducePow, cC, pv, binv, sVeSame1, undef]
  refine ⟨fun hc => ?_, fun hc => ?_⟩
  · have hne : ¬ (n : Int) = (k : Int) := by simpa using ‹(!decide ((n : Int) = (k : Int))) = true›
    refine cv_seq_k fun K hK => ?_
    refine cv_region_then rfl ?_
    simp -implicitDefEqProofs (disch := first | omega | decide) only [seval, -Int.reducePow, -Nat.reducePow, cC, pv, binv, sVeSame1, undef]
    refine hK _ _ ?_
    clear hK K
    refine cv_ret ⟨_, (by simp -implicitDefEqProofs (disch := first | omega | decide) only [seval, -Int.reducePow, -Nat.reducePow, cC, pv, binv, sVeSame1, undef]; rfl), fun w hw => ?_⟩
    exact ⟨by rw [decide_eq_false (fun e => hne (by rw [e] at ha; omega))], hw.below⟩
  have heq : (n : Int) = (k : Int) := by simpa using ‹(!decide ((n : Int) = (k : Int))) = false›
  have hnk : n = k := by omega
  subst hnk
  refine cv_skip ?_
  try simp only [blockQ, thenQ]
  refine hK _ _ ?_
  clear hK K
  refine cv_seq_k fun K hK => ?_
  refine cv_seq_k fun K hK => ?_
  refine cv_region_then rfl ?_
  simp -implicitDefEqProofs (disch := first | omega | decide) only [seval, -Int.reducePow, -Nat.reducePow, cC, pv, binv, sVeSame1, undef]
  refine hK _ _ ?_
  clear hK K
  refine cv_gen fun G1 hG => ?_
  have g1_0 := congrFun hG 0
  have g1_1 := congrFun hG 1
  have g1_12 := congrFun hG 12
  have g1_13 := congrFun hG 13
  clear hG
  try simp -implicitDefEqProofs (disch := first | omega | decide) only [seval, -Int.reducePow, -Nat.reducePow, cC, pv, binv, sVeSame1, undef] at g1_0 g1_1 g1_12 g1_13
  have g1 := And.intro g1_0 (And.intro g1_1 (And.intro g1_12 g1_13))
  refine cv_block ?_
  refine cv_loop (fun F' L' => ∃ (j : Nat), F' 0 = G1 0 ∧ F' 1 = G1 1 ∧ F' 12 = G1 12 ∧ F' 13 = .int .i64 (j : Int) ∧ L' = [] ∧ j ≤ n ∧ a.take j = b.take j) (fun F' L' => n - (intOf (F' 13)).toNat) ?_ ?_
  · refine ⟨0, ?_⟩
    simp -implicitDefEqProofs (disch := first | omega | decide) only [seval, -Int.reducePow, -Nat.reducePow, cC, pv, binv, sVeSame1, undef, g1]
    simp
  intro G2 L' hI
  obtain ⟨j, q0, q1, q12, q13, rfl, ⟨hj, ht⟩⟩ := hI
  have g2_0 := q0.trans g1_0
  have g2_1 := q1.trans g1_1
  have g2_12 := q12.trans g1_12
  have g2_13 := q13
  clear q0 q1 q12 q13
  have g2 := And.intro g2_0 (And.intro g2_1 (And.intro g2_12 g2_13))
  refine cv_seq_k fun K hK => ?_
  refine cv_region_then rfl ?_
  simp -implicitDefEqProofs (disch := first | omega | decide) only [seval, -Int.reducePow, -Nat.reducePow, cC, pv, binv, sVeSame1, undef, g1, g2]
  refine hK _ _ ?_
  clear hK K
  refine cv_seq_k fun K hK => ?_
  refine cv_cond ?_
  simp -implicitDefEqProofs (disch := first | omega | decide) only [seval, -Int.reducePow, -Nat.reducePow, cC, pv, binv, sVeSame1, undef, g1, g2]
  refine ⟨fun hc => ?_, fun hc => ?_⟩
  · refine cv_skip ?_
    try simp only [blockQ, thenQ]
    have hjt : j < n := by have := of_decide_eq_true ‹decide ((j : Int) < (n : Int)) = true›; omega
    obtain ⟨x, hx⟩ := some_of (l := a) (i := j) (by omega)
    obtain ⟨y, hy⟩ := some_of (l := b) (i := j) (by omega)
    obtain ⟨bA, oA, rfl, hbA, -⟩ := hA.cells (by omega)
    obtain ⟨bB, oB, rfl, hbB, -⟩ := hB.cells (by omega)
    refine hK _ _ ?_
    clear hK K
    refine cv_seq_k fun K hK => ?_
    refine cv_block ?_
    refine cv_seq_k fun K hK => ?_
    refine cv_region_then rfl ?_
    simp -implicitDefEqProofs (disch := first | omega | decide) only [seval, -Int.reducePow, -Nat.reducePow, cC, pv, binv, sVeSame1, undef, g1, g2]
    refine hK _ _ ?_
    clear hK K
    refine cv_seq_k fun K hK => ?_
    refine cv_draw [(true, 0), (true, 1), (true, 2), (true, 3), (true, 4), (true, 5), (true, 6), (true, 7), (true, 8)] [] mixA rfl (by kernel_rfl) (by kernel_rfl) rfl rfl ?_
    simp -implicitDefEqProofs (disch := first | omega | decide) only [seval, -Int.reducePow, -Nat.reducePow, cC, pv, binv, sVeSame1, undef, g1, g2]
    refine ⟨_, hA.ld1 (i := j) rfl (bz_get hx), fun tok htok => ?_⟩
    subst htok
    simp -implicitDefEqProofs (disch := first | omega | decide) only [seval, -Int.reducePow, -Nat.reducePow, cC, pv, binv, sVeSame1, undef, g1, g2]
    refine ⟨_, hB.ld1 (i := j) rfl (bz_get hy), fun tok htok => ?_⟩
    subst htok
    simp -implicitDefEqProofs (disch := first | omega | decide) only [seval, -Int.reducePow, -Nat.reducePow, cC, pv, binv, sVeSame1, undef, g1, g2]
    refine hK _ _ ?_
    clear hK K
    refine cv_cond ?_
    simp -implicitDefEqProofs (disch := first | omega | decide) only [seval, -Int.reducePow, -Nat.reducePow, cC, pv, binv, sVeSame1, undef, g1, g2]
    refine ⟨fun hc => ?_, fun hc => ?_⟩
    · have hne : ¬ x = y := by simpa using ‹(!decide (x = y)) = true›
      refine cv_seq_k fun K hK => ?_
      refine cv_region_then rfl ?_
      simp -implicitDefEqProofs (disch := first | omega | decide) only [seval, -Int.reducePow, -Nat.reducePow, cC, pv, binv, sVeSame1, undef, g1, g2]
      refine hK _ _ ?_
      clear hK K
      refine cv_ret ⟨_, (by simp -implicitDefEqProofs (disch := first | omega | decide) only [seval, -Int.reducePow, -Nat.reducePow, cC, pv, binv, sVeSame1, undef, g1, g2]; rfl), fun w hw => ?_⟩
      exact ⟨by rw [decide_eq_false (fun e => hne (by rw [e, hy] at hx; exact (Option.some.inj hx).symm))], hw.below⟩
    have heq2 : x = y := by simpa using ‹(!decide (x = y)) = false›
    refine cv_skip ?_
    try simp only [blockQ, thenQ]
    refine hK _ _ ?_
    clear hK K
    refine cv_region_then rfl ?_
    simp -implicitDefEqProofs (disch := first | omega | decide) only [seval, -Int.reducePow, -Nat.reducePow, cC, pv, binv, sVeSame1, undef, wrap_in, g1, g2]
    refine ⟨⟨j + 1, ?_⟩, ?_⟩
    · simp -implicitDefEqProofs (disch := first | omega | decide) only [seval, -Int.reducePow, -Nat.reducePow, cC, pv, binv, sVeSame1, undef, Int.natCast_add, g1, g2]
      refine ⟨by omega, ?_⟩
      rw [List.take_add_one, List.take_add_one, ht, hx, hy, heq2]
    · simp only [intOf]; omega
  refine cv_exit ?_
  simp only [blockQ, thenQ, if_true, ite_true]
  clear hK K
  refine hK _ _ ?_
  clear hK K
  have hje : j = n := by have := of_decide_eq_false ‹decide ((j : Int) < (n : Int)) = false›; omega
  refine cv_seq_k fun K hK => ?_
  refine cv_region_then rfl ?_
  simp -implicitDefEqProofs (disch := first | omega | decide) only [seval, -Int.reducePow, -Nat.reducePow, cC, pv, binv, sVeSame1, undef, g1, g2]
  refine hK _ _ ?_
  clear hK K
  refine cv_ret ⟨_, (by simp -implicitDefEqProofs (disch := first | omega | decide) only [seval, -Int.reducePow, -Nat.reducePow, cC, pv, binv, sVeSame1, undef, g1, g2]; rfl), fun w hw => ?_⟩
  rw [List.take_of_length_le (by omega), List.take_of_length_le (by omega)] at ht
  exact ⟨by rw [decide_eq_true ht], hw.below⟩
set_option maxRecDepth 100000 in
theorem sVeSame2 : type_of% (And.intro (And.intro (And.intro @fBox.eq_1 (And.intro @tBox.eq_1 @iBox.eq_1)) (And.intro (And.intro @mBox.eq_1 @gBox.eq_1) (And.intro @flBox.eq_1 @fdV.eq_1))) (And.intro (And.intro (And.intro @tyV.eq_1 @insV.eq_1) (And.intro @fnV.eq_1 @modV.eq_1)) (And.intro (And.intro @fltV.eq_1 @fineF.eq_1) (And.intro @Nat.mul_one @wrap_in)))) := (And.intro (And.intro (And.intro @fBox.eq_1 (And.intro @tBox.eq_1 @iBox.eq_1)) (And.intro (And.intro @mBox.eq_1 @gBox.eq_1) (And.intro @flBox.eq_1 @fdV.eq_1))) (And.intro (And.intro (And.intro @tyV.eq_1 @insV.eq_1) (And.intro @fnV.eq_1 @modV.eq_1)) (And.intro (And.intro @fltV.eq_1 @fineF.eq_1) (And.intro @Nat.mul_one @wrap_in))))
set_option maxHeartbeats 2000000 in
theorem vSame_any (m : ModR) (f : Int) (W : World) (hM : Mod W W.heap.size m) : Calls Try.prog 18 #[modV m, .int .i64 f] W fun e w' => e = .returned (.bool true) ∧ Below W.heap.size W w' := by
  have hMat := fun {L : List Res} {w : World} (hw : St [] W L w) => hM.at hw
  obtain ⟨q, hq⟩ : ∃ q, verM m = q := ⟨_, rfl⟩
  obtain ⟨u, hu⟩ : ∃ u, maxM m f = u := ⟨_, rfl⟩
  obtain ⟨s, hs⟩ : ∃ s, rchV m = s := ⟨_, rfl⟩
  obtain ⟨TA, tn, tc, ts, FA, fn, fc, gs⟩ := m
  refine calls_cv (M := []) (n := 43) [.tmp 4] rfl Try.func18 rfl rfl (Nat.le_of_ble_eq_true rfl) (St.nil _ _) ?_
  refine cv_seq_k fun K hK => ?_
  refine cv_region_then rfl ?_
  simp -implicitDefEqProofs (disch := first | omega | decide) only [seval, -Int.reducePow, -Nat.reducePow, cC, pv, binv, sVeSame2, undef]
  intro b2 hb2
  refine hK _ _ ?_
  clear hK K
  refine cv_seq_k fun K hK => ?_
  refine cv_region_then rfl ?_
  simp -implicitDefEqProofs (disch := first | omega | decide) only [seval, -Int.reducePow, -Nat.reducePow, cC, pv, binv, sVeSame2, undef]
  refine callV_ret (fun w hw => MaxHeight_any ⟨TA, tn, tc, ts, FA, fn, fc, gs⟩ f w (hMat hw)) ?_
  try simp -implicitDefEqProofs (disch := first | omega | decide) only [seval, -Int.reducePow, -Nat.reducePow, cC, pv, binv, sVeSame2, undef, hu]
  refine hK _ _ ?_
  clear hK K
  refine cv_seq_k fun K hK => ?_
  refine cv_region_then rfl ?_
  simp -implicitDefEqProofs (disch := first | omega | decide) only [seval, -Int.reducePow, -Nat.reducePow, cC, pv, binv, sVeSame2, undef]
  refine callV_ret (fun w hw => rMaxHeight_any ⟨TA, tn, tc, ts, FA, fn, fc, gs⟩ f w (hMat hw)) ?_
  try simp -implicitDefEqProofs (disch := first | omega | decide) only [seval, -Int.reducePow, -Nat.reducePow, cC, pv, binv, sVeSame2, undef, hu]
  refine hK _ _ ?_
  clear hK K
  refine cv_gen fun G3 hG => ?_
  have g3_2 := congrFun hG 2
  have g3_5 := congrFun hG 5
  have g3_6 := congrFun hG 6
  have g3_7 := congrFun hG 7
  have g3_8 := congrFun hG 8
  clear hG
  try simp -implicitDefEqProofs (disch := first | omega | decide) only [seval, -Int.reducePow, -Nat.reducePow, cC, pv, binv, sVeSame2, undef] at g3_2 g3_5 g3_6 g3_7 g3_8
  have g3 := And.intro g3_2 (And.intro g3_5 (And.intro g3_6 (And.intro g3_7 g3_8)))
  refine cv_seq_k fun K hK => ?_
  refine cv_draw [(true, 0), (true, 2), (false, 1), (false, 3), (true, 4), (true, 5), (true, 6), (true, 7), (true, 8), (true, 9), (true, 10), (true, 11), (true, 12), (true, 13), (true, 14), (true, 15), (true, 16), (true, 18), (false, 17), (false, 19), (false, 20), (true, 21), (true, 22)] [] mixA rfl (by kernel_rfl) (by kernel_rfl) rfl rfl ?_
  simp -implicitDefEqProofs (disch := first | omega | decide) only [seval, -Int.reducePow, -Nat.reducePow, cC, pv, binv, sVeSame2, undef, g3]
  refine callV_ret (fun w hw => Verify_any ⟨TA, tn, tc, ts, FA, fn, fc, gs⟩ w (hMat hw)) ?_
  try simp -implicitDefEqProofs (disch := first | omega | decide) only [seval, -Int.reducePow, -Nat.reducePow, cC, pv, binv, sVeSame2, undef, hq, g3]
  refine callV_ret (fun w hw => rVerify_any ⟨TA, tn, tc, ts, FA, fn, fc, gs⟩ w (hMat hw)) ?_
  try simp -implicitDefEqProofs (disch := first | omega | decide) only [seval, -Int.reducePow, -Nat.reducePow, cC, pv, binv, sVeSame2, undef, hq, g3]
  refine callV_row (fun A n c => .slice A n c) (fun w hw => (by have := Reachable_any ⟨TA, tn, tc, ts, FA, fn, fc, gs⟩ w (hMat hw); rw [hs] at this; exact this)) ?_
  intro A3 n3 c3 hl3 hr3
  simp -implicitDefEqProofs (disch := first | omega | decide) only [seval, -Int.reducePow, -Nat.reducePow, cC, pv, binv, sVeSame2, undef, g3]
  refine callV_row (fun A n c => .slice A n c) (fun w hw => (by have := rReachable_any ⟨TA, tn, tc, ts, FA, fn, fc, gs⟩ w (hMat hw); rw [hs] at this; exact this)) ?_
  intro A4 n4 c4 hl4 hr4
  simp -implicitDefEqProofs (disch := first | omega | decide) only [seval, -Int.reducePow, -Nat.reducePow, cC, pv, binv, sVeSame2, undef, g3]
  refine callV_ret (fun w hw => bools_any A3 A4 n3 c3 n4 c4 s s w (hw.slr 1 rfl) (hw.slr 0 rfl)) ?_
  try simp -implicitDefEqProofs (disch := first | omega | decide) only [seval, -Int.reducePow, -Nat.reducePow, cC, pv, binv, sVeSame2, undef, g3]
  refine hK _ _ ?_
  clear hK K
  refine cv_ret ⟨_, (by simp -implicitDefEqProofs (disch := first | omega | decide) only [seval, -Int.reducePow, -Nat.reducePow, cC, pv, binv, sVeSame2, undef, g3]; rfl), fun w hw => ?_⟩
  exact ⟨rfl, hw.below⟩
/-- The module of the chapter's example. -/
def vcM (b b7 : Nat) : ModR := ⟨none, 0, 0, [], some ⟨b, 0, none⟩, 1, 1, [⟨0, 0, 0, some ⟨b7, 0, none⟩, 2, 2, [⟨4, 0⟩, ⟨25, 0⟩]⟩]⟩
theorem vc_ver (b b7 : Nat) : verM (vcM b b7) = (24, 0, 0) := by kernel_rfl
theorem vc_mod {w : World} {b b7 : Nat} (h5 : Sl w w.heap.size 2 (some ⟨b7, 0, none⟩) 2 2 (cl insc [⟨4, 0⟩, ⟨25, 0⟩])) (h7 : Sl w w.heap.size 4 (some ⟨b, 0, none⟩) 1 1 (cl fnc (vcM b b7).gs)) : Mod w w.heap.size (vcM b b7) := by
  refine ⟨Sl.nil 2, fun t ht => (by simp [vcM] at ht), h7, fun g hg => ?_, fun g hg i hi => ?_⟩
  · obtain rfl : g = ⟨0, 0, 0, some ⟨b7, 0, none⟩, 2, 2, [⟨4, 0⟩, ⟨25, 0⟩]⟩ := by simpa [vcM] using hg
    exact h5
  · obtain rfl : g = ⟨0, 0, 0, some ⟨b7, 0, none⟩, 2, 2, [⟨4, 0⟩, ⟨25, 0⟩]⟩ := by simpa [vcM] using hg
    simp at hi
    rcases hi with rfl | rfl <;> decide
theorem vAwake_any (W : World) : Calls Try.prog 12 #[] W fun e w' => e = .returned (.bool true) ∧ Below W.heap.size W w' := by
  refine calls_cv (M := []) (n := 12) [.tmp 0] rfl Try.func12 rfl rfl (Nat.le_of_ble_eq_true rfl) (St.nil _ _) ?_
  refine cv_seq_k fun K hK => ?_
  refine cv_region_then rfl ?_
  simp -implicitDefEqProofs (disch := first | omega | decide) only [seval, -Int.reducePow, -Nat.reducePow, cC, pv, binv, sVeSame2, undef]
  refine hK _ _ ?_
  clear hK K
  refine cv_seq_k fun K hK => ?_
  refine cv_region_then rfl ?_
  simp -implicitDefEqProofs (disch := first | omega | decide) only [seval, -Int.reducePow, -Nat.reducePow, cC, pv, binv, sVeSame2, undef]
  intro b4 hb4 b6 hb6 hf6 b1 hb1 hf1
  refine hK _ _ ?_
  clear hK K
  refine cv_seq_k fun K hK => ?_
  refine cv_region_then rfl ?_
  simp -implicitDefEqProofs (disch := first | omega | decide) only [seval, -Int.reducePow, -Nat.reducePow, cC, pv, binv, sVeSame2, undef]
  refine callV_ret (fun w hw => (by have := Verify_any (vcM b6 b4) w (vc_mod (Sl.of_blk hw (.tail _ (.tail _ (.head _))) rfl (by omega)) (Sl.of_blk hw (.tail _ (.head _)) rfl (by omega))); rw [vc_ver] at this; exact this)) ?_
  try simp -implicitDefEqProofs (disch := first | omega | decide) only [seval, -Int.reducePow, -Nat.reducePow, cC, pv, binv, sVeSame2, undef, vc_ver]
  refine hK _ _ ?_
  clear hK K
  refine cv_ret ⟨_, (by simp -implicitDefEqProofs (disch := first | omega | decide) only [seval, -Int.reducePow, -Nat.reducePow, cC, pv, binv, sVeSame2, undef]; rfl), fun w hw => ?_⟩
  exact ⟨rfl, hw.below⟩
set_option maxHeartbeats 1000000 in
theorem vFew_any (m : ModR) (W : World) (hM : Mod W W.heap.size m) : Calls Try.prog 19 #[modV m] W fun e w' => ∃ r : Bool, e = .returned (.bool r) ∧ True ∧ Below W.heap.size W w' := by
  have hlt := hM.tlen
  have hlg := hM.glen
  have hE := hM.ts
  have hG := hM.gs
  obtain ⟨TA, tn, tc, ts, FA, fn, fc, gs⟩ := m
  dsimp only at *
  refine calls_cv (M := []) (n := 45) [.tmp 2] rfl Try.func19 rfl rfl (Nat.le_of_ble_eq_true rfl) (St.nil _ _) ?_
  refine cv_seq_k fun K hK => ?_
  refine cv_region_then rfl ?_
  simp -implicitDefEqProofs (disch := first | omega | decide) only [seval, -Int.reducePow, -Nat.reducePow, cC, pv, binv, sVeSame2, undef]
  intro b1 hb1
  refine hK _ _ ?_
  clear hK K
  refine cv_gen fun G4 hG => ?_
  have g4_1 := congrFun hG 1
  clear hG
  try simp -implicitDefEqProofs (disch := first | omega | decide) only [seval, -Int.reducePow, -Nat.reducePow, cC, pv, binv, sVeSame2, undef] at g4_1
  have g4 := g4_1
  refine cv_seq_k fun K hK => ?_
  refine cv_seq_k fun K hK => ?_
  refine cv_cut (fun _ _ => True) (fun F' L' => F' 1 = G4 1 ∧ F' 14 = .bool (decide (10 < tn ∨ 10 < fn)) ∧ L' = [mBox b1 ⟨TA, tn, tc, ts, FA, fn, fc, gs⟩]) ?_ ?_
  · refine cv_region_then rfl ?_
    simp -implicitDefEqProofs (disch := first | omega | decide) only [seval, -Int.reducePow, -Nat.reducePow, cC, pv, binv, sVeSame2, undef, g4]
    repeat' ((first | refine vcg_cases (fun hg => ?_) (fun hg => ?_) | refine vdg_cases (fun hg => ?_) (fun hg => ?_)) <;> ((try simp only [Bool.not_eq_true', Bool.not_eq_false', decide_eq_true_eq, decide_eq_false_iff_not] at hg); (try simp -implicitDefEqProofs (disch := first | omega | decide) only [seval, -Int.reducePow, -Nat.reducePow, cC, pv, binv, sVeSame2, undef, hg, g4])))
    all_goals (repeat' refine And.intro ?_ ?_)
    all_goals (first | with_reducible rfl | (refine congrArg Value.bool ?_; rw [Bool.eq_iff_iff]; (try simp only [decide_eq_true_eq, eq_self, true_and, and_true, false_and, and_false, true_or, or_true, false_or, or_false, not_true_eq_false, not_false_eq_true, true_iff, iff_true, false_iff, iff_false, Bool.false_eq_true, Bool.not_eq_true', Bool.not_eq_true, decide_eq_false_iff_not, Bool.and_eq_true, Bool.or_eq_true]) <;> omega) | (refine congrArg (Value.int _) ?_; omega) | omega)
  intro G5 L' _ hF
  obtain ⟨q1, q14, rfl⟩ := hF
  have g5_1 := q1.trans g4_1
  have g5_14 := q14
  clear q1 q14
  have g5 := And.intro g5_1 g5_14
  refine hK _ _ ?_
  clear hK K
  refine cv_cond ?_
  simp -implicitDefEqProofs (disch := first | omega | decide) only [seval, -Int.reducePow, -Nat.reducePow, cC, pv, binv, sVeSame2, undef, g5]
  refine ⟨fun hc => ?_, fun hc => ?_⟩
  · refine cv_seq_k fun K hK => ?_
    refine cv_region_then rfl ?_
    simp -implicitDefEqProofs (disch := first | omega | decide) only [seval, -Int.reducePow, -Nat.reducePow, cC, pv, binv, sVeSame2, undef, g5]
    refine hK _ _ ?_
    clear hK K
    refine cv_ret ⟨_, (by simp -implicitDefEqProofs (disch := first | omega | decide) only [seval, -Int.reducePow, -Nat.reducePow, cC, pv, binv, sVeSame2, undef, g5]; rfl), fun w hw => ?_⟩
    first | exact ⟨_, rfl, trivial, hw.below⟩ | exact ⟨_, rfl, hw.below⟩
  have q1 := of_decide_eq_false hc
  refine cv_skip ?_
  try simp only [blockQ, thenQ]
  refine hK _ _ ?_
  clear hK K
  refine cv_seq_k fun K hK => ?_
  refine cv_seq_k fun K hK => ?_
  refine cv_region_then rfl ?_
  simp -implicitDefEqProofs (disch := first | omega | decide) only [seval, -Int.reducePow, -Nat.reducePow, cC, pv, binv, sVeSame2, undef, g5]
  refine hK _ _ ?_
  clear hK K
  refine cv_gen fun G6 hG => ?_
  have g6_1 := congrFun hG 1
  have g6_17 := congrFun hG 17
  have g6_18 := congrFun hG 18
  clear hG
  try simp -implicitDefEqProofs (disch := first | omega | decide) only [seval, -Int.reducePow, -Nat.reducePow, cC, pv, binv, sVeSame2, undef, g5] at g6_1 g6_17 g6_18
  have g6 := And.intro g6_1 (And.intro g6_17 g6_18)
  refine cv_block ?_
  refine cv_loop (fun F' L' => ∃ (k : Nat), F' 1 = G6 1 ∧ F' 17 = G6 17 ∧ F' 18 = .int .i64 (k : Int) ∧ L' = [mBox b1 ⟨TA, tn, tc, ts, FA, fn, fc, gs⟩] ∧ k ≤ tn) (fun F' L' => 50 - (intOf (F' 18)).toNat) ?_ ?_
  · refine ⟨0, ?_⟩
    simp -implicitDefEqProofs (disch := first | omega | decide) only [seval, -Int.reducePow, -Nat.reducePow, cC, pv, binv, sVeSame2, undef, g6]
    omega
  intro G7 L' hI
  obtain ⟨k, q1, q17, q18, rfl, hk⟩ := hI
  have g7_1 := q1.trans g6_1
  have g7_17 := q17.trans g6_17
  have g7_18 := q18
  clear q1 q17 q18
  have g7 := And.intro g7_1 (And.intro g7_17 g7_18)
  refine cv_seq_k fun K hK => ?_
  refine cv_region_then rfl ?_
  simp -implicitDefEqProofs (disch := first | omega | decide) only [seval, -Int.reducePow, -Nat.reducePow, cC, pv, binv, sVeSame2, undef, g6, g7]
  refine hK _ _ ?_
  clear hK K
  refine cv_seq_k fun K hK => ?_
  refine cv_cond ?_
  simp -implicitDefEqProofs (disch := first | omega | decide) only [seval, -Int.reducePow, -Nat.reducePow, cC, pv, binv, sVeSame2, undef, g6, g7]
  refine ⟨fun hc => ?_, fun hc => ?_⟩
  · refine cv_skip ?_
    try simp only [blockQ, thenQ]
    have hlt2 : k < tn := by have := of_decide_eq_true ‹decide ((k : Int) < (tn : Int)) = true›; omega
    obtain ⟨b0, off, rfl, hb0, -⟩ := hE.cells (by omega)
    obtain ⟨x, hx⟩ := some_of (l := ts) (i := k) (by omega)
    refine hK _ _ ?_
    clear hK K
    refine cv_seq_k fun K hK => ?_
    refine cv_block ?_
    refine cv_seq_k fun K hK => ?_
    refine cv_region_then rfl ?_
    simp -implicitDefEqProofs (disch := first | omega | decide) only [seval, -Int.reducePow, -Nat.reducePow, cC, pv, binv, sVeSame2, undef, g6, g7]
    refine hK _ _ ?_
    clear hK K
    refine cv_seq_k fun K hK => ?_
    refine cv_region_then rfl ?_
    simp -implicitDefEqProofs (disch := first | omega | decide) only [seval, -Int.reducePow, -Nat.reducePow, cC, pv, binv, sVeSame2, undef, g6, g7]
    refine ⟨_, hE.tyf hx, fun tok htok => ?_⟩
    subst htok
    simp -implicitDefEqProofs (disch := first | omega | decide) only [seval, -Int.reducePow, -Nat.reducePow, cC, pv, binv, sVeSame2, undef, g6, g7]
    refine hK _ _ ?_
    clear hK K
    refine cv_cond ?_
    simp -implicitDefEqProofs (disch := first | omega | decide) only [seval, -Int.reducePow, -Nat.reducePow, cC, pv, binv, sVeSame2, undef, g6, g7]
    refine ⟨fun hc => ?_, fun hc => ?_⟩
    · refine cv_seq_k fun K hK => ?_
      refine cv_region_then rfl ?_
      simp -implicitDefEqProofs (disch := first | omega | decide) only [seval, -Int.reducePow, -Nat.reducePow, cC, pv, binv, sVeSame2, undef, g6, g7]
      refine hK _ _ ?_
      clear hK K
      refine cv_ret ⟨_, (by simp -implicitDefEqProofs (disch := first | omega | decide) only [seval, -Int.reducePow, -Nat.reducePow, cC, pv, binv, sVeSame2, undef, g6, g7]; rfl), fun w hw => ?_⟩
      first | exact ⟨_, rfl, trivial, hw.below⟩ | exact ⟨_, rfl, hw.below⟩
    refine cv_skip ?_
    try simp only [blockQ, thenQ]
    refine hK _ _ ?_
    clear hK K
    refine cv_region_then rfl ?_
    simp -implicitDefEqProofs (disch := first | omega | decide) only [seval, -Int.reducePow, -Nat.reducePow, cC, pv, binv, sVeSame2, undef, wrap_in, g6, g7]
    refine ⟨⟨k + 1, ?_⟩, ?_⟩
    · simp -implicitDefEqProofs (disch := first | omega | decide) only [seval, -Int.reducePow, -Nat.reducePow, cC, pv, binv, sVeSame2, undef, Int.natCast_add, g6, g7]
      repeat' (first | with_reducible exact trivial | with_reducible rfl | omega | refine And.intro ?_ ?_)
    · simp only [intOf]; omega
  refine cv_exit ?_
  simp only [blockQ, thenQ, if_true, ite_true]
  clear hK K
  refine hK _ _ ?_
  clear hK K
  refine cv_seq_k fun K hK => ?_
  refine cv_seq_k fun K hK => ?_
  refine cv_region_then rfl ?_
  simp -implicitDefEqProofs (disch := first | omega | decide) only [seval, -Int.reducePow, -Nat.reducePow, cC, pv, binv, sVeSame2, undef, g6, g7]
  refine hK _ _ ?_
  clear hK K
  refine cv_gen fun G8 hG => ?_
  have g8_1 := congrFun hG 1
  have g8_32 := congrFun hG 32
  have g8_33 := congrFun hG 33
  clear hG
  try simp -implicitDefEqProofs (disch := first | omega | decide) only [seval, -Int.reducePow, -Nat.reducePow, cC, pv, binv, sVeSame2, undef, g6, g7] at g8_1 g8_32 g8_33
  have g8 := And.intro g8_1 (And.intro g8_32 g8_33)
  refine cv_block ?_
  refine cv_loop (fun F' L' => ∃ (k : Nat), F' 1 = G8 1 ∧ F' 32 = G8 32 ∧ F' 33 = .int .i64 (k : Int) ∧ L' = [mBox b1 ⟨TA, tn, tc, ts, FA, fn, fc, gs⟩] ∧ k ≤ fn) (fun F' L' => 50 - (intOf (F' 33)).toNat) ?_ ?_
  · refine ⟨0, ?_⟩
    simp -implicitDefEqProofs (disch := first | omega | decide) only [seval, -Int.reducePow, -Nat.reducePow, cC, pv, binv, sVeSame2, undef, g6, g7, g8]
    omega
  intro G9 L' hI
  obtain ⟨k, q1, q32, q33, rfl, hk⟩ := hI
  have g9_1 := q1.trans g8_1
  have g9_32 := q32.trans g8_32
  have g9_33 := q33
  clear q1 q32 q33
  have g9 := And.intro g9_1 (And.intro g9_32 g9_33)
  refine cv_seq_k fun K hK => ?_
  refine cv_region_then rfl ?_
  simp -implicitDefEqProofs (disch := first | omega | decide) only [seval, -Int.reducePow, -Nat.reducePow, cC, pv, binv, sVeSame2, undef, g6, g7, g8, g9]
  refine hK _ _ ?_
  clear hK K
  refine cv_seq_k fun K hK => ?_
  refine cv_cond ?_
  simp -implicitDefEqProofs (disch := first | omega | decide) only [seval, -Int.reducePow, -Nat.reducePow, cC, pv, binv, sVeSame2, undef, g6, g7, g8, g9]
  refine ⟨fun hc => ?_, fun hc => ?_⟩
  · refine cv_skip ?_
    try simp only [blockQ, thenQ]
    have hlt2 : k < fn := by have := of_decide_eq_true ‹decide ((k : Int) < (fn : Int)) = true›; omega
    obtain ⟨b0, off, rfl, hb0, -⟩ := hG.cells (by omega)
    obtain ⟨x, hx⟩ := some_of (l := gs) (i := k) (by omega)
    refine hK _ _ ?_
    clear hK K
    refine cv_seq_k fun K hK => ?_
    refine cv_block ?_
    refine cv_seq_k fun K hK => ?_
    refine cv_region_then rfl ?_
    simp -implicitDefEqProofs (disch := first | omega | decide) only [seval, -Int.reducePow, -Nat.reducePow, cC, pv, binv, sVeSame2, undef, g6, g7, g8, g9]
    refine hK _ _ ?_
    clear hK K
    refine cv_seq_k fun K hK => ?_
    refine cv_region_then rfl ?_
    simp -implicitDefEqProofs (disch := first | omega | decide) only [seval, -Int.reducePow, -Nat.reducePow, cC, pv, binv, sVeSame2, undef, g6, g7, g8, g9]
    refine ⟨_, hG.fnf hx, fun tok htok => ?_⟩
    subst htok
    simp -implicitDefEqProofs (disch := first | omega | decide) only [seval, -Int.reducePow, -Nat.reducePow, cC, pv, binv, sVeSame2, undef, g6, g7, g8, g9]
    refine hK _ _ ?_
    clear hK K
    refine cv_cond ?_
    simp -implicitDefEqProofs (disch := first | omega | decide) only [seval, -Int.reducePow, -Nat.reducePow, cC, pv, binv, sVeSame2, undef, g6, g7, g8, g9]
    refine ⟨fun hc => ?_, fun hc => ?_⟩
    · refine cv_seq_k fun K hK => ?_
      refine cv_region_then rfl ?_
      simp -implicitDefEqProofs (disch := first | omega | decide) only [seval, -Int.reducePow, -Nat.reducePow, cC, pv, binv, sVeSame2, undef, g6, g7, g8, g9]
      refine hK _ _ ?_
      clear hK K
      refine cv_ret ⟨_, (by simp -implicitDefEqProofs (disch := first | omega | decide) only [seval, -Int.reducePow, -Nat.reducePow, cC, pv, binv, sVeSame2, undef, g6, g7, g8, g9]; rfl), fun w hw => ?_⟩
      first | exact ⟨_, rfl, trivial, hw.below⟩ | exact ⟨_, rfl, hw.below⟩
    refine cv_skip ?_
    try simp only [blockQ, thenQ]
    refine hK _ _ ?_
    clear hK K
    refine cv_region_then rfl ?_
    simp -implicitDefEqProofs (disch := first | omega | decide) only [seval, -Int.reducePow, -Nat.reducePow, cC, pv, binv, sVeSame2, undef, wrap_in, g6, g7, g8, g9]
    refine ⟨⟨k + 1, ?_⟩, ?_⟩
    · simp -implicitDefEqProofs (disch := first | omega | decide) only [seval, -Int.reducePow, -Nat.reducePow, cC, pv, binv, sVeSame2, undef, Int.natCast_add, g6, g7, g8, g9]
      repeat' (first | with_reducible exact trivial | with_reducible rfl | omega | refine And.intro ?_ ?_)
    · simp only [intOf]; omega
  refine cv_exit ?_
  simp only [blockQ, thenQ, if_true, ite_true]
  clear hK K
  refine hK _ _ ?_
  clear hK K
  refine cv_seq_k fun K hK => ?_
  refine cv_region_then rfl ?_
  simp -implicitDefEqProofs (disch := first | omega | decide) only [seval, -Int.reducePow, -Nat.reducePow, cC, pv, binv, sVeSame2, undef, g6, g7, g8, g9]
  refine hK _ _ ?_
  clear hK K
  refine cv_ret ⟨_, (by simp -implicitDefEqProofs (disch := first | omega | decide) only [seval, -Int.reducePow, -Nat.reducePow, cC, pv, binv, sVeSame2, undef, g6, g7, g8, g9]; rfl), fun w hw => ?_⟩
  first | exact ⟨_, rfl, trivial, hw.below⟩ | exact ⟨_, rfl, hw.below⟩
theorem vFew_ex (m : ModR) (W : World) (hM : Mod W W.heap.size m) : Calls Try.prog 19 #[modV m] W fun e w' => (∃ r : Bool, e = .returned (.bool r) ∧ True) ∧ Below W.heap.size W w' :=
  (vFew_any m W hM).mono (by rintro e w' ⟨r, h1, -, h2⟩; exact ⟨⟨r, h1, trivial⟩, h2⟩)
end Go.Proofs.Ytlbmnioibiomfaa
