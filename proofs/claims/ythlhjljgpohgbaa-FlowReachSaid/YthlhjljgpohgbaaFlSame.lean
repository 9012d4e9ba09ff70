/- SameInts, same. -/
import Derived.Test.YthlhjljgpohgbaaFlRHgt
import Derived.Test.YthlhjljgpohgbaaFlNx2
namespace Go.Proofs.Ythlhjljgpohgbaa
open Go.RowKit Go.Shelf
set_option linter.unusedVariables false
set_option linter.unusedSimpArgs false
set_option maxRecDepth 100000
set_option maxRecDepth 100000 in
theorem sFlSame1 : type_of% (And.intro @Nat.mul_one @wrap_in) := (And.intro @Nat.mul_one @wrap_in)
theorem z_at {a : List Int} {k : Nat} {x : Int} (h : a[k]? = some x) : (i64z a)[k]? = some (.int .i64 x) := by simp [i64z, h]
theorem z_row {a : List Int} {n : Nat} (h : (i64z a).length = n * 1) : a.length = n := by rw [z_len] at h; omega
theorem i64c_z (l : List Nat) : i64c l = i64z (l.map fun x : Nat => (x : Int)) := by simp [i64c, i64z]
theorem sameInts_any (A B : Option Addr) (n c k d : Nat) (a b : List Int) (W : World) (hA : Sl W W.heap.size 1 A n c (i64z a)) (hB : Sl W W.heap.size 1 B k d (i64z b)) :
    Calls Try.prog 25 #[.slice A n c, .slice B k d] W fun e w' => e = .returned (.bool (decide (a = b))) ∧ Below W.heap.size W w' := by
  have ha := z_row hA.len
  have hb := z_row hB.len
  have hca := hA.cap
  have hma := hA.max
  refine calls_cv (M := []) (n := 26) [.tmp 4] rfl Try.func25 rfl rfl (Nat.le_of_ble_eq_true rfl) (St.nil _ _) ?_
  refine cv_seq_k fun K hK => ?_
  refine cv_region_then rfl ?_
  simp -implicitDefEqProofs (disch := first | omega | decide) only [seval, -Int.reducePow, -Nat.reducePow, cC, pv, binv, sFlSame1, undef]
  refine hK _ _ ?_
  clear hK K
  refine cv_seq_k fun K hK => ?_
  refine cv_seq_k fun K hK => ?_
  refine cv_region_then rfl ?_
  simp -implicitDefEqProofs (disch := first | omega | decide) only [seval, -Int.reducePow, -Nat.reducePow, cC, pv, binv, sFlSame1, undef]
  refine hK _ _ ?_
  clear hK K
  refine cv_cond ?_
  simp -implicitDefEqProofs (disch := first | omega | decide) only [seval, -Int.reducePow, -Nat.reducePow, cC, pv, binv, sFlSame1, undef]
  refine ⟨fun hc => ?_, fun hc => ?_⟩
  · have hne : ¬ (n : Int) = (k : Int) := by simpa using ‹(!decide ((n : Int) = (k : Int))) = true›
    refine cv_seq_k fun K hK => ?_
    refine cv_region_then rfl ?_
    simp -implicitDefEqProofs (disch := first | omega | decide) only [seval, -Int.reducePow, -Nat.reducePow, cC, pv, binv, sFlSame1, undef]
    refine hK _ _ ?_
    clear hK K
    refine cv_ret ⟨_, (by simp -implicitDefEqProofs (disch := first | omega | decide) only [seval, -Int.reducePow, -Nat.reducePow, cC, pv, binv, sFlSame1, undef]; rfl), fun w hw => ?_⟩
    exact ⟨by rw [decide_eq_false (fun e => hne (by rw [e] at ha; omega))], hw.below⟩
  have heq : (n : Int) = (k : Int) := by simpa using ‹(!decide ((n : Int) = (k : Int))) = false›
  have hnk : n = k := by omega
  subst hnk
  refine cv_skip ?_
  try simp only [blockQ, thenQ]
  refine hK _ _ ?_
  clear hK K
  refine cv_gen fun G1 hG => ?_
  have g1_0 := congrFun hG 0
  have g1_1 := congrFun hG 1
  clear hG
  try simp -implicitDefEqProofs (disch := first | omega | decide) only [seval, -Int.reducePow, -Nat.reducePow, cC, pv, binv, sFlSame1, undef] at g1_0 g1_1
  have g1 := And.intro g1_0 g1_1
  refine cv_seq_k fun K hK => ?_
  refine cv_seq_k fun K hK => ?_
  refine cv_region_then rfl ?_
  simp -implicitDefEqProofs (disch := first | omega | decide) only [seval, -Int.reducePow, -Nat.reducePow, cC, pv, binv, sFlSame1, undef, g1]
  refine hK _ _ ?_
  clear hK K
  refine cv_block ?_
  refine cv_loop (fun F' L' => ∃ (j : Nat), F' 0 = G1 0 ∧ F' 1 = G1 1 ∧ F' 5 = .int .i64 (j : Int) ∧ L' = [] ∧ j ≤ n ∧ a.take j = b.take j) (fun F' L' => n - (intOf (F' 5)).toNat) ?_ ?_
  · refine ⟨0, ?_⟩
    simp -implicitDefEqProofs (disch := first | omega | decide) only [seval, -Int.reducePow, -Nat.reducePow, cC, pv, binv, sFlSame1, undef, g1]
    simp
  intro G2 L' hI
  obtain ⟨j, q0, q1, q5, rfl, ⟨hj, ht⟩⟩ := hI
  have g2_0 := q0.trans g1_0
  have g2_1 := q1.trans g1_1
  have g2_5 := q5
  clear q0 q1 q5
  have g2 := And.intro g2_0 (And.intro g2_1 g2_5)
  refine cv_seq_k fun K hK => ?_
  refine cv_seq_k fun K hK => ?_
  refine cv_region_then rfl ?_
  simp -implicitDefEqProofs (disch := first | omega | decide) only [seval, -Int.reducePow, -Nat.reducePow, cC, pv, binv, sFlSame1, undef, g1, g2]
  refine hK _ _ ?_
  clear hK K
  refine cv_cond ?_
  simp -implicitDefEqProofs (disch := first | omega | decide) only [seval, -Int.reducePow, -Nat.reducePow, cC, pv, binv, sFlSame1, undef, g1, g2]
  refine ⟨fun hc => ?_, fun hc => ?_⟩
  · refine cv_skip ?_
    try simp only [blockQ, thenQ]
    have hjt : j < n := by have := of_decide_eq_true ‹decide ((j : Int) < (n : Int)) = true›; omega
    obtain ⟨x, hx⟩ := some_of (l := a) (i := j) (by omega)
    obtain ⟨y, hy⟩ := some_of (l := b) (i := j) (by omega)
    obtain ⟨bA, oA, rfl, hbA, -⟩ := hA.cells (by omega)
    obtain ⟨bB, oB, rfl, hbB, -⟩ := hB.cells (by omega)
    refine hK _ _ ?_
    clear hK K
    refine cv_seq_k fun K hK => ?_
    refine cv_block ?_
    refine cv_seq_k fun K hK => ?_
    refine cv_draw [(true, 0), (true, 1), (true, 2), (true, 3), (true, 4), (true, 5), (true, 6), (true, 7), (true, 8)] [] mixA rfl (by kernel_rfl) (by kernel_rfl) rfl rfl ?_
    simp -implicitDefEqProofs (disch := first | omega | decide) only [seval, -Int.reducePow, -Nat.reducePow, cC, pv, binv, sFlSame1, undef, g1, g2]
    refine ⟨_, hA.ld1 (i := j) rfl (z_at hx), fun tok htok => ?_⟩
    subst htok
    simp -implicitDefEqProofs (disch := first | omega | decide) only [seval, -Int.reducePow, -Nat.reducePow, cC, pv, binv, sFlSame1, undef, g1, g2]
    refine ⟨_, hB.ld1 (i := j) rfl (z_at hy), fun tok htok => ?_⟩
    subst htok
    simp -implicitDefEqProofs (disch := first | omega | decide) only [seval, -Int.reducePow, -Nat.reducePow, cC, pv, binv, sFlSame1, undef, g1, g2]
    refine hK _ _ ?_
    clear hK K
    refine cv_cond ?_
    simp -implicitDefEqProofs (disch := first | omega | decide) only [seval, -Int.reducePow, -Nat.reducePow, cC, pv, binv, sFlSame1, undef, g1, g2]
    refine ⟨fun hc => ?_, fun hc => ?_⟩
    · have hne : ¬ x = y := by simpa using ‹(!decide (x = y)) = true›
      refine cv_seq_k fun K hK => ?_
      refine cv_region_then rfl ?_
      simp -implicitDefEqProofs (disch := first | omega | decide) only [seval, -Int.reducePow, -Nat.reducePow, cC, pv, binv, sFlSame1, undef, g1, g2]
      refine hK _ _ ?_
      clear hK K
      refine cv_ret ⟨_, (by simp -implicitDefEqProofs (disch := first | omega | decide) only [seval, -Int.reducePow, -Nat.reducePow, cC, pv, binv, sFlSame1, undef, g1, g2]; rfl), fun w hw => ?_⟩
      exact ⟨by rw [decide_eq_false (fun e => hne (by rw [e, hy] at hx; exact (Option.some.inj hx).symm))], hw.below⟩
    have heq2 : x = y := by simpa using ‹(!decide (x = y)) = false›
    refine cv_skip ?_
    try simp only [blockQ, thenQ]
    refine hK _ _ ?_
    clear hK K
    refine cv_region_then rfl ?_
    simp -implicitDefEqProofs (disch := first | omega | decide) only [seval, -Int.reducePow, -Nat.reducePow, cC, pv, binv, sFlSame1, undef, wrap_in, g1, g2]
    refine ⟨⟨j + 1, ?_⟩, ?_⟩
    · simp -implicitDefEqProofs (disch := first | omega | decide) only [seval, -Int.reducePow, -Nat.reducePow, cC, pv, binv, sFlSame1, undef, Int.natCast_add, g1, g2]
      refine ⟨by omega, ?_⟩
      rw [List.take_add_one, List.take_add_one, ht, hx, hy, heq2]
    · simp only [intOf]; omega
  refine cv_exit ?_
  simp only [blockQ, thenQ, if_true, ite_true]
  clear hK K
  refine hK _ _ ?_
  clear hK K
  have hje : j = n := by have := of_decide_eq_false ‹decide ((j : Int) < (n : Int)) = false›; omega
  refine cv_seq_k fun K hK => ?_
  refine cv_region_then rfl ?_
  simp -implicitDefEqProofs (disch := first | omega | decide) only [seval, -Int.reducePow, -Nat.reducePow, cC, pv, binv, sFlSame1, undef, g1, g2]
  refine hK _ _ ?_
  clear hK K
  refine cv_ret ⟨_, (by simp -implicitDefEqProofs (disch := first | omega | decide) only [seval, -Int.reducePow, -Nat.reducePow, cC, pv, binv, sFlSame1, undef, g1, g2]; rfl), fun w hw => ?_⟩
  rw [List.take_of_length_le (by omega), List.take_of_length_le (by omega)] at ht
  exact ⟨by rw [decide_eq_true ht], hw.below⟩
set_option maxRecDepth 100000 in
theorem sFlSame2 : type_of% (And.intro (And.intro (And.intro @fBox.eq_1 (And.intro @tBox.eq_1 @iBox.eq_1)) (And.intro (And.intro @mBox.eq_1 @gBox.eq_1) (And.intro @flBox.eq_1 @fdV.eq_1))) (And.intro (And.intro (And.intro @tyV.eq_1 @insV.eq_1) (And.intro @fnV.eq_1 @modV.eq_1)) (And.intro (And.intro @fltV.eq_1 @fineF.eq_1) (And.intro @Nat.mul_one @wrap_in)))) := (And.intro (And.intro (And.intro @fBox.eq_1 (And.intro @tBox.eq_1 @iBox.eq_1)) (And.intro (And.intro @mBox.eq_1 @gBox.eq_1) (And.intro @flBox.eq_1 @fdV.eq_1))) (And.intro (And.intro (And.intro @tyV.eq_1 @insV.eq_1) (And.intro @fnV.eq_1 @modV.eq_1)) (And.intro (And.intro @fltV.eq_1 @fineF.eq_1) (And.intro @Nat.mul_one @wrap_in))))
set_option maxHeartbeats 2000000 in
theorem same_any (m : ModR) (f at' : Int) (W : World) (hM : Mod W W.heap.size m) : Calls Try.prog 15 #[modV m, .int .i64 f, .int .i64 at'] W fun e w' => e = .returned (.bool true) ∧ Below W.heap.size W w' := by
  have hMat := fun {L : List Res} {w : World} (hw : St [] W L w) => hM.at hw
  obtain ⟨q, hq⟩ : ∃ q, stF m f = q := ⟨_, rfl⟩
  obtain ⟨u, hu⟩ : ∃ u, hgtF m f = u := ⟨_, rfl⟩
  obtain ⟨s, hs⟩ : ∃ s, nxtF m f at' = s := ⟨_, rfl⟩
  obtain ⟨TA, tn, tc, ts, FA, fn, fc, gs⟩ := m
  refine calls_cv (M := []) (n := 51) [.tmp 6] rfl Try.func15 rfl rfl (Nat.le_of_ble_eq_true rfl) (St.nil _ _) ?_
  refine cv_seq_k fun K hK => ?_
  refine cv_region_then rfl ?_
  simp -implicitDefEqProofs (disch := first | omega | decide) only [seval, -Int.reducePow, -Nat.reducePow, cC, pv, binv, sFlSame2, undef]
  intro b3 hb3
  refine hK _ _ ?_
  clear hK K
  refine cv_seq_k fun K hK => ?_
  refine cv_region_then rfl ?_
  simp -implicitDefEqProofs (disch := first | omega | decide) only [seval, -Int.reducePow, -Nat.reducePow, cC, pv, binv, sFlSame2, undef]
  refine callV_row (fun A n c => .tuple #[.slice A n c, fltV u.2]) (fun w hw => (by have := Heights_any ⟨TA, tn, tc, ts, FA, fn, fc, gs⟩ f w (hMat hw); rw [hu] at this; exact this)) ?_
  intro A1 n1 c1 hl1 hr1
  simp -implicitDefEqProofs (disch := first | omega | decide) only [seval, -Int.reducePow, -Nat.reducePow, cC, pv, binv, sFlSame2, undef]
  intro b8 hb8 hf8
  refine hK _ _ ?_
  clear hK K
  refine cv_gen fun G3 hG => ?_
  have g3_1 := congrFun hG 1
  have g3_2 := congrFun hG 2
  have g3_3 := congrFun hG 3
  have g3_7 := congrFun hG 7
  have g3_8 := congrFun hG 8
  clear hG
  try simp -implicitDefEqProofs (disch := first | omega | decide) only [seval, -Int.reducePow, -Nat.reducePow, cC, pv, binv, sFlSame2, undef] at g3_1 g3_2 g3_3 g3_7 g3_8
  have g3 := And.intro g3_1 (And.intro g3_2 (And.intro g3_3 (And.intro g3_7 g3_8)))
  refine cv_seq_k fun K hK => ?_
  refine cv_region_then rfl ?_
  simp -implicitDefEqProofs (disch := first | omega | decide) only [seval, -Int.reducePow, -Nat.reducePow, cC, pv, binv, sFlSame2, undef, g3]
  refine callV_row (fun A n c => .tuple #[.slice A n c, fltV u.2]) (fun w hw => (by have := rHeights_any ⟨TA, tn, tc, ts, FA, fn, fc, gs⟩ f w (hMat hw); rw [hu] at this; exact this)) ?_
  intro A2 n2 c2 hl2 hr2
  simp -implicitDefEqProofs (disch := first | omega | decide) only [seval, -Int.reducePow, -Nat.reducePow, cC, pv, binv, sFlSame2, undef, g3]
  intro b10 hb10 hf10
  refine hK _ _ ?_
  clear hK K
  refine cv_gen fun G4 hG => ?_
  have g4_1 := congrFun hG 1
  have g4_2 := congrFun hG 2
  have g4_3 := congrFun hG 3
  have g4_7 := congrFun hG 7
  have g4_8 := congrFun hG 8
  have g4_9 := congrFun hG 9
  have g4_10 := congrFun hG 10
  clear hG
  try simp -implicitDefEqProofs (disch := first | omega | decide) only [seval, -Int.reducePow, -Nat.reducePow, cC, pv, binv, sFlSame2, undef, g3] at g4_1 g4_2 g4_3 g4_7 g4_8 g4_9 g4_10
  have g4 := And.intro g4_1 (And.intro g4_2 (And.intro g4_3 (And.intro g4_7 (And.intro g4_8 (And.intro g4_9 g4_10)))))
  refine cv_seq_k fun K hK => ?_
  refine cv_draw [(true, 0), (true, 1), (false, 2), (true, 3), (true, 4), (true, 5), (true, 6), (true, 7), (true, 8), (true, 9), (true, 10), (true, 12), (true, 13), (false, 11), (false, 14), (true, 15), (true, 16), (true, 17), (true, 18), (true, 19), (true, 20), (true, 22), (true, 23), (true, 24), (false, 21), (false, 25), (false, 26), (true, 27), (true, 28)] [] mixA rfl (by kernel_rfl) (by kernel_rfl) rfl rfl ?_
  simp -implicitDefEqProofs (disch := first | omega | decide) only [seval, -Int.reducePow, -Nat.reducePow, cC, pv, binv, sFlSame2, undef, g4]
  refine callV_ret (fun w hw => sameInts_any A1 A2 n1 c1 n2 c2 u.1 u.1 w (hw.slr 3 rfl) (hw.slr 1 rfl)) ?_
  try simp -implicitDefEqProofs (disch := first | omega | decide) only [seval, -Int.reducePow, -Nat.reducePow, cC, pv, binv, sFlSame2, undef, g4]
  refine callV_ret (fun w hw => Static_any ⟨TA, tn, tc, ts, FA, fn, fc, gs⟩ f w (hMat hw)) ?_
  try simp -implicitDefEqProofs (disch := first | omega | decide) only [seval, -Int.reducePow, -Nat.reducePow, cC, pv, binv, sFlSame2, undef, hq, g4]
  refine callV_ret (fun w hw => rStatic_any ⟨TA, tn, tc, ts, FA, fn, fc, gs⟩ f w (hMat hw)) ?_
  try simp -implicitDefEqProofs (disch := first | omega | decide) only [seval, -Int.reducePow, -Nat.reducePow, cC, pv, binv, sFlSame2, undef, hq, g4]
  refine callV_row (fun A n c => .slice A n c) (fun w hw => (by have := Next_any ⟨TA, tn, tc, ts, FA, fn, fc, gs⟩ f at' w (hMat hw); rw [hs] at this; exact this)) ?_
  intro A3 n3 c3 hl3 hr3
  simp -implicitDefEqProofs (disch := first | omega | decide) only [seval, -Int.reducePow, -Nat.reducePow, cC, pv, binv, sFlSame2, undef, g4]
  refine callV_row (fun A n c => .slice A n c) (fun w hw => (by have := rNext_any ⟨TA, tn, tc, ts, FA, fn, fc, gs⟩ f at' w (hMat hw); rw [hs] at this; exact this)) ?_
  intro A4 n4 c4 hl4 hr4
  simp -implicitDefEqProofs (disch := first | omega | decide) only [seval, -Int.reducePow, -Nat.reducePow, cC, pv, binv, sFlSame2, undef, g4]
  refine callV_ret (fun w hw => sameInts_any A3 A4 n3 c3 n4 c4 (s.map fun x : Nat => (x : Int)) (s.map fun x : Nat => (x : Int)) w (by have := hw.slr 1 rfl; rwa [i64c_z] at this) (by have := hw.slr 0 rfl; rwa [i64c_z] at this)) ?_
  try simp -implicitDefEqProofs (disch := first | omega | decide) only [seval, -Int.reducePow, -Nat.reducePow, cC, pv, binv, sFlSame2, undef, g4]
  refine hK _ _ ?_
  clear hK K
  refine cv_ret ⟨_, (by simp -implicitDefEqProofs (disch := first | omega | decide) only [seval, -Int.reducePow, -Nat.reducePow, cC, pv, binv, sFlSame2, undef, g4]; rfl), fun w hw => ?_⟩
  exact ⟨rfl, hw.below⟩
end Go.Proofs.Ythlhjljgpohgbaa
