/- flow's Next and the reference's. -/
import Derived.Test.YthlhjljgpohgbaaFlNext
namespace Go.Proofs.Ythlhjljgpohgbaa
open Go.RowKit Go.Shelf
set_option linter.unusedVariables false
set_option linter.unusedSimpArgs false
set_option maxRecDepth 100000
set_option maxRecDepth 100000 in
theorem sFlNx21 : type_of% (And.intro (And.intro (And.intro @fBox.eq_1 (And.intro @tBox.eq_1 @iBox.eq_1)) (And.intro (And.intro @mBox.eq_1 @gBox.eq_1) (And.intro @flBox.eq_1 @fdV.eq_1))) (And.intro (And.intro (And.intro @tyV.eq_1 @insV.eq_1) (And.intro @fnV.eq_1 @modV.eq_1)) (And.intro (And.intro @fltV.eq_1 @fineF.eq_1) (And.intro @Nat.mul_one @wrap_in)))) := (And.intro (And.intro (And.intro @fBox.eq_1 (And.intro @tBox.eq_1 @iBox.eq_1)) (And.intro (And.intro @mBox.eq_1 @gBox.eq_1) (And.intro @flBox.eq_1 @fdV.eq_1))) (And.intro (And.intro (And.intro @tyV.eq_1 @insV.eq_1) (And.intro @fnV.eq_1 @modV.eq_1)) (And.intro (And.intro @fltV.eq_1 @fineF.eq_1) (And.intro @Nat.mul_one @wrap_in))))
set_option maxHeartbeats 1000000 in
theorem Next_any (m : ModR) (f at' : Int) (W : World) (hM : Mod W W.heap.size m) : Calls Try.prog 19 #[modV m, .int .i64 f, .int .i64 at'] W (rowP 3 1 (fun v => v) (i64c (nxtF m f at')) W) := by
  have hMat := fun {L : List Res} {w : World} (hw : St [] W L w) => hM.at hw
  have hfn := hM.fn
  have hG := hM.gs
  have hlg := hM.glen
  obtain ⟨q, hq⟩ : ∃ q, stF m f = q := ⟨_, rfl⟩
  obtain ⟨TA, tn, tc, ts, FA, fn, fc, gs⟩ := m
  dsimp only at *
  by_cases hs : q.1 = 0
  · obtain ⟨h0, k, x, rfl, hk, hst⟩ := stF_ok (by rw [hq]; exact hs)
    dsimp only at hk hst
    obtain ⟨-, -, -, hg32, hck⟩ := chkM_ok h0
    obtain ⟨-, -, -, -, -, -, -, h1024, -⟩ := fnErr_ok (hck k x hk).1
    have hX := hfn x (List.mem_of_getElem? hk)
    have hxl : x.code.length = x.n := cl_row insc_len (by omega) hX.len
    have hkf : k < fn := by have := (List.getElem?_eq_some_iff.1 hk).1; omega
    obtain ⟨b9, of9, rfl, hb9, -⟩ := hG.cells (by omega)
    have hN : nxtF ⟨TA, tn, tc, ts, some ⟨b9, of9, none⟩, fn, fc, gs⟩ (k : Int) at' = if at' < 0 then [] else match x.code[at'.toNat]? with | none => [] | some i => nxP i at'.toNat := by
      unfold nxtF
      rw [hq, if_pos hs, fnAt_nat]
      dsimp only
      rw [hk]
      rfl
    have hs' : decide (q.1 = 0) = true := decide_eq_true hs
    refine calls_cv (M := []) (n := 38) [.tmp 6] rfl Try.func19 rfl rfl (Nat.le_of_ble_eq_true rfl) (St.nil _ _) ?_
    refine cv_seq_k fun K hK => ?_
    refine cv_region_then rfl ?_
    simp -implicitDefEqProofs (disch := first | omega | decide) only [seval, -Int.reducePow, -Nat.reducePow, cC, pv, binv, sFlNx21, undef]
    intro b3 hb3
    refine hK _ _ ?_
    clear hK K
    refine cv_gen fun G1 hG => ?_
    have g1_1 := congrFun hG 1
    have g1_2 := congrFun hG 2
    have g1_3 := congrFun hG 3
    clear hG
    try simp -implicitDefEqProofs (disch := first | omega | decide) only [seval, -Int.reducePow, -Nat.reducePow, cC, pv, binv, sFlNx21, undef] at g1_1 g1_2 g1_3
    have g1 := And.intro g1_1 (And.intro g1_2 g1_3)
    refine cv_seq_k fun K hK => ?_
    refine cv_seq_k fun K hK => ?_
    by_cases ha : at' < 0 ∨ (x.n : Int) ≤ at'
    · have hL : nxtF ⟨TA, tn, tc, ts, some ⟨b9, of9, none⟩, fn, fc, gs⟩ (k : Int) at' = [] := by
        rw [hN]
        by_cases h1 : at' < 0
        · rw [if_pos h1]
        · rw [if_neg h1, List.getElem?_eq_none (by omega)]
      refine cv_cut (fun _ _ => True) (fun F' L' => F' 1 = G1 1 ∧ F' 2 = G1 2 ∧ F' 3 = G1 3 ∧ F' 26 = .bool true ∧ L' = [mBox b3 ⟨TA, tn, tc, ts, some ⟨b9, of9, none⟩, fn, fc, gs⟩]) ?_ ?_
      · by_cases h1 : at' < 0
        · have h1' : decide (at' < 0) = true := decide_eq_true h1
          refine cv_region_then rfl ?_
          simp -implicitDefEqProofs (disch := first | omega | decide) only [seval, -Int.reducePow, -Nat.reducePow, cC, pv, binv, sFlNx21, undef, hs', h1', g1]
          refine callV_ret (fun w hw => Static_any ⟨TA, tn, tc, ts, some ⟨b9, of9, none⟩, fn, fc, gs⟩ (k : Int) w (hMat hw)) ?_
          try simp -implicitDefEqProofs (disch := first | omega | decide) only [seval, -Int.reducePow, -Nat.reducePow, cC, pv, binv, sFlNx21, undef, hq, hs', h1', g1]
          all_goals (repeat' refine And.intro ?_ ?_)
          all_goals (first | with_reducible rfl | (refine congrArg Value.bool ?_; rw [Bool.eq_iff_iff]; (try simp only [decide_eq_true_eq, eq_self, true_and, and_true, false_and, and_false, true_or, or_true, false_or, or_false, not_true_eq_false, not_false_eq_true, true_iff, iff_true, false_iff, iff_false, Bool.false_eq_true, Bool.not_eq_true', Bool.not_eq_true, decide_eq_false_iff_not, Bool.and_eq_true, Bool.or_eq_true]) <;> omega) | (refine congrArg (Value.int _) ?_; omega) | omega)
        · have h1' : decide (at' < 0) = false := decide_eq_false h1
          have h2' : decide ((x.n : Int) ≤ at') = true := decide_eq_true (by omega)
          refine cv_region_then rfl ?_
          simp -implicitDefEqProofs (disch := first | omega | decide) only [seval, -Int.reducePow, -Nat.reducePow, cC, pv, binv, sFlNx21, undef, hs', h1', h2', g1]
          refine callV_ret (fun w hw => Static_any ⟨TA, tn, tc, ts, some ⟨b9, of9, none⟩, fn, fc, gs⟩ (k : Int) w (hMat hw)) ?_
          try simp -implicitDefEqProofs (disch := first | omega | decide) only [seval, -Int.reducePow, -Nat.reducePow, cC, pv, binv, sFlNx21, undef, hq, hs', h1', h2', g1]
          refine ⟨_, hG.fnf hk, fun tok htok => ?_⟩
          subst htok
          simp -implicitDefEqProofs (disch := first | omega | decide) only [seval, -Int.reducePow, -Nat.reducePow, cC, pv, binv, sFlNx21, undef, h2', g1]
          all_goals (repeat' refine And.intro ?_ ?_)
          all_goals (first | with_reducible rfl | (refine congrArg Value.bool ?_; rw [Bool.eq_iff_iff]; (try simp only [decide_eq_true_eq, eq_self, true_and, and_true, false_and, and_false, true_or, or_true, false_or, or_false, not_true_eq_false, not_false_eq_true, true_iff, iff_true, false_iff, iff_false, Bool.false_eq_true, Bool.not_eq_true', Bool.not_eq_true, decide_eq_false_iff_not, Bool.and_eq_true, Bool.or_eq_true]) <;> omega) | (refine congrArg (Value.int _) ?_; omega) | omega)
      intro G2 L' _ hF
      obtain ⟨q1, q2, q3, q26, rfl⟩ := hF
      have g2_1 := q1.trans g1_1
      have g2_2 := q2.trans g1_2
      have g2_3 := q3.trans g1_3
      have g2_26 := q26
      clear q1 q2 q3 q26
      have g2 := And.intro g2_1 (And.intro g2_2 (And.intro g2_3 g2_26))
      refine hK _ _ ?_
      clear hK K
      refine cv_cond ?_
      simp -implicitDefEqProofs (disch := first | omega | decide) only [seval, -Int.reducePow, -Nat.reducePow, cC, pv, binv, sFlNx21, undef, g2]
      refine cv_seq_k fun K hK => ?_
      refine cv_region_then rfl ?_
      simp -implicitDefEqProofs (disch := first | omega | decide) only [seval, -Int.reducePow, -Nat.reducePow, cC, pv, binv, sFlNx21, undef, g2]
      refine hK _ _ ?_
      clear hK K
      refine cv_ret ⟨_, (by simp -implicitDefEqProofs (disch := first | omega | decide) only [seval, -Int.reducePow, -Nat.reducePow, cC, pv, binv, sFlNx21, undef, g2]; rfl), fun w hw => ?_⟩
      rw [hL]
      exact ⟨none, 0, 0, rfl, ⟨rfl, .inl ⟨rfl, rfl⟩⟩, hw.below⟩
    · obtain ⟨j, rfl⟩ : ∃ j : Nat, at' = (j : Int) := ⟨at'.toNat, by omega⟩
      have hj : j < x.n := by omega
      obtain ⟨i, hi⟩ := some_of (l := x.code) (i := j) (by omega)
      have hii : insAt x j = i := insAt_of hi
      have hL : nxtF ⟨TA, tn, tc, ts, some ⟨b9, of9, none⟩, fn, fc, gs⟩ (k : Int) (j : Int) = nxP i j := by
        rw [hN, if_neg (by omega), Int.toNat_natCast, hi]
      have h1' : decide ((j : Int) < 0) = false := decide_eq_false (by omega)
      have h2' : decide ((x.n : Int) ≤ (j : Int)) = false := decide_eq_false (by omega)
      have hia : i.op = 19 ∨ i.op = 20 → i.arg ≤ 1024 := fun ho => by
        have := hst j i hi
        unfold stE at this
        split at this
        · cases this
        · omega
      refine cv_cut (fun _ _ => True) (fun F' L' => F' 1 = G1 1 ∧ F' 2 = G1 2 ∧ F' 3 = G1 3 ∧ F' 26 = .bool false ∧ L' = [mBox b3 ⟨TA, tn, tc, ts, some ⟨b9, of9, none⟩, fn, fc, gs⟩]) ?_ ?_
      · refine cv_region_then rfl ?_
        simp -implicitDefEqProofs (disch := first | omega | decide) only [seval, -Int.reducePow, -Nat.reducePow, cC, pv, binv, sFlNx21, undef, hs', h1', h2', g1]
        refine callV_ret (fun w hw => Static_any ⟨TA, tn, tc, ts, some ⟨b9, of9, none⟩, fn, fc, gs⟩ (k : Int) w (hMat hw)) ?_
        try simp -implicitDefEqProofs (disch := first | omega | decide) only [seval, -Int.reducePow, -Nat.reducePow, cC, pv, binv, sFlNx21, undef, hq, hs', h1', h2', g1]
        refine ⟨_, hG.fnf hk, fun tok htok => ?_⟩
        subst htok
        simp -implicitDefEqProofs (disch := first | omega | decide) only [seval, -Int.reducePow, -Nat.reducePow, cC, pv, binv, sFlNx21, undef, h2', g1]
        all_goals (repeat' refine And.intro ?_ ?_)
        all_goals (first | with_reducible rfl | (refine congrArg Value.bool ?_; rw [Bool.eq_iff_iff]; (try simp only [decide_eq_true_eq, eq_self, true_and, and_true, false_and, and_false, true_or, or_true, false_or, or_false, not_true_eq_false, not_false_eq_true, true_iff, iff_true, false_iff, iff_false, Bool.false_eq_true, Bool.not_eq_true', Bool.not_eq_true, decide_eq_false_iff_not, Bool.and_eq_true, Bool.or_eq_true]) <;> omega) | (refine congrArg (Value.int _) ?_; omega) | omega)
      intro G3 L' _ hF
      obtain ⟨q1, q2, q3, q26, rfl⟩ := hF
      have g3_1 := q1.trans g1_1
      have g3_2 := q2.trans g1_2
      have g3_3 := q3.trans g1_3
      have g3_26 := q26
      clear q1 q2 q3 q26
      have g3 := And.intro g3_1 (And.intro g3_2 (And.intro g3_3 g3_26))
      refine hK _ _ ?_
      clear hK K
      refine cv_cond ?_
      simp -implicitDefEqProofs (disch := first | omega | decide) only [seval, -Int.reducePow, -Nat.reducePow, cC, pv, binv, sFlNx21, undef, g3]
      refine cv_skip ?_
      try simp only [blockQ, thenQ]
      refine hK _ _ ?_
      clear hK K
      obtain ⟨b0, off, hA, hb0, -⟩ := hX.cells (by omega)
      obtain ⟨xp, xr, xl, xA, xn, xc, code⟩ := x
      dsimp only at *
      subst hA
      refine cv_seq_k fun K hK => ?_
      refine cv_region_then rfl ?_
      simp -implicitDefEqProofs (disch := first | omega | decide) only [seval, -Int.reducePow, -Nat.reducePow, cC, pv, binv, sFlNx21, undef, g3]
      refine ⟨_, hG.fnf hk, fun tok htok => ?_⟩
      subst htok
      simp -implicitDefEqProofs (disch := first | omega | decide) only [seval, -Int.reducePow, -Nat.reducePow, cC, pv, binv, sFlNx21, undef, g3]
      refine ⟨_, hX.ins hi, fun tok htok => ?_⟩
      subst htok
      simp -implicitDefEqProofs (disch := first | omega | decide) only [seval, -Int.reducePow, -Nat.reducePow, cC, pv, binv, sFlNx21, undef, g3]
      refine callV_row (fun A n c => .slice A n c) (fun w hw => fnext_any i j w (by omega) hia) ?_
      intro A n c hl hr
      simp -implicitDefEqProofs (disch := first | omega | decide) only [seval, -Int.reducePow, -Nat.reducePow, cC, pv, binv, sFlNx21, undef, g3]
      refine hK _ _ ?_
      clear hK K
      refine cv_ret ⟨_, (by simp -implicitDefEqProofs (disch := first | omega | decide) only [seval, -Int.reducePow, -Nat.reducePow, cC, pv, binv, sFlNx21, undef, g3]; rfl), fun w hw => ?_⟩
      rw [hL]
      exact ⟨A, n, c, rfl, hw.rowNew (by simp), hw.below⟩
  · have hN : nxtF ⟨TA, tn, tc, ts, FA, fn, fc, gs⟩ f at' = [] := by
      unfold nxtF
      rw [hq, if_neg hs]
    have hs' : decide (q.1 = 0) = false := decide_eq_false hs
    rw [hN]
    refine calls_cv (M := []) (n := 38) [.tmp 6] rfl Try.func19 rfl rfl (Nat.le_of_ble_eq_true rfl) (St.nil _ _) ?_
    refine cv_seq_k fun K hK => ?_
    refine cv_region_then rfl ?_
    simp -implicitDefEqProofs (disch := first | omega | decide) only [seval, -Int.reducePow, -Nat.reducePow, cC, pv, binv, sFlNx21, undef]
    intro b3 hb3
    refine hK _ _ ?_
    clear hK K
    refine cv_gen fun G4 hG => ?_
    have g4_1 := congrFun hG 1
    have g4_2 := congrFun hG 2
    have g4_3 := congrFun hG 3
    clear hG
    try simp -implicitDefEqProofs (disch := first | omega | decide) only [seval, -Int.reducePow, -Nat.reducePow, cC, pv, binv, sFlNx21, undef] at g4_1 g4_2 g4_3
    have g4 := And.intro g4_1 (And.intro g4_2 g4_3)
    refine cv_seq_k fun K hK => ?_
    refine cv_seq_k fun K hK => ?_
    refine cv_cut (fun _ _ => True) (fun F' L' => F' 1 = G4 1 ∧ F' 2 = G4 2 ∧ F' 3 = G4 3 ∧ F' 26 = .bool true ∧ L' = [mBox b3 ⟨TA, tn, tc, ts, FA, fn, fc, gs⟩]) ?_ ?_
    · refine cv_region_then rfl ?_
      simp -implicitDefEqProofs (disch := first | omega | decide) only [seval, -Int.reducePow, -Nat.reducePow, cC, pv, binv, sFlNx21, undef, hs', g4]
      refine callV_ret (fun w hw => Static_any ⟨TA, tn, tc, ts, FA, fn, fc, gs⟩ f w (hMat hw)) ?_
      try simp -implicitDefEqProofs (disch := first | omega | decide) only [seval, -Int.reducePow, -Nat.reducePow, cC, pv, binv, sFlNx21, undef, hq, hs', g4]
      all_goals (repeat' refine And.intro ?_ ?_)
      all_goals (first | with_reducible rfl | (refine congrArg Value.bool ?_; rw [Bool.eq_iff_iff]; (try simp only [decide_eq_true_eq, eq_self, true_and, and_true, false_and, and_false, true_or, or_true, false_or, or_false, not_true_eq_false, not_false_eq_true, true_iff, iff_true, false_iff, iff_false, Bool.false_eq_true, Bool.not_eq_true', Bool.not_eq_true, decide_eq_false_iff_not, Bool.and_eq_true, Bool.or_eq_true]) <;> omega) | (refine congrArg (Value.int _) ?_; omega) | omega)
    intro G5 L' _ hF
    obtain ⟨q1, q2, q3, q26, rfl⟩ := hF
    have g5_1 := q1.trans g4_1
    have g5_2 := q2.trans g4_2
    have g5_3 := q3.trans g4_3
    have g5_26 := q26
    clear q1 q2 q3 q26
    have g5 := And.intro g5_1 (And.intro g5_2 (And.intro g5_3 g5_26))
    refine hK _ _ ?_
    clear hK K
    refine cv_cond ?_
    simp -implicitDefEqProofs (disch := first | omega | decide) only [seval, -Int.reducePow, -Nat.reducePow, cC, pv, binv, sFlNx21, undef, g5]
    refine cv_seq_k fun K hK => ?_
    refine cv_region_then rfl ?_
    simp -implicitDefEqProofs (disch := first | omega | decide) only [seval, -Int.reducePow, -Nat.reducePow, cC, pv, binv, sFlNx21, undef, g5]
    refine hK _ _ ?_
    clear hK K
    refine cv_ret ⟨_, (by simp -implicitDefEqProofs (disch := first | omega | decide) only [seval, -Int.reducePow, -Nat.reducePow, cC, pv, binv, sFlNx21, undef, g5]; rfl), fun w hw => ?_⟩
    exact ⟨none, 0, 0, rfl, ⟨rfl, .inl ⟨rfl, rfl⟩⟩, hw.below⟩
set_option maxHeartbeats 1000000 in
theorem rNext_any (m : ModR) (f at' : Int) (W : World) (hM : Mod W W.heap.size m) : Calls Try.prog 14 #[modV m, .int .i64 f, .int .i64 at'] W (rowP 3 1 (fun v => v) (i64c (nxtF m f at')) W) := by
  have hMat := fun {L : List Res} {w : World} (hw : St [] W L w) => hM.at hw
  have hfn := hM.fn
  have hG := hM.gs
  have hlg := hM.glen
  obtain ⟨q, hq⟩ : ∃ q, stF m f = q := ⟨_, rfl⟩
  obtain ⟨TA, tn, tc, ts, FA, fn, fc, gs⟩ := m
  dsimp only at *
  by_cases hs : q.1 = 0
  · obtain ⟨h0, k, x, rfl, hk, hst⟩ := stF_ok (by rw [hq]; exact hs)
    dsimp only at hk hst
    obtain ⟨-, -, -, hg32, hck⟩ := chkM_ok h0
    obtain ⟨-, -, -, -, -, -, -, h1024, -⟩ := fnErr_ok (hck k x hk).1
    have hX := hfn x (List.mem_of_getElem? hk)
    have hxl : x.code.length = x.n := cl_row insc_len (by omega) hX.len
    have hkf : k < fn := by have := (List.getElem?_eq_some_iff.1 hk).1; omega
    obtain ⟨b9, of9, rfl, hb9, -⟩ := hG.cells (by omega)
    have hN : nxtF ⟨TA, tn, tc, ts, some ⟨b9, of9, none⟩, fn, fc, gs⟩ (k : Int) at' = if at' < 0 then [] else match x.code[at'.toNat]? with | none => [] | some i => nxP i at'.toNat := by
      unfold nxtF
      rw [hq, if_pos hs, fnAt_nat]
      dsimp only
      rw [hk]
      rfl
    have hs' : decide (q.1 = 0) = true := decide_eq_true hs
    refine calls_cv (M := []) (n := 38) [.tmp 6] rfl Try.func14 rfl rfl (Nat.le_of_ble_eq_true rfl) (St.nil _ _) ?_
    refine cv_seq_k fun K hK => ?_
    refine cv_region_then rfl ?_
    simp -implicitDefEqProofs (disch := first | omega | decide) only [seval, -Int.reducePow, -Nat.reducePow, cC, pv, binv, sFlNx21, undef]
    intro b3 hb3
    refine hK _ _ ?_
    clear hK K
    refine cv_gen fun G6 hG => ?_
    have g6_1 := congrFun hG 1
    have g6_2 := congrFun hG 2
    have g6_3 := congrFun hG 3
    clear hG
    try simp -implicitDefEqProofs (disch := first | omega | decide) only [seval, -Int.reducePow, -Nat.reducePow, cC, pv, binv, sFlNx21, undef] at g6_1 g6_2 g6_3
    have g6 := And.intro g6_1 (And.intro g6_2 g6_3)
    refine cv_seq_k fun K hK => ?_
    refine cv_seq_k fun K hK => ?_
    by_cases ha : at' < 0 ∨ (x.n : Int) ≤ at'
    · have hL : nxtF ⟨TA, tn, tc, ts, some ⟨b9, of9, none⟩, fn, fc, gs⟩ (k : Int) at' = [] := by
        rw [hN]
        by_cases h1 : at' < 0
        · rw [if_pos h1]
        · rw [if_neg h1, List.getElem?_eq_none (by omega)]
      refine cv_cut (fun _ _ => True) (fun F' L' => F' 1 = G6 1 ∧ F' 2 = G6 2 ∧ F' 3 = G6 3 ∧ F' 26 = .bool true ∧ L' = [mBox b3 ⟨TA, tn, tc, ts, some ⟨b9, of9, none⟩, fn, fc, gs⟩]) ?_ ?_
      · by_cases h1 : at' < 0
        · have h1' : decide (at' < 0) = true := decide_eq_true h1
          refine cv_region_then rfl ?_
          simp -implicitDefEqProofs (disch := first | omega | decide) only [seval, -Int.reducePow, -Nat.reducePow, cC, pv, binv, sFlNx21, undef, hs', h1', g6]
          refine callV_ret (fun w hw => rStatic_any ⟨TA, tn, tc, ts, some ⟨b9, of9, none⟩, fn, fc, gs⟩ (k : Int) w (hMat hw)) ?_
          try simp -implicitDefEqProofs (disch := first | omega | decide) only [seval, -Int.reducePow, -Nat.reducePow, cC, pv, binv, sFlNx21, undef, hq, hs', h1', g6]
          all_goals (repeat' refine And.intro ?_ ?_)
          all_goals (first | with_reducible rfl | (refine congrArg Value.bool ?_; rw [Bool.eq_iff_iff]; (try simp only [decide_eq_true_eq, eq_self, true_and, and_true, false_and, and_false, true_or, or_true, false_or, or_false, not_true_eq_false, not_false_eq_true, true_iff, iff_true, false_iff, iff_false, Bool.false_eq_true, Bool.not_eq_true', Bool.not_eq_true, decide_eq_false_iff_not, Bool.and_eq_true, Bool.or_eq_true]) <;> omega) | (refine congrArg (Value.int _) ?_; omega) | omega)
        · have h1' : decide (at' < 0) = false := decide_eq_false h1
          have h2' : decide ((x.n : Int) ≤ at') = true := decide_eq_true (by omega)
          refine cv_region_then rfl ?_
          simp -implicitDefEqProofs (disch := first | omega | decide) only [seval, -Int.reducePow, -Nat.reducePow, cC, pv, binv, sFlNx21, undef, hs', h1', h2', g6]
          refine callV_ret (fun w hw => rStatic_any ⟨TA, tn, tc, ts, some ⟨b9, of9, none⟩, fn, fc, gs⟩ (k : Int) w (hMat hw)) ?_
          try simp -implicitDefEqProofs (disch := first | omega | decide) only [seval, -Int.reducePow, -Nat.reducePow, cC, pv, binv, sFlNx21, undef, hq, hs', h1', h2', g6]
          refine ⟨_, hG.fnf hk, fun tok htok => ?_⟩
          subst htok
          simp -implicitDefEqProofs (disch := first | omega | decide) only [seval, -Int.reducePow, -Nat.reducePow, cC, pv, binv, sFlNx21, undef, h2', g6]
          all_goals (repeat' refine And.intro ?_ ?_)
          all_goals (first | with_reducible rfl | (refine congrArg Value.bool ?_; rw [Bool.eq_iff_iff]; (try simp only [decide_eq_true_eq, eq_self, true_and, and_true, false_and, and_false, true_or, or_true, false_or, or_false, not_true_eq_false, not_false_eq_true, true_iff, iff_true, false_iff, iff_false, Bool.false_eq_true, Bool.not_eq_true', Bool.not_eq_true, decide_eq_false_iff_not, Bool.and_eq_true, Bool.or_eq_true]) <;> omega) | (refine congrArg (Value.int _) ?_; omega) | omega)
      intro G7 L' _ hF
      obtain ⟨q1, q2, q3, q26, rfl⟩ := hF
      have g7_1 := q1.trans g6_1
      have g7_2 := q2.trans g6_2
      have g7_3 := q3.trans g6_3
      have g7_26 := q26
      clear q1 q2 q3 q26
      have g7 := And.intro g7_1 (And.intro g7_2 (And.intro g7_3 g7_26))
      refine hK _ _ ?_
      clear hK K
      refine cv_cond ?_
      simp -implicitDefEqProofs (disch := first | omega | decide) only [seval, -Int.reducePow, -Nat.reducePow, cC, pv, binv, sFlNx21, undef, g7]
      refine cv_seq_k fun K hK => ?_
      refine cv_region_then rfl ?_
      simp -implicitDefEqProofs (disch := first | omega | decide) only [seval, -Int.reducePow, -Nat.reducePow, cC, pv, binv, sFlNx21, undef, g7]
      refine hK _ _ ?_
      clear hK K
      refine cv_ret ⟨_, (by simp -implicitDefEqProofs (disch := first | omega | decide) only [seval, -Int.reducePow, -Nat.reducePow, cC, pv, binv, sFlNx21, undef, g7]; rfl), fun w hw => ?_⟩
      rw [hL]
      exact ⟨none, 0, 0, rfl, ⟨rfl, .inl ⟨rfl, rfl⟩⟩, hw.below⟩
    · obtain ⟨j, rfl⟩ : ∃ j : Nat, at' = (j : Int) := ⟨at'.toNat, by omega⟩
      have hj : j < x.n := by omega
      obtain ⟨i, hi⟩ := some_of (l := x.code) (i := j) (by omega)
      have hii : insAt x j = i := insAt_of hi
      have hL : nxtF ⟨TA, tn, tc, ts, some ⟨b9, of9, none⟩, fn, fc, gs⟩ (k : Int) (j : Int) = nxP i j := by
        rw [hN, if_neg (by omega), Int.toNat_natCast, hi]
      have h1' : decide ((j : Int) < 0) = false := decide_eq_false (by omega)
      have h2' : decide ((x.n : Int) ≤ (j : Int)) = false := decide_eq_false (by omega)
      have hia : i.op = 19 ∨ i.op = 20 → i.arg ≤ 1024 := fun ho => by
        have := hst j i hi
        unfold stE at this
        split at this
        · cases this
        · omega
      refine cv_cut (fun _ _ => True) (fun F' L' => F' 1 = G6 1 ∧ F' 2 = G6 2 ∧ F' 3 = G6 3 ∧ F' 26 = .bool false ∧ L' = [mBox b3 ⟨TA, tn, tc, ts, some ⟨b9, of9, none⟩, fn, fc, gs⟩]) ?_ ?_
      · refine cv_region_then rfl ?_
        simp -implicitDefEqProofs (disch := first | omega | decide) only [seval, -Int.reducePow, -Nat.reducePow, cC, pv, binv, sFlNx21, undef, hs', h1', h2', g6]
        refine callV_ret (fun w hw => rStatic_any ⟨TA, tn, tc, ts, some ⟨b9, of9, none⟩, fn, fc, gs⟩ (k : Int) w (hMat hw)) ?_
        try simp -implicitDefEqProofs (disch := first | omega | decide) only [seval, -Int.reducePow, -Nat.reducePow, cC, pv, binv, sFlNx21, undef, hq, hs', h1', h2', g6]
        refine ⟨_, hG.fnf hk, fun tok htok => ?_⟩
        subst htok
        simp -implicitDefEqProofs (disch := first | omega | decide) only [seval, -Int.reducePow, -Nat.reducePow, cC, pv, binv, sFlNx21, undef, h2', g6]
        all_goals (repeat' refine And.intro ?_ ?_)
        all_goals (first | with_reducible rfl | (refine congrArg Value.bool ?_; rw [Bool.eq_iff_iff]; (try simp only [decide_eq_true_eq, eq_self, true_and, and_true, false_and, and_false, true_or, or_true, false_or, or_false, not_true_eq_false, not_false_eq_true, true_iff, iff_true, false_iff, iff_false, Bool.false_eq_true, Bool.not_eq_true', Bool.not_eq_true, decide_eq_false_iff_not, Bool.and_eq_true, Bool.or_eq_true]) <;> omega) | (refine congrArg (Value.int _) ?_; omega) | omega)
      intro G8 L' _ hF
      obtain ⟨q1, q2, q3, q26, rfl⟩ := hF
      have g8_1 := q1.trans g6_1
      have g8_2 := q2.trans g6_2
      have g8_3 := q3.trans g6_3
      have g8_26 := q26
      clear q1 q2 q3 q26
      have g8 := And.intro g8_1 (And.intro g8_2 (And.intro g8_3 g8_26))
      refine hK _ _ ?_
      clear hK K
      refine cv_cond ?_
      simp -implicitDefEqProofs (disch := first | omega | decide) only [seval, -Int.reducePow, -Nat.reducePow, cC, pv, binv, sFlNx21, undef, g8]
      refine cv_skip ?_
      try simp only [blockQ, thenQ]
      refine hK _ _ ?_
      clear hK K
      obtain ⟨b0, off, hA, hb0, -⟩ := hX.cells (by omega)
      obtain ⟨xp, xr, xl, xA, xn, xc, code⟩ := x
      dsimp only at *
      subst hA
      refine cv_seq_k fun K hK => ?_
      refine cv_region_then rfl ?_
      simp -implicitDefEqProofs (disch := first | omega | decide) only [seval, -Int.reducePow, -Nat.reducePow, cC, pv, binv, sFlNx21, undef, g8]
      refine ⟨_, hG.fnf hk, fun tok htok => ?_⟩
      subst htok
      simp -implicitDefEqProofs (disch := first | omega | decide) only [seval, -Int.reducePow, -Nat.reducePow, cC, pv, binv, sFlNx21, undef, g8]
      refine ⟨_, hX.ins hi, fun tok htok => ?_⟩
      subst htok
      simp -implicitDefEqProofs (disch := first | omega | decide) only [seval, -Int.reducePow, -Nat.reducePow, cC, pv, binv, sFlNx21, undef, g8]
      refine callV_row (fun A n c => .slice A n c) (fun w hw => frnext_any i j w (by omega) hia) ?_
      intro A n c hl hr
      simp -implicitDefEqProofs (disch := first | omega | decide) only [seval, -Int.reducePow, -Nat.reducePow, cC, pv, binv, sFlNx21, undef, g8]
      refine hK _ _ ?_
      clear hK K
      refine cv_ret ⟨_, (by simp -implicitDefEqProofs (disch := first | omega | decide) only [seval, -Int.reducePow, -Nat.reducePow, cC, pv, binv, sFlNx21, undef, g8]; rfl), fun w hw => ?_⟩
      rw [hL]
      exact ⟨A, n, c, rfl, hw.rowNew (by simp), hw.below⟩
  · have hN : nxtF ⟨TA, tn, tc, ts, FA, fn, fc, gs⟩ f at' = [] := by
      unfold nxtF
      rw [hq, if_neg hs]
    have hs' : decide (q.1 = 0) = false := decide_eq_false hs
    rw [hN]
    refine calls_cv (M := []) (n := 38) [.tmp 6] rfl Try.func14 rfl rfl (Nat.le_of_ble_eq_true rfl) (St.nil _ _) ?_
    refine cv_seq_k fun K hK => ?_
    refine cv_region_then rfl ?_
    simp -implicitDefEqProofs (disch := first | omega | decide) only [seval, -Int.reducePow, -Nat.reducePow, cC, pv, binv, sFlNx21, undef]
    intro b3 hb3
    refine hK _ _ ?_
    clear hK K
    refine cv_gen fun G9 hG => ?_
    have g9_1 := congrFun hG 1
    have g9_2 := congrFun hG 2
    have g9_3 := congrFun hG 3
    clear hG
    try simp -implicitDefEqProofs (disch := first | omega | decide) only [seval, -Int.reducePow, -Nat.reducePow, cC, pv, binv, sFlNx21, undef] at g9_1 g9_2 g9_3
    have g9 := And.intro g9_1 (And.intro g9_2 g9_3)
    refine cv_seq_k fun K hK => ?_
    refine cv_seq_k fun K hK => ?_
    refine cv_cut (fun _ _ => True) (fun F' L' => F' 1 = G9 1 ∧ F' 2 = G9 2 ∧ F' 3 = G9 3 ∧ F' 26 = .bool true ∧ L' = [mBox b3 ⟨TA, tn, tc, ts, FA, fn, fc, gs⟩]) ?_ ?_
    · refine cv_region_then rfl ?_
      simp -implicitDefEqProofs (disch := first | omega | decide) only [seval, -Int.reducePow, -Nat.reducePow, cC, pv, binv, sFlNx21, undef, hs', g9]
      refine callV_ret (fun w hw => rStatic_any ⟨TA, tn, tc, ts, FA, fn, fc, gs⟩ f w (hMat hw)) ?_
      try simp -implicitDefEqProofs (disch := first | omega | decide) only [seval, -Int.reducePow, -Nat.reducePow, cC, pv, binv, sFlNx21, undef, hq, hs', g9]
      all_goals (repeat' refine And.intro ?_ ?_)
      all_goals (first | with_reducible rfl | (refine congrArg Value.bool ?_; rw [Bool.eq_iff_iff]; (try simp only [decide_eq_true_eq, eq_self, true_and, and_true, false_and, and_false, true_or, or_true, false_or, or_false, not_true_eq_false, not_false_eq_true, true_iff, iff_true, false_iff, iff_false, Bool.false_eq_true, Bool.not_eq_true', Bool.not_eq_true, decide_eq_false_iff_not, Bool.and_eq_true, Bool.or_eq_true]) <;> omega) | (refine congrArg (Value.int _) ?_; omega) | omega)
    intro G10 L' _ hF
    obtain ⟨q1, q2, q3, q26, rfl⟩ := hF
    have g10_1 := q1.trans g9_1
    have g10_2 := q2.trans g9_2
    have g10_3 := q3.trans g9_3
    have g10_26 := q26
    clear q1 q2 q3 q26
    have g10 := And.intro g10_1 (And.intro g10_2 (And.intro g10_3 g10_26))
    refine hK _ _ ?_
    clear hK K
    refine cv_cond ?_
    simp -implicitDefEqProofs (disch := first | omega | decide) only [seval, -Int.reducePow, -Nat.reducePow, cC, pv, binv, sFlNx21, undef, g10]
    refine cv_seq_k fun K hK => ?_
    refine cv_region_then rfl ?_
    simp -implicitDefEqProofs (disch := first | omega | decide) only [seval, -Int.reducePow, -Nat.reducePow, cC, pv, binv, sFlNx21, undef, g10]
    refine hK _ _ ?_
    clear hK K
    refine cv_ret ⟨_, (by simp -implicitDefEqProofs (disch := first | omega | decide) only [seval, -Int.reducePow, -Nat.reducePow, cC, pv, binv, sFlNx21, undef, g10]; rfl), fun w hw => ?_⟩
    exact ⟨none, 0, 0, rfl, ⟨rfl, .inl ⟨rfl, rfl⟩⟩, hw.below⟩
end Go.Proofs.Ythlhjljgpohgbaa
