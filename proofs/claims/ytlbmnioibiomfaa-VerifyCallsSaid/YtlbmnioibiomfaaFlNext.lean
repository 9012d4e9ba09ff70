/- flow's next and Next, and the reference's. -/
import Derived.Test.YtlbmnioibiomfaaFlSort
import Derived.Test.YtlbmnioibiomfaaFlRSt
namespace Go.Proofs.Ytlbmnioibiomfaa
open Go.RowKit Go.Shelf
set_option linter.unusedVariables false
set_option linter.unusedSimpArgs false
set_option maxRecDepth 100000
set_option maxRecDepth 100000 in
theorem sFlNext1 : type_of% (And.intro (And.intro (And.intro @fBox.eq_1 (And.intro @tBox.eq_1 @iBox.eq_1)) (And.intro (And.intro @mBox.eq_1 @gBox.eq_1) (And.intro @flBox.eq_1 @fdV.eq_1))) (And.intro (And.intro (And.intro @tyV.eq_1 @insV.eq_1) (And.intro @fnV.eq_1 @modV.eq_1)) (And.intro (And.intro @fltV.eq_1 @fineF.eq_1) (And.intro @Nat.mul_one @wrap_in)))) := (And.intro (And.intro (And.intro @fBox.eq_1 (And.intro @tBox.eq_1 @iBox.eq_1)) (And.intro (And.intro @mBox.eq_1 @gBox.eq_1) (And.intro @flBox.eq_1 @fdV.eq_1))) (And.intro (And.intro (And.intro @tyV.eq_1 @insV.eq_1) (And.intro @fnV.eq_1 @modV.eq_1)) (And.intro (And.intro @fltV.eq_1 @fineF.eq_1) (And.intro @Nat.mul_one @wrap_in))))
theorem i64c_len (l : List Nat) : (i64c l).length = l.length := by simp [i64c]
theorem ones_i64c (l : List Nat) : ones (i64c l) = true := by simp [ones, i64c, Value.oneCell']
theorem i64c_get {l : List Nat} {i x : Nat} (h : l[i]? = some x) : (i64c l)[i]? = some (.int .i64 x) := by simp [i64c, h]
/-- A fresh block, of which a prefix is handed back. -/
theorem rowP_blk {W w : World} {L : List Res} {b c k : Nat} {cs : List Value} {l : List Nat} (hw : St [] W (.blk b 3 cs :: L) w) (hl : cs.length = c) (hk : k ≤ c) (hc : c ≤ 9223372036854775807) (he : cs.take k = i64c l) :
    rowP 3 1 (fun v => v) (i64c l) W (.returned (.slice (some ⟨b, 0, none⟩) k c)) w := by
  have hr := hw.blk_pre (size := 1) (n := k) (c := c) (by omega) hk hc
  rw [Nat.mul_one, he] at hr
  exact ⟨_, _, _, rfl, hr.rowNew (by simp), hw.below⟩
theorem fnext_any (i : Ins) (k : Nat) (W : World) (hk : k ≤ 1024) (ha : i.op = 19 ∨ i.op = 20 → i.arg ≤ 1024) : Calls Try.prog 58 #[insV i, .int .i64 (k : Int)] W (rowP 3 1 (fun v => v) (i64c (nxP i k)) W) := by
  refine calls_cv (M := []) (n := 33) [.tmp 4] rfl Try.func58 rfl rfl (Nat.le_of_ble_eq_true rfl) (St.nil _ _) ?_
  refine cv_seq_k fun K hK => ?_
  refine cv_region_then rfl ?_
  simp -implicitDefEqProofs (disch := first | omega | decide) only [seval, -Int.reducePow, -Nat.reducePow, cC, pv, binv, sFlNext1, undef]
  intro b2 hb2
  refine hK _ _ ?_
  clear hK K
  refine cv_seq_k fun K hK => ?_
  refine cv_seq_k fun K hK => ?_
  refine cv_region_then rfl ?_
  simp -implicitDefEqProofs (disch := first | omega | decide) only [seval, -Int.reducePow, -Nat.reducePow, cC, pv, binv, sFlNext1, undef]
  refine hK _ _ ?_
  clear hK K
  refine cv_gen fun G1 hG => ?_
  have g1_1 := congrFun hG 1
  have g1_2 := congrFun hG 2
  have g1_7 := congrFun hG 7
  clear hG
  try simp -implicitDefEqProofs (disch := first | omega | decide) only [seval, -Int.reducePow, -Nat.reducePow, cC, pv, binv, sFlNext1, undef] at g1_1 g1_2 g1_7
  have g1 := And.intro g1_1 (And.intro g1_2 g1_7)
  refine cv_block ?_
  refine cv_seq_k fun K hK => ?_
  refine cv_region_then rfl ?_
  simp -implicitDefEqProofs (disch := first | omega | decide) only [seval, -Int.reducePow, -Nat.reducePow, cC, pv, binv, sFlNext1, undef, g1]
  refine hK _ _ ?_
  clear hK K
  refine cv_cond ?_
  simp -implicitDefEqProofs (disch := first | omega | decide) only [seval, -Int.reducePow, -Nat.reducePow, cC, pv, binv, sFlNext1, undef, g1]
  refine ⟨fun hc => ?_, fun hc => ?_⟩
  · have q1 := of_decide_eq_true ‹_›
    have ha' := ha (.inl q1)
    refine cv_seq_k fun K hK => ?_
    refine cv_region_then rfl ?_
    simp -implicitDefEqProofs (disch := first | omega | decide) only [seval, -Int.reducePow, -Nat.reducePow, cC, pv, binv, sFlNext1, undef, g1]
    intro b13 hb13 h13
    refine hK _ _ ?_
    clear hK K
    refine cv_ret ⟨_, (by simp -implicitDefEqProofs (disch := first | omega | decide) only [seval, -Int.reducePow, -Nat.reducePow, cC, pv, binv, sFlNext1, undef, g1]; rfl), fun w hw => ?_⟩
    exact rowP_blk hw (by simp) (by omega) (by omega) (by unfold nxP; rw [if_pos q1] <;> rfl)
  have q1 := of_decide_eq_false ‹_›
  refine cv_seq_k fun K hK => ?_
  refine cv_region_then rfl ?_
  simp -implicitDefEqProofs (disch := first | omega | decide) only [seval, -Int.reducePow, -Nat.reducePow, cC, pv, binv, sFlNext1, undef, g1]
  refine hK _ _ ?_
  clear hK K
  refine cv_cond ?_
  simp -implicitDefEqProofs (disch := first | omega | decide) only [seval, -Int.reducePow, -Nat.reducePow, cC, pv, binv, sFlNext1, undef, g1]
  refine ⟨fun hc => ?_, fun hc => ?_⟩
  · have q2 := of_decide_eq_true ‹_›
    have ha' := ha (.inr q2)
    refine cv_seq_k fun K hK => ?_
    refine cv_region_then rfl ?_
    simp -implicitDefEqProofs (disch := first | omega | decide) only [seval, -Int.reducePow, -Nat.reducePow, cC, pv, binv, sFlNext1, undef, g1]
    intro b13 hb13 h13
    refine hK _ _ ?_
    clear hK K
    refine cv_seq_k fun K hK => ?_
    refine cv_region_then rfl ?_
    simp -implicitDefEqProofs (disch := first | omega | decide) only [seval, -Int.reducePow, -Nat.reducePow, cC, pv, binv, sFlNext1, undef, g1]
    refine callV_mod1 0 (fun w hw => sort2_any b13 (i.arg : Int) ((k : Int) + 1) w (hw.hold 0 rfl)) rfl ?_
    try simp -implicitDefEqProofs (disch := first | omega | decide) only [seval, -Int.reducePow, -Nat.reducePow, cC, pv, binv, sFlNext1, undef, g1]
    refine hK _ _ ?_
    clear hK K
    by_cases c1 : i.arg < k + 1
    · have e2 : s2 (i.arg : Int) ((k : Int) + 1) = [.int .i64 (i.arg : Int), .int .i64 ((k : Int) + 1)] := by unfold s2; rw [if_neg (by omega)]
      rw [e2]
      refine cv_seq_k fun K hK => ?_
      refine cv_region_then rfl ?_
      simp -implicitDefEqProofs (disch := first | omega | decide) only [seval, -Int.reducePow, -Nat.reducePow, cC, pv, binv, sFlNext1, undef, g1]
      refine callV_mod1 0 (fun w hw => comp2_ne b13 (i.arg : Int) ((k : Int) + 1) w (hw.hold 0 rfl) (by omega)) rfl ?_
      try simp -implicitDefEqProofs (disch := first | omega | decide) only [seval, -Int.reducePow, -Nat.reducePow, cC, pv, binv, sFlNext1, undef, g1]
      refine hK _ _ ?_
      clear hK K
      refine cv_ret ⟨_, (by simp -implicitDefEqProofs (disch := first | omega | decide) only [seval, -Int.reducePow, -Nat.reducePow, cC, pv, binv, sFlNext1, undef, g1]; rfl), fun w hw => ?_⟩
      exact rowP_blk hw (by simp) (by omega) (by omega) (by unfold nxP; rw [if_neg q1, if_pos q2, if_pos c1] <;> rfl)
    by_cases c2 : k + 1 < i.arg
    · have e2 : s2 (i.arg : Int) ((k : Int) + 1) = [.int .i64 ((k : Int) + 1), .int .i64 (i.arg : Int)] := by unfold s2; rw [if_pos (by omega)]
      rw [e2]
      refine cv_seq_k fun K hK => ?_
      refine cv_region_then rfl ?_
      simp -implicitDefEqProofs (disch := first | omega | decide) only [seval, -Int.reducePow, -Nat.reducePow, cC, pv, binv, sFlNext1, undef, g1]
      refine callV_mod1 0 (fun w hw => comp2_ne b13 ((k : Int) + 1) (i.arg : Int) w (hw.hold 0 rfl) (by omega)) rfl ?_
      try simp -implicitDefEqProofs (disch := first | omega | decide) only [seval, -Int.reducePow, -Nat.reducePow, cC, pv, binv, sFlNext1, undef, g1]
      refine hK _ _ ?_
      clear hK K
      refine cv_ret ⟨_, (by simp -implicitDefEqProofs (disch := first | omega | decide) only [seval, -Int.reducePow, -Nat.reducePow, cC, pv, binv, sFlNext1, undef, g1]; rfl), fun w hw => ?_⟩
      exact rowP_blk hw (by simp) (by omega) (by omega) (by unfold nxP; rw [if_neg q1, if_pos q2, if_neg c1, if_pos c2] <;> rfl)
    have c3 : (i.arg : Int) = (k : Int) + 1 := by omega
    have e2 : s2 (i.arg : Int) ((k : Int) + 1) = [.int .i64 ((k : Int) + 1), .int .i64 ((k : Int) + 1)] := by unfold s2; rw [if_neg (by omega), c3]
    rw [e2]
    refine cv_seq_k fun K hK => ?_
    refine cv_region_then rfl ?_
    simp -implicitDefEqProofs (disch := first | omega | decide) only [seval, -Int.reducePow, -Nat.reducePow, cC, pv, binv, sFlNext1, undef, g1]
    refine callV_mod1 0 (fun w hw => comp2_eq b13 ((k : Int) + 1) w (hw.hold 0 rfl)) rfl ?_
    try simp -implicitDefEqProofs (disch := first | omega | decide) only [seval, -Int.reducePow, -Nat.reducePow, cC, pv, binv, sFlNext1, undef, g1]
    refine hK _ _ ?_
    clear hK K
    refine cv_ret ⟨_, (by simp -implicitDefEqProofs (disch := first | omega | decide) only [seval, -Int.reducePow, -Nat.reducePow, cC, pv, binv, sFlNext1, undef, g1]; rfl), fun w hw => ?_⟩
    exact rowP_blk hw (by simp) (by omega) (by omega) (by unfold nxP; rw [if_neg q1, if_pos q2, if_neg c1, if_neg c2] <;> rfl)
  have q2 := of_decide_eq_false ‹_›
  refine cv_seq_k fun K hK => ?_
  refine cv_cut (fun _ _ => True) (fun F' L' => F' 1 = G1 1 ∧ F' 7 = G1 7 ∧ F' 26 = .bool (decide (i.op = 22 ∨ i.op = 24 ∨ i.op = 25)) ∧ L' = [iBox b2 i]) ?_ ?_
  · refine cv_seq_k fun K hK => ?_
    refine cv_region_then rfl ?_
    simp -implicitDefEqProofs (disch := first | omega | decide) only [seval, -Int.reducePow, -Nat.reducePow, cC, pv, binv, sFlNext1, undef, g1]
    refine hK _ _ ?_
    clear hK K
    refine cv_cond ?_
    simp -implicitDefEqProofs (disch := first | omega | decide) only [seval, -Int.reducePow, -Nat.reducePow, cC, pv, binv, sFlNext1, undef, g1]
    refine ⟨fun hc => ?_, fun hc => ?_⟩
    · have q3 := of_decide_eq_true ‹_›
      refine cv_skip ?_
      try simp only [blockQ, thenQ]
      simp -implicitDefEqProofs (disch := first | omega | decide) only [seval, -Int.reducePow, -Nat.reducePow, cC, pv, binv, sFlNext1, undef, g1]
      all_goals (repeat' refine And.intro ?_ ?_)
      all_goals (first | with_reducible rfl | (refine congrArg Value.bool ?_; rw [Bool.eq_iff_iff]; (try simp only [decide_eq_true_eq, eq_self, true_and, and_true, false_and, and_false, true_or, or_true, false_or, or_false, not_true_eq_false, not_false_eq_true, true_iff, iff_true, false_iff, iff_false, Bool.false_eq_true, Bool.not_eq_true', Bool.not_eq_true, decide_eq_false_iff_not, Bool.and_eq_true, Bool.or_eq_true]) <;> omega) | (refine congrArg (Value.int _) ?_; omega) | omega)
    have q3 := of_decide_eq_false ‹_›
    refine cv_seq_k fun K hK => ?_
    refine cv_region_then rfl ?_
    simp -implicitDefEqProofs (disch := first | omega | decide) only [seval, -Int.reducePow, -Nat.reducePow, cC, pv, binv, sFlNext1, undef, g1]
    refine hK _ _ ?_
    clear hK K
    refine cv_cond ?_
    simp -implicitDefEqProofs (disch := first | omega | decide) only [seval, -Int.reducePow, -Nat.reducePow, cC, pv, binv, sFlNext1, undef, g1]
    refine ⟨fun hc => ?_, fun hc => ?_⟩
    · have q4 := of_decide_eq_true ‹_›
      refine cv_skip ?_
      try simp only [blockQ, thenQ]
      simp -implicitDefEqProofs (disch := first | omega | decide) only [seval, -Int.reducePow, -Nat.reducePow, cC, pv, binv, sFlNext1, undef, g1]
      all_goals (repeat' refine And.intro ?_ ?_)
      all_goals (first | with_reducible rfl | (refine congrArg Value.bool ?_; rw [Bool.eq_iff_iff]; (try simp only [decide_eq_true_eq, eq_self, true_and, and_true, false_and, and_false, true_or, or_true, false_or, or_false, not_true_eq_false, not_false_eq_true, true_iff, iff_true, false_iff, iff_false, Bool.false_eq_true, Bool.not_eq_true', Bool.not_eq_true, decide_eq_false_iff_not, Bool.and_eq_true, Bool.or_eq_true]) <;> omega) | (refine congrArg (Value.int _) ?_; omega) | omega)
    have q4 := of_decide_eq_false ‹_›
    refine cv_region_q rfl ?_
    simp -implicitDefEqProofs (disch := first | omega | decide) only [seval, -Int.reducePow, -Nat.reducePow, cC, pv, binv, sFlNext1, undef, g1]
    all_goals (repeat' refine And.intro ?_ ?_)
    all_goals (first | with_reducible rfl | (refine congrArg Value.bool ?_; rw [Bool.eq_iff_iff]; (try simp only [decide_eq_true_eq, eq_self, true_and, and_true, false_and, and_false, true_or, or_true, false_or, or_false, not_true_eq_false, not_false_eq_true, true_iff, iff_true, false_iff, iff_false, Bool.false_eq_true, Bool.not_eq_true', Bool.not_eq_true, decide_eq_false_iff_not, Bool.and_eq_true, Bool.or_eq_true]) <;> omega) | (refine congrArg (Value.int _) ?_; omega) | omega)
  intro G2 L' _ hF
  obtain ⟨q1, q7, q26, rfl⟩ := hF
  have g2_1 := q1.trans g1_1
  have g2_7 := q7.trans g1_7
  have g2_26 := q26
  clear q1 q7 q26
  have g2 := And.intro g2_1 (And.intro g2_7 g2_26)
  refine hK _ _ ?_
  clear hK K
  refine cv_cond ?_
  simp -implicitDefEqProofs (disch := first | omega | decide) only [seval, -Int.reducePow, -Nat.reducePow, cC, pv, binv, sFlNext1, undef, g2]
  refine ⟨fun hc => ?_, fun hc => ?_⟩
  · have q3 := of_decide_eq_true ‹_›
    refine cv_seq_k fun K hK => ?_
    refine cv_region_then rfl ?_
    simp -implicitDefEqProofs (disch := first | omega | decide) only [seval, -Int.reducePow, -Nat.reducePow, cC, pv, binv, sFlNext1, undef, g2]
    refine hK _ _ ?_
    clear hK K
    refine cv_ret ⟨_, (by simp -implicitDefEqProofs (disch := first | omega | decide) only [seval, -Int.reducePow, -Nat.reducePow, cC, pv, binv, sFlNext1, undef, g2]; rfl), fun w hw => ?_⟩
    exact ⟨none, 0, 0, rfl, by unfold nxP; rw [if_neg q1, if_neg q2, if_pos q3]; exact ⟨rfl, .inl ⟨rfl, rfl⟩⟩, hw.below⟩
  have q3 := of_decide_eq_false ‹_›
  refine cv_skip ?_
  try simp only [blockQ, thenQ]
  refine hK _ _ ?_
  clear hK K
  refine cv_seq_k fun K hK => ?_
  refine cv_region_then rfl ?_
  simp -implicitDefEqProofs (disch := first | omega | decide) only [seval, -Int.reducePow, -Nat.reducePow, cC, pv, binv, sFlNext1, undef, g2]
  intro b13 hb13 h13
  refine hK _ _ ?_
  clear hK K
  refine cv_ret ⟨_, (by simp -implicitDefEqProofs (disch := first | omega | decide) only [seval, -Int.reducePow, -Nat.reducePow, cC, pv, binv, sFlNext1, undef, g2]; rfl), fun w hw => ?_⟩
  exact rowP_blk hw (by simp) (by omega) (by omega) (by unfold nxP; rw [if_neg q1, if_neg q2, if_neg q3] <;> rfl)
theorem frnext_any (i : Ins) (k : Nat) (W : World) (hk : k ≤ 1024) (ha : i.op = 19 ∨ i.op = 20 → i.arg ≤ 1024) : Calls Try.prog 38 #[insV i, .int .i64 (k : Int)] W (rowP 3 1 (fun v => v) (i64c (nxP i k)) W) := by
  obtain ⟨to, hto⟩ : ∃ to, IntKind.i64.wrap (i.arg : Int) = to := ⟨_, rfl⟩
  have hta : i.op = 19 ∨ i.op = 20 → to = (i.arg : Int) := fun h => by have := ha h; rw [← hto, wrap_in (by omega) (by omega)]
  refine calls_cv (M := []) (n := 50) [.tmp 4] rfl Try.func38 rfl rfl (Nat.le_of_ble_eq_true rfl) (St.nil _ _) ?_
  refine cv_seq_k fun K hK => ?_
  refine cv_region_then rfl ?_
  simp -implicitDefEqProofs (disch := first | omega | decide) only [seval, -Int.reducePow, -Nat.reducePow, cC, pv, binv, sFlNext1, undef]
  intro b2 hb2
  refine hK _ _ ?_
  clear hK K
  refine cv_seq_k fun K hK => ?_
  refine cv_region_then rfl ?_
  simp -implicitDefEqProofs (disch := first | omega | decide) only [seval, -Int.reducePow, -Nat.reducePow, cC, pv, binv, sFlNext1, undef, hto]
  refine hK _ _ ?_
  clear hK K
  refine cv_gen fun G3 hG => ?_
  have g3_1 := congrFun hG 1
  have g3_2 := congrFun hG 2
  have g3_5 := congrFun hG 5
  clear hG
  try simp -implicitDefEqProofs (disch := first | omega | decide) only [seval, -Int.reducePow, -Nat.reducePow, cC, pv, binv, sFlNext1, undef, hto] at g3_1 g3_2 g3_5
  have g3 := And.intro g3_1 (And.intro g3_2 g3_5)
  refine cv_seq_k fun K hK => ?_
  refine cv_block ?_
  refine cv_seq_k fun K hK => ?_
  refine cv_region_then rfl ?_
  simp -implicitDefEqProofs (disch := first | omega | decide) only [seval, -Int.reducePow, -Nat.reducePow, cC, pv, binv, sFlNext1, undef, g3]
  refine hK _ _ ?_
  clear hK K
  refine cv_cond ?_
  simp -implicitDefEqProofs (disch := first | omega | decide) only [seval, -Int.reducePow, -Nat.reducePow, cC, pv, binv, sFlNext1, undef, g3]
  refine ⟨fun hc => ?_, fun hc => ?_⟩
  · have q1 := of_decide_eq_true ‹_›
    have ha' := ha (.inl q1)
    have ht := hta (.inl q1)
    subst ht
    refine cv_seq_k fun K hK => ?_
    refine cv_region_then rfl ?_
    simp -implicitDefEqProofs (disch := first | omega | decide) only [seval, -Int.reducePow, -Nat.reducePow, cC, pv, binv, sFlNext1, undef, g3]
    intro b13 hb13 h13
    refine hK _ _ ?_
    clear hK K
    refine cv_ret ⟨_, (by simp -implicitDefEqProofs (disch := first | omega | decide) only [seval, -Int.reducePow, -Nat.reducePow, cC, pv, binv, sFlNext1, undef, g3]; rfl), fun w hw => ?_⟩
    exact rowP_blk hw (by simp) (by omega) (by omega) (by unfold nxP; rw [if_pos q1] <;> rfl)
  have q1 := of_decide_eq_false ‹_›
  refine cv_seq_k fun K hK => ?_
  refine cv_cut (fun _ _ => True) (fun F' L' => F' 1 = G3 1 ∧ F' 2 = G3 2 ∧ F' 5 = G3 5 ∧ F' 15 = .bool (decide (i.op = 20 ∧ to < (k : Int) + 1)) ∧ L' = [iBox b2 i]) ?_ ?_
  · refine cv_region_then rfl ?_
    simp -implicitDefEqProofs (disch := first | omega | decide) only [seval, -Int.reducePow, -Nat.reducePow, cC, pv, binv, sFlNext1, undef, g3]
    repeat' ((first | refine vcg_cases (fun hg => ?_) (fun hg => ?_) | refine vdg_cases (fun hg => ?_) (fun hg => ?_)) <;> ((try simp only [Bool.not_eq_true', Bool.not_eq_false', decide_eq_true_eq, decide_eq_false_iff_not] at hg); (try simp -implicitDefEqProofs (disch := first | omega | decide) only [seval, -Int.reducePow, -Nat.reducePow, cC, pv, binv, sFlNext1, undef, hg, g3])))
    all_goals (repeat' refine And.intro ?_ ?_)
    all_goals (first | with_reducible rfl | (refine congrArg Value.bool ?_; rw [Bool.eq_iff_iff]; (try simp only [decide_eq_true_eq, eq_self, true_and, and_true, false_and, and_false, true_or, or_true, false_or, or_false, not_true_eq_false, not_false_eq_true, true_iff, iff_true, false_iff, iff_false, Bool.false_eq_true, Bool.not_eq_true', Bool.not_eq_true, decide_eq_false_iff_not, Bool.and_eq_true, Bool.or_eq_true]) <;> omega) | (refine congrArg (Value.int _) ?_; omega) | omega)
  intro G4 L' _ hF
  obtain ⟨q1, q2, q5, q15, rfl⟩ := hF
  have g4_1 := q1.trans g3_1
  have g4_2 := q2.trans g3_2
  have g4_5 := q5.trans g3_5
  have g4_15 := q15
  clear q1 q2 q5 q15
  have g4 := And.intro g4_1 (And.intro g4_2 (And.intro g4_5 g4_15))
  refine hK _ _ ?_
  clear hK K
  refine cv_cond ?_
  simp -implicitDefEqProofs (disch := first | omega | decide) only [seval, -Int.reducePow, -Nat.reducePow, cC, pv, binv, sFlNext1, undef, g4]
  refine ⟨fun hc => ?_, fun hc => ?_⟩
  · obtain ⟨q2, q3⟩ := of_decide_eq_true ‹_›
    have ha' := ha (.inr q2)
    have ht := hta (.inr q2)
    subst ht
    refine cv_seq_k fun K hK => ?_
    refine cv_region_then rfl ?_
    simp -implicitDefEqProofs (disch := first | omega | decide) only [seval, -Int.reducePow, -Nat.reducePow, cC, pv, binv, sFlNext1, undef, g4]
    intro b13 hb13 h13
    refine hK _ _ ?_
    clear hK K
    refine cv_ret ⟨_, (by simp -implicitDefEqProofs (disch := first | omega | decide) only [seval, -Int.reducePow, -Nat.reducePow, cC, pv, binv, sFlNext1, undef, g4]; rfl), fun w hw => ?_⟩
    exact rowP_blk hw (by simp) (by omega) (by omega) (by unfold nxP; rw [if_neg q1, if_pos q2, if_pos (by omega)] <;> rfl)
  have n2 := of_decide_eq_false ‹_›
  refine cv_seq_k fun K hK => ?_
  refine cv_cut (fun _ _ => True) (fun F' L' => F' 1 = G4 1 ∧ F' 2 = G4 2 ∧ F' 5 = G4 5 ∧ F' 29 = .bool (decide (i.op = 20 ∧ (k : Int) + 1 < to)) ∧ L' = [iBox b2 i]) ?_ ?_
  · refine cv_region_then rfl ?_
    simp -implicitDefEqProofs (disch := first | omega | decide) only [seval, -Int.reducePow, -Nat.reducePow, cC, pv, binv, sFlNext1, undef, g4]
    repeat' ((first | refine vcg_cases (fun hg => ?_) (fun hg => ?_) | refine vdg_cases (fun hg => ?_) (fun hg => ?_)) <;> ((try simp only [Bool.not_eq_true', Bool.not_eq_false', decide_eq_true_eq, decide_eq_false_iff_not] at hg); (try simp -implicitDefEqProofs (disch := first | omega | decide) only [seval, -Int.reducePow, -Nat.reducePow, cC, pv, binv, sFlNext1, undef, hg, g4])))
    all_goals (repeat' refine And.intro ?_ ?_)
    all_goals (first | with_reducible rfl | (refine congrArg Value.bool ?_; rw [Bool.eq_iff_iff]; (try simp only [decide_eq_true_eq, eq_self, true_and, and_true, false_and, and_false, true_or, or_true, false_or, or_false, not_true_eq_false, not_false_eq_true, true_iff, iff_true, false_iff, iff_false, Bool.false_eq_true, Bool.not_eq_true', Bool.not_eq_true, decide_eq_false_iff_not, Bool.and_eq_true, Bool.or_eq_true]) <;> omega) | (refine congrArg (Value.int _) ?_; omega) | omega)
  intro G5 L' _ hF
  obtain ⟨q1, q2, q5, q29, rfl⟩ := hF
  have g5_1 := q1.trans g4_1
  have g5_2 := q2.trans g4_2
  have g5_5 := q5.trans g4_5
  have g5_29 := q29
  clear q1 q2 q5 q29
  have g5 := And.intro g5_1 (And.intro g5_2 (And.intro g5_5 g5_29))
  refine hK _ _ ?_
  clear hK K
  refine cv_cond ?_
  simp -implicitDefEqProofs (disch := first | omega | decide) only [seval, -Int.reducePow, -Nat.reducePow, cC, pv, binv, sFlNext1, undef, g5]
  refine ⟨fun hc => ?_, fun hc => ?_⟩
  · obtain ⟨q2, q3⟩ := of_decide_eq_true ‹_›
    have ha' := ha (.inr q2)
    have ht := hta (.inr q2)
    subst ht
    refine cv_seq_k fun K hK => ?_
    refine cv_region_then rfl ?_
    simp -implicitDefEqProofs (disch := first | omega | decide) only [seval, -Int.reducePow, -Nat.reducePow, cC, pv, binv, sFlNext1, undef, g5]
    intro b13 hb13 h13
    refine hK _ _ ?_
    clear hK K
    refine cv_ret ⟨_, (by simp -implicitDefEqProofs (disch := first | omega | decide) only [seval, -Int.reducePow, -Nat.reducePow, cC, pv, binv, sFlNext1, undef, g5]; rfl), fun w hw => ?_⟩
    exact rowP_blk hw (by simp) (by omega) (by omega) (by unfold nxP; rw [if_neg q1, if_pos q2, if_neg (by omega), if_pos (by omega)] <;> rfl)
  have n3 := of_decide_eq_false ‹_›
  refine cv_seq_k fun K hK => ?_
  refine cv_region_then rfl ?_
  simp -implicitDefEqProofs (disch := first | omega | decide) only [seval, -Int.reducePow, -Nat.reducePow, cC, pv, binv, sFlNext1, undef, g5]
  refine callV_ret (fun w hw => r_ends_any i.op w) ?_
  try simp -implicitDefEqProofs (disch := first | omega | decide) only [seval, -Int.reducePow, -Nat.reducePow, cC, pv, binv, sFlNext1, undef, g5]
  refine hK _ _ ?_
  clear hK K
  refine cv_cond ?_
  simp -implicitDefEqProofs (disch := first | omega | decide) only [seval, -Int.reducePow, -Nat.reducePow, cC, pv, binv, sFlNext1, undef, g5]
  refine ⟨fun hc => ?_, fun hc => ?_⟩
  · have q4 : endsP i.op := of_decide_eq_true ‹_›
    refine cv_seq_k fun K hK => ?_
    refine cv_region_then rfl ?_
    simp -implicitDefEqProofs (disch := first | omega | decide) only [seval, -Int.reducePow, -Nat.reducePow, cC, pv, binv, sFlNext1, undef, g5]
    refine hK _ _ ?_
    clear hK K
    refine cv_ret ⟨_, (by simp -implicitDefEqProofs (disch := first | omega | decide) only [seval, -Int.reducePow, -Nat.reducePow, cC, pv, binv, sFlNext1, undef, g5]; rfl), fun w hw => ?_⟩
    exact ⟨none, 0, 0, rfl, by unfold endsP at q4; unfold nxP; rw [if_neg q1, if_neg (by omega), if_pos (by omega)]; exact ⟨rfl, .inl ⟨rfl, rfl⟩⟩, hw.below⟩
  have q4 : ¬ endsP i.op := of_decide_eq_false ‹_›
  refine cv_skip ?_
  try simp only [blockQ, thenQ]
  refine hK _ _ ?_
  clear hK K
  refine cv_seq_k fun K hK => ?_
  refine cv_region_then rfl ?_
  simp -implicitDefEqProofs (disch := first | omega | decide) only [seval, -Int.reducePow, -Nat.reducePow, cC, pv, binv, sFlNext1, undef, g5]
  intro b13 hb13 h13
  refine hK _ _ ?_
  clear hK K
  refine cv_ret ⟨_, (by simp -implicitDefEqProofs (disch := first | omega | decide) only [seval, -Int.reducePow, -Nat.reducePow, cC, pv, binv, sFlNext1, undef, g5]; rfl), fun w hw => ?_⟩
  refine rowP_blk hw (by simp) (by omega) (by omega) ?_
  unfold endsP at q4
  by_cases q2 : i.op = 20
  · have ht := hta (.inr q2)
    unfold nxP
    rw [if_neg q1, if_pos q2, if_neg (by omega), if_neg (by omega)] <;> rfl
  · unfold nxP
    rw [if_neg q1, if_neg q2, if_neg (by omega)] <;> rfl
end Go.Proofs.Ytlbmnioibiomfaa
