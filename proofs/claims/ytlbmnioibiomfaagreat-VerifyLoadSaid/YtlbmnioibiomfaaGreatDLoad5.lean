/- typecode.Decode. -/
import Derived.Test.YtlbmnioibiomfaaGreatDLoad4
import Derived.Test.YtlbmnioibiomfaaGreatDLoad1
namespace Go.Proofs.YtlbmnioibiomfaaGreat
open Go.RowKit Go.Shelf
set_option linter.unusedVariables false
set_option linter.unusedSimpArgs false
set_option maxRecDepth 100000
def rdBox (r : Nat) (A : Option Addr) (n c used : Nat) (err : Int) : Res := .blk r 151 [.slice A n c, .int .i64 (used : Int), .int .i64 err]
def rdCells (A : Option Addr) (n c used : Nat) (err : Int) : List Value := [.slice A n c, .int .i64 (used : Int), .int .i64 err]
set_option maxRecDepth 100000 in
theorem sDec1 : type_of% (And.intro (And.intro (And.intro @fBox.eq_1 @tBox.eq_1) (And.intro @fdV.eq_1 @tyV.eq_1)) (And.intro (And.intro @rdBox.eq_1 @rdCells.eq_1) (And.intro @uV.eq_1 @Nat.mul_one))) := (And.intro (And.intro (And.intro @fBox.eq_1 @tBox.eq_1) (And.intro @fdV.eq_1 @tyV.eq_1)) (And.intro (And.intro @rdBox.eq_1 @rdCells.eq_1) (And.intro @uV.eq_1 @Nat.mul_one)))
set_option maxHeartbeats 2000000 in
theorem number_any (r : Nat) (A : Option Addr) (n c : Nat) (l : List Nat) (used most : Nat) (err : Int) (W : World) (hW : W.heap[r]? = some (.cells (rdCells A n c used err).toArray 151 (0, 0))) (hE : Sl W W.heap.size 1 A n c (byt l)) (ha : 0 < n → Apt A [r]) (hb : ∀ x ∈ l, x < 256) (hu : used ≤ n) (hn : n ≤ 4611686018427387904) (hm : most ≤ 1000000) :
    Calls Tryz.prog 94 #[.pointer (some ⟨r, 0, none⟩), .int .u64 (most : Int)] W (modP r 151 (.int .i64 ((numF l used err most).1 : Int)) (rdCells A n c (numF l used err most).2.1 (numF l used err most).2.2) W) := by
  have hln : l.length = n := byt_row hE.len
  have hcap := hE.cap
  have hmax := hE.max
  refine calls_cv (M := [r]) (n := 50) [.tmp 4] rfl Tryz.func94 rfl rfl (Nat.le_of_ble_eq_true rfl)  (St.one hW) ?_
  refine cv_seq_k fun K hK => ?_
  refine cv_region_then rfl ?_
  simp -implicitDefEqProofs (disch := first | omega | decide) only [seval, -Int.reducePow, -Nat.reducePow, cC, pv, binv, sDec1, undef]
  refine hK _ _ ?_
  clear hK K
  refine cv_seq_k fun K hK => ?_
  refine cv_seq_k fun K hK => ?_
  refine cv_region_then rfl ?_
  simp -implicitDefEqProofs (disch := first | omega | decide) only [seval, -Int.reducePow, -Nat.reducePow, cC, pv, binv, sDec1, undef]
  refine hK _ _ ?_
  clear hK K
  refine cv_cond ?_
  simp -implicitDefEqProofs (disch := first | omega | decide) only [seval, -Int.reducePow, -Nat.reducePow, cC, pv, binv, sDec1, undef]
  refine ⟨fun hc => ?_, fun hc => ?_⟩
  · have he : ¬ err = 0 := by simpa using hc
    have hF : numF l used err most = (0, used, err) := by unfold numF; rw [if_neg he]
    refine cv_seq_k fun K hK => ?_
    refine cv_region_then rfl ?_
    simp -implicitDefEqProofs (disch := first | omega | decide) only [seval, -Int.reducePow, -Nat.reducePow, cC, pv, binv, sDec1, undef]
    refine hK _ _ ?_
    clear hK K
    refine cv_ret ⟨_, (by simp -implicitDefEqProofs (disch := first | omega | decide) only [seval, -Int.reducePow, -Nat.reducePow, cC, pv, binv, sDec1, undef]; rfl), fun w hw => ?_⟩
    rw [hF]
    exact ⟨rfl, hw.hold 0 rfl, hw.pres⟩
  have he : err = 0 := by simpa using hc
  subst he
  refine cv_skip ?_
  try simp only [blockQ, thenQ]
  refine hK _ _ ?_
  clear hK K
  have hbd := drop_byte hb used
  obtain ⟨q, hq⟩ : ∃ q, uD 0 (l.drop used) = q := ⟨_, rfl⟩
  have hqc := uD_cases (l.drop used) 0 (by omega) hbd
  rw [hq, List.length_drop, hln] at hqc
  refine cv_seq_k fun K hK => ?_
  refine cv_draw [(true, 0), (true, 1), (true, 2), (true, 3), (true, 4), (true, 5), (true, 6), (true, 7), (true, 8), (false, 9), (true, 10), (true, 11), (true, 12), (true, 13), (true, 14), (true, 15), (true, 16)] [] mixA rfl (by kernel_rfl) (by kernel_rfl) rfl rfl ?_
  simp -implicitDefEqProofs (disch := first | omega | decide) only [seval, -Int.reducePow, -Nat.reducePow, cC, pv, binv, sDec1, undef]
  refine callV_ret (fun w hw => uint_any (sbase c used 1 A) (n - used) (c - used) (l.drop used) w ((hE.atM' hw ha).bdrop hu) hbd) ?_
  try simp -implicitDefEqProofs (disch := first | omega | decide) only [seval, -Int.reducePow, -Nat.reducePow, cC, pv, binv, sDec1, undef, hq]
  refine hK _ _ ?_
  clear hK K
  refine cv_gen fun G1 hG => ?_
  have g1_0 := congrFun hG 0
  have g1_1 := congrFun hG 1
  have g1_5 := congrFun hG 5
  have g1_6 := congrFun hG 6
  have g1_7 := congrFun hG 7
  clear hG
  try simp -implicitDefEqProofs (disch := first | omega | decide) only [seval, -Int.reducePow, -Nat.reducePow, cC, pv, binv, sDec1, undef, hq] at g1_0 g1_1 g1_5 g1_6 g1_7
  have g1 := And.intro g1_0 (And.intro g1_1 (And.intro g1_5 (And.intro g1_6 g1_7)))
  obtain ⟨e', he'⟩ : ∃ e', (if q.2.2 = 0 then (if most < q.1 then 4 else 0) else q.2.2 : Int) = e' := ⟨_, rfl⟩
  refine cv_seq_k fun K hK => ?_
  refine cv_cut (fun _ _ => True) (fun F' L' => F' 0 = G1 0 ∧ F' 5 = G1 5 ∧ F' 6 = G1 6 ∧ F' 7 = .int .i64 e' ∧ L' = [rdBox r A n c used 0]) ?_ ?_
  · by_cases h0 : q.2.2 = 0
    · rw [if_pos h0] at he'
      by_cases hm1 : most < q.1
      · have hm' : (most : Int) < (q.1 : Int) := by omega
        rw [if_pos hm1] at he'
        refine cv_seq_k fun K hK => ?_
        refine cv_region_then rfl ?_
        simp -implicitDefEqProofs (disch := first | omega | decide) only [seval, -Int.reducePow, -Nat.reducePow, cC, pv, binv, sDec1, undef, h0, hm', g1]
        refine hK _ _ ?_
        clear hK K
        refine cv_cond ?_
        simp -implicitDefEqProofs (disch := first | omega | decide) only [seval, -Int.reducePow, -Nat.reducePow, cC, pv, binv, sDec1, undef, g1]
        refine cv_region_q rfl ?_
        simp -implicitDefEqProofs (disch := first | omega | decide) only [seval, -Int.reducePow, -Nat.reducePow, cC, pv, binv, sDec1, undef, g1]
        all_goals (first | (simp [← he']; done) | (simp [← he']; omega))
      · have hm' : ¬ (most : Int) < (q.1 : Int) := by omega
        rw [if_neg hm1] at he'
        refine cv_seq_k fun K hK => ?_
        refine cv_region_then rfl ?_
        simp -implicitDefEqProofs (disch := first | omega | decide) only [seval, -Int.reducePow, -Nat.reducePow, cC, pv, binv, sDec1, undef, h0, hm', g1]
        refine hK _ _ ?_
        clear hK K
        refine cv_cond ?_
        simp -implicitDefEqProofs (disch := first | omega | decide) only [seval, -Int.reducePow, -Nat.reducePow, cC, pv, binv, sDec1, undef, g1]
        refine cv_skip ?_
        try simp only [blockQ, thenQ]
        simp -implicitDefEqProofs (disch := first | omega | decide) only [seval, -Int.reducePow, -Nat.reducePow, cC, pv, binv, sDec1, undef, g1]
        rw [← he', h0]
    · rw [if_neg h0] at he'
      refine cv_seq_k fun K hK => ?_
      refine cv_region_then rfl ?_
      simp -implicitDefEqProofs (disch := first | omega | decide) only [seval, -Int.reducePow, -Nat.reducePow, cC, pv, binv, sDec1, undef, h0, g1]
      refine hK _ _ ?_
      clear hK K
      refine cv_cond ?_
      simp -implicitDefEqProofs (disch := first | omega | decide) only [seval, -Int.reducePow, -Nat.reducePow, cC, pv, binv, sDec1, undef, g1]
      refine cv_skip ?_
      try simp only [blockQ, thenQ]
      simp -implicitDefEqProofs (disch := first | omega | decide) only [seval, -Int.reducePow, -Nat.reducePow, cC, pv, binv, sDec1, undef, g1]
      rw [← he']
  intro G2 L' _ hF
  obtain ⟨q0, q5, q6, q7, rfl⟩ := hF
  have g2_0 := q0.trans g1_0
  have g2_5 := q5.trans g1_5
  have g2_6 := q6.trans g1_6
  have g2_7 := q7
  clear q0 q5 q6 q7
  have g2 := And.intro g2_0 (And.intro g2_5 (And.intro g2_6 g2_7))
  refine hK _ _ ?_
  clear hK K
  refine cv_seq_k fun K hK => ?_
  refine cv_seq_k fun K hK => ?_
  refine cv_region_then rfl ?_
  simp -implicitDefEqProofs (disch := first | omega | decide) only [seval, -Int.reducePow, -Nat.reducePow, cC, pv, binv, sDec1, undef, g2]
  refine hK _ _ ?_
  clear hK K
  refine cv_cond ?_
  simp -implicitDefEqProofs (disch := first | omega | decide) only [seval, -Int.reducePow, -Nat.reducePow, cC, pv, binv, sDec1, undef, g2]
  refine ⟨fun hc => ?_, fun hc => ?_⟩
  · have h1 : ¬ e' = 0 := by simpa using hc
    have hS : smF l used most = (0, 0, e') := by
      unfold smF
      rw [hq]
      by_cases h0 : q.2.2 = 0
      · rw [if_pos h0] at he' ⊢
        by_cases hm1 : most < q.1
        · rw [if_pos hm1] at he' ⊢; rw [← he']
        · rw [if_neg hm1] at he'; exact absurd he'.symm h1
      · rw [if_neg h0] at he' ⊢; rw [← he']
    have hF : numF l used 0 most = (0, used, e') := by unfold numF; rw [if_pos rfl, hS, if_neg h1]
    refine cv_seq_k fun K hK => ?_
    refine cv_region_then rfl ?_
    simp -implicitDefEqProofs (disch := first | omega | decide) only [seval, -Int.reducePow, -Nat.reducePow, cC, pv, binv, sDec1, undef, g2]
    refine hK _ _ ?_
    clear hK K
    refine cv_seq_k fun K hK => ?_
    refine cv_region_then rfl ?_
    simp -implicitDefEqProofs (disch := first | omega | decide) only [seval, -Int.reducePow, -Nat.reducePow, cC, pv, binv, sDec1, undef, g2]
    refine hK _ _ ?_
    clear hK K
    refine cv_ret ⟨_, (by simp -implicitDefEqProofs (disch := first | omega | decide) only [seval, -Int.reducePow, -Nat.reducePow, cC, pv, binv, sDec1, undef, g2]; rfl), fun w hw => ?_⟩
    rw [hF]
    exact ⟨rfl, hw.hold 0 rfl, hw.pres⟩
  have h1 : e' = 0 := by simpa using hc
  have h0 : q.2.2 = 0 := by
    by_cases h0 : q.2.2 = 0
    · exact h0
    · rw [if_neg h0] at he'; omega
  have hm1 : q.1 ≤ most := by
    rw [if_pos h0] at he'
    by_cases hm1 : most < q.1
    · rw [if_pos hm1] at he'; omega
    · omega
  have hS : smF l used most = (q.1, used + q.2.1, 0) := by
    unfold smF
    rw [hq, if_pos h0, if_neg (by omega)]
  have hF : numF l used 0 most = (q.1, used + q.2.1, 0) := by unfold numF; rw [if_pos rfl, hS, if_pos rfl]
  have hql : used + q.2.1 ≤ n := by
    rcases hqc with h | h
    · omega
    · have := h.2.2.2.2.1; omega
  have e9 : IntKind.i64.wrap ((used : Int) + (q.2.1 : Int)) = ((used + q.2.1 : Nat) : Int) := by rw [wrap_in (by omega) (by omega)]; omega
  refine cv_skip ?_
  try simp only [blockQ, thenQ]
  refine hK _ _ ?_
  clear hK K
  refine cv_seq_k fun K hK => ?_
  refine cv_region_then rfl ?_
  simp -implicitDefEqProofs (disch := first | omega | decide) only [seval, -Int.reducePow, -Nat.reducePow, cC, pv, binv, sDec1, undef, e9, g2]
  refine hK _ _ ?_
  clear hK K
  refine cv_seq_k fun K hK => ?_
  refine cv_region_then rfl ?_
  simp -implicitDefEqProofs (disch := first | omega | decide) only [seval, -Int.reducePow, -Nat.reducePow, cC, pv, binv, sDec1, undef, wrap_in, g2]
  refine hK _ _ ?_
  clear hK K
  refine cv_ret ⟨_, (by simp -implicitDefEqProofs (disch := first | omega | decide) only [seval, -Int.reducePow, -Nat.reducePow, cC, pv, binv, sDec1, undef, g2]; rfl), fun w hw => ?_⟩
  rw [hF]
  exact ⟨rfl, hw.hold 0 rfl, hw.pres⟩
/-- The result of Decode. -/
def decV (d : Int × List Fd × Nat × Int) (v : Value) : Value := .tuple #[.agg #[.int .i64 d.1, v], .int .i64 (d.2.2.1 : Int), .int .i64 d.2.2.2]
set_option maxRecDepth 100000 in
theorem sDec2 : type_of% (And.intro (And.intro (And.intro @fBox.eq_1 @tBox.eq_1) (And.intro @fdV.eq_1 @tyV.eq_1)) (And.intro (And.intro @rdBox.eq_1 @rdCells.eq_1) (And.intro @uV.eq_1 (And.intro @Nat.mul_one @decV.eq_1)))) := (And.intro (And.intro (And.intro @fBox.eq_1 @tBox.eq_1) (And.intro @fdV.eq_1 @tyV.eq_1)) (And.intro (And.intro @rdBox.eq_1 @rdCells.eq_1) (And.intro @uV.eq_1 (And.intro @Nat.mul_one @decV.eq_1))))
set_option maxHeartbeats 4000000 in
theorem decode_any (A : Option Addr) (n c : Nat) (l : List Nat) (W : World) (hE : Sl W W.heap.size 1 A n c (byt l)) (hb : ∀ x ∈ l, x < 256) (hn : n ≤ 4611686018427387904) :
    Calls Tryz.prog 72 #[.slice A n c] W (rowP 89 2 (decV (decF l)) (cl fdc (decF l).2.1) W) := by
  have hln : l.length = n := byt_row hE.len
  obtain ⟨q1, h1⟩ : ∃ q, numF l 0 0 65536 = q := ⟨_, rfl⟩
  obtain ⟨q2, h2⟩ : ∃ q, numF l q1.2.1 q1.2.2 32 = q := ⟨_, rfl⟩
  have k1 := numF_le hb (l := l) (used := 0) (most := 65536) (err := 0) (by omega)
  rw [h1] at k1
  have k2 := numF_le hb (most := 32) (err := q1.2.2) k1.2
  rw [h2] at k2
  refine calls_cv2 (M := []) (n := 56) [.cell 2 67, .tmp 3, .tmp 4] rfl Tryz.func72 rfl rfl (Nat.le_of_ble_eq_true rfl) (St.nil _ _) ?_
  refine cv_seq_k fun K hK => ?_
  refine cv_region_then rfl ?_
  simp -implicitDefEqProofs (disch := first | omega | decide) only [seval, -Int.reducePow, -Nat.reducePow, cC, pv, binv, sDec2, undef]
  intro b2 hb2
  refine hK _ _ ?_
  clear hK K
  refine cv_seq_k fun K hK => ?_
  refine cv_region_then rfl ?_
  simp -implicitDefEqProofs (disch := first | omega | decide) only [seval, -Int.reducePow, -Nat.reducePow, cC, pv, binv, sDec2, undef]
  intro b5 hb5 h5
  refine hK _ _ ?_
  clear hK K
  have ha : 0 < n → Apt A [b5] := fun h0 => Apt.of_below hE h0 (by simp; omega)
  refine cv_seq_k fun K hK => ?_
  refine cv_region_then rfl ?_
  simp -implicitDefEqProofs (disch := first | omega | decide) only [seval, -Int.reducePow, -Nat.reducePow, cC, pv, binv, sDec2, undef]
  refine callV_mod1 0 (fun w hw => number_any b5 A n c l 0 65536 0 w (hw.hold 0 rfl) (hE.at hw) ha hb (by omega) hn (by omega)) rfl ?_
  try simp -implicitDefEqProofs (disch := first | omega | decide) only [seval, -Int.reducePow, -Nat.reducePow, cC, pv, binv, sDec2, undef, h1]
  intro b6 hb6 h6
  refine hK _ _ ?_
  clear hK K
  refine cv_seq_k fun K hK => ?_
  refine cv_seq_k fun K hK => ?_
  refine cv_region_then rfl ?_
  simp -implicitDefEqProofs (disch := first | omega | decide) only [seval, -Int.reducePow, -Nat.reducePow, cC, pv, binv, sDec2, undef]
  refine callV_mod1 1 (fun w hw => number_any b5 A n c l q1.2.1 32 q1.2.2 w (hw.hold 1 rfl) (hE.at hw) ha hb (by omega) hn (by omega)) rfl ?_
  try simp -implicitDefEqProofs (disch := first | omega | decide) only [seval, -Int.reducePow, -Nat.reducePow, cC, pv, binv, sDec2, undef, h2]
  refine hK _ _ ?_
  clear hK K
  refine cv_gen fun G3 hG => ?_
  have g3_2 := congrFun hG 2
  have g3_5 := congrFun hG 5
  have g3_6 := congrFun hG 6
  have g3_15 := congrFun hG 15
  have g3_16 := congrFun hG 16
  clear hG
  try simp -implicitDefEqProofs (disch := first | omega | decide) only [seval, -Int.reducePow, -Nat.reducePow, cC, pv, binv, sDec2, undef] at g3_2 g3_5 g3_6 g3_15 g3_16
  have g3 := And.intro g3_2 (And.intro g3_5 (And.intro g3_6 (And.intro g3_15 g3_16)))
  refine cv_block ?_
  refine cv_nil 89 2 ?_
  refine cv_loop (fun F' L' => ∃ (j used c6 : Nat) (err : Int) (A6 : Option Addr) (gs : List Fd), F' 2 = G3 2 ∧ F' 5 = G3 5 ∧ F' 6 = G3 6 ∧ F' 15 = G3 15 ∧ F' 16 = .int .i64 (j : Int) ∧ L' = [.row (.slice A6 j c6) 89 2 j (cl fdc gs), tBox b6 (q1.1 : Int) A6 j c6, rdBox b5 A n c used err, tBox b2 0 none 0 0] ∧ ((¬ q2.2.2 = 0 ∧ j = 0 ∧ gs = [] ∧ err = q2.2.2 ∧ used = q2.2.1 ∧ q2.1 = 0) ∨ (q2.2.2 = 0 ∧ rInv l q2.1 q2.2.1 j gs used err))) (fun F' L' => 40 - (intOf (F' 16)).toNat) ?_ ?_
  · refine ⟨0, q2.2.1, 0, q2.2.2, none, [], ?_⟩
    simp -implicitDefEqProofs (disch := first | omega | decide) only [seval, -Int.reducePow, -Nat.reducePow, cC, pv, binv, sDec2, undef, g3]
    refine ⟨rfl, ?_⟩
    by_cases hz : q2.2.2 = 0
    · exact .inr ⟨hz, by rw [hz]; exact rInv_start k2.2⟩
    · exact .inl ⟨hz, by rw [← h2] at hz ⊢; exact numF_err hb k1.2 hz⟩
  intro G4 L' hI
  obtain ⟨j, used, c6, err, A6, gs, q2, q5, q6, q15, q16, rfl, hI⟩ := hI
  have g4_2 := q2.trans g3_2
  have g4_5 := q5.trans g3_5
  have g4_6 := q6.trans g3_6
  have g4_15 := q15.trans g3_15
  have g4_16 := q16
  clear q2 q5 q6 q15 q16
  have g4 := And.intro g4_2 (And.intro g4_5 (And.intro g4_6 (And.intro g4_15 g4_16)))
  refine cv_seq_k fun K hK => ?_
  refine cv_region_then rfl ?_
  simp -implicitDefEqProofs (disch := first | omega | decide) only [seval, -Int.reducePow, -Nat.reducePow, cC, pv, binv, sDec2, undef, g3, g4]
  refine hK _ _ ?_
  clear hK K
  refine cv_seq_k fun K hK => ?_
  refine cv_cond ?_
  simp -implicitDefEqProofs (disch := first | omega | decide) only [seval, -Int.reducePow, -Nat.reducePow, cC, pv, binv, sDec2, undef, g3, g4]
  refine ⟨fun hc => ?_, fun hc => ?_⟩
  · refine cv_skip ?_
    try simp only [blockQ, thenQ]
    have hj : j < q2.1 := by have := of_decide_eq_true hc; omega
    have hI : q2.2.2 = 0 ∧ rInv l q2.1 q2.2.1 j gs used err := by
      rcases hI with h | h
      · omega
      · exact h
    obtain ⟨hz, hI⟩ := hI
    have hu := hI.2.2.1
    obtain ⟨s1, e1⟩ : ∃ q, numF l used err 65536 = q := ⟨_, rfl⟩
    obtain ⟨s2, e2⟩ : ∃ q, numF l s1.2.1 s1.2.2 65536 = q := ⟨_, rfl⟩
    have m1 := numF_le hb (most := 65536) (err := err) hu
    rw [e1] at m1
    have hI2 := rInv_step hb hI hj e1.symm e2.symm
    refine hK _ _ ?_
    clear hK K
    refine cv_seq_k fun K hK => ?_
    refine cv_block ?_
    refine cv_seq_k fun K hK => ?_
    refine cv_region_then rfl ?_
    simp -implicitDefEqProofs (disch := first | omega | decide) only [seval, -Int.reducePow, -Nat.reducePow, cC, pv, binv, sDec2, undef, g3, g4]
    refine callV_mod1 2 (fun w hw => number_any b5 A n c l used 65536 err w (hw.hold 2 rfl) (hE.at hw) ha hb (by omega) hn (by omega)) rfl ?_
    try simp -implicitDefEqProofs (disch := first | omega | decide) only [seval, -Int.reducePow, -Nat.reducePow, cC, pv, binv, sDec2, undef, e1, g3, g4]
    intro b7 hb7 h7
    refine hK _ _ ?_
    clear hK K
    refine cv_seq_k fun K hK => ?_
    refine cv_region_then rfl ?_
    simp -implicitDefEqProofs (disch := first | omega | decide) only [seval, -Int.reducePow, -Nat.reducePow, cC, pv, binv, sDec2, undef, g3, g4]
    refine callV_mod1 3 (fun w hw => number_any b5 A n c l s1.2.1 65536 s1.2.2 w (hw.hold 3 rfl) (hE.at hw) ha hb (by omega) hn (by omega)) rfl ?_
    try simp -implicitDefEqProofs (disch := first | omega | decide) only [seval, -Int.reducePow, -Nat.reducePow, cC, pv, binv, sDec2, undef, e2, g3, g4]
    refine hK _ _ ?_
    clear hK K
    refine cv_region_q rfl ?_
    simp -implicitDefEqProofs (disch := first | omega | decide) only [seval, -Int.reducePow, -Nat.reducePow, cC, pv, binv, sDec2, undef, g3, g4]
    intro b8 hb8 h8
    refine appV_at 2 tap65 rfl (fun w hw => src_blk (size := 2) (.head _) rfl hw) rfl (by omega) (by omega) ?_
    intro A' c' hl' hr'
    simp -implicitDefEqProofs (disch := first | omega | decide) only [seval, -Int.reducePow, -Nat.reducePow, cC, pv, binv, sDec2, undef, g3, g4]
    refine hK _ _ ?_
    clear hK K
    refine cv_pick [0, 3, 4, 5] (by decide) ?_
    simp only [pickL, nth]
    refine cv_region_then rfl ?_
    simp -implicitDefEqProofs (disch := first | omega | decide) only [seval, -Int.reducePow, -Nat.reducePow, cC, pv, binv, sDec2, undef, wrap_in, g3, g4]
    refine ⟨⟨j + 1, s2.2.1, c', s2.2.2, A', gs ++ [⟨(s1.1 : Int), (s2.1 : Int)⟩], ?_⟩, ?_⟩
    · simp -implicitDefEqProofs (disch := first | omega | decide) only [seval, -Int.reducePow, -Nat.reducePow, cC, pv, binv, sDec2, undef, Int.natCast_add, cl_snoc, fdc, g3, g4]
      exact .inr ⟨hz, hI2⟩
    · simp only [intOf]; omega
  refine cv_exit ?_
  simp only [blockQ, thenQ, if_true, ite_true]
  clear hK K
  refine hK _ _ ?_
  clear hK K
  have hj : ¬ j < q2.1 := by have := of_decide_eq_false hc; omega
  obtain ⟨d1, d2⟩ := dec_end hb h1 h2 hI hj
  have hj40 : j ≤ 40 := by
    rcases hI with h | h
    · omega
    · have := h.2.1; omega
  refine cv_gen fun G5 hG => ?_
  have g5_2 := congrFun hG 2
  have g5_5 := congrFun hG 5
  have g5_6 := congrFun hG 6
  clear hG
  try simp -implicitDefEqProofs (disch := first | omega | decide) only [seval, -Int.reducePow, -Nat.reducePow, cC, pv, binv, sDec2, undef, g3, g4] at g5_2 g5_5 g5_6
  have g5 := And.intro g5_2 (And.intro g5_5 g5_6)
  refine cv_seq_k fun K hK => ?_
  refine cv_cut (fun _ _ => True) (fun F' L' => ∃ (e3 : Int), F' 2 = G5 2 ∧ F' 5 = G5 5 ∧ F' 6 = G5 6 ∧ L' = [.row (.slice A6 j c6) 89 2 j (cl fdc gs), tBox b6 (q1.1 : Int) A6 j c6, rdBox b5 A n c used e3, tBox b2 0 none 0 0] ∧ e3 = (if err = 0 then chk (q1.1 : Int) gs else err)) ?_ ?_
  · refine cv_seq_k fun K hK => ?_
    refine cv_region_then rfl ?_
    simp -implicitDefEqProofs (disch := first | omega | decide) only [seval, -Int.reducePow, -Nat.reducePow, cC, pv, binv, sDec2, undef, g3, g4, g5]
    refine hK _ _ ?_
    clear hK K
    refine cv_cond ?_
    simp -implicitDefEqProofs (disch := first | omega | decide) only [seval, -Int.reducePow, -Nat.reducePow, cC, pv, binv, sDec2, undef, g3, g4, g5]
    refine ⟨fun hc => ?_, fun hc => ?_⟩
    · have he : err = 0 := of_decide_eq_true ‹_›
      refine cv_region_q rfl ?_
      simp -implicitDefEqProofs (disch := first | omega | decide) only [seval, -Int.reducePow, -Nat.reducePow, cC, pv, binv, sDec2, undef, g3, g4, g5]
      refine callV_ret (fun w hw => check_any A6 j c6 gs (q1.1 : Int) w (hw.slr 0 rfl)) ?_
      try simp -implicitDefEqProofs (disch := first | omega | decide) only [seval, -Int.reducePow, -Nat.reducePow, cC, pv, binv, sDec2, undef, g3, g4, g5]
      exact ⟨_, rfl, by rw [if_pos he]⟩
    · have he : ¬ err = 0 := of_decide_eq_false ‹_›
      refine cv_skip ?_
      try simp only [blockQ, thenQ]
      simp -implicitDefEqProofs (disch := first | omega | decide) only [seval, -Int.reducePow, -Nat.reducePow, cC, pv, binv, sDec2, undef, g3, g4, g5]
      exact ⟨_, rfl, by rw [if_neg he]⟩
  intro G6 L' _ hF
  obtain ⟨e3, q2, q5, q6, rfl, he3⟩ := hF
  have g6_2 := q2.trans g5_2
  have g6_5 := q5.trans g5_5
  have g6_6 := q6.trans g5_6
  clear q2 q5 q6
  have g6 := And.intro g6_2 (And.intro g6_5 g6_6)
  refine hK _ _ ?_
  clear hK K
  refine cv_seq_k fun K hK => ?_
  refine cv_seq_k fun K hK => ?_
  refine cv_region_then rfl ?_
  simp -implicitDefEqProofs (disch := first | omega | decide) only [seval, -Int.reducePow, -Nat.reducePow, cC, pv, binv, sDec2, undef, g3, g4, g6]
  refine hK _ _ ?_
  clear hK K
  refine cv_cond ?_
  simp -implicitDefEqProofs (disch := first | omega | decide) only [seval, -Int.reducePow, -Nat.reducePow, cC, pv, binv, sDec2, undef, g3, g4, g6]
  refine ⟨fun hc => ?_, fun hc => ?_⟩
  · have hz : ¬ e3 = 0 := by simpa using ‹(!decide (e3 = 0)) = true›
    have hD : decF l = (0, [], 0, e3) := by
      by_cases he : err = 0
      · rw [if_pos he] at he3
        rw [d2 he, if_neg (by rw [← he3]; exact hz), he3]
      · rw [if_neg he] at he3
        rw [d1 he, he3]
    refine cv_seq_k fun K hK => ?_
    refine cv_draw [(true, 0), (true, 1), (true, 2), (true, 3), (true, 4), (false, 5), (true, 6), (true, 7)] [] mixA rfl (by kernel_rfl) (by kernel_rfl) rfl rfl ?_
    simp -implicitDefEqProofs (disch := first | omega | decide) only [seval, -Int.reducePow, -Nat.reducePow, cC, pv, binv, sDec2, undef, g3, g4, g6]
    refine hK _ _ ?_
    clear hK K
    refine cv_ret ?_
    simp -implicitDefEqProofs (disch := first | omega | decide) only [seval, -Int.reducePow, -Nat.reducePow, cC, pv, binv, sDec2, undef, retQ2, ressV, packV, g3, g4, g6]
    intro w hw
    rw [hD]
    exact ⟨none, 0, 0, rfl, World.ownsRow_nil _ _ _ _, hw.below⟩
  have hz : e3 = 0 := by simpa using ‹(!decide (e3 = 0)) = false›
  have he : err = 0 := by
    by_cases he : err = 0
    · exact he
    · rw [if_neg he] at he3; omega
  have hD : decF l = ((q1.1 : Int), gs, used, 0) := by
    rw [if_pos he] at he3
    rw [d2 he, if_pos (by rw [← he3]; exact hz)]
  refine cv_skip ?_
  try simp only [blockQ, thenQ]
  refine hK _ _ ?_
  clear hK K
  refine cv_seq_k fun K hK => ?_
  refine cv_draw_of (pickL [1, 2] _) (fun w hw => hw.pick (by decide)) (by simp only [pickL, nth, suf_cons, suf_nil, List.mem_cons, true_or, or_true, and_true, eq_self]) [(true, 0), (true, 1), (true, 2), (true, 3), (true, 4), (false, 5), (true, 6), (true, 7)] [] mixA rfl (by kernel_rfl) (by kernel_rfl) rfl rfl ?_
  simp -implicitDefEqProofs (disch := first | omega | decide) only [seval, -Int.reducePow, -Nat.reducePow, cC, pv, binv, sDec2, undef, g3, g4, g6]
  refine hK _ _ ?_
  clear hK K
  refine cv_ret ?_
  simp -implicitDefEqProofs (disch := first | omega | decide) only [seval, -Int.reducePow, -Nat.reducePow, cC, pv, binv, sDec2, undef, retQ2, ressV, packV, g3, g4, g6]
  intro w hw
  rw [hD]
  exact ⟨A6, j, c6, rfl, hw.rowNew (by simp), hw.below⟩
end Go.Proofs.YtlbmnioibiomfaaGreat
/- pluginhostmake's coder: its state, and the rule for a call that works on it. -/
namespace Go.Proofs.YtlbmnioibiomfaaGreat
open Go.RowKit Go.Shelf
set_option linter.unusedVariables false
set_option linter.unusedSimpArgs false
set_option maxRecDepth 100000
/-- What a coder keeps: its box, its tape's box, the tape, and its numbers. -/
structure Cx where
  b : Nat
  tb : Nat
  TA : Option Addr
  tn : Nat
  tc : Nat
  l : List Nat
  loc : Nat
  fns : Nat
  first : Nat
/-- What it changes. -/
structure CoS where
  A : Option Addr
  n : Nat
  c : Nat
  code : List Ins
  SA : Option Addr
  sn : Nat
  sc : Nat
  st : List Nat
theorem i64_get {l : List Nat} {i x : Nat} (h : l[i]? = some x) : (i64c l)[i]? = some (.int .i64 x) := by simp [i64c, h]
theorem i64_len (l : List Nat) : (i64c l).length = l.length := by simp [i64c]
theorem i64_row {l : List Nat} {n : Nat} (h : (i64c l).length = n * 1) : l.length = n := by rw [i64_len] at h; omega
theorem ones_i64 (l : List Nat) : ones (i64c l) = true := by simp [ones, i64c, Value.oneCell']
theorem i64_snoc (l : List Nat) (x : Nat) : i64c (l ++ [x]) = i64c l ++ [.int .i64 x] := by simp [i64c]
def coC (x : Cx) (s : CoS) : List Value := [.pointer (some ⟨x.tb, 0, none⟩), .slice s.A s.n s.c, .slice s.SA s.sn s.sc, .int .i64 (x.loc : Int), .int .i64 (x.fns : Int), .int .u32 (x.first : Int)]
def coB (x : Cx) (s : CoS) : Res := .blk x.b 54 (coC x s)
def coT (x : Cx) (i : Nat) : Res := .blk x.tb 57 (tape x.TA x.tn x.tc i)
def insOk (i : Ins) : Prop := i.err = 0 ∧ i.arg < 18446744073709551616
structure CoD (w : World) (D E : Nat → Prop) (x : Cx) (s : CoS) : Prop where
  code : Sd w D 2 s.A s.n s.c (cl insc s.code)
  sts : Sd w D 1 s.SA s.sn s.sc (i64c s.st)
  tape : Sd w E 1 x.TA x.tn x.tc (u16c x.l)
  ok : ∀ i ∈ s.code, insOk i
  sok : ∀ y ∈ s.st, y ≤ 100000
structure CoPre (w : World) (D E : Nat → Prop) (x : Cx) (s : CoS) (i : Nat) : Prop where
  dat : CoD w D E x s
  box : w.heap[x.b]? = some (.cells (coC x s).toArray 54 (0, 0))
  tbox : w.heap[x.tb]? = some (.cells (tape x.TA x.tn x.tc i).toArray 57 (0, 0))
  ne : x.b ≠ x.tb
  dom : ∀ y, D y ∨ E y → y < w.heap.size ∧ y ≠ x.b ∧ y ≠ x.tb
  l16 : ∀ y ∈ x.l, y < 65536
  loc : 1 ≤ x.loc ∧ x.loc ≤ 100
  first : x.first < 4294967296
def coP (x : Cx) (D E : Nat → Prop) (kc ki ks : Nat) (s : CoS) (i : Nat) (w : World) (e : Ending) (w' : World) : Prop :=
  ∃ s' i', e = .returned (.tuple #[]) ∧ CoPre w' (fun y => D y ∨ Nw w w' y) E x s' i' ∧ Pres [x.b, x.tb] w w' ∧ s'.code.length ≤ s.code.length + kc ∧ i' ≤ i + ki ∧ s'.st.length ≤ s.st.length + ks ∧ s.code.length + 1 / kc ≤ s'.code.length ∧ s.st.length ≤ s'.st.length
/-- Within a snapshot, or the given blocks. -/
def Dn (D : Nat → Prop) (foot : List Nat) (y : Nat) : Prop := y ∈ foot ∨ D y
section
variable {P : Program} {M : List Nat} {W w w' v : World} {L R : List Res} {D D' E : Nat → Prop} {x : Cx} {s s' : CoS} {i i' : Nat} {foot : List Nat}
theorem CoD.same (h : CoD w D E x s) (hs : ∀ y, D y ∨ E y → w'.heap[y]? = w.heap[y]?) (hD : ∀ y, D y → D' y) : CoD w' D' E x s :=
  ⟨h.code.same (fun y hy => hs y (.inl hy)) hD, h.sts.same (fun y hy => hs y (.inl hy)) hD, h.tape.same (fun y hy => hs y (.inr hy)) fun _ h => h, h.ok, h.sok⟩
theorem CoPre.st (h : CoPre W D E x s i) : St [x.b, x.tb] W [snap [x.b, x.tb] W W [], coB x s, coT x i] W := by
  have h2 := St.two h.box h.tbox h.ne
  exact h2.add (snap [x.b, x.tb] W W []) ⟨Pres.refl _ _, fun b hb => by cases hb⟩ (fun b hb => by cases hb) (fun r hr b hb => by cases hb)
theorem St.two_mod {b d : Nat} {t u : TypeId} {cs ds us es : List Value} (h : St M W (.blk b t cs :: .blk d u ds :: R) w) (hp : Pres [b, d] w w') (hb : w'.heap[b]? = some (.cells us.toArray t (0, 0))) (hd : w'.heap[d]? = some (.cells es.toArray u (0, 0))) : St M W (.blk b t us :: .blk d u es :: R) w' := by
  have hbo := h.own (.blk b t cs) (.head _) b (by simp [Res.foot])
  have hdo := h.own (.blk d u ds) (.tail _ (.head _)) d (by simp [Res.foot])
  have hap := h.apart
  rw [List.pairwise_cons, List.pairwise_cons] at hap
  have hR : ∀ r ∈ R, ∀ c ∈ r.foot, c ≠ b ∧ c ≠ d := fun r hr c hc =>
    ⟨fun e => hap.1 r (by simp [hr]) b (by simp [Res.foot]) (e ▸ hc), fun e => hap.2.1 r hr d (by simp [Res.foot]) (e ▸ hc)⟩
  refine ⟨⟨hp.os.trans h.pres.os, hp.tape.trans h.pres.tape, hp.output.trans h.pres.output, Nat.le_trans h.pres.size hp.size, fun j hj hm => ?_⟩, ?_, ?_, ?_⟩
  · rw [hp.block j (Nat.lt_of_lt_of_le hj h.pres.size) (by
      simp only [List.mem_cons, List.not_mem_nil, or_false]
      rintro (rfl | rfl)
      · rcases hbo.1 with h1 | h1
        · omega
        · exact hm h1
      · rcases hdo.1 with h1 | h1
        · omega
        · exact hm h1)]
    exact h.pres.block j hj hm
  · intro r hr
    rcases List.mem_cons.1 hr with rfl | hr
    · exact hb
    rcases List.mem_cons.1 hr with rfl | hr
    · exact hd
    · exact r.keep (h.holds r (by simp [hr])) fun c hc => hp.block c (h.own r (by simp [hr]) c hc).2 (by
        have := hR r hr c hc
        simp [this])
  · intro r hr c hc
    rcases List.mem_cons.1 hr with rfl | hr
    · obtain rfl : c = b := by simpa [Res.foot] using hc
      exact ⟨hbo.1, Nat.lt_of_lt_of_le hbo.2 hp.size⟩
    rcases List.mem_cons.1 hr with rfl | hr
    · obtain rfl : c = d := by simpa [Res.foot] using hc
      exact ⟨hdo.1, Nat.lt_of_lt_of_le hdo.2 hp.size⟩
    · have := h.own r (by simp [hr]) c hc
      exact ⟨this.1, Nat.lt_of_lt_of_le this.2 hp.size⟩
  · rw [List.pairwise_cons, List.pairwise_cons]
    refine ⟨fun r hr c hc => ?_, fun r hr c hc => hap.2.1 r hr c hc, hap.2.2⟩
    rcases List.mem_cons.1 hr with rfl | hr
    · exact hap.1 (.blk d u ds) (.head _) c hc
    · exact hap.1 r (by simp [hr]) c hc
/-- The state before a call of a coder's method. -/
theorem CoD.pre (h : CoD v (Dn D foot) E x s) (hDE : ∀ y, D y ∨ E y → y < W.heap.size ∧ y ∉ M) (hw : St M W (snap M W v foot :: coB x s :: coT x i :: R) w) (l16 : ∀ y ∈ x.l, y < 65536) (loc : 1 ≤ x.loc ∧ x.loc ≤ 100) (first : x.first < 4294967296) : CoPre w (Dn D foot) E x s i := by
  have hsame := hw.snap_same (foot := foot) (.head _)
  have hlt := hw.snap_lt (foot := foot) (.head _)
  have hap := hw.apart
  rw [List.pairwise_cons, List.pairwise_cons] at hap
  have hdm : ∀ y, Dn D foot y ∨ E y → Dm M W foot y := fun y hy => by
    rcases hy with (hy | hy) | hy
    · exact .inl hy
    · exact .inr (hDE y (.inl hy))
    · exact .inr (hDE y (.inr hy))
  have hb := hw.own (coB x s) (.tail _ (.head _)) x.b (by simp [Res.foot, coB])
  have ht := hw.own (coT x i) (.tail _ (.tail _ (.head _))) x.tb (by simp [Res.foot, coT])
  refine ⟨h.same (fun y hy => hsame y (hdm y hy)) fun _ h => h, hw.holds (coB x s) (.tail _ (.head _)), hw.holds (coT x i) (.tail _ (.tail _ (.head _))), fun e => ?_, fun y hy => ⟨hlt y (hdm y hy), ?_, ?_⟩, l16, loc, first⟩
  · exact hap.2.1 (coT x i) (.head _) x.b (by simp [Res.foot, coB]) (by simp [Res.foot, coT, e])
  · rintro rfl
    rcases hdm _ hy with hy | ⟨h1, h2⟩
    · exact hap.1 (coB x s) (.head _) x.b hy (by simp [Res.foot, coB])
    · rcases hb.1 with h3 | h3
      · omega
      · exact h2 h3
  · rintro rfl
    rcases hdm _ hy with hy | ⟨h1, h2⟩
    · exact hap.1 (coT x i) (.tail _ (.head _)) x.tb hy (by simp [Res.foot, coT])
    · rcases ht.1 with h3 | h3
      · omega
      · exact h2 h3
/-- A call of a coder's method. -/
theorem callV_co {g : FuncId} {args : Array Value} {K : Bool → Value → List Res → Prop} {kc ki ks : Nat} (hD : CoD v (Dn D foot) E x s) (hDE : ∀ y, D y ∨ E y → y < W.heap.size ∧ y ∉ M) (l16 : ∀ y ∈ x.l, y < 65536) (loc : 1 ≤ x.loc ∧ x.loc ≤ 100) (first : x.first < 4294967296)
    (h : ∀ w D, CoPre w D E x s i → Calls P g args w (coP x D E kc ki ks s i w))
    (hK : ∀ s' i' v' foot', CoD v' (Dn D foot') E x s' → s'.code.length ≤ s.code.length + kc → i' ≤ i + ki → s'.st.length ≤ s.st.length + ks → s.code.length + 1 / kc ≤ s'.code.length → s.st.length ≤ s'.st.length → K true (.tuple #[]) (snap M W v' foot' :: coB x s' :: coT x i' :: R)) :
    CallV P M W g args (snap M W v foot :: coB x s :: coT x i :: R) K := fun w hw =>
  (h w _ (hD.pre hDE hw l16 loc first)).mono (by
    rintro e w' ⟨s', i', rfl, hpre, hp, k1, k2, k3, k4, k5⟩
    have h1 : St M W (coB x s' :: coT x i' :: R) w' := hw.tail.two_mod hp hpre.box hpre.tbox
    have hfo := hw.own (snap M W v foot) (.head _)
    have hfa := (List.pairwise_cons.1 hw.apart).1
    have h2 : St M W (snap M W w' (foot ++ List.range' w.heap.size (w'.heap.size - w.heap.size)) :: coB x s' :: coT x i' :: R) w' := by
      refine h1.add _ ⟨h1.pres, fun _ _ => rfl⟩ (fun b hb => ?_) fun r hr b hb hbr => ?_
      · rcases List.mem_append.1 hb with hb | hb
        · have := hfo b hb
          exact ⟨this.1, Nat.lt_of_lt_of_le this.2 hp.size⟩
        · have := List.mem_range'_1.1 hb
          have := hw.pres.size
          exact ⟨.inl (by omega), by omega⟩
      · have hr' : ∃ r' ∈ (coB x s :: coT x i :: R), r'.foot = r.foot := by
          rcases List.mem_cons.1 hr with rfl | hr
          · exact ⟨coB x s, .head _, rfl⟩
          rcases List.mem_cons.1 hr with rfl | hr
          · exact ⟨coT x i, .tail _ (.head _), rfl⟩
          · exact ⟨r, by simp [hr], rfl⟩
        obtain ⟨r', hr1, hr2⟩ := hr'
        rw [← hr2] at hbr
        rcases List.mem_append.1 hb with hb | hb
        · exact hfa r' hr1 b hb hbr
        · have := List.mem_range'_1.1 hb
          have := (hw.own r' (List.mem_cons_of_mem _ hr1) b hbr).2
          omega
    refine ⟨_, _, rfl, h2, hK s' i' w' _ (hpre.dat.same (fun _ _ => rfl) fun y hy => ?_) k1 k2 k3 k4 k5⟩
    rcases hy with (hy | hy) | hy
    · exact .inl (List.mem_append.2 (.inl hy))
    · exact .inr hy
    · refine .inl (List.mem_append.2 (.inr (List.mem_range'_1.2 ?_)))
      unfold Nw at hy
      omega)
/-- The end of a method that only calls others. -/
theorem CoPre.done (h0 : CoPre W D E x s i) (hw : St [x.b, x.tb] W (snap [x.b, x.tb] W v foot :: coB x s' :: coT x i' :: R) w) (h : CoD v (Dn D foot) E x s') {kc ki ks : Nat} (k1 : s'.code.length ≤ s.code.length + kc) (k2 : i' ≤ i + ki) (k3 : s'.st.length ≤ s.st.length + ks) (k4 : s.code.length + 1 / kc ≤ s'.code.length) (k5 : s.st.length ≤ s'.st.length) :
    coP x D E kc ki ks s i W (.returned (.tuple #[])) w := by
  have hp := h.pre (fun y hy => by have := h0.dom y hy; exact ⟨this.1, by simp [this]⟩) hw h0.l16 h0.loc h0.first
  have hfo := hw.own (snap [x.b, x.tb] W v foot) (.head _)
  have hcv : ∀ y, Dn D foot y → D y ∨ Nw W w y := fun y hy => by
    rcases hy with hy | hy
    · have h1 := hfo y hy
      have h2 := hp.dom y (.inl (.inl hy))
      refine .inr ⟨?_, h1.2⟩
      rcases h1.1 with h3 | h3
      · exact h3
      · simp [h2] at h3
    · exact .inl hy
  refine ⟨s', i', rfl, ⟨hp.dat.same (fun _ _ => rfl) hcv, hp.box, hp.tbox, hp.ne, fun y hy => ?_, hp.l16, hp.loc, hp.first⟩, hw.pres, k1, k2, k3, k4, k5⟩
  rcases hy with (hy | hy) | hy
  · exact hp.dom y (.inl (.inr hy))
  · refine ⟨hy.2, ?_, ?_⟩
    · rintro rfl
      have := (Array.getElem?_eq_some_iff.1 h0.box).1
      have := hy.1
      omega
    · rintro rfl
      have := (Array.getElem?_eq_some_iff.1 h0.tbox).1
      have := hy.1
      omega
  · exact hp.dom y (.inr hy)
theorem CoPre.in0 (h : CoPre W D E x s i) : CoD W (Dn D []) E x s := h.dat.same (fun _ _ => rfl) fun y hy => .inr hy
theorem CoPre.hDE (h : CoPre W D E x s i) : ∀ y, D y ∨ E y → y < W.heap.size ∧ y ∉ [x.b, x.tb] := fun y hy => by
  have := h.dom y hy
  exact ⟨this.1, by simp [this]⟩
/-- The end of a method that changed the box itself. -/
theorem CoPre.fin (h0 : CoPre W D E x s i) (hw : St [x.b, x.tb] W L w) (hb : w.heap[x.b]? = some (.cells (coC x s').toArray 54 (0, 0))) (ht : w.heap[x.tb]? = some (.cells (tape x.TA x.tn x.tc i').toArray 57 (0, 0)))
    (hc : Sd w (fun y => D y ∨ Nw W w y) 2 s'.A s'.n s'.c (cl insc s'.code)) (hs : Sd w (fun y => D y ∨ Nw W w y) 1 s'.SA s'.sn s'.sc (i64c s'.st)) (ok : ∀ i ∈ s'.code, insOk i) (sok : ∀ y ∈ s'.st, y ≤ 100000)
    {kc ki ks : Nat} (k1 : s'.code.length ≤ s.code.length + kc) (k2 : i' ≤ i + ki) (k3 : s'.st.length ≤ s.st.length + ks) (k4 : s.code.length + 1 / kc ≤ s'.code.length) (k5 : s.st.length ≤ s'.st.length) : coP x D E kc ki ks s i W (.returned (.tuple #[])) w := by
  have hE : ∀ y, E y → w.heap[y]? = W.heap[y]? := fun y hy => by
    have := h0.dom y (.inr hy)
    exact hw.pres.block y this.1 (by simp [this])
  refine ⟨s', i', rfl, ⟨⟨hc, hs, h0.dat.tape.same hE fun _ h => h, ok, sok⟩, hb, ht, h0.ne, fun y hy => ?_, h0.l16, h0.loc, h0.first⟩, hw.pres, k1, k2, k3, k4, k5⟩
  have hsz := hw.pres.size
  rcases hy with (hy | hy) | hy
  · have := h0.dom y (.inl hy); exact ⟨by omega, this.2⟩
  · refine ⟨hy.2, ?_, ?_⟩
    · rintro rfl
      have := (Array.getElem?_eq_some_iff.1 h0.box).1
      have := hy.1
      omega
    · rintro rfl
      have := (Array.getElem?_eq_some_iff.1 h0.tbox).1
      have := hy.1
      omega
  · have := h0.dom y (.inr hy); exact ⟨by omega, this.2⟩
/-- Old data is as it was. -/
theorem CoPre.old (h0 : CoPre W D E x s i) (hw : St [x.b, x.tb] W L w) : ∀ y, D y → w.heap[y]? = W.heap[y]? := fun y hy => by
  have := h0.dom y (.inl hy)
  exact hw.pres.block y this.1 (by simp [this])
/-- The tape, for Next. -/
theorem CoD.tp (h : CoD v (Dn D foot) E x s) (hDE : ∀ y, D y ∨ E y → y < W.heap.size ∧ y ∉ M) (hw : St M W L w) (k : Nat) (hk : nth L k = some (snap M W v foot)) : Sl w w.heap.size 1 x.TA x.tn x.tc (u16c x.l) :=
  Sd.at (h.tape.mono fun y hy => .inr (hDE y (.inr hy))) hw k hk
theorem CoD.tapt (h : CoD v (Dn D foot) E x s) (hE : ∀ y, E y → y ≠ x.tb) : 0 < x.tn → Apt x.TA [x.tb] := fun hn b o e => by
  obtain ⟨b', off, e', hb, _⟩ := h.tape.cells hn
  rw [e'] at e
  cases e
  simpa using hE _ hb
theorem CoD.cd (h : CoD v (Dn D foot) E x s) (hDE : ∀ y, D y ∨ E y → y < W.heap.size ∧ y ∉ M) (hw : St M W L w) (k : Nat) (hk : nth L k = some (snap M W v foot)) : Sl w w.heap.size 2 s.A s.n s.c (cl insc s.code) :=
  Sd.at (h.code.mono fun y hy => hy.imp id fun hy => hDE y (.inl hy)) hw k hk
theorem CoD.sd (h : CoD v (Dn D foot) E x s) (hDE : ∀ y, D y ∨ E y → y < W.heap.size ∧ y ∉ M) (hw : St M W L w) (k : Nat) (hk : nth L k = some (snap M W v foot)) : Sl w w.heap.size 1 s.SA s.sn s.sc (i64c s.st) :=
  Sd.at (h.sts.mono fun y hy => hy.imp id fun hy => hDE y (.inl hy)) hw k hk
end
end Go.Proofs.YtlbmnioibiomfaaGreat
/- The coder's methods. -/
namespace Go.Proofs.YtlbmnioibiomfaaGreat
open Go.RowKit Go.Shelf
set_option linter.unusedVariables false
set_option linter.unusedSimpArgs false
set_option maxRecDepth 100000
set_option maxRecDepth 100000 in
theorem sCoW1 : type_of% (And.intro (And.intro @coB.eq_1 (And.intro @coT.eq_1 @coC.eq_1)) (And.intro (And.intro @tape.eq_1 @tpBox.eq_1) (And.intro @cS @Nat.mul_one))) := (And.intro (And.intro @coB.eq_1 (And.intro @coT.eq_1 @coC.eq_1)) (And.intro (And.intro @tape.eq_1 @tpBox.eq_1) (And.intro @cS @Nat.mul_one)))
set_option maxHeartbeats 2000000 in
theorem put_co (x : Cx) (D E : Nat → Prop) (s0 : CoS) (i : Nat) (op : Int) (arg : Nat) (W : World) (hp : CoPre W D E x s0 i) (hk : knownP op) (ha : argP op ∨ arg = 0) (hb : arg ≤ 9223372036854775807) (hl : s0.code.length ≤ 10000) :
    Calls Tryz.prog 15 #[.pointer (some ⟨x.b, 0, none⟩), .int .i64 op, .int .i64 (arg : Int)] W (coP x D E 1 0 0 s0 i W) := by
  have hne := hp.ne
  have hD0 := hp.in0
  have hDE := hp.hDE
  have hln : s0.code.length = s0.n := cl_row insc_len (by omega) hD0.code.len
  have ea := i64v arg hb
  have hio : insOk ⟨op, arg⟩ := ⟨by unfold Ins.err; rw [if_neg (by simpa using hk), if_neg (by rintro ⟨h1, h2⟩; exact ha.elim h1 h2)], by dsimp only; omega⟩
  refine calls_cv (M := [x.b, x.tb]) (n := 21) [] rfl Tryz.func15 rfl rfl (Nat.le_of_ble_eq_true rfl)  hp.st ?_
  refine cv_region_q rfl ?_
  simp -implicitDefEqProofs (disch := first | omega | decide) only [seval, -Int.reducePow, -Nat.reducePow, cC, pv, binv, sCoW1, undef, ea]
  intro b7 hb7 h7
  simp -implicitDefEqProofs (disch := first | omega | decide) only [seval, -Int.reducePow, -Nat.reducePow, cC, pv, binv, sCoW1, undef, ea]
  refine appV_lit 0 tap40 rfl rfl (fun w hw => by exact (hD0.cd hDE hw 1 rfl).reads) (cl_ones insc_ones _) (by omega) (by omega) ?_
  intro A1 c1 hl1 hr1
  simp -implicitDefEqProofs (disch := first | omega | decide) only [seval, -Int.reducePow, -Nat.reducePow, cC, pv, binv, sCoW1, undef, ea]
  intro b8 hb8 h8
  refine appV_at 1 tap40 rfl (fun w hw => src_blk (size := 2) (.head _) rfl hw) rfl (by omega) (by omega) ?_
  intro A2 c2 hl2 hr2
  simp -implicitDefEqProofs (disch := first | omega | decide) only [seval, -Int.reducePow, -Nat.reducePow, cC, pv, binv, sCoW1, undef]
  refine ⟨_, rfl, fun w hw => ?_⟩
  refine hp.fin (s' := ⟨A2, s0.n + 1, c2, s0.code ++ [⟨op, arg⟩], s0.SA, s0.sn, s0.sc, s0.st⟩) (i' := i) hw (hw.hold 3 rfl) (hw.hold 4 rfl) ?_ ((hp.dat.sts.same (hp.old hw)) fun y hy => .inl hy) ?_ hp.dat.sok (by simp) (by omega) (by simp) (by simp) (by simp)
  · have := Sd.ownNew (hw.rowNew (by simp [Res.foot, snap_foot]))
    dsimp only
    rw [cl_snoc]
    exact this.mono fun y hy => .inr hy
  · intro y hy
    rcases List.mem_append.1 hy with hy | hy
    · exact hp.dat.ok y hy
    · obtain rfl : y = ⟨op, arg⟩ := by simpa using hy
      exact hio
theorem num_co (x : Cx) (D E : Nat → Prop) (s0 : CoS) (i n : Nat) (W : World) (hp : CoPre W D E x s0 i) (hn : 0 < n ∧ n ≤ 100000) (hi : i ≤ 900000) (hl : s0.code.length ≤ 10000) :
    Calls Tryz.prog 26 #[.pointer (some ⟨x.b, 0, none⟩), .int .i64 (n : Int)] W (coP x D E 1 1 0 s0 i W) := by
  have hne := hp.ne
  have hD0 := hp.in0
  have hDE := hp.hDE
  have hE := fun y hy => (hp.dom y (.inr hy)).2.2
  have hnx := nextF_lt (l := x.l) (i := i) (m := n) hn.1
  refine calls_cv (M := [x.b, x.tb]) (n := 12) [] rfl Tryz.func26 rfl rfl (Nat.le_of_ble_eq_true rfl)  hp.st ?_
  refine cv_region_q rfl ?_
  simp -implicitDefEqProofs (disch := first | omega | decide) only [seval, -Int.reducePow, -Nat.reducePow, cC, pv, binv, sCoW1, undef]
  refine callV_mod1 2 (fun w hw => next_anyN x.tb x.TA x.tn x.tc x.l i n w (hw.hold 2 rfl) (hD0.tp hDE hw 0 rfl) (hD0.tapt hE) hp.l16 (by omega) (by omega)) rfl ?_
  try simp -implicitDefEqProofs (disch := first | omega | decide) only [seval, -Int.reducePow, -Nat.reducePow, cC, pv, binv, sCoW1, undef]
  refine callV_co (x := x) (s := s0) (i := i + 1) hD0 hDE hp.l16 hp.loc hp.first (fun w D hp => put_co x D E s0 (i + 1) 1 (nextF x.l i n) w hp (by decide) (.inl (by decide)) (by omega) hl) ?_
  intro s1 i1 v1 f1 hD1 ka1 kb1 kc1 kd1 ke1
  simp -implicitDefEqProofs (disch := first | omega | decide) only [seval, -Int.reducePow, -Nat.reducePow, cC, pv, binv, sCoW1, undef]
  refine ⟨_, rfl, fun w hw => ?_⟩
  exact hp.done hw hD1 (by omega) (by omega) (by omega) (by omega) (by omega)
theorem u64b (op : BinOp) (a b : Int) : 0 ≤ bits op .u64 a b ∧ bits op .u64 a b < 18446744073709551616 := by
  unfold bits
  dsimp only
  rw [IntKind.wrap_u64]
  omega
set_option maxRecDepth 100000 in
theorem sCoW2 : type_of% (And.intro (And.intro @coB.eq_1 (And.intro @coT.eq_1 @coC.eq_1)) (And.intro (And.intro @tape.eq_1 @tpBox.eq_1) (And.intro @cS @Nat.mul_one))) := (And.intro (And.intro @coB.eq_1 (And.intro @coT.eq_1 @coC.eq_1)) (And.intro (And.intro @tape.eq_1 @tpBox.eq_1) (And.intro @cS @Nat.mul_one)))
set_option maxHeartbeats 2000000 in
theorem word_any (b : Nat) (A : Option Addr) (n c : Nat) (l : List Nat) (i first : Nat) (W : World) (hW : W.heap[b]? = some (.cells (tape A n c i).toArray 57 (0, 0))) (hE : Sl W W.heap.size 1 A n c (u16c l)) (ha : 0 < n → Apt A [b]) (hl : ∀ x ∈ l, x < 65536) (hi : i ≤ 900000) :
    Calls Tryz.prog 69 #[.pointer (some ⟨b, 0, none⟩), .int .u32 (first : Int)] W (fun e w' => ∃ p : Nat × Nat, e = .returned (.int .u64 (p.1 : Int)) ∧ (p.1 < 18446744073709551616 ∧ p.2 ≤ i + 10) ∧ w'.heap[b]? = some (.cells (tape A n c p.2).toArray 57 (0, 0)) ∧ Pres [b] W w') := by
  have hn8 := nextF_lt (l := l) (i := i + 1) (m := 8) (by omega)
  have hn64 := nextF_lt (l := l) (i := i + 1 + 1 + 1 + 1 + 1) (m := 64) (by omega)
  have e64 : IntKind.u64.wrap ((nextF l (i + 1 + 1 + 1 + 1 + 1) 64 : Nat) : Int) = ((nextF l (i + 1 + 1 + 1 + 1 + 1) 64 : Nat) : Int) := u64_in (by omega)
  have hn3 := nextF_lt (l := l) (i := i + 1 + 1) (m := 3) (by omega)
  have e1 : IntKind.i64.wrap (1 + ((nextF l (i + 1 + 1) 3 : Nat) : Int)) = ((1 + nextF l (i + 1 + 1) 3 : Nat) : Int) := by rw [wrap_in (by omega) (by omega)]; omega
  have e2 : IntKind.u64.wrap ((1 + nextF l (i + 1 + 1) 3 : Nat) : Int) = ((1 + nextF l (i + 1 + 1) 3 : Nat) : Int) := u64_in (by omega)
  obtain ⟨U, hU⟩ : ∃ U, IntKind.u64.wrap (((1 + nextF l (i + 1 + 1) 3 : Nat) : Int) * 2 ^ 56) = U := ⟨_, rfl⟩
  refine calls_cv (M := [b]) (n := 41) [.tmp 4] rfl Tryz.func69 rfl rfl (Nat.le_of_ble_eq_true rfl)  (St.one hW) ?_
  refine cv_seq_k fun K hK => ?_
  refine cv_region_then rfl ?_
  simp -implicitDefEqProofs (disch := first | omega | decide) only [seval, -Int.reducePow, -Nat.reducePow, cC, pv, binv, sCoW2, undef, IntKind.bits]
  refine hK _ _ ?_
  clear hK K
  refine cv_seq_k fun K hK => ?_
  refine cv_region_then rfl ?_
  simp -implicitDefEqProofs (disch := first | omega | decide) only [seval, -Int.reducePow, -Nat.reducePow, cC, pv, binv, sCoW2, undef, IntKind.bits]
  refine callV_mod1 0 (fun w hw => next_anyN b A n c l i 3 w (hw.hold 0 rfl) (hE.atM' hw ha) ha hl (by omega) (by omega)) rfl ?_
  try simp -implicitDefEqProofs (disch := first | omega | decide) only [seval, -Int.reducePow, -Nat.reducePow, cC, pv, binv, sCoW2, undef, IntKind.bits]
  refine callV_mod1 0 (fun w hw => next_anyN b A n c l (i + 1) 8 w (hw.hold 0 rfl) (hE.atM' hw ha) ha hl (by omega) (by omega)) rfl ?_
  try simp -implicitDefEqProofs (disch := first | omega | decide) only [seval, -Int.reducePow, -Nat.reducePow, cC, pv, binv, sCoW2, undef, IntKind.bits]
  refine hK _ _ ?_
  clear hK K
  refine cv_gen fun G1 hG => ?_
  have g1_0 := congrFun hG 0
  have g1_5 := congrFun hG 5
  clear hG
  try simp -implicitDefEqProofs (disch := first | omega | decide) only [seval, -Int.reducePow, -Nat.reducePow, cC, pv, binv, sCoW2, undef, IntKind.bits] at g1_0 g1_5
  have g1 := And.intro g1_0 g1_5
  obtain ⟨V5, g1_5⟩ : ∃ V : Int, G1 5 = .int .u64 V := ⟨_, g1_5⟩
  have g1 := And.intro g1_0 g1_5
  rename_i gold
  clear gold
  have g1 := And.intro g1_0 g1_5
  obtain ⟨B, hB⟩ : ∃ B, bits .and .u64 V5 4294967295 = B := ⟨_, rfl⟩
  obtain ⟨C, hC⟩ : ∃ C, IntKind.u64.wrap (B * 2 ^ 24) = C := ⟨_, rfl⟩
  refine cv_seq_k fun K hK => ?_
  refine cv_region_then rfl ?_
  simp -implicitDefEqProofs (disch := first | omega | decide) only [seval, -Int.reducePow, -Nat.reducePow, cC, pv, binv, sCoW2, undef, IntKind.bits, g1]
  refine callV_mod1 0 (fun w hw => next_anyN b A n c l (i + 1 + 1) 3 w (hw.hold 0 rfl) (hE.atM' hw ha) ha hl (by omega) (by omega)) rfl ?_
  try simp -implicitDefEqProofs (disch := first | omega | decide) only [seval, -Int.reducePow, -Nat.reducePow, cC, pv, binv, sCoW2, undef, IntKind.bits, e1, e2, hU, hB, hC, g1]
  refine callV_mod1 0 (fun w hw => next_anyN b A n c l (i + 1 + 1 + 1) 6 w (hw.hold 0 rfl) (hE.atM' hw ha) ha hl (by omega) (by omega)) rfl ?_
  try simp -implicitDefEqProofs (disch := first | omega | decide) only [seval, -Int.reducePow, -Nat.reducePow, cC, pv, binv, sCoW2, undef, IntKind.bits, e1, e2, hU, hB, hC, g1]
  refine hK _ _ ?_
  clear hK K
  refine cv_gen fun G2 hG => ?_
  have g2_0 := congrFun hG 0
  have g2_6 := congrFun hG 6
  clear hG
  try simp -implicitDefEqProofs (disch := first | omega | decide) only [seval, -Int.reducePow, -Nat.reducePow, cC, pv, binv, sCoW2, undef, IntKind.bits, g1] at g2_0 g2_6
  have g2 := And.intro g2_0 g2_6
  obtain ⟨V0, hV0, g2_6⟩ : ∃ V : Int, (0 ≤ V ∧ V < 18446744073709551616) ∧ G2 6 = .int .u64 V := by
    refine ⟨_, ?_, g2_6⟩
    exact u64b _ _ _
  rename_i gold
  clear gold
  have g2 := And.intro g2_0 g2_6
  refine cv_seq_k fun K hK => ?_
  refine cv_cut (fun _ _ => True) (fun F' L' => ∃ (V : Int) (j : Nat), F' 6 = .int .u64 V ∧ L' = [tpBox b A n c j] ∧ 0 ≤ V ∧ V < 18446744073709551616 ∧ j ≤ i + 10) ?_ ?_
  · refine cv_seq_k fun K hK => ?_
    refine cv_region_then rfl ?_
    simp -implicitDefEqProofs (disch := first | omega | decide) only [seval, -Int.reducePow, -Nat.reducePow, cC, pv, binv, sCoW2, undef, IntKind.bits, g2]
    refine callV_mod1 0 (fun w hw => next_anyN b A n c l (i + 1 + 1 + 1 + 1) 20 w (hw.hold 0 rfl) (hE.atM' hw ha) ha hl (by omega) (by omega)) rfl ?_
    try simp -implicitDefEqProofs (disch := first | omega | decide) only [seval, -Int.reducePow, -Nat.reducePow, cC, pv, binv, sCoW2, undef, IntKind.bits, g2]
    refine hK _ _ ?_
    clear hK K
    refine cv_cond ?_
    simp -implicitDefEqProofs (disch := first | omega | decide) only [seval, -Int.reducePow, -Nat.reducePow, cC, pv, binv, sCoW2, undef, IntKind.bits, g2]
    refine ⟨fun hc => ?_, fun hc => ?_⟩
    · refine cv_region_q rfl ?_
      simp -implicitDefEqProofs (disch := first | omega | decide) only [seval, -Int.reducePow, -Nat.reducePow, cC, pv, binv, sCoW2, undef, IntKind.bits, g2]
      refine callV_mod1 0 (fun w hw => next_anyN b A n c l (i + 1 + 1 + 1 + 1 + 1) 64 w (hw.hold 0 rfl) (hE.atM' hw ha) ha hl (by omega) (by omega)) rfl ?_
      try simp -implicitDefEqProofs (disch := first | omega | decide) only [seval, -Int.reducePow, -Nat.reducePow, cC, pv, binv, sCoW2, undef, IntKind.bits, g2]
      simp -implicitDefEqProofs (disch := first | omega | decide) only [seval, -Int.reducePow, -Nat.reducePow, cC, pv, binv, sCoW2, undef, IntKind.bits, e64, g2]
      have hx := u64b .xor V0 (IntKind.u64.wrap (1 * 2 ^ nextF l (i + 1 + 1 + 1 + 1 + 1) 64))
      generalize bits .xor .u64 V0 (IntKind.u64.wrap (1 * 2 ^ nextF l (i + 1 + 1 + 1 + 1 + 1) 64)) = V1 at *
      refine ⟨V1, i + 6, ?_⟩
      simp -implicitDefEqProofs (disch := first | omega | decide) only [seval, -Int.reducePow, -Nat.reducePow, cC, pv, binv, sCoW2, undef, IntKind.bits, g2]
      exact ⟨hx.1, hx.2, by omega⟩
    · refine cv_skip ?_
      try simp only [blockQ, thenQ]
      refine ⟨V0, i + 5, ?_⟩
      simp -implicitDefEqProofs (disch := first | omega | decide) only [seval, -Int.reducePow, -Nat.reducePow, cC, pv, binv, sCoW2, undef, IntKind.bits, g2]
      exact ⟨hV0.1, hV0.2, by omega⟩
  intro G3 L' _ hF
  obtain ⟨V, j, q6, rfl, ⟨hV0, hV1, hj⟩⟩ := hF
  have g3_6 := q6
  clear q6
  have g3 := g3_6
  refine hK _ _ ?_
  clear hK K
  obtain ⟨y, rfl⟩ := Int.eq_ofNat_of_zero_le hV0
  refine cv_seq_k fun K hK => ?_
  refine cv_region_then rfl ?_
  simp -implicitDefEqProofs (disch := first | omega | decide) only [seval, -Int.reducePow, -Nat.reducePow, cC, pv, binv, sCoW2, undef, IntKind.bits, g3]
  refine hK _ _ ?_
  clear hK K
  refine cv_ret ⟨_, (by simp -implicitDefEqProofs (disch := first | omega | decide) only [seval, -Int.reducePow, -Nat.reducePow, cC, pv, binv, sCoW2, undef, IntKind.bits, g3]; rfl), fun w hw => ?_⟩
  exact ⟨(y, j), rfl, ⟨by omega, hj⟩, hw.hold 0 rfl, hw.pres⟩
set_option maxRecDepth 100000 in
theorem sCoW3 : type_of% (And.intro (And.intro @coB.eq_1 (And.intro @coT.eq_1 @coC.eq_1)) (And.intro (And.intro @tape.eq_1 @tpBox.eq_1) (And.intro @cS @Nat.mul_one))) := (And.intro (And.intro @coB.eq_1 (And.intro @coT.eq_1 @coC.eq_1)) (And.intro (And.intro @tape.eq_1 @tpBox.eq_1) (And.intro @cS @Nat.mul_one)))
theorem local_co (x : Cx) (D E : Nat → Prop) (s0 : CoS) (i : Nat) (op : Int) (W : World) (hp : CoPre W D E x s0 i) (hk : op = 2 ∨ op = 3) (hi : i ≤ 900000) (hl : s0.code.length ≤ 10000) :
    Calls Tryz.prog 27 #[.pointer (some ⟨x.b, 0, none⟩), .int .i64 op] W (coP x D E 1 1 0 s0 i W) := by
  have hne := hp.ne
  have hD0 := hp.in0
  have hDE := hp.hDE
  have hloc := hp.loc
  have hE := fun y hy => (hp.dom y (.inr hy)).2.2
  have hnx := nextF_lt (l := x.l) (i := i) (m := x.loc) (by omega)
  refine calls_cv (M := [x.b, x.tb]) (n := 16) [] rfl Tryz.func27 rfl rfl (Nat.le_of_ble_eq_true rfl)  hp.st ?_
  refine cv_q ?_
  refine cv_draw_of (pickL [0, 1] _) (fun w hw => hw.pick (by decide)) (by simp only [pickL, nth, suf_cons, suf_nil, List.mem_cons, true_or, or_true, and_true, eq_self]) [(true, 0), (true, 1), (true, 2), (true, 3), (true, 4), (true, 5), (true, 6), (true, 7), (true, 8), (true, 9), (false, 10), (false, 11)] [11] mixA rfl (by kernel_rfl) (by kernel_rfl) rfl rfl ?_
  simp -implicitDefEqProofs (disch := first | omega | decide) only [seval, -Int.reducePow, -Nat.reducePow, cC, pv, binv, sCoW3, undef]
  refine callV_mod1 2 (fun w hw => next_anyN x.tb x.TA x.tn x.tc x.l i x.loc w (hw.hold 2 rfl) (hD0.tp hDE hw 0 rfl) (hD0.tapt hE) hp.l16 (by omega) (by omega)) rfl ?_
  try simp -implicitDefEqProofs (disch := first | omega | decide) only [seval, -Int.reducePow, -Nat.reducePow, cC, pv, binv, sCoW3, undef]
  refine callV_co (x := x) (s := s0) (i := i + 1) hD0 hDE hp.l16 hp.loc hp.first (fun w D hp => put_co x D E s0 (i + 1) op (nextF x.l i x.loc) w hp (by omega) (.inl (by omega)) (by omega) hl) ?_
  intro s1 i1 v1 f1 hD1 ka1 kb1 kc1 kd1 ke1
  simp -implicitDefEqProofs (disch := first | omega | decide) only [seval, -Int.reducePow, -Nat.reducePow, cC, pv, binv, sCoW3, undef]
  refine ⟨_, rfl, fun w hw => ?_⟩
  exact hp.done hw hD1 (by omega) (by omega) (by omega) (by omega) (by omega)
set_option maxHeartbeats 2000000 in
theorem host_co (x : Cx) (D E : Nat → Prop) (s0 : CoS) (i call : Nat) (W : World) (hp : CoPre W D E x s0 i) (hc : call ≤ 100) (hi : i ≤ 800000) (hl : s0.code.length ≤ 9000) :
    Calls Tryz.prog 50 #[.pointer (some ⟨x.b, 0, none⟩), .int .i64 (call : Int)] W (coP x D E 3 2 0 s0 i W) := by
  have hne := hp.ne
  have hD0 := hp.in0
  have hDE := hp.hDE
  have hE := fun y hy => (hp.dom y (.inr hy)).2.2
  refine calls_cv (M := [x.b, x.tb]) (n := 19) [] rfl Tryz.func50 rfl rfl (Nat.le_of_ble_eq_true rfl)  hp.st ?_
  refine cv_seq_k fun K hK => ?_
  refine cv_region_then rfl ?_
  simp -implicitDefEqProofs (disch := first | omega | decide) only [seval, -Int.reducePow, -Nat.reducePow, cC, pv, binv, sCoW3, undef]
  refine callV_co (x := x) (s := s0) (i := i) hD0 hDE hp.l16 hp.loc hp.first (fun w D hp => put_co x D E s0 i 23 call w hp (by decide) (.inl (by decide)) (by omega) (by omega)) ?_
  intro s1 i1 v1 f1 hD1 ka1 kb1 kc1 kd1 ke1
  simp -implicitDefEqProofs (disch := first | omega | decide) only [seval, -Int.reducePow, -Nat.reducePow, cC, pv, binv, sCoW3, undef]
  refine hK _ _ ?_
  clear hK K
  refine cv_seq_k fun K hK => ?_
  refine cv_region_then rfl ?_
  simp -implicitDefEqProofs (disch := first | omega | decide) only [seval, -Int.reducePow, -Nat.reducePow, cC, pv, binv, sCoW3, undef]
  refine callV_co (x := x) (s := s1) (i := i1) hD1 hDE hp.l16 hp.loc hp.first (fun w D hp => put_co x D E s1 i1 4 0 w hp (by decide) (.inr rfl) (by omega) (by omega)) ?_
  intro s2 i2 v2 f2 hD2 ka2 kb2 kc2 kd2 ke2
  simp -implicitDefEqProofs (disch := first | omega | decide) only [seval, -Int.reducePow, -Nat.reducePow, cC, pv, binv, sCoW3, undef]
  refine hK _ _ ?_
  clear hK K
  refine cv_seq_k fun K hK => ?_
  refine cv_region_then rfl ?_
  simp -implicitDefEqProofs (disch := first | omega | decide) only [seval, -Int.reducePow, -Nat.reducePow, cC, pv, binv, sCoW3, undef]
  refine callV_mod1 2 (fun w hw => next_anyN x.tb x.TA x.tn x.tc x.l i2 3 w (hw.hold 2 rfl) (hD2.tp hDE hw 0 rfl) (hD2.tapt hE) hp.l16 (by omega) (by omega)) rfl ?_
  try simp -implicitDefEqProofs (disch := first | omega | decide) only [seval, -Int.reducePow, -Nat.reducePow, cC, pv, binv, sCoW3, undef]
  refine hK _ _ ?_
  clear hK K
  refine cv_cond ?_
  simp -implicitDefEqProofs (disch := first | omega | decide) only [seval, -Int.reducePow, -Nat.reducePow, cC, pv, binv, sCoW3, undef]
  refine ⟨fun hc => ?_, fun hc => ?_⟩
  · refine cv_region_q rfl ?_
    simp -implicitDefEqProofs (disch := first | omega | decide) only [seval, -Int.reducePow, -Nat.reducePow, cC, pv, binv, sCoW3, undef]
    refine callV_co (x := x) (s := s2) (i := i2 + 1) hD2 hDE hp.l16 hp.loc hp.first (fun w D hp => local_co x D E s2 (i2 + 1) 3 w hp (.inr rfl) (by omega) (by omega)) ?_
    intro s3 i3 v3 f3 hD3 ka3 kb3 kc3 kd3 ke3
    simp -implicitDefEqProofs (disch := first | omega | decide) only [seval, -Int.reducePow, -Nat.reducePow, cC, pv, binv, sCoW3, undef]
    refine ⟨_, rfl, fun w hw => ?_⟩
    exact hp.done hw hD3 (by omega) (by omega) (by omega) (by omega) (by omega)
  · refine cv_region_q rfl ?_
    simp -implicitDefEqProofs (disch := first | omega | decide) only [seval, -Int.reducePow, -Nat.reducePow, cC, pv, binv, sCoW3, undef]
    refine callV_co (x := x) (s := s2) (i := i2 + 1) hD2 hDE hp.l16 hp.loc hp.first (fun w D hp => put_co x D E s2 (i2 + 1) 4 0 w hp (by decide) (.inr rfl) (by omega) (by omega)) ?_
    intro s3 i3 v3 f3 hD3 ka3 kb3 kc3 kd3 ke3
    simp -implicitDefEqProofs (disch := first | omega | decide) only [seval, -Int.reducePow, -Nat.reducePow, cC, pv, binv, sCoW3, undef]
    refine ⟨_, rfl, fun w hw => ?_⟩
    exact hp.done hw hD3 (by omega) (by omega) (by omega) (by omega) (by omega)
set_option maxHeartbeats 2000000 in
theorem handle_co (x : Cx) (D E : Nat → Prop) (s0 : CoS) (i : Nat) (W : World) (hp : CoPre W D E x s0 i) (hi : i ≤ 800000) (hl : s0.code.length ≤ 9000) :
    Calls Tryz.prog 49 #[.pointer (some ⟨x.b, 0, none⟩)] W (coP x D E 1 11 0 s0 i W) := by
  have hne := hp.ne
  have hD0 := hp.in0
  have hDE := hp.hDE
  have hE := fun y hy => (hp.dom y (.inr hy)).2.2
  have hln : s0.code.length = s0.n := cl_row insc_len (by omega) hD0.code.len
  refine calls_cv (M := [x.b, x.tb]) (n := 31) [] rfl Tryz.func49 rfl rfl (Nat.le_of_ble_eq_true rfl)  hp.st ?_
  refine cv_seq_k fun K hK => ?_
  refine cv_seq_k fun K hK => ?_
  refine cv_region_then rfl ?_
  simp -implicitDefEqProofs (disch := first | omega | decide) only [seval, -Int.reducePow, -Nat.reducePow, cC, pv, binv, sCoW3, undef]
  refine callV_mod1 2 (fun w hw => next_anyN x.tb x.TA x.tn x.tc x.l i 4 w (hw.hold 2 rfl) (hD0.tp hDE hw 0 rfl) (hD0.tapt hE) hp.l16 (by omega) (by omega)) rfl ?_
  try simp -implicitDefEqProofs (disch := first | omega | decide) only [seval, -Int.reducePow, -Nat.reducePow, cC, pv, binv, sCoW3, undef]
  refine hK _ _ ?_
  clear hK K
  refine cv_cond ?_
  simp -implicitDefEqProofs (disch := first | omega | decide) only [seval, -Int.reducePow, -Nat.reducePow, cC, pv, binv, sCoW3, undef]
  refine ⟨fun hc => ?_, fun hc => ?_⟩
  · refine cv_seq_k fun K hK => ?_
    refine cv_draw_of (pickL [0, 1] _) (fun w hw => hw.pick (by decide)) (by simp only [pickL, nth, suf_cons, suf_nil, List.mem_cons, true_or, or_true, and_true, eq_self]) [(true, 0), (true, 2), (true, 3), (true, 4), (true, 5), (true, 7), (true, 8), (true, 9), (true, 10), (true, 11), (true, 12), (true, 13), (true, 14), (false, 1), (false, 6), (false, 15), (true, 16), (false, 17), (false, 18), (true, 19), (true, 20), (false, 21)] [21] mixA rfl (by kernel_rfl) (by kernel_rfl) rfl rfl ?_
    simp -implicitDefEqProofs (disch := first | omega | decide) only [seval, -Int.reducePow, -Nat.reducePow, cC, pv, binv, sCoW3, undef]
    intro b9 hb9 h9
    refine appV_lit 0 tap40 rfl rfl (fun w hw => by exact (hD0.cd hDE hw 1 rfl).reads) (cl_ones insc_ones _) (by omega) (by omega) ?_
    intro A1 c1 hl1 hr1
    simp -implicitDefEqProofs (disch := first | omega | decide) only [seval, -Int.reducePow, -Nat.reducePow, cC, pv, binv, sCoW3, undef]
    refine callV_mod 3 (fun p : Nat × Nat => .int .u64 (p.1 : Int)) (fun p => tape x.TA x.tn x.tc p.2) (fun p => p.1 < 18446744073709551616 ∧ p.2 ≤ i + 1 + 10) rfl (fun w hw => word_any x.tb x.TA x.tn x.tc x.l (i + 1) x.first w (hw.hold 3 rfl) (hD0.tp hDE hw 1 rfl) (hD0.tapt hE) hp.l16 (by omega)) ?_
    rintro ⟨y, j⟩ ⟨hy, hj⟩
    dsimp only at hy hj
    simp -implicitDefEqProofs (disch := first | omega | decide) only [seval, -Int.reducePow, -Nat.reducePow, cC, pv, binv, sCoW3, undef]
    intro b10 hb10 h10
    refine appV_at 1 tap40 rfl (fun w hw => src_blk (size := 2) (.head _) rfl hw) rfl (by omega) (by omega) ?_
    intro A2 c2 hl2 hr2
    simp -implicitDefEqProofs (disch := first | omega | decide) only [seval, -Int.reducePow, -Nat.reducePow, cC, pv, binv, sCoW3, undef]
    refine hK _ _ ?_
    clear hK K
    refine cv_ret ⟨_, (by simp -implicitDefEqProofs (disch := first | omega | decide) only [seval, -Int.reducePow, -Nat.reducePow, cC, pv, binv, sCoW3, undef]; rfl), fun w hw => ?_⟩
    refine hp.fin (s' := ⟨A2, s0.n + 1, c2, s0.code ++ [⟨1, y⟩], s0.SA, s0.sn, s0.sc, s0.st⟩) (i' := j) hw (hw.hold 3 rfl) (hw.hold 4 rfl) ?_ ((hp.dat.sts.same (hp.old hw)) fun y hy => .inl hy) ?_ hp.dat.sok (by simp) (by omega) (by simp) (by simp) (by simp)
    · have := Sd.ownNew (hw.rowNew (by simp [Res.foot, snap_foot]))
      dsimp only
      rw [cl_snoc]
      exact this.mono fun y hy => .inr hy
    · intro z hz
      rcases List.mem_append.1 hz with hz | hz
      · exact hp.dat.ok z hz
      · obtain rfl : z = ⟨1, y⟩ := by simpa using hz
        exact ⟨rfl, hy⟩
  refine cv_skip ?_
  try simp only [blockQ, thenQ]
  refine hK _ _ ?_
  clear hK K
  refine cv_region_q rfl ?_
  simp -implicitDefEqProofs (disch := first | omega | decide) only [seval, -Int.reducePow, -Nat.reducePow, cC, pv, binv, sCoW3, undef]
  refine callV_co (x := x) (s := s0) (i := i + 1) hD0 hDE hp.l16 hp.loc hp.first (fun w D hp => local_co x D E s0 (i + 1) 2 w hp (.inl rfl) (by omega) (by omega)) ?_
  intro s1 i1 v1 f1 hD1 ka1 kb1 kc1 kd1 ke1
  simp -implicitDefEqProofs (disch := first | omega | decide) only [seval, -Int.reducePow, -Nat.reducePow, cC, pv, binv, sCoW3, undef]
  refine ⟨_, rfl, fun w hw => ?_⟩
  exact hp.done hw hD1 (by omega) (by omega) (by omega) (by omega) (by omega)
set_option maxHeartbeats 4000000 in
theorem access_co (x : Cx) (D E : Nat → Prop) (s0 : CoS) (i call : Nat) (W : World) (hp : CoPre W D E x s0 i) (hc : call ≤ 100) (hi : i ≤ 700000) (hl : s0.code.length ≤ 8000) :
    Calls Tryz.prog 28 #[.pointer (some ⟨x.b, 0, none⟩), .int .i64 (call : Int)] W (coP x D E 9 30 0 s0 i W) := by
  have hne := hp.ne
  have hD0 := hp.in0
  have hDE := hp.hDE
  have hE := fun y hy => (hp.dom y (.inr hy)).2.2
  refine calls_cv (M := [x.b, x.tb]) (n := 50) [] rfl Tryz.func28 rfl rfl (Nat.le_of_ble_eq_true rfl)  hp.st ?_
  refine cv_seq_k fun K hK => ?_
  refine cv_region_then rfl ?_
  simp -implicitDefEqProofs (disch := first | omega | decide) only [seval, -Int.reducePow, -Nat.reducePow, cC, pv, binv, sCoW3, undef]
  refine callV_co (x := x) (s := s0) (i := i) hD0 hDE hp.l16 hp.loc hp.first (fun w D hp => handle_co x D E s0 i w hp (by omega) (by omega)) ?_
  intro s1 i1 v1 f1 hD1 ka1 kb1 kc1 kd1 ke1
  simp -implicitDefEqProofs (disch := first | omega | decide) only [seval, -Int.reducePow, -Nat.reducePow, cC, pv, binv, sCoW3, undef]
  refine hK _ _ ?_
  clear hK K
  refine cv_seq_k fun K hK => ?_
  refine cv_seq_k fun K hK => ?_
  refine cv_region_then rfl ?_
  simp -implicitDefEqProofs (disch := first | omega | decide) only [seval, -Int.reducePow, -Nat.reducePow, cC, pv, binv, sCoW3, undef]
  refine hK _ _ ?_
  clear hK K
  refine cv_gen fun G4 hG => ?_
  have g4_0 := congrFun hG 0
  have g4_1 := congrFun hG 1
  have g4_6 := congrFun hG 6
  clear hG
  try simp -implicitDefEqProofs (disch := first | omega | decide) only [seval, -Int.reducePow, -Nat.reducePow, cC, pv, binv, sCoW3, undef] at g4_0 g4_1 g4_6
  have g4 := And.intro g4_0 (And.intro g4_1 g4_6)
  refine cv_cut (fun _ _ => True) (fun F' L' => ∃ (s9 : CoS) (i9 : Nat) (v9 : World) (f9 : List Nat), F' 0 = G4 0 ∧ F' 1 = G4 1 ∧ L' = [snap [x.b, x.tb] W v9 f9, coB x s9, coT x i9] ∧ CoD v9 (Dn D f9) E x s9 ∧ s9.code.length ≤ s1.code.length + 5 ∧ i9 ≤ i1 + 16 ∧ s9.st.length ≤ s1.st.length ∧ s1.code.length ≤ s9.code.length ∧ s1.st.length ≤ s9.st.length) ?_ ?_
  · refine cv_block ?_
    refine cv_seq_k fun K hK => ?_
    refine cv_region_then rfl ?_
    simp -implicitDefEqProofs (disch := first | omega | decide) only [seval, -Int.reducePow, -Nat.reducePow, cC, pv, binv, sCoW3, undef, g4]
    refine hK _ _ ?_
    clear hK K
    refine cv_cond ?_
    simp -implicitDefEqProofs (disch := first | omega | decide) only [seval, -Int.reducePow, -Nat.reducePow, cC, pv, binv, sCoW3, undef, g4]
    refine ⟨fun hc => ?_, fun hc => ?_⟩
    · refine cv_region_q rfl ?_
      simp -implicitDefEqProofs (disch := first | omega | decide) only [seval, -Int.reducePow, -Nat.reducePow, cC, pv, binv, sCoW3, undef, g4]
      refine callV_co (x := x) (s := s1) (i := i1) hD1 hDE hp.l16 hp.loc hp.first (fun w D hp => num_co x D E s1 i1 5 w hp (by omega) (by omega) (by omega)) ?_
      intro s2 i2 v2 f2 hD2 ka2 kb2 kc2 kd2 ke2
      simp -implicitDefEqProofs (disch := first | omega | decide) only [seval, -Int.reducePow, -Nat.reducePow, cC, pv, binv, sCoW3, undef, g4]
      refine ⟨s2, i2, v2, f2, ?_⟩
      simp -implicitDefEqProofs (disch := first | omega | decide) only [seval, -Int.reducePow, -Nat.reducePow, cC, pv, binv, sCoW3, undef, g4]
      exact ⟨hD2, by omega⟩
    refine cv_seq_k fun K hK => ?_
    refine cv_region_then rfl ?_
    simp -implicitDefEqProofs (disch := first | omega | decide) only [seval, -Int.reducePow, -Nat.reducePow, cC, pv, binv, sCoW3, undef, g4]
    refine hK _ _ ?_
    clear hK K
    refine cv_cond ?_
    simp -implicitDefEqProofs (disch := first | omega | decide) only [seval, -Int.reducePow, -Nat.reducePow, cC, pv, binv, sCoW3, undef, g4]
    refine ⟨fun hc => ?_, fun hc => ?_⟩
    · refine cv_seq_k fun K hK => ?_
      refine cv_region_then rfl ?_
      simp -implicitDefEqProofs (disch := first | omega | decide) only [seval, -Int.reducePow, -Nat.reducePow, cC, pv, binv, sCoW3, undef, g4]
      refine callV_co (x := x) (s := s1) (i := i1) hD1 hDE hp.l16 hp.loc hp.first (fun w D hp => num_co x D E s1 i1 5 w hp (by omega) (by omega) (by omega)) ?_
      intro s2 i2 v2 f2 hD2 ka2 kb2 kc2 kd2 ke2
      simp -implicitDefEqProofs (disch := first | omega | decide) only [seval, -Int.reducePow, -Nat.reducePow, cC, pv, binv, sCoW3, undef, g4]
      refine hK _ _ ?_
      clear hK K
      refine cv_region_q rfl ?_
      simp -implicitDefEqProofs (disch := first | omega | decide) only [seval, -Int.reducePow, -Nat.reducePow, cC, pv, binv, sCoW3, undef, g4]
      refine callV_co (x := x) (s := s2) (i := i2) hD2 hDE hp.l16 hp.loc hp.first (fun w D hp => num_co x D E s2 i2 300 w hp (by omega) (by omega) (by omega)) ?_
      intro s3 i3 v3 f3 hD3 ka3 kb3 kc3 kd3 ke3
      simp -implicitDefEqProofs (disch := first | omega | decide) only [seval, -Int.reducePow, -Nat.reducePow, cC, pv, binv, sCoW3, undef, g4]
      refine ⟨s3, i3, v3, f3, ?_⟩
      simp -implicitDefEqProofs (disch := first | omega | decide) only [seval, -Int.reducePow, -Nat.reducePow, cC, pv, binv, sCoW3, undef, g4]
      exact ⟨hD3, by omega⟩
    refine cv_seq_k fun K hK => ?_
    refine cv_region_then rfl ?_
    simp -implicitDefEqProofs (disch := first | omega | decide) only [seval, -Int.reducePow, -Nat.reducePow, cC, pv, binv, sCoW3, undef, g4]
    refine hK _ _ ?_
    clear hK K
    refine cv_cond ?_
    simp -implicitDefEqProofs (disch := first | omega | decide) only [seval, -Int.reducePow, -Nat.reducePow, cC, pv, binv, sCoW3, undef, g4]
    refine ⟨fun hc => ?_, fun hc => ?_⟩
    · refine cv_seq_k fun K hK => ?_
      refine cv_region_then rfl ?_
      simp -implicitDefEqProofs (disch := first | omega | decide) only [seval, -Int.reducePow, -Nat.reducePow, cC, pv, binv, sCoW3, undef, g4]
      refine callV_co (x := x) (s := s1) (i := i1) hD1 hDE hp.l16 hp.loc hp.first (fun w D hp => num_co x D E s1 i1 9 w hp (by omega) (by omega) (by omega)) ?_
      intro s2 i2 v2 f2 hD2 ka2 kb2 kc2 kd2 ke2
      simp -implicitDefEqProofs (disch := first | omega | decide) only [seval, -Int.reducePow, -Nat.reducePow, cC, pv, binv, sCoW3, undef, g4]
      refine hK _ _ ?_
      clear hK K
      refine cv_region_q rfl ?_
      simp -implicitDefEqProofs (disch := first | omega | decide) only [seval, -Int.reducePow, -Nat.reducePow, cC, pv, binv, sCoW3, undef, g4]
      refine callV_co (x := x) (s := s2) (i := i2) hD2 hDE hp.l16 hp.loc hp.first (fun w D hp => num_co x D E s2 i2 10 w hp (by omega) (by omega) (by omega)) ?_
      intro s3 i3 v3 f3 hD3 ka3 kb3 kc3 kd3 ke3
      simp -implicitDefEqProofs (disch := first | omega | decide) only [seval, -Int.reducePow, -Nat.reducePow, cC, pv, binv, sCoW3, undef, g4]
      refine ⟨s3, i3, v3, f3, ?_⟩
      simp -implicitDefEqProofs (disch := first | omega | decide) only [seval, -Int.reducePow, -Nat.reducePow, cC, pv, binv, sCoW3, undef, g4]
      exact ⟨hD3, by omega⟩
    refine cv_seq_k fun K hK => ?_
    refine cv_region_then rfl ?_
    simp -implicitDefEqProofs (disch := first | omega | decide) only [seval, -Int.reducePow, -Nat.reducePow, cC, pv, binv, sCoW3, undef, g4]
    refine hK _ _ ?_
    clear hK K
    refine cv_cond ?_
    simp -implicitDefEqProofs (disch := first | omega | decide) only [seval, -Int.reducePow, -Nat.reducePow, cC, pv, binv, sCoW3, undef, g4]
    refine ⟨fun hc => ?_, fun hc => ?_⟩
    · refine cv_seq_k fun K hK => ?_
      refine cv_region_then rfl ?_
      simp -implicitDefEqProofs (disch := first | omega | decide) only [seval, -Int.reducePow, -Nat.reducePow, cC, pv, binv, sCoW3, undef, g4]
      refine callV_co (x := x) (s := s1) (i := i1) hD1 hDE hp.l16 hp.loc hp.first (fun w D hp => num_co x D E s1 i1 9 w hp (by omega) (by omega) (by omega)) ?_
      intro s2 i2 v2 f2 hD2 ka2 kb2 kc2 kd2 ke2
      simp -implicitDefEqProofs (disch := first | omega | decide) only [seval, -Int.reducePow, -Nat.reducePow, cC, pv, binv, sCoW3, undef, g4]
      refine hK _ _ ?_
      clear hK K
      refine cv_seq_k fun K hK => ?_
      refine cv_region_then rfl ?_
      simp -implicitDefEqProofs (disch := first | omega | decide) only [seval, -Int.reducePow, -Nat.reducePow, cC, pv, binv, sCoW3, undef, g4]
      refine callV_co (x := x) (s := s2) (i := i2) hD2 hDE hp.l16 hp.loc hp.first (fun w D hp => num_co x D E s2 i2 10 w hp (by omega) (by omega) (by omega)) ?_
      intro s3 i3 v3 f3 hD3 ka3 kb3 kc3 kd3 ke3
      simp -implicitDefEqProofs (disch := first | omega | decide) only [seval, -Int.reducePow, -Nat.reducePow, cC, pv, binv, sCoW3, undef, g4]
      refine hK _ _ ?_
      clear hK K
      refine cv_region_q rfl ?_
      simp -implicitDefEqProofs (disch := first | omega | decide) only [seval, -Int.reducePow, -Nat.reducePow, cC, pv, binv, sCoW3, undef, g4]
      refine callV_co (x := x) (s := s3) (i := i3) hD3 hDE hp.l16 hp.loc hp.first (fun w D hp => local_co x D E s3 i3 2 w hp (.inl rfl) (by omega) (by omega)) ?_
      intro s4 i4 v4 f4 hD4 ka4 kb4 kc4 kd4 ke4
      simp -implicitDefEqProofs (disch := first | omega | decide) only [seval, -Int.reducePow, -Nat.reducePow, cC, pv, binv, sCoW3, undef, g4]
      refine ⟨s4, i4, v4, f4, ?_⟩
      simp -implicitDefEqProofs (disch := first | omega | decide) only [seval, -Int.reducePow, -Nat.reducePow, cC, pv, binv, sCoW3, undef, g4]
      exact ⟨hD4, by omega⟩
    refine cv_seq_k fun K hK => ?_
    refine cv_region_then rfl ?_
    simp -implicitDefEqProofs (disch := first | omega | decide) only [seval, -Int.reducePow, -Nat.reducePow, cC, pv, binv, sCoW3, undef, g4]
    refine hK _ _ ?_
    clear hK K
    refine cv_cond ?_
    simp -implicitDefEqProofs (disch := first | omega | decide) only [seval, -Int.reducePow, -Nat.reducePow, cC, pv, binv, sCoW3, undef, g4]
    refine ⟨fun hc => ?_, fun hc => ?_⟩
    · refine cv_seq_k fun K hK => ?_
      refine cv_region_then rfl ?_
      simp -implicitDefEqProofs (disch := first | omega | decide) only [seval, -Int.reducePow, -Nat.reducePow, cC, pv, binv, sCoW3, undef, g4]
      refine callV_co (x := x) (s := s1) (i := i1) hD1 hDE hp.l16 hp.loc hp.first (fun w D hp => num_co x D E s1 i1 9 w hp (by omega) (by omega) (by omega)) ?_
      intro s2 i2 v2 f2 hD2 ka2 kb2 kc2 kd2 ke2
      simp -implicitDefEqProofs (disch := first | omega | decide) only [seval, -Int.reducePow, -Nat.reducePow, cC, pv, binv, sCoW3, undef, g4]
      refine hK _ _ ?_
      clear hK K
      refine cv_seq_k fun K hK => ?_
      refine cv_region_then rfl ?_
      simp -implicitDefEqProofs (disch := first | omega | decide) only [seval, -Int.reducePow, -Nat.reducePow, cC, pv, binv, sCoW3, undef, g4]
      refine callV_co (x := x) (s := s2) (i := i2) hD2 hDE hp.l16 hp.loc hp.first (fun w D hp => handle_co x D E s2 i2 w hp (by omega) (by omega)) ?_
      intro s3 i3 v3 f3 hD3 ka3 kb3 kc3 kd3 ke3
      simp -implicitDefEqProofs (disch := first | omega | decide) only [seval, -Int.reducePow, -Nat.reducePow, cC, pv, binv, sCoW3, undef, g4]
      refine hK _ _ ?_
      clear hK K
      refine cv_seq_k fun K hK => ?_
      refine cv_region_then rfl ?_
      simp -implicitDefEqProofs (disch := first | omega | decide) only [seval, -Int.reducePow, -Nat.reducePow, cC, pv, binv, sCoW3, undef, g4]
      refine callV_co (x := x) (s := s3) (i := i3) hD3 hDE hp.l16 hp.loc hp.first (fun w D hp => num_co x D E s3 i3 9 w hp (by omega) (by omega) (by omega)) ?_
      intro s4 i4 v4 f4 hD4 ka4 kb4 kc4 kd4 ke4
      simp -implicitDefEqProofs (disch := first | omega | decide) only [seval, -Int.reducePow, -Nat.reducePow, cC, pv, binv, sCoW3, undef, g4]
      refine hK _ _ ?_
      clear hK K
      refine cv_region_q rfl ?_
      simp -implicitDefEqProofs (disch := first | omega | decide) only [seval, -Int.reducePow, -Nat.reducePow, cC, pv, binv, sCoW3, undef, g4]
      refine callV_co (x := x) (s := s4) (i := i4) hD4 hDE hp.l16 hp.loc hp.first (fun w D hp => num_co x D E s4 i4 9 w hp (by omega) (by omega) (by omega)) ?_
      intro s5 i5 v5 f5 hD5 ka5 kb5 kc5 kd5 ke5
      simp -implicitDefEqProofs (disch := first | omega | decide) only [seval, -Int.reducePow, -Nat.reducePow, cC, pv, binv, sCoW3, undef, g4]
      refine ⟨s5, i5, v5, f5, ?_⟩
      simp -implicitDefEqProofs (disch := first | omega | decide) only [seval, -Int.reducePow, -Nat.reducePow, cC, pv, binv, sCoW3, undef, g4]
      exact ⟨hD5, by omega⟩
    refine cv_seq_k fun K hK => ?_
    refine cv_cut (fun _ _ => True) (fun F' L' => F' 0 = G4 0 ∧ F' 1 = G4 1 ∧ F' 6 = G4 6 ∧ F' 41 = .bool (decide (call = 8 ∨ call = 9 ∨ call = 10)) ∧ L' = [snap [x.b, x.tb] W v1 f1, coB x s1, coT x i1]) ?_ ?_
    · refine cv_seq_k fun K hK => ?_
      refine cv_region_then rfl ?_
      simp -implicitDefEqProofs (disch := first | omega | decide) only [seval, -Int.reducePow, -Nat.reducePow, cC, pv, binv, sCoW3, undef, g4]
      refine hK _ _ ?_
      clear hK K
      refine cv_cond ?_
      simp -implicitDefEqProofs (disch := first | omega | decide) only [seval, -Int.reducePow, -Nat.reducePow, cC, pv, binv, sCoW3, undef, g4]
      refine ⟨fun hc => ?_, fun hc => ?_⟩
      · have q0 := of_decide_eq_true ‹_›
        refine cv_skip ?_
        try simp only [blockQ, thenQ]
        simp -implicitDefEqProofs (disch := first | omega | decide) only [seval, -Int.reducePow, -Nat.reducePow, cC, pv, binv, sCoW3, undef, g4]
        all_goals (repeat' refine And.intro ?_ ?_)
        all_goals (first | with_reducible rfl | (refine congrArg Value.bool ?_; rw [Bool.eq_iff_iff]; (try simp only [decide_eq_true_eq, eq_self, true_and, and_true, false_and, and_false, true_or, or_true, false_or, or_false, not_true_eq_false, not_false_eq_true, true_iff, iff_true, false_iff, iff_false, Bool.false_eq_true, Bool.not_eq_true', Bool.not_eq_true, decide_eq_false_iff_not, Bool.and_eq_true, Bool.or_eq_true]) <;> omega) | (refine congrArg (Value.int _) ?_; omega) | omega)
      have q0 := of_decide_eq_false ‹_›
      refine cv_seq_k fun K hK => ?_
      refine cv_region_then rfl ?_
      simp -implicitDefEqProofs (disch := first | omega | decide) only [seval, -Int.reducePow, -Nat.reducePow, cC, pv, binv, sCoW3, undef, g4]
      refine hK _ _ ?_
      clear hK K
      refine cv_cond ?_
      simp -implicitDefEqProofs (disch := first | omega | decide) only [seval, -Int.reducePow, -Nat.reducePow, cC, pv, binv, sCoW3, undef, g4]
      refine ⟨fun hc => ?_, fun hc => ?_⟩
      · have q1 := of_decide_eq_true ‹_›
        refine cv_skip ?_
        try simp only [blockQ, thenQ]
        simp -implicitDefEqProofs (disch := first | omega | decide) only [seval, -Int.reducePow, -Nat.reducePow, cC, pv, binv, sCoW3, undef, g4]
        all_goals (repeat' refine And.intro ?_ ?_)
        all_goals (first | with_reducible rfl | (refine congrArg Value.bool ?_; rw [Bool.eq_iff_iff]; (try simp only [decide_eq_true_eq, eq_self, true_and, and_true, false_and, and_false, true_or, or_true, false_or, or_false, not_true_eq_false, not_false_eq_true, true_iff, iff_true, false_iff, iff_false, Bool.false_eq_true, Bool.not_eq_true', Bool.not_eq_true, decide_eq_false_iff_not, Bool.and_eq_true, Bool.or_eq_true]) <;> omega) | (refine congrArg (Value.int _) ?_; omega) | omega)
      have q1 := of_decide_eq_false ‹_›
      refine cv_region_q rfl ?_
      simp -implicitDefEqProofs (disch := first | omega | decide) only [seval, -Int.reducePow, -Nat.reducePow, cC, pv, binv, sCoW3, undef, g4]
      all_goals (repeat' refine And.intro ?_ ?_)
      all_goals (first | with_reducible rfl | (refine congrArg Value.bool ?_; rw [Bool.eq_iff_iff]; (try simp only [decide_eq_true_eq, eq_self, true_and, and_true, false_and, and_false, true_or, or_true, false_or, or_false, not_true_eq_false, not_false_eq_true, true_iff, iff_true, false_iff, iff_false, Bool.false_eq_true, Bool.not_eq_true', Bool.not_eq_true, decide_eq_false_iff_not, Bool.and_eq_true, Bool.or_eq_true]) <;> omega) | (refine congrArg (Value.int _) ?_; omega) | omega)
    intro G5 L' _ hF
    obtain ⟨q0, q1, q6, q41, rfl⟩ := hF
    have g5_0 := q0.trans g4_0
    have g5_1 := q1.trans g4_1
    have g5_6 := q6.trans g4_6
    have g5_41 := q41
    clear q0 q1 q6 q41
    have g5 := And.intro g5_0 (And.intro g5_1 (And.intro g5_6 g5_41))
    refine hK _ _ ?_
    clear hK K
    refine cv_cond ?_
    simp -implicitDefEqProofs (disch := first | omega | decide) only [seval, -Int.reducePow, -Nat.reducePow, cC, pv, binv, sCoW3, undef, g4, g5]
    refine ⟨fun hc => ?_, fun hc => ?_⟩
    · refine cv_region_q rfl ?_
      simp -implicitDefEqProofs (disch := first | omega | decide) only [seval, -Int.reducePow, -Nat.reducePow, cC, pv, binv, sCoW3, undef, g4, g5]
      refine callV_co (x := x) (s := s1) (i := i1) hD1 hDE hp.l16 hp.loc hp.first (fun w D hp => num_co x D E s1 i1 4 w hp (by omega) (by omega) (by omega)) ?_
      intro s2 i2 v2 f2 hD2 ka2 kb2 kc2 kd2 ke2
      simp -implicitDefEqProofs (disch := first | omega | decide) only [seval, -Int.reducePow, -Nat.reducePow, cC, pv, binv, sCoW3, undef, g4, g5]
      refine ⟨s2, i2, v2, f2, ?_⟩
      simp -implicitDefEqProofs (disch := first | omega | decide) only [seval, -Int.reducePow, -Nat.reducePow, cC, pv, binv, sCoW3, undef, g4, g5]
      exact ⟨hD2, by omega⟩
    refine cv_skip ?_
    try simp only [blockQ, thenQ]
    refine ⟨s1, i1, v1, f1, ?_⟩
    simp -implicitDefEqProofs (disch := first | omega | decide) only [seval, -Int.reducePow, -Nat.reducePow, cC, pv, binv, sCoW3, undef, g4, g5]
    exact ⟨hD1, by omega⟩
  intro G6 L' _ hF
  obtain ⟨s9, i9, v9, f9, q0, q1, rfl, ⟨hD9, k1, k2, k3, k4, k5⟩⟩ := hF
  have g6_0 := q0.trans g4_0
  have g6_1 := q1.trans g4_1
  clear q0 q1
  have g6 := And.intro g6_0 g6_1
  refine hK _ _ ?_
  clear hK K
  refine cv_region_q rfl ?_
  simp -implicitDefEqProofs (disch := first | omega | decide) only [seval, -Int.reducePow, -Nat.reducePow, cC, pv, binv, sCoW3, undef, g6]
  refine callV_co (x := x) (s := s9) (i := i9) hD9 hDE hp.l16 hp.loc hp.first (fun w D hp => host_co x D E s9 i9 call w hp hc (by omega) (by omega)) ?_
  intro s10 i10 v10 f10 hD10 ka10 kb10 kc10 kd10 ke10
  simp -implicitDefEqProofs (disch := first | omega | decide) only [seval, -Int.reducePow, -Nat.reducePow, cC, pv, binv, sCoW3, undef, g6]
  refine ⟨_, rfl, fun w hw => ?_⟩
  exact hp.done hw hD10 (by omega) (by omega) (by omega) (by omega) (by omega)
end Go.Proofs.YtlbmnioibiomfaaGreat
/- The coder's statements. -/
namespace Go.Proofs.YtlbmnioibiomfaaGreat
open Go.RowKit Go.Shelf
set_option linter.unusedVariables false
set_option linter.unusedSimpArgs false
set_option maxRecDepth 100000
theorem CoPre.oldE {W w : World} {D E : Nat → Prop} {x : Cx} {s : CoS} {i : Nat} {L : List Res} (h0 : CoPre W D E x s i) (hw : St [x.b, x.tb] W L w) : ∀ y, E y → w.heap[y]? = W.heap[y]? := fun y hy => by
  have := h0.dom y (.inr hy)
  exact hw.pres.block y this.1 (by simp [this])
/-- A statement's beginning is noted. -/
theorem CoPre.note {W v : World} {D E : Nat → Prop} {x : Cx} {s s1 : CoS} {i : Nat} {L : List Res} {f : List Nat} (h0 : CoPre W D E x s i) (hv : St [x.b, x.tb] W L v) (hst : Sd v (Dn D f) 1 s1.SA s1.sn s1.sc (i64c s1.st)) (e1 : s1.A = s.A) (e2 : s1.n = s.n) (e3 : s1.c = s.c) (e4 : s1.code = s.code) (sok : ∀ y ∈ s1.st, y ≤ 100000) : CoD v (Dn D f) E x s1 :=
  ⟨by rw [e1, e2, e3, e4]; exact h0.dat.code.same (h0.old hv) fun y hy => .inr hy, hst, h0.dat.tape.same (h0.oldE hv) fun _ h => h, by rw [e4]; exact h0.dat.ok, sok⟩
set_option maxRecDepth 100000 in
theorem sCoS1 : type_of% (And.intro (And.intro (And.intro @coB.eq_1 @coT.eq_1) (And.intro @coC.eq_1 @tape.eq_1)) (And.intro (And.intro @tpBox.eq_1 @cS) (And.intro @Nat.mul_one @cT))) := (And.intro (And.intro (And.intro @coB.eq_1 @coT.eq_1) (And.intro @coC.eq_1 @tape.eq_1)) (And.intro (And.intro @tpBox.eq_1 @cS) (And.intro @Nat.mul_one @cT)))
set_option maxHeartbeats 8000000 in
theorem statement_co (x : Cx) (D E : Nat → Prop) (s0 : CoS) (i : Nat) (W : World) (hp : CoPre W D E x s0 i) (hi : i ≤ 600000) (hl : s0.code.length ≤ 7000) (hl2 : s0.st.length ≤ 7000) :
    Calls Tryz.prog 14 #[.pointer (some ⟨x.b, 0, none⟩)] W (coP x D E 12 50 1 s0 i W) := by
  have hne := hp.ne
  have hD0 := hp.in0
  have hDE := hp.hDE
  have hE := fun y hy => (hp.dom y (.inr hy)).2.2
  have hln : s0.code.length = s0.n := cl_row insc_len (by omega) hD0.code.len
  have hlm : s0.st.length = s0.sn := i64_row hD0.sts.len
  refine calls_cv (M := [x.b, x.tb]) (n := 108) [] rfl Tryz.func14 rfl rfl (Nat.le_of_ble_eq_true rfl)  hp.st ?_
  refine cv_gen fun G1 hG => ?_
  have g1_0 := congrFun hG 0
  clear hG
  try simp -implicitDefEqProofs (disch := first | omega | decide) only [seval, -Int.reducePow, -Nat.reducePow, cC, pv, binv, sCoS1, undef] at g1_0
  have g1 := g1_0
  refine cv_seq_k fun K hK => ?_
  refine cv_cut (fun _ _ => True) (fun F' L' => ∃ (A2 : Option Addr) (c2 : Nat), F' 0 = G1 0 ∧ L' = [.row (.slice A2 (s0.sn + 1) c2) 3 1 (s0.sn + 1) (i64c (s0.st ++ [s0.n])), snap [x.b, x.tb] W W [], .blk x.b 54 [.pointer (some ⟨x.tb, 0, none⟩), .slice s0.A s0.n s0.c, .slice A2 (s0.sn + 1) c2, .int .i64 (x.loc : Int), .int .i64 (x.fns : Int), .int .u32 (x.first : Int)], coT x i]) ?_ ?_
  · refine cv_q ?_
    refine cv_tree [0, 1, 2] (by decide) (by simp only [pickL, nth, suf_cons, suf_nil, List.mem_cons, true_or, or_true, and_true, eq_self]) (.rd 0 (.rd 2 (.rd 3 (.rd 4 (.rd 5 (.rd 7 (.rd 8 (.rd 9 (.rd 10 (.rd 11 (.alt 1 12 (.alt 6 12 (.act 12 (.act 13 (.rd 14 (.rd 15 (.act 16 (.done)))))) (.act 6 (.act 13 (.rd 14 (.rd 15 (.act 16 (.done))))))) (.act 1 (.act 6 (.act 13 (.rd 14 (.rd 15 (.act 16 (.done)))))))))))))))))) [16] mixA rfl (by kernel_rfl) (by kernel_rfl) (by kernel_rfl) (by kernel_rfl) ?_
    simp only [pickL, nth]
    simp -implicitDefEqProofs (disch := first | omega | decide) only [seval, -Int.reducePow, -Nat.reducePow, cC, pv, binv, sCoS1, undef, g1]
    refine ⟨?_, ?_⟩
    · intro b7 hb7 h7
      refine ⟨?_, ?_⟩
      · refine appV_lit 0 tap52 rfl rfl (fun w hw => by exact (hD0.sd hDE hw 1 rfl).reads) (ones_i64 _) (by omega) (by omega) ?_
        intro A1 c1 hl1 hr1
        simp -implicitDefEqProofs (disch := first | omega | decide) only [seval, -Int.reducePow, -Nat.reducePow, cC, pv, binv, sCoS1, undef, g1]
        intro b8 hb8 h8
        refine appV_at 1 tap52 rfl (fun w hw => src_blk (size := 1) (.head _) rfl hw) rfl (by omega) (by omega) ?_
        intro A2 c2 hl2 hr2
        simp -implicitDefEqProofs (disch := first | omega | decide) only [seval, -Int.reducePow, -Nat.reducePow, cC, pv, binv, sCoS1, undef, g1]
        refine ⟨[0, 2, 3, 4], by decide, ?_⟩
        simp only [pickL, nth]
        refine ⟨A2, c2, ?_⟩
        simp -implicitDefEqProofs (disch := first | omega | decide) only [seval, -Int.reducePow, -Nat.reducePow, cC, pv, binv, sCoS1, undef, i64_snoc, g1]
      · intro b8 hb8 h8
        refine appV_lit 1 tap52 rfl rfl (fun w hw => by exact (hD0.sd hDE hw 2 rfl).reads) (ones_i64 _) (by omega) (by omega) ?_
        intro A1 c1 hl1 hr1
        simp -implicitDefEqProofs (disch := first | omega | decide) only [seval, -Int.reducePow, -Nat.reducePow, cC, pv, binv, sCoS1, undef, g1]
        refine appV_at 0 tap52 rfl (fun w hw => src_blk (size := 1) (.tail _ (.head _)) rfl hw) rfl (by omega) (by omega) ?_
        intro A2 c2 hl2 hr2
        simp -implicitDefEqProofs (disch := first | omega | decide) only [seval, -Int.reducePow, -Nat.reducePow, cC, pv, binv, sCoS1, undef, g1]
        refine ⟨[0, 2, 3, 4], by decide, ?_⟩
        simp only [pickL, nth]
        refine ⟨A2, c2, ?_⟩
        simp -implicitDefEqProofs (disch := first | omega | decide) only [seval, -Int.reducePow, -Nat.reducePow, cC, pv, binv, sCoS1, undef, i64_snoc, g1]
    · intro b7 hb7 h7 b8 hb8 h8
      refine appV_lit 0 tap52 rfl rfl (fun w hw => by exact (hD0.sd hDE hw 2 rfl).reads) (ones_i64 _) (by omega) (by omega) ?_
      intro A1 c1 hl1 hr1
      simp -implicitDefEqProofs (disch := first | omega | decide) only [seval, -Int.reducePow, -Nat.reducePow, cC, pv, binv, sCoS1, undef, g1]
      refine appV_at 0 tap52 rfl (fun w hw => src_blk (size := 1) (.tail _ (.head _)) rfl hw) rfl (by omega) (by omega) ?_
      intro A2 c2 hl2 hr2
      simp -implicitDefEqProofs (disch := first | omega | decide) only [seval, -Int.reducePow, -Nat.reducePow, cC, pv, binv, sCoS1, undef, g1]
      refine ⟨[0, 2, 3, 4], by decide, ?_⟩
      simp only [pickL, nth]
      refine ⟨A2, c2, ?_⟩
      simp -implicitDefEqProofs (disch := first | omega | decide) only [seval, -Int.reducePow, -Nat.reducePow, cC, pv, binv, sCoS1, undef, i64_snoc, g1]
  intro G2 L' _ hF
  obtain ⟨A2, c2, q0, rfl⟩ := hF
  have g2_0 := q0.trans g1_0
  clear q0
  have g2 := g2_0
  refine hK _ _ ?_
  clear hK K
  refine cv_snap [2, 3] (by decide) fun v1 f1 hv1 hf1 => ?_
  simp only [pickL, nth]
  obtain ⟨s1, hs1⟩ : ∃ s : CoS, s = ⟨s0.A, s0.n, s0.c, s0.code, A2, s0.sn + 1, c2, s0.st ++ [s0.n]⟩ := ⟨_, rfl⟩
  have hD1 : CoD v1 (Dn D f1) E x s1 := by
    subst hs1
    refine hp.note hv1 (Sd.of_own (hv1.holds _ (.head _)) fun g hg => .inl (hv1.footK hf1 (k := 0) rfl (by decide) (by simp [pickL, nth, Res.foot, coT]) g (by simpa [Res.foot] using hg))) rfl rfl rfl rfl ?_
    intro y hy
    rcases List.mem_append.1 hy with hy | hy
    · exact hp.dat.sok y hy
    · obtain rfl : y = s0.n := by simpa using hy
      omega
  have h1c : s1.code.length = s0.code.length := by rw [hs1]
  have h1s : s1.st.length = s0.st.length + 1 := by rw [hs1]; simp
  refine cv_eq (L' := [snap [x.b, x.tb] W v1 f1, coB x s1, coT x i]) (by rw [hs1]; rfl) ?_
  clear hs1 hv1 hf1
  refine cv_seq_k fun K hK => ?_
  refine cv_region_then rfl ?_
  simp -implicitDefEqProofs (disch := first | omega | decide) only [seval, -Int.reducePow, -Nat.reducePow, cC, pv, binv, sCoS1, undef, g2]
  refine callV_mod1 2 (fun w hw => next_anyN x.tb x.TA x.tn x.tc x.l i 20 w (hw.hold 2 rfl) (hD1.tp hDE hw 0 rfl) (hD1.tapt hE) hp.l16 (by omega) (by omega)) rfl ?_
  try simp -implicitDefEqProofs (disch := first | omega | decide) only [seval, -Int.reducePow, -Nat.reducePow, cC, pv, binv, sCoS1, undef, g2]
  refine hK _ _ ?_
  clear hK K
  refine cv_gen fun G3 hG => ?_
  have g3_0 := congrFun hG 0
  have g3_2 := congrFun hG 2
  clear hG
  try simp -implicitDefEqProofs (disch := first | omega | decide) only [seval, -Int.reducePow, -Nat.reducePow, cC, pv, binv, sCoS1, undef, g2] at g3_0 g3_2
  have g3 := And.intro g3_0 g3_2
  have hk20 := nextF_lt (l := x.l) (i := i) (m := 20) (by omega)
  generalize hk : nextF x.l i 20 = k at *
  obtain ⟨i1, hi1⟩ : ∃ j, i + 1 = j := ⟨_, rfl⟩
  rw [hi1]
  refine cv_block ?_
  refine cv_seq_k fun K hK => ?_
  refine cv_region_then rfl ?_
  simp -implicitDefEqProofs (disch := first | omega | decide) only [seval, -Int.reducePow, -Nat.reducePow, cC, pv, binv, sCoS1, undef, g3]
  refine hK _ _ ?_
  clear hK K
  refine cv_cond ?_
  simp -implicitDefEqProofs (disch := first | omega | decide) only [seval, -Int.reducePow, -Nat.reducePow, cC, pv, binv, sCoS1, undef, g3]
  refine ⟨fun hc => ?_, fun hc => ?_⟩
  · refine cv_seq_k fun K hK => ?_
    refine cv_region_then rfl ?_
    simp -implicitDefEqProofs (disch := first | omega | decide) only [seval, -Int.reducePow, -Nat.reducePow, cC, pv, binv, sCoS1, undef, g3]
    refine callV_co (x := x) (s := s1) (i := i1) hD1 hDE hp.l16 hp.loc hp.first (fun w D hp => num_co x D E s1 i1 4 w hp (by omega) (by omega) (by omega)) ?_
    intro s2 i2 v2 f2 hD2 ka2 kb2 kc2 kd2 ke2
    simp -implicitDefEqProofs (disch := first | omega | decide) only [seval, -Int.reducePow, -Nat.reducePow, cC, pv, binv, sCoS1, undef, g3]
    refine hK _ _ ?_
    clear hK K
    refine cv_seq_k fun K hK => ?_
    refine cv_region_then rfl ?_
    simp -implicitDefEqProofs (disch := first | omega | decide) only [seval, -Int.reducePow, -Nat.reducePow, cC, pv, binv, sCoS1, undef, g3]
    refine callV_co (x := x) (s := s2) (i := i2) hD2 hDE hp.l16 hp.loc hp.first (fun w D hp => put_co x D E s2 i2 23 1 w hp (by decide) (.inl (by decide)) (by omega) (by omega)) ?_
    intro s3 i3 v3 f3 hD3 ka3 kb3 kc3 kd3 ke3
    simp -implicitDefEqProofs (disch := first | omega | decide) only [seval, -Int.reducePow, -Nat.reducePow, cC, pv, binv, sCoS1, undef, g3]
    refine hK _ _ ?_
    clear hK K
    refine cv_seq_k fun K hK => ?_
    refine cv_region_then rfl ?_
    simp -implicitDefEqProofs (disch := first | omega | decide) only [seval, -Int.reducePow, -Nat.reducePow, cC, pv, binv, sCoS1, undef, g3]
    refine callV_co (x := x) (s := s3) (i := i3) hD3 hDE hp.l16 hp.loc hp.first (fun w D hp => put_co x D E s3 i3 4 0 w hp (by decide) (.inr rfl) (by omega) (by omega)) ?_
    intro s4 i4 v4 f4 hD4 ka4 kb4 kc4 kd4 ke4
    simp -implicitDefEqProofs (disch := first | omega | decide) only [seval, -Int.reducePow, -Nat.reducePow, cC, pv, binv, sCoS1, undef, g3]
    refine hK _ _ ?_
    clear hK K
    refine cv_region_q rfl ?_
    simp -implicitDefEqProofs (disch := first | omega | decide) only [seval, -Int.reducePow, -Nat.reducePow, cC, pv, binv, sCoS1, undef, g3]
    refine callV_co (x := x) (s := s4) (i := i4) hD4 hDE hp.l16 hp.loc hp.first (fun w D hp => local_co x D E s4 i4 3 w hp (by decide) (by omega) (by omega)) ?_
    intro s5 i5 v5 f5 hD5 ka5 kb5 kc5 kd5 ke5
    simp -implicitDefEqProofs (disch := first | omega | decide) only [seval, -Int.reducePow, -Nat.reducePow, cC, pv, binv, sCoS1, undef, g3]
    refine ⟨_, rfl, fun w hw => ?_⟩
    exact hp.done hw hD5 (by omega) (by omega) (by omega) (by omega) (by omega)
  have q0 := of_decide_eq_false ‹_›
  refine cv_seq_k fun K hK => ?_
  refine cv_region_then rfl ?_
  simp -implicitDefEqProofs (disch := first | omega | decide) only [seval, -Int.reducePow, -Nat.reducePow, cC, pv, binv, sCoS1, undef, g3]
  refine hK _ _ ?_
  clear hK K
  refine cv_cond ?_
  simp -implicitDefEqProofs (disch := first | omega | decide) only [seval, -Int.reducePow, -Nat.reducePow, cC, pv, binv, sCoS1, undef, g3]
  refine ⟨fun hc => ?_, fun hc => ?_⟩
  · have q1 := of_decide_eq_true ‹_›
    have e2 : IntKind.i64.wrap ((k : Int) - 2) = ((k - 2 : Nat) : Int) := by rw [wrap_in (by omega) (by omega)]; omega
    refine cv_region_q rfl ?_
    simp -implicitDefEqProofs (disch := first | omega | decide) only [seval, -Int.reducePow, -Nat.reducePow, cC, pv, binv, sCoS1, undef, e2, g3]
    refine callV_co (x := x) (s := s1) (i := i1) hD1 hDE hp.l16 hp.loc hp.first (fun w D hp => access_co x D E s1 i1 (k - 2) w hp (by omega) (by omega) (by omega)) ?_
    intro s2 i2 v2 f2 hD2 ka2 kb2 kc2 kd2 ke2
    simp -implicitDefEqProofs (disch := first | omega | decide) only [seval, -Int.reducePow, -Nat.reducePow, cC, pv, binv, sCoS1, undef, g3]
    refine ⟨_, rfl, fun w hw => ?_⟩
    exact hp.done hw hD2 (by omega) (by omega) (by omega) (by omega) (by omega)
  have q1 := of_decide_eq_false ‹_›
  refine cv_seq_k fun K hK => ?_
  refine cv_region_then rfl ?_
  simp -implicitDefEqProofs (disch := first | omega | decide) only [seval, -Int.reducePow, -Nat.reducePow, cC, pv, binv, sCoS1, undef, g3]
  refine hK _ _ ?_
  clear hK K
  refine cv_cond ?_
  simp -implicitDefEqProofs (disch := first | omega | decide) only [seval, -Int.reducePow, -Nat.reducePow, cC, pv, binv, sCoS1, undef, g3]
  refine ⟨fun hc => ?_, fun hc => ?_⟩
  · refine cv_seq_k fun K hK => ?_
    refine cv_region_then rfl ?_
    simp -implicitDefEqProofs (disch := first | omega | decide) only [seval, -Int.reducePow, -Nat.reducePow, cC, pv, binv, sCoS1, undef, g3]
    refine callV_co (x := x) (s := s1) (i := i1) hD1 hDE hp.l16 hp.loc hp.first (fun w D hp => local_co x D E s1 i1 2 w hp (by decide) (by omega) (by omega)) ?_
    intro s2 i2 v2 f2 hD2 ka2 kb2 kc2 kd2 ke2
    simp -implicitDefEqProofs (disch := first | omega | decide) only [seval, -Int.reducePow, -Nat.reducePow, cC, pv, binv, sCoS1, undef, g3]
    refine hK _ _ ?_
    clear hK K
    refine cv_seq_k fun K hK => ?_
    refine cv_region_then rfl ?_
    simp -implicitDefEqProofs (disch := first | omega | decide) only [seval, -Int.reducePow, -Nat.reducePow, cC, pv, binv, sCoS1, undef, g3]
    refine callV_co (x := x) (s := s2) (i := i2) hD2 hDE hp.l16 hp.loc hp.first (fun w D hp => num_co x D E s2 i2 70 w hp (by omega) (by omega) (by omega)) ?_
    intro s3 i3 v3 f3 hD3 ka3 kb3 kc3 kd3 ke3
    simp -implicitDefEqProofs (disch := first | omega | decide) only [seval, -Int.reducePow, -Nat.reducePow, cC, pv, binv, sCoS1, undef, g3]
    refine hK _ _ ?_
    clear hK K
    have hn12 := nextF_lt (l := x.l) (i := i3) (m := 12) (by omega)
    have e6 : IntKind.i64.wrap (6 + ((nextF x.l i3 12 : Nat) : Int)) = ((6 + nextF x.l i3 12 : Nat) : Int) := by rw [wrap_in (by omega) (by omega)]; omega
    refine cv_seq_k fun K hK => ?_
    refine cv_region_then rfl ?_
    simp -implicitDefEqProofs (disch := first | omega | decide) only [seval, -Int.reducePow, -Nat.reducePow, cC, pv, binv, sCoS1, undef, g3]
    refine callV_mod1 2 (fun w hw => next_anyN x.tb x.TA x.tn x.tc x.l i3 12 w (hw.hold 2 rfl) (hD3.tp hDE hw 0 rfl) (hD3.tapt hE) hp.l16 (by omega) (by omega)) rfl ?_
    try simp -implicitDefEqProofs (disch := first | omega | decide) only [seval, -Int.reducePow, -Nat.reducePow, cC, pv, binv, sCoS1, undef, e6, g3]
    refine callV_co (x := x) (s := s3) (i := i3 + 1) hD3 hDE hp.l16 hp.loc hp.first (fun w D hp => put_co x D E s3 (i3 + 1) ((6 + nextF x.l i3 12 : Nat) : Int) 0 w hp (by unfold knownP; omega) (.inr rfl) (by omega) (by omega)) ?_
    intro s4 i4 v4 f4 hD4 ka4 kb4 kc4 kd4 ke4
    simp -implicitDefEqProofs (disch := first | omega | decide) only [seval, -Int.reducePow, -Nat.reducePow, cC, pv, binv, sCoS1, undef, g3]
    refine hK _ _ ?_
    clear hK K
    refine cv_region_q rfl ?_
    simp -implicitDefEqProofs (disch := first | omega | decide) only [seval, -Int.reducePow, -Nat.reducePow, cC, pv, binv, sCoS1, undef, g3]
    refine callV_co (x := x) (s := s4) (i := i4) hD4 hDE hp.l16 hp.loc hp.first (fun w D hp => local_co x D E s4 i4 3 w hp (by decide) (by omega) (by omega)) ?_
    intro s5 i5 v5 f5 hD5 ka5 kb5 kc5 kd5 ke5
    simp -implicitDefEqProofs (disch := first | omega | decide) only [seval, -Int.reducePow, -Nat.reducePow, cC, pv, binv, sCoS1, undef, g3]
    refine ⟨_, rfl, fun w hw => ?_⟩
    exact hp.done hw hD5 (by omega) (by omega) (by omega) (by omega) (by omega)
  have q2 := of_decide_eq_false ‹_›
  refine cv_seq_k fun K hK => ?_
  refine cv_region_then rfl ?_
  simp -implicitDefEqProofs (disch := first | omega | decide) only [seval, -Int.reducePow, -Nat.reducePow, cC, pv, binv, sCoS1, undef, g3]
  refine hK _ _ ?_
  clear hK K
  refine cv_cond ?_
  simp -implicitDefEqProofs (disch := first | omega | decide) only [seval, -Int.reducePow, -Nat.reducePow, cC, pv, binv, sCoS1, undef, g3]
  refine ⟨fun hc => ?_, fun hc => ?_⟩
  · refine cv_seq_k fun K hK => ?_
    refine cv_region_then rfl ?_
    simp -implicitDefEqProofs (disch := first | omega | decide) only [seval, -Int.reducePow, -Nat.reducePow, cC, pv, binv, sCoS1, undef, g3]
    refine callV_co (x := x) (s := s1) (i := i1) hD1 hDE hp.l16 hp.loc hp.first (fun w D hp => local_co x D E s1 i1 2 w hp (by decide) (by omega) (by omega)) ?_
    intro s2 i2 v2 f2 hD2 ka2 kb2 kc2 kd2 ke2
    simp -implicitDefEqProofs (disch := first | omega | decide) only [seval, -Int.reducePow, -Nat.reducePow, cC, pv, binv, sCoS1, undef, g3]
    refine hK _ _ ?_
    clear hK K
    refine cv_seq_k fun K hK => ?_
    refine cv_region_then rfl ?_
    simp -implicitDefEqProofs (disch := first | omega | decide) only [seval, -Int.reducePow, -Nat.reducePow, cC, pv, binv, sCoS1, undef, g3]
    refine callV_co (x := x) (s := s2) (i := i2) hD2 hDE hp.l16 hp.loc hp.first (fun w D hp => put_co x D E s2 i2 5 0 w hp (by decide) (.inr rfl) (by omega) (by omega)) ?_
    intro s3 i3 v3 f3 hD3 ka3 kb3 kc3 kd3 ke3
    simp -implicitDefEqProofs (disch := first | omega | decide) only [seval, -Int.reducePow, -Nat.reducePow, cC, pv, binv, sCoS1, undef, g3]
    refine hK _ _ ?_
    clear hK K
    refine cv_seq_k fun K hK => ?_
    refine cv_region_then rfl ?_
    simp -implicitDefEqProofs (disch := first | omega | decide) only [seval, -Int.reducePow, -Nat.reducePow, cC, pv, binv, sCoS1, undef, g3]
    refine callV_co (x := x) (s := s3) (i := i3) hD3 hDE hp.l16 hp.loc hp.first (fun w D hp => put_co x D E s3 i3 8 0 w hp (by decide) (.inr rfl) (by omega) (by omega)) ?_
    intro s4 i4 v4 f4 hD4 ka4 kb4 kc4 kd4 ke4
    simp -implicitDefEqProofs (disch := first | omega | decide) only [seval, -Int.reducePow, -Nat.reducePow, cC, pv, binv, sCoS1, undef, g3]
    refine hK _ _ ?_
    clear hK K
    refine cv_seq_k fun K hK => ?_
    refine cv_region_then rfl ?_
    simp -implicitDefEqProofs (disch := first | omega | decide) only [seval, -Int.reducePow, -Nat.reducePow, cC, pv, binv, sCoS1, undef, g3]
    refine callV_co (x := x) (s := s4) (i := i4) hD4 hDE hp.l16 hp.loc hp.first (fun w D hp => put_co x D E s4 i4 18 0 w hp (by decide) (.inr rfl) (by omega) (by omega)) ?_
    intro s5 i5 v5 f5 hD5 ka5 kb5 kc5 kd5 ke5
    simp -implicitDefEqProofs (disch := first | omega | decide) only [seval, -Int.reducePow, -Nat.reducePow, cC, pv, binv, sCoS1, undef, g3]
    refine hK _ _ ?_
    clear hK K
    have hls : s5.st.length = s5.sn := i64_row hD5.sts.len
    have hnx := nextF_lt (l := x.l) (i := i5) (m := s5.sn) (by omega)
    obtain ⟨b0, off, hSA, hb0, -⟩ := hD5.sts.cells (by omega)
    obtain ⟨y, hy⟩ := some_of (l := s5.st) (i := nextF x.l i5 s5.sn) (by omega)
    have hyb := hD5.sok y (List.mem_of_getElem? hy)
    have hst : Sd v5 (Dm [x.b, x.tb] W f5) 1 (some ⟨b0, off, none⟩) s5.sn s5.sc (i64c s5.st) := by
      have := hD5.sts.mono (D' := Dm [x.b, x.tb] W f5) fun y hy => hy.imp id fun hy => hDE y (.inl hy)
      rwa [hSA] at this
    refine cv_fact (x.b ≠ b0) (fun w hw => fun e => ((hD5.pre hDE hw hp.l16 hp.loc hp.first).dom b0 (.inl hb0)).2.1 e.symm) fun hxb => ?_
    refine cv_q ?_
    refine cv_draw_of (pickL [0, 1] _) (fun w hw => hw.pick (by decide)) (by simp only [pickL, nth, suf_cons, suf_nil, List.mem_cons, true_or, or_true, and_true, eq_self]) [(true, 0), (true, 1), (true, 2), (true, 3), (true, 4), (true, 5), (true, 6), (true, 7), (true, 8), (true, 9), (true, 10), (true, 11), (true, 12), (true, 13), (false, 14), (true, 15), (true, 16), (false, 17)] [17] mixA rfl (by kernel_rfl) (by kernel_rfl) rfl rfl ?_
    simp -implicitDefEqProofs (disch := first | omega | decide) only [seval, -Int.reducePow, -Nat.reducePow, cC, pv, binv, sCoS1, undef, hSA, g3]
    refine callV_mod1 2 (fun w hw => next_anyN x.tb x.TA x.tn x.tc x.l i5 s5.sn w (hw.hold 2 rfl) (hD5.tp hDE hw 0 rfl) (hD5.tapt hE) hp.l16 (by omega) (by omega)) rfl ?_
    try simp -implicitDefEqProofs (disch := first | omega | decide) only [seval, -Int.reducePow, -Nat.reducePow, cC, pv, binv, sCoS1, undef, hSA, g3]
    refine ⟨_, hst.ld1 (m := 1) 0 rfl (by kernel_rfl) (i64_get hy), fun tok htok => ?_⟩
    subst htok
    simp -implicitDefEqProofs (disch := first | omega | decide) only [seval, -Int.reducePow, -Nat.reducePow, cC, pv, binv, sCoS1, undef, hSA, g3]
    rw [← hSA]
    refine callV_co (x := x) (s := s5) (i := i5 + 1) hD5 hDE hp.l16 hp.loc hp.first (fun w D hp => put_co x D E s5 (i5 + 1) 20 y w hp (by decide) (.inl (by decide)) (by omega) (by omega)) ?_
    intro s6 i6 v6 f6 hD6 ka6 kb6 kc6 kd6 ke6
    simp -implicitDefEqProofs (disch := first | omega | decide) only [seval, -Int.reducePow, -Nat.reducePow, cC, pv, binv, sCoS1, undef, g3]
    refine ⟨_, rfl, fun w hw => ?_⟩
    exact hp.done hw hD6 (by omega) (by omega) (by omega) (by omega) (by omega)
  have q3 := of_decide_eq_false ‹_›
  refine cv_seq_k fun K hK => ?_
  refine cv_cut (fun _ _ => True) (fun F' L' => F' 0 = G3 0 ∧ F' 92 = .bool (decide (k = 17 ∧ 1 < x.fns)) ∧ L' = [snap [x.b, x.tb] W v1 f1, coB x s1, coT x i1]) ?_ ?_
  · refine cv_region_then rfl ?_
    simp -implicitDefEqProofs (disch := first | omega | decide) only [seval, -Int.reducePow, -Nat.reducePow, cC, pv, binv, sCoS1, undef, g3]
    repeat' ((first | refine vcg_cases (fun hg => ?_) (fun hg => ?_) | refine vdg_cases (fun hg => ?_) (fun hg => ?_)) <;> ((try simp only [Bool.not_eq_true', Bool.not_eq_false', decide_eq_true_eq, decide_eq_false_iff_not] at hg); (try simp -implicitDefEqProofs (disch := first | omega | decide) only [seval, -Int.reducePow, -Nat.reducePow, cC, pv, binv, sCoS1, undef, hg, g3])))
    all_goals (repeat' refine And.intro ?_ ?_)
    all_goals (first | with_reducible rfl | (refine congrArg Value.bool ?_; rw [Bool.eq_iff_iff]; (try simp only [decide_eq_true_eq, eq_self, true_and, and_true, false_and, and_false, true_or, or_true, false_or, or_false, not_true_eq_false, not_false_eq_true, true_iff, iff_true, false_iff, iff_false, Bool.false_eq_true, Bool.not_eq_true', Bool.not_eq_true, decide_eq_false_iff_not, Bool.and_eq_true, Bool.or_eq_true]) <;> omega) | (refine congrArg (Value.int _) ?_; omega) | omega)
  intro G4 L' _ hF
  obtain ⟨q0, q92, rfl⟩ := hF
  have g4_0 := q0.trans g3_0
  have g4_92 := q92
  clear q0 q92
  have g4 := And.intro g4_0 g4_92
  refine hK _ _ ?_
  clear hK K
  refine cv_cond ?_
  simp -implicitDefEqProofs (disch := first | omega | decide) only [seval, -Int.reducePow, -Nat.reducePow, cC, pv, binv, sCoS1, undef, g4]
  refine ⟨fun hc => ?_, fun hc => ?_⟩
  · refine cv_seq_k fun K hK => ?_
    refine cv_region_then rfl ?_
    simp -implicitDefEqProofs (disch := first | omega | decide) only [seval, -Int.reducePow, -Nat.reducePow, cC, pv, binv, sCoS1, undef, g4]
    refine callV_co (x := x) (s := s1) (i := i1) hD1 hDE hp.l16 hp.loc hp.first (fun w D hp => local_co x D E s1 i1 2 w hp (by decide) (by omega) (by omega)) ?_
    intro s2 i2 v2 f2 hD2 ka2 kb2 kc2 kd2 ke2
    simp -implicitDefEqProofs (disch := first | omega | decide) only [seval, -Int.reducePow, -Nat.reducePow, cC, pv, binv, sCoS1, undef, g4]
    refine hK _ _ ?_
    clear hK K
    refine cv_seq_k fun K hK => ?_
    refine cv_region_then rfl ?_
    simp -implicitDefEqProofs (disch := first | omega | decide) only [seval, -Int.reducePow, -Nat.reducePow, cC, pv, binv, sCoS1, undef, g4]
    refine callV_co (x := x) (s := s2) (i := i2) hD2 hDE hp.l16 hp.loc hp.first (fun w D hp => put_co x D E s2 i2 21 1 w hp (by decide) (.inl (by decide)) (by omega) (by omega)) ?_
    intro s3 i3 v3 f3 hD3 ka3 kb3 kc3 kd3 ke3
    simp -implicitDefEqProofs (disch := first | omega | decide) only [seval, -Int.reducePow, -Nat.reducePow, cC, pv, binv, sCoS1, undef, g4]
    refine hK _ _ ?_
    clear hK K
    refine cv_region_q rfl ?_
    simp -implicitDefEqProofs (disch := first | omega | decide) only [seval, -Int.reducePow, -Nat.reducePow, cC, pv, binv, sCoS1, undef, g4]
    refine callV_co (x := x) (s := s3) (i := i3) hD3 hDE hp.l16 hp.loc hp.first (fun w D hp => local_co x D E s3 i3 3 w hp (by decide) (by omega) (by omega)) ?_
    intro s4 i4 v4 f4 hD4 ka4 kb4 kc4 kd4 ke4
    simp -implicitDefEqProofs (disch := first | omega | decide) only [seval, -Int.reducePow, -Nat.reducePow, cC, pv, binv, sCoS1, undef, g4]
    refine ⟨_, rfl, fun w hw => ?_⟩
    exact hp.done hw hD4 (by omega) (by omega) (by omega) (by omega) (by omega)
  · refine cv_seq_k fun K hK => ?_
    refine cv_region_then rfl ?_
    simp -implicitDefEqProofs (disch := first | omega | decide) only [seval, -Int.reducePow, -Nat.reducePow, cC, pv, binv, sCoS1, undef, g4]
    refine callV_co (x := x) (s := s1) (i := i1) hD1 hDE hp.l16 hp.loc hp.first (fun w D hp => num_co x D E s1 i1 65536 w hp (by omega) (by omega) (by omega)) ?_
    intro s2 i2 v2 f2 hD2 ka2 kb2 kc2 kd2 ke2
    simp -implicitDefEqProofs (disch := first | omega | decide) only [seval, -Int.reducePow, -Nat.reducePow, cC, pv, binv, sCoS1, undef, g4]
    refine hK _ _ ?_
    clear hK K
    refine cv_region_q rfl ?_
    simp -implicitDefEqProofs (disch := first | omega | decide) only [seval, -Int.reducePow, -Nat.reducePow, cC, pv, binv, sCoS1, undef, g4]
    refine callV_co (x := x) (s := s2) (i := i2) hD2 hDE hp.l16 hp.loc hp.first (fun w D hp => local_co x D E s2 i2 3 w hp (by decide) (by omega) (by omega)) ?_
    intro s3 i3 v3 f3 hD3 ka3 kb3 kc3 kd3 ke3
    simp -implicitDefEqProofs (disch := first | omega | decide) only [seval, -Int.reducePow, -Nat.reducePow, cC, pv, binv, sCoS1, undef, g4]
    refine ⟨_, rfl, fun w hw => ?_⟩
    exact hp.done hw hD3 (by omega) (by omega) (by omega) (by omega) (by omega)
end Go.Proofs.YtlbmnioibiomfaaGreat
/- pluginhostmake: Types, More, Module. -/
namespace Go.Proofs.YtlbmnioibiomfaaGreat
open Go.RowKit Go.Shelf
set_option linter.unusedVariables false
set_option linter.unusedSimpArgs false
set_option maxRecDepth 100000
/-- A module within a set of blocks. -/
structure ModD (w : World) (D : Nat → Prop) (m : ModR) : Prop where
  ts : Sd w D 2 m.TA m.tn m.tc (cl tyc m.ts)
  ty : ∀ t ∈ m.ts, Sd w D 2 t.A t.n t.c (cl fdc t.fs)
  gs : Sd w D 4 m.FA m.fn m.fc (cl fnc m.gs)
  fn : ∀ g ∈ m.gs, Sd w D 2 g.A g.n g.c (cl insc g.code)
  arg : ∀ g ∈ m.gs, ∀ i ∈ g.code, i.arg < 18446744073709551616
/-- A made module's data. -/
structure Good (m : ModR) : Prop where
  ts : m.ts.length = 3
  ty : ∀ t ∈ m.ts, chk t.len t.fs = 0
  g1 : 1 ≤ m.gs.length
  g2 : m.gs.length ≤ 2
  gs : ∀ (j : Nat) (g : FnR), m.gs[j]? = some g → (0 ≤ g.p ∧ g.p ≤ 1 ∧ 0 ≤ g.r ∧ g.r ≤ 1 ∧ 0 ≤ g.l ∧ g.l ≤ 3) ∧ (j = 0 → g.p = 0 ∧ g.r = 0) ∧ 1 ≤ g.code.length ∧ g.code.length ≤ 200 ∧ ∀ i ∈ g.code, insOk i
section
variable {w w' W v : World} {D D' : Nat → Prop} {m : ModR} {M : List Nat} {L : List Res} {foot : List Nat}
theorem ModD.same (h : ModD w D m) (hs : ∀ y, D y → w'.heap[y]? = w.heap[y]?) (hD : ∀ y, D y → D' y) : ModD w' D' m :=
  ⟨h.ts.same hs hD, fun t ht => (h.ty t ht).same hs hD, h.gs.same hs hD, fun g hg => (h.fn g hg).same hs hD, h.arg⟩
theorem ModD.mono (h : ModD w D m) (hD : ∀ y, D y → D' y) : ModD w D' m := h.same (fun _ _ => rfl) hD
theorem ModD.mod {B : Nat} (h : ModD w D m) (hD : ∀ y, D y → y < B) : Mod w B m :=
  ⟨h.ts.sl hD, fun t ht => (h.ty t ht).sl hD, h.gs.sl hD, fun g hg => (h.fn g hg).sl hD, h.arg⟩
theorem ModD.at (h : ModD v (Dm M W foot) m) (hw : St M W L w) (k : Nat) (hk : nth L k = some (snap M W v foot)) : Mod w w.heap.size m :=
  (h.same (hw.snap_same (nth_mem hk)) fun b hb => hw.snap_lt (nth_mem hk) b hb).mod fun _ h => h
end
theorem firstT_zero : ∀ {ts : List TyR}, (∀ t ∈ ts, chk t.len t.fs = 0) → firstT ts = 0
  | [], _ => rfl
  | t :: r, h => by rw [firstT_yes r (h t (by simp)), firstT_zero fun u hu => h u (by simp [hu])]
theorem firstI_zero : ∀ {k : Nat} {l : List Ins}, (∀ x ∈ l, x.err = 0) → (firstI k l).1 = 0
  | _, [], _ => rfl
  | k, x :: r, h => by rw [firstI_yes r (h x (by simp))]; exact firstI_zero fun u hu => h u (by simp [hu])
theorem firstF_zero : ∀ {i : Nat} {l : List FnR}, (∀ (j : Nat) (g : FnR), l[j]? = some g → (fltF (i + j) g).1 = 0) → firstF i l = fineF
  | _, [], _ => rfl
  | i, f :: r, h => by
    rw [firstF_yes r (by have := h 0 f rfl; rwa [Nat.add_zero] at this)]
    exact firstF_zero fun j g hj => by
      have := h (j + 1) g (by simpa using hj)
      rwa [show i + (j + 1) = i + 1 + j by omega] at this
theorem Good.chk {m : ModR} (h : Good m) : chkM m = fineF := by
  have hP : chkP m = 0 := by
    unfold chkP
    rw [if_neg (by have := h.ts; omega), if_pos (firstT_zero h.ty), if_neg (by have := h.g1; omega), if_neg (by have := h.g2; omega)]
  unfold chkM
  rw [if_pos hP]
  refine firstF_zero fun j g hj => ?_
  obtain ⟨⟨p0, p1, r0, r1, l0, l1⟩, hz, c1, c2, hc⟩ := h.gs j g hj
  rw [Nat.zero_add]
  have hf : fnErr (j : Int) g = 0 := by
    unfold fnErr
    rw [if_neg (by omega), if_neg (by omega), if_neg (by rintro ⟨h0, h1⟩; have := hz (by omega); omega), if_neg (by omega), if_neg (by omega)]
  unfold fltF
  rw [if_pos hf, if_pos (firstI_zero fun x hx => (hc x hx).1)]
  rfl
theorem flat_bound {α : Type} (f : α → List Nat) (B : Nat) : ∀ (l : List α), (∀ x ∈ l, (f x).length ≤ B) → (l.flatMap f).length ≤ B * l.length
  | [], _ => by simp
  | x :: l, h => by
    have h1 := h x (by simp)
    have h2 := flat_bound f B l fun y hy => h y (by simp [hy])
    rw [List.flatMap_cons, List.length_append, List.length_cons, Nat.mul_succ]
    omega
theorem Good.len {m : ModR} (h : Good m) : (encM m).length ≤ 65536 := by
  have h1 := flat_bound encTy 198 m.ts fun t ht => (encB_len (h.ty t ht)).1
  have h2 := flat_bound encFn 3000 m.gs fun g hg => by
    obtain ⟨j, hj⟩ := List.mem_iff_getElem?.1 hg
    obtain ⟨⟨p0, p1, r0, r1, l0, l1⟩, hz, c1, c2, hc⟩ := h.gs j g hj
    have h3 := flat_bound encI 11 g.code fun x hx => encI_len (hc x hx).2
    have q1 := putU_len10 (n := g.p.toNat) (by omega)
    have q2 := putU_len10 (n := g.r.toNat) (by omega)
    have q3 := putU_len10 (n := g.l.toNat) (by omega)
    have q4 := putU_len10 (n := g.code.length) (by omega)
    unfold encFn
    simp only [List.flatMap_cons, List.flatMap_nil, List.length_append, List.length_nil]
    omega
  have q1 := putU_len10 (n := m.ts.length) (by have := h.ts; omega)
  have q2 := putU_len10 (n := m.gs.length) (by have := h.g2; omega)
  have h3 := h.ts
  have h4 := h.g2
  unfold encM
  simp only [List.length_append, magicB, List.length_cons, List.length_nil]
  rw [h3] at h1
  omega
theorem Good.err {m : ModR} (h : Good m) : errM m = 0 ∧ encMod m = encM m := errM_ok (by rw [h.chk]; rfl) (by have := h.len; omega)
set_option maxRecDepth 100000 in
theorem sMk1 : type_of% (And.intro (And.intro (And.intro @fBox.eq_1 @tBox.eq_1) (And.intro @pBox.eq_1 @fdV.eq_1)) (And.intro (And.intro @tyV.eq_1 @tpBox.eq_1) (And.intro @tape.eq_1 (And.intro @Nat.mul_one @cS)))) := (And.intro (And.intro (And.intro @fBox.eq_1 @tBox.eq_1) (And.intro @pBox.eq_1 @fdV.eq_1)) (And.intro (And.intro @tyV.eq_1 @tpBox.eq_1) (And.intro @tape.eq_1 (And.intro @Nat.mul_one @cS))))
set_option maxHeartbeats 2000000 in
theorem types_any (b : Nat) (A : Option Addr) (n c : Nat) (l : List Nat) (i : Nat) (W : World) (hW : W.heap[b]? = some (.cells (tape A n c i).toArray 57 (0, 0))) (hE : Sl W W.heap.size 1 A n c (u16c l)) (ha : 0 < n → Apt A [b]) (hl : ∀ x ∈ l, x < 65536) (hi : i ≤ 700000) :
    Calls Tryz.prog 11 #[.pointer (some ⟨b, 0, none⟩)] W (fun e w' => ∃ p : (Nat × List TyR) × Nat, e = .returned (.slice (some ⟨p.1.1, 0, none⟩) 3 3) ∧
      (Sd w' (Nw W w') 2 (some ⟨p.1.1, 0, none⟩) 3 3 (cl tyc p.1.2) ∧ (∀ t ∈ p.1.2, Sd w' (Nw W w') 2 t.A t.n t.c (cl fdc t.fs) ∧ chk t.len t.fs = 0) ∧ p.1.2.length = 3 ∧ p.2 ≤ i + 40) ∧ w'.heap[b]? = some (.cells (tape A n c p.2).toArray 57 (0, 0)) ∧ Pres [b] W w') := by
  have t1 := typeF_ok l i
  obtain ⟨i1, hi1⟩ : ∃ j, (typeF l i).2.2 = j := ⟨_, rfl⟩
  have t2 := typeF_ok l i1
  obtain ⟨i2, hi2⟩ : ∃ j, (typeF l i1).2.2 = j := ⟨_, rfl⟩
  have t3 := typeF_ok l i2
  obtain ⟨i3, hi3⟩ : ∃ j, (typeF l i2).2.2 = j := ⟨_, rfl⟩
  rw [hi1] at t1
  rw [hi2] at t2
  rw [hi3] at t3
  refine calls_cv (M := [b]) (n := 10) [.tmp 2] rfl Tryz.func11 rfl rfl (Nat.le_of_ble_eq_true rfl)  (St.one hW) ?_
  refine cv_seq_k fun K hK => ?_
  refine cv_region_then rfl ?_
  simp -implicitDefEqProofs (disch := first | omega | decide) only [seval, -Int.reducePow, -Nat.reducePow, cC, pv, binv, sMk1, undef]
  refine hK _ _ ?_
  clear hK K
  refine cv_seq_k fun K hK => ?_
  refine cv_region_then rfl ?_
  simp -implicitDefEqProofs (disch := first | omega | decide) only [seval, -Int.reducePow, -Nat.reducePow, cC, pv, binv, sMk1, undef]
  refine callV_modRow 0 (fun w hw => type_anyN b A n c l i w (hw.hold 0 rfl) (hE.atM' hw ha) ha hl (by omega)) rfl ?_
  rw [hi1]
  intro A1 n1 c1 hl1 hr1
  simp -implicitDefEqProofs (disch := first | omega | decide) only [seval, -Int.reducePow, -Nat.reducePow, cC, pv, binv, sMk1, undef]
  refine callV_modRow 1 (fun w hw => type_anyN b A n c l i1 w (hw.hold 1 rfl) (hE.atM' hw ha) ha hl (by omega)) rfl ?_
  rw [hi2]
  intro A2 n2 c2 hl2 hr2
  simp -implicitDefEqProofs (disch := first | omega | decide) only [seval, -Int.reducePow, -Nat.reducePow, cC, pv, binv, sMk1, undef]
  refine callV_modRow 2 (fun w hw => type_anyN b A n c l i2 w (hw.hold 2 rfl) (hE.atM' hw ha) ha hl (by omega)) rfl ?_
  rw [hi3]
  intro A3 n3 c3 hl3 hr3
  simp -implicitDefEqProofs (disch := first | omega | decide) only [seval, -Int.reducePow, -Nat.reducePow, cC, pv, binv, sMk1, undef]
  intro b9 hb9 h9
  refine hK _ _ ?_
  clear hK K
  refine cv_ret ⟨_, (by simp -implicitDefEqProofs (disch := first | omega | decide) only [seval, -Int.reducePow, -Nat.reducePow, cC, pv, binv, sMk1, undef]; rfl), fun w hw => ?_⟩
  refine ⟨((b9, [⟨(typeF l i).1, A1, n1, c1, (typeF l i).2.1⟩, ⟨(typeF l i1).1, A2, n2, c2, (typeF l i1).2.1⟩, ⟨(typeF l i2).1, A3, n3, c3, (typeF l i2).2.1⟩]), i3), rfl, ⟨?_, ?_, rfl, by dsimp only; omega⟩, hw.hold 4 rfl, hw.pres⟩
  · exact ⟨rfl, by omega, by omega, fun _ => ⟨_, _, rfl, ⟨hb9, (hw.own _ (.head _) b9 (by simp [Res.foot])).2⟩, fun j v hv => by rw [Nat.zero_add, hw.blk_cell (.head _)]; exact hv⟩⟩
  · intro t ht
    simp only [List.mem_cons, List.not_mem_nil, or_false] at ht
    rcases ht with rfl | rfl | rfl
    · exact ⟨Sd.ownNew (hw.tail.tail.tail.rowNew (by simp [Res.foot])), t1.1⟩
    · exact ⟨Sd.ownNew (hw.tail.tail.rowNew (by simp [Res.foot])), t2.1⟩
    · exact ⟨Sd.ownNew (hw.tail.rowNew (by simp [Res.foot])), t3.1⟩
/-- A call that may write a block but leaves it as it was. -/
theorem pres_below {W w : World} {b : Nat} (h : Pres [b] W w) (hb : w.heap[b]? = W.heap[b]?) : Below W.heap.size W w :=
  ⟨h.os, h.tape, h.output, h.size, fun k hk => by
    by_cases e : k = b
    · subst e; exact hb
    · exact h.block k hk (by simpa using e)⟩
theorem more_any (b : Nat) (A : Option Addr) (n c i : Nat) (W : World) (hW : W.heap[b]? = some (.cells (tape A n c i).toArray 57 (0, 0))) :
    Calls Tryz.prog 13 #[.pointer (some ⟨b, 0, none⟩)] W (fun e w' => (∃ r : Bool, e = .returned (.bool r) ∧ True) ∧ Below W.heap.size W w') := by
  refine calls_cv (M := [b]) (n := 13) [.tmp 2] rfl Tryz.func13 rfl rfl (Nat.le_of_ble_eq_true rfl)  (St.one hW) ?_
  refine cv_seq_k fun K hK => ?_
  refine cv_region_then rfl ?_
  simp -implicitDefEqProofs (disch := first | omega | decide) only [seval, -Int.reducePow, -Nat.reducePow, cC, pv, binv, sMk1, undef]
  refine hK _ _ ?_
  clear hK K
  refine cv_seq_k fun K hK => ?_
  refine cv_draw [(true, 0), (true, 1), (true, 2), (true, 3), (true, 4), (true, 5), (true, 6), (true, 7), (true, 8), (true, 9), (true, 10)] [] mixA rfl (by kernel_rfl) (by kernel_rfl) rfl rfl ?_
  simp -implicitDefEqProofs (disch := first | omega | decide) only [seval, -Int.reducePow, -Nat.reducePow, cC, pv, binv, sMk1, undef]
  refine hK _ _ ?_
  clear hK K
  refine cv_ret ⟨_, (by simp -implicitDefEqProofs (disch := first | omega | decide) only [seval, -Int.reducePow, -Nat.reducePow, cC, pv, binv, sMk1, undef]; rfl), fun w hw => ?_⟩
  have := pres_below hw.pres ((hw.hold 0 rfl).trans hW.symm)
  exact ⟨⟨_, rfl, trivial⟩, this⟩
theorem ends_get {q : Nat} (h : q < 6) : ∃ op : Int, ([.int .i64 24, .int .i64 22, .int .i64 19, .int .i64 25, .int .i64 25, .int .i64 25] : List Value)[q]? = some (.int .i64 op) ∧ knownP op := by
  have : q = 0 ∨ q = 1 ∨ q = 2 ∨ q = 3 ∨ q = 4 ∨ q = 5 := by omega
  rcases this with rfl | rfl | rfl | rfl | rfl | rfl
  · exact ⟨24, rfl, by decide⟩
  · exact ⟨22, rfl, by decide⟩
  · exact ⟨19, rfl, by decide⟩
  · exact ⟨25, rfl, by decide⟩
  · exact ⟨25, rfl, by decide⟩
  · exact ⟨25, rfl, by decide⟩
theorem insOk3 {n : Nat} (h : n < 18446744073709551616) : ∀ i ∈ ([⟨2, 0⟩, ⟨1, n⟩, ⟨6, 0⟩] : List Ins), insOk i := by
  intro i hi
  simp only [List.mem_cons, List.not_mem_nil, or_false] at hi
  rcases hi with rfl | rfl | rfl
  · exact ⟨rfl, by decide⟩
  · exact ⟨rfl, h⟩
  · exact ⟨rfl, by decide⟩
theorem insOk4 {n : Nat} (h : n < 18446744073709551616) : ∀ i ∈ ([⟨2, 0⟩, ⟨1, n⟩, ⟨6, 0⟩, ⟨21, 1⟩] : List Ins), insOk i := by
  intro i hi
  have : i ∈ ([⟨2, 0⟩, ⟨1, n⟩, ⟨6, 0⟩] : List Ins) ∨ i = ⟨21, 1⟩ := by
    simp only [List.mem_cons, List.not_mem_nil, or_false] at hi ⊢
    rcases hi with h | h | h | h <;> simp [h]
  rcases this with h2 | rfl
  · exact insOk3 h i h2
  · exact ⟨rfl, by decide⟩
/-- A made module at its end. -/
theorem module_end {W v w : World} {f : List Nat} {x : Cx} {j : Nat} {A : Option Addr} {c tb : Nat} {ts : List TyR} {gs : List FnR} {R : List Res} {n : Nat}
    (hw : St [x.tb] W (snap [x.tb] W v f :: .row (.slice A n c) 42 4 n (cl fnc gs) :: coT x j :: R) w)
    (hT : Sd v (fun y => y ∈ f) 2 (some ⟨tb, 0, none⟩) 3 3 (cl tyc ts)) (hTy : ∀ t ∈ ts, Sd v (fun y => y ∈ f) 2 t.A t.n t.c (cl fdc t.fs)) (hC : ∀ g ∈ gs, Sd v (fun y => y ∈ f) 2 g.A g.n g.c (cl insc g.code)) (hok : ∀ g ∈ gs, ∀ i ∈ g.code, insOk i) :
    ModD w (Nw W w) ⟨some ⟨tb, 0, none⟩, 3, 3, ts, A, n, c, gs⟩ := by
  have hnew := hw.snapNew 0 rfl fun m hm => ⟨2, _, rfl, by simpa [coT, Res.foot] using hm, by omega⟩
  have hs := hw.snap_same (.head _)
  refine ⟨hT.same (fun y hy => hs y (.inl hy)) hnew, fun t ht => (hTy t ht).same (fun y hy => hs y (.inl hy)) hnew, Sd.ownNew (hw.tail.rowNew fun m hm => ⟨_, .head _, by simpa [coT, Res.foot] using hm⟩), fun g hg => (hC g hg).same (fun y hy => hs y (.inl hy)) hnew, fun g hg i hi => (hok g hg i hi).2⟩
/-- .. with two functions. -/
theorem made_two {W v w : World} {f : List Nat} {x : Cx} {j : Nat} {A A7 : Option Addr} {c c7 tb q3 : Nat} {ts : List TyR} {s2 : CoS} {cs : List Ins} {R : List Res}
    (hw : St [x.tb] W (snap [x.tb] W v f :: .row (.slice A 2 c) 42 4 2 [Value.int IntKind.i64 0, Value.int IntKind.i64 0, Value.int IntKind.i64 x.loc, Value.slice s2.A s2.n s2.c, Value.int IntKind.i64 1, Value.int IntKind.i64 1, Value.int IntKind.i64 q3, Value.slice A7 (cs.length + 1) c7] :: coT x j :: R) w)
    (hT : Sd v (fun y => y ∈ f) 2 (some ⟨tb, 0, none⟩) 3 3 (cl tyc ts)) (hTy : ∀ t ∈ ts, Sd v (fun y => y ∈ f) 2 t.A t.n t.c (cl fdc t.fs)) (hC : Sd v (fun y => y ∈ f) 2 s2.A s2.n s2.c (cl insc s2.code)) (hB : Sd v (fun y => y ∈ f) 2 A7 (cs.length + 1) c7 (cl insc (cs ++ [⟨22, 0⟩])))
    (hTc : ∀ t ∈ ts, chk t.len t.fs = 0) (ht3 : ts.length = 3) (hok : ∀ i ∈ s2.code, insOk i) (h1 : 1 ≤ s2.code.length) (h2 : s2.code.length ≤ 200) (hl : x.loc ≤ 3) (hcs : ∀ i ∈ cs, insOk i) (h3 : 3 ≤ cs.length) (h4 : cs.length ≤ 4) (hq : q3 < 3) (hll : 1 ≤ x.loc) :
    ∃ p : ModR × Nat, Ending.returned (.agg #[.slice (some ⟨tb, 0, none⟩) 3 3, .slice A 2 c]) = .returned (modV p.1) ∧ (ModD w (Nw W w) p.1 ∧ Good p.1) ∧ w.heap[x.tb]? = some (.cells (tape x.TA x.tn x.tc p.2).toArray 57 (0, 0)) ∧ Pres [x.tb] W w := by
  have hB' : ∀ i ∈ cs ++ [(⟨22, 0⟩ : Ins)], insOk i := fun i hi => by
    rcases List.mem_append.1 hi with hi | hi
    · exact hcs i hi
    · obtain rfl : i = ⟨22, 0⟩ := by simpa using hi
      exact ⟨rfl, by decide⟩
  refine ⟨(⟨some ⟨tb, 0, none⟩, 3, 3, ts, A, 2, c, [⟨0, 0, x.loc, s2.A, s2.n, s2.c, s2.code⟩, ⟨1, 1, q3, A7, cs.length + 1, c7, cs ++ [⟨22, 0⟩]⟩]⟩, j), rfl, ⟨module_end (x := x) (j := j) (gs := [⟨0, 0, x.loc, s2.A, s2.n, s2.c, s2.code⟩, ⟨1, 1, q3, A7, cs.length + 1, c7, cs ++ [⟨22, 0⟩]⟩]) hw hT hTy ?_ ?_, ?_⟩, hw.hold 2 rfl, hw.pres⟩
  · intro g hg
    simp only [List.mem_cons, List.not_mem_nil, or_false] at hg
    rcases hg with rfl | rfl
    · exact hC
    · exact hB
  · intro g hg
    simp only [List.mem_cons, List.not_mem_nil, or_false] at hg
    rcases hg with rfl | rfl
    · exact hok
    · exact hB'
  refine ⟨ht3, hTc, by simp, by simp, fun q g hg => ?_⟩
  rcases q with _ | _ | q
  · obtain rfl : ⟨0, 0, x.loc, s2.A, s2.n, s2.c, s2.code⟩ = g := by simpa using hg
    dsimp only
    exact ⟨by omega, fun _ => ⟨rfl, rfl⟩, by omega, by omega, hok⟩
  · obtain rfl : ⟨1, 1, q3, A7, cs.length + 1, c7, cs ++ [⟨22, 0⟩]⟩ = g := by simpa using hg
    dsimp only
    rw [List.length_append, List.length_singleton]
    exact ⟨by omega, fun h => by omega, by omega, by omega, hB'⟩
  · simp at hg
set_option maxRecDepth 100000 in
theorem sMk2 : type_of% (And.intro (And.intro (And.intro @fBox.eq_1 (And.intro @tBox.eq_1 @pBox.eq_1)) (And.intro @fdV.eq_1 (And.intro @tyV.eq_1 @tpBox.eq_1))) (And.intro (And.intro @tape.eq_1 (And.intro @Nat.mul_one @cS)) (And.intro (And.intro @coB.eq_1 @coT.eq_1) (And.intro @coC.eq_1 @cT)))) := (And.intro (And.intro (And.intro @fBox.eq_1 (And.intro @tBox.eq_1 @pBox.eq_1)) (And.intro @fdV.eq_1 (And.intro @tyV.eq_1 @tpBox.eq_1))) (And.intro (And.intro @tape.eq_1 (And.intro @Nat.mul_one @cS)) (And.intro (And.intro @coB.eq_1 @coT.eq_1) (And.intro @coC.eq_1 @cT))))
set_option maxHeartbeats 8000000 in
theorem module_any (b : Nat) (A : Option Addr) (n c : Nat) (l : List Nat) (i most : Nat) (W : World) (hW : W.heap[b]? = some (.cells (tape A n c i).toArray 57 (0, 0))) (hE : Sl W W.heap.size 1 A n c (u16c l)) (ha : 0 < n → Apt A [b]) (hl : ∀ x ∈ l, x < 65536) (hi : i ≤ 500000) (hm : most ≤ 10) :
    Calls Tryz.prog 6 #[.pointer (some ⟨b, 0, none⟩), .int .u32 1, .int .i64 (most : Int)] W (fun e w' => ∃ p : ModR × Nat, e = .returned (modV p.1) ∧ (ModD w' (Nw W w') p.1 ∧ Good p.1) ∧ w'.heap[b]? = some (.cells (tape A n c p.2).toArray 57 (0, 0)) ∧ Pres [b] W w') := by
  obtain ⟨E, hEe⟩ : ∃ E : Nat → Prop, E = fun y => y < W.heap.size ∧ y ≠ b := ⟨_, rfl⟩
  have hDE : ∀ y, (fun _ : Nat => False) y ∨ E y → y < W.heap.size ∧ y ∉ [b] := fun y hy => by
    subst hEe
    rcases hy with hy | hy
    · exact hy.elim
    · exact ⟨hy.1, by simpa using hy.2⟩
  have htp : Sd W E 1 A n c (u16c l) := by
    subst hEe
    refine ⟨hE.len, hE.cap, hE.max, fun hn => ?_⟩
    obtain ⟨b0, off, e, hb, hc⟩ := hE.cells hn
    exact ⟨b0, off, e, ⟨hb, by simpa using ha hn b0 off e⟩, hc⟩
  have hEb : ∀ y, E y → y ≠ b := fun y hy => by subst hEe; exact hy.2
  refine calls_cv2 (M := [b]) (n := 89) [.cell 6 30] rfl Tryz.func6 rfl rfl (Nat.le_of_ble_eq_true rfl)  (St.one hW) ?_
  refine cv_seq_k fun K hK => ?_
  refine cv_region_then rfl ?_
  simp -implicitDefEqProofs (disch := first | omega | decide) only [seval, -Int.reducePow, -Nat.reducePow, cC, pv, binv, sMk2, undef]
  intro b6 hb6 h6
  refine hK _ _ ?_
  clear hK K
  refine cv_seq_k fun K hK => ?_
  refine cv_region_then rfl ?_
  simp -implicitDefEqProofs (disch := first | omega | decide) only [seval, -Int.reducePow, -Nat.reducePow, cC, pv, binv, sMk2, undef]
  refine callV_nestM 1 (fun p : (Nat × List TyR) × Nat => .slice (some ⟨p.1.1, 0, none⟩) 3 3) (fun p w w' => Sd w' (Nw w w') 2 (some ⟨p.1.1, 0, none⟩) 3 3 (cl tyc p.1.2) ∧ (∀ t ∈ p.1.2, Sd w' (Nw w w') 2 t.A t.n t.c (cl fdc t.fs) ∧ chk t.len t.fs = 0) ∧ p.1.2.length = 3 ∧ p.2 ≤ i + 40) (fun p => tape A n c p.2) rfl (fun w hw => types_any b A n c l i w (hw.hold 1 rfl) (hE.atM' hw ha) ha hl (by omega)) ?_
  rintro ⟨⟨tb, ts⟩, i1⟩ w0 w1 f1 hw0 hw1 ⟨ht1, ht2, ht3, ht4⟩ hNw
  dsimp only at *
  have hT : Sd w1 (fun y => y ∈ f1) 2 (some ⟨tb, 0, none⟩) 3 3 (cl tyc ts) := ht1.mono hNw
  have hTy : ∀ t ∈ ts, Sd w1 (fun y => y ∈ f1) 2 t.A t.n t.c (cl fdc t.fs) := fun t ht => (ht2 t ht).1.mono hNw
  have hTc : ∀ t ∈ ts, chk t.len t.fs = 0 := fun t ht => (ht2 t ht).2
  clear ht1 ht2 hNw hw0 hw1 w0
  try simp -implicitDefEqProofs (disch := first | omega | decide) only [seval, -Int.reducePow, -Nat.reducePow, cC, pv, binv, sMk2, undef]
  intro b7 hb7 h7
  try simp -implicitDefEqProofs (disch := first | omega | decide) only [seval, -Int.reducePow, -Nat.reducePow, cC, pv, binv, sMk2, undef]
  refine hK _ _ ?_
  clear hK K
  have q2 := nextF_lt (l := l) (i := i1) (m := 2) (by omega)
  have q3 := nextF_lt (l := l) (i := i1 + 1) (m := 3) (by omega)
  have e2 : IntKind.i64.wrap (1 + ((nextF l i1 2 : Nat) : Int)) = ((1 + nextF l i1 2 : Nat) : Int) := by rw [wrap_in (by omega) (by omega)]; omega
  have e3 : IntKind.i64.wrap (1 + ((nextF l (i1 + 1) 3 : Nat) : Int)) = ((1 + nextF l (i1 + 1) 3 : Nat) : Int) := by rw [wrap_in (by omega) (by omega)]; omega
  obtain ⟨fns, hfns⟩ : ∃ q, 1 + nextF l i1 2 = q := ⟨_, rfl⟩
  obtain ⟨loc, hloc⟩ : ∃ q, 1 + nextF l (i1 + 1) 3 = q := ⟨_, rfl⟩
  rw [hfns] at e2
  rw [hloc] at e3
  refine cv_seq_k fun K hK => ?_
  refine cv_region_then rfl ?_
  simp -implicitDefEqProofs (disch := first | omega | decide) only [seval, -Int.reducePow, -Nat.reducePow, cC, pv, binv, sMk2, undef]
  refine callV_mod1 3 (fun w hw => next_anyN b A n c l i1 2 w (hw.hold 3 rfl) (hE.atM' hw ha) ha hl (by omega) (by omega)) rfl ?_
  try simp -implicitDefEqProofs (disch := first | omega | decide) only [seval, -Int.reducePow, -Nat.reducePow, cC, pv, binv, sMk2, undef, e2]
  refine hK _ _ ?_
  clear hK K
  refine cv_seq_k fun K hK => ?_
  refine cv_region_then rfl ?_
  simp -implicitDefEqProofs (disch := first | omega | decide) only [seval, -Int.reducePow, -Nat.reducePow, cC, pv, binv, sMk2, undef]
  refine callV_mod1 3 (fun w hw => next_anyN b A n c l (i1 + 1) 3 w (hw.hold 3 rfl) (hE.atM' hw ha) ha hl (by omega) (by omega)) rfl ?_
  try simp -implicitDefEqProofs (disch := first | omega | decide) only [seval, -Int.reducePow, -Nat.reducePow, cC, pv, binv, sMk2, undef, e3]
  refine hK _ _ ?_
  clear hK K
  refine cv_seq_k fun K hK => ?_
  refine cv_region_then rfl ?_
  simp -implicitDefEqProofs (disch := first | omega | decide) only [seval, -Int.reducePow, -Nat.reducePow, cC, pv, binv, sMk2, undef]
  intro b28 hb28 h28
  refine hK _ _ ?_
  clear hK K
  refine cv_gen fun G1 hG => ?_
  have g1_0 := congrFun hG 0
  have g1_2 := congrFun hG 2
  have g1_6 := congrFun hG 6
  have g1_7 := congrFun hG 7
  have g1_8 := congrFun hG 8
  have g1_9 := congrFun hG 9
  have g1_10 := congrFun hG 10
  clear hG
  try simp -implicitDefEqProofs (disch := first | omega | decide) only [seval, -Int.reducePow, -Nat.reducePow, cC, pv, binv, sMk2, undef] at g1_0 g1_2 g1_6 g1_7 g1_8 g1_9 g1_10
  have g1 := And.intro g1_0 (And.intro g1_2 (And.intro g1_6 (And.intro g1_7 (And.intro g1_8 (And.intro g1_9 g1_10)))))
  refine cv_snap [0, 4, 1, 2, 3] (by decide) fun v2 f2 hv2 hf2 => ?_
  simp only [pickL, nth]
  have htp2 : Sd v2 E 1 A n c (u16c l) := htp.same (fun y hy => hv2.pres.block y (hDE y (.inr hy)).1 (hDE y (.inr hy)).2) fun _ h => h
  obtain ⟨x, hx⟩ : ∃ x : Cx, x = ⟨b28, b, A, n, c, l, loc, fns, 1⟩ := ⟨_, rfl⟩
  have x1 : b28 = x.b := by rw [hx]
  have x2 : b = x.tb := by rw [hx]
  have x3 : A = x.TA := by rw [hx]
  have x4 : n = x.tn := by rw [hx]
  have x5 : c = x.tc := by rw [hx]
  have x6 : l = x.l := by rw [hx]
  have x7 : loc = x.loc := by rw [hx]
  have x8 : fns = x.fns := by rw [hx]
  have x9 : x.first = 1 := by rw [hx]
  clear hx
  subst x1 x2 x3 x4 x5 x6 x7 x8
  obtain ⟨s0, hs0⟩ : ∃ s : CoS, s = ⟨none, 0, 0, [], none, 0, 0, []⟩ := ⟨_, rfl⟩
  have hD0 : CoD v2 (Dn (fun _ => False) f2) E x s0 := by subst hs0; exact ⟨Sd.nil, Sd.nil, htp2, by simp, by simp⟩
  have hl16 := hl
  have hlc : 1 ≤ x.loc ∧ x.loc ≤ 100 := by omega
  have hfi : x.first < 4294967296 := by omega
  have hs0c : s0.code.length = 0 ∧ s0.st.length = 0 := by rw [hs0]; exact ⟨rfl, rfl⟩
  refine cv_eq (L' := [snap [x.tb] W v2 f2, coB x s0, coT x (i1 + 1 + 1), .blk b7 30 [.slice (some ⟨tb, 0, none⟩) 3 3, .slice none 0 0], snap [x.tb] W w1 f1, .blk b6 30 [.slice none 0 0, .slice none 0 0]]) (by rw [hs0]; simp only [coB, coC, x9]; rfl) ?_
  clear hs0
  refine cv_seq_k fun K hK => ?_
  refine cv_seq_k fun K hK => ?_
  refine cv_region_then rfl ?_
  simp -implicitDefEqProofs (disch := first | omega | decide) only [seval, -Int.reducePow, -Nat.reducePow, cC, pv, binv, sMk2, undef, g1]
  refine hK _ _ ?_
  clear hK K
  refine cv_gen fun G2 hG => ?_
  have g2_0 := congrFun hG 0
  have g2_2 := congrFun hG 2
  have g2_6 := congrFun hG 6
  have g2_7 := congrFun hG 7
  have g2_8 := congrFun hG 8
  have g2_9 := congrFun hG 9
  have g2_10 := congrFun hG 10
  have g2_11 := congrFun hG 11
  clear hG
  try simp -implicitDefEqProofs (disch := first | omega | decide) only [seval, -Int.reducePow, -Nat.reducePow, cC, pv, binv, sMk2, undef, g1] at g2_0 g2_2 g2_6 g2_7 g2_8 g2_9 g2_10 g2_11
  have g2 := And.intro g2_0 (And.intro g2_2 (And.intro g2_6 (And.intro g2_7 (And.intro g2_8 (And.intro g2_9 (And.intro g2_10 g2_11))))))
  refine cv_block ?_
  refine cv_loop (fun F' L' => ∃ (k : Nat) (s : CoS) (j : Nat) (v : World) (f : List Nat), F' 0 = G2 0 ∧ F' 2 = G2 2 ∧ F' 6 = G2 6 ∧ F' 7 = G2 7 ∧ F' 8 = G2 8 ∧ F' 9 = G2 9 ∧ F' 10 = G2 10 ∧ F' 11 = .int .i64 (k : Int) ∧ L' = [snap [x.tb] W v f, coB x s, coT x j, .blk b7 30 [.slice (some ⟨tb, 0, none⟩) 3 3, .slice none 0 0], snap [x.tb] W w1 f1, .blk b6 30 [.slice none 0 0, .slice none 0 0]] ∧ CoD v (Dn (fun _ => False) f) E x s ∧ s.code.length ≤ 12 * k ∧ s.st.length ≤ k ∧ j ≤ i1 + 2 + 50 * k ∧ k ≤ most) (fun F' L' => 20 - (intOf (F' 11)).toNat) ?_ ?_
  · refine ⟨0, s0, i1 + 1 + 1, v2, f2, ?_⟩
    simp -implicitDefEqProofs (disch := first | omega | decide) only [seval, -Int.reducePow, -Nat.reducePow, cC, pv, binv, sMk2, undef, g2]
    repeat' (first | with_reducible exact trivial | with_reducible rfl | omega | refine And.intro ?_ ?_)
    all_goals first | exact hD0 | omega | skip
  intro G3 L' hI
  obtain ⟨k, s, j, v, f, q0, q2, q6, q7, q8, q9, q10, q11, rfl, ⟨hD, hc1, hs1, hj1, hk1⟩⟩ := hI
  have g3_0 := q0.trans g2_0
  have g3_2 := q2.trans g2_2
  have g3_6 := q6.trans g2_6
  have g3_7 := q7.trans g2_7
  have g3_8 := q8.trans g2_8
  have g3_9 := q9.trans g2_9
  have g3_10 := q10.trans g2_10
  have g3_11 := q11
  clear q0 q2 q6 q7 q8 q9 q10 q11
  have g3 := And.intro g3_0 (And.intro g3_2 (And.intro g3_6 (And.intro g3_7 (And.intro g3_8 (And.intro g3_9 (And.intro g3_10 g3_11))))))
  refine cv_seq_k fun K hK => ?_
  refine cv_seq_k fun K hK => ?_
  refine cv_cut (fun _ _ => True) (fun F' L' => ∃ (r : Bool), F' 0 = G3 0 ∧ F' 2 = G3 2 ∧ F' 6 = G3 6 ∧ F' 7 = G3 7 ∧ F' 8 = G3 8 ∧ F' 9 = G3 9 ∧ F' 10 = G3 10 ∧ F' 11 = G3 11 ∧ F' 39 = .bool r ∧ L' = [snap [x.tb] W v f, coB x s, coT x j, .blk b7 30 [.slice (some ⟨tb, 0, none⟩) 3 3, .slice none 0 0], snap [x.tb] W w1 f1, .blk b6 30 [.slice none 0 0, .slice none 0 0]] ∧ (r = true → k < most)) ?_ ?_
  · by_cases hkm : k < most
    · have hkd : decide ((k : Int) < (most : Int)) = true := decide_eq_true (by omega)
      refine cv_region_then rfl ?_
      simp -implicitDefEqProofs (disch := first | omega | decide) only [seval, -Int.reducePow, -Nat.reducePow, cC, pv, binv, sMk2, undef, hkd, g2, g3]
      refine callV_ex (fun r : Bool => .bool r) (fun _ => True) (fun w hw => more_any x.tb x.TA x.tn x.tc j w (hw.hold 2 rfl)) ?_
      intro r _
      cases r
      · simp -implicitDefEqProofs (disch := first | omega | decide) only [seval, -Int.reducePow, -Nat.reducePow, cC, pv, binv, sMk2, undef, hkd, g2, g3]
        exact ⟨_, rfl, fun _ => hkm⟩
      · simp -implicitDefEqProofs (disch := first | omega | decide) only [seval, -Int.reducePow, -Nat.reducePow, cC, pv, binv, sMk2, undef, hkd, g2, g3]
        exact ⟨_, rfl, fun _ => hkm⟩
    · have hkd : decide ((k : Int) < (most : Int)) = false := decide_eq_false (by omega)
      refine cv_region_then rfl ?_
      simp -implicitDefEqProofs (disch := first | omega | decide) only [seval, -Int.reducePow, -Nat.reducePow, cC, pv, binv, sMk2, undef, hkd, g2, g3]
      exact ⟨_, rfl, fun h => by cases h⟩
  intro G4 L' _ hF
  obtain ⟨r, q0, q2, q6, q7, q8, q9, q10, q11, q39, rfl, hr⟩ := hF
  have g4_0 := q0.trans g3_0
  have g4_2 := q2.trans g3_2
  have g4_6 := q6.trans g3_6
  have g4_7 := q7.trans g3_7
  have g4_8 := q8.trans g3_8
  have g4_9 := q9.trans g3_9
  have g4_10 := q10.trans g3_10
  have g4_11 := q11.trans g3_11
  have g4_39 := q39
  clear q0 q2 q6 q7 q8 q9 q10 q11 q39
  have g4 := And.intro g4_0 (And.intro g4_2 (And.intro g4_6 (And.intro g4_7 (And.intro g4_8 (And.intro g4_9 (And.intro g4_10 (And.intro g4_11 g4_39)))))))
  refine hK _ _ ?_
  clear hK K
  refine cv_cond ?_
  simp -implicitDefEqProofs (disch := first | omega | decide) only [seval, -Int.reducePow, -Nat.reducePow, cC, pv, binv, sMk2, undef, g2, g3, g4]
  refine ⟨fun hc => ?_, fun hc => ?_⟩
  · refine cv_skip ?_
    try simp only [blockQ, thenQ]
    refine hK _ _ ?_
    clear hK K
    refine cv_seq_k fun K hK => ?_
    refine cv_block ?_
    refine cv_region_q rfl ?_
    simp -implicitDefEqProofs (disch := first | omega | decide) only [seval, -Int.reducePow, -Nat.reducePow, cC, pv, binv, sMk2, undef, g2, g3, g4]
    refine callV_co (x := x) (s := s) (i := j) hD hDE hl16 hlc hfi (fun w D hp => statement_co x D E s j w hp (by omega) (by omega) (by omega)) ?_
    intro s' j' v' f' hD' ka kb kc kd ke
    simp -implicitDefEqProofs (disch := first | omega | decide) only [seval, -Int.reducePow, -Nat.reducePow, cC, pv, binv, sMk2, undef, g2, g3, g4]
    refine hK _ _ ?_
    clear hK K
    refine cv_region_then rfl ?_
    simp -implicitDefEqProofs (disch := first | omega | decide) only [seval, -Int.reducePow, -Nat.reducePow, cC, pv, binv, sMk2, undef, wrap_in, g2, g3, g4]
    refine ⟨⟨k + 1, s', j', v', f', ?_⟩, ?_⟩
    · simp -implicitDefEqProofs (disch := first | omega | decide) only [seval, -Int.reducePow, -Nat.reducePow, cC, pv, binv, sMk2, undef, Int.natCast_add, g2, g3, g4]
      repeat' (first | with_reducible exact trivial | with_reducible rfl | omega | refine And.intro ?_ ?_)
      all_goals (have := hr hc; omega)
    · simp only [intOf]; omega
  refine cv_exit ?_
  simp only [blockQ, thenQ, if_true, ite_true]
  clear hK K
  refine hK _ _ ?_
  clear hK K
  refine cv_seq_k fun K hK => ?_
  refine cv_region_then rfl ?_
  simp -implicitDefEqProofs (disch := first | omega | decide) only [seval, -Int.reducePow, -Nat.reducePow, cC, pv, binv, sMk2, undef, g2, g3, g4]
  intro b9 hb9 h9
  refine hK _ _ ?_
  clear hK K
  refine cv_gen fun G5 hG => ?_
  have g5_0 := congrFun hG 0
  have g5_6 := congrFun hG 6
  have g5_7 := congrFun hG 7
  have g5_8 := congrFun hG 8
  have g5_9 := congrFun hG 9
  have g5_10 := congrFun hG 10
  have g5_12 := congrFun hG 12
  clear hG
  try simp -implicitDefEqProofs (disch := first | omega | decide) only [seval, -Int.reducePow, -Nat.reducePow, cC, pv, binv, sMk2, undef, g2, g3, g4] at g5_0 g5_6 g5_7 g5_8 g5_9 g5_10 g5_12
  have g5 := And.intro g5_0 (And.intro g5_6 (And.intro g5_7 (And.intro g5_8 (And.intro g5_9 (And.intro g5_10 g5_12)))))
  have hnx6 := nextF_lt (l := x.l) (i := j) (m := 6) (by omega)
  obtain ⟨op, hop, hkn⟩ := ends_get hnx6
  refine cv_seq_k fun K hK => ?_
  refine cv_region_then rfl ?_
  simp -implicitDefEqProofs (disch := first | omega | decide) only [seval, -Int.reducePow, -Nat.reducePow, cC, pv, binv, sMk2, undef, g2, g3, g5]
  refine callV_mod1 3 (fun w hw => next_anyN x.tb x.TA x.tn x.tc x.l j 6 w (hw.hold 3 rfl) (hD.tp hDE hw 1 rfl) (hD.tapt hEb) hl16 (by omega) (by omega)) rfl ?_
  try simp -implicitDefEqProofs (disch := first | omega | decide) only [seval, -Int.reducePow, -Nat.reducePow, cC, pv, binv, sMk2, undef, g2, g3, g5]
  simp -implicitDefEqProofs (disch := first | omega | decide) only [seval, -Int.reducePow, -Nat.reducePow, cC, pv, binv, sMk2, undef, hop, g2, g3, g5]
  refine callV_pick [1, 2, 3, 4, 5, 6] (by decide) ?_
  simp only [pickL, nth]
  refine callV_co (x := x) (s := s) (i := j + 1) hD hDE hl16 hlc hfi (fun w D hp => put_co x D E s (j + 1) op 0 w hp hkn (.inr rfl) (by omega) (by omega)) ?_
  intro s2 j2 v3 f3 hD2 ka kb kc kd ke
  simp -implicitDefEqProofs (disch := first | omega | decide) only [seval, -Int.reducePow, -Nat.reducePow, cC, pv, binv, sMk2, undef, g2, g3, g5]
  refine hK _ _ ?_
  clear hK K
  refine cv_seq_k fun K hK => ?_
  refine cv_region_then rfl ?_
  simp -implicitDefEqProofs (disch := first | omega | decide) only [seval, -Int.reducePow, -Nat.reducePow, cC, pv, binv, sMk2, undef, g2, g3, g5]
  intro b58 hb58 h58
  simp -implicitDefEqProofs (disch := first | omega | decide) only [seval, -Int.reducePow, -Nat.reducePow, cC, pv, binv, sMk2, undef, g2, g3, g5]
  refine hK _ _ ?_
  clear hK K
  refine cv_gen fun G6 hG => ?_
  have g6_0 := congrFun hG 0
  have g6_6 := congrFun hG 6
  have g6_7 := congrFun hG 7
  have g6_8 := congrFun hG 8
  clear hG
  try simp -implicitDefEqProofs (disch := first | omega | decide) only [seval, -Int.reducePow, -Nat.reducePow, cC, pv, binv, sMk2, undef, g2, g3, g5] at g6_0 g6_6 g6_7 g6_8
  have g6 := And.intro g6_0 (And.intro g6_6 (And.intro g6_7 g6_8))
  refine cv_blkrow 4 1 rfl (by omega) ?_
  refine cv_snap [0, 4, 6, 3] (by decide) fun v4 f4 hv4 hf4 => ?_
  simp only [pickL, nth]
  have hM4 : ∀ m ∈ [x.tb], ∃ r ∈ pickL [0, 4, 6, 3] [Res.row (.slice (some ⟨b58, 0, none⟩) 1 1) 42 4 1 [Value.int IntKind.i64 0, Value.int IntKind.i64 0, Value.int IntKind.i64 x.loc, Value.slice s2.A s2.n s2.c], snap [x.tb] W v3 f3, coB x s2, coT x j2, .blk b7 30 [.slice (some ⟨tb, 0, none⟩) 3 3, .slice (some ⟨b58, 0, none⟩) 1 1], snap [x.tb] W w1 f1, .blk b6 30 [.slice none 0 0, .slice none 0 0]], m ∈ r.foot := by simp [pickL, nth, Res.foot, coT]
  obtain ⟨k1, k2⟩ := hv4.snapK hf4 5 rfl (by decide) hM4
  have k3 := hv4.footK hf4 (k := 5) rfl (by decide) hM4
  obtain ⟨k4, k5⟩ := hv4.snapK hf4 1 rfl (by decide) hM4
  have k6 := hv4.footK hf4 (k := 1) rfl (by decide) hM4
  simp only [snap_foot] at k3 k6
  have hT4 : Sd v4 (fun y => y ∈ f4) 2 (some ⟨tb, 0, none⟩) 3 3 (cl tyc ts) := hT.same (fun y hy => k1 y (.inl hy)) k3
  have hTy4 : ∀ t ∈ ts, Sd v4 (fun y => y ∈ f4) 2 t.A t.n t.c (cl fdc t.fs) := fun t ht => (hTy t ht).same (fun y hy => k1 y (.inl hy)) k3
  have hC4 : Sd v4 (fun y => y ∈ f4) 2 s2.A s2.n s2.c (cl insc s2.code) := hD2.code.same (fun y hy => k4 y (.inl (hy.elim id False.elim))) fun y hy => k6 y (hy.elim id False.elim)
  have hok := hD2.ok
  have hn2 : s2.code.length = s2.n := cl_row insc_len (by omega) hC4.len
  clear hM4 k1 k2 k3 k4 k5 k6 hv4 hf4 hT hTy hD0 hD2 htp2 hop hv2 hf2 hs0c
  refine cv_seq_k fun K hK => ?_
  refine cv_seq_k fun K hK => ?_
  refine cv_region_then rfl ?_
  simp -implicitDefEqProofs (disch := first | omega | decide) only [seval, -Int.reducePow, -Nat.reducePow, cC, pv, binv, sMk2, undef, g2, g3, g6]
  refine hK _ _ ?_
  clear hK K
  refine cv_cond ?_
  simp -implicitDefEqProofs (disch := first | omega | decide) only [seval, -Int.reducePow, -Nat.reducePow, cC, pv, binv, sMk2, undef, g2, g3, g6]
  refine ⟨fun hc => ?_, fun hc => ?_⟩
  · have hn5 := nextF_lt (l := x.l) (i := j2) (m := 5) (by omega)
    have e5 := i64v (nextF x.l j2 5) (by omega)
    refine cv_seq_k fun K hK => ?_
    refine cv_region_then rfl ?_
    simp -implicitDefEqProofs (disch := first | omega | decide) only [seval, -Int.reducePow, -Nat.reducePow, cC, pv, binv, sMk2, undef, g2, g3, g6]
    refine callV_mod1 4 (fun w hw => next_anyN x.tb x.TA x.tn x.tc x.l j2 5 w (hw.hold 4 rfl) (hE.atM' hw ha) ha hl (by omega) (by omega)) rfl ?_
    try simp -implicitDefEqProofs (disch := first | omega | decide) only [seval, -Int.reducePow, -Nat.reducePow, cC, pv, binv, sMk2, undef, e5, g2, g3, g6]
    intro b68 hb68 h68
    refine hK _ _ ?_
    clear hK K
    refine cv_gen fun G7 hG => ?_
    have g7_0 := congrFun hG 0
    have g7_6 := congrFun hG 6
    have g7_7 := congrFun hG 7
    have g7_13 := congrFun hG 13
    clear hG
    try simp -implicitDefEqProofs (disch := first | omega | decide) only [seval, -Int.reducePow, -Nat.reducePow, cC, pv, binv, sMk2, undef, g2, g3, g6] at g7_0 g7_6 g7_7 g7_13
    have g7 := And.intro g7_0 (And.intro g7_6 (And.intro g7_7 g7_13))
    refine cv_blkrow 2 3 rfl (by omega) ?_
    refine cv_seq_k fun K hK => ?_
    refine cv_cut (fun _ _ => True) (fun F' L' => ∃ (cs : List Ins) (A6 : Option Addr) (c6 : Nat), F' 0 = G7 0 ∧ F' 6 = G7 6 ∧ F' 7 = G7 7 ∧ F' 13 = .slice A6 cs.length c6 ∧ L' = [.row (.slice A6 cs.length c6) 39 2 cs.length (cl insc cs), snap [x.tb] W v4 f4, .row (.slice (some ⟨b58, 0, none⟩) 1 1) 42 4 1 [Value.int IntKind.i64 0, Value.int IntKind.i64 0, Value.int IntKind.i64 x.loc, Value.slice s2.A s2.n s2.c], .blk b7 30 [.slice (some ⟨tb, 0, none⟩) 3 3, .slice (some ⟨b58, 0, none⟩) 1 1], .blk b6 30 [.slice none 0 0, .slice none 0 0], coT x (j2 + 1 + 1)] ∧ (∀ i ∈ cs, insOk i) ∧ 3 ≤ cs.length ∧ cs.length ≤ 4) ?_ ?_
    · refine cv_seq_k fun K hK => ?_
      refine cv_region_then rfl ?_
      simp -implicitDefEqProofs (disch := first | omega | decide) only [seval, -Int.reducePow, -Nat.reducePow, cC, pv, binv, sMk2, undef, g2, g3, g7]
      refine callV_mod1 5 (fun w hw => next_anyN x.tb x.TA x.tn x.tc x.l (j2 + 1) 4 w (hw.hold 5 rfl) (hE.atM' hw ha) ha hl (by omega) (by omega)) rfl ?_
      try simp -implicitDefEqProofs (disch := first | omega | decide) only [seval, -Int.reducePow, -Nat.reducePow, cC, pv, binv, sMk2, undef, g2, g3, g7]
      refine hK _ _ ?_
      clear hK K
      refine cv_cond ?_
      simp -implicitDefEqProofs (disch := first | omega | decide) only [seval, -Int.reducePow, -Nat.reducePow, cC, pv, binv, sMk2, undef, g2, g3, g7]
      refine ⟨fun hc => ?_, fun hc => ?_⟩
      · refine cv_pick_post [0, 2, 3, 4, 5, 6] (by decide) ?_
        refine cv_region_q rfl ?_
        simp -implicitDefEqProofs (disch := first | omega | decide) only [seval, -Int.reducePow, -Nat.reducePow, cC, pv, binv, sMk2, undef, g2, g3, g7]
        intro b74 hb74 h74
        refine appV_at 1 tap40 rfl (fun w hw => src_blk (size := 2) (.head _) rfl hw) rfl (by omega) (by omega) ?_
        intro A6 c6 hl6 hr6
        simp -implicitDefEqProofs (disch := first | omega | decide) only [seval, -Int.reducePow, -Nat.reducePow, cC, pv, binv, sMk2, undef, g2, g3, g7]
        refine ⟨[⟨2, 0⟩, ⟨1, nextF x.l j2 5⟩, ⟨6, 0⟩, ⟨21, 1⟩], A6, c6, ?_⟩
        exact ⟨rfl, rfl, insOk4 (by omega), by simp, by simp⟩
      · refine cv_skip ?_
        try simp only [blockQ, thenQ]
        refine ⟨[⟨2, 0⟩, ⟨1, nextF x.l j2 5⟩, ⟨6, 0⟩], some ⟨b68, 0, none⟩, 3, ?_⟩
        simp -implicitDefEqProofs (disch := first | omega | decide) only [seval, -Int.reducePow, -Nat.reducePow, cC, pv, binv, sMk2, undef, g2, g3, g7]
        exact ⟨rfl, by simpa using insOk3 (n := nextF x.l j2 5) (by omega)⟩
    intro G8 L' _ hF
    obtain ⟨cs, A6, c6, q0, q6, q7, q13, rfl, ⟨hcs, hcl3, hcl4⟩⟩ := hF
    have g8_0 := q0.trans g7_0
    have g8_6 := q6.trans g7_6
    have g8_7 := q7.trans g7_7
    have g8_13 := q13
    clear q0 q6 q7 q13
    have g8 := And.intro g8_0 (And.intro g8_6 (And.intro g8_7 g8_13))
    refine hK _ _ ?_
    clear hK K
    refine cv_q ?_
    refine cv_tree [3] (by decide) (by simp only [pickL, nth, suf_cons, suf_nil, List.mem_cons, true_or, or_true, and_true, eq_self]) (.rd 0 (.rd 1 (.rd 2 (.rd 4 (.rd 5 (.alt 3 6 (.act 6 (.act 7 (.rd 8 (.act 9 (.act 10 (.rd 11 (.act 12 (.done)))))))) (.act 3 (.act 7 (.rd 8 (.act 9 (.act 10 (.rd 11 (.act 12 (.done)))))))))))))) [12] mixA rfl (by kernel_rfl) (by kernel_rfl) (by kernel_rfl) (by kernel_rfl) ?_
    simp only [pickL, nth]
    simp -implicitDefEqProofs (disch := first | omega | decide) only [seval, -Int.reducePow, -Nat.reducePow, cC, pv, binv, sMk2, undef, g2, g3, g8]
    have hn3 := nextF_lt (l := x.l) (i := j2 + 1 + 1) (m := 3) (by omega)
    obtain ⟨q3, hq3⟩ : ∃ q, nextF x.l (j2 + 1 + 1) 3 = q := ⟨_, rfl⟩
    rw [hq3] at hn3
    refine ⟨?_, ?_⟩
    · refine callV_mod1 5 (fun w hw => next_anyN x.tb x.TA x.tn x.tc x.l (j2 + 1 + 1) 3 w (hw.hold 5 rfl) (hE.atM' hw ha) ha hl (by omega) (by omega)) rfl ?_
      try simp -implicitDefEqProofs (disch := first | omega | decide) only [seval, -Int.reducePow, -Nat.reducePow, cC, pv, binv, sMk2, undef, hq3, g2, g3, g8]
      intro b82 hb82 h82
      refine appV_at 1 tap40 rfl (fun w hw => src_blk (size := 2) (.head _) rfl hw) rfl (by omega) (by omega) ?_
      intro A7 c7 hl7 hr7
      simp -implicitDefEqProofs (disch := first | omega | decide) only [seval, -Int.reducePow, -Nat.reducePow, cC, pv, binv, sMk2, undef, g2, g3, g8]
      intro b85 hb85 h85
      refine appV_at 4 tap28 rfl (fun w hw => src_blk (size := 4) (.head _) rfl hw) rfl (by omega) (by omega) ?_
      intro A8 c8 hl8 hr8
      simp -implicitDefEqProofs (disch := first | omega | decide) only [seval, -Int.reducePow, -Nat.reducePow, cC, pv, binv, sMk2, undef, g2, g3, g8]
      refine ⟨[0, 4, 2, 5, 6, 7], by decide, ?_⟩
      simp only [pickL, nth]
      refine hK _ _ ?_
      clear hK K
      refine cv_gen fun G9 hG => ?_
      have g9_6 := congrFun hG 6
      have g9_7 := congrFun hG 7
      clear hG
      try simp -implicitDefEqProofs (disch := first | omega | decide) only [seval, -Int.reducePow, -Nat.reducePow, cC, pv, binv, sMk2, undef, g2, g3, g8] at g9_6 g9_7
      have g9 := And.intro g9_6 g9_7
      refine cv_snap [0, 3, 4, 5] (by decide) fun v5 f5 hv5 hf5 => ?_
      simp only [pickL, nth]
      have hM5 : ∀ m ∈ [x.tb], ∃ r ∈ pickL [0, 3, 4, 5] [Res.row (Value.slice A8 2 c8) 42 4 2 [Value.int IntKind.i64 0, Value.int IntKind.i64 0, Value.int IntKind.i64 x.loc, Value.slice s2.A s2.n s2.c, Value.int IntKind.i64 1, Value.int IntKind.i64 1, Value.int IntKind.i64 q3, Value.slice A7 (cs.length + 1) c7], snap [x.tb] W v4 f4, Res.row (Value.slice A7 (cs.length + 1) c7) 39 2 (cs.length + 1) (cl insc cs ++ [Value.int IntKind.i64 22, Value.int IntKind.u64 0]), .blk b7 30 [.slice (some ⟨tb, 0, none⟩) 3 3, Value.slice A8 2 c8], .blk b6 30 [.slice none 0 0, .slice none 0 0], coT x (j2 + 1 + 1 + 1)], m ∈ r.foot := by simp [pickL, nth, Res.foot, coT]
      obtain ⟨k1, k2⟩ := hv5.snapK hf5 1 rfl (by decide) hM5
      have k3 := hv5.footK hf5 (k := 1) rfl (by decide) hM5
      have k4 := hv5.footK hf5 (k := 2) rfl (by decide) hM5
      simp only [snap_foot] at k3
      have hT5 : Sd v5 (fun y => y ∈ f5) 2 (some ⟨tb, 0, none⟩) 3 3 (cl tyc ts) := hT4.same (fun y hy => k1 y (.inl hy)) k3
      have hTy5 : ∀ t ∈ ts, Sd v5 (fun y => y ∈ f5) 2 t.A t.n t.c (cl fdc t.fs) := fun t ht => (hTy4 t ht).same (fun y hy => k1 y (.inl hy)) k3
      have hC5 : Sd v5 (fun y => y ∈ f5) 2 s2.A s2.n s2.c (cl insc s2.code) := hC4.same (fun y hy => k1 y (.inl hy)) k3
      have hB5 : Sd v5 (fun y => y ∈ f5) 2 A7 (cs.length + 1) c7 (cl insc (cs ++ [⟨22, 0⟩])) := by
        rw [cl_snoc]
        exact Sd.of_own (hv5.holds _ (.tail _ (.tail _ (.head _)))) fun g hg => k4 g (by simpa [Res.foot] using hg)
      clear hM5 k1 k2 k3 k4 hv5 hf5
      refine cv_pick [0, 1, 4, 2, 3] (by decide) ?_
      simp only [pickL, nth]
      refine cv_seq_k fun K hK => ?_
      refine cv_region_then rfl ?_
      simp -implicitDefEqProofs (disch := first | omega | decide) only [seval, -Int.reducePow, -Nat.reducePow, cC, pv, binv, sMk2, undef, g2, g3, g9]
      refine hK _ _ ?_
      clear hK K
      refine cv_ret ?_
      simp -implicitDefEqProofs (disch := first | omega | decide) only [seval, -Int.reducePow, -Nat.reducePow, cC, pv, binv, sMk2, undef, retQ2, ressV, packV, g2, g3, g9]
      intro w hw
      exact made_two hw hT5 hTy5 hC5 hB5 hTc ht3 hok (by omega) (by omega) (by omega) hcs (by omega) (by omega) hn3 (by omega)
    · intro b82 hb82 h82
      refine callV_mod1 6 (fun w hw => next_anyN x.tb x.TA x.tn x.tc x.l (j2 + 1 + 1) 3 w (hw.hold 6 rfl) (hE.atM' hw ha) ha hl (by omega) (by omega)) rfl ?_
      try simp -implicitDefEqProofs (disch := first | omega | decide) only [seval, -Int.reducePow, -Nat.reducePow, cC, pv, binv, sMk2, undef, hq3, g2, g3, g8]
      refine appV_at 1 tap40 rfl (fun w hw => src_blk (size := 2) (.head _) rfl hw) rfl (by omega) (by omega) ?_
      intro A7 c7 hl7 hr7
      simp -implicitDefEqProofs (disch := first | omega | decide) only [seval, -Int.reducePow, -Nat.reducePow, cC, pv, binv, sMk2, undef, g2, g3, g8]
      intro b85 hb85 h85
      refine appV_at 4 tap28 rfl (fun w hw => src_blk (size := 4) (.head _) rfl hw) rfl (by omega) (by omega) ?_
      intro A8 c8 hl8 hr8
      simp -implicitDefEqProofs (disch := first | omega | decide) only [seval, -Int.reducePow, -Nat.reducePow, cC, pv, binv, sMk2, undef, g2, g3, g8]
      refine ⟨[0, 4, 2, 5, 6, 7], by decide, ?_⟩
      simp only [pickL, nth]
      refine hK _ _ ?_
      clear hK K
      refine cv_gen fun G10 hG => ?_
      have g10_6 := congrFun hG 6
      have g10_7 := congrFun hG 7
      clear hG
      try simp -implicitDefEqProofs (disch := first | omega | decide) only [seval, -Int.reducePow, -Nat.reducePow, cC, pv, binv, sMk2, undef, g2, g3, g8] at g10_6 g10_7
      have g10 := And.intro g10_6 g10_7
      refine cv_snap [0, 3, 4, 5] (by decide) fun v5 f5 hv5 hf5 => ?_
      simp only [pickL, nth]
      have hM5 : ∀ m ∈ [x.tb], ∃ r ∈ pickL [0, 3, 4, 5] [Res.row (Value.slice A8 2 c8) 42 4 2 [Value.int IntKind.i64 0, Value.int IntKind.i64 0, Value.int IntKind.i64 x.loc, Value.slice s2.A s2.n s2.c, Value.int IntKind.i64 1, Value.int IntKind.i64 1, Value.int IntKind.i64 q3, Value.slice A7 (cs.length + 1) c7], snap [x.tb] W v4 f4, Res.row (Value.slice A7 (cs.length + 1) c7) 39 2 (cs.length + 1) (cl insc cs ++ [Value.int IntKind.i64 22, Value.int IntKind.u64 0]), .blk b7 30 [.slice (some ⟨tb, 0, none⟩) 3 3, Value.slice A8 2 c8], .blk b6 30 [.slice none 0 0, .slice none 0 0], coT x (j2 + 1 + 1 + 1)], m ∈ r.foot := by simp [pickL, nth, Res.foot, coT]
      obtain ⟨k1, k2⟩ := hv5.snapK hf5 1 rfl (by decide) hM5
      have k3 := hv5.footK hf5 (k := 1) rfl (by decide) hM5
      have k4 := hv5.footK hf5 (k := 2) rfl (by decide) hM5
      simp only [snap_foot] at k3
      have hT5 : Sd v5 (fun y => y ∈ f5) 2 (some ⟨tb, 0, none⟩) 3 3 (cl tyc ts) := hT4.same (fun y hy => k1 y (.inl hy)) k3
      have hTy5 : ∀ t ∈ ts, Sd v5 (fun y => y ∈ f5) 2 t.A t.n t.c (cl fdc t.fs) := fun t ht => (hTy4 t ht).same (fun y hy => k1 y (.inl hy)) k3
      have hC5 : Sd v5 (fun y => y ∈ f5) 2 s2.A s2.n s2.c (cl insc s2.code) := hC4.same (fun y hy => k1 y (.inl hy)) k3
      have hB5 : Sd v5 (fun y => y ∈ f5) 2 A7 (cs.length + 1) c7 (cl insc (cs ++ [⟨22, 0⟩])) := by
        rw [cl_snoc]
        exact Sd.of_own (hv5.holds _ (.tail _ (.tail _ (.head _)))) fun g hg => k4 g (by simpa [Res.foot] using hg)
      clear hM5 k1 k2 k3 k4 hv5 hf5
      refine cv_pick [0, 1, 4, 2, 3] (by decide) ?_
      simp only [pickL, nth]
      refine cv_seq_k fun K hK => ?_
      refine cv_region_then rfl ?_
      simp -implicitDefEqProofs (disch := first | omega | decide) only [seval, -Int.reducePow, -Nat.reducePow, cC, pv, binv, sMk2, undef, g2, g3, g10]
      refine hK _ _ ?_
      clear hK K
      refine cv_ret ?_
      simp -implicitDefEqProofs (disch := first | omega | decide) only [seval, -Int.reducePow, -Nat.reducePow, cC, pv, binv, sMk2, undef, retQ2, ressV, packV, g2, g3, g10]
      intro w hw
      exact made_two hw hT5 hTy5 hC5 hB5 hTc ht3 hok (by omega) (by omega) (by omega) hcs (by omega) (by omega) hn3 (by omega)
  refine cv_skip ?_
  try simp only [blockQ, thenQ]
  refine hK _ _ ?_
  clear hK K
  refine cv_gen fun G11 hG => ?_
  have g11_6 := congrFun hG 6
  have g11_7 := congrFun hG 7
  clear hG
  try simp -implicitDefEqProofs (disch := first | omega | decide) only [seval, -Int.reducePow, -Nat.reducePow, cC, pv, binv, sMk2, undef, g2, g3, g6] at g11_6 g11_7
  have g11 := And.intro g11_6 g11_7
  refine cv_pick [0, 1, 4, 2, 3] (by decide) ?_
  simp only [pickL, nth]
  refine cv_seq_k fun K hK => ?_
  refine cv_region_then rfl ?_
  simp -implicitDefEqProofs (disch := first | omega | decide) only [seval, -Int.reducePow, -Nat.reducePow, cC, pv, binv, sMk2, undef, g2, g3, g11]
  refine hK _ _ ?_
  clear hK K
  refine cv_ret ?_
  simp -implicitDefEqProofs (disch := first | omega | decide) only [seval, -Int.reducePow, -Nat.reducePow, cC, pv, binv, sMk2, undef, retQ2, ressV, packV, g2, g3, g11]
  intro w hw
  refine ⟨(⟨some ⟨tb, 0, none⟩, 3, 3, ts, some ⟨b58, 0, none⟩, 1, 1, [⟨0, 0, x.loc, s2.A, s2.n, s2.c, s2.code⟩]⟩, j2), rfl, ⟨module_end (x := x) (j := j2) (gs := [⟨0, 0, x.loc, s2.A, s2.n, s2.c, s2.code⟩]) hw hT4 hTy4 (by simpa using hC4) (by simpa using hok), ?_⟩, hw.hold 2 rfl, hw.pres⟩
  refine ⟨ht3, hTc, by simp, by simp, fun q g hg => ?_⟩
  obtain ⟨rfl, rfl⟩ : q = 0 ∧ g = ⟨0, 0, x.loc, s2.A, s2.n, s2.c, s2.code⟩ := by
    cases q with
    | zero => exact ⟨rfl, by simpa using hg.symm⟩
    | succ q => simp at hg
  dsimp only
  exact ⟨by omega, fun _ => ⟨rfl, rfl⟩, by omega, by omega, hok⟩
end Go.Proofs.YtlbmnioibiomfaaGreat
/- Reading modules: bytes' functions, the reader's numbers. -/
namespace Go.Proofs.YtlbmnioibiomfaaGreat
open Go.RowKit Go.Shelf
set_option linter.unusedVariables false
set_option linter.unusedSimpArgs false
set_option maxRecDepth 100000
theorem equal_any (A B : Option Addr) (n c m d : Nat) (l k : List Nat) (W : World) (hE : Sl W W.heap.size 1 A n c (byt l)) (hF : Sl W W.heap.size 1 B m d (byt k)) (hl : ∀ x ∈ l, x < 256) (hk : ∀ x ∈ k, x < 256) :
    Calls Tryz.prog 92 #[.slice A n c, .slice B m d] W fun e w' => e = .returned (.bool (decide (l = k))) ∧ Below W.heap.size W w' := by
  refine calls_cv (M := []) (n := 10) [.tmp 4] rfl Tryz.func92 rfl rfl (Nat.le_of_ble_eq_true rfl) (St.nil _ _) ?_
  refine cv_seq_k fun K hK => ?_
  refine cv_region_then rfl ?_
  simp -implicitDefEqProofs (disch := first | omega | decide) only [seval, -Int.reducePow, -Nat.reducePow, cC, pv, binv, undef, Nat.mul_one]
  refine hK _ _ ?_
  clear hK K
  refine cv_seq_k fun K hK => ?_
  refine cv_region_then rfl ?_
  simp -implicitDefEqProofs (disch := first | omega | decide) only [seval, -Int.reducePow, -Nat.reducePow, cC, pv, binv, undef, Nat.mul_one]
  refine ⟨_, fun w hw => (hE.at hw).reads, fun tok htok => ?_⟩
  subst htok
  simp -implicitDefEqProofs (disch := first | omega | decide) only [seval, -Int.reducePow, -Nat.reducePow, cC, pv, binv, undef, Nat.mul_one]
  refine ⟨_, fun w hw => (hF.at hw).reads, fun tok htok => ?_⟩
  subst htok
  simp -implicitDefEqProofs (disch := first | omega | decide) only [seval, -Int.reducePow, -Nat.reducePow, cC, pv, binv, undef, Nat.mul_one]
  refine hK _ _ ?_
  clear hK K
  refine cv_ret ⟨_, (by simp -implicitDefEqProofs (disch := first | omega | decide) only [seval, -Int.reducePow, -Nat.reducePow, cC, pv, binv, undef, Nat.mul_one]; rfl), fun w hw => ?_⟩
  rw [bstr_beq hl hk]
  exact ⟨rfl, hw.below⟩
theorem hasPrefix_any (A B : Option Addr) (n c m d : Nat) (l k : List Nat) (W : World) (hE : Sl W W.heap.size 1 A n c (byt l)) (hF : Sl W W.heap.size 1 B m d (byt k)) (hl : ∀ x ∈ l, x < 256) (hk : ∀ x ∈ k, x < 256) :
    Calls Tryz.prog 70 #[.slice A n c, .slice B m d] W fun e w' => e = .returned (.bool (decide (l.take k.length = k))) ∧ Below W.heap.size W w' := by
  have hln : l.length = n := byt_row hE.len
  have hkm : k.length = m := byt_row hF.len
  have hcap := hE.cap
  have hmax := hE.max
  refine calls_cv (M := []) (n := 18) [.tmp 4] rfl Tryz.func70 rfl rfl (Nat.le_of_ble_eq_true rfl) (St.nil _ _) ?_
  refine cv_seq_k fun K hK => ?_
  refine cv_region_then rfl ?_
  simp -implicitDefEqProofs (disch := first | omega | decide) only [seval, -Int.reducePow, -Nat.reducePow, cC, pv, binv, undef, Nat.mul_one]
  refine hK _ _ ?_
  clear hK K
  by_cases h : m ≤ n
  · have hd : decide ((m : Int) ≤ (n : Int)) = true := decide_eq_true (by omega)
    refine cv_seq_k fun K hK => ?_
    refine cv_region_then rfl ?_
    simp -implicitDefEqProofs (disch := first | omega | decide) only [seval, -Int.reducePow, -Nat.reducePow, cC, pv, binv, undef, Nat.mul_one, hd]
    refine callV_ret (fun w hw => equal_any A B m c m d (l.take m) k w ((hE.at hw).btake h) (hF.at hw) (fun x hx => hl x (List.mem_of_mem_take hx)) hk) ?_
    try simp -implicitDefEqProofs (disch := first | omega | decide) only [seval, -Int.reducePow, -Nat.reducePow, cC, pv, binv, undef, Nat.mul_one, hd]
    refine hK _ _ ?_
    clear hK K
    refine cv_ret ⟨_, (by simp -implicitDefEqProofs (disch := first | omega | decide) only [seval, -Int.reducePow, -Nat.reducePow, cC, pv, binv, undef, Nat.mul_one]; rfl), fun w hw => ?_⟩
    rw [hkm]
    exact ⟨rfl, hw.below⟩
  · have hd : decide ((m : Int) ≤ (n : Int)) = false := decide_eq_false (by omega)
    refine cv_seq_k fun K hK => ?_
    refine cv_region_then rfl ?_
    simp -implicitDefEqProofs (disch := first | omega | decide) only [seval, -Int.reducePow, -Nat.reducePow, cC, pv, binv, undef, Nat.mul_one, hd]
    refine hK _ _ ?_
    clear hK K
    refine cv_ret ⟨_, (by simp -implicitDefEqProofs (disch := first | omega | decide) only [seval, -Int.reducePow, -Nat.reducePow, cC, pv, binv, undef, Nat.mul_one]; rfl), fun w hw => ?_⟩
    rw [decide_eq_false (fun e => ?_)]
    · exact ⟨rfl, hw.below⟩
    · have := congrArg List.length e
      rw [List.length_take] at this
      omega
theorem cutPrefix_any (A B : Option Addr) (n c m d : Nat) (l k : List Nat) (W : World) (hE : Sl W W.heap.size 1 A n c (byt l)) (hF : Sl W W.heap.size 1 B m d (byt k)) (hl : ∀ x ∈ l, x < 256) (hk : ∀ x ∈ k, x < 256) :
    Calls Tryz.prog 51 #[.slice A n c, .slice B m d] W fun e w' => e = .returned (if l.take k.length = k then .tuple #[.slice (sbase c m 1 A) (n - m) (c - m), .bool true] else .tuple #[.slice A n c, .bool false]) ∧ Below W.heap.size W w' := by
  have hln : l.length = n := byt_row hE.len
  have hkm : k.length = m := byt_row hF.len
  have hcap := hE.cap
  have hmax := hE.max
  refine calls_cv (M := []) (n := 15) [.tmp 4, .tmp 5] rfl Tryz.func51 rfl rfl (Nat.le_of_ble_eq_true rfl) (St.nil _ _) ?_
  refine cv_seq_k fun K hK => ?_
  refine cv_region_then rfl ?_
  simp -implicitDefEqProofs (disch := first | omega | decide) only [seval, -Int.reducePow, -Nat.reducePow, cC, pv, binv, undef, Nat.mul_one]
  refine hK _ _ ?_
  clear hK K
  refine cv_seq_k fun K hK => ?_
  refine cv_seq_k fun K hK => ?_
  refine cv_region_then rfl ?_
  simp -implicitDefEqProofs (disch := first | omega | decide) only [seval, -Int.reducePow, -Nat.reducePow, cC, pv, binv, undef, Nat.mul_one]
  refine callV_ret (fun w hw => hasPrefix_any A B n c m d l k w (hE.at hw) (hF.at hw) hl hk) ?_
  try simp -implicitDefEqProofs (disch := first | omega | decide) only [seval, -Int.reducePow, -Nat.reducePow, cC, pv, binv, undef, Nat.mul_one]
  refine hK _ _ ?_
  clear hK K
  refine cv_cond ?_
  simp -implicitDefEqProofs (disch := first | omega | decide) only [seval, -Int.reducePow, -Nat.reducePow, cC, pv, binv, undef, Nat.mul_one]
  refine ⟨fun hc => ?_, fun hc => ?_⟩
  · have h : ¬ l.take k.length = k := by simpa using hc
    refine cv_seq_k fun K hK => ?_
    refine cv_region_then rfl ?_
    simp -implicitDefEqProofs (disch := first | omega | decide) only [seval, -Int.reducePow, -Nat.reducePow, cC, pv, binv, undef, Nat.mul_one]
    refine hK _ _ ?_
    clear hK K
    refine cv_ret ⟨_, (by simp -implicitDefEqProofs (disch := first | omega | decide) only [seval, -Int.reducePow, -Nat.reducePow, cC, pv, binv, undef, Nat.mul_one]; rfl), fun w hw => ?_⟩
    rw [if_neg h]
    exact ⟨rfl, hw.below⟩
  have h : l.take k.length = k := by simpa using hc
  have hmn : m ≤ n := by
    have := congrArg List.length h
    rw [List.length_take] at this
    omega
  refine cv_skip ?_
  try simp only [blockQ, thenQ]
  refine hK _ _ ?_
  clear hK K
  refine cv_seq_k fun K hK => ?_
  refine cv_region_then rfl ?_
  simp -implicitDefEqProofs (disch := first | omega | decide) only [seval, -Int.reducePow, -Nat.reducePow, cC, pv, binv, undef, Nat.mul_one]
  refine hK _ _ ?_
  clear hK K
  refine cv_ret ⟨_, (by simp -implicitDefEqProofs (disch := first | omega | decide) only [seval, -Int.reducePow, -Nat.reducePow, cC, pv, binv, undef, Nat.mul_one]; rfl), fun w hw => ?_⟩
  rw [if_pos h]
  exact ⟨rfl, hw.below⟩
/-! ## The reader -/
def mrC (A : Option Addr) (n c : Nat) (err : Int) : List Value := [.slice A n c, .int .i64 err]
def mrB (r : Nat) (A : Option Addr) (n c : Nat) (err : Int) : Res := .blk r 97 [.slice A n c, .int .i64 err]
set_option maxRecDepth 100000 in
theorem sMRd2 : type_of% (And.intro (And.intro @Nat.mul_one @mrC.eq_1) (And.intro @mrB.eq_1 @uV.eq_1)) := (And.intro (And.intro @Nat.mul_one @mrC.eq_1) (And.intro @mrB.eq_1 @uV.eq_1))
theorem took_any (r : Nat) (A : Option Addr) (n c k k' : Nat) (e : Int) (W : World) (hW : W.heap[r]? = some (.cells (mrC A n c 0).toArray 97 (0, 0))) (hk : e = 0 → k ≤ n) (hcap : n ≤ c) (hmax : c ≤ 9223372036854775807) (hk' : k' = if e = 0 then k else 0) :
    Calls Tryz.prog 73 #[.pointer (some ⟨r, 0, none⟩), .int .i64 (k : Int), .int .i64 e] W (modP r 97 (.bool (decide (e = 0))) (mrC (sbase c k' 1 A) (n - k') (c - k') e) W) := by
  refine calls_cv (M := [r]) (n := 22) [.tmp 6] rfl Tryz.func73 rfl rfl (Nat.le_of_ble_eq_true rfl)  (St.one hW) ?_
  refine cv_seq_k fun K hK => ?_
  refine cv_region_then rfl ?_
  simp -implicitDefEqProofs (disch := first | omega | decide) only [seval, -Int.reducePow, -Nat.reducePow, cC, pv, binv, sMRd2, undef]
  refine hK _ _ ?_
  clear hK K
  refine cv_seq_k fun K hK => ?_
  refine cv_seq_k fun K hK => ?_
  refine cv_region_then rfl ?_
  simp -implicitDefEqProofs (disch := first | omega | decide) only [seval, -Int.reducePow, -Nat.reducePow, cC, pv, binv, sMRd2, undef]
  refine hK _ _ ?_
  clear hK K
  refine cv_cond ?_
  simp -implicitDefEqProofs (disch := first | omega | decide) only [seval, -Int.reducePow, -Nat.reducePow, cC, pv, binv, sMRd2, undef]
  refine ⟨fun hc => ?_, fun hc => ?_⟩
  · have he : ¬ e = 0 := by simpa using hc
    rw [if_neg he] at hk'
    subst hk'
    refine cv_seq_k fun K hK => ?_
    refine cv_region_then rfl ?_
    simp -implicitDefEqProofs (disch := first | omega | decide) only [seval, -Int.reducePow, -Nat.reducePow, cC, pv, binv, sMRd2, undef]
    refine hK _ _ ?_
    clear hK K
    refine cv_seq_k fun K hK => ?_
    refine cv_region_then rfl ?_
    simp -implicitDefEqProofs (disch := first | omega | decide) only [seval, -Int.reducePow, -Nat.reducePow, cC, pv, binv, sMRd2, undef]
    refine hK _ _ ?_
    clear hK K
    refine cv_ret ⟨_, (by simp -implicitDefEqProofs (disch := first | omega | decide) only [seval, -Int.reducePow, -Nat.reducePow, cC, pv, binv, sMRd2, undef]; rfl), fun w hw => ?_⟩
    rw [sbase_zero, decide_eq_false he]
    exact ⟨rfl, hw.hold 0 rfl, hw.pres⟩
  have he : e = 0 := by simpa using hc
  rw [if_pos he] at hk'
  subst hk' he
  have hk2 := hk rfl
  refine cv_skip ?_
  try simp only [blockQ, thenQ]
  refine hK _ _ ?_
  clear hK K
  refine cv_seq_k fun K hK => ?_
  refine cv_region_then rfl ?_
  simp -implicitDefEqProofs (disch := first | omega | decide) only [seval, -Int.reducePow, -Nat.reducePow, cC, pv, binv, sMRd2, undef]
  refine hK _ _ ?_
  clear hK K
  refine cv_seq_k fun K hK => ?_
  refine cv_region_then rfl ?_
  simp -implicitDefEqProofs (disch := first | omega | decide) only [seval, -Int.reducePow, -Nat.reducePow, cC, pv, binv, sMRd2, undef]
  refine hK _ _ ?_
  clear hK K
  refine cv_ret ⟨_, (by simp -implicitDefEqProofs (disch := first | omega | decide) only [seval, -Int.reducePow, -Nat.reducePow, cC, pv, binv, sMRd2, undef]; rfl), fun w hw => ?_⟩
  exact ⟨rfl, hw.hold 0 rfl, hw.pres⟩
set_option maxHeartbeats 2000000 in
theorem mnumber_any (r : Nat) (A : Option Addr) (n c : Nat) (l : List Nat) (most : Nat) (err : Int) (W : World) (hW : W.heap[r]? = some (.cells (mrC A n c err).toArray 97 (0, 0))) (hE : Sl W W.heap.size 1 A n c (byt l)) (ha : 0 < n → Apt A [r]) (hb : ∀ x ∈ l, x < 256) (hm : most ≤ 1000000) :
    Calls Tryz.prog 71 #[.pointer (some ⟨r, 0, none⟩), .int .i64 (most : Int)] W (modP r 97 (.int .i64 ((numE err l most).1 : Int)) (mrC (sbase c (numE err l most).2.1 1 A) (n - (numE err l most).2.1) (c - (numE err l most).2.1) (numE err l most).2.2) W) := by
  have hln : l.length = n := byt_row hE.len
  have hcap := hE.cap
  have hmax := hE.max
  have em := i64v most (by omega)
  refine calls_cv (M := [r]) (n := 37) [.tmp 4] rfl Tryz.func71 rfl rfl (Nat.le_of_ble_eq_true rfl)  (St.one hW) ?_
  refine cv_seq_k fun K hK => ?_
  refine cv_region_then rfl ?_
  simp -implicitDefEqProofs (disch := first | omega | decide) only [seval, -Int.reducePow, -Nat.reducePow, cC, pv, binv, sMRd2, undef]
  refine hK _ _ ?_
  clear hK K
  refine cv_seq_k fun K hK => ?_
  refine cv_seq_k fun K hK => ?_
  refine cv_region_then rfl ?_
  simp -implicitDefEqProofs (disch := first | omega | decide) only [seval, -Int.reducePow, -Nat.reducePow, cC, pv, binv, sMRd2, undef]
  refine hK _ _ ?_
  clear hK K
  refine cv_cond ?_
  simp -implicitDefEqProofs (disch := first | omega | decide) only [seval, -Int.reducePow, -Nat.reducePow, cC, pv, binv, sMRd2, undef]
  refine ⟨fun hc => ?_, fun hc => ?_⟩
  · have he : ¬ err = 0 := by simpa using hc
    have hF : numE err l most = (0, 0, err) := by unfold numE; rw [if_neg he]
    refine cv_seq_k fun K hK => ?_
    refine cv_region_then rfl ?_
    simp -implicitDefEqProofs (disch := first | omega | decide) only [seval, -Int.reducePow, -Nat.reducePow, cC, pv, binv, sMRd2, undef]
    refine hK _ _ ?_
    clear hK K
    refine cv_ret ⟨_, (by simp -implicitDefEqProofs (disch := first | omega | decide) only [seval, -Int.reducePow, -Nat.reducePow, cC, pv, binv, sMRd2, undef]; rfl), fun w hw => ?_⟩
    rw [hF, sbase_zero]
    exact ⟨rfl, hw.hold 0 rfl, hw.pres⟩
  have he : err = 0 := by simpa using hc
  subst he
  refine cv_skip ?_
  try simp only [blockQ, thenQ]
  refine hK _ _ ?_
  clear hK K
  obtain ⟨q, hq⟩ : ∃ q, uD 0 l = q := ⟨_, rfl⟩
  have hqc := uD_cases l 0 (by omega) hb
  have hlt := uD_lt hb
  rw [hq] at hqc hlt
  rw [hln] at hqc
  refine cv_seq_k fun K hK => ?_
  refine cv_region_then rfl ?_
  simp -implicitDefEqProofs (disch := first | omega | decide) only [seval, -Int.reducePow, -Nat.reducePow, cC, pv, binv, sMRd2, undef]
  refine callV_ret (fun w hw => uint_any A n c l w (hE.atM' hw ha) hb) ?_
  try simp -implicitDefEqProofs (disch := first | omega | decide) only [seval, -Int.reducePow, -Nat.reducePow, cC, pv, binv, sMRd2, undef, hq]
  refine hK _ _ ?_
  clear hK K
  refine cv_gen fun G1 hG => ?_
  have g1_0 := congrFun hG 0
  have g1_1 := congrFun hG 1
  have g1_5 := congrFun hG 5
  have g1_6 := congrFun hG 6
  have g1_7 := congrFun hG 7
  clear hG
  try simp -implicitDefEqProofs (disch := first | omega | decide) only [seval, -Int.reducePow, -Nat.reducePow, cC, pv, binv, sMRd2, undef, hq] at g1_0 g1_1 g1_5 g1_6 g1_7
  have g1 := And.intro g1_0 (And.intro g1_1 (And.intro g1_5 (And.intro g1_6 g1_7)))
  obtain ⟨e', he'⟩ : ∃ e', (if q.2.2 = 0 then (if most < q.1 then 4 else 0) else q.2.2 : Int) = e' := ⟨_, rfl⟩
  refine cv_seq_k fun K hK => ?_
  refine cv_cut (fun _ _ => True) (fun F' L' => F' 0 = G1 0 ∧ F' 5 = G1 5 ∧ F' 6 = G1 6 ∧ F' 7 = .int .i64 e' ∧ L' = [mrB r A n c 0]) ?_ ?_
  · by_cases h0 : q.2.2 = 0
    · rw [if_pos h0] at he'
      by_cases hm1 : most < q.1
      · have hm' : (most : Int) < (q.1 : Int) := by omega
        rw [if_pos hm1] at he'
        refine cv_seq_k fun K hK => ?_
        refine cv_region_then rfl ?_
        simp -implicitDefEqProofs (disch := first | omega | decide) only [seval, -Int.reducePow, -Nat.reducePow, cC, pv, binv, sMRd2, undef, h0, hm', em, g1]
        refine hK _ _ ?_
        clear hK K
        refine cv_cond ?_
        simp -implicitDefEqProofs (disch := first | omega | decide) only [seval, -Int.reducePow, -Nat.reducePow, cC, pv, binv, sMRd2, undef, g1]
        refine cv_region_q rfl ?_
        simp -implicitDefEqProofs (disch := first | omega | decide) only [seval, -Int.reducePow, -Nat.reducePow, cC, pv, binv, sMRd2, undef, g1]
        all_goals (first | (simp [← he']; done) | (simp [← he']; omega))
      · have hm' : ¬ (most : Int) < (q.1 : Int) := by omega
        rw [if_neg hm1] at he'
        refine cv_seq_k fun K hK => ?_
        refine cv_region_then rfl ?_
        simp -implicitDefEqProofs (disch := first | omega | decide) only [seval, -Int.reducePow, -Nat.reducePow, cC, pv, binv, sMRd2, undef, h0, hm', em, g1]
        refine hK _ _ ?_
        clear hK K
        refine cv_cond ?_
        simp -implicitDefEqProofs (disch := first | omega | decide) only [seval, -Int.reducePow, -Nat.reducePow, cC, pv, binv, sMRd2, undef, g1]
        refine cv_skip ?_
        try simp only [blockQ, thenQ]
        simp -implicitDefEqProofs (disch := first | omega | decide) only [seval, -Int.reducePow, -Nat.reducePow, cC, pv, binv, sMRd2, undef, g1]
        rw [← he', h0]
    · rw [if_neg h0] at he'
      refine cv_seq_k fun K hK => ?_
      refine cv_region_then rfl ?_
      simp -implicitDefEqProofs (disch := first | omega | decide) only [seval, -Int.reducePow, -Nat.reducePow, cC, pv, binv, sMRd2, undef, h0, em, g1]
      refine hK _ _ ?_
      clear hK K
      refine cv_cond ?_
      simp -implicitDefEqProofs (disch := first | omega | decide) only [seval, -Int.reducePow, -Nat.reducePow, cC, pv, binv, sMRd2, undef, g1]
      refine cv_skip ?_
      try simp only [blockQ, thenQ]
      simp -implicitDefEqProofs (disch := first | omega | decide) only [seval, -Int.reducePow, -Nat.reducePow, cC, pv, binv, sMRd2, undef, g1]
      rw [← he']
  intro G2 L' _ hF
  obtain ⟨q0, q5, q6, q7, rfl⟩ := hF
  have g2_0 := q0.trans g1_0
  have g2_5 := q5.trans g1_5
  have g2_6 := q6.trans g1_6
  have g2_7 := q7
  clear q0 q5 q6 q7
  have g2 := And.intro g2_0 (And.intro g2_5 (And.intro g2_6 g2_7))
  refine hK _ _ ?_
  clear hK K
  have hS : numE 0 l most = if e' = 0 then (q.1, q.2.1, 0) else (0, 0, e') := by
    unfold numE smF
    rw [if_pos rfl, List.drop_zero, hq]
    by_cases h0 : q.2.2 = 0
    · rw [if_pos h0] at he' ⊢
      by_cases hm1 : most < q.1
      · rw [if_pos hm1] at he' ⊢
        rw [← he', if_neg (by omega)]
      · rw [if_neg hm1] at he' ⊢
        rw [← he', if_pos rfl, Nat.zero_add]
    · rw [if_neg h0] at he' ⊢
      rw [← he', if_neg h0]
  have h0 : e' = 0 → q.2.1 ≤ n := fun h => by
    rcases hqc with h3 | h3
    · omega
    · exact h3.2.2.2.2.1
  have hq1 : e' = 0 → q.1 ≤ most := fun h => by
    by_cases h0 : q.2.2 = 0
    · rw [if_pos h0] at he'
      by_cases hm1 : most < q.1
      · rw [if_pos hm1] at he'; omega
      · omega
    · rw [if_neg h0] at he'; omega
  obtain ⟨k', hk'⟩ : ∃ k', k' = if e' = 0 then q.2.1 else 0 := ⟨_, rfl⟩
  refine cv_seq_k fun K hK => ?_
  refine cv_seq_k fun K hK => ?_
  refine cv_region_then rfl ?_
  simp -implicitDefEqProofs (disch := first | omega | decide) only [seval, -Int.reducePow, -Nat.reducePow, cC, pv, binv, sMRd2, undef, g2]
  refine callV_mod1 0 (fun w hw => took_any r A n c q.2.1 k' e' w (hw.hold 0 rfl) h0 hcap hmax hk') rfl ?_
  try simp -implicitDefEqProofs (disch := first | omega | decide) only [seval, -Int.reducePow, -Nat.reducePow, cC, pv, binv, sMRd2, undef, g2]
  refine hK _ _ ?_
  clear hK K
  refine cv_cond ?_
  simp -implicitDefEqProofs (disch := first | omega | decide) only [seval, -Int.reducePow, -Nat.reducePow, cC, pv, binv, sMRd2, undef, g2]
  refine ⟨fun hc => ?_, fun hc => ?_⟩
  · have h1 : ¬ e' = 0 := by simpa using hc
    rw [if_neg h1] at hk' hS
    subst hk'
    refine cv_seq_k fun K hK => ?_
    refine cv_region_then rfl ?_
    simp -implicitDefEqProofs (disch := first | omega | decide) only [seval, -Int.reducePow, -Nat.reducePow, cC, pv, binv, sMRd2, undef, g2]
    refine hK _ _ ?_
    clear hK K
    refine cv_ret ⟨_, (by simp -implicitDefEqProofs (disch := first | omega | decide) only [seval, -Int.reducePow, -Nat.reducePow, cC, pv, binv, sMRd2, undef, g2]; rfl), fun w hw => ?_⟩
    rw [hS]
    dsimp only
    rw [sbase_zero]
    exact ⟨rfl, hw.hold 0 rfl, hw.pres⟩
  have h1 : e' = 0 := by simpa using hc
  rw [if_pos h1] at hk' hS
  have := hq1 h1
  subst hk'
  refine cv_skip ?_
  try simp only [blockQ, thenQ]
  refine hK _ _ ?_
  clear hK K
  refine cv_seq_k fun K hK => ?_
  refine cv_region_then rfl ?_
  simp -implicitDefEqProofs (disch := first | omega | decide) only [seval, -Int.reducePow, -Nat.reducePow, cC, pv, binv, sMRd2, undef, wrap_in, g2]
  refine hK _ _ ?_
  clear hK K
  refine cv_ret ⟨_, (by simp -implicitDefEqProofs (disch := first | omega | decide) only [seval, -Int.reducePow, -Nat.reducePow, cC, pv, binv, sMRd2, undef, g2]; rfl), fun w hw => ?_⟩
  rw [hS]
  exact ⟨rfl, by rw [h1] at hw; exact hw.hold 0 rfl, hw.pres⟩
end Go.Proofs.YtlbmnioibiomfaaGreat
/- Reading a function. -/
namespace Go.Proofs.YtlbmnioibiomfaaGreat
open Go.RowKit Go.Shelf
set_option linter.unusedVariables false
set_option linter.unusedSimpArgs false
set_option maxRecDepth 100000
/-- What is left to be read: it lies apart from the reader r. -/
structure Lt (W : World) (r : Nat) (A : Option Addr) (n c : Nat) (l : List Nat) : Prop where
  sl : Sl W W.heap.size 1 A n c (byt l)
  ap : 0 < n → Apt A [r]
  bt : ∀ x ∈ l, x < 256
  sz : n ≤ 4611686018427387904
/-- A number is read: its value, and what is left. -/
structure NumS (A : Option Addr) (n c : Nat) (l : List Nat) (e : Int) (most v : Nat) (A' : Option Addr) (n' c' : Nat) (l' : List Nat) (e' : Int) : Prop where
  ex : ∃ k, numE e l most = (v, k, e') ∧ A' = sbase c k 1 A ∧ n' = n - k ∧ c' = c - k ∧ l' = l.drop k
  le : v ≤ most
  err : ¬ e' = 0 → v = 0
  mo : most ≤ 1000000
section
variable {W w : World} {r n c n' c' most v : Nat} {A A' : Option Addr} {l l' : List Nat} {e e' : Int} {L : List Res} {α β : Type} {a : α} {R : Rs α} {g : List Nat → Rs β}
theorem Lt.len (h : Lt W r A n c l) : l.length = n := byt_row h.sl.len
theorem Lt.drop (h : Lt W r A n c l) {k : Nat} (hk : k ≤ n) : Lt W r (sbase c k 1 A) (n - k) (c - k) (l.drop k) := by
  have hsz := h.sz
  refine ⟨h.sl.bdrop hk, fun hn => ?_, drop_byte h.bt k, by omega⟩
  obtain ⟨b0, off, e, -, -⟩ := h.sl.cells (by omega)
  exact (h.ap (by omega)).sbase (.inr ⟨b0, off, e⟩) _ _ _
theorem Lt.at (h : Lt W r A n c l) (hw : St [r] W L w) : Lt w r A n c l := ⟨h.sl.atM' hw h.ap, h.ap, h.bt, h.sz⟩
/-- What is left, in every world. -/
def Sub (r : Nat) (A : Option Addr) (n c : Nat) (l : List Nat) (A' : Option Addr) (n' c' : Nat) (l' : List Nat) : Prop := ∀ V, Lt V r A n c l → Lt V r A' n' c' l'
theorem Sub.drop {A0 : Option Addr} {n0 c0 : Nat} {l0 : List Nat} (h : Sub r A0 n0 c0 l0 A n c l) {k : Nat} (hk : k ≤ n) : Sub r A0 n0 c0 l0 (sbase c k 1 A) (n - k) (c - k) (l.drop k) := fun V hV => (h V hV).drop hk
theorem NumS.sub {A0 : Option Addr} {n0 c0 : Nat} {l0 : List Nat} (h : NumS A n c l e most v A' n' c' l' e') (hs : Sub r A0 n0 c0 l0 A n c l) : Sub r A0 n0 c0 l0 A' n' c' l' := fun V hV => by
  obtain ⟨k, h1, rfl, rfl, rfl, rfl⟩ := h.ex
  have hL := hs V hV
  have hq := numE_le (e := e) hL.bt most
  rw [h1] at hq
  have hl := hL.len
  have hq2 : k ≤ l.length := hq.2.1
  exact hL.drop (k := k) (by omega)
theorem Sub.refl : Sub r A n c l A n c l := fun _ h => h
theorem Lt.num (h : Lt W r A n c l) (e : Int) (most : Nat) (hm : most ≤ 1000000) : ∃ v A' n' c' l' e', NumS A n c l e most v A' n' c' l' e' ∧ Lt W r A' n' c' l' := by
  have hq := numE_le (e := e) h.bt most
  have hl := h.len
  exact ⟨(numE e l most).1, _, _, _, _, (numE e l most).2.2, ⟨⟨(numE e l most).2.1, rfl, rfl, rfl, rfl, rfl⟩, hq.1, fun h => (hq.2.2 h).1, hm⟩, h.drop (k := (numE e l most).2.1) (by omega)⟩
theorem NumS.out (h : NumS A n c l e most v A' n' c' l' e') (ho : Out R a l e) : Out (thenX R (numX most)) (a, v) l' e' := by
  obtain ⟨k, h1, -, -, -, rfl⟩ := h.ex
  exact ho.num h1
theorem NumS.start (h : NumS A n c l e most v A' n' c' l' e') (ho : Out R a l e) : Lc g (thenX R (cntX g most)) a v 0 [] l' e' := by
  obtain ⟨k, h1, -, -, -, rfl⟩ := h.ex
  have := Lc.start (g := g) ho h1
  exact this
theorem mnum_any (h : NumS A n c l e most v A' n' c' l' e') (hW : W.heap[r]? = some (.cells (mrC A n c e).toArray 97 (0, 0))) (hL : Lt W r A n c l) :
    Calls Tryz.prog 71 #[.pointer (some ⟨r, 0, none⟩), .int .i64 (most : Int)] W (modP r 97 (.int .i64 (v : Int)) (mrC A' n' c' e') W) := by
  obtain ⟨k, h1, rfl, rfl, rfl, rfl⟩ := h.ex
  have := mnumber_any r A n c l most e W hW hL.sl hL.ap hL.bt h.mo
  rw [h1] at this
  exact this
theorem decI_le (hb : ∀ x ∈ l, x < 256) : (decI l).1.arg < 18446744073709551616 ∧ (decI l).2.1 ≤ l.length ∧ (¬ (decI l).2.2 = 0 → (decI l).2.1 = 0) := by
  cases l with
  | nil => exact ⟨by decide, by decide, fun _ => rfl⟩
  | cons x l =>
    have hlt := uD_lt (l := l) fun y hy => hb y (by simp [hy])
    rw [decI_cons]
    split
    · exact ⟨by decide, by simp, fun _ => rfl⟩
    · split
      · exact ⟨by simp, by simp, fun h => absurd rfl h⟩
      · split
        · refine ⟨hlt.1, ?_, fun h => absurd rfl h⟩
          have := hlt.2.1
          rw [List.length_cons]
          dsimp only
          omega
        · exact ⟨by simp, by simp, fun _ => rfl⟩
end
/-- A function that was read. -/
def fnΦ (r : Nat) (A : Option Addr) (n c : Nat) (l : List Nat) (i : FnR × Option Addr × Nat × Nat × List Nat × Int) (w w' : World) : Prop :=
  Sub r A n c l i.2.1 i.2.2.1 i.2.2.2.1 i.2.2.2.2.1 ∧ ((i.2.2.2.2.2 = 0 ∧ (∃ q, fnX l = .ok (q, i.2.2.2.2.1) ∧ fnD i.1 = qD q) ∧ Sd w' (Nw w w') 2 i.1.A i.1.n i.1.c (cl insc i.1.code) ∧ ∀ x ∈ i.1.code, x.arg < 18446744073709551616) ∨ (¬ i.2.2.2.2.2 = 0 ∧ fnX l = .error i.2.2.2.2.2))
def zFn : FnR := ⟨0, 0, 0, none, 0, 0, []⟩
set_option maxRecDepth 100000 in
theorem sMRf1 : type_of% (And.intro (And.intro @Nat.mul_one (And.intro @mrC.eq_1 @mrB.eq_1)) (And.intro @diV.eq_1 (And.intro @gBox.eq_1 @fnV.eq_1))) := (And.intro (And.intro @Nat.mul_one (And.intro @mrC.eq_1 @mrB.eq_1)) (And.intro @diV.eq_1 (And.intro @gBox.eq_1 @fnV.eq_1)))
set_option maxHeartbeats 4000000 in
theorem mfunc_any (r : Nat) (A : Option Addr) (n c : Nat) (l : List Nat) (W : World) (hW : W.heap[r]? = some (.cells (mrC A n c 0).toArray 97 (0, 0))) (hL : Lt W r A n c l) :
    Calls Tryz.prog 74 #[.pointer (some ⟨r, 0, none⟩)] W fun e w' => ∃ i, e = .returned (fnV i.1) ∧ fnΦ r A n c l i W w' ∧ w'.heap[r]? = some (.cells (mrC i.2.1 i.2.2.1 i.2.2.2.1 i.2.2.2.2.2).toArray 97 (0, 0)) ∧ Pres [r] W w' := by
  obtain ⟨v1, A1, n1, c1, l1, e1, s1, L1⟩ := hL.num 0 1024 (by omega)
  obtain ⟨v2, A2, n2, c2, l2, e2, s2, L2⟩ := L1.num e1 1024 (by omega)
  obtain ⟨v3, A3, n3, c3, l3, e3, s3, L3⟩ := L2.num e2 1024 (by omega)
  obtain ⟨v4, A4, n4, c4, l4, e4, s4, L4⟩ := L3.num e3 1024 (by omega)
  have hS : Lc inX (fnX l) ((((), v1), v2), v3) v4 0 [] l4 e4 := s4.start (s3.out (s2.out (s1.out (.start () l))))
  have hv4 := s4.le
  refine calls_cv2 (M := [r]) (n := 41) [.cell 2 42] rfl Tryz.func74 rfl rfl (Nat.le_of_ble_eq_true rfl)  (St.one hW) ?_
  refine cv_seq_k fun K hK => ?_
  refine cv_region_then rfl ?_
  simp -implicitDefEqProofs (disch := first | omega | decide) only [seval, -Int.reducePow, -Nat.reducePow, cC, pv, binv, sMRf1, undef]
  intro b2 hb2 h2
  refine hK _ _ ?_
  clear hK K
  refine cv_seq_k fun K hK => ?_
  refine cv_region_then rfl ?_
  simp -implicitDefEqProofs (disch := first | omega | decide) only [seval, -Int.reducePow, -Nat.reducePow, cC, pv, binv, sMRf1, undef]
  refine callV_mod1 1 (fun w hw => mnum_any s1 (hw.hold 1 rfl) (hL.at hw)) rfl ?_
  try simp -implicitDefEqProofs (disch := first | omega | decide) only [seval, -Int.reducePow, -Nat.reducePow, cC, pv, binv, sMRf1, undef]
  refine callV_mod1 1 (fun w hw => mnum_any s2 (hw.hold 1 rfl) (L1.at hw)) rfl ?_
  try simp -implicitDefEqProofs (disch := first | omega | decide) only [seval, -Int.reducePow, -Nat.reducePow, cC, pv, binv, sMRf1, undef]
  refine callV_mod1 1 (fun w hw => mnum_any s3 (hw.hold 1 rfl) (L2.at hw)) rfl ?_
  try simp -implicitDefEqProofs (disch := first | omega | decide) only [seval, -Int.reducePow, -Nat.reducePow, cC, pv, binv, sMRf1, undef]
  intro b3 hb3 h3
  refine hK _ _ ?_
  clear hK K
  refine cv_seq_k fun K hK => ?_
  refine cv_seq_k fun K hK => ?_
  refine cv_region_then rfl ?_
  simp -implicitDefEqProofs (disch := first | omega | decide) only [seval, -Int.reducePow, -Nat.reducePow, cC, pv, binv, sMRf1, undef]
  refine callV_mod1 2 (fun w hw => mnum_any s4 (hw.hold 2 rfl) (L3.at hw)) rfl ?_
  try simp -implicitDefEqProofs (disch := first | omega | decide) only [seval, -Int.reducePow, -Nat.reducePow, cC, pv, binv, sMRf1, undef]
  refine hK _ _ ?_
  clear hK K
  refine cv_gen fun G1 hG => ?_
  have g1_0 := congrFun hG 0
  have g1_2 := congrFun hG 2
  have g1_3 := congrFun hG 3
  have g1_15 := congrFun hG 15
  have g1_16 := congrFun hG 16
  clear hG
  try simp -implicitDefEqProofs (disch := first | omega | decide) only [seval, -Int.reducePow, -Nat.reducePow, cC, pv, binv, sMRf1, undef] at g1_0 g1_2 g1_3 g1_15 g1_16
  have g1 := And.intro g1_0 (And.intro g1_2 (And.intro g1_3 (And.intro g1_15 g1_16)))
  refine cv_block ?_
  refine cv_nil 39 2 ?_
  refine cv_loop (fun F' L' => ∃ (j : Nat) (A6 : Option Addr) (c6 : Nat) (cs : List Ins) (A' : Option Addr) (n' c' : Nat) (l' : List Nat) (e' : Int), F' 0 = G1 0 ∧ F' 2 = G1 2 ∧ F' 3 = G1 3 ∧ F' 15 = G1 15 ∧ F' 16 = .int .i64 (j : Int) ∧ L' = [.row (.slice A6 j c6) 39 2 j (cl insc cs), .blk b3 42 [.int .i64 (v1 : Int), .int .i64 (v2 : Int), .int .i64 (v3 : Int), .slice A6 j c6], .blk b2 42 [.int .i64 0, .int .i64 0, .int .i64 0, .slice none 0 0], mrB r A' n' c' e'] ∧ Sub r A n c l A' n' c' l' ∧ Lc inX (fnX l) ((((), v1), v2), v3) v4 j cs l' e' ∧ (∀ x ∈ cs, x.arg < 18446744073709551616) ∧ (j < v4 → e' = 0)) (fun F' L' => 2000 - (intOf (F' 16)).toNat) ?_ ?_
  · refine ⟨0, none, 0, [], A4, n4, c4, l4, e4, ?_⟩
    simp -implicitDefEqProofs (disch := first | omega | decide) only [seval, -Int.reducePow, -Nat.reducePow, cC, pv, binv, sMRf1, undef, g1]
    refine ⟨rfl, s4.sub (s3.sub (s2.sub (s1.sub .refl))), hS, by simp, fun h => ?_⟩
    by_cases h0 : e4 = 0
    · exact h0
    · have := s4.err h0
      omega
  intro G2 L' hI
  obtain ⟨j, A6, c6, cs, A', n', c', l', e', q0, q2, q3, q15, q16, rfl, ⟨hsub, hS', harg, he'⟩⟩ := hI
  have g2_0 := q0.trans g1_0
  have g2_2 := q2.trans g1_2
  have g2_3 := q3.trans g1_3
  have g2_15 := q15.trans g1_15
  have g2_16 := q16
  clear q0 q2 q3 q15 q16
  have g2 := And.intro g2_0 (And.intro g2_2 (And.intro g2_3 (And.intro g2_15 g2_16)))
  have hL' := hsub W hL
  refine cv_seq_k fun K hK => ?_
  refine cv_region_then rfl ?_
  simp -implicitDefEqProofs (disch := first | omega | decide) only [seval, -Int.reducePow, -Nat.reducePow, cC, pv, binv, sMRf1, undef, g1, g2]
  refine hK _ _ ?_
  clear hK K
  refine cv_seq_k fun K hK => ?_
  refine cv_cond ?_
  simp -implicitDefEqProofs (disch := first | omega | decide) only [seval, -Int.reducePow, -Nat.reducePow, cC, pv, binv, sMRf1, undef, g1, g2]
  refine ⟨fun hc => ?_, fun hc => ?_⟩
  · refine cv_skip ?_
    try simp only [blockQ, thenQ]
    have hj : j < v4 := by have := of_decide_eq_true hc; omega
    have h0 := he' hj
    subst h0
    obtain ⟨d, hd⟩ : ∃ d, decI l' = d := ⟨_, rfl⟩
    have hdl := decI_le hL'.bt
    have ho := inX_out l'
    rw [hd] at hdl ho
    have hst := hS'.step hj ho
    rw [hL'.len] at hdl
    have hk' : d.2.1 = if d.2.2 = 0 then d.2.1 else 0 := by
      split
      · rfl
      · exact hdl.2.2 ‹_›
    have hcap := hL'.sl.cap
    have hmax := hL'.sl.max
    refine hK _ _ ?_
    clear hK K
    refine cv_seq_k fun K hK => ?_
    refine cv_block ?_
    refine cv_seq_k fun K hK => ?_
    refine cv_region_then rfl ?_
    simp -implicitDefEqProofs (disch := first | omega | decide) only [seval, -Int.reducePow, -Nat.reducePow, cC, pv, binv, sMRf1, undef, g1, g2]
    refine callV_ret (fun w hw => i_dec_any A' n' c' l' w (hL'.at hw).sl hL'.bt) ?_
    try simp -implicitDefEqProofs (disch := first | omega | decide) only [seval, -Int.reducePow, -Nat.reducePow, cC, pv, binv, sMRf1, undef, hd, g1, g2]
    intro b4 hb4 h4
    refine hK _ _ ?_
    clear hK K
    refine cv_seq_k fun K hK => ?_
    refine cv_seq_k fun K hK => ?_
    refine cv_region_then rfl ?_
    simp -implicitDefEqProofs (disch := first | omega | decide) only [seval, -Int.reducePow, -Nat.reducePow, cC, pv, binv, sMRf1, undef, g1, g2]
    refine callV_mod1 4 (fun w hw => took_any r A' n' c' d.2.1 d.2.1 d.2.2 w (hw.hold 4 rfl) (fun _ => hdl.2.1) hcap hmax hk') rfl ?_
    try simp -implicitDefEqProofs (disch := first | omega | decide) only [seval, -Int.reducePow, -Nat.reducePow, cC, pv, binv, sMRf1, undef, g1, g2]
    refine hK _ _ ?_
    clear hK K
    refine cv_cond ?_
    simp -implicitDefEqProofs (disch := first | omega | decide) only [seval, -Int.reducePow, -Nat.reducePow, cC, pv, binv, sMRf1, undef, g1, g2]
    refine ⟨fun hc => ?_, fun hc => ?_⟩
    · have hne : ¬ d.2.2 = 0 := by simpa using ‹(!decide (d.2.2 = 0)) = true›
      refine cv_seq_k fun K hK => ?_
      refine cv_region_then rfl ?_
      simp -implicitDefEqProofs (disch := first | omega | decide) only [seval, -Int.reducePow, -Nat.reducePow, cC, pv, binv, sMRf1, undef, g1, g2]
      refine hK _ _ ?_
      clear hK K
      refine cv_ret ?_
      simp -implicitDefEqProofs (disch := first | omega | decide) only [seval, -Int.reducePow, -Nat.reducePow, cC, pv, binv, sMRf1, undef, retQ2, ressV, packV, g1, g2]
      intro w hw
      exact ⟨(zFn, _, _, _, _, _), rfl, ⟨hsub.drop hdl.2.1, .inr ⟨hne, hst.err hne⟩⟩, hw.hold 4 rfl, hw.pres⟩
    have hze : d.2.2 = 0 := by simpa using ‹(!decide (d.2.2 = 0)) = false›
    rw [hze] at hst
    refine cv_skip ?_
    try simp only [blockQ, thenQ]
    refine hK _ _ ?_
    clear hK K
    refine cv_region_q rfl ?_
    simp -implicitDefEqProofs (disch := first | omega | decide) only [seval, -Int.reducePow, -Nat.reducePow, cC, pv, binv, sMRf1, undef, g1, g2]
    intro b36 hb36 h36
    refine appV_at 2 tap40 rfl (fun w hw => src_blk (size := 2) (.head _) rfl hw) rfl (by omega) (by omega) ?_
    intro A7 c7 hl7 hr7
    simp -implicitDefEqProofs (disch := first | omega | decide) only [seval, -Int.reducePow, -Nat.reducePow, cC, pv, binv, sMRf1, undef, g1, g2]
    refine hK _ _ ?_
    clear hK K
    refine cv_pick [0, 3, 4, 5] (by decide) ?_
    simp only [pickL, nth]
    refine cv_region_then rfl ?_
    simp -implicitDefEqProofs (disch := first | omega | decide) only [seval, -Int.reducePow, -Nat.reducePow, cC, pv, binv, sMRf1, undef, wrap_in, g1, g2]
    refine ⟨⟨j + 1, A7, c7, cs ++ [d.1], sbase c' d.2.1 1 A', n' - d.2.1, c' - d.2.1, l'.drop d.2.1, 0, ?_⟩, ?_⟩
    · simp -implicitDefEqProofs (disch := first | omega | decide) only [seval, -Int.reducePow, -Nat.reducePow, cC, pv, binv, sMRf1, undef, Int.natCast_add, cl_snoc, insc, hze, g1, g2]
      repeat' (first | with_reducible exact trivial | with_reducible rfl | omega | refine And.intro ?_ ?_)
      · exact hsub.drop hdl.2.1
      · intro x hx
        rcases List.mem_append.1 hx with hx | hx
        · exact harg x hx
        · obtain rfl : x = d.1 := by simpa using hx
          exact hdl.1
    · simp only [intOf]; omega
  refine cv_exit ?_
  simp only [blockQ, thenQ, if_true, ite_true]
  clear hK K
  refine hK _ _ ?_
  clear hK K
  have hj : ¬ j < v4 := by have := of_decide_eq_false hc; omega
  have ho := hS'.fin (.inl hj)
  refine cv_seq_k fun K hK => ?_
  refine cv_region_then rfl ?_
  simp -implicitDefEqProofs (disch := first | omega | decide) only [seval, -Int.reducePow, -Nat.reducePow, cC, pv, binv, sMRf1, undef, g1, g2]
  refine hK _ _ ?_
  clear hK K
  refine cv_ret ?_
  simp -implicitDefEqProofs (disch := first | omega | decide) only [seval, -Int.reducePow, -Nat.reducePow, cC, pv, binv, sMRf1, undef, retQ2, ressV, packV, g1, g2]
  intro w hw
  refine ⟨(⟨v1, v2, v3, A6, j, c6, cs⟩, A', n', c', l', e'), rfl, ⟨hsub, ?_⟩, hw.hold 3 rfl, hw.pres⟩
  rcases ho with ⟨h0, ho⟩ | ⟨h0, ho⟩
  · exact .inl ⟨h0, ⟨_, ho, rfl⟩, Sd.ownNew (hw.rowNew (by simp [Res.foot])), harg⟩
  · exact .inr ⟨h0, ho⟩
end Go.Proofs.YtlbmnioibiomfaaGreat
