/- typecode.Decode. -/
import Derived.Test.YtehfnjaompkikaaDPlain
namespace Go.Proofs.Ytehfnjaompkikaa
open Go.RowKit Go.Shelf
set_option linter.unusedVariables false
set_option linter.unusedSimpArgs false
set_option maxRecDepth 100000
def rdBox (r : Nat) (A : Option Addr) (n c used : Nat) (err : Int) : Res := .blk r 130 [.slice A n c, .int .i64 (used : Int), .int .i64 err]
def rdCells (A : Option Addr) (n c used : Nat) (err : Int) : List Value := [.slice A n c, .int .i64 (used : Int), .int .i64 err]
set_option maxHeartbeats 2000000 in
theorem number_any (r : Nat) (A : Option Addr) (n c : Nat) (l : List Nat) (used most : Nat) (err : Int) (W : World) (hW : W.heap[r]? = some (.cells (rdCells A n c used err).toArray 130 (0, 0))) (hE : Sl W W.heap.size 1 A n c (byt l)) (ha : 0 < n → Apt A [r]) (hb : ∀ x ∈ l, x < 256) (hu : used ≤ n) (hn : n ≤ 4611686018427387904) (hm : most ≤ 1000000) :
    Calls Try.prog 72 #[.pointer (some ⟨r, 0, none⟩), .int .u64 (most : Int)] W (modP r 130 (.int .i64 ((numF l used err most).1 : Int)) (rdCells A n c (numF l used err most).2.1 (numF l used err most).2.2) W) := by
  have hln : l.length = n := byt_row hE.len
  have hcap := hE.cap
  have hmax := hE.max
  refine calls_cv (M := [r]) (n := 50) [.tmp 4] rfl Try.func72 rfl rfl (Nat.le_of_ble_eq_true rfl)  (St.one hW) ?_
  refine cv_seq_k fun K hK => ?_
  refine cv_region_then rfl ?_
  simp -implicitDefEqProofs (disch := first | omega | decide) only [seval, -Int.reducePow, -Nat.reducePow, cA, cB, pv, binv, fresh, thenQ, blockQ, retQ, Value.oneCell', Value.cells, fBox, tBox, fdV, tyV, rdBox, rdCells, uV, undef, Nat.mul_one]
  refine hK _ _ ?_
  clear hK K
  refine cv_seq_k fun K hK => ?_
  refine cv_seq_k fun K hK => ?_
  refine cv_region_then rfl ?_
  simp -implicitDefEqProofs (disch := first | omega | decide) only [seval, -Int.reducePow, -Nat.reducePow, cA, cB, pv, binv, fresh, thenQ, blockQ, retQ, Value.oneCell', Value.cells, fBox, tBox, fdV, tyV, rdBox, rdCells, uV, undef, Nat.mul_one]
  refine hK _ _ ?_
  clear hK K
  refine cv_cond ?_
  simp -implicitDefEqProofs (disch := first | omega | decide) only [seval, -Int.reducePow, -Nat.reducePow, cA, cB, pv, binv, fresh, thenQ, blockQ, retQ, Value.oneCell', Value.cells, fBox, tBox, fdV, tyV, rdBox, rdCells, uV, undef, Nat.mul_one]
  refine ⟨fun hc => ?_, fun hc => ?_⟩
  · have he : ¬ err = 0 := by simpa using hc
    have hF : numF l used err most = (0, used, err) := by unfold numF; rw [if_neg he]
    refine cv_seq_k fun K hK => ?_
    refine cv_region_then rfl ?_
    simp -implicitDefEqProofs (disch := first | omega | decide) only [seval, -Int.reducePow, -Nat.reducePow, cA, cB, pv, binv, fresh, thenQ, blockQ, retQ, Value.oneCell', Value.cells, fBox, tBox, fdV, tyV, rdBox, rdCells, uV, undef, Nat.mul_one]
    refine hK _ _ ?_
    clear hK K
    refine cv_ret ⟨_, (by simp -implicitDefEqProofs (disch := first | omega | decide) only [seval, -Int.reducePow, -Nat.reducePow, cA, cB, pv, binv, fresh, thenQ, blockQ, retQ, Value.oneCell', Value.cells, fBox, tBox, fdV, tyV, rdBox, rdCells, uV, undef, Nat.mul_one]; rfl), fun w hw => ?_⟩
    rw [hF]
    exact ⟨rfl, hw.hold 0 rfl, hw.pres⟩
  have he : err = 0 := by simpa using hc
  subst he
  refine cv_skip ?_
  try simp only [blockQ, thenQ]
  refine hK _ _ ?_
  clear hK K
  have hbd := drop_byte hb used
  obtain ⟨q, hq⟩ : ∃ q, uD 0 (l.drop used) = q := ⟨_, rfl⟩
  have hqc := uD_cases (l.drop used) 0 (by omega) hbd
  rw [hq, List.length_drop, hln] at hqc
  refine cv_seq_k fun K hK => ?_
  refine cv_draw [(true, 0), (true, 1), (true, 2), (true, 3), (true, 4), (true, 5), (true, 6), (true, 7), (true, 8), (false, 9), (true, 10), (true, 11), (true, 12), (true, 13), (true, 14), (true, 15), (true, 16)] [] mixA rfl (by kernel_rfl) (by kernel_rfl) rfl rfl ?_
  simp -implicitDefEqProofs (disch := first | omega | decide) only [seval, -Int.reducePow, -Nat.reducePow, cA, cB, pv, binv, fresh, thenQ, blockQ, retQ, Value.oneCell', Value.cells, fBox, tBox, fdV, tyV, rdBox, rdCells, uV, undef, Nat.mul_one]
  refine callV_ret (fun w hw => uint_any (sbase c used 1 A) (n - used) (c - used) (l.drop used) w ((hE.atM' hw ha).bdrop hu) hbd) ?_
  try simp -implicitDefEqProofs (disch := first | omega | decide) only [seval, -Int.reducePow, -Nat.reducePow, cA, cB, pv, binv, fresh, thenQ, blockQ, retQ, Value.oneCell', Value.cells, fBox, tBox, fdV, tyV, rdBox, rdCells, uV, undef, Nat.mul_one, hq]
  refine hK _ _ ?_
  clear hK K
  refine cv_gen fun G1 hG => ?_
  have g1_0 := congrFun hG 0
  have g1_1 := congrFun hG 1
  have g1_5 := congrFun hG 5
  have g1_6 := congrFun hG 6
  have g1_7 := congrFun hG 7
  clear hG
  try simp -implicitDefEqProofs (disch := first | omega | decide) only [seval, -Int.reducePow, -Nat.reducePow, cA, cB, pv, binv, fresh, thenQ, blockQ, retQ, Value.oneCell', Value.cells, fBox, tBox, fdV, tyV, rdBox, rdCells, uV, undef, Nat.mul_one, hq] at g1_0 g1_1 g1_5 g1_6 g1_7
  obtain ⟨e', he'⟩ : ∃ e', (if q.2.2 = 0 then (if most < q.1 then 4 else 0) else q.2.2 : Int) = e' := ⟨_, rfl⟩
  refine cv_seq_k fun K hK => ?_
  refine cv_cut (fun _ _ => True) (fun F' L' => F' 0 = G1 0 ∧ F' 5 = G1 5 ∧ F' 6 = G1 6 ∧ F' 7 = .int .i64 e' ∧ L' = [rdBox r A n c used 0]) ?_ ?_
  · by_cases h0 : q.2.2 = 0
    · rw [if_pos h0] at he'
      by_cases hm1 : most < q.1
      · have hm' : (most : Int) < (q.1 : Int) := by omega
        rw [if_pos hm1] at he'
        refine cv_seq_k fun K hK => ?_
        refine cv_region_then rfl ?_
        simp -implicitDefEqProofs (disch := first | omega | decide) only [seval, -Int.reducePow, -Nat.reducePow, cA, cB, pv, binv, fresh, thenQ, blockQ, retQ, Value.oneCell', Value.cells, fBox, tBox, fdV, tyV, rdBox, rdCells, uV, undef, Nat.mul_one, h0, hm', g1_0, g1_1, g1_5, g1_6, g1_7]
        refine hK _ _ ?_
        clear hK K
        refine cv_cond ?_
        simp -implicitDefEqProofs (disch := first | omega | decide) only [seval, -Int.reducePow, -Nat.reducePow, cA, cB, pv, binv, fresh, thenQ, blockQ, retQ, Value.oneCell', Value.cells, fBox, tBox, fdV, tyV, rdBox, rdCells, uV, undef, Nat.mul_one, g1_0, g1_1, g1_5, g1_6, g1_7]
        refine cv_region_q rfl ?_
        simp -implicitDefEqProofs (disch := first | omega | decide) only [seval, -Int.reducePow, -Nat.reducePow, cA, cB, pv, binv, fresh, thenQ, blockQ, retQ, Value.oneCell', Value.cells, fBox, tBox, fdV, tyV, rdBox, rdCells, uV, undef, Nat.mul_one, g1_0, g1_1, g1_5, g1_6, g1_7]
        all_goals (first | (simp [← he']; done) | (simp [← he']; omega))
      · have hm' : ¬ (most : Int) < (q.1 : Int) := by omega
        rw [if_neg hm1] at he'
        refine cv_seq_k fun K hK => ?_
        refine cv_region_then rfl ?_
        simp -implicitDefEqProofs (disch := first | omega | decide) only [seval, -Int.reducePow, -Nat.reducePow, cA, cB, pv, binv, fresh, thenQ, blockQ, retQ, Value.oneCell', Value.cells, fBox, tBox, fdV, tyV, rdBox, rdCells, uV, undef, Nat.mul_one, h0, hm', g1_0, g1_1, g1_5, g1_6, g1_7]
        refine hK _ _ ?_
        clear hK K
        refine cv_cond ?_
        simp -implicitDefEqProofs (disch := first | omega | decide) only [seval, -Int.reducePow, -Nat.reducePow, cA, cB, pv, binv, fresh, thenQ, blockQ, retQ, Value.oneCell', Value.cells, fBox, tBox, fdV, tyV, rdBox, rdCells, uV, undef, Nat.mul_one, g1_0, g1_1, g1_5, g1_6, g1_7]
        refine cv_skip ?_
        try simp only [blockQ, thenQ]
        simp -implicitDefEqProofs (disch := first | omega | decide) only [seval, -Int.reducePow, -Nat.reducePow, cA, cB, pv, binv, fresh, thenQ, blockQ, retQ, Value.oneCell', Value.cells, fBox, tBox, fdV, tyV, rdBox, rdCells, uV, undef, Nat.mul_one, g1_0, g1_1, g1_5, g1_6, g1_7]
        rw [← he', h0]
    · rw [if_neg h0] at he'
      refine cv_seq_k fun K hK => ?_
      refine cv_region_then rfl ?_
      simp -implicitDefEqProofs (disch := first | omega | decide) only [seval, -Int.reducePow, -Nat.reducePow, cA, cB, pv, binv, fresh, thenQ, blockQ, retQ, Value.oneCell', Value.cells, fBox, tBox, fdV, tyV, rdBox, rdCells, uV, undef, Nat.mul_one, h0, g1_0, g1_1, g1_5, g1_6, g1_7]
      refine hK _ _ ?_
      clear hK K
      refine cv_cond ?_
      simp -implicitDefEqProofs (disch := first | omega | decide) only [seval, -Int.reducePow, -Nat.reducePow, cA, cB, pv, binv, fresh, thenQ, blockQ, retQ, Value.oneCell', Value.cells, fBox, tBox, fdV, tyV, rdBox, rdCells, uV, undef, Nat.mul_one, g1_0, g1_1, g1_5, g1_6, g1_7]
      refine cv_skip ?_
      try simp only [blockQ, thenQ]
      simp -implicitDefEqProofs (disch := first | omega | decide) only [seval, -Int.reducePow, -Nat.reducePow, cA, cB, pv, binv, fresh, thenQ, blockQ, retQ, Value.oneCell', Value.cells, fBox, tBox, fdV, tyV, rdBox, rdCells, uV, undef, Nat.mul_one, g1_0, g1_1, g1_5, g1_6, g1_7]
      rw [← he']
  intro G2 L' _ hF
  obtain ⟨q0, q5, q6, q7, rfl⟩ := hF
  have g2_0 := q0.trans g1_0
  have g2_5 := q5.trans g1_5
  have g2_6 := q6.trans g1_6
  have g2_7 := q7
  clear q0 q5 q6 q7
  refine hK _ _ ?_
  clear hK K
  refine cv_seq_k fun K hK => ?_
  refine cv_seq_k fun K hK => ?_
  refine cv_region_then rfl ?_
  simp -implicitDefEqProofs (disch := first | omega | decide) only [seval, -Int.reducePow, -Nat.reducePow, cA, cB, pv, binv, fresh, thenQ, blockQ, retQ, Value.oneCell', Value.cells, fBox, tBox, fdV, tyV, rdBox, rdCells, uV, undef, Nat.mul_one, g2_0, g2_5, g2_6, g2_7]
  refine hK _ _ ?_
  clear hK K
  refine cv_cond ?_
  simp -implicitDefEqProofs (disch := first | omega | decide) only [seval, -Int.reducePow, -Nat.reducePow, cA, cB, pv, binv, fresh, thenQ, blockQ, retQ, Value.oneCell', Value.cells, fBox, tBox, fdV, tyV, rdBox, rdCells, uV, undef, Nat.mul_one, g2_0, g2_5, g2_6, g2_7]
  refine ⟨fun hc => ?_, fun hc => ?_⟩
  · have h1 : ¬ e' = 0 := by simpa using hc
    have hS : smF l used most = (0, 0, e') := by
      unfold smF
      rw [hq]
      by_cases h0 : q.2.2 = 0
      · rw [if_pos h0] at he' ⊢
        by_cases hm1 : most < q.1
        · rw [if_pos hm1] at he' ⊢; rw [← he']
        · rw [if_neg hm1] at he'; exact absurd he'.symm h1
      · rw [if_neg h0] at he' ⊢; rw [← he']
    have hF : numF l used 0 most = (0, used, e') := by unfold numF; rw [if_pos rfl, hS, if_neg h1]
    refine cv_seq_k fun K hK => ?_
    refine cv_region_then rfl ?_
    simp -implicitDefEqProofs (disch := first | omega | decide) only [seval, -Int.reducePow, -Nat.reducePow, cA, cB, pv, binv, fresh, thenQ, blockQ, retQ, Value.oneCell', Value.cells, fBox, tBox, fdV, tyV, rdBox, rdCells, uV, undef, Nat.mul_one, g2_0, g2_5, g2_6, g2_7]
    refine hK _ _ ?_
    clear hK K
    refine cv_seq_k fun K hK => ?_
    refine cv_region_then rfl ?_
    simp -implicitDefEqProofs (disch := first | omega | decide) only [seval, -Int.reducePow, -Nat.reducePow, cA, cB, pv, binv, fresh, thenQ, blockQ, retQ, Value.oneCell', Value.cells, fBox, tBox, fdV, tyV, rdBox, rdCells, uV, undef, Nat.mul_one, g2_0, g2_5, g2_6, g2_7]
    refine hK _ _ ?_
    clear hK K
    refine cv_ret ⟨_, (by simp -implicitDefEqProofs (disch := first | omega | decide) only [seval, -Int.reducePow, -Nat.reducePow, cA, cB, pv, binv, fresh, thenQ, blockQ, retQ, Value.oneCell', Value.cells, fBox, tBox, fdV, tyV, rdBox, rdCells, uV, undef, Nat.mul_one, g2_0, g2_5, g2_6, g2_7]; rfl), fun w hw => ?_⟩
    rw [hF]
    exact ⟨rfl, hw.hold 0 rfl, hw.pres⟩
  have h1 : e' = 0 := by simpa using hc
  have h0 : q.2.2 = 0 := by
    by_cases h0 : q.2.2 = 0
    · exact h0
    · rw [if_neg h0] at he'; omega
  have hm1 : q.1 ≤ most := by
    rw [if_pos h0] at he'
    by_cases hm1 : most < q.1
    · rw [if_pos hm1] at he'; omega
    · omega
  have hS : smF l used most = (q.1, used + q.2.1, 0) := by
    unfold smF
    rw [hq, if_pos h0, if_neg (by omega)]
  have hF : numF l used 0 most = (q.1, used + q.2.1, 0) := by unfold numF; rw [if_pos rfl, hS, if_pos rfl]
  have hql : used + q.2.1 ≤ n := by
    rcases hqc with h | h
    · omega
    · have := h.2.2.2.2.1; omega
  have e9 : IntKind.i64.wrap ((used : Int) + (q.2.1 : Int)) = ((used + q.2.1 : Nat) : Int) := by rw [wrap_in (by omega) (by omega)]; omega
  refine cv_skip ?_
  try simp only [blockQ, thenQ]
  refine hK _ _ ?_
  clear hK K
  refine cv_seq_k fun K hK => ?_
  refine cv_region_then rfl ?_
  simp -implicitDefEqProofs (disch := first | omega | decide) only [seval, -Int.reducePow, -Nat.reducePow, cA, cB, pv, binv, fresh, thenQ, blockQ, retQ, Value.oneCell', Value.cells, fBox, tBox, fdV, tyV, rdBox, rdCells, uV, undef, Nat.mul_one, e9, g2_0, g2_5, g2_6, g2_7]
  refine hK _ _ ?_
  clear hK K
  refine cv_seq_k fun K hK => ?_
  refine cv_region_then rfl ?_
  simp -implicitDefEqProofs (disch := first | omega | decide) only [seval, -Int.reducePow, -Nat.reducePow, cA, cB, pv, binv, fresh, thenQ, blockQ, retQ, Value.oneCell', Value.cells, fBox, tBox, fdV, tyV, rdBox, rdCells, uV, undef, Nat.mul_one, wrap_in, g2_0, g2_5, g2_6, g2_7]
  refine hK _ _ ?_
  clear hK K
  refine cv_ret ⟨_, (by simp -implicitDefEqProofs (disch := first | omega | decide) only [seval, -Int.reducePow, -Nat.reducePow, cA, cB, pv, binv, fresh, thenQ, blockQ, retQ, Value.oneCell', Value.cells, fBox, tBox, fdV, tyV, rdBox, rdCells, uV, undef, Nat.mul_one, g2_0, g2_5, g2_6, g2_7]; rfl), fun w hw => ?_⟩
  rw [hF]
  exact ⟨rfl, hw.hold 0 rfl, hw.pres⟩
/-- The result of Decode. -/
def decV (d : Int × List Fd × Nat × Int) (v : Value) : Value := .tuple #[.agg #[.int .i64 d.1, v], .int .i64 (d.2.2.1 : Int), .int .i64 d.2.2.2]
set_option maxHeartbeats 4000000 in
theorem decode_any (A : Option Addr) (n c : Nat) (l : List Nat) (W : World) (hE : Sl W W.heap.size 1 A n c (byt l)) (hb : ∀ x ∈ l, x < 256) (hn : n ≤ 4611686018427387904) :
    Calls Try.prog 56 #[.slice A n c] W (rowP 102 2 (decV (decF l)) (cl fdc (decF l).2.1) W) := by
  have hln : l.length = n := byt_row hE.len
  obtain ⟨q1, h1⟩ : ∃ q, numF l 0 0 65536 = q := ⟨_, rfl⟩
  obtain ⟨q2, h2⟩ : ∃ q, numF l q1.2.1 q1.2.2 32 = q := ⟨_, rfl⟩
  have k1 := numF_le hb (l := l) (used := 0) (most := 65536) (err := 0) (by omega)
  rw [h1] at k1
  have k2 := numF_le hb (most := 32) (err := q1.2.2) k1.2
  rw [h2] at k2
  refine calls_cv2 (M := []) (n := 56) [.cell 2 63, .tmp 3, .tmp 4] rfl Try.func56 rfl rfl (Nat.le_of_ble_eq_true rfl) (St.nil _ _) ?_
  refine cv_seq_k fun K hK => ?_
  refine cv_region_then rfl ?_
  simp -implicitDefEqProofs (disch := first | omega | decide) only [seval, -Int.reducePow, -Nat.reducePow, cA, cB, pv, binv, fresh, thenQ, blockQ, retQ, Value.oneCell', Value.cells, fBox, tBox, fdV, tyV, rdBox, rdCells, uV, undef, Nat.mul_one, decV]
  intro b2 hb2
  refine hK _ _ ?_
  clear hK K
  refine cv_seq_k fun K hK => ?_
  refine cv_region_then rfl ?_
  simp -implicitDefEqProofs (disch := first | omega | decide) only [seval, -Int.reducePow, -Nat.reducePow, cA, cB, pv, binv, fresh, thenQ, blockQ, retQ, Value.oneCell', Value.cells, fBox, tBox, fdV, tyV, rdBox, rdCells, uV, undef, Nat.mul_one, decV]
  intro b5 hb5 h5
  refine hK _ _ ?_
  clear hK K
  have ha : 0 < n → Apt A [b5] := fun h0 => Apt.of_below hE h0 (by simp; omega)
  refine cv_seq_k fun K hK => ?_
  refine cv_region_then rfl ?_
  simp -implicitDefEqProofs (disch := first | omega | decide) only [seval, -Int.reducePow, -Nat.reducePow, cA, cB, pv, binv, fresh, thenQ, blockQ, retQ, Value.oneCell', Value.cells, fBox, tBox, fdV, tyV, rdBox, rdCells, uV, undef, Nat.mul_one, decV]
  refine callV_mod1 0 (fun w hw => number_any b5 A n c l 0 65536 0 w (hw.hold 0 rfl) (hE.at hw) ha hb (by omega) hn (by omega)) rfl ?_
  try simp -implicitDefEqProofs (disch := first | omega | decide) only [seval, -Int.reducePow, -Nat.reducePow, cA, cB, pv, binv, fresh, thenQ, blockQ, retQ, Value.oneCell', Value.cells, fBox, tBox, fdV, tyV, rdBox, rdCells, uV, undef, Nat.mul_one, decV, h1]
  intro b6 hb6 h6
  refine hK _ _ ?_
  clear hK K
  refine cv_seq_k fun K hK => ?_
  refine cv_seq_k fun K hK => ?_
  refine cv_region_then rfl ?_
  simp -implicitDefEqProofs (disch := first | omega | decide) only [seval, -Int.reducePow, -Nat.reducePow, cA, cB, pv, binv, fresh, thenQ, blockQ, retQ, Value.oneCell', Value.cells, fBox, tBox, fdV, tyV, rdBox, rdCells, uV, undef, Nat.mul_one, decV]
  refine callV_mod1 1 (fun w hw => number_any b5 A n c l q1.2.1 32 q1.2.2 w (hw.hold 1 rfl) (hE.at hw) ha hb (by omega) hn (by omega)) rfl ?_
  try simp -implicitDefEqProofs (disch := first | omega | decide) only [seval, -Int.reducePow, -Nat.reducePow, cA, cB, pv, binv, fresh, thenQ, blockQ, retQ, Value.oneCell', Value.cells, fBox, tBox, fdV, tyV, rdBox, rdCells, uV, undef, Nat.mul_one, decV, h2]
  refine hK _ _ ?_
  clear hK K
  refine cv_gen fun G3 hG => ?_
  have g3_2 := congrFun hG 2
  have g3_5 := congrFun hG 5
  have g3_6 := congrFun hG 6
  have g3_15 := congrFun hG 15
  have g3_16 := congrFun hG 16
  clear hG
  try simp -implicitDefEqProofs (disch := first | omega | decide) only [seval, -Int.reducePow, -Nat.reducePow, cA, cB, pv, binv, fresh, thenQ, blockQ, retQ, Value.oneCell', Value.cells, fBox, tBox, fdV, tyV, rdBox, rdCells, uV, undef, Nat.mul_one, decV] at g3_2 g3_5 g3_6 g3_15 g3_16
  refine cv_block ?_
  refine cv_nil 102 2 ?_
  refine cv_loop (fun F' L' => ∃ (j used c6 : Nat) (err : Int) (A6 : Option Addr) (gs : List Fd), F' 2 = G3 2 ∧ F' 5 = G3 5 ∧ F' 6 = G3 6 ∧ F' 15 = G3 15 ∧ F' 16 = .int .i64 (j : Int) ∧ L' = [.row (.slice A6 j c6) 102 2 j (cl fdc gs), tBox b6 (q1.1 : Int) A6 j c6, rdBox b5 A n c used err, tBox b2 0 none 0 0] ∧ ((¬ q2.2.2 = 0 ∧ j = 0 ∧ gs = [] ∧ err = q2.2.2 ∧ used = q2.2.1 ∧ q2.1 = 0) ∨ (q2.2.2 = 0 ∧ rInv l q2.1 q2.2.1 j gs used err))) (fun F' L' => 40 - (intOf (F' 16)).toNat) ?_ ?_
  · refine ⟨0, q2.2.1, 0, q2.2.2, none, [], ?_⟩
    simp -implicitDefEqProofs (disch := first | omega | decide) only [seval, -Int.reducePow, -Nat.reducePow, cA, cB, pv, binv, fresh, thenQ, blockQ, retQ, Value.oneCell', Value.cells, fBox, tBox, fdV, tyV, rdBox, rdCells, uV, undef, Nat.mul_one, decV, g3_2, g3_5, g3_6, g3_15, g3_16]
    refine ⟨rfl, ?_⟩
    by_cases hz : q2.2.2 = 0
    · exact .inr ⟨hz, by rw [hz]; exact rInv_start k2.2⟩
    · exact .inl ⟨hz, by rw [← h2] at hz ⊢; exact numF_err hb k1.2 hz⟩
  intro G4 L' hI
  obtain ⟨j, used, c6, err, A6, gs, q2, q5, q6, q15, q16, rfl, hI⟩ := hI
  have g4_2 := q2.trans g3_2
  have g4_5 := q5.trans g3_5
  have g4_6 := q6.trans g3_6
  have g4_15 := q15.trans g3_15
  have g4_16 := q16
  clear q2 q5 q6 q15 q16
  refine cv_seq_k fun K hK => ?_
  refine cv_region_then rfl ?_
  simp -implicitDefEqProofs (disch := first | omega | decide) only [seval, -Int.reducePow, -Nat.reducePow, cA, cB, pv, binv, fresh, thenQ, blockQ, retQ, Value.oneCell', Value.cells, fBox, tBox, fdV, tyV, rdBox, rdCells, uV, undef, Nat.mul_one, decV, g3_2, g3_5, g3_6, g3_15, g3_16, g4_2, g4_5, g4_6, g4_15, g4_16]
  refine hK _ _ ?_
  clear hK K
  refine cv_seq_k fun K hK => ?_
  refine cv_cond ?_
  simp -implicitDefEqProofs (disch := first | omega | decide) only [seval, -Int.reducePow, -Nat.reducePow, cA, cB, pv, binv, fresh, thenQ, blockQ, retQ, Value.oneCell', Value.cells, fBox, tBox, fdV, tyV, rdBox, rdCells, uV, undef, Nat.mul_one, decV, g3_2, g3_5, g3_6, g3_15, g3_16, g4_2, g4_5, g4_6, g4_15, g4_16]
  refine ⟨fun hc => ?_, fun hc => ?_⟩
  · refine cv_skip ?_
    try simp only [blockQ, thenQ]
    have hj : j < q2.1 := by have := of_decide_eq_true hc; omega
    have hI : q2.2.2 = 0 ∧ rInv l q2.1 q2.2.1 j gs used err := by
      rcases hI with h | h
      · omega
      · exact h
    obtain ⟨hz, hI⟩ := hI
    have hu := hI.2.2.1
    obtain ⟨s1, e1⟩ : ∃ q, numF l used err 65536 = q := ⟨_, rfl⟩
    obtain ⟨s2, e2⟩ : ∃ q, numF l s1.2.1 s1.2.2 65536 = q := ⟨_, rfl⟩
    have m1 := numF_le hb (most := 65536) (err := err) hu
    rw [e1] at m1
    have hI2 := rInv_step hb hI hj e1.symm e2.symm
    refine hK _ _ ?_
    clear hK K
    refine cv_seq_k fun K hK => ?_
    refine cv_block ?_
    refine cv_seq_k fun K hK => ?_
    refine cv_region_then rfl ?_
    simp -implicitDefEqProofs (disch := first | omega | decide) only [seval, -Int.reducePow, -Nat.reducePow, cA, cB, pv, binv, fresh, thenQ, blockQ, retQ, Value.oneCell', Value.cells, fBox, tBox, fdV, tyV, rdBox, rdCells, uV, undef, Nat.mul_one, decV, g3_2, g3_5, g3_6, g3_15, g3_16, g4_2, g4_5, g4_6, g4_15, g4_16]
    refine callV_mod1 2 (fun w hw => number_any b5 A n c l used 65536 err w (hw.hold 2 rfl) (hE.at hw) ha hb (by omega) hn (by omega)) rfl ?_
    try simp -implicitDefEqProofs (disch := first | omega | decide) only [seval, -Int.reducePow, -Nat.reducePow, cA, cB, pv, binv, fresh, thenQ, blockQ, retQ, Value.oneCell', Value.cells, fBox, tBox, fdV, tyV, rdBox, rdCells, uV, undef, Nat.mul_one, decV, e1, g3_2, g3_5, g3_6, g3_15, g3_16, g4_2, g4_5, g4_6, g4_15, g4_16]
    intro b7 hb7 h7
    refine hK _ _ ?_
    clear hK K
    refine cv_seq_k fun K hK => ?_
    refine cv_region_then rfl ?_
    simp -implicitDefEqProofs (disch := first | omega | decide) only [seval, -Int.reducePow, -Nat.reducePow, cA, cB, pv, binv, fresh, thenQ, blockQ, retQ, Value.oneCell', Value.cells, fBox, tBox, fdV, tyV, rdBox, rdCells, uV, undef, Nat.mul_one, decV, g3_2, g3_5, g3_6, g3_15, g3_16, g4_2, g4_5, g4_6, g4_15, g4_16]
    refine callV_mod1 3 (fun w hw => number_any b5 A n c l s1.2.1 65536 s1.2.2 w (hw.hold 3 rfl) (hE.at hw) ha hb (by omega) hn (by omega)) rfl ?_
    try simp -implicitDefEqProofs (disch := first | omega | decide) only [seval, -Int.reducePow, -Nat.reducePow, cA, cB, pv, binv, fresh, thenQ, blockQ, retQ, Value.oneCell', Value.cells, fBox, tBox, fdV, tyV, rdBox, rdCells, uV, undef, Nat.mul_one, decV, e2, g3_2, g3_5, g3_6, g3_15, g3_16, g4_2, g4_5, g4_6, g4_15, g4_16]
    refine hK _ _ ?_
    clear hK K
    refine cv_region_q rfl ?_
    simp -implicitDefEqProofs (disch := first | omega | decide) only [seval, -Int.reducePow, -Nat.reducePow, cA, cB, pv, binv, fresh, thenQ, blockQ, retQ, Value.oneCell', Value.cells, fBox, tBox, fdV, tyV, rdBox, rdCells, uV, undef, Nat.mul_one, decV, g3_2, g3_5, g3_6, g3_15, g3_16, g4_2, g4_5, g4_6, g4_15, g4_16]
    intro b8 hb8 h8
    refine appV_at 2 tap61 rfl (fun w hw => src_blk (size := 2) (.head _) rfl hw) rfl (by omega) (by omega) ?_
    intro A' c' hl' hr'
    simp -implicitDefEqProofs (disch := first | omega | decide) only [seval, -Int.reducePow, -Nat.reducePow, cA, cB, pv, binv, fresh, thenQ, blockQ, retQ, Value.oneCell', Value.cells, fBox, tBox, fdV, tyV, rdBox, rdCells, uV, undef, Nat.mul_one, decV, g3_2, g3_5, g3_6, g3_15, g3_16, g4_2, g4_5, g4_6, g4_15, g4_16]
    refine hK _ _ ?_
    clear hK K
    refine cv_pick [0, 3, 4, 5] (by decide) ?_
    simp only [pickL, nth]
    refine cv_region_then rfl ?_
    simp -implicitDefEqProofs (disch := first | omega | decide) only [seval, -Int.reducePow, -Nat.reducePow, cA, cB, pv, binv, fresh, thenQ, blockQ, retQ, Value.oneCell', Value.cells, fBox, tBox, fdV, tyV, rdBox, rdCells, uV, undef, Nat.mul_one, decV, wrap_in, g3_2, g3_5, g3_6, g3_15, g3_16, g4_2, g4_5, g4_6, g4_15, g4_16]
    refine ⟨⟨j + 1, s2.2.1, c', s2.2.2, A', gs ++ [⟨(s1.1 : Int), (s2.1 : Int)⟩], ?_⟩, ?_⟩
    · simp -implicitDefEqProofs (disch := first | omega | decide) only [seval, -Int.reducePow, -Nat.reducePow, cA, cB, pv, binv, fresh, thenQ, blockQ, retQ, Value.oneCell', Value.cells, fBox, tBox, fdV, tyV, rdBox, rdCells, uV, undef, Nat.mul_one, decV, Int.natCast_add, cl_snoc, fdc, g3_2, g3_5, g3_6, g3_15, g3_16, g4_2, g4_5, g4_6, g4_15, g4_16]
      exact .inr ⟨hz, hI2⟩
    · simp only [intOf]; omega
  refine cv_exit ?_
  simp only [blockQ, thenQ, if_true, ite_true]
  clear hK K
  refine hK _ _ ?_
  clear hK K
  have hj : ¬ j < q2.1 := by have := of_decide_eq_false hc; omega
  obtain ⟨d1, d2⟩ := dec_end hb h1 h2 hI hj
  have hj40 : j ≤ 40 := by
    rcases hI with h | h
    · omega
    · have := h.2.1; omega
  refine cv_gen fun G5 hG => ?_
  have g5_2 := congrFun hG 2
  have g5_5 := congrFun hG 5
  have g5_6 := congrFun hG 6
  clear hG
  try simp -implicitDefEqProofs (disch := first | omega | decide) only [seval, -Int.reducePow, -Nat.reducePow, cA, cB, pv, binv, fresh, thenQ, blockQ, retQ, Value.oneCell', Value.cells, fBox, tBox, fdV, tyV, rdBox, rdCells, uV, undef, Nat.mul_one, decV, g3_2, g3_5, g3_6, g3_15, g3_16, g4_2, g4_5, g4_6, g4_15, g4_16] at g5_2 g5_5 g5_6
  refine cv_seq_k fun K hK => ?_
  refine cv_cut (fun _ _ => True) (fun F' L' => ∃ (e3 : Int), F' 2 = G5 2 ∧ F' 5 = G5 5 ∧ F' 6 = G5 6 ∧ L' = [.row (.slice A6 j c6) 102 2 j (cl fdc gs), tBox b6 (q1.1 : Int) A6 j c6, rdBox b5 A n c used e3, tBox b2 0 none 0 0] ∧ e3 = (if err = 0 then chk (q1.1 : Int) gs else err)) ?_ ?_
  · refine cv_seq_k fun K hK => ?_
    refine cv_region_then rfl ?_
    simp -implicitDefEqProofs (disch := first | omega | decide) only [seval, -Int.reducePow, -Nat.reducePow, cA, cB, pv, binv, fresh, thenQ, blockQ, retQ, Value.oneCell', Value.cells, fBox, tBox, fdV, tyV, rdBox, rdCells, uV, undef, Nat.mul_one, decV, g3_2, g3_5, g3_6, g3_15, g3_16, g4_2, g4_5, g4_6, g4_15, g4_16, g5_2, g5_5, g5_6]
    refine hK _ _ ?_
    clear hK K
    refine cv_cond ?_
    simp -implicitDefEqProofs (disch := first | omega | decide) only [seval, -Int.reducePow, -Nat.reducePow, cA, cB, pv, binv, fresh, thenQ, blockQ, retQ, Value.oneCell', Value.cells, fBox, tBox, fdV, tyV, rdBox, rdCells, uV, undef, Nat.mul_one, decV, g3_2, g3_5, g3_6, g3_15, g3_16, g4_2, g4_5, g4_6, g4_15, g4_16, g5_2, g5_5, g5_6]
    refine ⟨fun hc => ?_, fun hc => ?_⟩
    · have he : err = 0 := of_decide_eq_true ‹_›
      refine cv_region_q rfl ?_
      simp -implicitDefEqProofs (disch := first | omega | decide) only [seval, -Int.reducePow, -Nat.reducePow, cA, cB, pv, binv, fresh, thenQ, blockQ, retQ, Value.oneCell', Value.cells, fBox, tBox, fdV, tyV, rdBox, rdCells, uV, undef, Nat.mul_one, decV, g3_2, g3_5, g3_6, g3_15, g3_16, g4_2, g4_5, g4_6, g4_15, g4_16, g5_2, g5_5, g5_6]
      refine callV_ret (fun w hw => check_any A6 j c6 gs (q1.1 : Int) w (hw.slr 0 rfl)) ?_
      try simp -implicitDefEqProofs (disch := first | omega | decide) only [seval, -Int.reducePow, -Nat.reducePow, cA, cB, pv, binv, fresh, thenQ, blockQ, retQ, Value.oneCell', Value.cells, fBox, tBox, fdV, tyV, rdBox, rdCells, uV, undef, Nat.mul_one, decV, g3_2, g3_5, g3_6, g3_15, g3_16, g4_2, g4_5, g4_6, g4_15, g4_16, g5_2, g5_5, g5_6]
      exact ⟨_, rfl, by rw [if_pos he]⟩
    · have he : ¬ err = 0 := of_decide_eq_false ‹_›
      refine cv_skip ?_
      try simp only [blockQ, thenQ]
      simp -implicitDefEqProofs (disch := first | omega | decide) only [seval, -Int.reducePow, -Nat.reducePow, cA, cB, pv, binv, fresh, thenQ, blockQ, retQ, Value.oneCell', Value.cells, fBox, tBox, fdV, tyV, rdBox, rdCells, uV, undef, Nat.mul_one, decV, g3_2, g3_5, g3_6, g3_15, g3_16, g4_2, g4_5, g4_6, g4_15, g4_16, g5_2, g5_5, g5_6]
      exact ⟨_, rfl, by rw [if_neg he]⟩
  intro G6 L' _ hF
  obtain ⟨e3, q2, q5, q6, rfl, he3⟩ := hF
  have g6_2 := q2.trans g5_2
  have g6_5 := q5.trans g5_5
  have g6_6 := q6.trans g5_6
  clear q2 q5 q6
  refine hK _ _ ?_
  clear hK K
  refine cv_seq_k fun K hK => ?_
  refine cv_seq_k fun K hK => ?_
  refine cv_region_then rfl ?_
  simp -implicitDefEqProofs (disch := first | omega | decide) only [seval, -Int.reducePow, -Nat.reducePow, cA, cB, pv, binv, fresh, thenQ, blockQ, retQ, Value.oneCell', Value.cells, fBox, tBox, fdV, tyV, rdBox, rdCells, uV, undef, Nat.mul_one, decV, g3_2, g3_5, g3_6, g3_15, g3_16, g4_2, g4_5, g4_6, g4_15, g4_16, g6_2, g6_5, g6_6]
  refine hK _ _ ?_
  clear hK K
  refine cv_cond ?_
  simp -implicitDefEqProofs (disch := first | omega | decide) only [seval, -Int.reducePow, -Nat.reducePow, cA, cB, pv, binv, fresh, thenQ, blockQ, retQ, Value.oneCell', Value.cells, fBox, tBox, fdV, tyV, rdBox, rdCells, uV, undef, Nat.mul_one, decV, g3_2, g3_5, g3_6, g3_15, g3_16, g4_2, g4_5, g4_6, g4_15, g4_16, g6_2, g6_5, g6_6]
  refine ⟨fun hc => ?_, fun hc => ?_⟩
  · have hz : ¬ e3 = 0 := by simpa using ‹(!decide (e3 = 0)) = true›
    have hD : decF l = (0, [], 0, e3) := by
      by_cases he : err = 0
      · rw [if_pos he] at he3
        rw [d2 he, if_neg (by rw [← he3]; exact hz), he3]
      · rw [if_neg he] at he3
        rw [d1 he, he3]
    refine cv_seq_k fun K hK => ?_
    refine cv_draw [(true, 0), (true, 1), (true, 2), (true, 3), (true, 4), (false, 5), (true, 6), (true, 7)] [] mixA rfl (by kernel_rfl) (by kernel_rfl) rfl rfl ?_
    simp -implicitDefEqProofs (disch := first | omega | decide) only [seval, -Int.reducePow, -Nat.reducePow, cA, cB, pv, binv, fresh, thenQ, blockQ, retQ, Value.oneCell', Value.cells, fBox, tBox, fdV, tyV, rdBox, rdCells, uV, undef, Nat.mul_one, decV, g3_2, g3_5, g3_6, g3_15, g3_16, g4_2, g4_5, g4_6, g4_15, g4_16, g6_2, g6_5, g6_6]
    refine hK _ _ ?_
    clear hK K
    refine cv_ret ?_
    simp -implicitDefEqProofs (disch := first | omega | decide) only [seval, -Int.reducePow, -Nat.reducePow, cA, cB, pv, binv, fresh, thenQ, blockQ, retQ, Value.oneCell', Value.cells, fBox, tBox, fdV, tyV, rdBox, rdCells, uV, undef, Nat.mul_one, decV, retQ2, ressV, packV, g3_2, g3_5, g3_6, g3_15, g3_16, g4_2, g4_5, g4_6, g4_15, g4_16, g6_2, g6_5, g6_6]
    intro w hw
    rw [hD]
    exact ⟨none, 0, 0, rfl, World.ownsRow_nil _ _ _ _, hw.below⟩
  have hz : e3 = 0 := by simpa using ‹(!decide (e3 = 0)) = false›
  have he : err = 0 := by
    by_cases he : err = 0
    · exact he
    · rw [if_neg he] at he3; omega
  have hD : decF l = ((q1.1 : Int), gs, used, 0) := by
    rw [if_pos he] at he3
    rw [d2 he, if_pos (by rw [← he3]; exact hz)]
  refine cv_skip ?_
  try simp only [blockQ, thenQ]
  refine hK _ _ ?_
  clear hK K
  refine cv_seq_k fun K hK => ?_
  refine cv_draw_of (pickL [1, 2] _) (fun w hw => hw.pick (by decide)) (by simp only [pickL, nth, suf_cons, suf_nil, List.mem_cons, true_or, or_true, and_true, eq_self]) [(true, 0), (true, 1), (true, 2), (true, 3), (true, 4), (false, 5), (true, 6), (true, 7)] [] mixA rfl (by kernel_rfl) (by kernel_rfl) rfl rfl ?_
  simp -implicitDefEqProofs (disch := first | omega | decide) only [seval, -Int.reducePow, -Nat.reducePow, cA, cB, pv, binv, fresh, thenQ, blockQ, retQ, Value.oneCell', Value.cells, fBox, tBox, fdV, tyV, rdBox, rdCells, uV, undef, Nat.mul_one, decV, g3_2, g3_5, g3_6, g3_15, g3_16, g4_2, g4_5, g4_6, g4_15, g4_16, g6_2, g6_5, g6_6]
  refine hK _ _ ?_
  clear hK K
  refine cv_ret ?_
  simp -implicitDefEqProofs (disch := first | omega | decide) only [seval, -Int.reducePow, -Nat.reducePow, cA, cB, pv, binv, fresh, thenQ, blockQ, retQ, Value.oneCell', Value.cells, fBox, tBox, fdV, tyV, rdBox, rdCells, uV, undef, Nat.mul_one, decV, retQ2, ressV, packV, g3_2, g3_5, g3_6, g3_15, g3_16, g4_2, g4_5, g4_6, g4_15, g4_16, g6_2, g6_5, g6_6]
  intro w hw
  rw [hD]
  exact ⟨A6, j, c6, rfl, hw.rowNew (by simp), hw.below⟩
end Go.Proofs.Ytehfnjaompkikaa
