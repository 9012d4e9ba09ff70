/- The reference's reader. -/
import Derived.Test.YtehfnjaompkikaaMRf
import Derived.Test.YtehfnjaompkikaaRDec
import Derived.Test.YtehfnjaompkikaaRIns
namespace Go.Proofs.Ytehfnjaompkikaa
open Go.RowKit Go.Shelf
set_option linter.unusedVariables false
set_option linter.unusedSimpArgs false
set_option maxRecDepth 100000
def eyB (r : Nat) (A : Option Addr) (n c : Nat) (err : Int) : Res := .blk r 117 [.slice A n c, .int .i64 err]
set_option maxHeartbeats 2000000 in
theorem enumber_any (r : Nat) (A : Option Addr) (n c : Nat) (l : List Nat) (most : Nat) (err : Int) (W : World) (hW : W.heap[r]? = some (.cells (mrC A n c err).toArray 117 (0, 0))) (hE : Sl W W.heap.size 1 A n c (byt l)) (ha : 0 < n → Apt A [r]) (hb : ∀ x ∈ l, x < 256) (hm : most ≤ 1024) :
    Calls Try.prog 59 #[.pointer (some ⟨r, 0, none⟩), .int .i64 (most : Int)] W (modP r 117 (.int .i64 ((numE err l most).1 : Int)) (mrC (sbase c (numE err l most).2.1 1 A) (n - (numE err l most).2.1) (c - (numE err l most).2.1) (numE err l most).2.2) W) := by
  have hln : l.length = n := byt_row hE.len
  have hcap := hE.cap
  have hmax := hE.max
  have em := i64v most (by omega)
  refine calls_cv (M := [r]) (n := 51) [.tmp 4] rfl Try.func59 rfl rfl (Nat.le_of_ble_eq_true rfl)  (St.one hW) ?_
  refine cv_seq_k fun K hK => ?_
  refine cv_region_then rfl ?_
  simp -implicitDefEqProofs (disch := first | omega | decide) only [seval, -Int.reducePow, -Nat.reducePow, cA, cB, pv, binv, fresh, thenQ, blockQ, retQ, Value.oneCell', Value.cells, undef, Nat.mul_one, mrC, eyB, uV]
  refine hK _ _ ?_
  clear hK K
  refine cv_seq_k fun K hK => ?_
  refine cv_seq_k fun K hK => ?_
  refine cv_region_then rfl ?_
  simp -implicitDefEqProofs (disch := first | omega | decide) only [seval, -Int.reducePow, -Nat.reducePow, cA, cB, pv, binv, fresh, thenQ, blockQ, retQ, Value.oneCell', Value.cells, undef, Nat.mul_one, mrC, eyB, uV]
  refine hK _ _ ?_
  clear hK K
  refine cv_cond ?_
  simp -implicitDefEqProofs (disch := first | omega | decide) only [seval, -Int.reducePow, -Nat.reducePow, cA, cB, pv, binv, fresh, thenQ, blockQ, retQ, Value.oneCell', Value.cells, undef, Nat.mul_one, mrC, eyB, uV]
  refine ⟨fun hc => ?_, fun hc => ?_⟩
  · have he : ¬ err = 0 := by simpa using hc
    have hF : numE err l most = (0, 0, err) := by unfold numE; rw [if_neg he]
    refine cv_seq_k fun K hK => ?_
    refine cv_region_then rfl ?_
    simp -implicitDefEqProofs (disch := first | omega | decide) only [seval, -Int.reducePow, -Nat.reducePow, cA, cB, pv, binv, fresh, thenQ, blockQ, retQ, Value.oneCell', Value.cells, undef, Nat.mul_one, mrC, eyB, uV]
    refine hK _ _ ?_
    clear hK K
    refine cv_ret ⟨_, (by simp -implicitDefEqProofs (disch := first | omega | decide) only [seval, -Int.reducePow, -Nat.reducePow, cA, cB, pv, binv, fresh, thenQ, blockQ, retQ, Value.oneCell', Value.cells, undef, Nat.mul_one, mrC, eyB, uV]; rfl), fun w hw => ?_⟩
    rw [hF, sbase_zero]
    exact ⟨rfl, hw.hold 0 rfl, hw.pres⟩
  have he : err = 0 := by simpa using hc
  subst he
  refine cv_skip ?_
  try simp only [blockQ, thenQ]
  refine hK _ _ ?_
  clear hK K
  obtain ⟨q, hq⟩ : ∃ q, uD 0 l = q := ⟨_, rfl⟩
  have hqc := uD_cases l 0 (by omega) hb
  have hlt := uD_lt hb
  rw [hq] at hqc hlt
  rw [hln] at hqc
  refine cv_seq_k fun K hK => ?_
  refine cv_region_then rfl ?_
  simp -implicitDefEqProofs (disch := first | omega | decide) only [seval, -Int.reducePow, -Nat.reducePow, cA, cB, pv, binv, fresh, thenQ, blockQ, retQ, Value.oneCell', Value.cells, undef, Nat.mul_one, mrC, eyB, uV]
  refine callV_ret (fun w hw => ruint_any A n c l w (hE.atM' hw ha) hb) ?_
  try simp -implicitDefEqProofs (disch := first | omega | decide) only [seval, -Int.reducePow, -Nat.reducePow, cA, cB, pv, binv, fresh, thenQ, blockQ, retQ, Value.oneCell', Value.cells, undef, Nat.mul_one, mrC, eyB, uV, hq]
  refine hK _ _ ?_
  clear hK K
  refine cv_gen fun G1 hG => ?_
  have g1_0 := congrFun hG 0
  have g1_1 := congrFun hG 1
  have g1_5 := congrFun hG 5
  have g1_6 := congrFun hG 6
  have g1_7 := congrFun hG 7
  clear hG
  try simp -implicitDefEqProofs (disch := first | omega | decide) only [seval, -Int.reducePow, -Nat.reducePow, cA, cB, pv, binv, fresh, thenQ, blockQ, retQ, Value.oneCell', Value.cells, undef, Nat.mul_one, mrC, eyB, uV, hq] at g1_0 g1_1 g1_5 g1_6 g1_7
  obtain ⟨e', he'⟩ : ∃ e', (if q.2.2 = 0 then (if most < q.1 then 4 else 0) else q.2.2 : Int) = e' := ⟨_, rfl⟩
  refine cv_seq_k fun K hK => ?_
  refine cv_cut (fun _ _ => True) (fun F' L' => F' 0 = G1 0 ∧ F' 5 = G1 5 ∧ F' 6 = G1 6 ∧ F' 7 = .int .i64 e' ∧ L' = [eyB r A n c 0]) ?_ ?_
  · by_cases h0 : q.2.2 = 0
    · rw [if_pos h0] at he'
      refine cv_seq_k fun K hK => ?_
      refine cv_cut (fun _ _ => True) (fun F' L' => F' 0 = G1 0 ∧ F' 5 = G1 5 ∧ F' 6 = G1 6 ∧ F' 7 = G1 7 ∧ F' 33 = .bool (decide (most < q.1)) ∧ L' = [eyB r A n c 0]) ?_ ?_
      · refine cv_region_then rfl ?_
        simp -implicitDefEqProofs (disch := first | omega | decide) only [seval, -Int.reducePow, -Nat.reducePow, cA, cB, pv, binv, fresh, thenQ, blockQ, retQ, Value.oneCell', Value.cells, undef, Nat.mul_one, mrC, eyB, uV, h0, em, g1_0, g1_1, g1_5, g1_6, g1_7]
        repeat' ((first | refine vcg_cases (fun hg => ?_) (fun hg => ?_) | refine vdg_cases (fun hg => ?_) (fun hg => ?_)) <;> ((try simp only [Bool.not_eq_true', Bool.not_eq_false', decide_eq_true_eq, decide_eq_false_iff_not] at hg); (try simp -implicitDefEqProofs (disch := first | omega | decide) only [seval, -Int.reducePow, -Nat.reducePow, cA, cB, pv, binv, fresh, thenQ, blockQ, retQ, Value.oneCell', Value.cells, undef, Nat.mul_one, mrC, eyB, uV, hg, g1_0, g1_1, g1_5, g1_6, g1_7])))
        all_goals (repeat' refine And.intro ?_ ?_)
        all_goals (first | with_reducible rfl | (refine congrArg Value.bool ?_; rw [Bool.eq_iff_iff]; (try simp only [decide_eq_true_eq, eq_self, true_and, and_true, false_and, and_false, true_or, or_true, false_or, or_false, not_true_eq_false, not_false_eq_true, true_iff, iff_true, false_iff, iff_false, Bool.false_eq_true, Bool.not_eq_true', Bool.not_eq_true, decide_eq_false_iff_not, Bool.and_eq_true, Bool.or_eq_true]) <;> omega) | (refine congrArg (Value.int _) ?_; omega) | omega)
      intro G2 L' _ hF
      obtain ⟨q0, q5, q6, q7, q33, rfl⟩ := hF
      have g2_0 := q0.trans g1_0
      have g2_5 := q5.trans g1_5
      have g2_6 := q6.trans g1_6
      have g2_7 := q7.trans g1_7
      have g2_33 := q33
      clear q0 q5 q6 q7 q33
      refine hK _ _ ?_
      clear hK K
      refine cv_cond ?_
      simp -implicitDefEqProofs (disch := first | omega | decide) only [seval, -Int.reducePow, -Nat.reducePow, cA, cB, pv, binv, fresh, thenQ, blockQ, retQ, Value.oneCell', Value.cells, undef, Nat.mul_one, mrC, eyB, uV, g1_0, g1_1, g1_5, g1_6, g1_7, g2_0, g2_5, g2_6, g2_7, g2_33]
      refine ⟨fun hc => ?_, fun hc => ?_⟩
      · have hm1 := of_decide_eq_true ‹_›
        rw [if_pos hm1] at he'
        refine cv_region_q rfl ?_
        simp -implicitDefEqProofs (disch := first | omega | decide) only [seval, -Int.reducePow, -Nat.reducePow, cA, cB, pv, binv, fresh, thenQ, blockQ, retQ, Value.oneCell', Value.cells, undef, Nat.mul_one, mrC, eyB, uV, g1_0, g1_1, g1_5, g1_6, g1_7, g2_0, g2_5, g2_6, g2_7, g2_33]
        all_goals (first | (simp [← he']; done) | (simp [← he']; omega))
      · have hm1 := of_decide_eq_false ‹_›
        rw [if_neg hm1] at he'
        refine cv_skip ?_
        try simp only [blockQ, thenQ]
        simp -implicitDefEqProofs (disch := first | omega | decide) only [seval, -Int.reducePow, -Nat.reducePow, cA, cB, pv, binv, fresh, thenQ, blockQ, retQ, Value.oneCell', Value.cells, undef, Nat.mul_one, mrC, eyB, uV, g1_0, g1_1, g1_5, g1_6, g1_7, g2_0, g2_5, g2_6, g2_7, g2_33]
        rw [← he', h0]
    · rw [if_neg h0] at he'
      refine cv_seq_k fun K hK => ?_
      refine cv_region_then rfl ?_
      simp -implicitDefEqProofs (disch := first | omega | decide) only [seval, -Int.reducePow, -Nat.reducePow, cA, cB, pv, binv, fresh, thenQ, blockQ, retQ, Value.oneCell', Value.cells, undef, Nat.mul_one, mrC, eyB, uV, h0, em, g1_0, g1_1, g1_5, g1_6, g1_7]
      refine hK _ _ ?_
      clear hK K
      refine cv_cond ?_
      simp -implicitDefEqProofs (disch := first | omega | decide) only [seval, -Int.reducePow, -Nat.reducePow, cA, cB, pv, binv, fresh, thenQ, blockQ, retQ, Value.oneCell', Value.cells, undef, Nat.mul_one, mrC, eyB, uV, g1_0, g1_1, g1_5, g1_6, g1_7]
      refine cv_skip ?_
      try simp only [blockQ, thenQ]
      simp -implicitDefEqProofs (disch := first | omega | decide) only [seval, -Int.reducePow, -Nat.reducePow, cA, cB, pv, binv, fresh, thenQ, blockQ, retQ, Value.oneCell', Value.cells, undef, Nat.mul_one, mrC, eyB, uV, g1_0, g1_1, g1_5, g1_6, g1_7]
      rw [← he']
  intro G3 L' _ hF
  obtain ⟨q0, q5, q6, q7, rfl⟩ := hF
  have g3_0 := q0.trans g1_0
  have g3_5 := q5.trans g1_5
  have g3_6 := q6.trans g1_6
  have g3_7 := q7
  clear q0 q5 q6 q7
  refine hK _ _ ?_
  clear hK K
  have hS : numE 0 l most = if e' = 0 then (q.1, q.2.1, 0) else (0, 0, e') := by
    unfold numE smF
    rw [if_pos rfl, List.drop_zero, hq]
    by_cases h0 : q.2.2 = 0
    · rw [if_pos h0] at he' ⊢
      by_cases hm1 : most < q.1
      · rw [if_pos hm1] at he' ⊢
        rw [← he', if_neg (by omega)]
      · rw [if_neg hm1] at he' ⊢
        rw [← he', if_pos rfl, Nat.zero_add]
    · rw [if_neg h0] at he' ⊢
      rw [← he', if_neg h0]
  have h0 : e' = 0 → q.2.1 ≤ n := fun h => by
    rcases hqc with h3 | h3
    · omega
    · exact h3.2.2.2.2.1
  have hq1 : e' = 0 → q.1 ≤ most := fun h => by
    by_cases h0 : q.2.2 = 0
    · rw [if_pos h0] at he'
      by_cases hm1 : most < q.1
      · rw [if_pos hm1] at he'; omega
      · omega
    · rw [if_neg h0] at he'; omega
  refine cv_seq_k fun K hK => ?_
  refine cv_seq_k fun K hK => ?_
  refine cv_region_then rfl ?_
  simp -implicitDefEqProofs (disch := first | omega | decide) only [seval, -Int.reducePow, -Nat.reducePow, cA, cB, pv, binv, fresh, thenQ, blockQ, retQ, Value.oneCell', Value.cells, undef, Nat.mul_one, mrC, eyB, uV, g3_0, g3_5, g3_6, g3_7]
  refine hK _ _ ?_
  clear hK K
  refine cv_cond ?_
  simp -implicitDefEqProofs (disch := first | omega | decide) only [seval, -Int.reducePow, -Nat.reducePow, cA, cB, pv, binv, fresh, thenQ, blockQ, retQ, Value.oneCell', Value.cells, undef, Nat.mul_one, mrC, eyB, uV, g3_0, g3_5, g3_6, g3_7]
  refine ⟨fun hc => ?_, fun hc => ?_⟩
  · have h1 : ¬ e' = 0 := by simpa using hc
    rw [if_neg h1] at hS
    refine cv_seq_k fun K hK => ?_
    refine cv_region_then rfl ?_
    simp -implicitDefEqProofs (disch := first | omega | decide) only [seval, -Int.reducePow, -Nat.reducePow, cA, cB, pv, binv, fresh, thenQ, blockQ, retQ, Value.oneCell', Value.cells, undef, Nat.mul_one, mrC, eyB, uV, g3_0, g3_5, g3_6, g3_7]
    refine hK _ _ ?_
    clear hK K
    refine cv_seq_k fun K hK => ?_
    refine cv_region_then rfl ?_
    simp -implicitDefEqProofs (disch := first | omega | decide) only [seval, -Int.reducePow, -Nat.reducePow, cA, cB, pv, binv, fresh, thenQ, blockQ, retQ, Value.oneCell', Value.cells, undef, Nat.mul_one, mrC, eyB, uV, g3_0, g3_5, g3_6, g3_7]
    refine hK _ _ ?_
    clear hK K
    refine cv_ret ⟨_, (by simp -implicitDefEqProofs (disch := first | omega | decide) only [seval, -Int.reducePow, -Nat.reducePow, cA, cB, pv, binv, fresh, thenQ, blockQ, retQ, Value.oneCell', Value.cells, undef, Nat.mul_one, mrC, eyB, uV, g3_0, g3_5, g3_6, g3_7]; rfl), fun w hw => ?_⟩
    rw [hS]
    dsimp only
    rw [sbase_zero]
    exact ⟨rfl, hw.hold 0 rfl, hw.pres⟩
  have h1 : e' = 0 := by simpa using hc
  rw [if_pos h1] at hS
  have := hq1 h1
  have := h0 h1
  refine cv_skip ?_
  try simp only [blockQ, thenQ]
  refine hK _ _ ?_
  clear hK K
  refine cv_seq_k fun K hK => ?_
  refine cv_region_then rfl ?_
  simp -implicitDefEqProofs (disch := first | omega | decide) only [seval, -Int.reducePow, -Nat.reducePow, cA, cB, pv, binv, fresh, thenQ, blockQ, retQ, Value.oneCell', Value.cells, undef, Nat.mul_one, mrC, eyB, uV, g3_0, g3_5, g3_6, g3_7]
  refine hK _ _ ?_
  clear hK K
  refine cv_seq_k fun K hK => ?_
  refine cv_region_then rfl ?_
  simp -implicitDefEqProofs (disch := first | omega | decide) only [seval, -Int.reducePow, -Nat.reducePow, cA, cB, pv, binv, fresh, thenQ, blockQ, retQ, Value.oneCell', Value.cells, undef, Nat.mul_one, mrC, eyB, uV, wrap_in, g3_0, g3_5, g3_6, g3_7]
  refine hK _ _ ?_
  clear hK K
  refine cv_ret ⟨_, (by simp -implicitDefEqProofs (disch := first | omega | decide) only [seval, -Int.reducePow, -Nat.reducePow, cA, cB, pv, binv, fresh, thenQ, blockQ, retQ, Value.oneCell', Value.cells, undef, Nat.mul_one, mrC, eyB, uV, g3_0, g3_5, g3_6, g3_7]; rfl), fun w hw => ?_⟩
  rw [hS]
  exact ⟨rfl, hw.hold 0 rfl, hw.pres⟩
theorem enum_any {W : World} {r n c n' c' most v : Nat} {A A' : Option Addr} {l l' : List Nat} {e e' : Int} (h : NumS A n c l e most v A' n' c' l' e') (hW : W.heap[r]? = some (.cells (mrC A n c e).toArray 117 (0, 0))) (hL : Lt W r A n c l) (hm : most ≤ 1024) :
    Calls Try.prog 59 #[.pointer (some ⟨r, 0, none⟩), .int .i64 (most : Int)] W (modP r 117 (.int .i64 (v : Int)) (mrC A' n' c' e') W) := by
  obtain ⟨k, h1, rfl, rfl, rfl, rfl⟩ := h.ex
  have := enumber_any r A n c l most e W hW hL.sl hL.ap hL.bt hm
  rw [h1] at this
  exact this
theorem decF_le {l : List Nat} (hb : ∀ x ∈ l, x < 256) : (decF l).2.2.1 ≤ l.length := by
  by_cases h : (decF l).2.2.2 = 0
  · exact (decF_only hb h).2.2
  · rw [decF_err h]; omega
set_option maxHeartbeats 2000000 in
theorem kind_any (r : Nat) (A : Option Addr) (n c : Nat) (l : List Nat) (W : World) (hW : W.heap[r]? = some (.cells (mrC A n c 0).toArray 117 (0, 0))) (hL : Lt W r A n c l) :
    Calls Try.prog 60 #[.pointer (some ⟨r, 0, none⟩)] W (modRowP r 117 (mrC (sbase c (decF l).2.2.1 1 A) (n - (decF l).2.2.1) (c - (decF l).2.2.1) (decF l).2.2.2) 102 2 (fun v => .agg #[.int .i64 (decF l).1, v]) (cl fdc (decF l).2.1) W) := by
  have hcap := hL.sl.cap
  have hmax := hL.sl.max
  have hle := decF_le hL.bt
  rw [hL.len] at hle
  obtain ⟨d, hd⟩ : ∃ d, decF l = d := ⟨_, rfl⟩
  rw [hd] at hle ⊢
  refine calls_cv2 (M := [r]) (n := 35) [.cell 2 63] rfl Try.func60 rfl rfl (Nat.le_of_ble_eq_true rfl)  (St.one hW) ?_
  refine cv_seq_k fun K hK => ?_
  refine cv_region_then rfl ?_
  simp -implicitDefEqProofs (disch := first | omega | decide) only [seval, -Int.reducePow, -Nat.reducePow, cA, cB, pv, binv, fresh, thenQ, blockQ, retQ, Value.oneCell', Value.cells, undef, Nat.mul_one, mrC, eyB, decV, tBox, diV, iBox]
  intro b2 hb2 h2
  refine hK _ _ ?_
  clear hK K
  refine cv_seq_k fun K hK => ?_
  refine cv_seq_k fun K hK => ?_
  refine cv_region_then rfl ?_
  simp -implicitDefEqProofs (disch := first | omega | decide) only [seval, -Int.reducePow, -Nat.reducePow, cA, cB, pv, binv, fresh, thenQ, blockQ, retQ, Value.oneCell', Value.cells, undef, Nat.mul_one, mrC, eyB, decV, tBox, diV, iBox]
  refine hK _ _ ?_
  clear hK K
  refine cv_cond ?_
  simp -implicitDefEqProofs (disch := first | omega | decide) only [seval, -Int.reducePow, -Nat.reducePow, cA, cB, pv, binv, fresh, thenQ, blockQ, retQ, Value.oneCell', Value.cells, undef, Nat.mul_one, mrC, eyB, decV, tBox, diV, iBox]
  refine cv_skip ?_
  try simp only [blockQ, thenQ]
  refine hK _ _ ?_
  clear hK K
  refine cv_seq_k fun K hK => ?_
  refine cv_region_then rfl ?_
  simp -implicitDefEqProofs (disch := first | omega | decide) only [seval, -Int.reducePow, -Nat.reducePow, cA, cB, pv, binv, fresh, thenQ, blockQ, retQ, Value.oneCell', Value.cells, undef, Nat.mul_one, mrC, eyB, decV, tBox, diV, iBox]
  refine callV_row (fun A5 n5 c5 => decV (decF l) (.slice A5 n5 c5)) (fun w hw => rdecode_any A n c l w (hL.at hw).sl hL.bt hL.sz) ?_
  rw [hd]
  intro A5 n5 c5 hl5 hr5
  simp -implicitDefEqProofs (disch := first | omega | decide) only [seval, -Int.reducePow, -Nat.reducePow, cA, cB, pv, binv, fresh, thenQ, blockQ, retQ, Value.oneCell', Value.cells, undef, Nat.mul_one, mrC, eyB, decV, tBox, diV, iBox]
  intro b3 hb3 h3
  refine hK _ _ ?_
  clear hK K
  refine cv_seq_k fun K hK => ?_
  refine cv_region_then rfl ?_
  simp -implicitDefEqProofs (disch := first | omega | decide) only [seval, -Int.reducePow, -Nat.reducePow, cA, cB, pv, binv, fresh, thenQ, blockQ, retQ, Value.oneCell', Value.cells, undef, Nat.mul_one, mrC, eyB, decV, tBox, diV, iBox]
  refine hK _ _ ?_
  clear hK K
  refine cv_seq_k fun K hK => ?_
  refine cv_region_then rfl ?_
  simp -implicitDefEqProofs (disch := first | omega | decide) only [seval, -Int.reducePow, -Nat.reducePow, cA, cB, pv, binv, fresh, thenQ, blockQ, retQ, Value.oneCell', Value.cells, undef, Nat.mul_one, mrC, eyB, decV, tBox, diV, iBox]
  refine hK _ _ ?_
  clear hK K
  refine cv_pick [1, 0, 2, 3] (by decide) ?_
  simp only [pickL, nth]
  refine cv_seq_k fun K hK => ?_
  refine cv_region_then rfl ?_
  simp -implicitDefEqProofs (disch := first | omega | decide) only [seval, -Int.reducePow, -Nat.reducePow, cA, cB, pv, binv, fresh, thenQ, blockQ, retQ, Value.oneCell', Value.cells, undef, Nat.mul_one, mrC, eyB, decV, tBox, diV, iBox]
  refine hK _ _ ?_
  clear hK K
  refine cv_ret ?_
  simp -implicitDefEqProofs (disch := first | omega | decide) only [seval, -Int.reducePow, -Nat.reducePow, cA, cB, pv, binv, fresh, thenQ, blockQ, retQ, Value.oneCell', Value.cells, undef, Nat.mul_one, mrC, eyB, decV, tBox, diV, iBox, retQ2, ressV, packV]
  intro w hw
  exact ⟨A5, n5, c5, rfl, hw.rowNew (by simp [Res.foot]), hw.hold 3 rfl, hw.pres⟩
set_option maxHeartbeats 2000000 in
theorem einstr_any (r : Nat) (A : Option Addr) (n c : Nat) (l : List Nat) (W : World) (hW : W.heap[r]? = some (.cells (mrC A n c 0).toArray 117 (0, 0))) (hL : Lt W r A n c l) :
    Calls Try.prog 61 #[.pointer (some ⟨r, 0, none⟩)] W (modP r 117 (insV (decI l).1) (mrC (sbase c (decI l).2.1 1 A) (n - (decI l).2.1) (c - (decI l).2.1) (decI l).2.2) W) := by
  have hcap := hL.sl.cap
  have hmax := hL.sl.max
  have hle := (decI_le hL.bt).2.1
  rw [hL.len] at hle
  obtain ⟨d, hd⟩ : ∃ d, decI l = d := ⟨_, rfl⟩
  rw [hd] at hle ⊢
  refine calls_cv2 (M := [r]) (n := 35) [.cell 2 46] rfl Try.func61 rfl rfl (Nat.le_of_ble_eq_true rfl)  (St.one hW) ?_
  refine cv_seq_k fun K hK => ?_
  refine cv_region_then rfl ?_
  simp -implicitDefEqProofs (disch := first | omega | decide) only [seval, -Int.reducePow, -Nat.reducePow, cA, cB, pv, binv, fresh, thenQ, blockQ, retQ, Value.oneCell', Value.cells, undef, Nat.mul_one, mrC, eyB, decV, tBox, diV, iBox]
  intro b2 hb2 h2
  refine hK _ _ ?_
  clear hK K
  refine cv_seq_k fun K hK => ?_
  refine cv_seq_k fun K hK => ?_
  refine cv_region_then rfl ?_
  simp -implicitDefEqProofs (disch := first | omega | decide) only [seval, -Int.reducePow, -Nat.reducePow, cA, cB, pv, binv, fresh, thenQ, blockQ, retQ, Value.oneCell', Value.cells, undef, Nat.mul_one, mrC, eyB, decV, tBox, diV, iBox]
  refine hK _ _ ?_
  clear hK K
  refine cv_cond ?_
  simp -implicitDefEqProofs (disch := first | omega | decide) only [seval, -Int.reducePow, -Nat.reducePow, cA, cB, pv, binv, fresh, thenQ, blockQ, retQ, Value.oneCell', Value.cells, undef, Nat.mul_one, mrC, eyB, decV, tBox, diV, iBox]
  refine cv_skip ?_
  try simp only [blockQ, thenQ]
  refine hK _ _ ?_
  clear hK K
  refine cv_seq_k fun K hK => ?_
  refine cv_region_then rfl ?_
  simp -implicitDefEqProofs (disch := first | omega | decide) only [seval, -Int.reducePow, -Nat.reducePow, cA, cB, pv, binv, fresh, thenQ, blockQ, retQ, Value.oneCell', Value.cells, undef, Nat.mul_one, mrC, eyB, decV, tBox, diV, iBox]
  refine callV_ret (fun w hw => r_dec_any A n c l w (hL.at hw).sl hL.bt) ?_
  try simp -implicitDefEqProofs (disch := first | omega | decide) only [seval, -Int.reducePow, -Nat.reducePow, cA, cB, pv, binv, fresh, thenQ, blockQ, retQ, Value.oneCell', Value.cells, undef, Nat.mul_one, mrC, eyB, decV, tBox, diV, iBox, hd]
  intro b3 hb3 h3
  refine hK _ _ ?_
  clear hK K
  refine cv_seq_k fun K hK => ?_
  refine cv_region_then rfl ?_
  simp -implicitDefEqProofs (disch := first | omega | decide) only [seval, -Int.reducePow, -Nat.reducePow, cA, cB, pv, binv, fresh, thenQ, blockQ, retQ, Value.oneCell', Value.cells, undef, Nat.mul_one, mrC, eyB, decV, tBox, diV, iBox]
  refine hK _ _ ?_
  clear hK K
  refine cv_seq_k fun K hK => ?_
  refine cv_region_then rfl ?_
  simp -implicitDefEqProofs (disch := first | omega | decide) only [seval, -Int.reducePow, -Nat.reducePow, cA, cB, pv, binv, fresh, thenQ, blockQ, retQ, Value.oneCell', Value.cells, undef, Nat.mul_one, mrC, eyB, decV, tBox, diV, iBox]
  refine hK _ _ ?_
  clear hK K
  refine cv_seq_k fun K hK => ?_
  refine cv_region_then rfl ?_
  simp -implicitDefEqProofs (disch := first | omega | decide) only [seval, -Int.reducePow, -Nat.reducePow, cA, cB, pv, binv, fresh, thenQ, blockQ, retQ, Value.oneCell', Value.cells, undef, Nat.mul_one, mrC, eyB, decV, tBox, diV, iBox]
  refine hK _ _ ?_
  clear hK K
  refine cv_ret ?_
  simp -implicitDefEqProofs (disch := first | omega | decide) only [seval, -Int.reducePow, -Nat.reducePow, cA, cB, pv, binv, fresh, thenQ, blockQ, retQ, Value.oneCell', Value.cells, undef, Nat.mul_one, mrC, eyB, decV, tBox, diV, iBox, retQ2, ressV, packV]
  intro w hw
  exact ⟨rfl, hw.hold 2 rfl, hw.pres⟩
end Go.Proofs.Ytehfnjaompkikaa
