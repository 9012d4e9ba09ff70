/- pluginhostmake: Next, Field, Type, Of. -/
import Derived.Test.YtlbmnioibiomfaaMkPlain
namespace Go.Proofs.Ytlbmnioibiomfaa
open Go.RowKit Go.Shelf
set_option linter.unusedVariables false
set_option linter.unusedSimpArgs false
set_option maxRecDepth 100000

def tape (A : Option Addr) (n c i : Nat) : List Value := [.slice A n c, .int .i64 (i : Int)]
def tpBox (b : Nat) (A : Option Addr) (n c i : Nat) : Res := .blk b 67 [.slice A n c, .int .i64 (i : Int)]
set_option maxRecDepth 100000 in
theorem sMake1 : type_of% (And.intro (And.intro (And.intro @fBox.eq_1 @tBox.eq_1) (And.intro @pBox.eq_1 @fdV.eq_1)) (And.intro (And.intro @tyV.eq_1 @tpBox.eq_1) (And.intro @tape.eq_1 @Nat.mul_one))) := (And.intro (And.intro (And.intro @fBox.eq_1 @tBox.eq_1) (And.intro @pBox.eq_1 @fdV.eq_1)) (And.intro (And.intro @tyV.eq_1 @tpBox.eq_1) (And.intro @tape.eq_1 @Nat.mul_one)))
set_option maxHeartbeats 1000000 in
theorem next_anyN (b : Nat) (A : Option Addr) (n c : Nat) (l : List Nat) (i m : Nat) (W : World) (hW : W.heap[b]? = some (.cells (tape A n c i).toArray 67 (0, 0))) (hE : Sl W W.heap.size 1 A n c (u16c l)) (ha : 0 < n → Apt A [b]) (hl : ∀ x ∈ l, x < 65536) (hi : i ≤ 1000000) (hm : 0 < m ∧ m ≤ 100000) :
    Calls Try.prog 21 #[.pointer (some ⟨b, 0, none⟩), .int .i64 (m : Int)] W (modP b 67 (.int .i64 (nextF l i m : Int)) (tape A n c (i + 1)) W) := by
  have hln : l.length = n := u16_row hE.len
  have hx16 : ∀ j, l.getD j 0 < 65536 := fun j => by
    rw [List.getD_eq_getElem?_getD]
    cases hq : l[j]? with
    | none => simp
    | some z => exact hl z (List.mem_of_getElem? hq)
  refine calls_cv (M := [b]) (n := 37) [.tmp 4] rfl Try.func21 rfl rfl (Nat.le_of_ble_eq_true rfl)  (St.one hW) ?_
  refine cv_seq_k fun K hK => ?_
  refine cv_region_then rfl ?_
  simp -implicitDefEqProofs (disch := first | omega | decide) only [seval, -Int.reducePow, -Nat.reducePow, cC, pv, binv, sMake1, undef]
  refine hK _ _ ?_
  clear hK K
  refine cv_seq_k fun K hK => ?_
  refine cv_region_then rfl ?_
  simp -implicitDefEqProofs (disch := first | omega | decide) only [seval, -Int.reducePow, -Nat.reducePow, cC, pv, binv, sMake1, undef]
  refine hK _ _ ?_
  clear hK K
  refine cv_gen fun G1 hG => ?_
  have g1_0 := congrFun hG 0
  have g1_1 := congrFun hG 1
  have g1_5 := congrFun hG 5
  clear hG
  try simp -implicitDefEqProofs (disch := first | omega | decide) only [seval, -Int.reducePow, -Nat.reducePow, cC, pv, binv, sMake1, undef] at g1_0 g1_1 g1_5
  have g1 := And.intro g1_0 (And.intro g1_1 g1_5)
  refine cv_seq_k fun K hK => ?_
  refine cv_seq_k fun K hK => ?_
  refine cv_draw [(true, 0), (true, 1), (true, 2), (true, 3), (true, 4), (true, 5), (true, 6), (true, 7), (true, 8), (true, 9)] [] mixA rfl (by kernel_rfl) (by kernel_rfl) rfl rfl ?_
  simp -implicitDefEqProofs (disch := first | omega | decide) only [seval, -Int.reducePow, -Nat.reducePow, cC, pv, binv, sMake1, undef, g1]
  refine hK _ _ ?_
  clear hK K
  refine cv_cut (fun _ _ => True) (fun F' L' => F' 0 = G1 0 ∧ F' 1 = G1 1 ∧ F' 5 = .int .i64 ((l.getD i 0 : Nat) : Int) ∧ L' = [tpBox b A n c i]) ?_ ?_
  · refine cv_cond ?_
    simp -implicitDefEqProofs (disch := first | omega | decide) only [seval, -Int.reducePow, -Nat.reducePow, cC, pv, binv, sMake1, undef, g1]
    refine ⟨fun hc => ?_, fun hc => ?_⟩
    · have hlt : i < n := by have := of_decide_eq_true hc; omega
      obtain ⟨b0, off, rfl, hb0, -⟩ := hE.cells (by omega)
      obtain ⟨x, hx⟩ := some_of (l := l) (i := i) (by omega)
      have hxb := hl x (List.mem_of_getElem? hx)
      have hbb : b ≠ b0 := fun e => ha (by omega) b0 off rfl (by simp [e])
      rw [getD_of hx]
      refine cv_q ?_
      refine cv_draw [(true, 0), (true, 1), (true, 2), (true, 3), (true, 4), (true, 5), (true, 6), (true, 7), (true, 8), (true, 9), (true, 10), (true, 11)] [] mixA rfl (by kernel_rfl) (by kernel_rfl) rfl rfl ?_
      simp -implicitDefEqProofs (disch := first | omega | decide) only [seval, -Int.reducePow, -Nat.reducePow, cC, pv, binv, sMake1, undef, g1]
      refine ⟨_, hE.ld1M (m := 1) (ha (by omega)) (by kernel_rfl) (u16_get hx), fun tok htok => ?_⟩
      subst htok
      simp -implicitDefEqProofs (disch := first | omega | decide) only [seval, -Int.reducePow, -Nat.reducePow, cC, pv, binv, sMake1, undef, wrap_in, g1]
    · have hge : ¬ i < n := by have := of_decide_eq_false hc; omega
      rw [List.getD_eq_getElem?_getD, List.getElem?_eq_none (by omega)]
      refine cv_skip ?_
      try simp only [blockQ, thenQ]
      simp -implicitDefEqProofs (disch := first | omega | decide) only [seval, -Int.reducePow, -Nat.reducePow, cC, pv, binv, sMake1, undef, g1]
      all_goals (first | (simp; done) | (simp; omega))
  · intro G2 L' _ hF
    obtain ⟨q0, q1, q5, rfl⟩ := hF
    have g2_0 := q0.trans g1_0
    have g2_1 := q1.trans g1_1
    have g2_5 := q5
    clear q0 q1 q5
    have g2 := And.intro g2_0 (And.intro g2_1 g2_5)
    refine hK _ _ ?_
    clear hK K
    have hv : ((l.getD i 0 : Nat) : Int) % (m : Int) = (nextF l i m : Int) := by unfold nextF; rw [Int.natCast_emod]
    have h16 := hx16 i
    refine cv_seq_k fun K hK => ?_
    refine cv_region_then rfl ?_
    simp -implicitDefEqProofs (disch := first | omega | decide) only [seval, -Int.reducePow, -Nat.reducePow, cC, pv, binv, sMake1, undef, wrap_in, g2]
    refine hK _ _ ?_
    clear hK K
    refine cv_seq_k fun K hK => ?_
    refine cv_region_then rfl ?_
    simp -implicitDefEqProofs (disch := first | omega | decide) only [seval, -Int.reducePow, -Nat.reducePow, cC, pv, binv, sMake1, undef, hv, g2]
    refine hK _ _ ?_
    clear hK K
    refine cv_ret ⟨_, (by simp -implicitDefEqProofs (disch := first | omega | decide) only [seval, -Int.reducePow, -Nat.reducePow, cC, pv, binv, sMake1, undef, g2]; rfl), fun w hw => ?_⟩
    exact ⟨rfl, hw.holds _ (.head _), hw.pres⟩
set_option maxHeartbeats 1000000 in
theorem field_anyN (b : Nat) (A : Option Addr) (n c : Nat) (l : List Nat) (i : Nat) (W : World) (hW : W.heap[b]? = some (.cells (tape A n c i).toArray 67 (0, 0))) (hE : Sl W W.heap.size 1 A n c (u16c l)) (ha : 0 < n → Apt A [b]) (hl : ∀ x ∈ l, x < 65536) (hi : i ≤ 900000) :
    Calls Try.prog 67 #[.pointer (some ⟨b, 0, none⟩)] W (modP b 67 (fdV (fieldF l i).1) (tape A n c (fieldF l i).2) W) := by
  have h6 := nextF_lt (l := l) (i := i) (m := 6) (by omega)
  have h9 := nextF_lt (l := l) (i := i + 1) (m := 9) (by omega)
  have e6 : (1 : Int) + ((nextF l i 6 : Nat) : Int) = ((1 + nextF l i 6 : Nat) : Int) := by omega
  have e9 : (1 : Int) + ((nextF l (i + 1) 9 : Nat) : Int) = ((1 + nextF l (i + 1) 9 : Nat) : Int) := by omega
  refine calls_cv2 (M := [b]) (n := 16) [.cell 2 99] rfl Try.func67 rfl rfl (Nat.le_of_ble_eq_true rfl)  (St.one hW) ?_
  refine cv_seq_k fun K hK => ?_
  refine cv_region_then rfl ?_
  simp -implicitDefEqProofs (disch := first | omega | decide) only [seval, -Int.reducePow, -Nat.reducePow, cC, pv, binv, sMake1, undef]
  intro b2 hb2 h2
  refine hK _ _ ?_
  clear hK K
  refine cv_seq_k fun K hK => ?_
  refine cv_region_then rfl ?_
  simp -implicitDefEqProofs (disch := first | omega | decide) only [seval, -Int.reducePow, -Nat.reducePow, cC, pv, binv, sMake1, undef]
  refine callV_mod1 1 (fun w hw => next_anyN b A n c l i 6 w (hw.hold 1 rfl) (hE.atM' hw ha) ha hl (by omega) (by omega)) rfl ?_
  try simp -implicitDefEqProofs (disch := first | omega | decide) only [seval, -Int.reducePow, -Nat.reducePow, cC, pv, binv, sMake1, undef]
  simp -implicitDefEqProofs (disch := first | omega | decide) only [seval, -Int.reducePow, -Nat.reducePow, cC, pv, binv, sMake1, undef, e6, wrap_in]
  intro b3 hb3 h3
  refine hK _ _ ?_
  clear hK K
  refine cv_gen fun G3 hG => ?_
  have g3_0 := congrFun hG 0
  have g3_2 := congrFun hG 2
  have g3_3 := congrFun hG 3
  clear hG
  try simp -implicitDefEqProofs (disch := first | omega | decide) only [seval, -Int.reducePow, -Nat.reducePow, cC, pv, binv, sMake1, undef] at g3_0 g3_2 g3_3
  have g3 := And.intro g3_0 (And.intro g3_2 g3_3)
  refine cv_seq_k fun K hK => ?_
  refine cv_seq_k fun K hK => ?_
  refine cv_region_then rfl ?_
  simp -implicitDefEqProofs (disch := first | omega | decide) only [seval, -Int.reducePow, -Nat.reducePow, cC, pv, binv, sMake1, undef, g3]
  refine hK _ _ ?_
  clear hK K
  refine cv_cut (fun _ _ => True) (fun F' L' => F' 2 = G3 2 ∧ F' 3 = G3 3 ∧ L' = [fBox b3 (fieldF l i).1, fBox b2 ⟨0, 0⟩, tpBox b A n c (fieldF l i).2]) ?_ ?_
  · refine cv_cond ?_
    simp -implicitDefEqProofs (disch := first | omega | decide) only [seval, -Int.reducePow, -Nat.reducePow, cC, pv, binv, sMake1, undef, g3]
    refine ⟨fun hc => ?_, fun hc => ?_⟩
    · have hk : 1 + nextF l i 6 = 6 := by have := of_decide_eq_true hc; omega
      have hF : fieldF l i = (⟨6, ((1 + nextF l (i + 1) 9 : Nat) : Int)⟩, i + 2) := by unfold fieldF; rw [if_pos hk]
      rw [hF, hk]
      refine cv_region_q rfl ?_
      simp -implicitDefEqProofs (disch := first | omega | decide) only [seval, -Int.reducePow, -Nat.reducePow, cC, pv, binv, sMake1, undef, g3]
      refine callV_mod1 2 (fun w hw => next_anyN b A n c l (i + 1) 9 w (hw.hold 2 rfl) (hE.atM' hw ha) ha hl (by omega) (by omega)) rfl ?_
      try simp -implicitDefEqProofs (disch := first | omega | decide) only [seval, -Int.reducePow, -Nat.reducePow, cC, pv, binv, sMake1, undef, g3]
      simp -implicitDefEqProofs (disch := first | omega | decide) only [seval, -Int.reducePow, -Nat.reducePow, cC, pv, binv, sMake1, undef, e9, wrap_in, g3]
      all_goals (first | (simp; done) | (simp; omega))
    · have hk : ¬ 1 + nextF l i 6 = 6 := by have := of_decide_eq_false hc; omega
      have hF : fieldF l i = (⟨((1 + nextF l i 6 : Nat) : Int), 0⟩, i + 1) := by unfold fieldF; rw [if_neg hk]
      rw [hF]
      refine cv_skip ?_
      try simp only [blockQ, thenQ]
      simp -implicitDefEqProofs (disch := first | omega | decide) only [seval, -Int.reducePow, -Nat.reducePow, cC, pv, binv, sMake1, undef, g3]
      all_goals (first | (simp; done) | (simp; omega))
  · intro G4 L' _ hF
    obtain ⟨q2, q3, rfl⟩ := hF
    have g4_2 := q2.trans g3_2
    have g4_3 := q3.trans g3_3
    clear q2 q3
    have g4 := And.intro g4_2 g4_3
    refine hK _ _ ?_
    clear hK K
    refine cv_seq_k fun K hK => ?_
    refine cv_region_then rfl ?_
    simp -implicitDefEqProofs (disch := first | omega | decide) only [seval, -Int.reducePow, -Nat.reducePow, cC, pv, binv, sMake1, undef, g4]
    refine hK _ _ ?_
    clear hK K
    refine cv_ret ?_
    simp -implicitDefEqProofs (disch := first | omega | decide) only [seval, -Int.reducePow, -Nat.reducePow, cC, pv, binv, sMake1, undef, retQ2, ressV, packV, g4]
    intro w hw
    exact ⟨rfl, hw.hold 2 rfl, hw.pres⟩
set_option maxHeartbeats 2000000 in
theorem type_anyN (b : Nat) (A : Option Addr) (n c : Nat) (l : List Nat) (i : Nat) (W : World) (hW : W.heap[b]? = some (.cells (tape A n c i).toArray 67 (0, 0))) (hE : Sl W W.heap.size 1 A n c (u16c l)) (ha : 0 < n → Apt A [b]) (hl : ∀ x ∈ l, x < 65536) (hi : i ≤ 800000) :
    Calls Try.prog 45 #[.pointer (some ⟨b, 0, none⟩)] W (modRowP b 67 (tape A n c (typeF l i).2.2) 99 2 (fun v => .agg #[.int .i64 (typeF l i).1, v]) (cl fdc (typeF l i).2.1) W) := by
  have h5 := nextF_lt (l := l) (i := i + 1) (m := 5) (by omega)
  have h4 := nextF_lt (l := l) (i := i + 1) (m := 4) (by omega)
  have e5 : (1 : Int) + ((nextF l (i + 1) 5 : Nat) : Int) = ((1 + nextF l (i + 1) 5 : Nat) : Int) := by omega
  have e4 : (1 : Int) + ((nextF l (i + 1) 4 : Nat) : Int) = ((1 + nextF l (i + 1) 4 : Nat) : Int) := by omega
  refine calls_cv2 (M := [b]) (n := 31) [.cell 2 74] rfl Try.func45 rfl rfl (Nat.le_of_ble_eq_true rfl)  (St.one hW) ?_
  refine cv_seq_k fun K hK => ?_
  refine cv_region_then rfl ?_
  simp -implicitDefEqProofs (disch := first | omega | decide) only [seval, -Int.reducePow, -Nat.reducePow, cC, pv, binv, sMake1, undef]
  intro b2 hb2 h2
  refine hK _ _ ?_
  clear hK K
  refine cv_gen fun G5 hG => ?_
  have g5_0 := congrFun hG 0
  have g5_2 := congrFun hG 2
  clear hG
  try simp -implicitDefEqProofs (disch := first | omega | decide) only [seval, -Int.reducePow, -Nat.reducePow, cC, pv, binv, sMake1, undef] at g5_0 g5_2
  have g5 := And.intro g5_0 g5_2
  refine cv_seq_k fun K hK => ?_
  refine cv_seq_k fun K hK => ?_
  refine cv_region_then rfl ?_
  simp -implicitDefEqProofs (disch := first | omega | decide) only [seval, -Int.reducePow, -Nat.reducePow, cC, pv, binv, sMake1, undef, g5]
  refine callV_mod1 1 (fun w hw => next_anyN b A n c l i 4 w (hw.hold 1 rfl) (hE.atM' hw ha) ha hl (by omega) (by omega)) rfl ?_
  try simp -implicitDefEqProofs (disch := first | omega | decide) only [seval, -Int.reducePow, -Nat.reducePow, cC, pv, binv, sMake1, undef, g5]
  refine hK _ _ ?_
  clear hK K
  refine cv_cond ?_
  simp -implicitDefEqProofs (disch := first | omega | decide) only [seval, -Int.reducePow, -Nat.reducePow, cC, pv, binv, sMake1, undef, g5]
  refine ⟨fun hc => ?_, fun hc => ?_⟩
  · have hk : nextF l i 4 = 0 := by have := of_decide_eq_true hc; omega
    have hT : typeF l i = (((1 + nextF l (i + 1) 5 : Nat) : Int), [(fieldF l (i + 2)).1], (fieldF l (i + 2)).2) := by unfold typeF; rw [if_pos hk]
    rw [hT]
    refine cv_seq_k fun K hK => ?_
    refine cv_region_then rfl ?_
    simp -implicitDefEqProofs (disch := first | omega | decide) only [seval, -Int.reducePow, -Nat.reducePow, cC, pv, binv, sMake1, undef, g5]
    refine callV_mod1 1 (fun w hw => next_anyN b A n c l (i + 1) 5 w (hw.hold 1 rfl) (hE.atM' hw ha) ha hl (by omega) (by omega)) rfl ?_
    try simp -implicitDefEqProofs (disch := first | omega | decide) only [seval, -Int.reducePow, -Nat.reducePow, cC, pv, binv, sMake1, undef, g5]
    simp -implicitDefEqProofs (disch := first | omega | decide) only [seval, -Int.reducePow, -Nat.reducePow, cC, pv, binv, sMake1, undef, e5, wrap_in, g5]
    refine callV_mod1 1 (fun w hw => field_anyN b A n c l (i + 2) w (hw.hold 1 rfl) (hE.atM' hw ha) ha hl (by omega)) rfl ?_
    try simp -implicitDefEqProofs (disch := first | omega | decide) only [seval, -Int.reducePow, -Nat.reducePow, cC, pv, binv, sMake1, undef, g5]
    intro b5 hb5 h5
    simp -implicitDefEqProofs (disch := first | omega | decide) only [seval, -Int.reducePow, -Nat.reducePow, cC, pv, binv, sMake1, undef, g5]
    refine hK _ _ ?_
    clear hK K
    refine cv_ret ?_
    simp -implicitDefEqProofs (disch := first | omega | decide) only [seval, -Int.reducePow, -Nat.reducePow, cC, pv, binv, sMake1, undef, retQ2, ressV, packV, g5]
    intro w hw
    have hr := hw.blk_row (size := 2) (n := 1) rfl (by omega)
    exact ⟨some ⟨b5, 0, none⟩, 1, 1, rfl, hr.rowNew (by simp [Res.foot]), hw.hold 2 rfl, hw.pres⟩
  · have hk : ¬ nextF l i 4 = 0 := by have := of_decide_eq_false hc; omega
    have hT : typeF l i = (0, (fieldsF l (1 + nextF l (i + 1) 4) (i + 2)).1, (fieldsF l (1 + nextF l (i + 1) 4) (i + 2)).2) := by unfold typeF; rw [if_neg hk]
    rw [hT]
    refine cv_skip ?_
    try simp only [blockQ, thenQ]
    refine hK _ _ ?_
    clear hK K
    refine cv_seq_k fun K hK => ?_
    refine cv_region_then rfl ?_
    simp -implicitDefEqProofs (disch := first | omega | decide) only [seval, -Int.reducePow, -Nat.reducePow, cC, pv, binv, sMake1, undef, g5]
    intro b3 hb3 h3
    refine hK _ _ ?_
    clear hK K
    refine cv_seq_k fun K hK => ?_
    refine cv_seq_k fun K hK => ?_
    refine cv_region_then rfl ?_
    simp -implicitDefEqProofs (disch := first | omega | decide) only [seval, -Int.reducePow, -Nat.reducePow, cC, pv, binv, sMake1, undef, g5]
    refine callV_mod1 2 (fun w hw => next_anyN b A n c l (i + 1) 4 w (hw.hold 2 rfl) (hE.atM' hw ha) ha hl (by omega) (by omega)) rfl ?_
    try simp -implicitDefEqProofs (disch := first | omega | decide) only [seval, -Int.reducePow, -Nat.reducePow, cC, pv, binv, sMake1, undef, g5]
    simp -implicitDefEqProofs (disch := first | omega | decide) only [seval, -Int.reducePow, -Nat.reducePow, cC, pv, binv, sMake1, undef, e4, wrap_in, g5]
    refine hK _ _ ?_
    clear hK K
    refine cv_gen fun G6 hG => ?_
    have g6_0 := congrFun hG 0
    have g6_2 := congrFun hG 2
    have g6_3 := congrFun hG 3
    have g6_4 := congrFun hG 4
    clear hG
    try simp -implicitDefEqProofs (disch := first | omega | decide) only [seval, -Int.reducePow, -Nat.reducePow, cC, pv, binv, sMake1, undef, g5] at g6_0 g6_2 g6_3 g6_4
    have g6 := And.intro g6_0 (And.intro g6_2 (And.intro g6_3 g6_4))
    refine cv_block ?_
    refine cv_nil 99 2 ?_
    refine cv_loop (fun F' L' => ∃ (y j : Nat) (A6 : Option Addr) (n6 c6 : Nat) (gs : List Fd), F' 0 = G6 0 ∧ F' 2 = G6 2 ∧ F' 3 = G6 3 ∧ F' 4 = .int .i64 (y : Int) ∧ L' = [.row (.slice A6 n6 c6) 99 2 n6 (cl fdc gs), tBox b3 0 A6 n6 c6, tBox b2 0 none 0 0, tpBox b A n c j] ∧ y ≤ 4 ∧ n6 + y ≤ 4 ∧ j + 2 * y ≤ i + 10 ∧ (gs ++ (fieldsF l y j).1, (fieldsF l y j).2) = fieldsF l (1 + nextF l (i + 1) 4) (i + 2)) (fun F' L' => (intOf (F' 4)).toNat) ?_ ?_
    · refine ⟨1 + nextF l (i + 1) 4, i + 2, none, 0, 0, [], ?_⟩
      simp -implicitDefEqProofs (disch := first | omega | decide) only [seval, -Int.reducePow, -Nat.reducePow, cC, pv, binv, sMake1, undef, g6]
      exact ⟨rfl, by omega, by omega, by omega⟩
    · intro G7 L' hI
      obtain ⟨y, j, A6, n6, c6, gs, q0, q2, q3, q4, rfl, ⟨hy, h6, hj, hF⟩⟩ := hI
      have g7_0 := q0.trans g6_0
      have g7_2 := q2.trans g6_2
      have g7_3 := q3.trans g6_3
      have g7_4 := q4
      clear q0 q2 q3 q4
      have g7 := And.intro g7_0 (And.intro g7_2 (And.intro g7_3 g7_4))
      refine cv_seq_k fun K hK => ?_
      refine cv_seq_k fun K hK => ?_
      refine cv_region_then rfl ?_
      simp -implicitDefEqProofs (disch := first | omega | decide) only [seval, -Int.reducePow, -Nat.reducePow, cC, pv, binv, sMake1, undef, g6, g7]
      refine hK _ _ ?_
      clear hK K
      refine cv_cond ?_
      simp -implicitDefEqProofs (disch := first | omega | decide) only [seval, -Int.reducePow, -Nat.reducePow, cC, pv, binv, sMake1, undef, g6, g7]
      refine ⟨fun hc => ?_, fun hc => ?_⟩
      · refine cv_skip ?_
        try simp only [blockQ, thenQ]
        obtain ⟨z, rfl⟩ : ∃ z, y = z + 1 := ⟨y - 1, by have := of_decide_eq_true hc; omega⟩
        rw [fieldsF_snoc] at hF
        have hfo := fieldF_ok l j
        refine hK _ _ ?_
        clear hK K
        refine cv_seq_k fun K hK => ?_
        refine cv_block ?_
        refine cv_q ?_
        refine cv_draw_of (pickL [1] _) (fun w hw => hw.pick (by decide)) (by simp only [pickL, nth, suf_cons, suf_nil, List.mem_cons, true_or, or_true, and_true, eq_self]) [(true, 0), (true, 1), (true, 2), (false, 3), (false, 4), (false, 5), (true, 6), (false, 7)] [7] mixA rfl (by kernel_rfl) (by kernel_rfl) rfl rfl ?_
        simp -implicitDefEqProofs (disch := first | omega | decide) only [seval, -Int.reducePow, -Nat.reducePow, cC, pv, binv, sMake1, undef, g6, g7]
        refine callV_mod1 3 (fun w hw => field_anyN b A n c l j w (hw.hold 3 rfl) (hE.atM' hw ha) ha hl (by omega)) rfl ?_
        try simp -implicitDefEqProofs (disch := first | omega | decide) only [seval, -Int.reducePow, -Nat.reducePow, cC, pv, binv, sMake1, undef, g6, g7]
        intro b5 hb5 h5
        refine appV_at 1 tap72 rfl (fun w hw => src_blk (size := 2) (.head _) rfl hw) rfl (by omega) (by omega) ?_
        intro A' c' hl' hr'
        simp -implicitDefEqProofs (disch := first | omega | decide) only [seval, -Int.reducePow, -Nat.reducePow, cC, pv, binv, sMake1, undef, g6, g7]
        refine hK _ _ ?_
        clear hK K
        refine cv_pick [0, 2, 3, 4] (by decide) ?_
        simp only [pickL, nth]
        refine cv_region_then rfl ?_
        simp -implicitDefEqProofs (disch := first | omega | decide) only [seval, -Int.reducePow, -Nat.reducePow, cC, pv, binv, sMake1, undef, wrap_in, g6, g7]
        refine ⟨⟨z, (fieldF l j).2, A', n6 + 1, c', gs ++ [(fieldF l j).1], ?_⟩, ?_⟩
        · simp -implicitDefEqProofs (disch := first | omega | decide) only [seval, -Int.reducePow, -Nat.reducePow, cC, pv, binv, sMake1, undef, Int.natCast_add, cl_snoc, fdc, g6, g7]
          exact ⟨congrArg _ (by omega), by omega, by omega, by omega, hF⟩
        · simp only [intOf]; omega
      · refine cv_exit ?_
        simp only [blockQ, thenQ, if_true, ite_true]
        clear hK K
        refine hK _ _ ?_
        clear hK K
        obtain rfl : y = 0 := by have := of_decide_eq_false hc; omega
        simp only [fieldsF, List.append_nil] at hF
        rw [hT, ← hF]
        refine cv_seq_k fun K hK => ?_
        refine cv_region_then rfl ?_
        simp -implicitDefEqProofs (disch := first | omega | decide) only [seval, -Int.reducePow, -Nat.reducePow, cC, pv, binv, sMake1, undef, g6, g7]
        refine hK _ _ ?_
        clear hK K
        refine cv_ret ?_
        simp -implicitDefEqProofs (disch := first | omega | decide) only [seval, -Int.reducePow, -Nat.reducePow, cC, pv, binv, sMake1, undef, retQ2, ressV, packV, g6, g7]
        intro w hw
        exact ⟨A6, n6, c6, rfl, hw.rowNew (by simp [Res.foot]), hw.hold 3 rfl, hw.pres⟩
theorem next_any (b : Nat) (A : Option Addr) (n c : Nat) (l : List Nat) (i m : Nat) (W : World) (hW : W.heap[b]? = some (.cells (tape A n c i).toArray 67 (0, 0))) (hE : Sl W W.heap.size 1 A n c (u16c l)) (ha : Apt A [b]) (hl : ∀ x ∈ l, x < 65536) (hi : i ≤ 1000000) (hm : 0 < m ∧ m ≤ 100000) :
    Calls Try.prog 21 #[.pointer (some ⟨b, 0, none⟩), .int .i64 (m : Int)] W (modP b 67 (.int .i64 (nextF l i m : Int)) (tape A n c (i + 1)) W) :=
  next_anyN b A n c l i m W hW hE (fun _ => ha) hl hi hm
theorem field_any (b : Nat) (A : Option Addr) (n c : Nat) (l : List Nat) (i : Nat) (W : World) (hW : W.heap[b]? = some (.cells (tape A n c i).toArray 67 (0, 0))) (hE : Sl W W.heap.size 1 A n c (u16c l)) (ha : Apt A [b]) (hl : ∀ x ∈ l, x < 65536) (hi : i ≤ 900000) :
    Calls Try.prog 67 #[.pointer (some ⟨b, 0, none⟩)] W (modP b 67 (fdV (fieldF l i).1) (tape A n c (fieldF l i).2) W) :=
  field_anyN b A n c l i W hW hE (fun _ => ha) hl hi
theorem type_any (b : Nat) (A : Option Addr) (n c : Nat) (l : List Nat) (i : Nat) (W : World) (hW : W.heap[b]? = some (.cells (tape A n c i).toArray 67 (0, 0))) (hE : Sl W W.heap.size 1 A n c (u16c l)) (ha : Apt A [b]) (hl : ∀ x ∈ l, x < 65536) (hi : i ≤ 800000) :
    Calls Try.prog 45 #[.pointer (some ⟨b, 0, none⟩)] W (modRowP b 67 (tape A n c (typeF l i).2.2) 99 2 (fun v => .agg #[.int .i64 (typeF l i).1, v]) (cl fdc (typeF l i).2.1) W) :=
  type_anyN b A n c l i W hW hE (fun _ => ha) hl hi
set_option maxHeartbeats 1000000 in
theorem of_any (A : Option Addr) (n c : Nat) (l : List Nat) (m : Nat) (W : World) (hE : Sl W W.heap.size 1 A n c (u16c l)) (hm : m ≤ 100000) :
    Calls Try.prog 10 #[.slice A n c, .int .i64 (m : Int)] W (boxRowP 67 (fun v => [v, .int .i64 0]) 23 1 (u16c (l.take m)) W) := by
  have hln : l.length = n := u16_row hE.len
  have hcap := hE.cap
  have hmax := hE.max
  refine calls_cv (M := []) (n := 17) [.tmp 4] rfl Try.func10 rfl rfl (Nat.le_of_ble_eq_true rfl) (St.nil _ _) ?_
  refine cv_seq_k fun K hK => ?_
  refine cv_region_then rfl ?_
  simp -implicitDefEqProofs (disch := first | omega | decide) only [seval, -Int.reducePow, -Nat.reducePow, cC, pv, binv, sMake1, undef]
  refine hK _ _ ?_
  clear hK K
  refine cv_gen fun G8 hG => ?_
  have g8_0 := congrFun hG 0
  have g8_1 := congrFun hG 1
  clear hG
  try simp -implicitDefEqProofs (disch := first | omega | decide) only [seval, -Int.reducePow, -Nat.reducePow, cC, pv, binv, sMake1, undef] at g8_0 g8_1
  have g8 := And.intro g8_0 g8_1
  refine cv_seq_k fun K hK => ?_
  refine cv_seq_k fun K hK => ?_
  refine cv_region_then rfl ?_
  simp -implicitDefEqProofs (disch := first | omega | decide) only [seval, -Int.reducePow, -Nat.reducePow, cC, pv, binv, sMake1, undef, g8]
  refine hK _ _ ?_
  clear hK K
  refine cv_cut (fun _ _ => True) (fun F' L' => F' 0 = .slice A (min n m) c ∧ L' = []) ?_ ?_
  · refine cv_cond ?_
    simp -implicitDefEqProofs (disch := first | omega | decide) only [seval, -Int.reducePow, -Nat.reducePow, cC, pv, binv, sMake1, undef, g8]
    refine ⟨fun hc => ?_, fun hc => ?_⟩
    · have hlt : m < n := by have := of_decide_eq_true hc; omega
      rw [Nat.min_eq_right (by omega)]
      refine cv_region_q rfl ?_
      simp -implicitDefEqProofs (disch := first | omega | decide) only [seval, -Int.reducePow, -Nat.reducePow, cC, pv, binv, sMake1, undef, g8]
    · have hge : ¬ m < n := by have := of_decide_eq_false hc; omega
      rw [Nat.min_eq_left (by omega)]
      refine cv_skip ?_
      try simp only [blockQ, thenQ]
      simp -implicitDefEqProofs (disch := first | omega | decide) only [seval, -Int.reducePow, -Nat.reducePow, cC, pv, binv, sMake1, undef, g8]
  · intro G9 L' _ hF
    obtain ⟨q0, rfl⟩ := hF
    have g9_0 := q0
    clear q0
    have g9 := g9_0
    refine hK _ _ ?_
    clear hK K
    have hE2 : Sl W W.heap.size 1 A (min n m) c (u16c (l.take m)) := by
      have := hE.utake (k := min n m) (by omega)
      rwa [show l.take (min n m) = l.take m by rw [← hln, Nat.min_comm, ← List.take_take, List.take_length]] at this
    refine cv_seq_k fun K hK => ?_
    refine cv_region_then rfl ?_
    simp -implicitDefEqProofs (disch := first | omega | decide) only [seval, -Int.reducePow, -Nat.reducePow, cC, pv, binv, sMake1, undef, g9]
    intro b5 hb5
    refine appV_lit 0 tap22 rfl rfl (fun w hw => (hE2.at hw).reads) (ones_u16 _) (by omega) (by omega) ?_
    intro A' c' hl' _
    simp -implicitDefEqProofs (disch := first | omega | decide) only [seval, -Int.reducePow, -Nat.reducePow, cC, pv, binv, sMake1, undef, g9]
    intro b6 hb6
    refine hK _ _ ?_
    clear hK K
    refine cv_ret ⟨_, (by simp -implicitDefEqProofs (disch := first | omega | decide) only [seval, -Int.reducePow, -Nat.reducePow, cC, pv, binv, sMake1, undef, g9]; rfl), fun w hw => ?_⟩
    exact hw.boxRow (us := fun v => [v, .int .i64 0])
end Go.Proofs.Ytlbmnioibiomfaa
