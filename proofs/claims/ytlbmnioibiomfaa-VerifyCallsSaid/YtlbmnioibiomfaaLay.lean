/- Package layout: what its functions answer. -/
import Derived.Test.YtlbmnioibiomfaaLPlain
namespace Go.Proofs.Ytlbmnioibiomfaa
open Go.RowKit Go.Shelf
set_option linter.unusedVariables false
set_option linter.unusedSimpArgs false
set_option maxRecDepth 100000

section
variable {W w : World} {L : List Res} {M : List Nat} {n c : Nat} {A : Option Addr} {fs : List Fd}
theorem Sl.fld {b off k : Nat} {x : Fd} (h : Sl W W.heap.size 2 (some ⟨b, off, none⟩) n c (cl fdc fs)) (hx : fs[k]? = some x) : LD Try.prog [] W L 99 ⟨b, off + k * 2, none⟩ (.agg #[.int .i64 x.kind, .int .i64 x.count]) :=
  h.ld (vs := fdc x) (by
    have := cl_row fdc_len (by omega) h.len
    have := (List.getElem?_eq_some_iff.1 hx).1
    omega) (by kernel_rfl) (cl_at fdc_len hx)
theorem Sl.fld0 {b off k : Nat} {x : Fd} (h : Sl W W.heap.size 2 (some ⟨b, off, none⟩) n c (cl fdc fs)) (hx : fs[k]? = some x) : LD Try.prog [] W L 3 ⟨b, off + k * 2, none⟩ (.int .i64 x.kind) :=
  h.ld1 (m := 1) (i := k * 2) (by kernel_rfl) (cl_get (j := 0) fdc_len hx rfl)
theorem Sl.fld1 {b off k : Nat} {x : Fd} (h : Sl W W.heap.size 2 (some ⟨b, off, none⟩) n c (cl fdc fs)) (hx : fs[k]? = some x) : LD Try.prog [] W L 3 ⟨b, off + k * 2 + 1, none⟩ (.int .i64 x.count) := by
  rw [Nat.add_assoc]
  exact h.ld1 (m := 1) (i := k * 2 + 1) (by kernel_rfl) (cl_get (j := 1) fdc_len hx rfl)
end
def fBox (b : Nat) (f : Fd) : Res := .blk b 99 [.int .i64 f.kind, .int .i64 f.count]
def tBox (b : Nat) (len : Int) (A : Option Addr) (n c : Nat) : Res := .blk b 74 [.int .i64 len, .slice A n c]
def pBox (b : Nat) : Res := .blk b 131 [.int .i64 0, .int .i64 0, .int .i64 0]
def tyV (len : Int) (A : Option Addr) (n c : Nat) : Value := .agg #[.int .i64 len, .slice A n c]
theorem some_of {α : Type} {l : List α} {i : Nat} (h : i < l.length) : ∃ x, l[i]? = some x := ⟨_, List.getElem?_eq_getElem h⟩

set_option maxRecDepth 100000 in
theorem sLay1 : type_of% (And.intro (And.intro @fBox.eq_1 @tBox.eq_1) (And.intro @pBox.eq_1 (And.intro @fdV.eq_1 @tyV.eq_1))) := (And.intro (And.intro @fBox.eq_1 @tBox.eq_1) (And.intro @pBox.eq_1 (And.intro @fdV.eq_1 @tyV.eq_1)))
theorem width_any (f : Fd) (W : World) : Calls Try.prog 101 #[fdV f] W fun e w' => e = .returned (.int .i64 f.wid) ∧ Below W.heap.size W w' := by
  refine calls_cv (M := []) (n := 15) [.tmp 2] rfl Try.func101 rfl rfl (Nat.le_of_ble_eq_true rfl) (St.nil _ _) ?_
  refine cv_seq_k fun K hK => ?_
  refine cv_region_then rfl ?_
  simp -implicitDefEqProofs (disch := first | omega | decide) only [seval, -Int.reducePow, -Nat.reducePow, cC, pv, binv, sLay1, undef]
  intro b hb
  refine hK _ _ ?_
  clear hK K
  refine cv_seq_k fun K hK => ?_
  refine cv_seq_k fun K hK => ?_
  refine cv_region_then rfl ?_
  simp -implicitDefEqProofs (disch := first | omega | decide) only [seval, -Int.reducePow, -Nat.reducePow, cC, pv, binv, sLay1, undef]
  refine hK _ _ ?_
  clear hK K
  refine cv_block ?_
  refine cv_seq_k fun K hK => ?_
  refine cv_region_then rfl ?_
  simp -implicitDefEqProofs (disch := first | omega | decide) only [seval, -Int.reducePow, -Nat.reducePow, cC, pv, binv, sLay1, undef]
  refine hK _ _ ?_
  clear hK K
  refine cv_cond ?_
  simp -implicitDefEqProofs (disch := first | omega | decide) only [seval, -Int.reducePow, -Nat.reducePow, cC, pv, binv, sLay1, undef]
  refine ⟨fun hc => ?_, fun hc => ?_⟩
  · refine cv_seq_k fun K hK => ?_
    refine cv_region_then rfl ?_
    simp -implicitDefEqProofs (disch := first | omega | decide) only [seval, -Int.reducePow, -Nat.reducePow, cC, pv, binv, sLay1, undef]
    refine hK _ _ ?_
    clear hK K
    refine cv_ret ⟨_, (by simp -implicitDefEqProofs (disch := first | omega | decide) only [seval, -Int.reducePow, -Nat.reducePow, cC, pv, binv, sLay1, undef]; rfl), fun w hw => ?_⟩
    exact ⟨by simp [Fd.wid, of_decide_eq_true hc], hw.below⟩
  · have q1 := of_decide_eq_false hc
    refine cv_seq_k fun K hK => ?_
    refine cv_region_then rfl ?_
    simp -implicitDefEqProofs (disch := first | omega | decide) only [seval, -Int.reducePow, -Nat.reducePow, cC, pv, binv, sLay1, undef]
    refine hK _ _ ?_
    clear hK K
    refine cv_cond ?_
    simp -implicitDefEqProofs (disch := first | omega | decide) only [seval, -Int.reducePow, -Nat.reducePow, cC, pv, binv, sLay1, undef]
    refine ⟨fun hc => ?_, fun hc => ?_⟩
    · refine cv_seq_k fun K hK => ?_
      refine cv_region_then rfl ?_
      simp -implicitDefEqProofs (disch := first | omega | decide) only [seval, -Int.reducePow, -Nat.reducePow, cC, pv, binv, sLay1, undef]
      refine hK _ _ ?_
      clear hK K
      refine cv_ret ⟨_, (by simp -implicitDefEqProofs (disch := first | omega | decide) only [seval, -Int.reducePow, -Nat.reducePow, cC, pv, binv, sLay1, undef]; rfl), fun w hw => ?_⟩
      exact ⟨by simp [Fd.wid, q1, of_decide_eq_true ‹_›], hw.below⟩
    · have q2 := of_decide_eq_false ‹_›
      refine cv_seq_k fun K hK => ?_
      refine cv_region_then rfl ?_
      simp -implicitDefEqProofs (disch := first | omega | decide) only [seval, -Int.reducePow, -Nat.reducePow, cC, pv, binv, sLay1, undef]
      refine hK _ _ ?_
      clear hK K
      refine cv_cond ?_
      simp -implicitDefEqProofs (disch := first | omega | decide) only [seval, -Int.reducePow, -Nat.reducePow, cC, pv, binv, sLay1, undef]
      refine ⟨fun hc => ?_, fun hc => ?_⟩
      · refine cv_seq_k fun K hK => ?_
        refine cv_region_then rfl ?_
        simp -implicitDefEqProofs (disch := first | omega | decide) only [seval, -Int.reducePow, -Nat.reducePow, cC, pv, binv, sLay1, undef]
        refine hK _ _ ?_
        clear hK K
        refine cv_ret ⟨_, (by simp -implicitDefEqProofs (disch := first | omega | decide) only [seval, -Int.reducePow, -Nat.reducePow, cC, pv, binv, sLay1, undef]; rfl), fun w hw => ?_⟩
        exact ⟨by simp [Fd.wid, q1, q2, of_decide_eq_true ‹_›], hw.below⟩
      · have q3 := of_decide_eq_false ‹_›
        refine cv_seq_k fun K hK => ?_
        refine cv_region_then rfl ?_
        simp -implicitDefEqProofs (disch := first | omega | decide) only [seval, -Int.reducePow, -Nat.reducePow, cC, pv, binv, sLay1, undef]
        refine hK _ _ ?_
        clear hK K
        refine cv_cond ?_
        simp -implicitDefEqProofs (disch := first | omega | decide) only [seval, -Int.reducePow, -Nat.reducePow, cC, pv, binv, sLay1, undef]
        refine ⟨fun hc => ?_, fun hc => ?_⟩
        · refine cv_seq_k fun K hK => ?_
          refine cv_region_then rfl ?_
          simp -implicitDefEqProofs (disch := first | omega | decide) only [seval, -Int.reducePow, -Nat.reducePow, cC, pv, binv, sLay1, undef]
          refine hK _ _ ?_
          clear hK K
          refine cv_ret ⟨_, (by simp -implicitDefEqProofs (disch := first | omega | decide) only [seval, -Int.reducePow, -Nat.reducePow, cC, pv, binv, sLay1, undef]; rfl), fun w hw => ?_⟩
          exact ⟨by simp [Fd.wid, q1, q2, q3, of_decide_eq_true ‹_›], hw.below⟩
        · have q4 := of_decide_eq_false ‹_›
          refine cv_skip ?_
          try simp only [blockQ, thenQ]
          refine hK _ _ ?_
          clear hK K
          refine cv_seq_k fun K hK => ?_
          refine cv_region_then rfl ?_
          simp -implicitDefEqProofs (disch := first | omega | decide) only [seval, -Int.reducePow, -Nat.reducePow, cC, pv, binv, sLay1, undef]
          refine hK _ _ ?_
          clear hK K
          refine cv_ret ⟨_, (by simp -implicitDefEqProofs (disch := first | omega | decide) only [seval, -Int.reducePow, -Nat.reducePow, cC, pv, binv, sLay1, undef]; rfl), fun w hw => ?_⟩
          exact ⟨by simp [Fd.wid, q1, q2, q3, q4], hw.below⟩
theorem alignment_any (f : Fd) (W : World) : Calls Try.prog 115 #[fdV f] W fun e w' => e = .returned (.int .i64 f.ali) ∧ Below W.heap.size W w' := by
  refine calls_cv (M := []) (n := 8) [.tmp 2] rfl Try.func115 rfl rfl (Nat.le_of_ble_eq_true rfl) (St.nil _ _) ?_
  refine cv_seq_k fun K hK => ?_
  refine cv_region_then rfl ?_
  simp -implicitDefEqProofs (disch := first | omega | decide) only [seval, -Int.reducePow, -Nat.reducePow, cC, pv, binv, sLay1, undef]
  intro b hb
  refine hK _ _ ?_
  clear hK K
  refine cv_seq_k fun K hK => ?_
  refine cv_seq_k fun K hK => ?_
  refine cv_region_then rfl ?_
  simp -implicitDefEqProofs (disch := first | omega | decide) only [seval, -Int.reducePow, -Nat.reducePow, cC, pv, binv, sLay1, undef]
  refine hK _ _ ?_
  clear hK K
  refine cv_cond ?_
  simp -implicitDefEqProofs (disch := first | omega | decide) only [seval, -Int.reducePow, -Nat.reducePow, cC, pv, binv, sLay1, undef]
  refine ⟨fun hc => ?_, fun hc => ?_⟩
  · refine cv_seq_k fun K hK => ?_
    refine cv_region_then rfl ?_
    simp -implicitDefEqProofs (disch := first | omega | decide) only [seval, -Int.reducePow, -Nat.reducePow, cC, pv, binv, sLay1, undef]
    refine hK _ _ ?_
    clear hK K
    refine cv_ret ⟨_, (by simp -implicitDefEqProofs (disch := first | omega | decide) only [seval, -Int.reducePow, -Nat.reducePow, cC, pv, binv, sLay1, undef]; rfl), fun w hw => ?_⟩
    exact ⟨by simp [Fd.ali, of_decide_eq_true hc], hw.below⟩
  · refine cv_skip ?_
    try simp only [blockQ, thenQ]
    refine hK _ _ ?_
    clear hK K
    refine cv_seq_k fun K hK => ?_
    refine cv_region_then rfl ?_
    simp -implicitDefEqProofs (disch := first | omega | decide) only [seval, -Int.reducePow, -Nat.reducePow, cC, pv, binv, sLay1, undef]
    refine callV_ret (fun w hw => width_any f w) ?_
    try simp -implicitDefEqProofs (disch := first | omega | decide) only [seval, -Int.reducePow, -Nat.reducePow, cC, pv, binv, sLay1, undef]
    refine hK _ _ ?_
    clear hK K
    refine cv_ret ⟨_, (by simp -implicitDefEqProofs (disch := first | omega | decide) only [seval, -Int.reducePow, -Nat.reducePow, cC, pv, binv, sLay1, undef]; rfl), fun w hw => ?_⟩
    exact ⟨by simp [Fd.ali, of_decide_eq_false hc], hw.below⟩
theorem up_any (n a : Int) (W : World) (hn : 0 ≤ n ∧ n ≤ 1000000000) (ha : 1 ≤ a ∧ a ≤ 100) : Calls Try.prog 116 #[.int .i64 n, .int .i64 a] W fun e w' => e = .returned (.int .i64 (upI n a)) ∧ Below W.heap.size W w' := by
  have hr := upI_rng hn.1 ha.1
  have h0 : 0 ≤ (n + a - 1) / a ∧ (n + a - 1) / a ≤ n + a - 1 := ⟨Int.ediv_nonneg (by omega) (by omega), Int.ediv_le_self _ (by omega)⟩
  have h1 : IntKind.i64.wrap ((n + a - 1) / a) = (n + a - 1) / a := wrap_in (by omega) (by omega)
  have h2 : IntKind.i64.wrap ((n + a - 1) / a * a) = upI n a := wrap_in (by unfold upI at hr; omega) (by unfold upI at hr; omega)
  refine calls_cv (M := []) (n := 13) [.tmp 4] rfl Try.func116 rfl rfl (Nat.le_of_ble_eq_true rfl) (St.nil _ _) ?_
  refine cv_seq_k fun K hK => ?_
  refine cv_region_then rfl ?_
  simp -implicitDefEqProofs (disch := first | omega | decide) only [seval, -Int.reducePow, -Nat.reducePow, cC, pv, binv, sLay1, undef]
  refine hK _ _ ?_
  clear hK K
  refine cv_seq_k fun K hK => ?_
  refine cv_region_then rfl ?_
  simp -implicitDefEqProofs (disch := first | omega | decide) only [seval, -Int.reducePow, -Nat.reducePow, cC, pv, binv, sLay1, undef, h1, h2, wrap_in]
  refine hK _ _ ?_
  clear hK K
  refine cv_ret ⟨_, (by simp -implicitDefEqProofs (disch := first | omega | decide) only [seval, -Int.reducePow, -Nat.reducePow, cC, pv, binv, sLay1, undef]; rfl), fun w hw => ?_⟩
  exact ⟨rfl, hw.below⟩
theorem checkField_any (f : Fd) (W : World) : Calls Try.prog 91 #[fdV f] W fun e w' => e = .returned (.int .i64 f.err) ∧ Below W.heap.size W w' := by
  refine calls_cv (M := []) (n := 35) [.tmp 2] rfl Try.func91 rfl rfl (Nat.le_of_ble_eq_true rfl) (St.nil _ _) ?_
  refine cv_seq_k fun K hK => ?_
  refine cv_region_then rfl ?_
  simp -implicitDefEqProofs (disch := first | omega | decide) only [seval, -Int.reducePow, -Nat.reducePow, cC, pv, binv, sLay1, undef]
  intro b hb
  refine hK _ _ ?_
  clear hK K
  refine cv_gen fun G1 hG => ?_
  have g1_1 := congrFun hG 1
  clear hG
  try simp -implicitDefEqProofs (disch := first | omega | decide) only [seval, -Int.reducePow, -Nat.reducePow, cC, pv, binv, sLay1, undef] at g1_1
  have g1 := g1_1
  refine cv_seq_k fun K hK => ?_
  refine cv_block ?_
  refine cv_seq_k fun K hK => ?_
  refine cv_cut (fun _ _ => True) (fun F' L' => F' 1 = G1 1 ∧ F' 3 = .bool (decide (f.kind < 1 ∨ 6 < f.kind)) ∧ L' = [fBox b f]) ?_ ?_
  · refine cv_region_then rfl ?_
    simp -implicitDefEqProofs (disch := first | omega | decide) only [seval, -Int.reducePow, -Nat.reducePow, cC, pv, binv, sLay1, undef, g1]
    repeat' ((first | refine vcg_cases (fun hg => ?_) (fun hg => ?_) | refine vdg_cases (fun hg => ?_) (fun hg => ?_)) <;> ((try simp only [Bool.not_eq_true', Bool.not_eq_false', decide_eq_true_eq, decide_eq_false_iff_not] at hg); (try simp -implicitDefEqProofs (disch := first | omega | decide) only [seval, -Int.reducePow, -Nat.reducePow, cC, pv, binv, sLay1, undef, hg, g1])))
    all_goals (repeat' refine And.intro ?_ ?_)
    all_goals (first | with_reducible rfl | (refine congrArg Value.bool ?_; rw [Bool.eq_iff_iff]; (try simp only [decide_eq_true_eq, eq_self, true_and, and_true, false_and, and_false, true_or, or_true, false_or, or_false, not_true_eq_false, not_false_eq_true, true_iff, iff_true, false_iff, iff_false, Bool.false_eq_true, Bool.not_eq_true', Bool.not_eq_true, decide_eq_false_iff_not, Bool.and_eq_true, Bool.or_eq_true]) <;> omega) | (refine congrArg (Value.int _) ?_; omega) | omega)
  · intro G2 L' _ hF
    obtain ⟨q1, q3, rfl⟩ := hF
    have g2_1 := q1.trans g1_1
    have g2_3 := q3
    clear q1 q3
    have g2 := And.intro g2_1 g2_3
    refine hK _ _ ?_
    clear hK K
    refine cv_cond ?_
    simp -implicitDefEqProofs (disch := first | omega | decide) only [seval, -Int.reducePow, -Nat.reducePow, cC, pv, binv, sLay1, undef, g2]
    refine ⟨fun hc => ?_, fun hc => ?_⟩
    · refine cv_seq_k fun K hK => ?_
      refine cv_region_then rfl ?_
      simp -implicitDefEqProofs (disch := first | omega | decide) only [seval, -Int.reducePow, -Nat.reducePow, cC, pv, binv, sLay1, undef, g2]
      refine hK _ _ ?_
      clear hK K
      refine cv_ret ⟨_, (by simp -implicitDefEqProofs (disch := first | omega | decide) only [seval, -Int.reducePow, -Nat.reducePow, cC, pv, binv, sLay1, undef, g2]; rfl), fun w hw => ?_⟩
      exact ⟨by simp [Fd.err, of_decide_eq_true hc], hw.below⟩
    · have q1 := of_decide_eq_false hc
      refine cv_seq_k fun K hK => ?_
      refine cv_cut (fun _ _ => True) (fun F' L' => F' 1 = G2 1 ∧ F' 12 = .bool (decide ((f.kind = 6 ∧ f.count < 1) ∨ (¬ f.kind = 6 ∧ ¬ f.count = 0))) ∧ L' = [fBox b f]) ?_ ?_
      · refine cv_region_then rfl ?_
        simp -implicitDefEqProofs (disch := first | omega | decide) only [seval, -Int.reducePow, -Nat.reducePow, cC, pv, binv, sLay1, undef, g2]
        repeat' ((first | refine vcg_cases (fun hg => ?_) (fun hg => ?_) | refine vdg_cases (fun hg => ?_) (fun hg => ?_)) <;> ((try simp only [Bool.not_eq_true', Bool.not_eq_false', decide_eq_true_eq, decide_eq_false_iff_not] at hg); (try simp -implicitDefEqProofs (disch := first | omega | decide) only [seval, -Int.reducePow, -Nat.reducePow, cC, pv, binv, sLay1, undef, hg, g2])))
        all_goals (repeat' refine And.intro ?_ ?_)
        all_goals (first | with_reducible rfl | (refine congrArg Value.bool ?_; rw [Bool.eq_iff_iff]; (try simp only [decide_eq_true_eq, eq_self, true_and, and_true, false_and, and_false, true_or, or_true, false_or, or_false, not_true_eq_false, not_false_eq_true, true_iff, iff_true, false_iff, iff_false, Bool.false_eq_true, Bool.not_eq_true', Bool.not_eq_true, decide_eq_false_iff_not, Bool.and_eq_true, Bool.or_eq_true]) <;> omega) | (refine congrArg (Value.int _) ?_; omega) | omega)
      · intro G3 L' _ hF
        obtain ⟨q1, q12, rfl⟩ := hF
        have g3_1 := q1.trans g2_1
        have g3_12 := q12
        clear q1 q12
        have g3 := And.intro g3_1 g3_12
        refine hK _ _ ?_
        clear hK K
        refine cv_cond ?_
        simp -implicitDefEqProofs (disch := first | omega | decide) only [seval, -Int.reducePow, -Nat.reducePow, cC, pv, binv, sLay1, undef, g3]
        refine ⟨fun hc => ?_, fun hc => ?_⟩
        · have q2 := of_decide_eq_true ‹_›
          refine cv_seq_k fun K hK => ?_
          refine cv_region_then rfl ?_
          simp -implicitDefEqProofs (disch := first | omega | decide) only [seval, -Int.reducePow, -Nat.reducePow, cC, pv, binv, sLay1, undef, g3]
          refine hK _ _ ?_
          clear hK K
          refine cv_ret ⟨_, (by simp -implicitDefEqProofs (disch := first | omega | decide) only [seval, -Int.reducePow, -Nat.reducePow, cC, pv, binv, sLay1, undef, g3]; rfl), fun w hw => ?_⟩
          exact ⟨by unfold Fd.err; rw [if_neg q1, if_pos q2], hw.below⟩
        · have q2 := of_decide_eq_false ‹_›
          refine cv_seq_k fun K hK => ?_
          refine cv_region_then rfl ?_
          simp -implicitDefEqProofs (disch := first | omega | decide) only [seval, -Int.reducePow, -Nat.reducePow, cC, pv, binv, sLay1, undef, g3]
          refine hK _ _ ?_
          clear hK K
          refine cv_cond ?_
          simp -implicitDefEqProofs (disch := first | omega | decide) only [seval, -Int.reducePow, -Nat.reducePow, cC, pv, binv, sLay1, undef, g3]
          refine ⟨fun hc => ?_, fun hc => ?_⟩
          · have q3 := of_decide_eq_true ‹_›
            refine cv_seq_k fun K hK => ?_
            refine cv_region_then rfl ?_
            simp -implicitDefEqProofs (disch := first | omega | decide) only [seval, -Int.reducePow, -Nat.reducePow, cC, pv, binv, sLay1, undef, g3]
            refine hK _ _ ?_
            clear hK K
            refine cv_ret ⟨_, (by simp -implicitDefEqProofs (disch := first | omega | decide) only [seval, -Int.reducePow, -Nat.reducePow, cC, pv, binv, sLay1, undef, g3]; rfl), fun w hw => ?_⟩
            exact ⟨by unfold Fd.err; rw [if_neg q1, if_neg q2, if_pos q3], hw.below⟩
          · have q3 := of_decide_eq_false ‹_›
            refine cv_skip ?_
            try simp only [blockQ, thenQ]
            refine hK _ _ ?_
            clear hK K
            refine cv_seq_k fun K hK => ?_
            refine cv_region_then rfl ?_
            simp -implicitDefEqProofs (disch := first | omega | decide) only [seval, -Int.reducePow, -Nat.reducePow, cC, pv, binv, sLay1, undef, g3]
            refine hK _ _ ?_
            clear hK K
            refine cv_ret ⟨_, (by simp -implicitDefEqProofs (disch := first | omega | decide) only [seval, -Int.reducePow, -Nat.reducePow, cC, pv, binv, sLay1, undef, g3]; rfl), fun w hw => ?_⟩
            exact ⟨by unfold Fd.err; rw [if_neg q1, if_neg q2, if_neg q3], hw.below⟩
set_option maxHeartbeats 2000000 in
theorem places_any (A : Option Addr) (n c : Nat) (fs : List Fd) (W : World) (hE : Sl W W.heap.size 2 A n c (cl fdc fs)) (hn : n ≤ 40) (hok : okFs fs) :
    Calls Try.prog 102 #[.slice A n c, .int .i64 (-1)] W fun e w' => e = .returned (.tuple #[.agg #[.int .i64 0, .int .i64 0, .int .i64 0], .int .i64 (sizeF fs)]) ∧ Below W.heap.size W w' := by
  have hln : fs.length = n := cl_row fdc_len (by omega) hE.len
  refine calls_cv2 (M := []) (n := 46) [.cell 4 131, .tmp 5] rfl Try.func102 rfl rfl (Nat.le_of_ble_eq_true rfl) (St.nil _ _) ?_
  refine cv_seq_k fun K hK => ?_
  refine cv_region_then rfl ?_
  simp -implicitDefEqProofs (disch := first | omega | decide) only [seval, -Int.reducePow, -Nat.reducePow, cC, pv, binv, sLay1, undef]
  intro b4 hb4
  refine hK _ _ ?_
  clear hK K
  refine cv_seq_k fun K hK => ?_
  refine cv_region_then rfl ?_
  simp -implicitDefEqProofs (disch := first | omega | decide) only [seval, -Int.reducePow, -Nat.reducePow, cC, pv, binv, sLay1, undef]
  intro b6 hb6 h6
  refine hK _ _ ?_
  clear hK K
  refine cv_seq_k fun K hK => ?_
  refine cv_region_then rfl ?_
  simp -implicitDefEqProofs (disch := first | omega | decide) only [seval, -Int.reducePow, -Nat.reducePow, cC, pv, binv, sLay1, undef]
  refine hK _ _ ?_
  clear hK K
  refine cv_seq_k fun K hK => ?_
  refine cv_seq_k fun K hK => ?_
  refine cv_region_then rfl ?_
  simp -implicitDefEqProofs (disch := first | omega | decide) only [seval, -Int.reducePow, -Nat.reducePow, cC, pv, binv, sLay1, undef]
  refine hK _ _ ?_
  clear hK K
  refine cv_gen fun G4 hG => ?_
  have g4_1 := congrFun hG 1
  have g4_4 := congrFun hG 4
  have g4_6 := congrFun hG 6
  have g4_7 := congrFun hG 7
  have g4_8 := congrFun hG 8
  have g4_13 := congrFun hG 13
  have g4_14 := congrFun hG 14
  have g4_15 := congrFun hG 15
  clear hG
  try simp -implicitDefEqProofs (disch := first | omega | decide) only [seval, -Int.reducePow, -Nat.reducePow, cC, pv, binv, sLay1, undef] at g4_1 g4_4 g4_6 g4_7 g4_8 g4_13 g4_14 g4_15
  have g4 := And.intro g4_1 (And.intro g4_4 (And.intro g4_6 (And.intro g4_7 (And.intro g4_8 (And.intro g4_13 (And.intro g4_14 g4_15))))))
  refine cv_block ?_
  refine cv_loop (fun F' L' => ∃ (k : Nat), F' 1 = G4 1 ∧ F' 4 = G4 4 ∧ F' 6 = G4 6 ∧ F' 7 = .int .i64 (lay (fs.take k)).1 ∧ F' 8 = .int .i64 (lay (fs.take k)).2 ∧ F' 13 = G4 13 ∧ F' 14 = G4 14 ∧ F' 15 = .int .i64 (k : Int) ∧ L' = [pBox b6, pBox b4] ∧ k ≤ n) (fun F' L' => 40 - (intOf (F' 15)).toNat) ?_ ?_
  · refine ⟨0, ?_⟩
    simp -implicitDefEqProofs (disch := first | omega | decide) only [seval, -Int.reducePow, -Nat.reducePow, cC, pv, binv, sLay1, undef, g4]
    exact ⟨rfl, rfl, by omega⟩
  · intro G5 L' hI
    obtain ⟨k, q1, q4, q6, q7, q8, q13, q14, q15, rfl, hk⟩ := hI
    have g5_1 := q1.trans g4_1
    have g5_4 := q4.trans g4_4
    have g5_6 := q6.trans g4_6
    have g5_7 := q7
    have g5_8 := q8
    have g5_13 := q13.trans g4_13
    have g5_14 := q14.trans g4_14
    have g5_15 := q15
    clear q1 q4 q6 q7 q8 q13 q14 q15
    have g5 := And.intro g5_1 (And.intro g5_4 (And.intro g5_6 (And.intro g5_7 (And.intro g5_8 (And.intro g5_13 (And.intro g5_14 g5_15))))))
    have hR := lay_rng (okFs_take hok k)
    rw [List.length_take, Nat.min_eq_left (by omega)] at hR
    refine cv_seq_k fun K hK => ?_
    refine cv_region_then rfl ?_
    simp -implicitDefEqProofs (disch := first | omega | decide) only [seval, -Int.reducePow, -Nat.reducePow, cC, pv, binv, sLay1, undef, g4, g5]
    refine hK _ _ ?_
    clear hK K
    refine cv_seq_k fun K hK => ?_
    refine cv_cond ?_
    simp -implicitDefEqProofs (disch := first | omega | decide) only [seval, -Int.reducePow, -Nat.reducePow, cC, pv, binv, sLay1, undef, g4, g5]
    refine ⟨fun hc => ?_, fun hc => ?_⟩
    · refine cv_skip ?_
      try simp only [blockQ, thenQ]
      have hlt : k < n := by simp at hc; omega
      obtain ⟨b0, off, rfl, hb0, -⟩ := hE.cells (by omega)
      obtain ⟨x, hx⟩ := some_of (l := fs) (i := k) (by omega)
      have hxe := hok x (List.mem_of_getElem? hx)
      have hxw := Fd.wid_rng hxe
      have hxa := Fd.ali_rng hxe
      have hu := upI_rng (n := (lay (fs.take k)).1) (a := x.ali) hR.1 hxa.1
      have hs := lay_take hx
      have hk1 : ¬ (k : Int) = -1 := by omega
      refine hK _ _ ?_
      clear hK K
      refine cv_seq_k fun K hK => ?_
      refine cv_block ?_
      refine cv_seq_k fun K hK => ?_
      refine cv_region_then rfl ?_
      simp -implicitDefEqProofs (disch := first | omega | decide) only [seval, -Int.reducePow, -Nat.reducePow, cC, pv, binv, sLay1, undef, g4, g5]
      refine ⟨_, hE.fld hx, fun tok htok => ?_⟩
      subst htok
      simp -implicitDefEqProofs (disch := first | omega | decide) only [seval, -Int.reducePow, -Nat.reducePow, cC, pv, binv, sLay1, undef, g4, g5]
      intro b10 hb10 h10
      refine hK _ _ ?_
      clear hK K
      refine cv_seq_k fun K hK => ?_
      refine cv_region_then rfl ?_
      simp -implicitDefEqProofs (disch := first | omega | decide) only [seval, -Int.reducePow, -Nat.reducePow, cC, pv, binv, sLay1, undef, g4, g5]
      refine callV_ret (fun w hw => alignment_any x w) ?_
      try simp -implicitDefEqProofs (disch := first | omega | decide) only [seval, -Int.reducePow, -Nat.reducePow, cC, pv, binv, sLay1, undef, g4, g5]
      refine hK _ _ ?_
      clear hK K
      refine cv_seq_k fun K hK => ?_
      refine cv_region_then rfl ?_
      simp -implicitDefEqProofs (disch := first | omega | decide) only [seval, -Int.reducePow, -Nat.reducePow, cC, pv, binv, sLay1, undef, g4, g5]
      refine callV_ret (fun w hw => up_any _ _ w (by omega) (by omega)) ?_
      try simp -implicitDefEqProofs (disch := first | omega | decide) only [seval, -Int.reducePow, -Nat.reducePow, cC, pv, binv, sLay1, undef, g4, g5]
      refine hK _ _ ?_
      clear hK K
      refine cv_seq_k fun K hK => ?_
      refine cv_region_then rfl ?_
      simp -implicitDefEqProofs (disch := first | omega | decide) only [seval, -Int.reducePow, -Nat.reducePow, cC, pv, binv, sLay1, undef, wrap_in, g4, g5]
      refine callV_ret (fun w hw => width_any x w) ?_
      try simp -implicitDefEqProofs (disch := first | omega | decide) only [seval, -Int.reducePow, -Nat.reducePow, cC, pv, binv, sLay1, undef, wrap_in, g4, g5]
      refine hK _ _ ?_
      clear hK K
      refine cv_seq_k fun K hK => ?_
      refine cv_region_then rfl ?_
      simp -implicitDefEqProofs (disch := first | omega | decide) only [seval, -Int.reducePow, -Nat.reducePow, cC, pv, binv, sLay1, undef, g4, g5]
      refine hK _ _ ?_
      clear hK K
      refine cv_seq_k fun K hK => ?_
      refine cv_region_then rfl ?_
      simp -implicitDefEqProofs (disch := first | omega | decide) only [seval, -Int.reducePow, -Nat.reducePow, cC, pv, binv, sLay1, undef, hk1, g4, g5]
      refine hK _ _ ?_
      clear hK K
      refine cv_cond ?_
      simp -implicitDefEqProofs (disch := first | omega | decide) only [seval, -Int.reducePow, -Nat.reducePow, cC, pv, binv, sLay1, undef, g4, g5]
      refine cv_skip ?_
      try simp only [blockQ, thenQ]
      refine hK _ _ ?_
      clear hK K
      refine cv_pick [1, 2] (by decide) ?_
      simp only [pickL, nth]
      refine cv_region_then rfl ?_
      simp -implicitDefEqProofs (disch := first | omega | decide) only [seval, -Int.reducePow, -Nat.reducePow, cC, pv, binv, sLay1, undef, wrap_in, g4, g5]
      refine ⟨⟨k + 1, ?_⟩, ?_⟩
      · simp -implicitDefEqProofs (disch := first | omega | decide) only [seval, -Int.reducePow, -Nat.reducePow, cC, pv, binv, sLay1, undef, Int.natCast_add, hs, layS, g4, g5]
        omega
      · simp only [intOf]; omega
    · refine cv_exit ?_
      simp only [blockQ, thenQ, if_true, ite_true]
      clear hK K
      refine hK _ _ ?_
      clear hK K
      obtain rfl : n = k := by simp at hc; omega
      rw [List.take_of_length_le (by omega)] at *
      refine cv_seq_k fun K hK => ?_
      refine cv_draw [(true, 0), (true, 1), (true, 2), (false, 3), (false, 4), (true, 5)] [] mixA rfl (by kernel_rfl) (by kernel_rfl) rfl rfl ?_
      simp -implicitDefEqProofs (disch := first | omega | decide) only [seval, -Int.reducePow, -Nat.reducePow, cC, pv, binv, sLay1, undef, g4, g5]
      refine callV_ret (fun w hw => up_any _ _ w (by omega) (by omega)) ?_
      try simp -implicitDefEqProofs (disch := first | omega | decide) only [seval, -Int.reducePow, -Nat.reducePow, cC, pv, binv, sLay1, undef, g4, g5]
      refine hK _ _ ?_
      clear hK K
      refine cv_ret ?_
      simp -implicitDefEqProofs (disch := first | omega | decide) only [seval, -Int.reducePow, -Nat.reducePow, cC, pv, binv, sLay1, undef, retQ2, ressV, packV, g4, g5]
      intro w hw
      exact ⟨rfl, hw.below⟩
set_option maxHeartbeats 2000000 in
theorem size_any (A : Option Addr) (n c : Nat) (fs : List Fd) (len : Int) (W : World) (hE : Sl W W.heap.size 2 A n c (cl fdc fs)) (hn : n ≤ 40) (hok : okFs fs) (h0 : 0 ≤ len ∧ len ≤ 65536) (h1 : 0 < len → n = 1) :
    Calls Try.prog 92 #[tyV len A n c] W fun e w' => e = .returned (.int .i64 (sizeT len fs)) ∧ Below W.heap.size W w' := by
  have hln : fs.length = n := cl_row fdc_len (by omega) hE.len
  refine calls_cv (M := []) (n := 23) [.tmp 2] rfl Try.func92 rfl rfl (Nat.le_of_ble_eq_true rfl) (St.nil _ _) ?_
  refine cv_seq_k fun K hK => ?_
  refine cv_region_then rfl ?_
  simp -implicitDefEqProofs (disch := first | omega | decide) only [seval, -Int.reducePow, -Nat.reducePow, cC, pv, binv, sLay1, undef]
  intro b hb
  refine hK _ _ ?_
  clear hK K
  refine cv_seq_k fun K hK => ?_
  refine cv_seq_k fun K hK => ?_
  refine cv_region_then rfl ?_
  simp -implicitDefEqProofs (disch := first | omega | decide) only [seval, -Int.reducePow, -Nat.reducePow, cC, pv, binv, sLay1, undef]
  refine hK _ _ ?_
  clear hK K
  refine cv_cond ?_
  simp -implicitDefEqProofs (disch := first | omega | decide) only [seval, -Int.reducePow, -Nat.reducePow, cC, pv, binv, sLay1, undef]
  refine ⟨fun hc => ?_, fun hc => ?_⟩
  · have hl : 0 < len := of_decide_eq_true hc
    have hn1 := h1 hl
    subst hn1
    obtain ⟨b0, off, rfl, hb0, -⟩ := hE.cells (by omega)
    obtain ⟨x, hx⟩ := some_of (l := fs) (i := 0) (by omega)
    have hhd : fs.headD ⟨0, 0⟩ = x := by
      cases fs with
      | nil => simp at hx
      | cons y r => simpa using hx
    have hxw := Fd.wid_rng (hok x (List.mem_of_getElem? hx))
    have hm := mul_small h0.1 h0.2 (show 0 ≤ x.wid by omega) hxw.2
    have hx0 := hE.fld (L := [tBox b len (some ⟨b0, off, none⟩) 1 c]) hx
    simp only [Nat.zero_mul, Nat.add_zero, tBox] at hx0
    refine cv_seq_k fun K hK => ?_
    refine cv_draw [(true, 0), (true, 1), (true, 2), (true, 3), (true, 4), (true, 5), (false, 6), (true, 7), (true, 8)] [] mixA rfl (by kernel_rfl) (by kernel_rfl) rfl rfl ?_
    simp -implicitDefEqProofs (disch := first | omega | decide) only [seval, -Int.reducePow, -Nat.reducePow, cC, pv, binv, sLay1, undef, Nat.zero_mul]
    refine ⟨_, hx0, fun tok htok => ?_⟩
    subst htok
    simp -implicitDefEqProofs (disch := first | omega | decide) only [seval, -Int.reducePow, -Nat.reducePow, cC, pv, binv, sLay1, undef, Nat.zero_mul]
    refine callV_ret (fun w hw => width_any x w) ?_
    try simp -implicitDefEqProofs (disch := first | omega | decide) only [seval, -Int.reducePow, -Nat.reducePow, cC, pv, binv, sLay1, undef, wrap_in]
    refine hK _ _ ?_
    clear hK K
    refine cv_ret ⟨_, (by simp -implicitDefEqProofs (disch := first | omega | decide) only [seval, -Int.reducePow, -Nat.reducePow, cC, pv, binv, sLay1, undef]; rfl), fun w hw => ?_⟩
    exact ⟨by unfold sizeT; rw [if_pos hl, hhd], hw.below⟩
  · have hl : ¬ 0 < len := of_decide_eq_false hc
    refine cv_skip ?_
    try simp only [blockQ, thenQ]
    refine hK _ _ ?_
    clear hK K
    refine cv_seq_k fun K hK => ?_
    refine cv_region_then rfl ?_
    simp -implicitDefEqProofs (disch := first | omega | decide) only [seval, -Int.reducePow, -Nat.reducePow, cC, pv, binv, sLay1, undef]
    refine callV_ret (fun w hw => places_any A n c fs w (hE.at hw) hn hok) ?_
    try simp -implicitDefEqProofs (disch := first | omega | decide) only [seval, -Int.reducePow, -Nat.reducePow, cC, pv, binv, sLay1, undef]
    intro b3 hb3 h3
    refine hK _ _ ?_
    clear hK K
    refine cv_seq_k fun K hK => ?_
    refine cv_region_then rfl ?_
    simp -implicitDefEqProofs (disch := first | omega | decide) only [seval, -Int.reducePow, -Nat.reducePow, cC, pv, binv, sLay1, undef]
    refine hK _ _ ?_
    clear hK K
    refine cv_ret ⟨_, (by simp -implicitDefEqProofs (disch := first | omega | decide) only [seval, -Int.reducePow, -Nat.reducePow, cC, pv, binv, sLay1, undef]; rfl), fun w hw => ?_⟩
    exact ⟨by unfold sizeT; rw [if_neg hl], hw.below⟩
set_option maxHeartbeats 2000000 in
theorem check_any (A : Option Addr) (n c : Nat) (fs : List Fd) (len : Int) (W : World) (hE : Sl W W.heap.size 2 A n c (cl fdc fs)) :
    Calls Try.prog 76 #[tyV len A n c] W fun e w' => e = .returned (.int .i64 (chk len fs)) ∧ Below W.heap.size W w' := by
  have hln : fs.length = n := cl_row fdc_len (by omega) hE.len
  refine calls_cv (M := []) (n := 56) [.tmp 2] rfl Try.func76 rfl rfl (Nat.le_of_ble_eq_true rfl) (St.nil _ _) ?_
  refine cv_seq_k fun K hK => ?_
  refine cv_region_then rfl ?_
  simp -implicitDefEqProofs (disch := first | omega | decide) only [seval, -Int.reducePow, -Nat.reducePow, cC, pv, binv, sLay1, undef]
  intro b hb
  refine hK _ _ ?_
  clear hK K
  refine cv_gen fun G6 hG => ?_
  have g6_1 := congrFun hG 1
  clear hG
  try simp -implicitDefEqProofs (disch := first | omega | decide) only [seval, -Int.reducePow, -Nat.reducePow, cC, pv, binv, sLay1, undef] at g6_1
  have g6 := g6_1
  refine cv_seq_k fun K hK => ?_
  refine cv_block ?_
  refine cv_seq_k fun K hK => ?_
  refine cv_region_then rfl ?_
  simp -implicitDefEqProofs (disch := first | omega | decide) only [seval, -Int.reducePow, -Nat.reducePow, cC, pv, binv, sLay1, undef, g6]
  refine hK _ _ ?_
  clear hK K
  refine cv_cond ?_
  simp -implicitDefEqProofs (disch := first | omega | decide) only [seval, -Int.reducePow, -Nat.reducePow, cC, pv, binv, sLay1, undef, g6]
  refine ⟨fun hc => ?_, fun hc => ?_⟩
  · refine cv_seq_k fun K hK => ?_
    refine cv_region_then rfl ?_
    simp -implicitDefEqProofs (disch := first | omega | decide) only [seval, -Int.reducePow, -Nat.reducePow, cC, pv, binv, sLay1, undef, g6]
    refine hK _ _ ?_
    clear hK K
    refine cv_ret ⟨_, (by simp -implicitDefEqProofs (disch := first | omega | decide) only [seval, -Int.reducePow, -Nat.reducePow, cC, pv, binv, sLay1, undef, g6]; rfl), fun w hw => ?_⟩
    exact ⟨by unfold chk; rw [if_pos (of_decide_eq_true hc)], hw.below⟩
  · have q1 := of_decide_eq_false hc
    refine cv_seq_k fun K hK => ?_
    refine cv_region_then rfl ?_
    simp -implicitDefEqProofs (disch := first | omega | decide) only [seval, -Int.reducePow, -Nat.reducePow, cC, pv, binv, sLay1, undef, g6]
    refine hK _ _ ?_
    clear hK K
    refine cv_cond ?_
    simp -implicitDefEqProofs (disch := first | omega | decide) only [seval, -Int.reducePow, -Nat.reducePow, cC, pv, binv, sLay1, undef, g6]
    refine ⟨fun hc => ?_, fun hc => ?_⟩
    · refine cv_seq_k fun K hK => ?_
      refine cv_region_then rfl ?_
      simp -implicitDefEqProofs (disch := first | omega | decide) only [seval, -Int.reducePow, -Nat.reducePow, cC, pv, binv, sLay1, undef, g6]
      refine hK _ _ ?_
      clear hK K
      refine cv_ret ⟨_, (by simp -implicitDefEqProofs (disch := first | omega | decide) only [seval, -Int.reducePow, -Nat.reducePow, cC, pv, binv, sLay1, undef, g6]; rfl), fun w hw => ?_⟩
      exact ⟨by unfold chk; rw [if_neg q1, if_pos (of_decide_eq_true ‹_›)], hw.below⟩
    · have q2 := of_decide_eq_false ‹_›
      refine cv_gen fun G7 hG => ?_
      have g7_1 := congrFun hG 1
      clear hG
      try simp -implicitDefEqProofs (disch := first | omega | decide) only [seval, -Int.reducePow, -Nat.reducePow, cC, pv, binv, sLay1, undef, g6] at g7_1
      have g7 := g7_1
      refine cv_seq_k fun K hK => ?_
      refine cv_cut (fun _ _ => True) (fun F' L' => F' 1 = G7 1 ∧ F' 14 = .bool (decide ((len = 0 ∧ fs.length = 0) ∨ (0 < len ∧ ¬ fs.length = 1))) ∧ L' = [tBox b len A n c]) ?_ ?_
      · refine cv_region_then rfl ?_
        simp -implicitDefEqProofs (disch := first | omega | decide) only [seval, -Int.reducePow, -Nat.reducePow, cC, pv, binv, sLay1, undef, g7]
        repeat' ((first | refine vcg_cases (fun hg => ?_) (fun hg => ?_) | refine vdg_cases (fun hg => ?_) (fun hg => ?_)) <;> ((try simp only [Bool.not_eq_true', Bool.not_eq_false', decide_eq_true_eq, decide_eq_false_iff_not] at hg); (try simp -implicitDefEqProofs (disch := first | omega | decide) only [seval, -Int.reducePow, -Nat.reducePow, cC, pv, binv, sLay1, undef, hg, g7])))
        all_goals (repeat' refine And.intro ?_ ?_)
        all_goals (first | with_reducible rfl | (refine congrArg Value.bool ?_; rw [Bool.eq_iff_iff]; (try simp only [decide_eq_true_eq, eq_self, true_and, and_true, false_and, and_false, true_or, or_true, false_or, or_false, not_true_eq_false, not_false_eq_true, true_iff, iff_true, false_iff, iff_false, Bool.false_eq_true, Bool.not_eq_true', Bool.not_eq_true, decide_eq_false_iff_not, Bool.and_eq_true, Bool.or_eq_true]) <;> omega) | (refine congrArg (Value.int _) ?_; omega) | omega)
      · intro G8 L' _ hF
        obtain ⟨q1, q14, rfl⟩ := hF
        have g8_1 := q1.trans g7_1
        have g8_14 := q14
        clear q1 q14
        have g8 := And.intro g8_1 g8_14
        refine hK _ _ ?_
        clear hK K
        refine cv_cond ?_
        simp -implicitDefEqProofs (disch := first | omega | decide) only [seval, -Int.reducePow, -Nat.reducePow, cC, pv, binv, sLay1, undef, g8]
        refine ⟨fun hc => ?_, fun hc => ?_⟩
        · refine cv_seq_k fun K hK => ?_
          refine cv_region_then rfl ?_
          simp -implicitDefEqProofs (disch := first | omega | decide) only [seval, -Int.reducePow, -Nat.reducePow, cC, pv, binv, sLay1, undef, g8]
          refine hK _ _ ?_
          clear hK K
          refine cv_ret ⟨_, (by simp -implicitDefEqProofs (disch := first | omega | decide) only [seval, -Int.reducePow, -Nat.reducePow, cC, pv, binv, sLay1, undef, g8]; rfl), fun w hw => ?_⟩
          exact ⟨by unfold chk; rw [if_neg q1, if_neg q2, if_pos (of_decide_eq_true ‹_›)], hw.below⟩
        · have q3 := of_decide_eq_false ‹_›
          refine cv_seq_k fun K hK => ?_
          refine cv_region_then rfl ?_
          simp -implicitDefEqProofs (disch := first | omega | decide) only [seval, -Int.reducePow, -Nat.reducePow, cC, pv, binv, sLay1, undef, g8]
          refine hK _ _ ?_
          clear hK K
          refine cv_cond ?_
          simp -implicitDefEqProofs (disch := first | omega | decide) only [seval, -Int.reducePow, -Nat.reducePow, cC, pv, binv, sLay1, undef, g8]
          refine ⟨fun hc => ?_, fun hc => ?_⟩
          · have q4 : 32 < fs.length := by have := of_decide_eq_true ‹_›; omega
            refine cv_seq_k fun K hK => ?_
            refine cv_region_then rfl ?_
            simp -implicitDefEqProofs (disch := first | omega | decide) only [seval, -Int.reducePow, -Nat.reducePow, cC, pv, binv, sLay1, undef, g8]
            refine hK _ _ ?_
            clear hK K
            refine cv_ret ⟨_, (by simp -implicitDefEqProofs (disch := first | omega | decide) only [seval, -Int.reducePow, -Nat.reducePow, cC, pv, binv, sLay1, undef, g8]; rfl), fun w hw => ?_⟩
            exact ⟨by unfold chk; rw [if_neg q1, if_neg q2, if_neg q3, if_pos q4], hw.below⟩
          · have q4 : ¬ 32 < fs.length := by have := of_decide_eq_false ‹_›; omega
            refine cv_skip ?_
            try simp only [blockQ, thenQ]
            refine hK _ _ ?_
            clear hK K
            refine cv_seq_k fun K hK => ?_
            refine cv_seq_k fun K hK => ?_
            refine cv_region_then rfl ?_
            simp -implicitDefEqProofs (disch := first | omega | decide) only [seval, -Int.reducePow, -Nat.reducePow, cC, pv, binv, sLay1, undef, g8]
            refine hK _ _ ?_
            clear hK K
            refine cv_gen fun G9 hG => ?_
            have g9_1 := congrFun hG 1
            have g9_41 := congrFun hG 41
            have g9_42 := congrFun hG 42
            have g9_43 := congrFun hG 43
            clear hG
            try simp -implicitDefEqProofs (disch := first | omega | decide) only [seval, -Int.reducePow, -Nat.reducePow, cC, pv, binv, sLay1, undef, g8] at g9_1 g9_41 g9_42 g9_43
            have g9 := And.intro g9_1 (And.intro g9_41 (And.intro g9_42 g9_43))
            refine cv_block ?_
            refine cv_loop (fun F' L' => ∃ (k : Nat), F' 1 = G9 1 ∧ F' 41 = G9 41 ∧ F' 42 = G9 42 ∧ F' 43 = .int .i64 (k : Int) ∧ L' = [tBox b len A n c] ∧ k ≤ n ∧ firstErr fs = firstErr (fs.drop k)) (fun F' L' => 40 - (intOf (F' 43)).toNat) ?_ ?_
            · refine ⟨0, ?_⟩
              simp -implicitDefEqProofs (disch := first | omega | decide) only [seval, -Int.reducePow, -Nat.reducePow, cC, pv, binv, sLay1, undef, g9]
              omega
            · intro G10 L' hI
              obtain ⟨k, q1, q41, q42, q43, rfl, ⟨hk, hf⟩⟩ := hI
              have g10_1 := q1.trans g9_1
              have g10_41 := q41.trans g9_41
              have g10_42 := q42.trans g9_42
              have g10_43 := q43
              clear q1 q41 q42 q43
              have g10 := And.intro g10_1 (And.intro g10_41 (And.intro g10_42 g10_43))
              refine cv_seq_k fun K hK => ?_
              refine cv_region_then rfl ?_
              simp -implicitDefEqProofs (disch := first | omega | decide) only [seval, -Int.reducePow, -Nat.reducePow, cC, pv, binv, sLay1, undef, g9, g10]
              refine hK _ _ ?_
              clear hK K
              refine cv_seq_k fun K hK => ?_
              refine cv_cond ?_
              simp -implicitDefEqProofs (disch := first | omega | decide) only [seval, -Int.reducePow, -Nat.reducePow, cC, pv, binv, sLay1, undef, g9, g10]
              refine ⟨fun hc => ?_, fun hc => ?_⟩
              · refine cv_skip ?_
                try simp only [blockQ, thenQ]
                have hlt : k < n := by have := of_decide_eq_true ‹_›; omega
                obtain ⟨b0, off, rfl, hb0, -⟩ := hE.cells (by omega)
                obtain ⟨x, hx⟩ := some_of (l := fs) (i := k) (by omega)
                obtain ⟨hkl, hxk⟩ := List.getElem?_eq_some_iff.1 hx
                rw [List.drop_eq_getElem_cons hkl, hxk] at hf
                refine hK _ _ ?_
                clear hK K
                refine cv_seq_k fun K hK => ?_
                refine cv_block ?_
                refine cv_seq_k fun K hK => ?_
                refine cv_region_then rfl ?_
                simp -implicitDefEqProofs (disch := first | omega | decide) only [seval, -Int.reducePow, -Nat.reducePow, cC, pv, binv, sLay1, undef, g9, g10]
                refine ⟨_, hE.fld hx, fun tok htok => ?_⟩
                subst htok
                simp -implicitDefEqProofs (disch := first | omega | decide) only [seval, -Int.reducePow, -Nat.reducePow, cC, pv, binv, sLay1, undef, g9, g10]
                intro b4 hb4 h4
                refine hK _ _ ?_
                clear hK K
                refine cv_seq_k fun K hK => ?_
                refine cv_region_then rfl ?_
                simp -implicitDefEqProofs (disch := first | omega | decide) only [seval, -Int.reducePow, -Nat.reducePow, cC, pv, binv, sLay1, undef, g9, g10]
                refine callV_ret (fun w hw => checkField_any x w) ?_
                try simp -implicitDefEqProofs (disch := first | omega | decide) only [seval, -Int.reducePow, -Nat.reducePow, cC, pv, binv, sLay1, undef, g9, g10]
                refine hK _ _ ?_
                clear hK K
                refine cv_seq_k fun K hK => ?_
                refine cv_region_then rfl ?_
                simp -implicitDefEqProofs (disch := first | omega | decide) only [seval, -Int.reducePow, -Nat.reducePow, cC, pv, binv, sLay1, undef, g9, g10]
                refine hK _ _ ?_
                clear hK K
                refine cv_cond ?_
                simp -implicitDefEqProofs (disch := first | omega | decide) only [seval, -Int.reducePow, -Nat.reducePow, cC, pv, binv, sLay1, undef, g9, g10]
                refine ⟨fun hc => ?_, fun hc => ?_⟩
                · have q5 : ¬ x.err = 0 := by simpa using ‹(!decide (x.err = 0)) = true›
                  refine cv_seq_k fun K hK => ?_
                  refine cv_region_then rfl ?_
                  simp -implicitDefEqProofs (disch := first | omega | decide) only [seval, -Int.reducePow, -Nat.reducePow, cC, pv, binv, sLay1, undef, g9, g10]
                  refine hK _ _ ?_
                  clear hK K
                  refine cv_ret ⟨_, (by simp -implicitDefEqProofs (disch := first | omega | decide) only [seval, -Int.reducePow, -Nat.reducePow, cC, pv, binv, sLay1, undef, g9, g10]; rfl), fun w hw => ?_⟩
                  rw [firstErr_no _ q5] at hf
                  exact ⟨by unfold chk; rw [if_neg q1, if_neg q2, if_neg q3, if_neg q4, if_pos (by rw [hf]; exact q5), hf], hw.below⟩
                · have q5 : x.err = 0 := by simpa using ‹(!decide (x.err = 0)) = false›
                  refine cv_skip ?_
                  try simp only [blockQ, thenQ]
                  rw [firstErr_yes _ q5] at hf
                  refine hK _ _ ?_
                  clear hK K
                  refine cv_pick [1] (by decide) ?_
                  simp only [pickL, nth]
                  refine cv_region_then rfl ?_
                  simp -implicitDefEqProofs (disch := first | omega | decide) only [seval, -Int.reducePow, -Nat.reducePow, cC, pv, binv, sLay1, undef, wrap_in, g9, g10]
                  refine ⟨⟨k + 1, ?_⟩, ?_⟩
                  · simp -implicitDefEqProofs (disch := first | omega | decide) only [seval, -Int.reducePow, -Nat.reducePow, cC, pv, binv, sLay1, undef, Int.natCast_add, g9, g10]
                    exact ⟨by omega, hf⟩
                  · simp only [intOf]; omega
              · refine cv_exit ?_
                simp only [blockQ, thenQ, if_true, ite_true]
                clear hK K
                refine hK _ _ ?_
                clear hK K
                obtain rfl : n = k := by have := of_decide_eq_false ‹_›; omega
                rw [List.drop_of_length_le (by omega)] at hf
                have hok := firstErr_zero hf
                have q5 : ¬ ¬ firstErr fs = 0 := by rw [hf]; simp [firstErr]
                refine cv_seq_k fun K hK => ?_
                refine cv_seq_k fun K hK => ?_
                refine cv_region_then rfl ?_
                simp -implicitDefEqProofs (disch := first | omega | decide) only [seval, -Int.reducePow, -Nat.reducePow, cC, pv, binv, sLay1, undef, g9, g10]
                refine callV_ret (fun w hw => size_any A n c fs len w (hE.at hw) (by omega) hok (by omega) (by omega)) ?_
                try simp -implicitDefEqProofs (disch := first | omega | decide) only [seval, -Int.reducePow, -Nat.reducePow, cC, pv, binv, sLay1, undef, g9, g10]
                refine hK _ _ ?_
                clear hK K
                refine cv_cond ?_
                simp -implicitDefEqProofs (disch := first | omega | decide) only [seval, -Int.reducePow, -Nat.reducePow, cC, pv, binv, sLay1, undef, g9, g10]
                refine ⟨fun hc => ?_, fun hc => ?_⟩
                · refine cv_seq_k fun K hK => ?_
                  refine cv_region_then rfl ?_
                  simp -implicitDefEqProofs (disch := first | omega | decide) only [seval, -Int.reducePow, -Nat.reducePow, cC, pv, binv, sLay1, undef, g9, g10]
                  refine hK _ _ ?_
                  clear hK K
                  refine cv_ret ⟨_, (by simp -implicitDefEqProofs (disch := first | omega | decide) only [seval, -Int.reducePow, -Nat.reducePow, cC, pv, binv, sLay1, undef, g9, g10]; rfl), fun w hw => ?_⟩
                  exact ⟨by unfold chk; rw [if_neg q1, if_neg q2, if_neg q3, if_neg q4, if_neg q5, if_pos (of_decide_eq_true ‹_›)], hw.below⟩
                · refine cv_skip ?_
                  try simp only [blockQ, thenQ]
                  refine hK _ _ ?_
                  clear hK K
                  refine cv_seq_k fun K hK => ?_
                  refine cv_region_then rfl ?_
                  simp -implicitDefEqProofs (disch := first | omega | decide) only [seval, -Int.reducePow, -Nat.reducePow, cC, pv, binv, sLay1, undef, g9, g10]
                  refine hK _ _ ?_
                  clear hK K
                  refine cv_ret ⟨_, (by simp -implicitDefEqProofs (disch := first | omega | decide) only [seval, -Int.reducePow, -Nat.reducePow, cC, pv, binv, sLay1, undef, g9, g10]; rfl), fun w hw => ?_⟩
                  exact ⟨by unfold chk; rw [if_neg q1, if_neg q2, if_neg q3, if_neg q4, if_neg q5, if_neg (of_decide_eq_false ‹_›)], hw.below⟩
end Go.Proofs.Ytlbmnioibiomfaa
