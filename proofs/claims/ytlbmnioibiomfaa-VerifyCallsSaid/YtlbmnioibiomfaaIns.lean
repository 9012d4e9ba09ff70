/- Instructions: known, HasArg, Check, Encode, Decode, in both packages. -/
import Derived.Test.YtlbmnioibiomfaaEng9
import Derived.Test.YtlbmnioibiomfaaWPlain
namespace Go.Proofs.Ytlbmnioibiomfaa
open Go.RowKit Go.Shelf
set_option linter.unusedVariables false
set_option linter.unusedSimpArgs false
set_option maxRecDepth 100000
structure Ins where
  op : Int
  arg : Nat
  deriving DecidableEq
def insc (i : Ins) : List Value := [.int .i64 i.op, .int .u64 (i.arg : Int)]
def insV (i : Ins) : Value := .agg #[.int .i64 i.op, .int .u64 (i.arg : Int)]
def iBox (b : Nat) (i : Ins) : Res := .blk b 55 [.int .i64 i.op, .int .u64 (i.arg : Int)]
theorem insc_len (i : Ins) : (insc i).length = 2 := rfl
theorem insc_ones (i : Ins) : ones (insc i) = true := rfl
abbrev knownP (op : Int) : Prop := 1 ≤ op ∧ op ≤ 25
abbrev argP (op : Int) : Prop := op = 1 ∨ op = 2 ∨ op = 3 ∨ op = 19 ∨ op = 20 ∨ op = 21 ∨ op = 23
namespace Ins
def err (i : Ins) : Int := if ¬ knownP i.op then 22 else if ¬ argP i.op ∧ ¬ i.arg = 0 then 1 else 0
theorem err_zero {i : Ins} (h : i.err = 0) : knownP i.op ∧ (¬ argP i.op → i.arg = 0) := by
  unfold err at h
  split at h
  · cases h
  split at h
  · cases h
  exact ⟨by omega, by omega⟩
end Ins
def encI (i : Ins) : List Nat := i.op.toNat :: (if argP i.op then putU i.arg else [])
def encIE (i : Ins) : List Nat := if i.err = 0 then encI i else []
/-- The instruction that bytes begin with: it, its bytes, the error. -/
def decI : List Nat → Ins × Nat × Int
  | [] => (⟨0, 0⟩, 0, 2)
  | c :: r => if ¬ knownP (c : Int) then (⟨0, 0⟩, 0, 22) else if ¬ argP (c : Int) then (⟨(c : Int), 0⟩, 1, 0) else
      if (uD 0 r).2.2 = 0 then (⟨(c : Int), (uD 0 r).1⟩, 1 + (uD 0 r).2.1, 0) else (⟨0, 0⟩, 0, (uD 0 r).2.2)
theorem decI_cons (c : Nat) (r : List Nat) : decI (c :: r) = if ¬ knownP (c : Int) then (⟨0, 0⟩, 0, 22) else if ¬ argP (c : Int) then (⟨(c : Int), 0⟩, 1, 0) else
      if (uD 0 r).2.2 = 0 then (⟨(c : Int), (uD 0 r).1⟩, 1 + (uD 0 r).2.1, 0) else (⟨0, 0⟩, 0, (uD 0 r).2.2) := rfl
theorem nd_true {p : Prop} [Decidable p] (h : (!decide p) = true) : ¬ p := by simpa using h
theorem nd_false {p : Prop} [Decidable p] (h : (!decide p) = false) : ¬ ¬ p := by simpa using h
section
variable {W w : World} {L : List Res} {n c : Nat} {A : Option Addr} {is : List Ins}
theorem Sl.ins {b off k : Nat} {x : Ins} (h : Sl W W.heap.size 2 (some ⟨b, off, none⟩) n c (cl insc is)) (hx : is[k]? = some x) : LD Try.prog [] W L 55 ⟨b, off + k * 2, none⟩ (.agg #[.int .i64 x.op, .int .u64 (x.arg : Int)]) :=
  h.ld (vs := insc x) (by
    have := cl_row insc_len (by omega) h.len
    have := (List.getElem?_eq_some_iff.1 hx).1
    omega) (by kernel_rfl) (cl_at insc_len hx)
end
set_option maxRecDepth 100000 in
theorem sIns1 : type_of% (And.intro (And.intro @iBox.eq_1 @insV.eq_1) (And.intro @uV.eq_1 @Nat.mul_one)) := (And.intro (And.intro @iBox.eq_1 @insV.eq_1) (And.intro @uV.eq_1 @Nat.mul_one))
theorem i_known_any (op : Int) (W : World) : Calls Try.prog 77 #[.int .i64 op] W fun e w' => e = .returned (.bool (decide (knownP op))) ∧ Below W.heap.size W w' := by
  refine calls_cv (M := []) (n := 9) [.tmp 2] rfl Try.func77 rfl rfl (Nat.le_of_ble_eq_true rfl) (St.nil _ _) ?_
  refine cv_seq_k fun K hK => ?_
  refine cv_region_then rfl ?_
  simp -implicitDefEqProofs (disch := first | omega | decide) only [seval, -Int.reducePow, -Nat.reducePow, cC, pv, binv, sIns1, undef]
  refine hK _ _ ?_
  clear hK K
  refine cv_gen fun G1 hG => ?_
  have g1_0 := congrFun hG 0
  clear hG
  try simp -implicitDefEqProofs (disch := first | omega | decide) only [seval, -Int.reducePow, -Nat.reducePow, cC, pv, binv, sIns1, undef] at g1_0
  have g1 := g1_0
  refine cv_seq_k fun K hK => ?_
  refine cv_cut (fun _ _ => True) (fun F' L' => F' 2 = .bool (decide (knownP op)) ∧ L' = []) ?_ ?_
  · refine cv_region_then rfl ?_
    simp -implicitDefEqProofs (disch := first | omega | decide) only [seval, -Int.reducePow, -Nat.reducePow, cC, pv, binv, sIns1, undef, g1]
    repeat' ((first | refine vcg_cases (fun hg => ?_) (fun hg => ?_) | refine vdg_cases (fun hg => ?_) (fun hg => ?_)) <;> ((try simp only [Bool.not_eq_true', Bool.not_eq_false', decide_eq_true_eq, decide_eq_false_iff_not] at hg); (try simp -implicitDefEqProofs (disch := first | omega | decide) only [seval, -Int.reducePow, -Nat.reducePow, cC, pv, binv, sIns1, undef, hg, g1])))
    all_goals (repeat' refine And.intro ?_ ?_)
    all_goals (first | with_reducible rfl | (refine congrArg Value.bool ?_; rw [Bool.eq_iff_iff]; (try simp only [knownP, decide_eq_true_eq, eq_self, true_and, and_true, false_and, and_false, true_or, or_true, false_or, or_false, not_true_eq_false, not_false_eq_true, true_iff, iff_true, false_iff, iff_false, Bool.false_eq_true, Bool.not_eq_true', Bool.not_eq_true, decide_eq_false_iff_not, Bool.and_eq_true, Bool.or_eq_true]) <;> omega) | (refine congrArg (Value.int _) ?_; omega) | omega)
  intro G2 L' _ hF
  obtain ⟨q2, rfl⟩ := hF
  have g2_2 := q2
  clear q2
  have g2 := g2_2
  refine hK _ _ ?_
  clear hK K
  refine cv_ret ⟨_, (by simp -implicitDefEqProofs (disch := first | omega | decide) only [seval, -Int.reducePow, -Nat.reducePow, cC, pv, binv, sIns1, undef, g2]; rfl), fun w hw => ?_⟩
  exact ⟨rfl, hw.below⟩
theorem i_hasArg_any (op : Int) (W : World) : Calls Try.prog 78 #[.int .i64 op] W fun e w' => e = .returned (.bool (decide (argP op))) ∧ Below W.heap.size W w' := by
  refine calls_cv (M := []) (n := 12) [.tmp 2] rfl Try.func78 rfl rfl (Nat.le_of_ble_eq_true rfl) (St.nil _ _) ?_
  refine cv_seq_k fun K hK => ?_
  refine cv_region_then rfl ?_
  simp -implicitDefEqProofs (disch := first | omega | decide) only [seval, -Int.reducePow, -Nat.reducePow, cC, pv, binv, sIns1, undef]
  refine hK _ _ ?_
  clear hK K
  refine cv_seq_k fun K hK => ?_
  refine cv_seq_k fun K hK => ?_
  refine cv_region_then rfl ?_
  simp -implicitDefEqProofs (disch := first | omega | decide) only [seval, -Int.reducePow, -Nat.reducePow, cC, pv, binv, sIns1, undef]
  refine hK _ _ ?_
  clear hK K
  refine cv_gen fun G3 hG => ?_
  have g3_3 := congrFun hG 3
  clear hG
  try simp -implicitDefEqProofs (disch := first | omega | decide) only [seval, -Int.reducePow, -Nat.reducePow, cC, pv, binv, sIns1, undef] at g3_3
  have g3 := g3_3
  refine cv_block ?_
  refine cv_seq_k fun K hK => ?_
  refine cv_cut (fun _ _ => True) (fun F' L' => F' 3 = G3 3 ∧ F' 4 = .bool (decide (op = 1 ∨ op = 2 ∨ op = 3 ∨ op = 19 ∨ op = 20 ∨ op = 21 ∨ op = 23)) ∧ L' = []) ?_ ?_
  · refine cv_seq_k fun K hK => ?_
    refine cv_region_then rfl ?_
    simp -implicitDefEqProofs (disch := first | omega | decide) only [seval, -Int.reducePow, -Nat.reducePow, cC, pv, binv, sIns1, undef, g3]
    refine hK _ _ ?_
    clear hK K
    refine cv_cond ?_
    simp -implicitDefEqProofs (disch := first | omega | decide) only [seval, -Int.reducePow, -Nat.reducePow, cC, pv, binv, sIns1, undef, g3]
    refine ⟨fun hc => ?_, fun hc => ?_⟩
    · have q0 := of_decide_eq_true ‹_›
      refine cv_skip ?_
      try simp only [blockQ, thenQ]
      simp -implicitDefEqProofs (disch := first | omega | decide) only [seval, -Int.reducePow, -Nat.reducePow, cC, pv, binv, sIns1, undef, g3]
      all_goals (repeat' refine And.intro ?_ ?_)
      all_goals (first | with_reducible rfl | (refine congrArg Value.bool ?_; rw [Bool.eq_iff_iff]; (try simp only [decide_eq_true_eq, eq_self, true_and, and_true, false_and, and_false, true_or, or_true, false_or, or_false, not_true_eq_false, not_false_eq_true, true_iff, iff_true, false_iff, iff_false, Bool.false_eq_true, Bool.not_eq_true', Bool.not_eq_true, decide_eq_false_iff_not, Bool.and_eq_true, Bool.or_eq_true]) <;> omega) | (refine congrArg (Value.int _) ?_; omega) | omega)
    have q0 := of_decide_eq_false ‹_›
    refine cv_seq_k fun K hK => ?_
    refine cv_region_then rfl ?_
    simp -implicitDefEqProofs (disch := first | omega | decide) only [seval, -Int.reducePow, -Nat.reducePow, cC, pv, binv, sIns1, undef, g3]
    refine hK _ _ ?_
    clear hK K
    refine cv_cond ?_
    simp -implicitDefEqProofs (disch := first | omega | decide) only [seval, -Int.reducePow, -Nat.reducePow, cC, pv, binv, sIns1, undef, g3]
    refine ⟨fun hc => ?_, fun hc => ?_⟩
    · have q1 := of_decide_eq_true ‹_›
      refine cv_skip ?_
      try simp only [blockQ, thenQ]
      simp -implicitDefEqProofs (disch := first | omega | decide) only [seval, -Int.reducePow, -Nat.reducePow, cC, pv, binv, sIns1, undef, g3]
      all_goals (repeat' refine And.intro ?_ ?_)
      all_goals (first | with_reducible rfl | (refine congrArg Value.bool ?_; rw [Bool.eq_iff_iff]; (try simp only [decide_eq_true_eq, eq_self, true_and, and_true, false_and, and_false, true_or, or_true, false_or, or_false, not_true_eq_false, not_false_eq_true, true_iff, iff_true, false_iff, iff_false, Bool.false_eq_true, Bool.not_eq_true', Bool.not_eq_true, decide_eq_false_iff_not, Bool.and_eq_true, Bool.or_eq_true]) <;> omega) | (refine congrArg (Value.int _) ?_; omega) | omega)
    have q1 := of_decide_eq_false ‹_›
    refine cv_seq_k fun K hK => ?_
    refine cv_region_then rfl ?_
    simp -implicitDefEqProofs (disch := first | omega | decide) only [seval, -Int.reducePow, -Nat.reducePow, cC, pv, binv, sIns1, undef, g3]
    refine hK _ _ ?_
    clear hK K
    refine cv_cond ?_
    simp -implicitDefEqProofs (disch := first | omega | decide) only [seval, -Int.reducePow, -Nat.reducePow, cC, pv, binv, sIns1, undef, g3]
    refine ⟨fun hc => ?_, fun hc => ?_⟩
    · have q2 := of_decide_eq_true ‹_›
      refine cv_skip ?_
      try simp only [blockQ, thenQ]
      simp -implicitDefEqProofs (disch := first | omega | decide) only [seval, -Int.reducePow, -Nat.reducePow, cC, pv, binv, sIns1, undef, g3]
      all_goals (repeat' refine And.intro ?_ ?_)
      all_goals (first | with_reducible rfl | (refine congrArg Value.bool ?_; rw [Bool.eq_iff_iff]; (try simp only [decide_eq_true_eq, eq_self, true_and, and_true, false_and, and_false, true_or, or_true, false_or, or_false, not_true_eq_false, not_false_eq_true, true_iff, iff_true, false_iff, iff_false, Bool.false_eq_true, Bool.not_eq_true', Bool.not_eq_true, decide_eq_false_iff_not, Bool.and_eq_true, Bool.or_eq_true]) <;> omega) | (refine congrArg (Value.int _) ?_; omega) | omega)
    have q2 := of_decide_eq_false ‹_›
    refine cv_seq_k fun K hK => ?_
    refine cv_region_then rfl ?_
    simp -implicitDefEqProofs (disch := first | omega | decide) only [seval, -Int.reducePow, -Nat.reducePow, cC, pv, binv, sIns1, undef, g3]
    refine hK _ _ ?_
    clear hK K
    refine cv_cond ?_
    simp -implicitDefEqProofs (disch := first | omega | decide) only [seval, -Int.reducePow, -Nat.reducePow, cC, pv, binv, sIns1, undef, g3]
    refine ⟨fun hc => ?_, fun hc => ?_⟩
    · have q3 := of_decide_eq_true ‹_›
      refine cv_skip ?_
      try simp only [blockQ, thenQ]
      simp -implicitDefEqProofs (disch := first | omega | decide) only [seval, -Int.reducePow, -Nat.reducePow, cC, pv, binv, sIns1, undef, g3]
      all_goals (repeat' refine And.intro ?_ ?_)
      all_goals (first | with_reducible rfl | (refine congrArg Value.bool ?_; rw [Bool.eq_iff_iff]; (try simp only [decide_eq_true_eq, eq_self, true_and, and_true, false_and, and_false, true_or, or_true, false_or, or_false, not_true_eq_false, not_false_eq_true, true_iff, iff_true, false_iff, iff_false, Bool.false_eq_true, Bool.not_eq_true', Bool.not_eq_true, decide_eq_false_iff_not, Bool.and_eq_true, Bool.or_eq_true]) <;> omega) | (refine congrArg (Value.int _) ?_; omega) | omega)
    have q3 := of_decide_eq_false ‹_›
    refine cv_seq_k fun K hK => ?_
    refine cv_region_then rfl ?_
    simp -implicitDefEqProofs (disch := first | omega | decide) only [seval, -Int.reducePow, -Nat.reducePow, cC, pv, binv, sIns1, undef, g3]
    refine hK _ _ ?_
    clear hK K
    refine cv_cond ?_
    simp -implicitDefEqProofs (disch := first | omega | decide) only [seval, -Int.reducePow, -Nat.reducePow, cC, pv, binv, sIns1, undef, g3]
    refine ⟨fun hc => ?_, fun hc => ?_⟩
    · have q4 := of_decide_eq_true ‹_›
      refine cv_skip ?_
      try simp only [blockQ, thenQ]
      simp -implicitDefEqProofs (disch := first | omega | decide) only [seval, -Int.reducePow, -Nat.reducePow, cC, pv, binv, sIns1, undef, g3]
      all_goals (repeat' refine And.intro ?_ ?_)
      all_goals (first | with_reducible rfl | (refine congrArg Value.bool ?_; rw [Bool.eq_iff_iff]; (try simp only [decide_eq_true_eq, eq_self, true_and, and_true, false_and, and_false, true_or, or_true, false_or, or_false, not_true_eq_false, not_false_eq_true, true_iff, iff_true, false_iff, iff_false, Bool.false_eq_true, Bool.not_eq_true', Bool.not_eq_true, decide_eq_false_iff_not, Bool.and_eq_true, Bool.or_eq_true]) <;> omega) | (refine congrArg (Value.int _) ?_; omega) | omega)
    have q4 := of_decide_eq_false ‹_›
    refine cv_seq_k fun K hK => ?_
    refine cv_region_then rfl ?_
    simp -implicitDefEqProofs (disch := first | omega | decide) only [seval, -Int.reducePow, -Nat.reducePow, cC, pv, binv, sIns1, undef, g3]
    refine hK _ _ ?_
    clear hK K
    refine cv_cond ?_
    simp -implicitDefEqProofs (disch := first | omega | decide) only [seval, -Int.reducePow, -Nat.reducePow, cC, pv, binv, sIns1, undef, g3]
    refine ⟨fun hc => ?_, fun hc => ?_⟩
    · have q5 := of_decide_eq_true ‹_›
      refine cv_skip ?_
      try simp only [blockQ, thenQ]
      simp -implicitDefEqProofs (disch := first | omega | decide) only [seval, -Int.reducePow, -Nat.reducePow, cC, pv, binv, sIns1, undef, g3]
      all_goals (repeat' refine And.intro ?_ ?_)
      all_goals (first | with_reducible rfl | (refine congrArg Value.bool ?_; rw [Bool.eq_iff_iff]; (try simp only [decide_eq_true_eq, eq_self, true_and, and_true, false_and, and_false, true_or, or_true, false_or, or_false, not_true_eq_false, not_false_eq_true, true_iff, iff_true, false_iff, iff_false, Bool.false_eq_true, Bool.not_eq_true', Bool.not_eq_true, decide_eq_false_iff_not, Bool.and_eq_true, Bool.or_eq_true]) <;> omega) | (refine congrArg (Value.int _) ?_; omega) | omega)
    have q5 := of_decide_eq_false ‹_›
    refine cv_region_q rfl ?_
    simp -implicitDefEqProofs (disch := first | omega | decide) only [seval, -Int.reducePow, -Nat.reducePow, cC, pv, binv, sIns1, undef, g3]
    all_goals (repeat' refine And.intro ?_ ?_)
    all_goals (first | with_reducible rfl | (refine congrArg Value.bool ?_; rw [Bool.eq_iff_iff]; (try simp only [decide_eq_true_eq, eq_self, true_and, and_true, false_and, and_false, true_or, or_true, false_or, or_false, not_true_eq_false, not_false_eq_true, true_iff, iff_true, false_iff, iff_false, Bool.false_eq_true, Bool.not_eq_true', Bool.not_eq_true, decide_eq_false_iff_not, Bool.and_eq_true, Bool.or_eq_true]) <;> omega) | (refine congrArg (Value.int _) ?_; omega) | omega)
  intro G4 L' _ hF
  obtain ⟨q3, q4, rfl⟩ := hF
  have g4_3 := q3.trans g3_3
  have g4_4 := q4
  clear q3 q4
  have g4 := And.intro g4_3 g4_4
  refine hK _ _ ?_
  clear hK K
  refine cv_cond ?_
  simp -implicitDefEqProofs (disch := first | omega | decide) only [seval, -Int.reducePow, -Nat.reducePow, cC, pv, binv, sIns1, undef, g4]
  refine ⟨fun hc => ?_, fun hc => ?_⟩
  · have h := of_decide_eq_true hc
    refine cv_seq_k fun K hK => ?_
    refine cv_region_then rfl ?_
    simp -implicitDefEqProofs (disch := first | omega | decide) only [seval, -Int.reducePow, -Nat.reducePow, cC, pv, binv, sIns1, undef, g4]
    refine hK _ _ ?_
    clear hK K
    refine cv_ret ⟨_, (by simp -implicitDefEqProofs (disch := first | omega | decide) only [seval, -Int.reducePow, -Nat.reducePow, cC, pv, binv, sIns1, undef, g4]; rfl), fun w hw => ?_⟩
    exact ⟨by rw [decide_eq_true h], hw.below⟩
  have h := of_decide_eq_false hc
  refine cv_skip ?_
  try simp only [blockQ, thenQ]
  refine hK _ _ ?_
  clear hK K
  refine cv_seq_k fun K hK => ?_
  refine cv_region_then rfl ?_
  simp -implicitDefEqProofs (disch := first | omega | decide) only [seval, -Int.reducePow, -Nat.reducePow, cC, pv, binv, sIns1, undef, g4]
  refine hK _ _ ?_
  clear hK K
  refine cv_ret ⟨_, (by simp -implicitDefEqProofs (disch := first | omega | decide) only [seval, -Int.reducePow, -Nat.reducePow, cC, pv, binv, sIns1, undef, g4]; rfl), fun w hw => ?_⟩
  exact ⟨by rw [decide_eq_false h], hw.below⟩
theorem i_icheck_any (i : Ins) (W : World) : Calls Try.prog 54 #[insV i] W fun e w' => e = .returned (.int .i64 i.err) ∧ Below W.heap.size W w' := by
  refine calls_cv (M := []) (n := 16) [.tmp 2] rfl Try.func54 rfl rfl (Nat.le_of_ble_eq_true rfl) (St.nil _ _) ?_
  refine cv_seq_k fun K hK => ?_
  refine cv_region_then rfl ?_
  simp -implicitDefEqProofs (disch := first | omega | decide) only [seval, -Int.reducePow, -Nat.reducePow, cC, pv, binv, sIns1, undef]
  intro b hb
  refine hK _ _ ?_
  clear hK K
  refine cv_gen fun G5 hG => ?_
  have g5_1 := congrFun hG 1
  clear hG
  try simp -implicitDefEqProofs (disch := first | omega | decide) only [seval, -Int.reducePow, -Nat.reducePow, cC, pv, binv, sIns1, undef] at g5_1
  have g5 := g5_1
  refine cv_seq_k fun K hK => ?_
  refine cv_seq_k fun K hK => ?_
  refine cv_region_then rfl ?_
  simp -implicitDefEqProofs (disch := first | omega | decide) only [seval, -Int.reducePow, -Nat.reducePow, cC, pv, binv, sIns1, undef, g5]
  refine callV_ret (fun w hw => i_known_any i.op w) ?_
  try simp -implicitDefEqProofs (disch := first | omega | decide) only [seval, -Int.reducePow, -Nat.reducePow, cC, pv, binv, sIns1, undef, g5]
  refine hK _ _ ?_
  clear hK K
  refine cv_cond ?_
  simp -implicitDefEqProofs (disch := first | omega | decide) only [seval, -Int.reducePow, -Nat.reducePow, cC, pv, binv, sIns1, undef, g5]
  refine ⟨fun hc => ?_, fun hc => ?_⟩
  · have h : ¬ knownP i.op := nd_true hc
    refine cv_seq_k fun K hK => ?_
    refine cv_region_then rfl ?_
    simp -implicitDefEqProofs (disch := first | omega | decide) only [seval, -Int.reducePow, -Nat.reducePow, cC, pv, binv, sIns1, undef, g5]
    refine hK _ _ ?_
    clear hK K
    refine cv_ret ⟨_, (by simp -implicitDefEqProofs (disch := first | omega | decide) only [seval, -Int.reducePow, -Nat.reducePow, cC, pv, binv, sIns1, undef, g5]; rfl), fun w hw => ?_⟩
    exact ⟨by unfold Ins.err; rw [if_pos h], hw.below⟩
  have h : ¬ ¬ knownP i.op := nd_false hc
  refine cv_skip ?_
  try simp only [blockQ, thenQ]
  refine hK _ _ ?_
  clear hK K
  refine cv_seq_k fun K hK => ?_
  refine cv_seq_k fun K hK => ?_
  by_cases ha : argP i.op
  · have ha' : decide (argP i.op) = true := decide_eq_true ha
    refine cv_region_then rfl ?_
    simp -implicitDefEqProofs (disch := first | omega | decide) only [seval, -Int.reducePow, -Nat.reducePow, cC, pv, binv, sIns1, undef, g5]
    refine callV_ret (fun w hw => i_hasArg_any i.op w) ?_
    try simp -implicitDefEqProofs (disch := first | omega | decide) only [seval, -Int.reducePow, -Nat.reducePow, cC, pv, binv, sIns1, undef, ha', g5]
    refine hK _ _ ?_
    clear hK K
    refine cv_cond ?_
    simp -implicitDefEqProofs (disch := first | omega | decide) only [seval, -Int.reducePow, -Nat.reducePow, cC, pv, binv, sIns1, undef, g5]
    refine cv_skip ?_
    try simp only [blockQ, thenQ]
    refine hK _ _ ?_
    clear hK K
    refine cv_seq_k fun K hK => ?_
    refine cv_region_then rfl ?_
    simp -implicitDefEqProofs (disch := first | omega | decide) only [seval, -Int.reducePow, -Nat.reducePow, cC, pv, binv, sIns1, undef, g5]
    refine hK _ _ ?_
    clear hK K
    refine cv_ret ⟨_, (by simp -implicitDefEqProofs (disch := first | omega | decide) only [seval, -Int.reducePow, -Nat.reducePow, cC, pv, binv, sIns1, undef, g5]; rfl), fun w hw => ?_⟩
    exact ⟨by unfold Ins.err; rw [if_neg h, if_neg (by rintro ⟨h1, -⟩; exact h1 ha)], hw.below⟩
  · have ha' : decide (argP i.op) = false := decide_eq_false ha
    refine cv_region_then rfl ?_
    simp -implicitDefEqProofs (disch := first | omega | decide) only [seval, -Int.reducePow, -Nat.reducePow, cC, pv, binv, sIns1, undef, g5]
    refine callV_ret (fun w hw => i_hasArg_any i.op w) ?_
    try simp -implicitDefEqProofs (disch := first | omega | decide) only [seval, -Int.reducePow, -Nat.reducePow, cC, pv, binv, sIns1, undef, ha', g5]
    refine hK _ _ ?_
    clear hK K
    refine cv_cond ?_
    simp -implicitDefEqProofs (disch := first | omega | decide) only [seval, -Int.reducePow, -Nat.reducePow, cC, pv, binv, sIns1, undef, g5]
    refine ⟨fun hc => ?_, fun hc => ?_⟩
    · have hz : ¬ i.arg = 0 := by simp at hc; omega
      refine cv_seq_k fun K hK => ?_
      refine cv_region_then rfl ?_
      simp -implicitDefEqProofs (disch := first | omega | decide) only [seval, -Int.reducePow, -Nat.reducePow, cC, pv, binv, sIns1, undef, g5]
      refine hK _ _ ?_
      clear hK K
      refine cv_ret ⟨_, (by simp -implicitDefEqProofs (disch := first | omega | decide) only [seval, -Int.reducePow, -Nat.reducePow, cC, pv, binv, sIns1, undef, g5]; rfl), fun w hw => ?_⟩
      exact ⟨by unfold Ins.err; rw [if_neg h, if_pos ⟨ha, hz⟩], hw.below⟩
    have hz : i.arg = 0 := by simp at hc; omega
    refine cv_skip ?_
    try simp only [blockQ, thenQ]
    refine hK _ _ ?_
    clear hK K
    refine cv_seq_k fun K hK => ?_
    refine cv_region_then rfl ?_
    simp -implicitDefEqProofs (disch := first | omega | decide) only [seval, -Int.reducePow, -Nat.reducePow, cC, pv, binv, sIns1, undef, g5]
    refine hK _ _ ?_
    clear hK K
    refine cv_ret ⟨_, (by simp -implicitDefEqProofs (disch := first | omega | decide) only [seval, -Int.reducePow, -Nat.reducePow, cC, pv, binv, sIns1, undef, g5]; rfl), fun w hw => ?_⟩
    exact ⟨by unfold Ins.err; rw [if_neg h, if_neg (by rintro ⟨-, h1⟩; exact h1 hz)], hw.below⟩
end Go.Proofs.Ytlbmnioibiomfaa
