/- Instructions: known, HasArg, Check, Encode, Decode, in both packages. -/
import Derived.Test.YtehfnjaompkikaaEng9
import Derived.Test.YtehfnjaompkikaaWUint
namespace Go.Proofs.Ytehfnjaompkikaa
open Go.RowKit Go.Shelf
set_option linter.unusedVariables false
set_option linter.unusedSimpArgs false
set_option maxRecDepth 100000
structure Ins where
  op : Int
  arg : Nat
  deriving DecidableEq
def insc (i : Ins) : List Value := [.int .i64 i.op, .int .u64 (i.arg : Int)]
def insV (i : Ins) : Value := .agg #[.int .i64 i.op, .int .u64 (i.arg : Int)]
def iBox (b : Nat) (i : Ins) : Res := .blk b 46 [.int .i64 i.op, .int .u64 (i.arg : Int)]
theorem insc_len (i : Ins) : (insc i).length = 2 := rfl
theorem insc_ones (i : Ins) : ones (insc i) = true := rfl
abbrev knownP (op : Int) : Prop := 1 ≤ op ∧ op ≤ 25
abbrev argP (op : Int) : Prop := op = 1 ∨ op = 2 ∨ op = 3 ∨ op = 19 ∨ op = 20 ∨ op = 21 ∨ op = 23
namespace Ins
def err (i : Ins) : Int := if ¬ knownP i.op then 22 else if ¬ argP i.op ∧ ¬ i.arg = 0 then 1 else 0
theorem err_zero {i : Ins} (h : i.err = 0) : knownP i.op ∧ (¬ argP i.op → i.arg = 0) := by
  unfold err at h
  split at h
  · cases h
  split at h
  · cases h
  exact ⟨by omega, by omega⟩
end Ins
def encI (i : Ins) : List Nat := i.op.toNat :: (if argP i.op then putU i.arg else [])
def encIE (i : Ins) : List Nat := if i.err = 0 then encI i else []
/-- The instruction that bytes begin with: it, its bytes, the error. -/
def decI : List Nat → Ins × Nat × Int
  | [] => (⟨0, 0⟩, 0, 2)
  | c :: r => if ¬ knownP (c : Int) then (⟨0, 0⟩, 0, 22) else if ¬ argP (c : Int) then (⟨(c : Int), 0⟩, 1, 0) else
      if (uD 0 r).2.2 = 0 then (⟨(c : Int), (uD 0 r).1⟩, 1 + (uD 0 r).2.1, 0) else (⟨0, 0⟩, 0, (uD 0 r).2.2)
theorem decI_cons (c : Nat) (r : List Nat) : decI (c :: r) = if ¬ knownP (c : Int) then (⟨0, 0⟩, 0, 22) else if ¬ argP (c : Int) then (⟨(c : Int), 0⟩, 1, 0) else
      if (uD 0 r).2.2 = 0 then (⟨(c : Int), (uD 0 r).1⟩, 1 + (uD 0 r).2.1, 0) else (⟨0, 0⟩, 0, (uD 0 r).2.2) := rfl
theorem nd_true {p : Prop} [Decidable p] (h : (!decide p) = true) : ¬ p := by simpa using h
theorem nd_false {p : Prop} [Decidable p] (h : (!decide p) = false) : ¬ ¬ p := by simpa using h
section
variable {W w : World} {L : List Res} {n c : Nat} {A : Option Addr} {is : List Ins}
theorem Sl.ins {b off k : Nat} {x : Ins} (h : Sl W W.heap.size 2 (some ⟨b, off, none⟩) n c (cl insc is)) (hx : is[k]? = some x) : LD Try.prog [] W L 46 ⟨b, off + k * 2, none⟩ (.agg #[.int .i64 x.op, .int .u64 (x.arg : Int)]) :=
  h.ld (vs := insc x) (by
    have := cl_row insc_len (by omega) h.len
    have := (List.getElem?_eq_some_iff.1 hx).1
    omega) (by kernel_rfl) (cl_at insc_len hx)
end
theorem i_known_any (op : Int) (W : World) : Calls Try.prog 47 #[.int .i64 op] W fun e w' => e = .returned (.bool (decide (knownP op))) ∧ Below W.heap.size W w' := by
  refine calls_cv (M := []) (n := 9) [.tmp 2] rfl Try.func47 rfl rfl (Nat.le_of_ble_eq_true rfl) (St.nil _ _) ?_
  refine cv_seq_k fun K hK => ?_
  refine cv_region_then rfl ?_
  simp -implicitDefEqProofs (disch := first | omega | decide) only [seval, -Int.reducePow, -Nat.reducePow, cA, cB, pv, binv, fresh, thenQ, blockQ, retQ, Value.oneCell', Value.cells, iBox, insV, uV, undef, Nat.mul_one]
  refine hK _ _ ?_
  clear hK K
  refine cv_gen fun G1 hG => ?_
  have g1_0 := congrFun hG 0
  clear hG
  try simp -implicitDefEqProofs (disch := first | omega | decide) only [seval, -Int.reducePow, -Nat.reducePow, cA, cB, pv, binv, fresh, thenQ, blockQ, retQ, Value.oneCell', Value.cells, iBox, insV, uV, undef, Nat.mul_one] at g1_0
  refine cv_seq_k fun K hK => ?_
  refine cv_cut (fun _ _ => True) (fun F' L' => F' 2 = .bool (decide (knownP op)) ∧ L' = []) ?_ ?_
  · refine cv_region_then rfl ?_
    simp -implicitDefEqProofs (disch := first | omega | decide) only [seval, -Int.reducePow, -Nat.reducePow, cA, cB, pv, binv, fresh, thenQ, blockQ, retQ, Value.oneCell', Value.cells, iBox, insV, uV, undef, Nat.mul_one, g1_0]
    repeat' ((first | refine vcg_cases (fun hg => ?_) (fun hg => ?_) | refine vdg_cases (fun hg => ?_) (fun hg => ?_)) <;> ((try simp only [Bool.not_eq_true', Bool.not_eq_false', decide_eq_true_eq, decide_eq_false_iff_not] at hg); (try simp -implicitDefEqProofs (disch := first | omega | decide) only [seval, -Int.reducePow, -Nat.reducePow, cA, cB, pv, binv, fresh, thenQ, blockQ, retQ, Value.oneCell', Value.cells, iBox, insV, uV, undef, Nat.mul_one, hg, g1_0])))
    all_goals (repeat' refine And.intro ?_ ?_)
    all_goals (first | with_reducible rfl | (refine congrArg Value.bool ?_; rw [Bool.eq_iff_iff]; (try simp only [knownP, decide_eq_true_eq, eq_self, true_and, and_true, false_and, and_false, true_or, or_true, false_or, or_false, not_true_eq_false, not_false_eq_true, true_iff, iff_true, false_iff, iff_false, Bool.false_eq_true, Bool.not_eq_true', Bool.not_eq_true, decide_eq_false_iff_not, Bool.and_eq_true, Bool.or_eq_true]) <;> omega) | (refine congrArg (Value.int _) ?_; omega) | omega)
  intro G2 L' _ hF
  obtain ⟨q2, rfl⟩ := hF
  have g2_2 := q2
  clear q2
  refine hK _ _ ?_
  clear hK K
  refine cv_ret ⟨_, (by simp -implicitDefEqProofs (disch := first | omega | decide) only [seval, -Int.reducePow, -Nat.reducePow, cA, cB, pv, binv, fresh, thenQ, blockQ, retQ, Value.oneCell', Value.cells, iBox, insV, uV, undef, Nat.mul_one, g2_2]; rfl), fun w hw => ?_⟩
  exact ⟨rfl, hw.below⟩
theorem i_hasArg_any (op : Int) (W : World) : Calls Try.prog 48 #[.int .i64 op] W fun e w' => e = .returned (.bool (decide (argP op))) ∧ Below W.heap.size W w' := by
  refine calls_cv (M := []) (n := 12) [.tmp 2] rfl Try.func48 rfl rfl (Nat.le_of_ble_eq_true rfl) (St.nil _ _) ?_
  refine cv_seq_k fun K hK => ?_
  refine cv_region_then rfl ?_
  simp -implicitDefEqProofs (disch := first | omega | decide) only [seval, -Int.reducePow, -Nat.reducePow, cA, cB, pv, binv, fresh, thenQ, blockQ, retQ, Value.oneCell', Value.cells, iBox, insV, uV, undef, Nat.mul_one]
  refine hK _ _ ?_
  clear hK K
  refine cv_seq_k fun K hK => ?_
  refine cv_seq_k fun K hK => ?_
  refine cv_region_then rfl ?_
  simp -implicitDefEqProofs (disch := first | omega | decide) only [seval, -Int.reducePow, -Nat.reducePow, cA, cB, pv, binv, fresh, thenQ, blockQ, retQ, Value.oneCell', Value.cells, iBox, insV, uV, undef, Nat.mul_one]
  refine hK _ _ ?_
  clear hK K
  refine cv_gen fun G3 hG => ?_
  have g3_3 := congrFun hG 3
  clear hG
  try simp -implicitDefEqProofs (disch := first | omega | decide) only [seval, -Int.reducePow, -Nat.reducePow, cA, cB, pv, binv, fresh, thenQ, blockQ, retQ, Value.oneCell', Value.cells, iBox, insV, uV, undef, Nat.mul_one] at g3_3
  refine cv_block ?_
  refine cv_seq_k fun K hK => ?_
  refine cv_cut (fun _ _ => True) (fun F' L' => F' 3 = G3 3 ∧ F' 4 = .bool (decide (op = 1 ∨ op = 2 ∨ op = 3 ∨ op = 19 ∨ op = 20 ∨ op = 21 ∨ op = 23)) ∧ L' = []) ?_ ?_
  · refine cv_seq_k fun K hK => ?_
    refine cv_region_then rfl ?_
    simp -implicitDefEqProofs (disch := first | omega | decide) only [seval, -Int.reducePow, -Nat.reducePow, cA, cB, pv, binv, fresh, thenQ, blockQ, retQ, Value.oneCell', Value.cells, iBox, insV, uV, undef, Nat.mul_one, g3_3]
    refine hK _ _ ?_
    clear hK K
    refine cv_cond ?_
    simp -implicitDefEqProofs (disch := first | omega | decide) only [seval, -Int.reducePow, -Nat.reducePow, cA, cB, pv, binv, fresh, thenQ, blockQ, retQ, Value.oneCell', Value.cells, iBox, insV, uV, undef, Nat.mul_one, g3_3]
    refine ⟨fun hc => ?_, fun hc => ?_⟩
    · have q0 := of_decide_eq_true ‹_›
      refine cv_skip ?_
      try simp only [blockQ, thenQ]
      simp -implicitDefEqProofs (disch := first | omega | decide) only [seval, -Int.reducePow, -Nat.reducePow, cA, cB, pv, binv, fresh, thenQ, blockQ, retQ, Value.oneCell', Value.cells, iBox, insV, uV, undef, Nat.mul_one, g3_3]
      all_goals (repeat' refine And.intro ?_ ?_)
      all_goals (first | with_reducible rfl | (refine congrArg Value.bool ?_; rw [Bool.eq_iff_iff]; (try simp only [decide_eq_true_eq, eq_self, true_and, and_true, false_and, and_false, true_or, or_true, false_or, or_false, not_true_eq_false, not_false_eq_true, true_iff, iff_true, false_iff, iff_false, Bool.false_eq_true, Bool.not_eq_true', Bool.not_eq_true, decide_eq_false_iff_not, Bool.and_eq_true, Bool.or_eq_true]) <;> omega) | (refine congrArg (Value.int _) ?_; omega) | omega)
    have q0 := of_decide_eq_false ‹_›
    refine cv_seq_k fun K hK => ?_
    refine cv_region_then rfl ?_
    simp -implicitDefEqProofs (disch := first | omega | decide) only [seval, -Int.reducePow, -Nat.reducePow, cA, cB, pv, binv, fresh, thenQ, blockQ, retQ, Value.oneCell', Value.cells, iBox, insV, uV, undef, Nat.mul_one, g3_3]
    refine hK _ _ ?_
    clear hK K
    refine cv_cond ?_
    simp -implicitDefEqProofs (disch := first | omega | decide) only [seval, -Int.reducePow, -Nat.reducePow, cA, cB, pv, binv, fresh, thenQ, blockQ, retQ, Value.oneCell', Value.cells, iBox, insV, uV, undef, Nat.mul_one, g3_3]
    refine ⟨fun hc => ?_, fun hc => ?_⟩
    · have q1 := of_decide_eq_true ‹_›
      refine cv_skip ?_
      try simp only [blockQ, thenQ]
      simp -implicitDefEqProofs (disch := first | omega | decide) only [seval, -Int.reducePow, -Nat.reducePow, cA, cB, pv, binv, fresh, thenQ, blockQ, retQ, Value.oneCell', Value.cells, iBox, insV, uV, undef, Nat.mul_one, g3_3]
      all_goals (repeat' refine And.intro ?_ ?_)
      all_goals (first | with_reducible rfl | (refine congrArg Value.bool ?_; rw [Bool.eq_iff_iff]; (try simp only [decide_eq_true_eq, eq_self, true_and, and_true, false_and, and_false, true_or, or_true, false_or, or_false, not_true_eq_false, not_false_eq_true, true_iff, iff_true, false_iff, iff_false, Bool.false_eq_true, Bool.not_eq_true', Bool.not_eq_true, decide_eq_false_iff_not, Bool.and_eq_true, Bool.or_eq_true]) <;> omega) | (refine congrArg (Value.int _) ?_; omega) | omega)
    have q1 := of_decide_eq_false ‹_›
    refine cv_seq_k fun K hK => ?_
    refine cv_region_then rfl ?_
    simp -implicitDefEqProofs (disch := first | omega | decide) only [seval, -Int.reducePow, -Nat.reducePow, cA, cB, pv, binv, fresh, thenQ, blockQ, retQ, Value.oneCell', Value.cells, iBox, insV, uV, undef, Nat.mul_one, g3_3]
    refine hK _ _ ?_
    clear hK K
    refine cv_cond ?_
    simp -implicitDefEqProofs (disch := first | omega | decide) only [seval, -Int.reducePow, -Nat.reducePow, cA, cB, pv, binv, fresh, thenQ, blockQ, retQ, Value.oneCell', Value.cells, iBox, insV, uV, undef, Nat.mul_one, g3_3]
    refine ⟨fun hc => ?_, fun hc => ?_⟩
    · have q2 := of_decide_eq_true ‹_›
      refine cv_skip ?_
      try simp only [blockQ, thenQ]
      simp -implicitDefEqProofs (disch := first | omega | decide) only [seval, -Int.reducePow, -Nat.reducePow, cA, cB, pv, binv, fresh, thenQ, blockQ, retQ, Value.oneCell', Value.cells, iBox, insV, uV, undef, Nat.mul_one, g3_3]
      all_goals (repeat' refine And.intro ?_ ?_)
      all_goals (first | with_reducible rfl | (refine congrArg Value.bool ?_; rw [Bool.eq_iff_iff]; (try simp only [decide_eq_true_eq, eq_self, true_and, and_true, false_and, and_false, true_or, or_true, false_or, or_false, not_true_eq_false, not_false_eq_true, true_iff, iff_true, false_iff, iff_false, Bool.false_eq_true, Bool.not_eq_true', Bool.not_eq_true, decide_eq_false_iff_not, Bool.and_eq_true, Bool.or_eq_true]) <;> omega) | (refine congrArg (Value.int _) ?_; omega) | omega)
    have q2 := of_decide_eq_false ‹_›
    refine cv_seq_k fun K hK => ?_
    refine cv_region_then rfl ?_
    simp -implicitDefEqProofs (disch := first | omega | decide) only [seval, -Int.reducePow, -Nat.reducePow, cA, cB, pv, binv, fresh, thenQ, blockQ, retQ, Value.oneCell', Value.cells, iBox, insV, uV, undef, Nat.mul_one, g3_3]
    refine hK _ _ ?_
    clear hK K
    refine cv_cond ?_
    simp -implicitDefEqProofs (disch := first | omega | decide) only [seval, -Int.reducePow, -Nat.reducePow, cA, cB, pv, binv, fresh, thenQ, blockQ, retQ, Value.oneCell', Value.cells, iBox, insV, uV, undef, Nat.mul_one, g3_3]
    refine ⟨fun hc => ?_, fun hc => ?_⟩
    · have q3 := of_decide_eq_true ‹_›
      refine cv_skip ?_
      try simp only [blockQ, thenQ]
      simp -implicitDefEqProofs (disch := first | omega | decide) only [seval, -Int.reducePow, -Nat.reducePow, cA, cB, pv, binv, fresh, thenQ, blockQ, retQ, Value.oneCell', Value.cells, iBox, insV, uV, undef, Nat.mul_one, g3_3]
      all_goals (repeat' refine And.intro ?_ ?_)
      all_goals (first | with_reducible rfl | (refine congrArg Value.bool ?_; rw [Bool.eq_iff_iff]; (try simp only [decide_eq_true_eq, eq_self, true_and, and_true, false_and, and_false, true_or, or_true, false_or, or_false, not_true_eq_false, not_false_eq_true, true_iff, iff_true, false_iff, iff_false, Bool.false_eq_true, Bool.not_eq_true', Bool.not_eq_true, decide_eq_false_iff_not, Bool.and_eq_true, Bool.or_eq_true]) <;> omega) | (refine congrArg (Value.int _) ?_; omega) | omega)
    have q3 := of_decide_eq_false ‹_›
    refine cv_seq_k fun K hK => ?_
    refine cv_region_then rfl ?_
    simp -implicitDefEqProofs (disch := first | omega | decide) only [seval, -Int.reducePow, -Nat.reducePow, cA, cB, pv, binv, fresh, thenQ, blockQ, retQ, Value.oneCell', Value.cells, iBox, insV, uV, undef, Nat.mul_one, g3_3]
    refine hK _ _ ?_
    clear hK K
    refine cv_cond ?_
    simp -implicitDefEqProofs (disch := first | omega | decide) only [seval, -Int.reducePow, -Nat.reducePow, cA, cB, pv, binv, fresh, thenQ, blockQ, retQ, Value.oneCell', Value.cells, iBox, insV, uV, undef, Nat.mul_one, g3_3]
    refine ⟨fun hc => ?_, fun hc => ?_⟩
    · have q4 := of_decide_eq_true ‹_›
      refine cv_skip ?_
      try simp only [blockQ, thenQ]
      simp -implicitDefEqProofs (disch := first | omega | decide) only [seval, -Int.reducePow, -Nat.reducePow, cA, cB, pv, binv, fresh, thenQ, blockQ, retQ, Value.oneCell', Value.cells, iBox, insV, uV, undef, Nat.mul_one, g3_3]
      all_goals (repeat' refine And.intro ?_ ?_)
      all_goals (first | with_reducible rfl | (refine congrArg Value.bool ?_; rw [Bool.eq_iff_iff]; (try simp only [decide_eq_true_eq, eq_self, true_and, and_true, false_and, and_false, true_or, or_true, false_or, or_false, not_true_eq_false, not_false_eq_true, true_iff, iff_true, false_iff, iff_false, Bool.false_eq_true, Bool.not_eq_true', Bool.not_eq_true, decide_eq_false_iff_not, Bool.and_eq_true, Bool.or_eq_true]) <;> omega) | (refine congrArg (Value.int _) ?_; omega) | omega)
    have q4 := of_decide_eq_false ‹_›
    refine cv_seq_k fun K hK => ?_
    refine cv_region_then rfl ?_
    simp -implicitDefEqProofs (disch := first | omega | decide) only [seval, -Int.reducePow, -Nat.reducePow, cA, cB, pv, binv, fresh, thenQ, blockQ, retQ, Value.oneCell', Value.cells, iBox, insV, uV, undef, Nat.mul_one, g3_3]
    refine hK _ _ ?_
    clear hK K
    refine cv_cond ?_
    simp -implicitDefEqProofs (disch := first | omega | decide) only [seval, -Int.reducePow, -Nat.reducePow, cA, cB, pv, binv, fresh, thenQ, blockQ, retQ, Value.oneCell', Value.cells, iBox, insV, uV, undef, Nat.mul_one, g3_3]
    refine ⟨fun hc => ?_, fun hc => ?_⟩
    · have q5 := of_decide_eq_true ‹_›
      refine cv_skip ?_
      try simp only [blockQ, thenQ]
      simp -implicitDefEqProofs (disch := first | omega | decide) only [seval, -Int.reducePow, -Nat.reducePow, cA, cB, pv, binv, fresh, thenQ, blockQ, retQ, Value.oneCell', Value.cells, iBox, insV, uV, undef, Nat.mul_one, g3_3]
      all_goals (repeat' refine And.intro ?_ ?_)
      all_goals (first | with_reducible rfl | (refine congrArg Value.bool ?_; rw [Bool.eq_iff_iff]; (try simp only [decide_eq_true_eq, eq_self, true_and, and_true, false_and, and_false, true_or, or_true, false_or, or_false, not_true_eq_false, not_false_eq_true, true_iff, iff_true, false_iff, iff_false, Bool.false_eq_true, Bool.not_eq_true', Bool.not_eq_true, decide_eq_false_iff_not, Bool.and_eq_true, Bool.or_eq_true]) <;> omega) | (refine congrArg (Value.int _) ?_; omega) | omega)
    have q5 := of_decide_eq_false ‹_›
    refine cv_region_q rfl ?_
    simp -implicitDefEqProofs (disch := first | omega | decide) only [seval, -Int.reducePow, -Nat.reducePow, cA, cB, pv, binv, fresh, thenQ, blockQ, retQ, Value.oneCell', Value.cells, iBox, insV, uV, undef, Nat.mul_one, g3_3]
    all_goals (repeat' refine And.intro ?_ ?_)
    all_goals (first | with_reducible rfl | (refine congrArg Value.bool ?_; rw [Bool.eq_iff_iff]; (try simp only [decide_eq_true_eq, eq_self, true_and, and_true, false_and, and_false, true_or, or_true, false_or, or_false, not_true_eq_false, not_false_eq_true, true_iff, iff_true, false_iff, iff_false, Bool.false_eq_true, Bool.not_eq_true', Bool.not_eq_true, decide_eq_false_iff_not, Bool.and_eq_true, Bool.or_eq_true]) <;> omega) | (refine congrArg (Value.int _) ?_; omega) | omega)
  intro G4 L' _ hF
  obtain ⟨q3, q4, rfl⟩ := hF
  have g4_3 := q3.trans g3_3
  have g4_4 := q4
  clear q3 q4
  refine hK _ _ ?_
  clear hK K
  refine cv_cond ?_
  simp -implicitDefEqProofs (disch := first | omega | decide) only [seval, -Int.reducePow, -Nat.reducePow, cA, cB, pv, binv, fresh, thenQ, blockQ, retQ, Value.oneCell', Value.cells, iBox, insV, uV, undef, Nat.mul_one, g4_3, g4_4]
  refine ⟨fun hc => ?_, fun hc => ?_⟩
  · have h := of_decide_eq_true hc
    refine cv_seq_k fun K hK => ?_
    refine cv_region_then rfl ?_
    simp -implicitDefEqProofs (disch := first | omega | decide) only [seval, -Int.reducePow, -Nat.reducePow, cA, cB, pv, binv, fresh, thenQ, blockQ, retQ, Value.oneCell', Value.cells, iBox, insV, uV, undef, Nat.mul_one, g4_3, g4_4]
    refine hK _ _ ?_
    clear hK K
    refine cv_ret ⟨_, (by simp -implicitDefEqProofs (disch := first | omega | decide) only [seval, -Int.reducePow, -Nat.reducePow, cA, cB, pv, binv, fresh, thenQ, blockQ, retQ, Value.oneCell', Value.cells, iBox, insV, uV, undef, Nat.mul_one, g4_3, g4_4]; rfl), fun w hw => ?_⟩
    exact ⟨by rw [decide_eq_true h], hw.below⟩
  have h := of_decide_eq_false hc
  refine cv_skip ?_
  try simp only [blockQ, thenQ]
  refine hK _ _ ?_
  clear hK K
  refine cv_seq_k fun K hK => ?_
  refine cv_region_then rfl ?_
  simp -implicitDefEqProofs (disch := first | omega | decide) only [seval, -Int.reducePow, -Nat.reducePow, cA, cB, pv, binv, fresh, thenQ, blockQ, retQ, Value.oneCell', Value.cells, iBox, insV, uV, undef, Nat.mul_one, g4_3, g4_4]
  refine hK _ _ ?_
  clear hK K
  refine cv_ret ⟨_, (by simp -implicitDefEqProofs (disch := first | omega | decide) only [seval, -Int.reducePow, -Nat.reducePow, cA, cB, pv, binv, fresh, thenQ, blockQ, retQ, Value.oneCell', Value.cells, iBox, insV, uV, undef, Nat.mul_one, g4_3, g4_4]; rfl), fun w hw => ?_⟩
  exact ⟨by rw [decide_eq_false h], hw.below⟩
theorem i_icheck_any (i : Ins) (W : World) : Calls Try.prog 26 #[insV i] W fun e w' => e = .returned (.int .i64 i.err) ∧ Below W.heap.size W w' := by
  refine calls_cv (M := []) (n := 16) [.tmp 2] rfl Try.func26 rfl rfl (Nat.le_of_ble_eq_true rfl) (St.nil _ _) ?_
  refine cv_seq_k fun K hK => ?_
  refine cv_region_then rfl ?_
  simp -implicitDefEqProofs (disch := first | omega | decide) only [seval, -Int.reducePow, -Nat.reducePow, cA, cB, pv, binv, fresh, thenQ, blockQ, retQ, Value.oneCell', Value.cells, iBox, insV, uV, undef, Nat.mul_one]
  intro b hb
  refine hK _ _ ?_
  clear hK K
  refine cv_gen fun G5 hG => ?_
  have g5_1 := congrFun hG 1
  clear hG
  try simp -implicitDefEqProofs (disch := first | omega | decide) only [seval, -Int.reducePow, -Nat.reducePow, cA, cB, pv, binv, fresh, thenQ, blockQ, retQ, Value.oneCell', Value.cells, iBox, insV, uV, undef, Nat.mul_one] at g5_1
  refine cv_seq_k fun K hK => ?_
  refine cv_seq_k fun K hK => ?_
  refine cv_region_then rfl ?_
  simp -implicitDefEqProofs (disch := first | omega | decide) only [seval, -Int.reducePow, -Nat.reducePow, cA, cB, pv, binv, fresh, thenQ, blockQ, retQ, Value.oneCell', Value.cells, iBox, insV, uV, undef, Nat.mul_one, g5_1]
  refine callV_ret (fun w hw => i_known_any i.op w) ?_
  try simp -implicitDefEqProofs (disch := first | omega | decide) only [seval, -Int.reducePow, -Nat.reducePow, cA, cB, pv, binv, fresh, thenQ, blockQ, retQ, Value.oneCell', Value.cells, iBox, insV, uV, undef, Nat.mul_one, g5_1]
  refine hK _ _ ?_
  clear hK K
  refine cv_cond ?_
  simp -implicitDefEqProofs (disch := first | omega | decide) only [seval, -Int.reducePow, -Nat.reducePow, cA, cB, pv, binv, fresh, thenQ, blockQ, retQ, Value.oneCell', Value.cells, iBox, insV, uV, undef, Nat.mul_one, g5_1]
  refine ⟨fun hc => ?_, fun hc => ?_⟩
  · have h : ¬ knownP i.op := nd_true hc
    refine cv_seq_k fun K hK => ?_
    refine cv_region_then rfl ?_
    simp -implicitDefEqProofs (disch := first | omega | decide) only [seval, -Int.reducePow, -Nat.reducePow, cA, cB, pv, binv, fresh, thenQ, blockQ, retQ, Value.oneCell', Value.cells, iBox, insV, uV, undef, Nat.mul_one, g5_1]
    refine hK _ _ ?_
    clear hK K
    refine cv_ret ⟨_, (by simp -implicitDefEqProofs (disch := first | omega | decide) only [seval, -Int.reducePow, -Nat.reducePow, cA, cB, pv, binv, fresh, thenQ, blockQ, retQ, Value.oneCell', Value.cells, iBox, insV, uV, undef, Nat.mul_one, g5_1]; rfl), fun w hw => ?_⟩
    exact ⟨by unfold Ins.err; rw [if_pos h], hw.below⟩
  have h : ¬ ¬ knownP i.op := nd_false hc
  refine cv_skip ?_
  try simp only [blockQ, thenQ]
  refine hK _ _ ?_
  clear hK K
  refine cv_seq_k fun K hK => ?_
  refine cv_seq_k fun K hK => ?_
  by_cases ha : argP i.op
  · have ha' : decide (argP i.op) = true := decide_eq_true ha
    refine cv_region_then rfl ?_
    simp -implicitDefEqProofs (disch := first | omega | decide) only [seval, -Int.reducePow, -Nat.reducePow, cA, cB, pv, binv, fresh, thenQ, blockQ, retQ, Value.oneCell', Value.cells, iBox, insV, uV, undef, Nat.mul_one, g5_1]
    refine callV_ret (fun w hw => i_hasArg_any i.op w) ?_
    try simp -implicitDefEqProofs (disch := first | omega | decide) only [seval, -Int.reducePow, -Nat.reducePow, cA, cB, pv, binv, fresh, thenQ, blockQ, retQ, Value.oneCell', Value.cells, iBox, insV, uV, undef, Nat.mul_one, ha', g5_1]
    refine hK _ _ ?_
    clear hK K
    refine cv_cond ?_
    simp -implicitDefEqProofs (disch := first | omega | decide) only [seval, -Int.reducePow, -Nat.reducePow, cA, cB, pv, binv, fresh, thenQ, blockQ, retQ, Value.oneCell', Value.cells, iBox, insV, uV, undef, Nat.mul_one, g5_1]
    refine cv_skip ?_
    try simp only [blockQ, thenQ]
    refine hK _ _ ?_
    clear hK K
    refine cv_seq_k fun K hK => ?_
    refine cv_region_then rfl ?_
    simp -implicitDefEqProofs (disch := first | omega | decide) only [seval, -Int.reducePow, -Nat.reducePow, cA, cB, pv, binv, fresh, thenQ, blockQ, retQ, Value.oneCell', Value.cells, iBox, insV, uV, undef, Nat.mul_one, g5_1]
    refine hK _ _ ?_
    clear hK K
    refine cv_ret ⟨_, (by simp -implicitDefEqProofs (disch := first | omega | decide) only [seval, -Int.reducePow, -Nat.reducePow, cA, cB, pv, binv, fresh, thenQ, blockQ, retQ, Value.oneCell', Value.cells, iBox, insV, uV, undef, Nat.mul_one, g5_1]; rfl), fun w hw => ?_⟩
    exact ⟨by unfold Ins.err; rw [if_neg h, if_neg (by rintro ⟨h1, -⟩; exact h1 ha)], hw.below⟩
  · have ha' : decide (argP i.op) = false := decide_eq_false ha
    refine cv_region_then rfl ?_
    simp -implicitDefEqProofs (disch := first | omega | decide) only [seval, -Int.reducePow, -Nat.reducePow, cA, cB, pv, binv, fresh, thenQ, blockQ, retQ, Value.oneCell', Value.cells, iBox, insV, uV, undef, Nat.mul_one, g5_1]
    refine callV_ret (fun w hw => i_hasArg_any i.op w) ?_
    try simp -implicitDefEqProofs (disch := first | omega | decide) only [seval, -Int.reducePow, -Nat.reducePow, cA, cB, pv, binv, fresh, thenQ, blockQ, retQ, Value.oneCell', Value.cells, iBox, insV, uV, undef, Nat.mul_one, ha', g5_1]
    refine hK _ _ ?_
    clear hK K
    refine cv_cond ?_
    simp -implicitDefEqProofs (disch := first | omega | decide) only [seval, -Int.reducePow, -Nat.reducePow, cA, cB, pv, binv, fresh, thenQ, blockQ, retQ, Value.oneCell', Value.cells, iBox, insV, uV, undef, Nat.mul_one, g5_1]
    refine ⟨fun hc => ?_, fun hc => ?_⟩
    · have hz : ¬ i.arg = 0 := by simp at hc; omega
      refine cv_seq_k fun K hK => ?_
      refine cv_region_then rfl ?_
      simp -implicitDefEqProofs (disch := first | omega | decide) only [seval, -Int.reducePow, -Nat.reducePow, cA, cB, pv, binv, fresh, thenQ, blockQ, retQ, Value.oneCell', Value.cells, iBox, insV, uV, undef, Nat.mul_one, g5_1]
      refine hK _ _ ?_
      clear hK K
      refine cv_ret ⟨_, (by simp -implicitDefEqProofs (disch := first | omega | decide) only [seval, -Int.reducePow, -Nat.reducePow, cA, cB, pv, binv, fresh, thenQ, blockQ, retQ, Value.oneCell', Value.cells, iBox, insV, uV, undef, Nat.mul_one, g5_1]; rfl), fun w hw => ?_⟩
      exact ⟨by unfold Ins.err; rw [if_neg h, if_pos ⟨ha, hz⟩], hw.below⟩
    have hz : i.arg = 0 := by simp at hc; omega
    refine cv_skip ?_
    try simp only [blockQ, thenQ]
    refine hK _ _ ?_
    clear hK K
    refine cv_seq_k fun K hK => ?_
    refine cv_region_then rfl ?_
    simp -implicitDefEqProofs (disch := first | omega | decide) only [seval, -Int.reducePow, -Nat.reducePow, cA, cB, pv, binv, fresh, thenQ, blockQ, retQ, Value.oneCell', Value.cells, iBox, insV, uV, undef, Nat.mul_one, g5_1]
    refine hK _ _ ?_
    clear hK K
    refine cv_ret ⟨_, (by simp -implicitDefEqProofs (disch := first | omega | decide) only [seval, -Int.reducePow, -Nat.reducePow, cA, cB, pv, binv, fresh, thenQ, blockQ, retQ, Value.oneCell', Value.cells, iBox, insV, uV, undef, Nat.mul_one, g5_1]; rfl), fun w hw => ?_⟩
    exact ⟨by unfold Ins.err; rw [if_neg h, if_neg (by rintro ⟨-, h1⟩; exact h1 hz)], hw.below⟩
set_option maxHeartbeats 1000000 in
theorem i_ienc_any (i : Ins) (W : World) (hx : i.arg < 18446744073709551616) : Calls Try.prog 33 #[insV i] W (rowP 5 1 (fun v => .tuple #[v, .int .i64 i.err]) (byt (encIE i)) W) := by
  refine calls_cv (M := []) (n := 23) [.tmp 2, .tmp 3] rfl Try.func33 rfl rfl (Nat.le_of_ble_eq_true rfl) (St.nil _ _) ?_
  refine cv_seq_k fun K hK => ?_
  refine cv_region_then rfl ?_
  simp -implicitDefEqProofs (disch := first | omega | decide) only [seval, -Int.reducePow, -Nat.reducePow, cA, cB, pv, binv, fresh, thenQ, blockQ, retQ, Value.oneCell', Value.cells, iBox, insV, uV, undef, Nat.mul_one]
  intro b hb
  refine hK _ _ ?_
  clear hK K
  refine cv_gen fun G6 hG => ?_
  have g6_1 := congrFun hG 1
  clear hG
  try simp -implicitDefEqProofs (disch := first | omega | decide) only [seval, -Int.reducePow, -Nat.reducePow, cA, cB, pv, binv, fresh, thenQ, blockQ, retQ, Value.oneCell', Value.cells, iBox, insV, uV, undef, Nat.mul_one] at g6_1
  refine cv_seq_k fun K hK => ?_
  refine cv_seq_k fun K hK => ?_
  refine cv_region_then rfl ?_
  simp -implicitDefEqProofs (disch := first | omega | decide) only [seval, -Int.reducePow, -Nat.reducePow, cA, cB, pv, binv, fresh, thenQ, blockQ, retQ, Value.oneCell', Value.cells, iBox, insV, uV, undef, Nat.mul_one, g6_1]
  refine callV_ret (fun w hw => i_icheck_any i w) ?_
  try simp -implicitDefEqProofs (disch := first | omega | decide) only [seval, -Int.reducePow, -Nat.reducePow, cA, cB, pv, binv, fresh, thenQ, blockQ, retQ, Value.oneCell', Value.cells, iBox, insV, uV, undef, Nat.mul_one, g6_1]
  refine hK _ _ ?_
  clear hK K
  refine cv_seq_k fun K hK => ?_
  refine cv_region_then rfl ?_
  simp -implicitDefEqProofs (disch := first | omega | decide) only [seval, -Int.reducePow, -Nat.reducePow, cA, cB, pv, binv, fresh, thenQ, blockQ, retQ, Value.oneCell', Value.cells, iBox, insV, uV, undef, Nat.mul_one, g6_1]
  refine hK _ _ ?_
  clear hK K
  refine cv_cond ?_
  simp -implicitDefEqProofs (disch := first | omega | decide) only [seval, -Int.reducePow, -Nat.reducePow, cA, cB, pv, binv, fresh, thenQ, blockQ, retQ, Value.oneCell', Value.cells, iBox, insV, uV, undef, Nat.mul_one, g6_1]
  refine ⟨fun hc => ?_, fun hc => ?_⟩
  · have hz : ¬ i.err = 0 := by simpa using hc
    refine cv_seq_k fun K hK => ?_
    refine cv_region_then rfl ?_
    simp -implicitDefEqProofs (disch := first | omega | decide) only [seval, -Int.reducePow, -Nat.reducePow, cA, cB, pv, binv, fresh, thenQ, blockQ, retQ, Value.oneCell', Value.cells, iBox, insV, uV, undef, Nat.mul_one, g6_1]
    refine hK _ _ ?_
    clear hK K
    refine cv_ret ⟨_, (by simp -implicitDefEqProofs (disch := first | omega | decide) only [seval, -Int.reducePow, -Nat.reducePow, cA, cB, pv, binv, fresh, thenQ, blockQ, retQ, Value.oneCell', Value.cells, iBox, insV, uV, undef, Nat.mul_one, g6_1]; rfl), fun w hw => ?_⟩
    exact ⟨none, 0, 0, rfl, by unfold encIE; rw [if_neg hz]; exact World.ownsRow_nil _ _ _ _, hw.below⟩
  have hz : i.err = 0 := by simpa using hc
  have hz2 := Ins.err_zero hz
  have hE : encIE i = encI i := by unfold encIE; rw [if_pos hz]
  have e1 : IntKind.u8.wrap i.op = ((i.op.toNat : Nat) : Int) := by
    have := hz2.1
    rw [IntKind.wrap_u8]
    omega
  refine cv_skip ?_
  try simp only [blockQ, thenQ]
  refine hK _ _ ?_
  clear hK K
  refine cv_seq_k fun K hK => ?_
  refine cv_region_then rfl ?_
  simp -implicitDefEqProofs (disch := first | omega | decide) only [seval, -Int.reducePow, -Nat.reducePow, cA, cB, pv, binv, fresh, thenQ, blockQ, retQ, Value.oneCell', Value.cells, iBox, insV, uV, undef, Nat.mul_one, e1, g6_1]
  intro b5 hb5 h5
  refine hK _ _ ?_
  clear hK K
  refine cv_gen fun G7 hG => ?_
  have g7_1 := congrFun hG 1
  have g7_5 := congrFun hG 5
  clear hG
  try simp -implicitDefEqProofs (disch := first | omega | decide) only [seval, -Int.reducePow, -Nat.reducePow, cA, cB, pv, binv, fresh, thenQ, blockQ, retQ, Value.oneCell', Value.cells, iBox, insV, uV, undef, Nat.mul_one, g6_1] at g7_1 g7_5
  have hb1 : byt [i.op.toNat] = [.int .u8 ((i.op.toNat : Nat) : Int)] := rfl
  refine cv_seq_k fun K hK => ?_
  by_cases ha : argP i.op
  · have ha' : decide (argP i.op) = true := decide_eq_true ha
    have hE2 : encI i = [i.op.toNat] ++ putU i.arg := by unfold encI; rw [if_pos ha]; rfl
    refine cv_seq_k fun K hK => ?_
    refine cv_region_then rfl ?_
    simp -implicitDefEqProofs (disch := first | omega | decide) only [seval, -Int.reducePow, -Nat.reducePow, cA, cB, pv, binv, fresh, thenQ, blockQ, retQ, Value.oneCell', Value.cells, iBox, insV, uV, undef, Nat.mul_one, g7_1, g7_5]
    refine callV_ret (fun w hw => i_hasArg_any i.op w) ?_
    try simp -implicitDefEqProofs (disch := first | omega | decide) only [seval, -Int.reducePow, -Nat.reducePow, cA, cB, pv, binv, fresh, thenQ, blockQ, retQ, Value.oneCell', Value.cells, iBox, insV, uV, undef, Nat.mul_one, ha', g7_1, g7_5]
    refine hK _ _ ?_
    clear hK K
    refine cv_cond ?_
    simp -implicitDefEqProofs (disch := first | omega | decide) only [seval, -Int.reducePow, -Nat.reducePow, cA, cB, pv, binv, fresh, thenQ, blockQ, retQ, Value.oneCell', Value.cells, iBox, insV, uV, undef, Nat.mul_one, g7_1, g7_5]
    refine cv_region_q rfl ?_
    simp -implicitDefEqProofs (disch := first | omega | decide) only [seval, -Int.reducePow, -Nat.reducePow, cA, cB, pv, binv, fresh, thenQ, blockQ, retQ, Value.oneCell', Value.cells, iBox, insV, uV, undef, Nat.mul_one, g7_1, g7_5]
    refine callV_row (fun A' n' c' => .slice A' n' c') (fun w hw => put_any (some ⟨b5, 0, none⟩) 1 1 [i.op.toNat] i.arg w (Sl.of_blk hw (.head _) rfl (by omega)) (by omega) hx) ?_
    intro A1 n1 c1 hl1 _
    simp -implicitDefEqProofs (disch := first | omega | decide) only [seval, -Int.reducePow, -Nat.reducePow, cA, cB, pv, binv, fresh, thenQ, blockQ, retQ, Value.oneCell', Value.cells, iBox, insV, uV, undef, Nat.mul_one, g7_1, g7_5]
    refine hK _ _ ?_
    clear hK K
    refine cv_seq_k fun K hK => ?_
    refine cv_region_then rfl ?_
    simp -implicitDefEqProofs (disch := first | omega | decide) only [seval, -Int.reducePow, -Nat.reducePow, cA, cB, pv, binv, fresh, thenQ, blockQ, retQ, Value.oneCell', Value.cells, iBox, insV, uV, undef, Nat.mul_one, g7_1, g7_5]
    refine hK _ _ ?_
    clear hK K
    refine cv_ret ⟨_, (by simp -implicitDefEqProofs (disch := first | omega | decide) only [seval, -Int.reducePow, -Nat.reducePow, cA, cB, pv, binv, fresh, thenQ, blockQ, retQ, Value.oneCell', Value.cells, iBox, insV, uV, undef, Nat.mul_one, g7_1, g7_5]; rfl), fun w hw => ?_⟩
    exact ⟨A1, n1, c1, by rw [hz], by rw [hE, hE2]; exact hw.rowNew (by simp), hw.below⟩
  · have ha' : decide (argP i.op) = false := decide_eq_false ha
    have hE2 : encI i = [i.op.toNat] := by unfold encI; rw [if_neg ha]
    refine cv_seq_k fun K hK => ?_
    refine cv_region_then rfl ?_
    simp -implicitDefEqProofs (disch := first | omega | decide) only [seval, -Int.reducePow, -Nat.reducePow, cA, cB, pv, binv, fresh, thenQ, blockQ, retQ, Value.oneCell', Value.cells, iBox, insV, uV, undef, Nat.mul_one, g7_1, g7_5]
    refine callV_ret (fun w hw => i_hasArg_any i.op w) ?_
    try simp -implicitDefEqProofs (disch := first | omega | decide) only [seval, -Int.reducePow, -Nat.reducePow, cA, cB, pv, binv, fresh, thenQ, blockQ, retQ, Value.oneCell', Value.cells, iBox, insV, uV, undef, Nat.mul_one, ha', g7_1, g7_5]
    refine hK _ _ ?_
    clear hK K
    refine cv_cond ?_
    simp -implicitDefEqProofs (disch := first | omega | decide) only [seval, -Int.reducePow, -Nat.reducePow, cA, cB, pv, binv, fresh, thenQ, blockQ, retQ, Value.oneCell', Value.cells, iBox, insV, uV, undef, Nat.mul_one, g7_1, g7_5]
    refine cv_skip ?_
    try simp only [blockQ, thenQ]
    refine hK _ _ ?_
    clear hK K
    refine cv_seq_k fun K hK => ?_
    refine cv_region_then rfl ?_
    simp -implicitDefEqProofs (disch := first | omega | decide) only [seval, -Int.reducePow, -Nat.reducePow, cA, cB, pv, binv, fresh, thenQ, blockQ, retQ, Value.oneCell', Value.cells, iBox, insV, uV, undef, Nat.mul_one, g7_1, g7_5]
    refine hK _ _ ?_
    clear hK K
    refine cv_ret ⟨_, (by simp -implicitDefEqProofs (disch := first | omega | decide) only [seval, -Int.reducePow, -Nat.reducePow, cA, cB, pv, binv, fresh, thenQ, blockQ, retQ, Value.oneCell', Value.cells, iBox, insV, uV, undef, Nat.mul_one, g7_1, g7_5]; rfl), fun w hw => ?_⟩
    have hr := hw.blk_row (size := 1) (n := 1) rfl (by omega)
    exact ⟨some ⟨b5, 0, none⟩, 1, 1, by rw [hz], by rw [hE, hE2]; exact hr.rowNew (by simp), hw.below⟩
/-- The values of an instruction that was read. -/
def diV (r : Ins × Nat × Int) : Value := .tuple #[.agg #[.int .i64 r.1.op, .int .u64 (r.1.arg : Int)], .int .i64 (r.2.1 : Int), .int .i64 r.2.2]
set_option maxHeartbeats 1000000 in
theorem i_dec_any (A : Option Addr) (n c : Nat) (l : List Nat) (W : World) (hE : Sl W W.heap.size 1 A n c (byt l)) (hb : ∀ x ∈ l, x < 256) :
    Calls Try.prog 73 #[.slice A n c] W fun e w' => e = .returned (diV (decI l)) ∧ Below W.heap.size W w' := by
  have hln : l.length = n := byt_row hE.len
  have hcap := hE.cap
  have hmax := hE.max
  refine calls_cv2 (M := []) (n := 44) [.cell 2 46, .tmp 3, .tmp 4] rfl Try.func73 rfl rfl (Nat.le_of_ble_eq_true rfl) (St.nil _ _) ?_
  refine cv_seq_k fun K hK => ?_
  refine cv_region_then rfl ?_
  simp -implicitDefEqProofs (disch := first | omega | decide) only [seval, -Int.reducePow, -Nat.reducePow, cA, cB, pv, binv, fresh, thenQ, blockQ, retQ, Value.oneCell', Value.cells, iBox, insV, uV, undef, Nat.mul_one, diV]
  intro b2 hb2
  refine hK _ _ ?_
  clear hK K
  refine cv_gen fun G8 hG => ?_
  have g8_0 := congrFun hG 0
  have g8_2 := congrFun hG 2
  clear hG
  try simp -implicitDefEqProofs (disch := first | omega | decide) only [seval, -Int.reducePow, -Nat.reducePow, cA, cB, pv, binv, fresh, thenQ, blockQ, retQ, Value.oneCell', Value.cells, iBox, insV, uV, undef, Nat.mul_one, diV] at g8_0 g8_2
  refine cv_seq_k fun K hK => ?_
  refine cv_seq_k fun K hK => ?_
  refine cv_region_then rfl ?_
  simp -implicitDefEqProofs (disch := first | omega | decide) only [seval, -Int.reducePow, -Nat.reducePow, cA, cB, pv, binv, fresh, thenQ, blockQ, retQ, Value.oneCell', Value.cells, iBox, insV, uV, undef, Nat.mul_one, diV, g8_0, g8_2]
  refine hK _ _ ?_
  clear hK K
  refine cv_cond ?_
  simp -implicitDefEqProofs (disch := first | omega | decide) only [seval, -Int.reducePow, -Nat.reducePow, cA, cB, pv, binv, fresh, thenQ, blockQ, retQ, Value.oneCell', Value.cells, iBox, insV, uV, undef, Nat.mul_one, diV, g8_0, g8_2]
  refine ⟨fun hc => ?_, fun hc => ?_⟩
  · have hn : n = 0 := by have := of_decide_eq_true hc; omega
    have hl : l = [] := List.eq_nil_of_length_eq_zero (by omega)
    refine cv_seq_k fun K hK => ?_
    refine cv_region_then rfl ?_
    simp -implicitDefEqProofs (disch := first | omega | decide) only [seval, -Int.reducePow, -Nat.reducePow, cA, cB, pv, binv, fresh, thenQ, blockQ, retQ, Value.oneCell', Value.cells, iBox, insV, uV, undef, Nat.mul_one, diV, g8_0, g8_2]
    refine hK _ _ ?_
    clear hK K
    refine cv_ret ?_
    simp -implicitDefEqProofs (disch := first | omega | decide) only [seval, -Int.reducePow, -Nat.reducePow, cA, cB, pv, binv, fresh, thenQ, blockQ, retQ, Value.oneCell', Value.cells, iBox, insV, uV, undef, Nat.mul_one, diV, retQ2, ressV, packV, g8_0, g8_2]
    intro w hw
    rw [hl]
    exact ⟨rfl, hw.below⟩
  have hn : 0 < n := by have := of_decide_eq_false hc; omega
  obtain ⟨b0, off, rfl, hb0, -⟩ := hE.cells hn
  obtain ⟨x, r, rfl⟩ : ∃ x r, l = x :: r := by
    cases l with
    | nil => simp at hln; omega
    | cons x r => exact ⟨x, r, rfl⟩
  have hxb := hb x (by simp)
  have hbr : ∀ y ∈ r, y < 256 := fun y hy => hb y (by simp [hy])
  have hl0 := hE.ld1 (L := [.blk b2 46 [.int .i64 0, .int .u64 0]]) (P := Try.prog) (T := 5) (i := 0) (m := 1) (by kernel_rfl) (byt_get (x := x) rfl)
  rw [Nat.add_zero] at hl0
  refine cv_skip ?_
  try simp only [blockQ, thenQ]
  refine hK _ _ ?_
  clear hK K
  refine cv_seq_k fun K hK => ?_
  refine cv_region_then rfl ?_
  simp -implicitDefEqProofs (disch := first | omega | decide) only [seval, -Int.reducePow, -Nat.reducePow, cA, cB, pv, binv, fresh, thenQ, blockQ, retQ, Value.oneCell', Value.cells, iBox, insV, uV, undef, Nat.mul_one, diV, Nat.zero_mul, g8_0, g8_2]
  refine ⟨_, hl0, fun tok htok => ?_⟩
  subst htok
  simp -implicitDefEqProofs (disch := first | omega | decide) only [seval, -Int.reducePow, -Nat.reducePow, cA, cB, pv, binv, fresh, thenQ, blockQ, retQ, Value.oneCell', Value.cells, iBox, insV, uV, undef, Nat.mul_one, diV, wrap_in, g8_0, g8_2]
  intro b5 hb5 h5
  refine hK _ _ ?_
  clear hK K
  refine cv_gen fun G9 hG => ?_
  have g9_0 := congrFun hG 0
  have g9_2 := congrFun hG 2
  have g9_5 := congrFun hG 5
  clear hG
  try simp -implicitDefEqProofs (disch := first | omega | decide) only [seval, -Int.reducePow, -Nat.reducePow, cA, cB, pv, binv, fresh, thenQ, blockQ, retQ, Value.oneCell', Value.cells, iBox, insV, uV, undef, Nat.mul_one, diV, g8_0, g8_2] at g9_0 g9_2 g9_5
  refine cv_seq_k fun K hK => ?_
  refine cv_seq_k fun K hK => ?_
  refine cv_region_then rfl ?_
  simp -implicitDefEqProofs (disch := first | omega | decide) only [seval, -Int.reducePow, -Nat.reducePow, cA, cB, pv, binv, fresh, thenQ, blockQ, retQ, Value.oneCell', Value.cells, iBox, insV, uV, undef, Nat.mul_one, diV, g9_0, g9_2, g9_5]
  refine callV_ret (fun w hw => i_known_any (x : Int) w) ?_
  try simp -implicitDefEqProofs (disch := first | omega | decide) only [seval, -Int.reducePow, -Nat.reducePow, cA, cB, pv, binv, fresh, thenQ, blockQ, retQ, Value.oneCell', Value.cells, iBox, insV, uV, undef, Nat.mul_one, diV, g9_0, g9_2, g9_5]
  refine hK _ _ ?_
  clear hK K
  refine cv_cond ?_
  simp -implicitDefEqProofs (disch := first | omega | decide) only [seval, -Int.reducePow, -Nat.reducePow, cA, cB, pv, binv, fresh, thenQ, blockQ, retQ, Value.oneCell', Value.cells, iBox, insV, uV, undef, Nat.mul_one, diV, g9_0, g9_2, g9_5]
  refine ⟨fun hc => ?_, fun hc => ?_⟩
  · have h : ¬ knownP (x : Int) := nd_true hc
    refine cv_seq_k fun K hK => ?_
    refine cv_region_then rfl ?_
    simp -implicitDefEqProofs (disch := first | omega | decide) only [seval, -Int.reducePow, -Nat.reducePow, cA, cB, pv, binv, fresh, thenQ, blockQ, retQ, Value.oneCell', Value.cells, iBox, insV, uV, undef, Nat.mul_one, diV, g9_0, g9_2, g9_5]
    refine hK _ _ ?_
    clear hK K
    refine cv_ret ?_
    simp -implicitDefEqProofs (disch := first | omega | decide) only [seval, -Int.reducePow, -Nat.reducePow, cA, cB, pv, binv, fresh, thenQ, blockQ, retQ, Value.oneCell', Value.cells, iBox, insV, uV, undef, Nat.mul_one, diV, retQ2, ressV, packV, g9_0, g9_2, g9_5]
    intro w hw
    rw [decI_cons, if_pos h]
    exact ⟨rfl, hw.below⟩
  have h : ¬ ¬ knownP (x : Int) := nd_false hc
  refine cv_skip ?_
  try simp only [blockQ, thenQ]
  refine hK _ _ ?_
  clear hK K
  refine cv_seq_k fun K hK => ?_
  refine cv_seq_k fun K hK => ?_
  refine cv_region_then rfl ?_
  simp -implicitDefEqProofs (disch := first | omega | decide) only [seval, -Int.reducePow, -Nat.reducePow, cA, cB, pv, binv, fresh, thenQ, blockQ, retQ, Value.oneCell', Value.cells, iBox, insV, uV, undef, Nat.mul_one, diV, g9_0, g9_2, g9_5]
  refine callV_ret (fun w hw => i_hasArg_any (x : Int) w) ?_
  try simp -implicitDefEqProofs (disch := first | omega | decide) only [seval, -Int.reducePow, -Nat.reducePow, cA, cB, pv, binv, fresh, thenQ, blockQ, retQ, Value.oneCell', Value.cells, iBox, insV, uV, undef, Nat.mul_one, diV, g9_0, g9_2, g9_5]
  refine hK _ _ ?_
  clear hK K
  refine cv_cond ?_
  simp -implicitDefEqProofs (disch := first | omega | decide) only [seval, -Int.reducePow, -Nat.reducePow, cA, cB, pv, binv, fresh, thenQ, blockQ, retQ, Value.oneCell', Value.cells, iBox, insV, uV, undef, Nat.mul_one, diV, g9_0, g9_2, g9_5]
  refine ⟨fun hc => ?_, fun hc => ?_⟩
  · have ha : ¬ argP (x : Int) := nd_true ‹(!decide (argP (x : Int))) = true›
    refine cv_seq_k fun K hK => ?_
    refine cv_region_then rfl ?_
    simp -implicitDefEqProofs (disch := first | omega | decide) only [seval, -Int.reducePow, -Nat.reducePow, cA, cB, pv, binv, fresh, thenQ, blockQ, retQ, Value.oneCell', Value.cells, iBox, insV, uV, undef, Nat.mul_one, diV, g9_0, g9_2, g9_5]
    refine hK _ _ ?_
    clear hK K
    refine cv_ret ?_
    simp -implicitDefEqProofs (disch := first | omega | decide) only [seval, -Int.reducePow, -Nat.reducePow, cA, cB, pv, binv, fresh, thenQ, blockQ, retQ, Value.oneCell', Value.cells, iBox, insV, uV, undef, Nat.mul_one, diV, retQ2, ressV, packV, g9_0, g9_2, g9_5]
    intro w hw
    rw [decI_cons, if_neg h, if_pos ha]
    exact ⟨rfl, hw.below⟩
  have ha : ¬ ¬ argP (x : Int) := nd_false ‹(!decide (argP (x : Int))) = false›
  have hD := hE.bdrop (k := 1) (by omega)
  rw [List.drop_succ_cons, List.drop_zero] at hD
  have hqc := uD_lt hbr
  obtain ⟨q, hq⟩ : ∃ q, uD 0 r = q := ⟨_, rfl⟩
  rw [hq] at hqc
  refine cv_skip ?_
  try simp only [blockQ, thenQ]
  refine hK _ _ ?_
  clear hK K
  refine cv_seq_k fun K hK => ?_
  refine cv_region_then rfl ?_
  simp -implicitDefEqProofs (disch := first | omega | decide) only [seval, -Int.reducePow, -Nat.reducePow, cA, cB, pv, binv, fresh, thenQ, blockQ, retQ, Value.oneCell', Value.cells, iBox, insV, uV, undef, Nat.mul_one, diV, g9_0, g9_2, g9_5]
  refine callV_ret (fun w hw => uint_any (sbase c 1 1 (some ⟨b0, off, none⟩)) (n - 1) (c - 1) r w (hD.at hw) hbr) ?_
  try simp -implicitDefEqProofs (disch := first | omega | decide) only [seval, -Int.reducePow, -Nat.reducePow, cA, cB, pv, binv, fresh, thenQ, blockQ, retQ, Value.oneCell', Value.cells, iBox, insV, uV, undef, Nat.mul_one, diV, hq, g9_0, g9_2, g9_5]
  refine hK _ _ ?_
  clear hK K
  refine cv_gen fun G10 hG => ?_
  have g10_2 := congrFun hG 2
  have g10_5 := congrFun hG 5
  have g10_6 := congrFun hG 6
  have g10_7 := congrFun hG 7
  have g10_8 := congrFun hG 8
  clear hG
  try simp -implicitDefEqProofs (disch := first | omega | decide) only [seval, -Int.reducePow, -Nat.reducePow, cA, cB, pv, binv, fresh, thenQ, blockQ, retQ, Value.oneCell', Value.cells, iBox, insV, uV, undef, Nat.mul_one, diV, g9_0, g9_2, g9_5] at g10_2 g10_5 g10_6 g10_7 g10_8
  refine cv_seq_k fun K hK => ?_
  refine cv_seq_k fun K hK => ?_
  refine cv_region_then rfl ?_
  simp -implicitDefEqProofs (disch := first | omega | decide) only [seval, -Int.reducePow, -Nat.reducePow, cA, cB, pv, binv, fresh, thenQ, blockQ, retQ, Value.oneCell', Value.cells, iBox, insV, uV, undef, Nat.mul_one, diV, g10_2, g10_5, g10_6, g10_7, g10_8]
  refine hK _ _ ?_
  clear hK K
  refine cv_cond ?_
  simp -implicitDefEqProofs (disch := first | omega | decide) only [seval, -Int.reducePow, -Nat.reducePow, cA, cB, pv, binv, fresh, thenQ, blockQ, retQ, Value.oneCell', Value.cells, iBox, insV, uV, undef, Nat.mul_one, diV, g10_2, g10_5, g10_6, g10_7, g10_8]
  refine ⟨fun hc => ?_, fun hc => ?_⟩
  · have hz : ¬ q.2.2 = 0 := by simpa using ‹(!decide (q.2.2 = 0)) = true›
    refine cv_seq_k fun K hK => ?_
    refine cv_region_then rfl ?_
    simp -implicitDefEqProofs (disch := first | omega | decide) only [seval, -Int.reducePow, -Nat.reducePow, cA, cB, pv, binv, fresh, thenQ, blockQ, retQ, Value.oneCell', Value.cells, iBox, insV, uV, undef, Nat.mul_one, diV, g10_2, g10_5, g10_6, g10_7, g10_8]
    refine hK _ _ ?_
    clear hK K
    refine cv_ret ?_
    simp -implicitDefEqProofs (disch := first | omega | decide) only [seval, -Int.reducePow, -Nat.reducePow, cA, cB, pv, binv, fresh, thenQ, blockQ, retQ, Value.oneCell', Value.cells, iBox, insV, uV, undef, Nat.mul_one, diV, retQ2, ressV, packV, g10_2, g10_5, g10_6, g10_7, g10_8]
    intro w hw
    rw [decI_cons, if_neg h, if_neg ha, hq, if_neg hz]
    exact ⟨rfl, hw.below⟩
  have hz : q.2.2 = 0 := by simpa using ‹(!decide (q.2.2 = 0)) = false›
  have e1 : (1 : Int) + (q.2.1 : Int) = ((1 + q.2.1 : Nat) : Int) := by omega
  refine cv_skip ?_
  try simp only [blockQ, thenQ]
  refine hK _ _ ?_
  clear hK K
  refine cv_seq_k fun K hK => ?_
  refine cv_region_then rfl ?_
  simp -implicitDefEqProofs (disch := first | omega | decide) only [seval, -Int.reducePow, -Nat.reducePow, cA, cB, pv, binv, fresh, thenQ, blockQ, retQ, Value.oneCell', Value.cells, iBox, insV, uV, undef, Nat.mul_one, diV, g10_2, g10_5, g10_6, g10_7, g10_8]
  refine hK _ _ ?_
  clear hK K
  refine cv_seq_k fun K hK => ?_
  refine cv_region_then rfl ?_
  simp -implicitDefEqProofs (disch := first | omega | decide) only [seval, -Int.reducePow, -Nat.reducePow, cA, cB, pv, binv, fresh, thenQ, blockQ, retQ, Value.oneCell', Value.cells, iBox, insV, uV, undef, Nat.mul_one, diV, e1, wrap_in, g10_2, g10_5, g10_6, g10_7, g10_8]
  refine hK _ _ ?_
  clear hK K
  refine cv_ret ?_
  simp -implicitDefEqProofs (disch := first | omega | decide) only [seval, -Int.reducePow, -Nat.reducePow, cA, cB, pv, binv, fresh, thenQ, blockQ, retQ, Value.oneCell', Value.cells, iBox, insV, uV, undef, Nat.mul_one, diV, retQ2, ressV, packV, g10_2, g10_5, g10_6, g10_7, g10_8]
  intro w hw
  rw [decI_cons, if_neg h, if_neg ha, hq, if_pos hz]
  exact ⟨rfl, hw.below⟩
end Go.Proofs.Ytehfnjaompkikaa
