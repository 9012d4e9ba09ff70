/- Control flow and stack heights: plain. -/
import Derived.Test.YtlbmnioibiomfaaGreatDLoad2
import Derived.Test.YtlbmnioibiomfaaGreatDLoad1
namespace Go.Proofs.YtlbmnioibiomfaaGreat
set_option linter.unusedVariables false
set_option linter.unusedSimpArgs false
/-- The arguments of a host call. -/
def arP (c : Nat) : Nat := if c = 1 ∨ c = 2 ∨ c = 11 then 1 else if c = 3 ∨ c = 8 ∨ c = 9 ∨ c = 10 then 2 else if c = 4 ∨ c = 5 then 3 else if c = 6 then 4 else if c = 7 then 5 else 0
abbrev hostP (c : Nat) : Prop := 1 ≤ c ∧ c ≤ 11
theorem arP_le (c : Nat) : arP c ≤ 5 := by
  unfold arP
  repeat' split
  all_goals omega
/-- What an instruction pops and pushes, calls aside. -/
def popP (op : Int) : Nat := if op = 1 ∨ op = 2 then 0 else if op = 3 ∨ op = 4 ∨ op = 20 then 1 else if op = 5 then 1 else if op = 18 then 1 else if op = 19 ∨ op = 24 ∨ op = 25 then 0 else if 6 ≤ op ∧ op ≤ 17 then 2 else 0
def pushP (op : Int) : Nat := if op = 1 ∨ op = 2 then 1 else if op = 3 ∨ op = 4 ∨ op = 20 then 0 else if op = 5 then 2 else if op = 18 then 1 else if op = 19 ∨ op = 24 ∨ op = 25 then 0 else if 6 ≤ op ∧ op ≤ 17 then 1 else 0
abbrev fxOk (op : Int) : Prop := op = 1 ∨ op = 2 ∨ op = 3 ∨ op = 4 ∨ op = 20 ∨ op = 5 ∨ op = 18 ∨ op = 19 ∨ op = 24 ∨ op = 25 ∨ (6 ≤ op ∧ op ≤ 17)
def fxP (gs : List FnR) (i : Ins) : Int × Int :=
  if i.op = 21 then ((gs[i.arg]?.map FnR.p).getD 0, (gs[i.arg]?.map FnR.r).getD 0) else if i.op = 23 then ((arP i.arg : Int), 2) else ((popP i.op : Int), (pushP i.op : Int))
abbrev endsP (op : Int) : Prop := op = 19 ∨ op = 22 ∨ op = 24 ∨ op = 25
/-- The instructions that come next. -/
def nxP (i : Ins) (k : Nat) : List Nat :=
  if i.op = 19 then [i.arg] else if i.op = 20 then (if i.arg < k + 1 then [i.arg, k + 1] else if k + 1 < i.arg then [k + 1, i.arg] else [k + 1]) else if i.op = 22 ∨ i.op = 24 ∨ i.op = 25 then [] else [k + 1]
/-- The fault of an instruction that does not depend on the stack. -/
def stE (gl : Nat) (x : FnR) (k : Nat) (i : Ins) : Int :=
  if (i.op = 19 ∨ i.op = 20) ∧ x.code.length ≤ i.arg then 23 else if (i.op = 2 ∨ i.op = 3) ∧ x.p + x.l ≤ (i.arg : Int) then 25 else if i.op = 21 ∧ gl ≤ i.arg then 26
  else if i.op = 23 ∧ ¬ hostP i.arg then 22 else if k + 1 = x.code.length ∧ ¬ endsP i.op then 27 else 0
def firstS (gl : Nat) (x : FnR) : Nat → List Ins → Int × Int
  | _, [] => (0, -1)
  | k, i :: r => if stE gl x k i = 0 then firstS gl x (k + 1) r else (stE gl x k i, (k : Int))
theorem firstS_no {gl : Nat} {x : FnR} {k : Nat} {i : Ins} (r : List Ins) (h : ¬ stE gl x k i = 0) : firstS gl x k (i :: r) = (stE gl x k i, (k : Int)) := by rw [firstS, if_neg h]
theorem firstS_yes {gl : Nat} {x : FnR} {k : Nat} {i : Ins} (r : List Ins) (h : stE gl x k i = 0) : firstS gl x k (i :: r) = firstS gl x (k + 1) r := by rw [firstS, if_pos h]
theorem firstS_ok {gl : Nat} {x : FnR} : ∀ {k : Nat} {l : List Ins}, (firstS gl x k l).1 = 0 → ∀ (j : Nat) (i : Ins), l[j]? = some i → stE gl x (k + j) i = 0
  | _, [], _, j, i, h => by simp at h
  | k, y :: r, h, j, i, hj => by
    by_cases h0 : stE gl x k y = 0
    · rw [firstS_yes r h0] at h
      cases j with
      | zero => simp at hj; subst hj; exact h0
      | succ j =>
        have := firstS_ok h j i (by simpa using hj)
        rwa [show k + (j + 1) = k + 1 + j by omega]
    · rw [firstS_no r h0] at h; exact absurd h h0
/-- The function of that number. -/
def fnAt (m : ModR) (f : Int) : Option FnR := if f < 0 then none else m.gs[f.toNat]?
theorem fnAt_some {m : ModR} {f : Int} {x : FnR} (h : fnAt m f = some x) : ∃ k : Nat, f = (k : Int) ∧ m.gs[k]? = some x := by
  unfold fnAt at h
  split at h
  · cases h
  · exact ⟨f.toNat, by omega, h⟩
theorem fnAt_nat {m : ModR} (k : Nat) : fnAt m (k : Int) = m.gs[k]? := by
  unfold fnAt
  rw [if_neg (by omega), Int.toNat_natCast]
def stX (gl : Nat) (f : Int) (x : FnR) : Flt := if (firstS gl x 0 x.code).1 = 0 then fineF else ((firstS gl x 0 x.code).1, f, (firstS gl x 0 x.code).2)
def stF (m : ModR) (f : Int) : Flt := if (chkM m).1 = 0 then (match fnAt m f with | none => (26, -1, -1) | some x => stX m.gs.length f x) else chkM m
theorem stF_ok {m : ModR} {f : Int} (h : (stF m f).1 = 0) : (chkM m).1 = 0 ∧ ∃ (k : Nat) (x : FnR), f = (k : Int) ∧ m.gs[k]? = some x ∧ ∀ (j : Nat) (i : Ins), x.code[j]? = some i → stE m.gs.length x j i = 0 := by
  unfold stF at h
  split at h
  · rename_i h0
    cases hx : fnAt m f with
    | none => rw [hx] at h; exact absurd (show (26 : Int) = 0 from h) (by decide)
    | some x =>
      rw [hx] at h
      obtain ⟨k, rfl, hk⟩ := fnAt_some hx
      refine ⟨h0, k, x, rfl, hk, fun j i hj => ?_⟩
      simp only [stX] at h
      split at h
      · rename_i h1
        have := firstS_ok h1 j i hj
        rwa [Nat.zero_add] at this
      · rename_i h1
        exact absurd h h1
  · rename_i h0
    exact absurd h h0
/-! ## Heights -/
def hAt (h : List Int) (k : Nat) : Int := (h[k]?).getD (-1)
theorem hAt_get {h : List Int} {k : Nat} (hk : k < h.length) : h[k]? = some (hAt h k) := by
  unfold hAt
  rw [List.getElem?_eq_getElem hk]
  rfl
theorem hAt_set {h : List Int} {k j : Nat} {v : Int} (hk : k < h.length) : hAt (h.set k v) j = if k = j then v else hAt h j := by
  unfold hAt
  rw [List.getElem?_set]
  split
  · rename_i e
    subst e
    first | rfl | (rw [if_pos hk]; rfl)
  · rfl
/-- Reached, and not yet done. -/
def openB (h : List Int) (d : List Bool) (k : Nat) : Bool := decide (hAt h k ≠ -1) && !((d[k]?).getD true)
def leastB (h : List Int) (d : List Bool) : Option Nat := (List.range h.length).find? (openB h d)
theorem leastB_some {h : List Int} {d : List Bool} {k : Nat} (hk : k < h.length) (ho : openB h d k = true) (hb : ∀ j, j < k → openB h d j = false) : leastB h d = some k := by
  unfold leastB
  rw [List.find?_range_eq_some]
  exact ⟨ho, by simpa using hk, fun j hj => by rw [hb j hj]; rfl⟩
theorem leastB_none {h : List Int} {d : List Bool} (hb : ∀ j, j < h.length → openB h d j = false) : leastB h d = none := by
  unfold leastB
  rw [List.find?_eq_none]
  intro j hj
  rw [hb j (List.mem_range.1 hj)]
  decide
theorem leastB_inv {h : List Int} {d : List Bool} {k : Nat} (hk : leastB h d = some k) : k < h.length ∧ openB h d k = true ∧ ∀ j, j < k → openB h d j = false := by
  unfold leastB at hk
  rw [List.find?_range_eq_some] at hk
  exact ⟨by simpa using hk.2.1, hk.1, fun j hj => by simpa using hk.2.2 j hj⟩
/-- The successors get their height. -/
def updF : List Nat → Int → List Int → Option (List Int)
  | [], _, h => some h
  | k :: l, v, h => if hAt h k ≠ -1 ∧ hAt h k ≠ v then none else updF l v (h.set k v)
def stepF (gs : List FnR) (x : FnR) (h : List Int) (k : Nat) (i : Ins) : Option (List Int) :=
  if (i.op = 22 ∧ hAt h k ≠ x.r) ∨ hAt h k < (fxP gs i).1 ∨ 64 < hAt h k + (fxP gs i).2 - (fxP gs i).1 then none else updF (nxP i k) (hAt h k + (fxP gs i).2 - (fxP gs i).1) h
def insAt (x : FnR) (k : Nat) : Ins := (x.code[k]?).getD ⟨0, 0⟩
theorem insAt_of {x : FnR} {k : Nat} {i : Ins} (h : x.code[k]? = some i) : insAt x k = i := by unfold insAt; rw [h]; rfl
def runF (gs : List FnR) (x : FnR) : Nat → List Int → List Bool → List Int ⊕ Nat
  | 0, h, _ => .inl h
  | q + 1, h, d => match leastB h d with
    | none => .inl h
    | some k => match stepF gs x h k (insAt x k) with
      | none => .inr k
      | some h' => runF gs x q h' (d.set k true)
def undone (d : List Bool) : Nat := (d.filter fun b => !b).length
theorem undone_set {d : List Bool} {k : Nat} (h : d[k]? = some false) : undone d = undone (d.set k true) + 1 := by
  unfold undone
  induction d generalizing k with
  | nil => simp at h
  | cons b d ih =>
    cases k with
    | zero => simp at h; subst h; simp
    | succ k =>
      have := ih (by simpa using h)
      cases b <;> simp [this]
def h0F (n : Nat) : List Int := (List.replicate n (-1)).set 0 0
def hgtR (gs : List FnR) (x : FnR) : List Int ⊕ Nat := runF gs x x.code.length (h0F x.code.length) (List.replicate x.code.length false)
def hgtV (f : Int) : List Int ⊕ Nat → List Int × Flt
  | .inl h => (h, fineF)
  | .inr k => ([], (24, f, (k : Int)))
def hgtF (m : ModR) (f : Int) : List Int × Flt := if (stF m f).1 = 0 then (match fnAt m f with | none => ([], fineF) | some x => hgtV f (hgtR m.gs x)) else ([], stF m f)
theorem hgtF_no {m : ModR} {f : Int} (h : ¬ (stF m f).1 = 0) : hgtF m f = ([], stF m f) := by unfold hgtF; rw [if_neg h]
theorem hgtF_yes {m : ModR} {k : Nat} {x : FnR} (h : (stF m (k : Int)).1 = 0) (hx : m.gs[k]? = some x) : hgtF m (k : Int) = hgtV (k : Int) (hgtR m.gs x) := by
  unfold hgtF
  rw [if_pos h, fnAt_nat, hx]
end Go.Proofs.YtlbmnioibiomfaaGreat
/- Effect, Arity, Ends: in the code and in the reference. -/
namespace Go.Proofs.YtlbmnioibiomfaaGreat
open Go.RowKit Go.Shelf
set_option linter.unusedVariables false
set_option linter.unusedSimpArgs false
set_option maxRecDepth 100000
theorem i_ends_any (op : Int) (W : World) : Calls Tryz.prog 84 #[.int .i64 op] W fun e w' => e = .returned (.bool (decide (endsP op))) ∧ Below W.heap.size W w' := by
  refine calls_cv (M := []) (n := 17) [.tmp 2] rfl Tryz.func84 rfl rfl (Nat.le_of_ble_eq_true rfl) (St.nil _ _) ?_
  refine cv_seq_k fun K hK => ?_
  refine cv_region_then rfl ?_
  simp -implicitDefEqProofs (disch := first | omega | decide) only [seval, -Int.reducePow, -Nat.reducePow, cC, pv, binv, undef, Nat.mul_one]
  refine hK _ _ ?_
  clear hK K
  refine cv_gen fun G1 hG => ?_
  have g1_0 := congrFun hG 0
  clear hG
  try simp -implicitDefEqProofs (disch := first | omega | decide) only [seval, -Int.reducePow, -Nat.reducePow, cC, pv, binv, undef, Nat.mul_one] at g1_0
  have g1 := g1_0
  refine cv_seq_k fun K hK => ?_
  refine cv_cut (fun _ _ => True) (fun F' L' => F' 2 = .bool (decide (endsP op)) ∧ L' = []) ?_ ?_
  · refine cv_region_then rfl ?_
    simp -implicitDefEqProofs (disch := first | omega | decide) only [seval, -Int.reducePow, -Nat.reducePow, cC, pv, binv, undef, Nat.mul_one, g1]
    repeat' ((first | refine vcg_cases (fun hg => ?_) (fun hg => ?_) | refine vdg_cases (fun hg => ?_) (fun hg => ?_)) <;> ((try simp only [Bool.not_eq_true', Bool.not_eq_false', decide_eq_true_eq, decide_eq_false_iff_not] at hg); (try simp -implicitDefEqProofs (disch := first | omega | decide) only [seval, -Int.reducePow, -Nat.reducePow, cC, pv, binv, undef, Nat.mul_one, hg, g1])))
    all_goals (repeat' refine And.intro ?_ ?_)
    all_goals (first | with_reducible rfl | (refine congrArg Value.bool ?_; rw [Bool.eq_iff_iff]; (try simp only [endsP, decide_eq_true_eq, eq_self, true_and, and_true, false_and, and_false, true_or, or_true, false_or, or_false, not_true_eq_false, not_false_eq_true, true_iff, iff_true, false_iff, iff_false, Bool.false_eq_true, Bool.not_eq_true', Bool.not_eq_true, decide_eq_false_iff_not, Bool.and_eq_true, Bool.or_eq_true]) <;> omega) | (refine congrArg (Value.int _) ?_; omega) | omega)
  intro G2 L' _ hF
  obtain ⟨q2, rfl⟩ := hF
  have g2_2 := q2
  clear q2
  have g2 := g2_2
  refine hK _ _ ?_
  clear hK K
  refine cv_ret ⟨_, (by simp -implicitDefEqProofs (disch := first | omega | decide) only [seval, -Int.reducePow, -Nat.reducePow, cC, pv, binv, undef, Nat.mul_one, g2]; rfl), fun w hw => ?_⟩
  exact ⟨rfl, hw.below⟩
theorem r_ends_any (op : Int) (W : World) : Calls Tryz.prog 101 #[.int .i64 op] W fun e w' => e = .returned (.bool (decide (endsP op))) ∧ Below W.heap.size W w' := by
  refine calls_cv (M := []) (n := 17) [.tmp 2] rfl Tryz.func101 rfl rfl (Nat.le_of_ble_eq_true rfl) (St.nil _ _) ?_
  refine cv_seq_k fun K hK => ?_
  refine cv_region_then rfl ?_
  simp -implicitDefEqProofs (disch := first | omega | decide) only [seval, -Int.reducePow, -Nat.reducePow, cC, pv, binv, undef, Nat.mul_one]
  refine hK _ _ ?_
  clear hK K
  refine cv_gen fun G3 hG => ?_
  have g3_0 := congrFun hG 0
  clear hG
  try simp -implicitDefEqProofs (disch := first | omega | decide) only [seval, -Int.reducePow, -Nat.reducePow, cC, pv, binv, undef, Nat.mul_one] at g3_0
  have g3 := g3_0
  refine cv_seq_k fun K hK => ?_
  refine cv_cut (fun _ _ => True) (fun F' L' => F' 2 = .bool (decide (endsP op)) ∧ L' = []) ?_ ?_
  · refine cv_region_then rfl ?_
    simp -implicitDefEqProofs (disch := first | omega | decide) only [seval, -Int.reducePow, -Nat.reducePow, cC, pv, binv, undef, Nat.mul_one, g3]
    repeat' ((first | refine vcg_cases (fun hg => ?_) (fun hg => ?_) | refine vdg_cases (fun hg => ?_) (fun hg => ?_)) <;> ((try simp only [Bool.not_eq_true', Bool.not_eq_false', decide_eq_true_eq, decide_eq_false_iff_not] at hg); (try simp -implicitDefEqProofs (disch := first | omega | decide) only [seval, -Int.reducePow, -Nat.reducePow, cC, pv, binv, undef, Nat.mul_one, hg, g3])))
    all_goals (repeat' refine And.intro ?_ ?_)
    all_goals (first | with_reducible rfl | (refine congrArg Value.bool ?_; rw [Bool.eq_iff_iff]; (try simp only [endsP, decide_eq_true_eq, eq_self, true_and, and_true, false_and, and_false, true_or, or_true, false_or, or_false, not_true_eq_false, not_false_eq_true, true_iff, iff_true, false_iff, iff_false, Bool.false_eq_true, Bool.not_eq_true', Bool.not_eq_true, decide_eq_false_iff_not, Bool.and_eq_true, Bool.or_eq_true]) <;> omega) | (refine congrArg (Value.int _) ?_; omega) | omega)
  intro G4 L' _ hF
  obtain ⟨q2, rfl⟩ := hF
  have g4_2 := q2
  clear q2
  have g4 := g4_2
  refine hK _ _ ?_
  clear hK K
  refine cv_ret ⟨_, (by simp -implicitDefEqProofs (disch := first | omega | decide) only [seval, -Int.reducePow, -Nat.reducePow, cC, pv, binv, undef, Nat.mul_one, g4]; rfl), fun w hw => ?_⟩
  exact ⟨rfl, hw.below⟩
set_option maxHeartbeats 1000000 in
theorem i_arity_any (c : Nat) (W : World) : Calls Tryz.prog 104 #[.int .i64 (c : Int)] W fun e w' => e = .returned (.tuple #[.int .i64 (arP c : Int), .bool (decide (hostP c))]) ∧ Below W.heap.size W w' := by
  refine calls_cv (M := []) (n := 21) [.tmp 2, .tmp 3] rfl Tryz.func104 rfl rfl (Nat.le_of_ble_eq_true rfl) (St.nil _ _) ?_
  refine cv_seq_k fun K hK => ?_
  refine cv_region_then rfl ?_
  simp -implicitDefEqProofs (disch := first | omega | decide) only [seval, -Int.reducePow, -Nat.reducePow, cC, pv, binv, undef, Nat.mul_one]
  refine hK _ _ ?_
  clear hK K
  refine cv_seq_k fun K hK => ?_
  refine cv_seq_k fun K hK => ?_
  refine cv_region_then rfl ?_
  simp -implicitDefEqProofs (disch := first | omega | decide) only [seval, -Int.reducePow, -Nat.reducePow, cC, pv, binv, undef, Nat.mul_one]
  refine hK _ _ ?_
  clear hK K
  refine cv_gen fun G5 hG => ?_
  have g5_4 := congrFun hG 4
  clear hG
  try simp -implicitDefEqProofs (disch := first | omega | decide) only [seval, -Int.reducePow, -Nat.reducePow, cC, pv, binv, undef, Nat.mul_one] at g5_4
  have g5 := g5_4
  refine cv_block ?_
  refine cv_seq_k fun K hK => ?_
  refine cv_cut (fun _ _ => True) (fun F' L' => F' 4 = G5 4 ∧ F' 5 = .bool (decide ((c : Int) = 1 ∨ (c : Int) = 2 ∨ (c : Int) = 11)) ∧ L' = []) ?_ ?_
  · refine cv_seq_k fun K hK => ?_
    refine cv_region_then rfl ?_
    simp -implicitDefEqProofs (disch := first | omega | decide) only [seval, -Int.reducePow, -Nat.reducePow, cC, pv, binv, undef, Nat.mul_one, g5]
    refine hK _ _ ?_
    clear hK K
    refine cv_cond ?_
    simp -implicitDefEqProofs (disch := first | omega | decide) only [seval, -Int.reducePow, -Nat.reducePow, cC, pv, binv, undef, Nat.mul_one, g5]
    refine ⟨fun hc => ?_, fun hc => ?_⟩
    · have q0 := of_decide_eq_true ‹_›
      refine cv_skip ?_
      try simp only [blockQ, thenQ]
      simp -implicitDefEqProofs (disch := first | omega | decide) only [seval, -Int.reducePow, -Nat.reducePow, cC, pv, binv, undef, Nat.mul_one, g5]
      all_goals (repeat' refine And.intro ?_ ?_)
      all_goals (first | with_reducible rfl | (refine congrArg Value.bool ?_; rw [Bool.eq_iff_iff]; (try simp only [decide_eq_true_eq, eq_self, true_and, and_true, false_and, and_false, true_or, or_true, false_or, or_false, not_true_eq_false, not_false_eq_true, true_iff, iff_true, false_iff, iff_false, Bool.false_eq_true, Bool.not_eq_true', Bool.not_eq_true, decide_eq_false_iff_not, Bool.and_eq_true, Bool.or_eq_true]) <;> omega) | (refine congrArg (Value.int _) ?_; omega) | omega)
    have q0 := of_decide_eq_false ‹_›
    refine cv_seq_k fun K hK => ?_
    refine cv_region_then rfl ?_
    simp -implicitDefEqProofs (disch := first | omega | decide) only [seval, -Int.reducePow, -Nat.reducePow, cC, pv, binv, undef, Nat.mul_one, g5]
    refine hK _ _ ?_
    clear hK K
    refine cv_cond ?_
    simp -implicitDefEqProofs (disch := first | omega | decide) only [seval, -Int.reducePow, -Nat.reducePow, cC, pv, binv, undef, Nat.mul_one, g5]
    refine ⟨fun hc => ?_, fun hc => ?_⟩
    · have q1 := of_decide_eq_true ‹_›
      refine cv_skip ?_
      try simp only [blockQ, thenQ]
      simp -implicitDefEqProofs (disch := first | omega | decide) only [seval, -Int.reducePow, -Nat.reducePow, cC, pv, binv, undef, Nat.mul_one, g5]
      all_goals (repeat' refine And.intro ?_ ?_)
      all_goals (first | with_reducible rfl | (refine congrArg Value.bool ?_; rw [Bool.eq_iff_iff]; (try simp only [decide_eq_true_eq, eq_self, true_and, and_true, false_and, and_false, true_or, or_true, false_or, or_false, not_true_eq_false, not_false_eq_true, true_iff, iff_true, false_iff, iff_false, Bool.false_eq_true, Bool.not_eq_true', Bool.not_eq_true, decide_eq_false_iff_not, Bool.and_eq_true, Bool.or_eq_true]) <;> omega) | (refine congrArg (Value.int _) ?_; omega) | omega)
    have q1 := of_decide_eq_false ‹_›
    refine cv_region_q rfl ?_
    simp -implicitDefEqProofs (disch := first | omega | decide) only [seval, -Int.reducePow, -Nat.reducePow, cC, pv, binv, undef, Nat.mul_one, g5]
    all_goals (repeat' refine And.intro ?_ ?_)
    all_goals (first | with_reducible rfl | (refine congrArg Value.bool ?_; rw [Bool.eq_iff_iff]; (try simp only [decide_eq_true_eq, eq_self, true_and, and_true, false_and, and_false, true_or, or_true, false_or, or_false, not_true_eq_false, not_false_eq_true, true_iff, iff_true, false_iff, iff_false, Bool.false_eq_true, Bool.not_eq_true', Bool.not_eq_true, decide_eq_false_iff_not, Bool.and_eq_true, Bool.or_eq_true]) <;> omega) | (refine congrArg (Value.int _) ?_; omega) | omega)
  intro G6 L' _ hF
  obtain ⟨q4, q5, rfl⟩ := hF
  have g6_4 := q4.trans g5_4
  have g6_5 := q5
  clear q4 q5
  have g6 := And.intro g6_4 g6_5
  refine hK _ _ ?_
  clear hK K
  refine cv_cond ?_
  simp -implicitDefEqProofs (disch := first | omega | decide) only [seval, -Int.reducePow, -Nat.reducePow, cC, pv, binv, undef, Nat.mul_one, g6]
  refine ⟨fun hc => ?_, fun hc => ?_⟩
  · have h0 := of_decide_eq_true hc
    refine cv_seq_k fun K hK => ?_
    refine cv_region_then rfl ?_
    simp -implicitDefEqProofs (disch := first | omega | decide) only [seval, -Int.reducePow, -Nat.reducePow, cC, pv, binv, undef, Nat.mul_one, g6]
    refine hK _ _ ?_
    clear hK K
    refine cv_ret ⟨_, (by simp -implicitDefEqProofs (disch := first | omega | decide) only [seval, -Int.reducePow, -Nat.reducePow, cC, pv, binv, undef, Nat.mul_one, g6]; rfl), fun w hw => ?_⟩
    exact ⟨by rw [show arP c = 1 by unfold arP; rw [if_pos (by omega)], decide_eq_true (show hostP c by omega)] <;> rfl, hw.below⟩
  have h0 := of_decide_eq_false hc
  refine cv_seq_k fun K hK => ?_
  refine cv_cut (fun _ _ => True) (fun F' L' => F' 4 = G6 4 ∧ F' 9 = .bool (decide ((c : Int) = 3 ∨ (c : Int) = 8 ∨ (c : Int) = 9 ∨ (c : Int) = 10)) ∧ L' = []) ?_ ?_
  · refine cv_seq_k fun K hK => ?_
    refine cv_region_then rfl ?_
    simp -implicitDefEqProofs (disch := first | omega | decide) only [seval, -Int.reducePow, -Nat.reducePow, cC, pv, binv, undef, Nat.mul_one, g6]
    refine hK _ _ ?_
    clear hK K
    refine cv_cond ?_
    simp -implicitDefEqProofs (disch := first | omega | decide) only [seval, -Int.reducePow, -Nat.reducePow, cC, pv, binv, undef, Nat.mul_one, g6]
    refine ⟨fun hc => ?_, fun hc => ?_⟩
    · have q0 := of_decide_eq_true ‹_›
      refine cv_skip ?_
      try simp only [blockQ, thenQ]
      simp -implicitDefEqProofs (disch := first | omega | decide) only [seval, -Int.reducePow, -Nat.reducePow, cC, pv, binv, undef, Nat.mul_one, g6]
      all_goals (repeat' refine And.intro ?_ ?_)
      all_goals (first | with_reducible rfl | (refine congrArg Value.bool ?_; rw [Bool.eq_iff_iff]; (try simp only [decide_eq_true_eq, eq_self, true_and, and_true, false_and, and_false, true_or, or_true, false_or, or_false, not_true_eq_false, not_false_eq_true, true_iff, iff_true, false_iff, iff_false, Bool.false_eq_true, Bool.not_eq_true', Bool.not_eq_true, decide_eq_false_iff_not, Bool.and_eq_true, Bool.or_eq_true]) <;> omega) | (refine congrArg (Value.int _) ?_; omega) | omega)
    have q0 := of_decide_eq_false ‹_›
    refine cv_seq_k fun K hK => ?_
    refine cv_region_then rfl ?_
    simp -implicitDefEqProofs (disch := first | omega | decide) only [seval, -Int.reducePow, -Nat.reducePow, cC, pv, binv, undef, Nat.mul_one, g6]
    refine hK _ _ ?_
    clear hK K
    refine cv_cond ?_
    simp -implicitDefEqProofs (disch := first | omega | decide) only [seval, -Int.reducePow, -Nat.reducePow, cC, pv, binv, undef, Nat.mul_one, g6]
    refine ⟨fun hc => ?_, fun hc => ?_⟩
    · have q1 := of_decide_eq_true ‹_›
      refine cv_skip ?_
      try simp only [blockQ, thenQ]
      simp -implicitDefEqProofs (disch := first | omega | decide) only [seval, -Int.reducePow, -Nat.reducePow, cC, pv, binv, undef, Nat.mul_one, g6]
      all_goals (repeat' refine And.intro ?_ ?_)
      all_goals (first | with_reducible rfl | (refine congrArg Value.bool ?_; rw [Bool.eq_iff_iff]; (try simp only [decide_eq_true_eq, eq_self, true_and, and_true, false_and, and_false, true_or, or_true, false_or, or_false, not_true_eq_false, not_false_eq_true, true_iff, iff_true, false_iff, iff_false, Bool.false_eq_true, Bool.not_eq_true', Bool.not_eq_true, decide_eq_false_iff_not, Bool.and_eq_true, Bool.or_eq_true]) <;> omega) | (refine congrArg (Value.int _) ?_; omega) | omega)
    have q1 := of_decide_eq_false ‹_›
    refine cv_seq_k fun K hK => ?_
    refine cv_region_then rfl ?_
    simp -implicitDefEqProofs (disch := first | omega | decide) only [seval, -Int.reducePow, -Nat.reducePow, cC, pv, binv, undef, Nat.mul_one, g6]
    refine hK _ _ ?_
    clear hK K
    refine cv_cond ?_
    simp -implicitDefEqProofs (disch := first | omega | decide) only [seval, -Int.reducePow, -Nat.reducePow, cC, pv, binv, undef, Nat.mul_one, g6]
    refine ⟨fun hc => ?_, fun hc => ?_⟩
    · have q2 := of_decide_eq_true ‹_›
      refine cv_skip ?_
      try simp only [blockQ, thenQ]
      simp -implicitDefEqProofs (disch := first | omega | decide) only [seval, -Int.reducePow, -Nat.reducePow, cC, pv, binv, undef, Nat.mul_one, g6]
      all_goals (repeat' refine And.intro ?_ ?_)
      all_goals (first | with_reducible rfl | (refine congrArg Value.bool ?_; rw [Bool.eq_iff_iff]; (try simp only [decide_eq_true_eq, eq_self, true_and, and_true, false_and, and_false, true_or, or_true, false_or, or_false, not_true_eq_false, not_false_eq_true, true_iff, iff_true, false_iff, iff_false, Bool.false_eq_true, Bool.not_eq_true', Bool.not_eq_true, decide_eq_false_iff_not, Bool.and_eq_true, Bool.or_eq_true]) <;> omega) | (refine congrArg (Value.int _) ?_; omega) | omega)
    have q2 := of_decide_eq_false ‹_›
    refine cv_region_q rfl ?_
    simp -implicitDefEqProofs (disch := first | omega | decide) only [seval, -Int.reducePow, -Nat.reducePow, cC, pv, binv, undef, Nat.mul_one, g6]
    all_goals (repeat' refine And.intro ?_ ?_)
    all_goals (first | with_reducible rfl | (refine congrArg Value.bool ?_; rw [Bool.eq_iff_iff]; (try simp only [decide_eq_true_eq, eq_self, true_and, and_true, false_and, and_false, true_or, or_true, false_or, or_false, not_true_eq_false, not_false_eq_true, true_iff, iff_true, false_iff, iff_false, Bool.false_eq_true, Bool.not_eq_true', Bool.not_eq_true, decide_eq_false_iff_not, Bool.and_eq_true, Bool.or_eq_true]) <;> omega) | (refine congrArg (Value.int _) ?_; omega) | omega)
  intro G7 L' _ hF
  obtain ⟨q4, q9, rfl⟩ := hF
  have g7_4 := q4.trans g6_4
  have g7_9 := q9
  clear q4 q9
  have g7 := And.intro g7_4 g7_9
  refine hK _ _ ?_
  clear hK K
  refine cv_cond ?_
  simp -implicitDefEqProofs (disch := first | omega | decide) only [seval, -Int.reducePow, -Nat.reducePow, cC, pv, binv, undef, Nat.mul_one, g7]
  refine ⟨fun hc => ?_, fun hc => ?_⟩
  · have h1 := of_decide_eq_true hc
    refine cv_seq_k fun K hK => ?_
    refine cv_region_then rfl ?_
    simp -implicitDefEqProofs (disch := first | omega | decide) only [seval, -Int.reducePow, -Nat.reducePow, cC, pv, binv, undef, Nat.mul_one, g7]
    refine hK _ _ ?_
    clear hK K
    refine cv_ret ⟨_, (by simp -implicitDefEqProofs (disch := first | omega | decide) only [seval, -Int.reducePow, -Nat.reducePow, cC, pv, binv, undef, Nat.mul_one, g7]; rfl), fun w hw => ?_⟩
    exact ⟨by rw [show arP c = 2 by unfold arP; rw [if_neg (by omega)]; rw [if_pos (by omega)], decide_eq_true (show hostP c by omega)] <;> rfl, hw.below⟩
  have h1 := of_decide_eq_false hc
  refine cv_seq_k fun K hK => ?_
  refine cv_cut (fun _ _ => True) (fun F' L' => F' 4 = G7 4 ∧ F' 14 = .bool (decide ((c : Int) = 4 ∨ (c : Int) = 5)) ∧ L' = []) ?_ ?_
  · refine cv_seq_k fun K hK => ?_
    refine cv_region_then rfl ?_
    simp -implicitDefEqProofs (disch := first | omega | decide) only [seval, -Int.reducePow, -Nat.reducePow, cC, pv, binv, undef, Nat.mul_one, g7]
    refine hK _ _ ?_
    clear hK K
    refine cv_cond ?_
    simp -implicitDefEqProofs (disch := first | omega | decide) only [seval, -Int.reducePow, -Nat.reducePow, cC, pv, binv, undef, Nat.mul_one, g7]
    refine ⟨fun hc => ?_, fun hc => ?_⟩
    · have q0 := of_decide_eq_true ‹_›
      refine cv_skip ?_
      try simp only [blockQ, thenQ]
      simp -implicitDefEqProofs (disch := first | omega | decide) only [seval, -Int.reducePow, -Nat.reducePow, cC, pv, binv, undef, Nat.mul_one, g7]
      all_goals (repeat' refine And.intro ?_ ?_)
      all_goals (first | with_reducible rfl | (refine congrArg Value.bool ?_; rw [Bool.eq_iff_iff]; (try simp only [decide_eq_true_eq, eq_self, true_and, and_true, false_and, and_false, true_or, or_true, false_or, or_false, not_true_eq_false, not_false_eq_true, true_iff, iff_true, false_iff, iff_false, Bool.false_eq_true, Bool.not_eq_true', Bool.not_eq_true, decide_eq_false_iff_not, Bool.and_eq_true, Bool.or_eq_true]) <;> omega) | (refine congrArg (Value.int _) ?_; omega) | omega)
    have q0 := of_decide_eq_false ‹_›
    refine cv_region_q rfl ?_
    simp -implicitDefEqProofs (disch := first | omega | decide) only [seval, -Int.reducePow, -Nat.reducePow, cC, pv, binv, undef, Nat.mul_one, g7]
    all_goals (repeat' refine And.intro ?_ ?_)
    all_goals (first | with_reducible rfl | (refine congrArg Value.bool ?_; rw [Bool.eq_iff_iff]; (try simp only [decide_eq_true_eq, eq_self, true_and, and_true, false_and, and_false, true_or, or_true, false_or, or_false, not_true_eq_false, not_false_eq_true, true_iff, iff_true, false_iff, iff_false, Bool.false_eq_true, Bool.not_eq_true', Bool.not_eq_true, decide_eq_false_iff_not, Bool.and_eq_true, Bool.or_eq_true]) <;> omega) | (refine congrArg (Value.int _) ?_; omega) | omega)
  intro G8 L' _ hF
  obtain ⟨q4, q14, rfl⟩ := hF
  have g8_4 := q4.trans g7_4
  have g8_14 := q14
  clear q4 q14
  have g8 := And.intro g8_4 g8_14
  refine hK _ _ ?_
  clear hK K
  refine cv_cond ?_
  simp -implicitDefEqProofs (disch := first | omega | decide) only [seval, -Int.reducePow, -Nat.reducePow, cC, pv, binv, undef, Nat.mul_one, g8]
  refine ⟨fun hc => ?_, fun hc => ?_⟩
  · have h2 := of_decide_eq_true hc
    refine cv_seq_k fun K hK => ?_
    refine cv_region_then rfl ?_
    simp -implicitDefEqProofs (disch := first | omega | decide) only [seval, -Int.reducePow, -Nat.reducePow, cC, pv, binv, undef, Nat.mul_one, g8]
    refine hK _ _ ?_
    clear hK K
    refine cv_ret ⟨_, (by simp -implicitDefEqProofs (disch := first | omega | decide) only [seval, -Int.reducePow, -Nat.reducePow, cC, pv, binv, undef, Nat.mul_one, g8]; rfl), fun w hw => ?_⟩
    exact ⟨by rw [show arP c = 3 by unfold arP; rw [if_neg (by omega)]; rw [if_neg (by omega)]; rw [if_pos (by omega)], decide_eq_true (show hostP c by omega)] <;> rfl, hw.below⟩
  have h2 := of_decide_eq_false hc
  refine cv_seq_k fun K hK => ?_
  refine cv_cut (fun _ _ => True) (fun F' L' => F' 4 = G8 4 ∧ F' 17 = .bool (decide ((c : Int) = 6)) ∧ L' = []) ?_ ?_
  · refine cv_region_then rfl ?_
    simp -implicitDefEqProofs (disch := first | omega | decide) only [seval, -Int.reducePow, -Nat.reducePow, cC, pv, binv, undef, Nat.mul_one, g8]
    all_goals (repeat' refine And.intro ?_ ?_)
    all_goals (first | with_reducible rfl | (refine congrArg Value.bool ?_; rw [Bool.eq_iff_iff]; (try simp only [decide_eq_true_eq, eq_self, true_and, and_true, false_and, and_false, true_or, or_true, false_or, or_false, not_true_eq_false, not_false_eq_true, true_iff, iff_true, false_iff, iff_false, Bool.false_eq_true, Bool.not_eq_true', Bool.not_eq_true, decide_eq_false_iff_not, Bool.and_eq_true, Bool.or_eq_true]) <;> omega) | (refine congrArg (Value.int _) ?_; omega) | omega)
  intro G9 L' _ hF
  obtain ⟨q4, q17, rfl⟩ := hF
  have g9_4 := q4.trans g8_4
  have g9_17 := q17
  clear q4 q17
  have g9 := And.intro g9_4 g9_17
  refine hK _ _ ?_
  clear hK K
  refine cv_cond ?_
  simp -implicitDefEqProofs (disch := first | omega | decide) only [seval, -Int.reducePow, -Nat.reducePow, cC, pv, binv, undef, Nat.mul_one, g9]
  refine ⟨fun hc => ?_, fun hc => ?_⟩
  · have h3 := of_decide_eq_true hc
    refine cv_seq_k fun K hK => ?_
    refine cv_region_then rfl ?_
    simp -implicitDefEqProofs (disch := first | omega | decide) only [seval, -Int.reducePow, -Nat.reducePow, cC, pv, binv, undef, Nat.mul_one, g9]
    refine hK _ _ ?_
    clear hK K
    refine cv_ret ⟨_, (by simp -implicitDefEqProofs (disch := first | omega | decide) only [seval, -Int.reducePow, -Nat.reducePow, cC, pv, binv, undef, Nat.mul_one, g9]; rfl), fun w hw => ?_⟩
    exact ⟨by rw [show arP c = 4 by unfold arP; rw [if_neg (by omega)]; rw [if_neg (by omega)]; rw [if_neg (by omega)]; rw [if_pos (by omega)], decide_eq_true (show hostP c by omega)] <;> rfl, hw.below⟩
  have h3 := of_decide_eq_false hc
  refine cv_seq_k fun K hK => ?_
  refine cv_cut (fun _ _ => True) (fun F' L' => F' 19 = .bool (decide ((c : Int) = 7)) ∧ L' = []) ?_ ?_
  · refine cv_region_then rfl ?_
    simp -implicitDefEqProofs (disch := first | omega | decide) only [seval, -Int.reducePow, -Nat.reducePow, cC, pv, binv, undef, Nat.mul_one, g9]
    all_goals (repeat' refine And.intro ?_ ?_)
    all_goals (first | with_reducible rfl | (refine congrArg Value.bool ?_; rw [Bool.eq_iff_iff]; (try simp only [decide_eq_true_eq, eq_self, true_and, and_true, false_and, and_false, true_or, or_true, false_or, or_false, not_true_eq_false, not_false_eq_true, true_iff, iff_true, false_iff, iff_false, Bool.false_eq_true, Bool.not_eq_true', Bool.not_eq_true, decide_eq_false_iff_not, Bool.and_eq_true, Bool.or_eq_true]) <;> omega) | (refine congrArg (Value.int _) ?_; omega) | omega)
  intro G10 L' _ hF
  obtain ⟨q19, rfl⟩ := hF
  have g10_19 := q19
  clear q19
  have g10 := g10_19
  refine hK _ _ ?_
  clear hK K
  refine cv_cond ?_
  simp -implicitDefEqProofs (disch := first | omega | decide) only [seval, -Int.reducePow, -Nat.reducePow, cC, pv, binv, undef, Nat.mul_one, g10]
  refine ⟨fun hc => ?_, fun hc => ?_⟩
  · have h4 := of_decide_eq_true hc
    refine cv_seq_k fun K hK => ?_
    refine cv_region_then rfl ?_
    simp -implicitDefEqProofs (disch := first | omega | decide) only [seval, -Int.reducePow, -Nat.reducePow, cC, pv, binv, undef, Nat.mul_one, g10]
    refine hK _ _ ?_
    clear hK K
    refine cv_ret ⟨_, (by simp -implicitDefEqProofs (disch := first | omega | decide) only [seval, -Int.reducePow, -Nat.reducePow, cC, pv, binv, undef, Nat.mul_one, g10]; rfl), fun w hw => ?_⟩
    exact ⟨by rw [show arP c = 5 by unfold arP; rw [if_neg (by omega)]; rw [if_neg (by omega)]; rw [if_neg (by omega)]; rw [if_neg (by omega)]; rw [if_pos (by omega)], decide_eq_true (show hostP c by omega)] <;> rfl, hw.below⟩
  have h4 := of_decide_eq_false hc
  refine cv_skip ?_
  try simp only [blockQ, thenQ]
  refine hK _ _ ?_
  clear hK K
  refine cv_seq_k fun K hK => ?_
  refine cv_region_then rfl ?_
  simp -implicitDefEqProofs (disch := first | omega | decide) only [seval, -Int.reducePow, -Nat.reducePow, cC, pv, binv, undef, Nat.mul_one, g10]
  refine hK _ _ ?_
  clear hK K
  refine cv_ret ⟨_, (by simp -implicitDefEqProofs (disch := first | omega | decide) only [seval, -Int.reducePow, -Nat.reducePow, cC, pv, binv, undef, Nat.mul_one, g10]; rfl), fun w hw => ?_⟩
  exact ⟨by rw [show arP c = 0 by unfold arP; rw [if_neg (by omega)]; rw [if_neg (by omega)]; rw [if_neg (by omega)]; rw [if_neg (by omega)]; rw [if_neg (by omega)], decide_eq_false (show ¬ hostP c by omega)] <;> rfl, hw.below⟩
set_option maxHeartbeats 1000000 in
theorem i_effect_any (op : Int) (W : World) : Calls Tryz.prog 88 #[.int .i64 op] W fun e w' => e = .returned (.tuple #[.int .i64 (popP op : Int), .int .i64 (pushP op : Int), .bool (decide (fxOk op))]) ∧ Below W.heap.size W w' := by
  refine calls_cv (M := []) (n := 27) [.tmp 2, .tmp 3, .tmp 4] rfl Tryz.func88 rfl rfl (Nat.le_of_ble_eq_true rfl) (St.nil _ _) ?_
  refine cv_seq_k fun K hK => ?_
  refine cv_region_then rfl ?_
  simp -implicitDefEqProofs (disch := first | omega | decide) only [seval, -Int.reducePow, -Nat.reducePow, cC, pv, binv, undef, Nat.mul_one]
  refine hK _ _ ?_
  clear hK K
  refine cv_seq_k fun K hK => ?_
  refine cv_seq_k fun K hK => ?_
  refine cv_region_then rfl ?_
  simp -implicitDefEqProofs (disch := first | omega | decide) only [seval, -Int.reducePow, -Nat.reducePow, cC, pv, binv, undef, Nat.mul_one]
  refine hK _ _ ?_
  clear hK K
  refine cv_gen fun G11 hG => ?_
  have g11_0 := congrFun hG 0
  have g11_5 := congrFun hG 5
  clear hG
  try simp -implicitDefEqProofs (disch := first | omega | decide) only [seval, -Int.reducePow, -Nat.reducePow, cC, pv, binv, undef, Nat.mul_one] at g11_0 g11_5
  have g11 := And.intro g11_0 g11_5
  refine cv_block ?_
  refine cv_seq_k fun K hK => ?_
  refine cv_cut (fun _ _ => True) (fun F' L' => F' 0 = G11 0 ∧ F' 5 = G11 5 ∧ F' 6 = .bool (decide (op = 1 ∨ op = 2)) ∧ L' = []) ?_ ?_
  · refine cv_seq_k fun K hK => ?_
    refine cv_region_then rfl ?_
    simp -implicitDefEqProofs (disch := first | omega | decide) only [seval, -Int.reducePow, -Nat.reducePow, cC, pv, binv, undef, Nat.mul_one, g11]
    refine hK _ _ ?_
    clear hK K
    refine cv_cond ?_
    simp -implicitDefEqProofs (disch := first | omega | decide) only [seval, -Int.reducePow, -Nat.reducePow, cC, pv, binv, undef, Nat.mul_one, g11]
    refine ⟨fun hc => ?_, fun hc => ?_⟩
    · have q0 := of_decide_eq_true ‹_›
      refine cv_skip ?_
      try simp only [blockQ, thenQ]
      simp -implicitDefEqProofs (disch := first | omega | decide) only [seval, -Int.reducePow, -Nat.reducePow, cC, pv, binv, undef, Nat.mul_one, g11]
      all_goals (repeat' refine And.intro ?_ ?_)
      all_goals (first | with_reducible rfl | (refine congrArg Value.bool ?_; rw [Bool.eq_iff_iff]; (try simp only [decide_eq_true_eq, eq_self, true_and, and_true, false_and, and_false, true_or, or_true, false_or, or_false, not_true_eq_false, not_false_eq_true, true_iff, iff_true, false_iff, iff_false, Bool.false_eq_true, Bool.not_eq_true', Bool.not_eq_true, decide_eq_false_iff_not, Bool.and_eq_true, Bool.or_eq_true]) <;> omega) | (refine congrArg (Value.int _) ?_; omega) | omega)
    have q0 := of_decide_eq_false ‹_›
    refine cv_region_q rfl ?_
    simp -implicitDefEqProofs (disch := first | omega | decide) only [seval, -Int.reducePow, -Nat.reducePow, cC, pv, binv, undef, Nat.mul_one, g11]
    all_goals (repeat' refine And.intro ?_ ?_)
    all_goals (first | with_reducible rfl | (refine congrArg Value.bool ?_; rw [Bool.eq_iff_iff]; (try simp only [decide_eq_true_eq, eq_self, true_and, and_true, false_and, and_false, true_or, or_true, false_or, or_false, not_true_eq_false, not_false_eq_true, true_iff, iff_true, false_iff, iff_false, Bool.false_eq_true, Bool.not_eq_true', Bool.not_eq_true, decide_eq_false_iff_not, Bool.and_eq_true, Bool.or_eq_true]) <;> omega) | (refine congrArg (Value.int _) ?_; omega) | omega)
  intro G12 L' _ hF
  obtain ⟨q0, q5, q6, rfl⟩ := hF
  have g12_0 := q0.trans g11_0
  have g12_5 := q5.trans g11_5
  have g12_6 := q6
  clear q0 q5 q6
  have g12 := And.intro g12_0 (And.intro g12_5 g12_6)
  refine hK _ _ ?_
  clear hK K
  refine cv_cond ?_
  simp -implicitDefEqProofs (disch := first | omega | decide) only [seval, -Int.reducePow, -Nat.reducePow, cC, pv, binv, undef, Nat.mul_one, g12]
  refine ⟨fun hc => ?_, fun hc => ?_⟩
  · have h0 := of_decide_eq_true hc
    refine cv_seq_k fun K hK => ?_
    refine cv_region_then rfl ?_
    simp -implicitDefEqProofs (disch := first | omega | decide) only [seval, -Int.reducePow, -Nat.reducePow, cC, pv, binv, undef, Nat.mul_one, g12]
    refine hK _ _ ?_
    clear hK K
    refine cv_ret ⟨_, (by simp -implicitDefEqProofs (disch := first | omega | decide) only [seval, -Int.reducePow, -Nat.reducePow, cC, pv, binv, undef, Nat.mul_one, g12]; rfl), fun w hw => ?_⟩
    exact ⟨by rw [show popP op = 0 by unfold popP; rw [if_pos (by omega)], show pushP op = 1 by unfold pushP; rw [if_pos (by omega)], decide_eq_true (show fxOk op by omega)] <;> rfl, hw.below⟩
  have h0 := of_decide_eq_false hc
  refine cv_seq_k fun K hK => ?_
  refine cv_cut (fun _ _ => True) (fun F' L' => F' 0 = G12 0 ∧ F' 5 = G12 5 ∧ F' 9 = .bool (decide (op = 3 ∨ op = 4 ∨ op = 20)) ∧ L' = []) ?_ ?_
  · refine cv_seq_k fun K hK => ?_
    refine cv_region_then rfl ?_
    simp -implicitDefEqProofs (disch := first | omega | decide) only [seval, -Int.reducePow, -Nat.reducePow, cC, pv, binv, undef, Nat.mul_one, g12]
    refine hK _ _ ?_
    clear hK K
    refine cv_cond ?_
    simp -implicitDefEqProofs (disch := first | omega | decide) only [seval, -Int.reducePow, -Nat.reducePow, cC, pv, binv, undef, Nat.mul_one, g12]
    refine ⟨fun hc => ?_, fun hc => ?_⟩
    · have q0 := of_decide_eq_true ‹_›
      refine cv_skip ?_
      try simp only [blockQ, thenQ]
      simp -implicitDefEqProofs (disch := first | omega | decide) only [seval, -Int.reducePow, -Nat.reducePow, cC, pv, binv, undef, Nat.mul_one, g12]
      all_goals (repeat' refine And.intro ?_ ?_)
      all_goals (first | with_reducible rfl | (refine congrArg Value.bool ?_; rw [Bool.eq_iff_iff]; (try simp only [decide_eq_true_eq, eq_self, true_and, and_true, false_and, and_false, true_or, or_true, false_or, or_false, not_true_eq_false, not_false_eq_true, true_iff, iff_true, false_iff, iff_false, Bool.false_eq_true, Bool.not_eq_true', Bool.not_eq_true, decide_eq_false_iff_not, Bool.and_eq_true, Bool.or_eq_true]) <;> omega) | (refine congrArg (Value.int _) ?_; omega) | omega)
    have q0 := of_decide_eq_false ‹_›
    refine cv_seq_k fun K hK => ?_
    refine cv_region_then rfl ?_
    simp -implicitDefEqProofs (disch := first | omega | decide) only [seval, -Int.reducePow, -Nat.reducePow, cC, pv, binv, undef, Nat.mul_one, g12]
    refine hK _ _ ?_
    clear hK K
    refine cv_cond ?_
    simp -implicitDefEqProofs (disch := first | omega | decide) only [seval, -Int.reducePow, -Nat.reducePow, cC, pv, binv, undef, Nat.mul_one, g12]
    refine ⟨fun hc => ?_, fun hc => ?_⟩
    · have q1 := of_decide_eq_true ‹_›
      refine cv_skip ?_
      try simp only [blockQ, thenQ]
      simp -implicitDefEqProofs (disch := first | omega | decide) only [seval, -Int.reducePow, -Nat.reducePow, cC, pv, binv, undef, Nat.mul_one, g12]
      all_goals (repeat' refine And.intro ?_ ?_)
      all_goals (first | with_reducible rfl | (refine congrArg Value.bool ?_; rw [Bool.eq_iff_iff]; (try simp only [decide_eq_true_eq, eq_self, true_and, and_true, false_and, and_false, true_or, or_true, false_or, or_false, not_true_eq_false, not_false_eq_true, true_iff, iff_true, false_iff, iff_false, Bool.false_eq_true, Bool.not_eq_true', Bool.not_eq_true, decide_eq_false_iff_not, Bool.and_eq_true, Bool.or_eq_true]) <;> omega) | (refine congrArg (Value.int _) ?_; omega) | omega)
    have q1 := of_decide_eq_false ‹_›
    refine cv_region_q rfl ?_
    simp -implicitDefEqProofs (disch := first | omega | decide) only [seval, -Int.reducePow, -Nat.reducePow, cC, pv, binv, undef, Nat.mul_one, g12]
    all_goals (repeat' refine And.intro ?_ ?_)
    all_goals (first | with_reducible rfl | (refine congrArg Value.bool ?_; rw [Bool.eq_iff_iff]; (try simp only [decide_eq_true_eq, eq_self, true_and, and_true, false_and, and_false, true_or, or_true, false_or, or_false, not_true_eq_false, not_false_eq_true, true_iff, iff_true, false_iff, iff_false, Bool.false_eq_true, Bool.not_eq_true', Bool.not_eq_true, decide_eq_false_iff_not, Bool.and_eq_true, Bool.or_eq_true]) <;> omega) | (refine congrArg (Value.int _) ?_; omega) | omega)
  intro G13 L' _ hF
  obtain ⟨q0, q5, q9, rfl⟩ := hF
  have g13_0 := q0.trans g12_0
  have g13_5 := q5.trans g12_5
  have g13_9 := q9
  clear q0 q5 q9
  have g13 := And.intro g13_0 (And.intro g13_5 g13_9)
  refine hK _ _ ?_
  clear hK K
  refine cv_cond ?_
  simp -implicitDefEqProofs (disch := first | omega | decide) only [seval, -Int.reducePow, -Nat.reducePow, cC, pv, binv, undef, Nat.mul_one, g13]
  refine ⟨fun hc => ?_, fun hc => ?_⟩
  · have h1 := of_decide_eq_true hc
    refine cv_seq_k fun K hK => ?_
    refine cv_region_then rfl ?_
    simp -implicitDefEqProofs (disch := first | omega | decide) only [seval, -Int.reducePow, -Nat.reducePow, cC, pv, binv, undef, Nat.mul_one, g13]
    refine hK _ _ ?_
    clear hK K
    refine cv_ret ⟨_, (by simp -implicitDefEqProofs (disch := first | omega | decide) only [seval, -Int.reducePow, -Nat.reducePow, cC, pv, binv, undef, Nat.mul_one, g13]; rfl), fun w hw => ?_⟩
    exact ⟨by rw [show popP op = 1 by unfold popP; rw [if_neg (by omega)]; rw [if_pos (by omega)], show pushP op = 0 by unfold pushP; rw [if_neg (by omega)]; rw [if_pos (by omega)], decide_eq_true (show fxOk op by omega)] <;> rfl, hw.below⟩
  have h1 := of_decide_eq_false hc
  refine cv_seq_k fun K hK => ?_
  refine cv_cut (fun _ _ => True) (fun F' L' => F' 0 = G13 0 ∧ F' 5 = G13 5 ∧ F' 13 = .bool (decide (op = 5)) ∧ L' = []) ?_ ?_
  · refine cv_region_then rfl ?_
    simp -implicitDefEqProofs (disch := first | omega | decide) only [seval, -Int.reducePow, -Nat.reducePow, cC, pv, binv, undef, Nat.mul_one, g13]
    all_goals (repeat' refine And.intro ?_ ?_)
    all_goals (first | with_reducible rfl | (refine congrArg Value.bool ?_; rw [Bool.eq_iff_iff]; (try simp only [decide_eq_true_eq, eq_self, true_and, and_true, false_and, and_false, true_or, or_true, false_or, or_false, not_true_eq_false, not_false_eq_true, true_iff, iff_true, false_iff, iff_false, Bool.false_eq_true, Bool.not_eq_true', Bool.not_eq_true, decide_eq_false_iff_not, Bool.and_eq_true, Bool.or_eq_true]) <;> omega) | (refine congrArg (Value.int _) ?_; omega) | omega)
  intro G14 L' _ hF
  obtain ⟨q0, q5, q13, rfl⟩ := hF
  have g14_0 := q0.trans g13_0
  have g14_5 := q5.trans g13_5
  have g14_13 := q13
  clear q0 q5 q13
  have g14 := And.intro g14_0 (And.intro g14_5 g14_13)
  refine hK _ _ ?_
  clear hK K
  refine cv_cond ?_
  simp -implicitDefEqProofs (disch := first | omega | decide) only [seval, -Int.reducePow, -Nat.reducePow, cC, pv, binv, undef, Nat.mul_one, g14]
  refine ⟨fun hc => ?_, fun hc => ?_⟩
  · have h2 := of_decide_eq_true hc
    refine cv_seq_k fun K hK => ?_
    refine cv_region_then rfl ?_
    simp -implicitDefEqProofs (disch := first | omega | decide) only [seval, -Int.reducePow, -Nat.reducePow, cC, pv, binv, undef, Nat.mul_one, g14]
    refine hK _ _ ?_
    clear hK K
    refine cv_ret ⟨_, (by simp -implicitDefEqProofs (disch := first | omega | decide) only [seval, -Int.reducePow, -Nat.reducePow, cC, pv, binv, undef, Nat.mul_one, g14]; rfl), fun w hw => ?_⟩
    exact ⟨by rw [show popP op = 1 by unfold popP; rw [if_neg (by omega)]; rw [if_neg (by omega)]; rw [if_pos (by omega)], show pushP op = 2 by unfold pushP; rw [if_neg (by omega)]; rw [if_neg (by omega)]; rw [if_pos (by omega)], decide_eq_true (show fxOk op by omega)] <;> rfl, hw.below⟩
  have h2 := of_decide_eq_false hc
  refine cv_seq_k fun K hK => ?_
  refine cv_cut (fun _ _ => True) (fun F' L' => F' 0 = G14 0 ∧ F' 5 = G14 5 ∧ F' 15 = .bool (decide (op = 18)) ∧ L' = []) ?_ ?_
  · refine cv_region_then rfl ?_
    simp -implicitDefEqProofs (disch := first | omega | decide) only [seval, -Int.reducePow, -Nat.reducePow, cC, pv, binv, undef, Nat.mul_one, g14]
    all_goals (repeat' refine And.intro ?_ ?_)
    all_goals (first | with_reducible rfl | (refine congrArg Value.bool ?_; rw [Bool.eq_iff_iff]; (try simp only [decide_eq_true_eq, eq_self, true_and, and_true, false_and, and_false, true_or, or_true, false_or, or_false, not_true_eq_false, not_false_eq_true, true_iff, iff_true, false_iff, iff_false, Bool.false_eq_true, Bool.not_eq_true', Bool.not_eq_true, decide_eq_false_iff_not, Bool.and_eq_true, Bool.or_eq_true]) <;> omega) | (refine congrArg (Value.int _) ?_; omega) | omega)
  intro G15 L' _ hF
  obtain ⟨q0, q5, q15, rfl⟩ := hF
  have g15_0 := q0.trans g14_0
  have g15_5 := q5.trans g14_5
  have g15_15 := q15
  clear q0 q5 q15
  have g15 := And.intro g15_0 (And.intro g15_5 g15_15)
  refine hK _ _ ?_
  clear hK K
  refine cv_cond ?_
  simp -implicitDefEqProofs (disch := first | omega | decide) only [seval, -Int.reducePow, -Nat.reducePow, cC, pv, binv, undef, Nat.mul_one, g15]
  refine ⟨fun hc => ?_, fun hc => ?_⟩
  · have h3 := of_decide_eq_true hc
    refine cv_seq_k fun K hK => ?_
    refine cv_region_then rfl ?_
    simp -implicitDefEqProofs (disch := first | omega | decide) only [seval, -Int.reducePow, -Nat.reducePow, cC, pv, binv, undef, Nat.mul_one, g15]
    refine hK _ _ ?_
    clear hK K
    refine cv_ret ⟨_, (by simp -implicitDefEqProofs (disch := first | omega | decide) only [seval, -Int.reducePow, -Nat.reducePow, cC, pv, binv, undef, Nat.mul_one, g15]; rfl), fun w hw => ?_⟩
    exact ⟨by rw [show popP op = 1 by unfold popP; rw [if_neg (by omega)]; rw [if_neg (by omega)]; rw [if_neg (by omega)]; rw [if_pos (by omega)], show pushP op = 1 by unfold pushP; rw [if_neg (by omega)]; rw [if_neg (by omega)]; rw [if_neg (by omega)]; rw [if_pos (by omega)], decide_eq_true (show fxOk op by omega)] <;> rfl, hw.below⟩
  have h3 := of_decide_eq_false hc
  refine cv_seq_k fun K hK => ?_
  refine cv_cut (fun _ _ => True) (fun F' L' => F' 0 = G15 0 ∧ F' 5 = G15 5 ∧ F' 17 = .bool (decide (op = 19 ∨ op = 24 ∨ op = 25)) ∧ L' = []) ?_ ?_
  · refine cv_seq_k fun K hK => ?_
    refine cv_region_then rfl ?_
    simp -implicitDefEqProofs (disch := first | omega | decide) only [seval, -Int.reducePow, -Nat.reducePow, cC, pv, binv, undef, Nat.mul_one, g15]
    refine hK _ _ ?_
    clear hK K
    refine cv_cond ?_
    simp -implicitDefEqProofs (disch := first | omega | decide) only [seval, -Int.reducePow, -Nat.reducePow, cC, pv, binv, undef, Nat.mul_one, g15]
    refine ⟨fun hc => ?_, fun hc => ?_⟩
    · have q0 := of_decide_eq_true ‹_›
      refine cv_skip ?_
      try simp only [blockQ, thenQ]
      simp -implicitDefEqProofs (disch := first | omega | decide) only [seval, -Int.reducePow, -Nat.reducePow, cC, pv, binv, undef, Nat.mul_one, g15]
      all_goals (repeat' refine And.intro ?_ ?_)
      all_goals (first | with_reducible rfl | (refine congrArg Value.bool ?_; rw [Bool.eq_iff_iff]; (try simp only [decide_eq_true_eq, eq_self, true_and, and_true, false_and, and_false, true_or, or_true, false_or, or_false, not_true_eq_false, not_false_eq_true, true_iff, iff_true, false_iff, iff_false, Bool.false_eq_true, Bool.not_eq_true', Bool.not_eq_true, decide_eq_false_iff_not, Bool.and_eq_true, Bool.or_eq_true]) <;> omega) | (refine congrArg (Value.int _) ?_; omega) | omega)
    have q0 := of_decide_eq_false ‹_›
    refine cv_seq_k fun K hK => ?_
    refine cv_region_then rfl ?_
    simp -implicitDefEqProofs (disch := first | omega | decide) only [seval, -Int.reducePow, -Nat.reducePow, cC, pv, binv, undef, Nat.mul_one, g15]
    refine hK _ _ ?_
    clear hK K
    refine cv_cond ?_
    simp -implicitDefEqProofs (disch := first | omega | decide) only [seval, -Int.reducePow, -Nat.reducePow, cC, pv, binv, undef, Nat.mul_one, g15]
    refine ⟨fun hc => ?_, fun hc => ?_⟩
    · have q1 := of_decide_eq_true ‹_›
      refine cv_skip ?_
      try simp only [blockQ, thenQ]
      simp -implicitDefEqProofs (disch := first | omega | decide) only [seval, -Int.reducePow, -Nat.reducePow, cC, pv, binv, undef, Nat.mul_one, g15]
      all_goals (repeat' refine And.intro ?_ ?_)
      all_goals (first | with_reducible rfl | (refine congrArg Value.bool ?_; rw [Bool.eq_iff_iff]; (try simp only [decide_eq_true_eq, eq_self, true_and, and_true, false_and, and_false, true_or, or_true, false_or, or_false, not_true_eq_false, not_false_eq_true, true_iff, iff_true, false_iff, iff_false, Bool.false_eq_true, Bool.not_eq_true', Bool.not_eq_true, decide_eq_false_iff_not, Bool.and_eq_true, Bool.or_eq_true]) <;> omega) | (refine congrArg (Value.int _) ?_; omega) | omega)
    have q1 := of_decide_eq_false ‹_›
    refine cv_region_q rfl ?_
    simp -implicitDefEqProofs (disch := first | omega | decide) only [seval, -Int.reducePow, -Nat.reducePow, cC, pv, binv, undef, Nat.mul_one, g15]
    all_goals (repeat' refine And.intro ?_ ?_)
    all_goals (first | with_reducible rfl | (refine congrArg Value.bool ?_; rw [Bool.eq_iff_iff]; (try simp only [decide_eq_true_eq, eq_self, true_and, and_true, false_and, and_false, true_or, or_true, false_or, or_false, not_true_eq_false, not_false_eq_true, true_iff, iff_true, false_iff, iff_false, Bool.false_eq_true, Bool.not_eq_true', Bool.not_eq_true, decide_eq_false_iff_not, Bool.and_eq_true, Bool.or_eq_true]) <;> omega) | (refine congrArg (Value.int _) ?_; omega) | omega)
  intro G16 L' _ hF
  obtain ⟨q0, q5, q17, rfl⟩ := hF
  have g16_0 := q0.trans g15_0
  have g16_5 := q5.trans g15_5
  have g16_17 := q17
  clear q0 q5 q17
  have g16 := And.intro g16_0 (And.intro g16_5 g16_17)
  refine hK _ _ ?_
  clear hK K
  refine cv_cond ?_
  simp -implicitDefEqProofs (disch := first | omega | decide) only [seval, -Int.reducePow, -Nat.reducePow, cC, pv, binv, undef, Nat.mul_one, g16]
  refine ⟨fun hc => ?_, fun hc => ?_⟩
  · have h4 := of_decide_eq_true hc
    refine cv_seq_k fun K hK => ?_
    refine cv_region_then rfl ?_
    simp -implicitDefEqProofs (disch := first | omega | decide) only [seval, -Int.reducePow, -Nat.reducePow, cC, pv, binv, undef, Nat.mul_one, g16]
    refine hK _ _ ?_
    clear hK K
    refine cv_ret ⟨_, (by simp -implicitDefEqProofs (disch := first | omega | decide) only [seval, -Int.reducePow, -Nat.reducePow, cC, pv, binv, undef, Nat.mul_one, g16]; rfl), fun w hw => ?_⟩
    exact ⟨by rw [show popP op = 0 by unfold popP; rw [if_neg (by omega)]; rw [if_neg (by omega)]; rw [if_neg (by omega)]; rw [if_neg (by omega)]; rw [if_pos (by omega)], show pushP op = 0 by unfold pushP; rw [if_neg (by omega)]; rw [if_neg (by omega)]; rw [if_neg (by omega)]; rw [if_neg (by omega)]; rw [if_pos (by omega)], decide_eq_true (show fxOk op by omega)] <;> rfl, hw.below⟩
  have h4 := of_decide_eq_false hc
  refine cv_skip ?_
  try simp only [blockQ, thenQ]
  refine hK _ _ ?_
  clear hK K
  refine cv_seq_k fun K hK => ?_
  refine cv_seq_k fun K hK => ?_
  refine cv_cut (fun _ _ => True) (fun F' L' => F' 26 = .bool (decide (6 ≤ op ∧ op ≤ 17)) ∧ L' = []) ?_ ?_
  · refine cv_region_then rfl ?_
    simp -implicitDefEqProofs (disch := first | omega | decide) only [seval, -Int.reducePow, -Nat.reducePow, cC, pv, binv, undef, Nat.mul_one, g16]
    repeat' ((first | refine vcg_cases (fun hg => ?_) (fun hg => ?_) | refine vdg_cases (fun hg => ?_) (fun hg => ?_)) <;> ((try simp only [Bool.not_eq_true', Bool.not_eq_false', decide_eq_true_eq, decide_eq_false_iff_not] at hg); (try simp -implicitDefEqProofs (disch := first | omega | decide) only [seval, -Int.reducePow, -Nat.reducePow, cC, pv, binv, undef, Nat.mul_one, hg, g16])))
    all_goals (repeat' refine And.intro ?_ ?_)
    all_goals (first | with_reducible rfl | (refine congrArg Value.bool ?_; rw [Bool.eq_iff_iff]; (try simp only [decide_eq_true_eq, eq_self, true_and, and_true, false_and, and_false, true_or, or_true, false_or, or_false, not_true_eq_false, not_false_eq_true, true_iff, iff_true, false_iff, iff_false, Bool.false_eq_true, Bool.not_eq_true', Bool.not_eq_true, decide_eq_false_iff_not, Bool.and_eq_true, Bool.or_eq_true]) <;> omega) | (refine congrArg (Value.int _) ?_; omega) | omega)
  intro G17 L' _ hF
  obtain ⟨q26, rfl⟩ := hF
  have g17_26 := q26
  clear q26
  have g17 := g17_26
  refine hK _ _ ?_
  clear hK K
  refine cv_cond ?_
  simp -implicitDefEqProofs (disch := first | omega | decide) only [seval, -Int.reducePow, -Nat.reducePow, cC, pv, binv, undef, Nat.mul_one, g17]
  refine ⟨fun hc => ?_, fun hc => ?_⟩
  · have h5 := of_decide_eq_true hc
    refine cv_seq_k fun K hK => ?_
    refine cv_region_then rfl ?_
    simp -implicitDefEqProofs (disch := first | omega | decide) only [seval, -Int.reducePow, -Nat.reducePow, cC, pv, binv, undef, Nat.mul_one, g17]
    refine hK _ _ ?_
    clear hK K
    refine cv_ret ⟨_, (by simp -implicitDefEqProofs (disch := first | omega | decide) only [seval, -Int.reducePow, -Nat.reducePow, cC, pv, binv, undef, Nat.mul_one, g17]; rfl), fun w hw => ?_⟩
    exact ⟨by rw [show popP op = 2 by unfold popP; rw [if_neg (by omega)]; rw [if_neg (by omega)]; rw [if_neg (by omega)]; rw [if_neg (by omega)]; rw [if_neg (by omega)]; rw [if_pos (by omega)], show pushP op = 1 by unfold pushP; rw [if_neg (by omega)]; rw [if_neg (by omega)]; rw [if_neg (by omega)]; rw [if_neg (by omega)]; rw [if_neg (by omega)]; rw [if_pos (by omega)], decide_eq_true (show fxOk op by omega)] <;> rfl, hw.below⟩
  have h5 := of_decide_eq_false hc
  refine cv_skip ?_
  try simp only [blockQ, thenQ]
  refine hK _ _ ?_
  clear hK K
  refine cv_seq_k fun K hK => ?_
  refine cv_region_then rfl ?_
  simp -implicitDefEqProofs (disch := first | omega | decide) only [seval, -Int.reducePow, -Nat.reducePow, cC, pv, binv, undef, Nat.mul_one, g17]
  refine hK _ _ ?_
  clear hK K
  refine cv_ret ⟨_, (by simp -implicitDefEqProofs (disch := first | omega | decide) only [seval, -Int.reducePow, -Nat.reducePow, cC, pv, binv, undef, Nat.mul_one, g17]; rfl), fun w hw => ?_⟩
  exact ⟨by rw [show popP op = 0 by unfold popP; rw [if_neg (by omega)]; rw [if_neg (by omega)]; rw [if_neg (by omega)]; rw [if_neg (by omega)]; rw [if_neg (by omega)]; rw [if_neg (by omega)], show pushP op = 0 by unfold pushP; rw [if_neg (by omega)]; rw [if_neg (by omega)]; rw [if_neg (by omega)]; rw [if_neg (by omega)]; rw [if_neg (by omega)]; rw [if_neg (by omega)], decide_eq_false (show ¬ fxOk op by omega)] <;> rfl, hw.below⟩
set_option maxHeartbeats 1000000 in
theorem r_effect_any (op : Int) (W : World) : Calls Tryz.prog 100 #[.int .i64 op] W fun e w' => e = .returned (.tuple #[.int .i64 (popP op : Int), .int .i64 (pushP op : Int), .bool (decide (fxOk op))]) ∧ Below W.heap.size W w' := by
  refine calls_cv (M := []) (n := 47) [.tmp 2, .tmp 3, .tmp 4] rfl Tryz.func100 rfl rfl (Nat.le_of_ble_eq_true rfl) (St.nil _ _) ?_
  refine cv_seq_k fun K hK => ?_
  refine cv_region_then rfl ?_
  simp -implicitDefEqProofs (disch := first | omega | decide) only [seval, -Int.reducePow, -Nat.reducePow, cC, pv, binv, undef, Nat.mul_one]
  refine hK _ _ ?_
  clear hK K
  refine cv_gen fun G18 hG => ?_
  have g18_0 := congrFun hG 0
  clear hG
  try simp -implicitDefEqProofs (disch := first | omega | decide) only [seval, -Int.reducePow, -Nat.reducePow, cC, pv, binv, undef, Nat.mul_one] at g18_0
  have g18 := g18_0
  refine cv_seq_k fun K hK => ?_
  refine cv_block ?_
  refine cv_seq_k fun K hK => ?_
  refine cv_cut (fun _ _ => True) (fun F' L' => F' 0 = G18 0 ∧ F' 5 = .bool (decide (op = 1 ∨ op = 2)) ∧ L' = []) ?_ ?_
  · refine cv_region_then rfl ?_
    simp -implicitDefEqProofs (disch := first | omega | decide) only [seval, -Int.reducePow, -Nat.reducePow, cC, pv, binv, undef, Nat.mul_one, g18]
    repeat' ((first | refine vcg_cases (fun hg => ?_) (fun hg => ?_) | refine vdg_cases (fun hg => ?_) (fun hg => ?_)) <;> ((try simp only [Bool.not_eq_true', Bool.not_eq_false', decide_eq_true_eq, decide_eq_false_iff_not] at hg); (try simp -implicitDefEqProofs (disch := first | omega | decide) only [seval, -Int.reducePow, -Nat.reducePow, cC, pv, binv, undef, Nat.mul_one, hg, g18])))
    all_goals (repeat' refine And.intro ?_ ?_)
    all_goals (first | with_reducible rfl | (refine congrArg Value.bool ?_; rw [Bool.eq_iff_iff]; (try simp only [decide_eq_true_eq, eq_self, true_and, and_true, false_and, and_false, true_or, or_true, false_or, or_false, not_true_eq_false, not_false_eq_true, true_iff, iff_true, false_iff, iff_false, Bool.false_eq_true, Bool.not_eq_true', Bool.not_eq_true, decide_eq_false_iff_not, Bool.and_eq_true, Bool.or_eq_true]) <;> omega) | (refine congrArg (Value.int _) ?_; omega) | omega)
  intro G19 L' _ hF
  obtain ⟨q0, q5, rfl⟩ := hF
  have g19_0 := q0.trans g18_0
  have g19_5 := q5
  clear q0 q5
  have g19 := And.intro g19_0 g19_5
  refine hK _ _ ?_
  clear hK K
  refine cv_cond ?_
  simp -implicitDefEqProofs (disch := first | omega | decide) only [seval, -Int.reducePow, -Nat.reducePow, cC, pv, binv, undef, Nat.mul_one, g19]
  refine ⟨fun hc => ?_, fun hc => ?_⟩
  · have h0 := of_decide_eq_true hc
    refine cv_seq_k fun K hK => ?_
    refine cv_region_then rfl ?_
    simp -implicitDefEqProofs (disch := first | omega | decide) only [seval, -Int.reducePow, -Nat.reducePow, cC, pv, binv, undef, Nat.mul_one, g19]
    refine hK _ _ ?_
    clear hK K
    refine cv_ret ⟨_, (by simp -implicitDefEqProofs (disch := first | omega | decide) only [seval, -Int.reducePow, -Nat.reducePow, cC, pv, binv, undef, Nat.mul_one, g19]; rfl), fun w hw => ?_⟩
    exact ⟨by rw [show popP op = 0 by unfold popP; rw [if_pos (by omega)], show pushP op = 1 by unfold pushP; rw [if_pos (by omega)], decide_eq_true (show fxOk op by omega)] <;> rfl, hw.below⟩
  have h0 := of_decide_eq_false hc
  refine cv_seq_k fun K hK => ?_
  refine cv_cut (fun _ _ => True) (fun F' L' => F' 0 = G19 0 ∧ F' 12 = .bool (decide (op = 3 ∨ op = 4 ∨ op = 20)) ∧ L' = []) ?_ ?_
  · refine cv_region_then rfl ?_
    simp -implicitDefEqProofs (disch := first | omega | decide) only [seval, -Int.reducePow, -Nat.reducePow, cC, pv, binv, undef, Nat.mul_one, g19]
    repeat' ((first | refine vcg_cases (fun hg => ?_) (fun hg => ?_) | refine vdg_cases (fun hg => ?_) (fun hg => ?_)) <;> ((try simp only [Bool.not_eq_true', Bool.not_eq_false', decide_eq_true_eq, decide_eq_false_iff_not] at hg); (try simp -implicitDefEqProofs (disch := first | omega | decide) only [seval, -Int.reducePow, -Nat.reducePow, cC, pv, binv, undef, Nat.mul_one, hg, g19])))
    all_goals (repeat' refine And.intro ?_ ?_)
    all_goals (first | with_reducible rfl | (refine congrArg Value.bool ?_; rw [Bool.eq_iff_iff]; (try simp only [decide_eq_true_eq, eq_self, true_and, and_true, false_and, and_false, true_or, or_true, false_or, or_false, not_true_eq_false, not_false_eq_true, true_iff, iff_true, false_iff, iff_false, Bool.false_eq_true, Bool.not_eq_true', Bool.not_eq_true, decide_eq_false_iff_not, Bool.and_eq_true, Bool.or_eq_true]) <;> omega) | (refine congrArg (Value.int _) ?_; omega) | omega)
  intro G20 L' _ hF
  obtain ⟨q0, q12, rfl⟩ := hF
  have g20_0 := q0.trans g19_0
  have g20_12 := q12
  clear q0 q12
  have g20 := And.intro g20_0 g20_12
  refine hK _ _ ?_
  clear hK K
  refine cv_cond ?_
  simp -implicitDefEqProofs (disch := first | omega | decide) only [seval, -Int.reducePow, -Nat.reducePow, cC, pv, binv, undef, Nat.mul_one, g20]
  refine ⟨fun hc => ?_, fun hc => ?_⟩
  · have h1 := of_decide_eq_true hc
    refine cv_seq_k fun K hK => ?_
    refine cv_region_then rfl ?_
    simp -implicitDefEqProofs (disch := first | omega | decide) only [seval, -Int.reducePow, -Nat.reducePow, cC, pv, binv, undef, Nat.mul_one, g20]
    refine hK _ _ ?_
    clear hK K
    refine cv_ret ⟨_, (by simp -implicitDefEqProofs (disch := first | omega | decide) only [seval, -Int.reducePow, -Nat.reducePow, cC, pv, binv, undef, Nat.mul_one, g20]; rfl), fun w hw => ?_⟩
    exact ⟨by rw [show popP op = 1 by unfold popP; rw [if_neg (by omega)]; rw [if_pos (by omega)], show pushP op = 0 by unfold pushP; rw [if_neg (by omega)]; rw [if_pos (by omega)], decide_eq_true (show fxOk op by omega)] <;> rfl, hw.below⟩
  have h1 := of_decide_eq_false hc
  refine cv_seq_k fun K hK => ?_
  refine cv_cut (fun _ _ => True) (fun F' L' => F' 0 = G20 0 ∧ F' 23 = .bool (decide (op = 5)) ∧ L' = []) ?_ ?_
  · refine cv_region_then rfl ?_
    simp -implicitDefEqProofs (disch := first | omega | decide) only [seval, -Int.reducePow, -Nat.reducePow, cC, pv, binv, undef, Nat.mul_one, g20]
    repeat' ((first | refine vcg_cases (fun hg => ?_) (fun hg => ?_) | refine vdg_cases (fun hg => ?_) (fun hg => ?_)) <;> ((try simp only [Bool.not_eq_true', Bool.not_eq_false', decide_eq_true_eq, decide_eq_false_iff_not] at hg); (try simp -implicitDefEqProofs (disch := first | omega | decide) only [seval, -Int.reducePow, -Nat.reducePow, cC, pv, binv, undef, Nat.mul_one, hg, g20])))
    all_goals (repeat' refine And.intro ?_ ?_)
    all_goals (first | with_reducible rfl | (refine congrArg Value.bool ?_; rw [Bool.eq_iff_iff]; (try simp only [decide_eq_true_eq, eq_self, true_and, and_true, false_and, and_false, true_or, or_true, false_or, or_false, not_true_eq_false, not_false_eq_true, true_iff, iff_true, false_iff, iff_false, Bool.false_eq_true, Bool.not_eq_true', Bool.not_eq_true, decide_eq_false_iff_not, Bool.and_eq_true, Bool.or_eq_true]) <;> omega) | (refine congrArg (Value.int _) ?_; omega) | omega)
  intro G21 L' _ hF
  obtain ⟨q0, q23, rfl⟩ := hF
  have g21_0 := q0.trans g20_0
  have g21_23 := q23
  clear q0 q23
  have g21 := And.intro g21_0 g21_23
  refine hK _ _ ?_
  clear hK K
  refine cv_cond ?_
  simp -implicitDefEqProofs (disch := first | omega | decide) only [seval, -Int.reducePow, -Nat.reducePow, cC, pv, binv, undef, Nat.mul_one, g21]
  refine ⟨fun hc => ?_, fun hc => ?_⟩
  · have h2 := of_decide_eq_true hc
    refine cv_seq_k fun K hK => ?_
    refine cv_region_then rfl ?_
    simp -implicitDefEqProofs (disch := first | omega | decide) only [seval, -Int.reducePow, -Nat.reducePow, cC, pv, binv, undef, Nat.mul_one, g21]
    refine hK _ _ ?_
    clear hK K
    refine cv_ret ⟨_, (by simp -implicitDefEqProofs (disch := first | omega | decide) only [seval, -Int.reducePow, -Nat.reducePow, cC, pv, binv, undef, Nat.mul_one, g21]; rfl), fun w hw => ?_⟩
    exact ⟨by rw [show popP op = 1 by unfold popP; rw [if_neg (by omega)]; rw [if_neg (by omega)]; rw [if_pos (by omega)], show pushP op = 2 by unfold pushP; rw [if_neg (by omega)]; rw [if_neg (by omega)]; rw [if_pos (by omega)], decide_eq_true (show fxOk op by omega)] <;> rfl, hw.below⟩
  have h2 := of_decide_eq_false hc
  refine cv_seq_k fun K hK => ?_
  refine cv_cut (fun _ _ => True) (fun F' L' => F' 0 = G21 0 ∧ F' 26 = .bool (decide (6 ≤ op ∧ op ≤ 17)) ∧ L' = []) ?_ ?_
  · refine cv_region_then rfl ?_
    simp -implicitDefEqProofs (disch := first | omega | decide) only [seval, -Int.reducePow, -Nat.reducePow, cC, pv, binv, undef, Nat.mul_one, g21]
    repeat' ((first | refine vcg_cases (fun hg => ?_) (fun hg => ?_) | refine vdg_cases (fun hg => ?_) (fun hg => ?_)) <;> ((try simp only [Bool.not_eq_true', Bool.not_eq_false', decide_eq_true_eq, decide_eq_false_iff_not] at hg); (try simp -implicitDefEqProofs (disch := first | omega | decide) only [seval, -Int.reducePow, -Nat.reducePow, cC, pv, binv, undef, Nat.mul_one, hg, g21])))
    all_goals (repeat' refine And.intro ?_ ?_)
    all_goals (first | with_reducible rfl | (refine congrArg Value.bool ?_; rw [Bool.eq_iff_iff]; (try simp only [decide_eq_true_eq, eq_self, true_and, and_true, false_and, and_false, true_or, or_true, false_or, or_false, not_true_eq_false, not_false_eq_true, true_iff, iff_true, false_iff, iff_false, Bool.false_eq_true, Bool.not_eq_true', Bool.not_eq_true, decide_eq_false_iff_not, Bool.and_eq_true, Bool.or_eq_true]) <;> omega) | (refine congrArg (Value.int _) ?_; omega) | omega)
  intro G22 L' _ hF
  obtain ⟨q0, q26, rfl⟩ := hF
  have g22_0 := q0.trans g21_0
  have g22_26 := q26
  clear q0 q26
  have g22 := And.intro g22_0 g22_26
  refine hK _ _ ?_
  clear hK K
  refine cv_cond ?_
  simp -implicitDefEqProofs (disch := first | omega | decide) only [seval, -Int.reducePow, -Nat.reducePow, cC, pv, binv, undef, Nat.mul_one, g22]
  refine ⟨fun hc => ?_, fun hc => ?_⟩
  · have h3 := of_decide_eq_true hc
    refine cv_seq_k fun K hK => ?_
    refine cv_region_then rfl ?_
    simp -implicitDefEqProofs (disch := first | omega | decide) only [seval, -Int.reducePow, -Nat.reducePow, cC, pv, binv, undef, Nat.mul_one, g22]
    refine hK _ _ ?_
    clear hK K
    refine cv_ret ⟨_, (by simp -implicitDefEqProofs (disch := first | omega | decide) only [seval, -Int.reducePow, -Nat.reducePow, cC, pv, binv, undef, Nat.mul_one, g22]; rfl), fun w hw => ?_⟩
    exact ⟨by rw [show popP op = 2 by unfold popP; rw [if_neg (by omega)]; rw [if_neg (by omega)]; rw [if_neg (by omega)]; rw [if_neg (by omega)]; rw [if_neg (by omega)]; rw [if_pos (by omega)], show pushP op = 1 by unfold pushP; rw [if_neg (by omega)]; rw [if_neg (by omega)]; rw [if_neg (by omega)]; rw [if_neg (by omega)]; rw [if_neg (by omega)]; rw [if_pos (by omega)], decide_eq_true (show fxOk op by omega)] <;> rfl, hw.below⟩
  have h3 := of_decide_eq_false hc
  refine cv_seq_k fun K hK => ?_
  refine cv_cut (fun _ _ => True) (fun F' L' => F' 0 = G22 0 ∧ F' 33 = .bool (decide (op = 18)) ∧ L' = []) ?_ ?_
  · refine cv_region_then rfl ?_
    simp -implicitDefEqProofs (disch := first | omega | decide) only [seval, -Int.reducePow, -Nat.reducePow, cC, pv, binv, undef, Nat.mul_one, g22]
    repeat' ((first | refine vcg_cases (fun hg => ?_) (fun hg => ?_) | refine vdg_cases (fun hg => ?_) (fun hg => ?_)) <;> ((try simp only [Bool.not_eq_true', Bool.not_eq_false', decide_eq_true_eq, decide_eq_false_iff_not] at hg); (try simp -implicitDefEqProofs (disch := first | omega | decide) only [seval, -Int.reducePow, -Nat.reducePow, cC, pv, binv, undef, Nat.mul_one, hg, g22])))
    all_goals (repeat' refine And.intro ?_ ?_)
    all_goals (first | with_reducible rfl | (refine congrArg Value.bool ?_; rw [Bool.eq_iff_iff]; (try simp only [decide_eq_true_eq, eq_self, true_and, and_true, false_and, and_false, true_or, or_true, false_or, or_false, not_true_eq_false, not_false_eq_true, true_iff, iff_true, false_iff, iff_false, Bool.false_eq_true, Bool.not_eq_true', Bool.not_eq_true, decide_eq_false_iff_not, Bool.and_eq_true, Bool.or_eq_true]) <;> omega) | (refine congrArg (Value.int _) ?_; omega) | omega)
  intro G23 L' _ hF
  obtain ⟨q0, q33, rfl⟩ := hF
  have g23_0 := q0.trans g22_0
  have g23_33 := q33
  clear q0 q33
  have g23 := And.intro g23_0 g23_33
  refine hK _ _ ?_
  clear hK K
  refine cv_cond ?_
  simp -implicitDefEqProofs (disch := first | omega | decide) only [seval, -Int.reducePow, -Nat.reducePow, cC, pv, binv, undef, Nat.mul_one, g23]
  refine ⟨fun hc => ?_, fun hc => ?_⟩
  · have h4 := of_decide_eq_true hc
    refine cv_seq_k fun K hK => ?_
    refine cv_region_then rfl ?_
    simp -implicitDefEqProofs (disch := first | omega | decide) only [seval, -Int.reducePow, -Nat.reducePow, cC, pv, binv, undef, Nat.mul_one, g23]
    refine hK _ _ ?_
    clear hK K
    refine cv_ret ⟨_, (by simp -implicitDefEqProofs (disch := first | omega | decide) only [seval, -Int.reducePow, -Nat.reducePow, cC, pv, binv, undef, Nat.mul_one, g23]; rfl), fun w hw => ?_⟩
    exact ⟨by rw [show popP op = 1 by unfold popP; rw [if_neg (by omega)]; rw [if_neg (by omega)]; rw [if_neg (by omega)]; rw [if_pos (by omega)], show pushP op = 1 by unfold pushP; rw [if_neg (by omega)]; rw [if_neg (by omega)]; rw [if_neg (by omega)]; rw [if_pos (by omega)], decide_eq_true (show fxOk op by omega)] <;> rfl, hw.below⟩
  have h4 := of_decide_eq_false hc
  refine cv_seq_k fun K hK => ?_
  refine cv_cut (fun _ _ => True) (fun F' L' => F' 36 = .bool (decide (op = 19 ∨ op = 24 ∨ op = 25)) ∧ L' = []) ?_ ?_
  · refine cv_region_then rfl ?_
    simp -implicitDefEqProofs (disch := first | omega | decide) only [seval, -Int.reducePow, -Nat.reducePow, cC, pv, binv, undef, Nat.mul_one, g23]
    repeat' ((first | refine vcg_cases (fun hg => ?_) (fun hg => ?_) | refine vdg_cases (fun hg => ?_) (fun hg => ?_)) <;> ((try simp only [Bool.not_eq_true', Bool.not_eq_false', decide_eq_true_eq, decide_eq_false_iff_not] at hg); (try simp -implicitDefEqProofs (disch := first | omega | decide) only [seval, -Int.reducePow, -Nat.reducePow, cC, pv, binv, undef, Nat.mul_one, hg, g23])))
    all_goals (repeat' refine And.intro ?_ ?_)
    all_goals (first | with_reducible rfl | (refine congrArg Value.bool ?_; rw [Bool.eq_iff_iff]; (try simp only [decide_eq_true_eq, eq_self, true_and, and_true, false_and, and_false, true_or, or_true, false_or, or_false, not_true_eq_false, not_false_eq_true, true_iff, iff_true, false_iff, iff_false, Bool.false_eq_true, Bool.not_eq_true', Bool.not_eq_true, decide_eq_false_iff_not, Bool.and_eq_true, Bool.or_eq_true]) <;> omega) | (refine congrArg (Value.int _) ?_; omega) | omega)
  intro G24 L' _ hF
  obtain ⟨q36, rfl⟩ := hF
  have g24_36 := q36
  clear q36
  have g24 := g24_36
  refine hK _ _ ?_
  clear hK K
  refine cv_cond ?_
  simp -implicitDefEqProofs (disch := first | omega | decide) only [seval, -Int.reducePow, -Nat.reducePow, cC, pv, binv, undef, Nat.mul_one, g24]
  refine ⟨fun hc => ?_, fun hc => ?_⟩
  · have h5 := of_decide_eq_true hc
    refine cv_seq_k fun K hK => ?_
    refine cv_region_then rfl ?_
    simp -implicitDefEqProofs (disch := first | omega | decide) only [seval, -Int.reducePow, -Nat.reducePow, cC, pv, binv, undef, Nat.mul_one, g24]
    refine hK _ _ ?_
    clear hK K
    refine cv_ret ⟨_, (by simp -implicitDefEqProofs (disch := first | omega | decide) only [seval, -Int.reducePow, -Nat.reducePow, cC, pv, binv, undef, Nat.mul_one, g24]; rfl), fun w hw => ?_⟩
    exact ⟨by rw [show popP op = 0 by unfold popP; rw [if_neg (by omega)]; rw [if_neg (by omega)]; rw [if_neg (by omega)]; rw [if_neg (by omega)]; rw [if_pos (by omega)], show pushP op = 0 by unfold pushP; rw [if_neg (by omega)]; rw [if_neg (by omega)]; rw [if_neg (by omega)]; rw [if_neg (by omega)]; rw [if_pos (by omega)], decide_eq_true (show fxOk op by omega)] <;> rfl, hw.below⟩
  have h5 := of_decide_eq_false hc
  refine cv_skip ?_
  try simp only [blockQ, thenQ]
  refine hK _ _ ?_
  clear hK K
  refine cv_seq_k fun K hK => ?_
  refine cv_region_then rfl ?_
  simp -implicitDefEqProofs (disch := first | omega | decide) only [seval, -Int.reducePow, -Nat.reducePow, cC, pv, binv, undef, Nat.mul_one, g24]
  refine hK _ _ ?_
  clear hK K
  refine cv_ret ⟨_, (by simp -implicitDefEqProofs (disch := first | omega | decide) only [seval, -Int.reducePow, -Nat.reducePow, cC, pv, binv, undef, Nat.mul_one, g24]; rfl), fun w hw => ?_⟩
  exact ⟨by rw [show popP op = 0 by unfold popP; rw [if_neg (by omega)]; rw [if_neg (by omega)]; rw [if_neg (by omega)]; rw [if_neg (by omega)]; rw [if_neg (by omega)]; rw [if_neg (by omega)], show pushP op = 0 by unfold pushP; rw [if_neg (by omega)]; rw [if_neg (by omega)]; rw [if_neg (by omega)]; rw [if_neg (by omega)]; rw [if_neg (by omega)]; rw [if_neg (by omega)], decide_eq_false (show ¬ fxOk op by omega)] <;> rfl, hw.below⟩
theorem r_arity_any (c : Nat) (W : World) : Calls Tryz.prog 99 #[.int .i64 (c : Int)] W fun e w' => e = .returned (.tuple #[.int .i64 (arP c : Int), .bool (decide (hostP c))]) ∧ Below W.heap.size W w' := by
  refine calls_cv (M := []) (n := 16) [.tmp 2, .tmp 3] rfl Tryz.func99 rfl rfl (Nat.le_of_ble_eq_true rfl) (St.nil _ _) ?_
  refine cv_seq_k fun K hK => ?_
  refine cv_region_then rfl ?_
  simp -implicitDefEqProofs (disch := first | omega | decide) only [seval, -Int.reducePow, -Nat.reducePow, cC, pv, binv, undef, Nat.mul_one]
  refine hK _ _ ?_
  clear hK K
  refine cv_seq_k fun K hK => ?_
  refine cv_region_then rfl ?_
  simp -implicitDefEqProofs (disch := first | omega | decide) only [seval, -Int.reducePow, -Nat.reducePow, cC, pv, binv, undef, Nat.mul_one]
  intro b hb
  refine hK _ _ ?_
  clear hK K
  refine cv_gen fun G25 hG => ?_
  have g25_0 := congrFun hG 0
  have g25_4 := congrFun hG 4
  clear hG
  try simp -implicitDefEqProofs (disch := first | omega | decide) only [seval, -Int.reducePow, -Nat.reducePow, cC, pv, binv, undef, Nat.mul_one] at g25_0 g25_4
  have g25 := And.intro g25_0 g25_4
  refine cv_seq_k fun K hK => ?_
  refine cv_seq_k fun K hK => ?_
  refine cv_cut (fun _ _ => True) (fun F' L' => F' 0 = G25 0 ∧ F' 4 = G25 4 ∧ F' 11 = .bool (decide (¬ hostP c)) ∧ L' = [.blk b 3 [.int .i64 0, .int .i64 1, .int .i64 1, .int .i64 2, .int .i64 3, .int .i64 3, .int .i64 4, .int .i64 5, .int .i64 2, .int .i64 2, .int .i64 2, .int .i64 1]]) ?_ ?_
  · refine cv_region_then rfl ?_
    simp -implicitDefEqProofs (disch := first | omega | decide) only [seval, -Int.reducePow, -Nat.reducePow, cC, pv, binv, undef, Nat.mul_one, g25]
    repeat' ((first | refine vcg_cases (fun hg => ?_) (fun hg => ?_) | refine vdg_cases (fun hg => ?_) (fun hg => ?_)) <;> ((try simp only [Bool.not_eq_true', Bool.not_eq_false', decide_eq_true_eq, decide_eq_false_iff_not] at hg); (try simp -implicitDefEqProofs (disch := first | omega | decide) only [seval, -Int.reducePow, -Nat.reducePow, cC, pv, binv, undef, Nat.mul_one, hg, g25])))
    all_goals (repeat' refine And.intro ?_ ?_)
    all_goals (first | with_reducible rfl | (refine congrArg Value.bool ?_; rw [Bool.eq_iff_iff]; (try simp only [hostP, decide_eq_true_eq, eq_self, true_and, and_true, false_and, and_false, true_or, or_true, false_or, or_false, not_true_eq_false, not_false_eq_true, true_iff, iff_true, false_iff, iff_false, Bool.false_eq_true, Bool.not_eq_true', Bool.not_eq_true, decide_eq_false_iff_not, Bool.and_eq_true, Bool.or_eq_true]) <;> omega) | (refine congrArg (Value.int _) ?_; omega) | omega)
  intro G26 L' _ hF
  obtain ⟨q0, q4, q11, rfl⟩ := hF
  have g26_0 := q0.trans g25_0
  have g26_4 := q4.trans g25_4
  have g26_11 := q11
  clear q0 q4 q11
  have g26 := And.intro g26_0 (And.intro g26_4 g26_11)
  refine hK _ _ ?_
  clear hK K
  refine cv_cond ?_
  simp -implicitDefEqProofs (disch := first | omega | decide) only [seval, -Int.reducePow, -Nat.reducePow, cC, pv, binv, undef, Nat.mul_one, g26]
  refine ⟨fun hc => ?_, fun hc => ?_⟩
  · have h0 := of_decide_eq_true hc
    refine cv_seq_k fun K hK => ?_
    refine cv_region_then rfl ?_
    simp -implicitDefEqProofs (disch := first | omega | decide) only [seval, -Int.reducePow, -Nat.reducePow, cC, pv, binv, undef, Nat.mul_one, g26]
    refine hK _ _ ?_
    clear hK K
    refine cv_ret ⟨_, (by simp -implicitDefEqProofs (disch := first | omega | decide) only [seval, -Int.reducePow, -Nat.reducePow, cC, pv, binv, undef, Nat.mul_one, g26]; rfl), fun w hw => ?_⟩
    exact ⟨by rw [decide_eq_false h0, show arP c = 0 by unfold arP; rw [if_neg (by omega)]; rw [if_neg (by omega)]; rw [if_neg (by omega)]; rw [if_neg (by omega)]; rw [if_neg (by omega)]] <;> rfl, hw.below⟩
  have h0 := of_decide_eq_false hc
  have h1 : hostP c := Decidable.not_not.1 h0
  refine cv_skip ?_
  try simp only [blockQ, thenQ]
  refine hK _ _ ?_
  clear hK K
  have e : ([Value.int .i64 0, .int .i64 1, .int .i64 1, .int .i64 2, .int .i64 3, .int .i64 3, .int .i64 4, .int .i64 5, .int .i64 2, .int .i64 2, .int .i64 2, .int .i64 1] : List Value)[c]? = some (Value.int .i64 (arP c : Int)) := by
    obtain ⟨ha, hb⟩ := h1
    have : c = 1 ∨ c = 2 ∨ c = 3 ∨ c = 4 ∨ c = 5 ∨ c = 6 ∨ c = 7 ∨ c = 8 ∨ c = 9 ∨ c = 10 ∨ c = 11 := by omega
    rcases this with rfl | rfl | rfl | rfl | rfl | rfl | rfl | rfl | rfl | rfl | rfl <;> rfl
  refine cv_seq_k fun K hK => ?_
  refine cv_region_then rfl ?_
  simp -implicitDefEqProofs (disch := first | omega | decide) only [seval, -Int.reducePow, -Nat.reducePow, cC, pv, binv, undef, Nat.mul_one, e, g26]
  refine hK _ _ ?_
  clear hK K
  refine cv_ret ⟨_, (by simp -implicitDefEqProofs (disch := first | omega | decide) only [seval, -Int.reducePow, -Nat.reducePow, cC, pv, binv, undef, Nat.mul_one, g26]; rfl), fun w hw => ?_⟩
  exact ⟨by rw [decide_eq_true h1], hw.below⟩
theorem f_arity_any (c : Nat) (W : World) : Calls Tryz.prog 87 #[.int .u64 (c : Int)] W fun e w' => e = .returned (.tuple #[.int .i64 (arP c : Int), .bool (decide (hostP c))]) ∧ Below W.heap.size W w' := by
  refine calls_cv (M := []) (n := 11) [.tmp 2, .tmp 3] rfl Tryz.func87 rfl rfl (Nat.le_of_ble_eq_true rfl) (St.nil _ _) ?_
  refine cv_seq_k fun K hK => ?_
  refine cv_region_then rfl ?_
  simp -implicitDefEqProofs (disch := first | omega | decide) only [seval, -Int.reducePow, -Nat.reducePow, cC, pv, binv, undef, Nat.mul_one]
  refine hK _ _ ?_
  clear hK K
  refine cv_seq_k fun K hK => ?_
  refine cv_seq_k fun K hK => ?_
  refine cv_region_then rfl ?_
  simp -implicitDefEqProofs (disch := first | omega | decide) only [seval, -Int.reducePow, -Nat.reducePow, cC, pv, binv, undef, Nat.mul_one]
  refine hK _ _ ?_
  clear hK K
  refine cv_cond ?_
  simp -implicitDefEqProofs (disch := first | omega | decide) only [seval, -Int.reducePow, -Nat.reducePow, cC, pv, binv, undef, Nat.mul_one]
  refine ⟨fun hc => ?_, fun hc => ?_⟩
  · have h0 := of_decide_eq_true ‹_›
    refine cv_seq_k fun K hK => ?_
    refine cv_region_then rfl ?_
    simp -implicitDefEqProofs (disch := first | omega | decide) only [seval, -Int.reducePow, -Nat.reducePow, cC, pv, binv, undef, Nat.mul_one]
    refine hK _ _ ?_
    clear hK K
    refine cv_ret ⟨_, (by simp -implicitDefEqProofs (disch := first | omega | decide) only [seval, -Int.reducePow, -Nat.reducePow, cC, pv, binv, undef, Nat.mul_one]; rfl), fun w hw => ?_⟩
    exact ⟨by rw [decide_eq_false (show ¬ hostP c by omega), show arP c = 0 by unfold arP; rw [if_neg (by omega)]; rw [if_neg (by omega)]; rw [if_neg (by omega)]; rw [if_neg (by omega)]; rw [if_neg (by omega)]] <;> rfl, hw.below⟩
  have h0 := of_decide_eq_false ‹_›
  refine cv_skip ?_
  try simp only [blockQ, thenQ]
  refine hK _ _ ?_
  clear hK K
  refine cv_seq_k fun K hK => ?_
  refine cv_region_then rfl ?_
  simp -implicitDefEqProofs (disch := first | omega | decide) only [seval, -Int.reducePow, -Nat.reducePow, cC, pv, binv, undef, Nat.mul_one, wrap_in]
  refine callV_ret (fun w hw => i_arity_any c w) ?_
  try simp -implicitDefEqProofs (disch := first | omega | decide) only [seval, -Int.reducePow, -Nat.reducePow, cC, pv, binv, undef, Nat.mul_one]
  refine hK _ _ ?_
  clear hK K
  refine cv_ret ⟨_, (by simp -implicitDefEqProofs (disch := first | omega | decide) only [seval, -Int.reducePow, -Nat.reducePow, cC, pv, binv, undef, Nat.mul_one]; rfl), fun w hw => ?_⟩
  exact ⟨rfl, hw.below⟩
theorem isHost_any (c : Nat) (W : World) : Calls Tryz.prog 83 #[.int .u64 (c : Int)] W fun e w' => e = .returned (.bool (decide (hostP c))) ∧ Below W.heap.size W w' := by
  refine calls_cv (M := []) (n := 11) [.tmp 2] rfl Tryz.func83 rfl rfl (Nat.le_of_ble_eq_true rfl) (St.nil _ _) ?_
  refine cv_seq_k fun K hK => ?_
  refine cv_region_then rfl ?_
  simp -implicitDefEqProofs (disch := first | omega | decide) only [seval, -Int.reducePow, -Nat.reducePow, cC, pv, binv, undef, Nat.mul_one]
  refine hK _ _ ?_
  clear hK K
  refine cv_seq_k fun K hK => ?_
  refine cv_region_then rfl ?_
  simp -implicitDefEqProofs (disch := first | omega | decide) only [seval, -Int.reducePow, -Nat.reducePow, cC, pv, binv, undef, Nat.mul_one]
  refine callV_ret (fun w hw => f_arity_any c w) ?_
  try simp -implicitDefEqProofs (disch := first | omega | decide) only [seval, -Int.reducePow, -Nat.reducePow, cC, pv, binv, undef, Nat.mul_one]
  refine hK _ _ ?_
  clear hK K
  refine cv_seq_k fun K hK => ?_
  refine cv_region_then rfl ?_
  simp -implicitDefEqProofs (disch := first | omega | decide) only [seval, -Int.reducePow, -Nat.reducePow, cC, pv, binv, undef, Nat.mul_one]
  refine hK _ _ ?_
  clear hK K
  refine cv_ret ⟨_, (by simp -implicitDefEqProofs (disch := first | omega | decide) only [seval, -Int.reducePow, -Nat.reducePow, cC, pv, binv, undef, Nat.mul_one]; rfl), fun w hw => ?_⟩
  exact ⟨rfl, hw.below⟩
end Go.Proofs.YtlbmnioibiomfaaGreat
/- flow's effect, static, find, Static. -/
namespace Go.Proofs.YtlbmnioibiomfaaGreat
open Go.RowKit Go.Shelf
set_option linter.unusedVariables false
set_option linter.unusedSimpArgs false
set_option maxRecDepth 100000
theorem wrapu {x : Int} (h1 : 0 ≤ x) (h2 : x ≤ 18446744073709551615) : IntKind.u64.wrap x = x := IntWalk.u64_in _ ⟨h1, h2⟩
set_option maxRecDepth 100000 in
theorem sFlSt1 : type_of% (And.intro (And.intro (And.intro @fBox.eq_1 (And.intro @tBox.eq_1 @iBox.eq_1)) (And.intro (And.intro @mBox.eq_1 @gBox.eq_1) (And.intro @flBox.eq_1 @fdV.eq_1))) (And.intro (And.intro @tyV.eq_1 (And.intro @insV.eq_1 @fnV.eq_1)) (And.intro (And.intro @modV.eq_1 @fltV.eq_1) (And.intro @fineF.eq_1 @Nat.mul_one)))) := (And.intro (And.intro (And.intro @fBox.eq_1 (And.intro @tBox.eq_1 @iBox.eq_1)) (And.intro (And.intro @mBox.eq_1 @gBox.eq_1) (And.intro @flBox.eq_1 @fdV.eq_1))) (And.intro (And.intro @tyV.eq_1 (And.intro @insV.eq_1 @fnV.eq_1)) (And.intro (And.intro @modV.eq_1 @fltV.eq_1) (And.intro @fineF.eq_1 @Nat.mul_one))))
theorem f_fine_any (W : World) : Calls Tryz.prog 43 #[] W fun en w' => en = .returned (fltV fineF) ∧ Below W.heap.size W w' := by
  refine calls_cv2 (M := []) (n := 2) [.cell 0 45] rfl Tryz.func43 rfl rfl (Nat.le_of_ble_eq_true rfl) (St.nil _ _) ?_
  refine cv_seq_k fun K hK => ?_
  refine cv_region_then rfl ?_
  simp -implicitDefEqProofs (disch := first | omega | decide) only [seval, -Int.reducePow, -Nat.reducePow, cC, pv, binv, sFlSt1, undef]
  intro b hb
  refine hK _ _ ?_
  clear hK K
  refine cv_seq_k fun K hK => ?_
  refine cv_region_then rfl ?_
  simp -implicitDefEqProofs (disch := first | omega | decide) only [seval, -Int.reducePow, -Nat.reducePow, cC, pv, binv, sFlSt1, undef]
  refine hK _ _ ?_
  clear hK K
  refine cv_ret ?_
  simp -implicitDefEqProofs (disch := first | omega | decide) only [seval, -Int.reducePow, -Nat.reducePow, cC, pv, binv, sFlSt1, undef, retQ2, ressV, packV]
  intro w hw
  exact hw.below
set_option maxHeartbeats 1000000 in
theorem effect_any (m : ModR) (i : Ins) (W : World) (hM : Mod W W.heap.size m) (hi : i.op = 21 → i.arg < m.gs.length) : Calls Tryz.prog 63 #[modV m, insV i] W fun e w' => e = .returned (.tuple #[.int .i64 (fxP m.gs i).1, .int .i64 (fxP m.gs i).2]) ∧ Below W.heap.size W w' := by
  have hlg := hM.glen
  have hG := hM.gs
  obtain ⟨TA, tn, tc, ts, FA, fn, fc, gs⟩ := m
  dsimp only at *
  refine calls_cv (M := []) (n := 44) [.tmp 4, .tmp 5] rfl Tryz.func63 rfl rfl (Nat.le_of_ble_eq_true rfl) (St.nil _ _) ?_
  refine cv_seq_k fun K hK => ?_
  refine cv_region_then rfl ?_
  simp -implicitDefEqProofs (disch := first | omega | decide) only [seval, -Int.reducePow, -Nat.reducePow, cC, pv, binv, sFlSt1, undef]
  intro b1 hb1 b2 hb2 h2
  refine hK _ _ ?_
  clear hK K
  refine cv_seq_k fun K hK => ?_
  refine cv_seq_k fun K hK => ?_
  refine cv_region_then rfl ?_
  simp -implicitDefEqProofs (disch := first | omega | decide) only [seval, -Int.reducePow, -Nat.reducePow, cC, pv, binv, sFlSt1, undef]
  refine hK _ _ ?_
  clear hK K
  refine cv_gen fun G1 hG => ?_
  have g1_2 := congrFun hG 2
  have g1_3 := congrFun hG 3
  have g1_13 := congrFun hG 13
  clear hG
  try simp -implicitDefEqProofs (disch := first | omega | decide) only [seval, -Int.reducePow, -Nat.reducePow, cC, pv, binv, sFlSt1, undef] at g1_2 g1_3 g1_13
  have g1 := And.intro g1_2 (And.intro g1_3 g1_13)
  refine cv_block ?_
  refine cv_seq_k fun K hK => ?_
  refine cv_region_then rfl ?_
  simp -implicitDefEqProofs (disch := first | omega | decide) only [seval, -Int.reducePow, -Nat.reducePow, cC, pv, binv, sFlSt1, undef, g1]
  refine hK _ _ ?_
  clear hK K
  refine cv_cond ?_
  simp -implicitDefEqProofs (disch := first | omega | decide) only [seval, -Int.reducePow, -Nat.reducePow, cC, pv, binv, sFlSt1, undef, g1]
  refine ⟨fun hc => ?_, fun hc => ?_⟩
  · have q1 := of_decide_eq_true ‹_›
    have hlt : i.arg < fn := by have := hi q1; omega
    obtain ⟨b0, off, rfl, hb0, -⟩ := hG.cells (by omega)
    obtain ⟨x, hx⟩ := some_of (l := gs) (i := i.arg) (by omega)
    refine cv_seq_k fun K hK => ?_
    refine cv_region_then rfl ?_
    simp -implicitDefEqProofs (disch := first | omega | decide) only [seval, -Int.reducePow, -Nat.reducePow, cC, pv, binv, sFlSt1, undef, g1]
    refine ⟨_, hG.fnl hx, fun tok htok => ?_⟩
    subst htok
    simp -implicitDefEqProofs (disch := first | omega | decide) only [seval, -Int.reducePow, -Nat.reducePow, cC, pv, binv, sFlSt1, undef, g1]
    intro b6 hb6 h6
    refine hK _ _ ?_
    clear hK K
    refine cv_seq_k fun K hK => ?_
    refine cv_draw [(true, 0), (true, 1), (true, 2), (true, 3), (true, 4), (true, 5)] [] mixA rfl (by kernel_rfl) (by kernel_rfl) rfl rfl ?_
    simp -implicitDefEqProofs (disch := first | omega | decide) only [seval, -Int.reducePow, -Nat.reducePow, cC, pv, binv, sFlSt1, undef, g1]
    refine hK _ _ ?_
    clear hK K
    refine cv_ret ⟨_, (by simp -implicitDefEqProofs (disch := first | omega | decide) only [seval, -Int.reducePow, -Nat.reducePow, cC, pv, binv, sFlSt1, undef, g1]; rfl), fun w hw => ?_⟩
    exact ⟨by unfold fxP; rw [if_pos q1, hx] <;> rfl, hw.below⟩
  have q1 := of_decide_eq_false ‹_›
  refine cv_seq_k fun K hK => ?_
  refine cv_region_then rfl ?_
  simp -implicitDefEqProofs (disch := first | omega | decide) only [seval, -Int.reducePow, -Nat.reducePow, cC, pv, binv, sFlSt1, undef, g1]
  refine hK _ _ ?_
  clear hK K
  refine cv_cond ?_
  simp -implicitDefEqProofs (disch := first | omega | decide) only [seval, -Int.reducePow, -Nat.reducePow, cC, pv, binv, sFlSt1, undef, g1]
  refine ⟨fun hc => ?_, fun hc => ?_⟩
  · have q2 := of_decide_eq_true ‹_›
    refine cv_seq_k fun K hK => ?_
    refine cv_region_then rfl ?_
    simp -implicitDefEqProofs (disch := first | omega | decide) only [seval, -Int.reducePow, -Nat.reducePow, cC, pv, binv, sFlSt1, undef, g1]
    refine callV_ret (fun w hw => f_arity_any i.arg w) ?_
    try simp -implicitDefEqProofs (disch := first | omega | decide) only [seval, -Int.reducePow, -Nat.reducePow, cC, pv, binv, sFlSt1, undef, g1]
    refine hK _ _ ?_
    clear hK K
    refine cv_seq_k fun K hK => ?_
    refine cv_region_then rfl ?_
    simp -implicitDefEqProofs (disch := first | omega | decide) only [seval, -Int.reducePow, -Nat.reducePow, cC, pv, binv, sFlSt1, undef, g1]
    refine hK _ _ ?_
    clear hK K
    refine cv_ret ⟨_, (by simp -implicitDefEqProofs (disch := first | omega | decide) only [seval, -Int.reducePow, -Nat.reducePow, cC, pv, binv, sFlSt1, undef, g1]; rfl), fun w hw => ?_⟩
    exact ⟨by unfold fxP; rw [if_neg q1, if_pos q2] <;> rfl, hw.below⟩
  have q2 := of_decide_eq_false ‹_›
  refine cv_skip ?_
  try simp only [blockQ, thenQ]
  refine hK _ _ ?_
  clear hK K
  refine cv_seq_k fun K hK => ?_
  refine cv_region_then rfl ?_
  simp -implicitDefEqProofs (disch := first | omega | decide) only [seval, -Int.reducePow, -Nat.reducePow, cC, pv, binv, sFlSt1, undef, g1]
  refine callV_ret (fun w hw => i_effect_any i.op w) ?_
  try simp -implicitDefEqProofs (disch := first | omega | decide) only [seval, -Int.reducePow, -Nat.reducePow, cC, pv, binv, sFlSt1, undef, g1]
  refine hK _ _ ?_
  clear hK K
  refine cv_seq_k fun K hK => ?_
  refine cv_region_then rfl ?_
  simp -implicitDefEqProofs (disch := first | omega | decide) only [seval, -Int.reducePow, -Nat.reducePow, cC, pv, binv, sFlSt1, undef, g1]
  refine hK _ _ ?_
  clear hK K
  refine cv_ret ⟨_, (by simp -implicitDefEqProofs (disch := first | omega | decide) only [seval, -Int.reducePow, -Nat.reducePow, cC, pv, binv, sFlSt1, undef, g1]; rfl), fun w hw => ?_⟩
  exact ⟨by unfold fxP; rw [if_neg q1, if_neg q2] <;> rfl, hw.below⟩
set_option maxHeartbeats 2000000 in
theorem static_any (m : ModR) (x : FnR) (k : Nat) (i : Ins) (W : World) (hM : Mod W W.heap.size m) (hX : Sl W W.heap.size 2 x.A x.n x.c (cl insc x.code)) (hi : x.code[k]? = some i)
    (hp : 0 ≤ x.p) (hl : 0 ≤ x.l) (hpl : x.p + x.l ≤ 64) (h32 : m.gs.length ≤ 32) (h1024 : x.code.length ≤ 1024) :
    Calls Tryz.prog 61 #[modV m, fnV x, .int .i64 (k : Int)] W fun e w' => e = .returned (.int .i64 (stE m.gs.length x k i)) ∧ Below W.heap.size W w' := by
  have hlg := hM.glen
  have hxl : x.code.length = x.n := cl_row insc_len (by omega) hX.len
  have hk : k < x.n := by have := (List.getElem?_eq_some_iff.1 hi).1; omega
  obtain ⟨TA, tn, tc, ts, FA, fn, fc, gs⟩ := m
  obtain ⟨xp, xr, xl, xA, xn, xc, code⟩ := x
  dsimp only at *
  obtain ⟨b0, off, rfl, hb0, -⟩ := hX.cells (by omega)
  refine calls_cv (M := []) (n := 91) [.tmp 6] rfl Tryz.func61 rfl rfl (Nat.le_of_ble_eq_true rfl) (St.nil _ _) ?_
  refine cv_seq_k fun K hK => ?_
  refine cv_region_then rfl ?_
  simp -implicitDefEqProofs (disch := first | omega | decide) only [seval, -Int.reducePow, -Nat.reducePow, cC, pv, binv, sFlSt1, undef]
  intro b1 hb1 b2 hb2 h2
  refine hK _ _ ?_
  clear hK K
  refine cv_seq_k fun K hK => ?_
  refine cv_region_then rfl ?_
  simp -implicitDefEqProofs (disch := first | omega | decide) only [seval, -Int.reducePow, -Nat.reducePow, cC, pv, binv, sFlSt1, undef]
  refine ⟨_, hX.ins hi, fun tok htok => ?_⟩
  subst htok
  simp -implicitDefEqProofs (disch := first | omega | decide) only [seval, -Int.reducePow, -Nat.reducePow, cC, pv, binv, sFlSt1, undef]
  intro b7 hb7 h7
  refine hK _ _ ?_
  clear hK K
  refine cv_gen fun G2 hG => ?_
  have g2_2 := congrFun hG 2
  have g2_3 := congrFun hG 3
  have g2_4 := congrFun hG 4
  have g2_7 := congrFun hG 7
  clear hG
  try simp -implicitDefEqProofs (disch := first | omega | decide) only [seval, -Int.reducePow, -Nat.reducePow, cC, pv, binv, sFlSt1, undef] at g2_2 g2_3 g2_4 g2_7
  have g2 := And.intro g2_2 (And.intro g2_3 (And.intro g2_4 g2_7))
  refine cv_seq_k fun K hK => ?_
  refine cv_cut (fun _ _ => True) (fun F' L' => F' 2 = G2 2 ∧ F' 3 = G2 3 ∧ F' 4 = G2 4 ∧ F' 7 = G2 7 ∧ F' 8 = .bool (decide (i.op = 19 ∨ i.op = 20)) ∧ L' = [iBox b7 i, gBox b2 ⟨xp, xr, xl, some ⟨b0, off, none⟩, xn, xc, code⟩, mBox b1 ⟨TA, tn, tc, ts, FA, fn, fc, gs⟩]) ?_ ?_
  · refine cv_region_then rfl ?_
    simp -implicitDefEqProofs (disch := first | omega | decide) only [seval, -Int.reducePow, -Nat.reducePow, cC, pv, binv, sFlSt1, undef, g2]
    repeat' ((first | refine vcg_cases (fun hg => ?_) (fun hg => ?_) | refine vdg_cases (fun hg => ?_) (fun hg => ?_)) <;> ((try simp only [Bool.not_eq_true', Bool.not_eq_false', decide_eq_true_eq, decide_eq_false_iff_not] at hg); (try simp -implicitDefEqProofs (disch := first | omega | decide) only [seval, -Int.reducePow, -Nat.reducePow, cC, pv, binv, sFlSt1, undef, hg, g2])))
    all_goals (repeat' refine And.intro ?_ ?_)
    all_goals (first | with_reducible rfl | (refine congrArg Value.bool ?_; rw [Bool.eq_iff_iff]; (try simp only [decide_eq_true_eq, eq_self, true_and, and_true, false_and, and_false, true_or, or_true, false_or, or_false, not_true_eq_false, not_false_eq_true, true_iff, iff_true, false_iff, iff_false, Bool.false_eq_true, Bool.not_eq_true', Bool.not_eq_true, decide_eq_false_iff_not, Bool.and_eq_true, Bool.or_eq_true]) <;> omega) | (refine congrArg (Value.int _) ?_; omega) | omega)
  intro G3 L' _ hF
  obtain ⟨q2, q3, q4, q7, q8, rfl⟩ := hF
  have g3_2 := q2.trans g2_2
  have g3_3 := q3.trans g2_3
  have g3_4 := q4.trans g2_4
  have g3_7 := q7.trans g2_7
  have g3_8 := q8
  clear q2 q3 q4 q7 q8
  have g3 := And.intro g3_2 (And.intro g3_3 (And.intro g3_4 (And.intro g3_7 g3_8)))
  refine hK _ _ ?_
  clear hK K
  refine cv_seq_k fun K hK => ?_
  refine cv_cut (fun _ _ => True) (fun F' L' => F' 2 = G3 2 ∧ F' 3 = G3 3 ∧ F' 4 = G3 4 ∧ F' 7 = G3 7 ∧ F' 8 = G3 8 ∧ F' 9 = .bool (decide (i.op = 2 ∨ i.op = 3)) ∧ L' = [iBox b7 i, gBox b2 ⟨xp, xr, xl, some ⟨b0, off, none⟩, xn, xc, code⟩, mBox b1 ⟨TA, tn, tc, ts, FA, fn, fc, gs⟩]) ?_ ?_
  · refine cv_region_then rfl ?_
    simp -implicitDefEqProofs (disch := first | omega | decide) only [seval, -Int.reducePow, -Nat.reducePow, cC, pv, binv, sFlSt1, undef, g3]
    repeat' ((first | refine vcg_cases (fun hg => ?_) (fun hg => ?_) | refine vdg_cases (fun hg => ?_) (fun hg => ?_)) <;> ((try simp only [Bool.not_eq_true', Bool.not_eq_false', decide_eq_true_eq, decide_eq_false_iff_not] at hg); (try simp -implicitDefEqProofs (disch := first | omega | decide) only [seval, -Int.reducePow, -Nat.reducePow, cC, pv, binv, sFlSt1, undef, hg, g3])))
    all_goals (repeat' refine And.intro ?_ ?_)
    all_goals (first | with_reducible rfl | (refine congrArg Value.bool ?_; rw [Bool.eq_iff_iff]; (try simp only [decide_eq_true_eq, eq_self, true_and, and_true, false_and, and_false, true_or, or_true, false_or, or_false, not_true_eq_false, not_false_eq_true, true_iff, iff_true, false_iff, iff_false, Bool.false_eq_true, Bool.not_eq_true', Bool.not_eq_true, decide_eq_false_iff_not, Bool.and_eq_true, Bool.or_eq_true]) <;> omega) | (refine congrArg (Value.int _) ?_; omega) | omega)
  intro G4 L' _ hF
  obtain ⟨q2, q3, q4, q7, q8, q9, rfl⟩ := hF
  have g4_2 := q2.trans g3_2
  have g4_3 := q3.trans g3_3
  have g4_4 := q4.trans g3_4
  have g4_7 := q7.trans g3_7
  have g4_8 := q8.trans g3_8
  have g4_9 := q9
  clear q2 q3 q4 q7 q8 q9
  have g4 := And.intro g4_2 (And.intro g4_3 (And.intro g4_4 (And.intro g4_7 (And.intro g4_8 g4_9))))
  refine hK _ _ ?_
  clear hK K
  refine cv_seq_k fun K hK => ?_
  refine cv_block ?_
  refine cv_seq_k fun K hK => ?_
  refine cv_cut (fun _ _ => True) (fun F' L' => F' 2 = G4 2 ∧ F' 3 = G4 3 ∧ F' 4 = G4 4 ∧ F' 7 = G4 7 ∧ F' 9 = G4 9 ∧ F' 31 = .bool (decide ((i.op = 19 ∨ i.op = 20) ∧ code.length ≤ i.arg)) ∧ L' = [iBox b7 i, gBox b2 ⟨xp, xr, xl, some ⟨b0, off, none⟩, xn, xc, code⟩, mBox b1 ⟨TA, tn, tc, ts, FA, fn, fc, gs⟩]) ?_ ?_
  · refine cv_region_then rfl ?_
    simp -implicitDefEqProofs (disch := first | omega | decide) only [seval, -Int.reducePow, -Nat.reducePow, cC, pv, binv, sFlSt1, undef, g4]
    repeat' ((first | refine vcg_cases (fun hg => ?_) (fun hg => ?_) | refine vdg_cases (fun hg => ?_) (fun hg => ?_)) <;> ((try simp only [Bool.not_eq_true', Bool.not_eq_false', decide_eq_true_eq, decide_eq_false_iff_not] at hg); (try simp -implicitDefEqProofs (disch := first | omega | decide) only [seval, -Int.reducePow, -Nat.reducePow, cC, pv, binv, sFlSt1, undef, hg, wrap_in, wrapu, g4])))
    all_goals (repeat' refine And.intro ?_ ?_)
    all_goals (first | with_reducible rfl | (refine congrArg Value.bool ?_; rw [Bool.eq_iff_iff]; (try simp only [decide_eq_true_eq, eq_self, true_and, and_true, false_and, and_false, true_or, or_true, false_or, or_false, not_true_eq_false, not_false_eq_true, true_iff, iff_true, false_iff, iff_false, Bool.false_eq_true, Bool.not_eq_true', Bool.not_eq_true, decide_eq_false_iff_not, Bool.and_eq_true, Bool.or_eq_true]) <;> omega) | (refine congrArg (Value.int _) ?_; omega) | omega)
  intro G5 L' _ hF
  obtain ⟨q2, q3, q4, q7, q9, q31, rfl⟩ := hF
  have g5_2 := q2.trans g4_2
  have g5_3 := q3.trans g4_3
  have g5_4 := q4.trans g4_4
  have g5_7 := q7.trans g4_7
  have g5_9 := q9.trans g4_9
  have g5_31 := q31
  clear q2 q3 q4 q7 q9 q31
  have g5 := And.intro g5_2 (And.intro g5_3 (And.intro g5_4 (And.intro g5_7 (And.intro g5_9 g5_31))))
  refine hK _ _ ?_
  clear hK K
  refine cv_cond ?_
  simp -implicitDefEqProofs (disch := first | omega | decide) only [seval, -Int.reducePow, -Nat.reducePow, cC, pv, binv, sFlSt1, undef, g5]
  refine ⟨fun hc => ?_, fun hc => ?_⟩
  · have q1 := of_decide_eq_true ‹_›
    refine cv_seq_k fun K hK => ?_
    refine cv_region_then rfl ?_
    simp -implicitDefEqProofs (disch := first | omega | decide) only [seval, -Int.reducePow, -Nat.reducePow, cC, pv, binv, sFlSt1, undef, g5]
    refine hK _ _ ?_
    clear hK K
    refine cv_ret ⟨_, (by simp -implicitDefEqProofs (disch := first | omega | decide) only [seval, -Int.reducePow, -Nat.reducePow, cC, pv, binv, sFlSt1, undef, g5]; rfl), fun w hw => ?_⟩
    exact ⟨by unfold stE; rw [if_pos q1], hw.below⟩
  have q1 := of_decide_eq_false ‹_›
  refine cv_seq_k fun K hK => ?_
  refine cv_cut (fun _ _ => True) (fun F' L' => F' 2 = G5 2 ∧ F' 3 = G5 3 ∧ F' 4 = G5 4 ∧ F' 7 = G5 7 ∧ F' 42 = .bool (decide ((i.op = 2 ∨ i.op = 3) ∧ xp + xl ≤ (i.arg : Int))) ∧ L' = [iBox b7 i, gBox b2 ⟨xp, xr, xl, some ⟨b0, off, none⟩, xn, xc, code⟩, mBox b1 ⟨TA, tn, tc, ts, FA, fn, fc, gs⟩]) ?_ ?_
  · refine cv_region_then rfl ?_
    simp -implicitDefEqProofs (disch := first | omega | decide) only [seval, -Int.reducePow, -Nat.reducePow, cC, pv, binv, sFlSt1, undef, g5]
    repeat' ((first | refine vcg_cases (fun hg => ?_) (fun hg => ?_) | refine vdg_cases (fun hg => ?_) (fun hg => ?_)) <;> ((try simp only [Bool.not_eq_true', Bool.not_eq_false', decide_eq_true_eq, decide_eq_false_iff_not] at hg); (try simp -implicitDefEqProofs (disch := first | omega | decide) only [seval, -Int.reducePow, -Nat.reducePow, cC, pv, binv, sFlSt1, undef, hg, wrap_in, wrapu, g5])))
    all_goals (repeat' refine And.intro ?_ ?_)
    all_goals (first | with_reducible rfl | (refine congrArg Value.bool ?_; rw [Bool.eq_iff_iff]; (try simp only [decide_eq_true_eq, eq_self, true_and, and_true, false_and, and_false, true_or, or_true, false_or, or_false, not_true_eq_false, not_false_eq_true, true_iff, iff_true, false_iff, iff_false, Bool.false_eq_true, Bool.not_eq_true', Bool.not_eq_true, decide_eq_false_iff_not, Bool.and_eq_true, Bool.or_eq_true]) <;> omega) | (refine congrArg (Value.int _) ?_; omega) | omega)
  intro G6 L' _ hF
  obtain ⟨q2, q3, q4, q7, q42, rfl⟩ := hF
  have g6_2 := q2.trans g5_2
  have g6_3 := q3.trans g5_3
  have g6_4 := q4.trans g5_4
  have g6_7 := q7.trans g5_7
  have g6_42 := q42
  clear q2 q3 q4 q7 q42
  have g6 := And.intro g6_2 (And.intro g6_3 (And.intro g6_4 (And.intro g6_7 g6_42)))
  refine hK _ _ ?_
  clear hK K
  refine cv_cond ?_
  simp -implicitDefEqProofs (disch := first | omega | decide) only [seval, -Int.reducePow, -Nat.reducePow, cC, pv, binv, sFlSt1, undef, g6]
  refine ⟨fun hc => ?_, fun hc => ?_⟩
  · have q2 := of_decide_eq_true ‹_›
    refine cv_seq_k fun K hK => ?_
    refine cv_region_then rfl ?_
    simp -implicitDefEqProofs (disch := first | omega | decide) only [seval, -Int.reducePow, -Nat.reducePow, cC, pv, binv, sFlSt1, undef, g6]
    refine hK _ _ ?_
    clear hK K
    refine cv_ret ⟨_, (by simp -implicitDefEqProofs (disch := first | omega | decide) only [seval, -Int.reducePow, -Nat.reducePow, cC, pv, binv, sFlSt1, undef, g6]; rfl), fun w hw => ?_⟩
    exact ⟨by unfold stE; rw [if_neg q1, if_pos q2], hw.below⟩
  have q2 := of_decide_eq_false ‹_›
  refine cv_seq_k fun K hK => ?_
  refine cv_cut (fun _ _ => True) (fun F' L' => F' 2 = G6 2 ∧ F' 4 = G6 4 ∧ F' 7 = G6 7 ∧ F' 55 = .bool (decide (i.op = 21 ∧ gs.length ≤ i.arg)) ∧ L' = [iBox b7 i, gBox b2 ⟨xp, xr, xl, some ⟨b0, off, none⟩, xn, xc, code⟩, mBox b1 ⟨TA, tn, tc, ts, FA, fn, fc, gs⟩]) ?_ ?_
  · refine cv_region_then rfl ?_
    simp -implicitDefEqProofs (disch := first | omega | decide) only [seval, -Int.reducePow, -Nat.reducePow, cC, pv, binv, sFlSt1, undef, g6]
    repeat' ((first | refine vcg_cases (fun hg => ?_) (fun hg => ?_) | refine vdg_cases (fun hg => ?_) (fun hg => ?_)) <;> ((try simp only [Bool.not_eq_true', Bool.not_eq_false', decide_eq_true_eq, decide_eq_false_iff_not] at hg); (try simp -implicitDefEqProofs (disch := first | omega | decide) only [seval, -Int.reducePow, -Nat.reducePow, cC, pv, binv, sFlSt1, undef, hg, wrap_in, wrapu, g6])))
    all_goals (repeat' refine And.intro ?_ ?_)
    all_goals (first | with_reducible rfl | (refine congrArg Value.bool ?_; rw [Bool.eq_iff_iff]; (try simp only [decide_eq_true_eq, eq_self, true_and, and_true, false_and, and_false, true_or, or_true, false_or, or_false, not_true_eq_false, not_false_eq_true, true_iff, iff_true, false_iff, iff_false, Bool.false_eq_true, Bool.not_eq_true', Bool.not_eq_true, decide_eq_false_iff_not, Bool.and_eq_true, Bool.or_eq_true]) <;> omega) | (refine congrArg (Value.int _) ?_; omega) | omega)
  intro G7 L' _ hF
  obtain ⟨q2, q4, q7, q55, rfl⟩ := hF
  have g7_2 := q2.trans g6_2
  have g7_4 := q4.trans g6_4
  have g7_7 := q7.trans g6_7
  have g7_55 := q55
  clear q2 q4 q7 q55
  have g7 := And.intro g7_2 (And.intro g7_4 (And.intro g7_7 g7_55))
  refine hK _ _ ?_
  clear hK K
  refine cv_cond ?_
  simp -implicitDefEqProofs (disch := first | omega | decide) only [seval, -Int.reducePow, -Nat.reducePow, cC, pv, binv, sFlSt1, undef, g7]
  refine ⟨fun hc => ?_, fun hc => ?_⟩
  · have q3 := of_decide_eq_true ‹_›
    refine cv_seq_k fun K hK => ?_
    refine cv_region_then rfl ?_
    simp -implicitDefEqProofs (disch := first | omega | decide) only [seval, -Int.reducePow, -Nat.reducePow, cC, pv, binv, sFlSt1, undef, g7]
    refine hK _ _ ?_
    clear hK K
    refine cv_ret ⟨_, (by simp -implicitDefEqProofs (disch := first | omega | decide) only [seval, -Int.reducePow, -Nat.reducePow, cC, pv, binv, sFlSt1, undef, g7]; rfl), fun w hw => ?_⟩
    exact ⟨by unfold stE; rw [if_neg q1, if_neg q2, if_pos q3], hw.below⟩
  have q3 := of_decide_eq_false ‹_›
  refine cv_seq_k fun K hK => ?_
  refine cv_cut (fun _ _ => True) (fun F' L' => F' 2 = G7 2 ∧ F' 4 = G7 4 ∧ F' 7 = G7 7 ∧ F' 68 = .bool (decide (i.op = 23 ∧ ¬ hostP i.arg)) ∧ L' = [iBox b7 i, gBox b2 ⟨xp, xr, xl, some ⟨b0, off, none⟩, xn, xc, code⟩, mBox b1 ⟨TA, tn, tc, ts, FA, fn, fc, gs⟩]) ?_ ?_
  · by_cases ha : i.op = 23
    · have ha' : decide (i.op = 23) = true := decide_eq_true ha
      refine cv_region_then rfl ?_
      simp -implicitDefEqProofs (disch := first | omega | decide) only [seval, -Int.reducePow, -Nat.reducePow, cC, pv, binv, sFlSt1, undef, ha', g7]
      refine callV_ret (fun w hw => isHost_any i.arg w) ?_
      try simp -implicitDefEqProofs (disch := first | omega | decide) only [seval, -Int.reducePow, -Nat.reducePow, cC, pv, binv, sFlSt1, undef, ha', g7]
      all_goals (repeat' refine And.intro ?_ ?_)
      all_goals (first | with_reducible rfl | (refine congrArg Value.bool ?_; rw [Bool.eq_iff_iff]; (try simp only [ha, hostP, decide_eq_true_eq, eq_self, true_and, and_true, false_and, and_false, true_or, or_true, false_or, or_false, not_true_eq_false, not_false_eq_true, true_iff, iff_true, false_iff, iff_false, Bool.false_eq_true, Bool.not_eq_true', Bool.not_eq_true, decide_eq_false_iff_not, Bool.and_eq_true, Bool.or_eq_true]) <;> omega) | (refine congrArg (Value.int _) ?_; omega) | omega)
    · have ha' : decide (i.op = 23) = false := decide_eq_false ha
      refine cv_region_then rfl ?_
      simp -implicitDefEqProofs (disch := first | omega | decide) only [seval, -Int.reducePow, -Nat.reducePow, cC, pv, binv, sFlSt1, undef, ha', g7]
      all_goals (repeat' refine And.intro ?_ ?_)
      all_goals (first | with_reducible rfl | (refine congrArg Value.bool ?_; rw [Bool.eq_iff_iff]; (try simp only [ha, decide_eq_true_eq, eq_self, true_and, and_true, false_and, and_false, true_or, or_true, false_or, or_false, not_true_eq_false, not_false_eq_true, true_iff, iff_true, false_iff, iff_false, Bool.false_eq_true, Bool.not_eq_true', Bool.not_eq_true, decide_eq_false_iff_not, Bool.and_eq_true, Bool.or_eq_true]) <;> omega) | (refine congrArg (Value.int _) ?_; omega) | omega)
  intro G8 L' _ hF
  obtain ⟨q2, q4, q7, q68, rfl⟩ := hF
  have g8_2 := q2.trans g7_2
  have g8_4 := q4.trans g7_4
  have g8_7 := q7.trans g7_7
  have g8_68 := q68
  clear q2 q4 q7 q68
  have g8 := And.intro g8_2 (And.intro g8_4 (And.intro g8_7 g8_68))
  refine hK _ _ ?_
  clear hK K
  refine cv_cond ?_
  simp -implicitDefEqProofs (disch := first | omega | decide) only [seval, -Int.reducePow, -Nat.reducePow, cC, pv, binv, sFlSt1, undef, g8]
  refine ⟨fun hc => ?_, fun hc => ?_⟩
  · have q4 := of_decide_eq_true ‹_›
    refine cv_seq_k fun K hK => ?_
    refine cv_region_then rfl ?_
    simp -implicitDefEqProofs (disch := first | omega | decide) only [seval, -Int.reducePow, -Nat.reducePow, cC, pv, binv, sFlSt1, undef, g8]
    refine hK _ _ ?_
    clear hK K
    refine cv_ret ⟨_, (by simp -implicitDefEqProofs (disch := first | omega | decide) only [seval, -Int.reducePow, -Nat.reducePow, cC, pv, binv, sFlSt1, undef, g8]; rfl), fun w hw => ?_⟩
    exact ⟨by unfold stE; rw [if_neg q1, if_neg q2, if_neg q3, if_pos q4], hw.below⟩
  have q4 := of_decide_eq_false ‹_›
  refine cv_seq_k fun K hK => ?_
  refine cv_cut (fun _ _ => True) (fun F' L' => F' 78 = .bool (decide (k + 1 = code.length ∧ ¬ endsP i.op)) ∧ L' = [iBox b7 i, gBox b2 ⟨xp, xr, xl, some ⟨b0, off, none⟩, xn, xc, code⟩, mBox b1 ⟨TA, tn, tc, ts, FA, fn, fc, gs⟩]) ?_ ?_
  · by_cases ha : (k : Int) = (xn : Int) - 1
    · have ha' : decide ((k : Int) = (xn : Int) - 1) = true := decide_eq_true ha
      refine cv_region_then rfl ?_
      simp -implicitDefEqProofs (disch := first | omega | decide) only [seval, -Int.reducePow, -Nat.reducePow, cC, pv, binv, sFlSt1, undef, ha', wrap_in, g8]
      refine callV_ret (fun w hw => i_ends_any i.op w) ?_
      try simp -implicitDefEqProofs (disch := first | omega | decide) only [seval, -Int.reducePow, -Nat.reducePow, cC, pv, binv, sFlSt1, undef, ha', g8]
      all_goals (repeat' refine And.intro ?_ ?_)
      all_goals (first | with_reducible rfl | (refine congrArg Value.bool ?_; rw [Bool.eq_iff_iff]; (try simp only [endsP, decide_eq_true_eq, eq_self, true_and, and_true, false_and, and_false, true_or, or_true, false_or, or_false, not_true_eq_false, not_false_eq_true, true_iff, iff_true, false_iff, iff_false, Bool.false_eq_true, Bool.not_eq_true', Bool.not_eq_true, decide_eq_false_iff_not, Bool.and_eq_true, Bool.or_eq_true]) <;> omega) | (refine congrArg (Value.int _) ?_; omega) | omega)
    · have ha' : decide ((k : Int) = (xn : Int) - 1) = false := decide_eq_false ha
      refine cv_region_then rfl ?_
      simp -implicitDefEqProofs (disch := first | omega | decide) only [seval, -Int.reducePow, -Nat.reducePow, cC, pv, binv, sFlSt1, undef, ha', wrap_in, g8]
      all_goals (repeat' refine And.intro ?_ ?_)
      all_goals (first | with_reducible rfl | (refine congrArg Value.bool ?_; rw [Bool.eq_iff_iff]; (try simp only [decide_eq_true_eq, eq_self, true_and, and_true, false_and, and_false, true_or, or_true, false_or, or_false, not_true_eq_false, not_false_eq_true, true_iff, iff_true, false_iff, iff_false, Bool.false_eq_true, Bool.not_eq_true', Bool.not_eq_true, decide_eq_false_iff_not, Bool.and_eq_true, Bool.or_eq_true]) <;> omega) | (refine congrArg (Value.int _) ?_; omega) | omega)
  intro G9 L' _ hF
  obtain ⟨q78, rfl⟩ := hF
  have g9_78 := q78
  clear q78
  have g9 := g9_78
  refine hK _ _ ?_
  clear hK K
  refine cv_cond ?_
  simp -implicitDefEqProofs (disch := first | omega | decide) only [seval, -Int.reducePow, -Nat.reducePow, cC, pv, binv, sFlSt1, undef, g9]
  refine ⟨fun hc => ?_, fun hc => ?_⟩
  · have q5 := of_decide_eq_true ‹_›
    refine cv_seq_k fun K hK => ?_
    refine cv_region_then rfl ?_
    simp -implicitDefEqProofs (disch := first | omega | decide) only [seval, -Int.reducePow, -Nat.reducePow, cC, pv, binv, sFlSt1, undef, g9]
    refine hK _ _ ?_
    clear hK K
    refine cv_ret ⟨_, (by simp -implicitDefEqProofs (disch := first | omega | decide) only [seval, -Int.reducePow, -Nat.reducePow, cC, pv, binv, sFlSt1, undef, g9]; rfl), fun w hw => ?_⟩
    exact ⟨by unfold stE; rw [if_neg q1, if_neg q2, if_neg q3, if_neg q4, if_pos q5], hw.below⟩
  have q5 := of_decide_eq_false ‹_›
  refine cv_skip ?_
  try simp only [blockQ, thenQ]
  refine hK _ _ ?_
  clear hK K
  refine cv_seq_k fun K hK => ?_
  refine cv_region_then rfl ?_
  simp -implicitDefEqProofs (disch := first | omega | decide) only [seval, -Int.reducePow, -Nat.reducePow, cC, pv, binv, sFlSt1, undef, g9]
  refine hK _ _ ?_
  clear hK K
  refine cv_ret ⟨_, (by simp -implicitDefEqProofs (disch := first | omega | decide) only [seval, -Int.reducePow, -Nat.reducePow, cC, pv, binv, sFlSt1, undef, g9]; rfl), fun w hw => ?_⟩
  exact ⟨by unfold stE; rw [if_neg q1, if_neg q2, if_neg q3, if_neg q4, if_neg q5], hw.below⟩
set_option maxHeartbeats 1000000 in
theorem find_any (m : ModR) (f : Int) (W : World) (hM : Mod W W.heap.size m) : Calls Tryz.prog 60 #[modV m, .int .i64 f] W fun e w' =>
    (∃ x : FnR, e = .returned (.tuple #[fnV x, fltV (if (chkM m).1 = 0 then (if (fnAt m f).isSome then fineF else (26, -1, -1)) else chkM m)]) ∧ ((chkM m).1 = 0 → ∀ y, fnAt m f = some y → x = y)) ∧ Below W.heap.size W w' := by
  have hlg := hM.glen
  have hG := hM.gs
  have hMat := fun {L : List Res} {w : World} (hw : St [] W L w) => hM.at hw
  obtain ⟨q, hq⟩ : ∃ q, chkM m = q := ⟨_, rfl⟩
  obtain ⟨TA, tn, tc, ts, FA, fn, fc, gs⟩ := m
  rw [hq]
  dsimp only at *
  refine calls_cv2 (M := []) (n := 31) [.cell 4 42, .cell 5 45] rfl Tryz.func60 rfl rfl (Nat.le_of_ble_eq_true rfl) (St.nil _ _) ?_
  refine cv_seq_k fun K hK => ?_
  refine cv_region_then rfl ?_
  simp -implicitDefEqProofs (disch := first | omega | decide) only [seval, -Int.reducePow, -Nat.reducePow, cC, pv, binv, sFlSt1, undef]
  intro b1 hb1 b4 hb4 h4 b5 hb5 h5
  refine hK _ _ ?_
  clear hK K
  refine cv_seq_k fun K hK => ?_
  refine cv_seq_k fun K hK => ?_
  refine cv_region_then rfl ?_
  simp -implicitDefEqProofs (disch := first | omega | decide) only [seval, -Int.reducePow, -Nat.reducePow, cC, pv, binv, sFlSt1, undef]
  refine callV_ret (fun w hw => mcheck_any ⟨TA, tn, tc, ts, FA, fn, fc, gs⟩ w (hMat hw)) ?_
  try simp -implicitDefEqProofs (disch := first | omega | decide) only [seval, -Int.reducePow, -Nat.reducePow, cC, pv, binv, sFlSt1, undef, hq]
  intro b6 hb6 h6
  refine hK _ _ ?_
  clear hK K
  refine cv_gen fun G10 hG => ?_
  have g10_1 := congrFun hG 1
  have g10_2 := congrFun hG 2
  have g10_4 := congrFun hG 4
  have g10_5 := congrFun hG 5
  have g10_6 := congrFun hG 6
  clear hG
  try simp -implicitDefEqProofs (disch := first | omega | decide) only [seval, -Int.reducePow, -Nat.reducePow, cC, pv, binv, sFlSt1, undef] at g10_1 g10_2 g10_4 g10_5 g10_6
  have g10 := And.intro g10_1 (And.intro g10_2 (And.intro g10_4 (And.intro g10_5 g10_6)))
  refine cv_seq_k fun K hK => ?_
  refine cv_region_then rfl ?_
  simp -implicitDefEqProofs (disch := first | omega | decide) only [seval, -Int.reducePow, -Nat.reducePow, cC, pv, binv, sFlSt1, undef, g10]
  refine hK _ _ ?_
  clear hK K
  refine cv_cond ?_
  simp -implicitDefEqProofs (disch := first | omega | decide) only [seval, -Int.reducePow, -Nat.reducePow, cC, pv, binv, sFlSt1, undef, g10]
  refine ⟨fun hc => ?_, fun hc => ?_⟩
  · have hz : ¬ q.1 = 0 := nd_true ‹(!decide (q.1 = 0)) = true›
    refine cv_seq_k fun K hK => ?_
    refine cv_draw [(true, 0), (true, 1), (false, 2), (false, 3)] [3] mixA rfl (by kernel_rfl) (by kernel_rfl) rfl rfl ?_
    simp -implicitDefEqProofs (disch := first | omega | decide) only [seval, -Int.reducePow, -Nat.reducePow, cC, pv, binv, sFlSt1, undef, g10]
    refine hK _ _ ?_
    clear hK K
    refine cv_ret ?_
    simp -implicitDefEqProofs (disch := first | omega | decide) only [seval, -Int.reducePow, -Nat.reducePow, cC, pv, binv, sFlSt1, undef, retQ2, ressV, packV, g10]
    intro w hw
    exact ⟨⟨⟨0, 0, 0, none, 0, 0, []⟩, by rw [if_neg hz] <;> rfl, fun h => absurd h hz⟩, hw.below⟩
  have hz : q.1 = 0 := Decidable.not_not.1 (nd_false ‹(!decide (q.1 = 0)) = false›)
  refine cv_skip ?_
  try simp only [blockQ, thenQ]
  refine hK _ _ ?_
  clear hK K
  refine cv_seq_k fun K hK => ?_
  refine cv_seq_k fun K hK => ?_
  refine cv_cut (fun _ _ => True) (fun F' L' => F' 1 = G10 1 ∧ F' 2 = G10 2 ∧ F' 4 = G10 4 ∧ F' 5 = G10 5 ∧ F' 22 = .bool (decide (f < 0 ∨ (fn : Int) ≤ f)) ∧ L' = [flBox b6 q.1 q.2.1 q.2.2, flBox b5 0 0 0, gBox b4 ⟨0, 0, 0, none, 0, 0, []⟩, mBox b1 ⟨TA, tn, tc, ts, FA, fn, fc, gs⟩]) ?_ ?_
  · refine cv_region_then rfl ?_
    simp -implicitDefEqProofs (disch := first | omega | decide) only [seval, -Int.reducePow, -Nat.reducePow, cC, pv, binv, sFlSt1, undef, g10]
    repeat' ((first | refine vcg_cases (fun hg => ?_) (fun hg => ?_) | refine vdg_cases (fun hg => ?_) (fun hg => ?_)) <;> ((try simp only [Bool.not_eq_true', Bool.not_eq_false', decide_eq_true_eq, decide_eq_false_iff_not] at hg); (try simp -implicitDefEqProofs (disch := first | omega | decide) only [seval, -Int.reducePow, -Nat.reducePow, cC, pv, binv, sFlSt1, undef, hg, g10])))
    all_goals (repeat' refine And.intro ?_ ?_)
    all_goals (first | with_reducible rfl | (refine congrArg Value.bool ?_; rw [Bool.eq_iff_iff]; (try simp only [decide_eq_true_eq, eq_self, true_and, and_true, false_and, and_false, true_or, or_true, false_or, or_false, not_true_eq_false, not_false_eq_true, true_iff, iff_true, false_iff, iff_false, Bool.false_eq_true, Bool.not_eq_true', Bool.not_eq_true, decide_eq_false_iff_not, Bool.and_eq_true, Bool.or_eq_true]) <;> omega) | (refine congrArg (Value.int _) ?_; omega) | omega)
  intro G11 L' _ hF
  obtain ⟨q1, q2, q4, q5, q22, rfl⟩ := hF
  have g11_1 := q1.trans g10_1
  have g11_2 := q2.trans g10_2
  have g11_4 := q4.trans g10_4
  have g11_5 := q5.trans g10_5
  have g11_22 := q22
  clear q1 q2 q4 q5 q22
  have g11 := And.intro g11_1 (And.intro g11_2 (And.intro g11_4 (And.intro g11_5 g11_22)))
  refine hK _ _ ?_
  clear hK K
  refine cv_cond ?_
  simp -implicitDefEqProofs (disch := first | omega | decide) only [seval, -Int.reducePow, -Nat.reducePow, cC, pv, binv, sFlSt1, undef, g11]
  refine ⟨fun hc => ?_, fun hc => ?_⟩
  · have h1 := of_decide_eq_true hc
    have hno : fnAt ⟨TA, tn, tc, ts, FA, fn, fc, gs⟩ f = none := by
      unfold fnAt
      split
      · rfl
      · exact List.getElem?_eq_none (by dsimp only; omega)
    refine cv_seq_k fun K hK => ?_
    refine cv_region_then rfl ?_
    simp -implicitDefEqProofs (disch := first | omega | decide) only [seval, -Int.reducePow, -Nat.reducePow, cC, pv, binv, sFlSt1, undef, g11]
    refine hK _ _ ?_
    clear hK K
    refine cv_ret ?_
    simp -implicitDefEqProofs (disch := first | omega | decide) only [seval, -Int.reducePow, -Nat.reducePow, cC, pv, binv, sFlSt1, undef, retQ2, ressV, packV, g11]
    intro w hw
    exact ⟨⟨⟨0, 0, 0, none, 0, 0, []⟩, by rw [hno, if_pos hz] <;> rfl, fun _ y hy => by rw [hno] at hy; cases hy⟩, hw.below⟩
  have h1 := of_decide_eq_false hc
  obtain ⟨k, rfl⟩ : ∃ k : Nat, f = (k : Int) := ⟨f.toNat, by omega⟩
  have hk : k < fn := by omega
  obtain ⟨x, hx⟩ := some_of (l := gs) (i := k) (by omega)
  obtain ⟨b0, off, rfl, hb0, -⟩ := hG.cells (by omega)
  have hyes : fnAt ⟨TA, tn, tc, ts, some ⟨b0, off, none⟩, fn, fc, gs⟩ (k : Int) = some x := by rw [fnAt_nat]; exact hx
  refine cv_skip ?_
  try simp only [blockQ, thenQ]
  refine hK _ _ ?_
  clear hK K
  refine cv_seq_k fun K hK => ?_
  refine cv_draw [(true, 0), (true, 1), (true, 2), (true, 3), (true, 4), (false, 5), (false, 6), (false, 7)] [6, 7] mixA rfl (by kernel_rfl) (by kernel_rfl) rfl rfl ?_
  simp -implicitDefEqProofs (disch := first | omega | decide) only [seval, -Int.reducePow, -Nat.reducePow, cC, pv, binv, sFlSt1, undef, g11]
  refine ⟨_, hG.fnl hx, fun tok htok => ?_⟩
  subst htok
  simp -implicitDefEqProofs (disch := first | omega | decide) only [seval, -Int.reducePow, -Nat.reducePow, cC, pv, binv, sFlSt1, undef, g11]
  refine callV_ret (fun w hw => f_fine_any w) ?_
  try simp -implicitDefEqProofs (disch := first | omega | decide) only [seval, -Int.reducePow, -Nat.reducePow, cC, pv, binv, sFlSt1, undef, g11]
  refine hK _ _ ?_
  clear hK K
  refine cv_ret ?_
  simp -implicitDefEqProofs (disch := first | omega | decide) only [seval, -Int.reducePow, -Nat.reducePow, cC, pv, binv, sFlSt1, undef, retQ2, ressV, packV, g11]
  intro w hw
  exact ⟨⟨x, by rw [hyes, if_pos hz] <;> rfl, fun _ y hy => by rw [hyes] at hy; exact Option.some.inj hy⟩, hw.below⟩
set_option maxHeartbeats 2000000 in
theorem Static_any (m : ModR) (f : Int) (W : World) (hM : Mod W W.heap.size m) : Calls Tryz.prog 39 #[modV m, .int .i64 f] W fun e w' => e = .returned (fltV (stF m f)) ∧ Below W.heap.size W w' := by
  have hMat := fun {L : List Res} {w : World} (hw : St [] W L w) => hM.at hw
  have hfn := hM.fn
  obtain ⟨q, hq⟩ : ∃ q, (if (chkM m).1 = 0 then (if (fnAt m f).isSome then fineF else (26, -1, -1)) else chkM m) = q := ⟨_, rfl⟩
  obtain ⟨TA, tn, tc, ts, FA, fn, fc, gs⟩ := m
  dsimp only at *
  refine calls_cv2 (M := []) (n := 37) [.cell 4 45] rfl Tryz.func39 rfl rfl (Nat.le_of_ble_eq_true rfl) (St.nil _ _) ?_
  refine cv_seq_k fun K hK => ?_
  refine cv_region_then rfl ?_
  simp -implicitDefEqProofs (disch := first | omega | decide) only [seval, -Int.reducePow, -Nat.reducePow, cC, pv, binv, sFlSt1, undef]
  intro b1 hb1 b4 hb4 h4
  refine hK _ _ ?_
  clear hK K
  refine cv_seq_k fun K hK => ?_
  refine cv_region_then rfl ?_
  simp -implicitDefEqProofs (disch := first | omega | decide) only [seval, -Int.reducePow, -Nat.reducePow, cC, pv, binv, sFlSt1, undef]
  refine callV_ex (fun x : FnR => .tuple #[fnV x, fltV q]) (fun x => (chkM ⟨TA, tn, tc, ts, FA, fn, fc, gs⟩).1 = 0 → ∀ y, fnAt ⟨TA, tn, tc, ts, FA, fn, fc, gs⟩ f = some y → x = y) (fun w hw => (by have := find_any ⟨TA, tn, tc, ts, FA, fn, fc, gs⟩ f w (hMat hw); rwa [hq] at this)) ?_
  intro x hx
  simp -implicitDefEqProofs (disch := first | omega | decide) only [seval, -Int.reducePow, -Nat.reducePow, cC, pv, binv, sFlSt1, undef]
  intro b5 hb5 h5 b6 hb6 h6
  simp -implicitDefEqProofs (disch := first | omega | decide) only [seval, -Int.reducePow, -Nat.reducePow, cC, pv, binv, sFlSt1, undef]
  refine hK _ _ ?_
  clear hK K
  refine cv_gen fun G12 hG => ?_
  have g12_1 := congrFun hG 1
  have g12_2 := congrFun hG 2
  have g12_4 := congrFun hG 4
  have g12_5 := congrFun hG 5
  have g12_6 := congrFun hG 6
  clear hG
  try simp -implicitDefEqProofs (disch := first | omega | decide) only [seval, -Int.reducePow, -Nat.reducePow, cC, pv, binv, sFlSt1, undef] at g12_1 g12_2 g12_4 g12_5 g12_6
  have g12 := And.intro g12_1 (And.intro g12_2 (And.intro g12_4 (And.intro g12_5 g12_6)))
  refine cv_seq_k fun K hK => ?_
  refine cv_seq_k fun K hK => ?_
  refine cv_region_then rfl ?_
  simp -implicitDefEqProofs (disch := first | omega | decide) only [seval, -Int.reducePow, -Nat.reducePow, cC, pv, binv, sFlSt1, undef, g12]
  refine hK _ _ ?_
  clear hK K
  refine cv_cond ?_
  simp -implicitDefEqProofs (disch := first | omega | decide) only [seval, -Int.reducePow, -Nat.reducePow, cC, pv, binv, sFlSt1, undef, g12]
  refine ⟨fun hc => ?_, fun hc => ?_⟩
  · have hz : ¬ q.1 = 0 := nd_true ‹(!decide (q.1 = 0)) = true›
    have hS : stF ⟨TA, tn, tc, ts, FA, fn, fc, gs⟩ f = q := by
      unfold stF
      rw [← hq] at hz ⊢
      split
      · rename_i h0
        rw [if_pos h0] at hz
        cases hf : fnAt ⟨TA, tn, tc, ts, FA, fn, fc, gs⟩ f with
        | none => rfl
        | some y => rw [hf] at hz; exact absurd rfl hz
      · rfl
    refine cv_seq_k fun K hK => ?_
    refine cv_region_then rfl ?_
    simp -implicitDefEqProofs (disch := first | omega | decide) only [seval, -Int.reducePow, -Nat.reducePow, cC, pv, binv, sFlSt1, undef, g12]
    refine hK _ _ ?_
    clear hK K
    refine cv_ret ?_
    simp -implicitDefEqProofs (disch := first | omega | decide) only [seval, -Int.reducePow, -Nat.reducePow, cC, pv, binv, sFlSt1, undef, retQ2, ressV, packV, g12]
    intro w hw
    exact ⟨by rw [hS] <;> rfl, hw.below⟩
  have hz : q.1 = 0 := Decidable.not_not.1 (nd_false ‹(!decide (q.1 = 0)) = false›)
  have h0 : (chkM ⟨TA, tn, tc, ts, FA, fn, fc, gs⟩).1 = 0 := by
    refine Decidable.byContradiction fun h0 => ?_
    rw [← hq, if_neg h0] at hz
    exact h0 hz
  obtain ⟨y, hy⟩ : ∃ y, fnAt ⟨TA, tn, tc, ts, FA, fn, fc, gs⟩ f = some y := by
    cases hf : fnAt ⟨TA, tn, tc, ts, FA, fn, fc, gs⟩ f with
    | none => rw [← hq, if_pos h0, hf] at hz; exact absurd (show (26 : Int) = 0 from hz) (by decide)
    | some y => exact ⟨y, rfl⟩
  obtain rfl : x = y := hx h0 y hy
  obtain ⟨k, rfl, hk⟩ := fnAt_some hy
  dsimp only at hk
  obtain ⟨-, -, -, hg32, hck⟩ := chkM_ok h0
  obtain ⟨hfe, hce⟩ := hck k x hk
  obtain ⟨hp0, -, hl0, -, hpl, -, -, h1024, -⟩ := fnErr_ok hfe
  have hX := hfn x (List.mem_of_getElem? hk)
  have hxl : x.code.length = x.n := cl_row insc_len (by omega) hX.len
  have hS : stF ⟨TA, tn, tc, ts, FA, fn, fc, gs⟩ (k : Int) = stX gs.length (k : Int) x := by
    unfold stF
    rw [if_pos h0, hy]
  have hXat := fun {L : List Res} {w : World} (hw : St [] W L w) => hX.at hw
  dsimp only at hg32
  refine cv_skip ?_
  try simp only [blockQ, thenQ]
  refine hK _ _ ?_
  clear hK K
  refine cv_seq_k fun K hK => ?_
  refine cv_seq_k fun K hK => ?_
  refine cv_region_then rfl ?_
  simp -implicitDefEqProofs (disch := first | omega | decide) only [seval, -Int.reducePow, -Nat.reducePow, cC, pv, binv, sFlSt1, undef, g12]
  refine hK _ _ ?_
  clear hK K
  refine cv_gen fun G13 hG => ?_
  have g13_1 := congrFun hG 1
  have g13_2 := congrFun hG 2
  have g13_4 := congrFun hG 4
  have g13_5 := congrFun hG 5
  have g13_21 := congrFun hG 21
  have g13_22 := congrFun hG 22
  clear hG
  try simp -implicitDefEqProofs (disch := first | omega | decide) only [seval, -Int.reducePow, -Nat.reducePow, cC, pv, binv, sFlSt1, undef, g12] at g13_1 g13_2 g13_4 g13_5 g13_21 g13_22
  have g13 := And.intro g13_1 (And.intro g13_2 (And.intro g13_4 (And.intro g13_5 (And.intro g13_21 g13_22))))
  refine cv_block ?_
  refine cv_loop (fun F' L' => ∃ (j : Nat), F' 1 = G13 1 ∧ F' 2 = G13 2 ∧ F' 4 = G13 4 ∧ F' 5 = G13 5 ∧ F' 21 = G13 21 ∧ F' 22 = .int .i64 (j : Int) ∧ L' = [flBox b6 q.1 q.2.1 q.2.2, gBox b5 x, flBox b4 0 0 0, mBox b1 ⟨TA, tn, tc, ts, FA, fn, fc, gs⟩] ∧ j ≤ x.n ∧ firstS gs.length x 0 x.code = firstS gs.length x j (x.code.drop j)) (fun F' L' => 1100 - (intOf (F' 22)).toNat) ?_ ?_
  · refine ⟨0, ?_⟩
    simp -implicitDefEqProofs (disch := first | omega | decide) only [seval, -Int.reducePow, -Nat.reducePow, cC, pv, binv, sFlSt1, undef, g13]
    omega
  intro G14 L' hI
  obtain ⟨j, q1, q2, q4, q5, q21, q22, rfl, ⟨hj, hi⟩⟩ := hI
  have g14_1 := q1.trans g13_1
  have g14_2 := q2.trans g13_2
  have g14_4 := q4.trans g13_4
  have g14_5 := q5.trans g13_5
  have g14_21 := q21.trans g13_21
  have g14_22 := q22
  clear q1 q2 q4 q5 q21 q22
  have g14 := And.intro g14_1 (And.intro g14_2 (And.intro g14_4 (And.intro g14_5 (And.intro g14_21 g14_22))))
  refine cv_seq_k fun K hK => ?_
  refine cv_region_then rfl ?_
  simp -implicitDefEqProofs (disch := first | omega | decide) only [seval, -Int.reducePow, -Nat.reducePow, cC, pv, binv, sFlSt1, undef, g13, g14]
  refine hK _ _ ?_
  clear hK K
  refine cv_seq_k fun K hK => ?_
  refine cv_cond ?_
  simp -implicitDefEqProofs (disch := first | omega | decide) only [seval, -Int.reducePow, -Nat.reducePow, cC, pv, binv, sFlSt1, undef, g13, g14]
  refine ⟨fun hc => ?_, fun hc => ?_⟩
  · refine cv_skip ?_
    try simp only [blockQ, thenQ]
    have hjt : j < x.n := by have := of_decide_eq_true ‹decide ((j : Int) < (x.n : Int)) = true›; omega
    obtain ⟨y, hy⟩ := some_of (l := x.code) (i := j) (by omega)
    rw [drop_at' hy] at hi
    obtain ⟨s, hs⟩ : ∃ s, stE gs.length x j y = s := ⟨_, rfl⟩
    refine hK _ _ ?_
    clear hK K
    refine cv_seq_k fun K hK => ?_
    refine cv_block ?_
    refine cv_seq_k fun K hK => ?_
    refine cv_region_then rfl ?_
    simp -implicitDefEqProofs (disch := first | omega | decide) only [seval, -Int.reducePow, -Nat.reducePow, cC, pv, binv, sFlSt1, undef, g13, g14]
    refine hK _ _ ?_
    clear hK K
    refine cv_seq_k fun K hK => ?_
    refine cv_region_then rfl ?_
    simp -implicitDefEqProofs (disch := first | omega | decide) only [seval, -Int.reducePow, -Nat.reducePow, cC, pv, binv, sFlSt1, undef, g13, g14]
    refine callV_ret (fun w hw => static_any ⟨TA, tn, tc, ts, FA, fn, fc, gs⟩ x j y w (hMat hw) (hXat hw) hy hp0 hl0 hpl hg32 h1024) ?_
    try simp -implicitDefEqProofs (disch := first | omega | decide) only [seval, -Int.reducePow, -Nat.reducePow, cC, pv, binv, sFlSt1, undef, hs, g13, g14]
    refine hK _ _ ?_
    clear hK K
    refine cv_seq_k fun K hK => ?_
    refine cv_region_then rfl ?_
    simp -implicitDefEqProofs (disch := first | omega | decide) only [seval, -Int.reducePow, -Nat.reducePow, cC, pv, binv, sFlSt1, undef, g13, g14]
    refine hK _ _ ?_
    clear hK K
    refine cv_cond ?_
    simp -implicitDefEqProofs (disch := first | omega | decide) only [seval, -Int.reducePow, -Nat.reducePow, cC, pv, binv, sFlSt1, undef, g13, g14]
    refine ⟨fun hc => ?_, fun hc => ?_⟩
    · have hz3 : ¬ s = 0 := nd_true ‹(!decide (s = 0)) = true›
      rw [firstS_no _ (by rw [hs]; exact hz3), hs] at hi
      refine cv_seq_k fun K hK => ?_
      refine cv_region_then rfl ?_
      simp -implicitDefEqProofs (disch := first | omega | decide) only [seval, -Int.reducePow, -Nat.reducePow, cC, pv, binv, sFlSt1, undef, g13, g14]
      refine hK _ _ ?_
      clear hK K
      refine cv_ret ?_
      simp -implicitDefEqProofs (disch := first | omega | decide) only [seval, -Int.reducePow, -Nat.reducePow, cC, pv, binv, sFlSt1, undef, retQ2, ressV, packV, g13, g14]
      intro w hw
      exact ⟨by rw [hS]; unfold stX; rw [hi, if_neg hz3] <;> rfl, hw.below⟩
    have hz3 : s = 0 := Decidable.not_not.1 (nd_false ‹(!decide (s = 0)) = false›)
    rw [firstS_yes _ (by rw [hs]; exact hz3)] at hi
    refine cv_skip ?_
    try simp only [blockQ, thenQ]
    refine hK _ _ ?_
    clear hK K
    refine cv_region_then rfl ?_
    simp -implicitDefEqProofs (disch := first | omega | decide) only [seval, -Int.reducePow, -Nat.reducePow, cC, pv, binv, sFlSt1, undef, wrap_in, g13, g14]
    refine ⟨⟨j + 1, ?_⟩, ?_⟩
    · simp -implicitDefEqProofs (disch := first | omega | decide) only [seval, -Int.reducePow, -Nat.reducePow, cC, pv, binv, sFlSt1, undef, Int.natCast_add, g13, g14]
      exact ⟨by omega, hi⟩
    · simp only [intOf]; omega
  refine cv_exit ?_
  simp only [blockQ, thenQ, if_true, ite_true]
  clear hK K
  refine hK _ _ ?_
  clear hK K
  have hje : j = x.n := by have := of_decide_eq_false ‹decide ((j : Int) < (x.n : Int)) = false›; omega
  rw [List.drop_of_length_le (by omega)] at hi
  refine cv_seq_k fun K hK => ?_
  refine cv_region_then rfl ?_
  simp -implicitDefEqProofs (disch := first | omega | decide) only [seval, -Int.reducePow, -Nat.reducePow, cC, pv, binv, sFlSt1, undef, g13, g14]
  refine callV_ret (fun w hw => f_fine_any w) ?_
  try simp -implicitDefEqProofs (disch := first | omega | decide) only [seval, -Int.reducePow, -Nat.reducePow, cC, pv, binv, sFlSt1, undef, g13, g14]
  refine hK _ _ ?_
  clear hK K
  refine cv_ret ?_
  simp -implicitDefEqProofs (disch := first | omega | decide) only [seval, -Int.reducePow, -Nat.reducePow, cC, pv, binv, sFlSt1, undef, retQ2, ressV, packV, g13, g14]
  intro w hw
  exact ⟨by rw [hS]; unfold stX; rw [hi] <;> rfl, hw.below⟩
end Go.Proofs.YtlbmnioibiomfaaGreat
/- The reference's moves, static, about, Static. -/
namespace Go.Proofs.YtlbmnioibiomfaaGreat
open Go.RowKit Go.Shelf
set_option linter.unusedVariables false
set_option linter.unusedSimpArgs false
set_option maxRecDepth 100000
section
variable {W w : World} {L : List Res} {n c : Nat} {gs : List FnR}
theorem Sl.fnp {b off k : Nat} {x : FnR} (h : Sl W W.heap.size 4 (some ⟨b, off, none⟩) n c (cl fnc gs)) (hx : gs[k]? = some x) : LD Tryz.prog [] W L 3 ⟨b, off + k * 4, none⟩ (.int .i64 x.p) :=
  h.ld1 (m := 1) (i := k * 4) (by kernel_rfl) (cl_get (j := 0) fnc_len hx rfl)
theorem Sl.fnr {b off k : Nat} {x : FnR} (h : Sl W W.heap.size 4 (some ⟨b, off, none⟩) n c (cl fnc gs)) (hx : gs[k]? = some x) : LD Tryz.prog [] W L 3 ⟨b, off + k * 4 + 1, none⟩ (.int .i64 x.r) := by
  rw [Nat.add_assoc]
  exact h.ld1 (m := 1) (i := k * 4 + 1) (by kernel_rfl) (cl_get (j := 1) fnc_len hx rfl)
end
set_option maxRecDepth 100000 in
theorem sFlRSt1 : type_of% (And.intro (And.intro (And.intro @fBox.eq_1 (And.intro @tBox.eq_1 @iBox.eq_1)) (And.intro (And.intro @mBox.eq_1 @gBox.eq_1) (And.intro @flBox.eq_1 @fdV.eq_1))) (And.intro (And.intro @tyV.eq_1 (And.intro @insV.eq_1 @fnV.eq_1)) (And.intro (And.intro @modV.eq_1 @fltV.eq_1) (And.intro @fineF.eq_1 @Nat.mul_one)))) := (And.intro (And.intro (And.intro @fBox.eq_1 (And.intro @tBox.eq_1 @iBox.eq_1)) (And.intro (And.intro @mBox.eq_1 @gBox.eq_1) (And.intro @flBox.eq_1 @fdV.eq_1))) (And.intro (And.intro @tyV.eq_1 (And.intro @insV.eq_1 @fnV.eq_1)) (And.intro (And.intro @modV.eq_1 @fltV.eq_1) (And.intro @fineF.eq_1 @Nat.mul_one))))
set_option maxHeartbeats 1000000 in
theorem moves_any (m : ModR) (i : Ins) (W : World) (hM : Mod W W.heap.size m) (hi : i.op = 21 → i.arg < m.gs.length) (hh : i.op = 23 → i.arg ≤ 11) : Calls Tryz.prog 79 #[modV m, insV i] W fun e w' => e = .returned (.tuple #[.int .i64 (fxP m.gs i).1, .int .i64 (fxP m.gs i).2]) ∧ Below W.heap.size W w' := by
  have hlg := hM.glen
  have hG := hM.gs
  obtain ⟨TA, tn, tc, ts, FA, fn, fc, gs⟩ := m
  dsimp only at *
  refine calls_cv (M := []) (n := 48) [.tmp 4, .tmp 5] rfl Tryz.func79 rfl rfl (Nat.le_of_ble_eq_true rfl) (St.nil _ _) ?_
  refine cv_seq_k fun K hK => ?_
  refine cv_region_then rfl ?_
  simp -implicitDefEqProofs (disch := first | omega | decide) only [seval, -Int.reducePow, -Nat.reducePow, cC, pv, binv, sFlRSt1, undef]
  intro b1 hb1 b2 hb2 h2
  refine hK _ _ ?_
  clear hK K
  refine cv_seq_k fun K hK => ?_
  refine cv_seq_k fun K hK => ?_
  refine cv_region_then rfl ?_
  simp -implicitDefEqProofs (disch := first | omega | decide) only [seval, -Int.reducePow, -Nat.reducePow, cC, pv, binv, sFlRSt1, undef]
  refine hK _ _ ?_
  clear hK K
  refine cv_gen fun G1 hG => ?_
  have g1_2 := congrFun hG 2
  have g1_3 := congrFun hG 3
  have g1_12 := congrFun hG 12
  clear hG
  try simp -implicitDefEqProofs (disch := first | omega | decide) only [seval, -Int.reducePow, -Nat.reducePow, cC, pv, binv, sFlRSt1, undef] at g1_2 g1_3 g1_12
  have g1 := And.intro g1_2 (And.intro g1_3 g1_12)
  refine cv_block ?_
  refine cv_seq_k fun K hK => ?_
  refine cv_region_then rfl ?_
  simp -implicitDefEqProofs (disch := first | omega | decide) only [seval, -Int.reducePow, -Nat.reducePow, cC, pv, binv, sFlRSt1, undef, g1]
  refine hK _ _ ?_
  clear hK K
  refine cv_cond ?_
  simp -implicitDefEqProofs (disch := first | omega | decide) only [seval, -Int.reducePow, -Nat.reducePow, cC, pv, binv, sFlRSt1, undef, g1]
  refine ⟨fun hc => ?_, fun hc => ?_⟩
  · have q1 := of_decide_eq_true ‹_›
    have hlt : i.arg < fn := by have := hi q1; omega
    obtain ⟨b0, off, rfl, hb0, -⟩ := hG.cells (by omega)
    obtain ⟨x, hx⟩ := some_of (l := gs) (i := i.arg) (by omega)
    refine cv_seq_k fun K hK => ?_
    refine cv_draw [(true, 0), (true, 1), (true, 2), (true, 3), (true, 4), (true, 5), (true, 6), (true, 7), (true, 8), (true, 9), (true, 10), (true, 11), (true, 12), (true, 13), (true, 14), (true, 15)] [] mixA rfl (by kernel_rfl) (by kernel_rfl) rfl rfl ?_
    simp -implicitDefEqProofs (disch := first | omega | decide) only [seval, -Int.reducePow, -Nat.reducePow, cC, pv, binv, sFlRSt1, undef, g1]
    refine ⟨_, hG.fnp hx, fun tok htok => ?_⟩
    subst htok
    simp -implicitDefEqProofs (disch := first | omega | decide) only [seval, -Int.reducePow, -Nat.reducePow, cC, pv, binv, sFlRSt1, undef, g1]
    refine ⟨_, hG.fnr hx, fun tok htok => ?_⟩
    subst htok
    simp -implicitDefEqProofs (disch := first | omega | decide) only [seval, -Int.reducePow, -Nat.reducePow, cC, pv, binv, sFlRSt1, undef, g1]
    refine hK _ _ ?_
    clear hK K
    refine cv_ret ⟨_, (by simp -implicitDefEqProofs (disch := first | omega | decide) only [seval, -Int.reducePow, -Nat.reducePow, cC, pv, binv, sFlRSt1, undef, g1]; rfl), fun w hw => ?_⟩
    exact ⟨by unfold fxP; rw [if_pos q1, hx] <;> rfl, hw.below⟩
  have q1 := of_decide_eq_false ‹_›
  refine cv_seq_k fun K hK => ?_
  refine cv_region_then rfl ?_
  simp -implicitDefEqProofs (disch := first | omega | decide) only [seval, -Int.reducePow, -Nat.reducePow, cC, pv, binv, sFlRSt1, undef, g1]
  refine hK _ _ ?_
  clear hK K
  refine cv_cond ?_
  simp -implicitDefEqProofs (disch := first | omega | decide) only [seval, -Int.reducePow, -Nat.reducePow, cC, pv, binv, sFlRSt1, undef, g1]
  refine ⟨fun hc => ?_, fun hc => ?_⟩
  · have q2 := of_decide_eq_true ‹_›
    have := hh q2
    refine cv_seq_k fun K hK => ?_
    refine cv_region_then rfl ?_
    simp -implicitDefEqProofs (disch := first | omega | decide) only [seval, -Int.reducePow, -Nat.reducePow, cC, pv, binv, sFlRSt1, undef, wrap_in, g1]
    refine callV_ret (fun w hw => r_arity_any i.arg w) ?_
    try simp -implicitDefEqProofs (disch := first | omega | decide) only [seval, -Int.reducePow, -Nat.reducePow, cC, pv, binv, sFlRSt1, undef, g1]
    refine hK _ _ ?_
    clear hK K
    refine cv_seq_k fun K hK => ?_
    refine cv_region_then rfl ?_
    simp -implicitDefEqProofs (disch := first | omega | decide) only [seval, -Int.reducePow, -Nat.reducePow, cC, pv, binv, sFlRSt1, undef, g1]
    refine hK _ _ ?_
    clear hK K
    refine cv_ret ⟨_, (by simp -implicitDefEqProofs (disch := first | omega | decide) only [seval, -Int.reducePow, -Nat.reducePow, cC, pv, binv, sFlRSt1, undef, g1]; rfl), fun w hw => ?_⟩
    exact ⟨by unfold fxP; rw [if_neg q1, if_pos q2] <;> rfl, hw.below⟩
  have q2 := of_decide_eq_false ‹_›
  refine cv_skip ?_
  try simp only [blockQ, thenQ]
  refine hK _ _ ?_
  clear hK K
  refine cv_seq_k fun K hK => ?_
  refine cv_region_then rfl ?_
  simp -implicitDefEqProofs (disch := first | omega | decide) only [seval, -Int.reducePow, -Nat.reducePow, cC, pv, binv, sFlRSt1, undef, g1]
  refine callV_ret (fun w hw => r_effect_any i.op w) ?_
  try simp -implicitDefEqProofs (disch := first | omega | decide) only [seval, -Int.reducePow, -Nat.reducePow, cC, pv, binv, sFlRSt1, undef, g1]
  refine hK _ _ ?_
  clear hK K
  refine cv_seq_k fun K hK => ?_
  refine cv_region_then rfl ?_
  simp -implicitDefEqProofs (disch := first | omega | decide) only [seval, -Int.reducePow, -Nat.reducePow, cC, pv, binv, sFlRSt1, undef, g1]
  refine hK _ _ ?_
  clear hK K
  refine cv_ret ⟨_, (by simp -implicitDefEqProofs (disch := first | omega | decide) only [seval, -Int.reducePow, -Nat.reducePow, cC, pv, binv, sFlRSt1, undef, g1]; rfl), fun w hw => ?_⟩
  exact ⟨by unfold fxP; rw [if_neg q1, if_neg q2] <;> rfl, hw.below⟩
set_option maxHeartbeats 2000000 in
theorem rstatic_any (m : ModR) (f : Nat) (x : FnR) (k : Nat) (i : Ins) (W : World) (hM : Mod W W.heap.size m) (hf : m.gs[f]? = some x) (hi : x.code[k]? = some i)
    (hp : 0 ≤ x.p) (hl : 0 ≤ x.l) (hpl : x.p + x.l ≤ 64) (h32 : m.gs.length ≤ 32) (h1024 : x.code.length ≤ 1024) :
    Calls Tryz.prog 98 #[modV m, .int .i64 (f : Int), .int .i64 (k : Int)] W fun e w' => e = .returned (.int .i64 (stE m.gs.length x k i)) ∧ Below W.heap.size W w' := by
  have hlg := hM.glen
  have hG := hM.gs
  have hX := hM.fn x (List.mem_of_getElem? hf)
  have hxl : x.code.length = x.n := cl_row insc_len (by omega) hX.len
  have hk : k < x.n := by have := (List.getElem?_eq_some_iff.1 hi).1; omega
  obtain ⟨TA, tn, tc, ts, FA, fn, fc, gs⟩ := m
  obtain ⟨xp, xr, xl, xA, xn, xc, code⟩ := x
  dsimp only at *
  have hfk : f < fn := by have := (List.getElem?_eq_some_iff.1 hf).1; omega
  obtain ⟨b0, off, rfl, hb0, -⟩ := hX.cells (by omega)
  obtain ⟨b9, of9, rfl, hb9, -⟩ := hG.cells (by omega)
  refine calls_cv (M := []) (n := 92) [.tmp 6] rfl Tryz.func98 rfl rfl (Nat.le_of_ble_eq_true rfl) (St.nil _ _) ?_
  refine cv_seq_k fun K hK => ?_
  refine cv_region_then rfl ?_
  simp -implicitDefEqProofs (disch := first | omega | decide) only [seval, -Int.reducePow, -Nat.reducePow, cC, pv, binv, sFlRSt1, undef]
  intro b1 hb1
  refine hK _ _ ?_
  clear hK K
  refine cv_seq_k fun K hK => ?_
  refine cv_region_then rfl ?_
  simp -implicitDefEqProofs (disch := first | omega | decide) only [seval, -Int.reducePow, -Nat.reducePow, cC, pv, binv, sFlRSt1, undef]
  refine ⟨_, hG.fnl hf, fun tok htok => ?_⟩
  subst htok
  simp -implicitDefEqProofs (disch := first | omega | decide) only [seval, -Int.reducePow, -Nat.reducePow, cC, pv, binv, sFlRSt1, undef]
  intro b2 hb2 h2
  refine hK _ _ ?_
  clear hK K
  refine cv_seq_k fun K hK => ?_
  refine cv_region_then rfl ?_
  simp -implicitDefEqProofs (disch := first | omega | decide) only [seval, -Int.reducePow, -Nat.reducePow, cC, pv, binv, sFlRSt1, undef]
  refine ⟨_, hX.ins hi, fun tok htok => ?_⟩
  subst htok
  simp -implicitDefEqProofs (disch := first | omega | decide) only [seval, -Int.reducePow, -Nat.reducePow, cC, pv, binv, sFlRSt1, undef]
  intro b7 hb7 h7
  refine hK _ _ ?_
  clear hK K
  refine cv_gen fun G2 hG => ?_
  have g2_2 := congrFun hG 2
  have g2_3 := congrFun hG 3
  have g2_7 := congrFun hG 7
  have g2_8 := congrFun hG 8
  clear hG
  try simp -implicitDefEqProofs (disch := first | omega | decide) only [seval, -Int.reducePow, -Nat.reducePow, cC, pv, binv, sFlRSt1, undef] at g2_2 g2_3 g2_7 g2_8
  have g2 := And.intro g2_2 (And.intro g2_3 (And.intro g2_7 g2_8))
  refine cv_seq_k fun K hK => ?_
  refine cv_seq_k fun K hK => ?_
  refine cv_cut (fun _ _ => True) (fun F' L' => F' 2 = G2 2 ∧ F' 3 = G2 3 ∧ F' 7 = G2 7 ∧ F' 8 = G2 8 ∧ F' 35 = .bool (decide ((i.op = 19 ∨ i.op = 20) ∧ code.length ≤ i.arg)) ∧ L' = [iBox b7 i, gBox b2 ⟨xp, xr, xl, some ⟨b0, off, none⟩, xn, xc, code⟩, mBox b1 ⟨TA, tn, tc, ts, some ⟨b9, of9, none⟩, fn, fc, gs⟩]) ?_ ?_
  · refine cv_region_then rfl ?_
    simp -implicitDefEqProofs (disch := first | omega | decide) only [seval, -Int.reducePow, -Nat.reducePow, cC, pv, binv, sFlRSt1, undef, g2]
    repeat' ((first | refine vcg_cases (fun hg => ?_) (fun hg => ?_) | refine vdg_cases (fun hg => ?_) (fun hg => ?_)) <;> ((try simp only [Bool.not_eq_true', Bool.not_eq_false', decide_eq_true_eq, decide_eq_false_iff_not] at hg); (try simp -implicitDefEqProofs (disch := first | omega | decide) only [seval, -Int.reducePow, -Nat.reducePow, cC, pv, binv, sFlRSt1, undef, hg, wrap_in, wrapu, g2])))
    all_goals (repeat' refine And.intro ?_ ?_)
    all_goals (first | with_reducible rfl | (refine congrArg Value.bool ?_; rw [Bool.eq_iff_iff]; (try simp only [decide_eq_true_eq, eq_self, true_and, and_true, false_and, and_false, true_or, or_true, false_or, or_false, not_true_eq_false, not_false_eq_true, true_iff, iff_true, false_iff, iff_false, Bool.false_eq_true, Bool.not_eq_true', Bool.not_eq_true, decide_eq_false_iff_not, Bool.and_eq_true, Bool.or_eq_true]) <;> omega) | (refine congrArg (Value.int _) ?_; omega) | omega)
  intro G3 L' _ hF
  obtain ⟨q2, q3, q7, q8, q35, rfl⟩ := hF
  have g3_2 := q2.trans g2_2
  have g3_3 := q3.trans g2_3
  have g3_7 := q7.trans g2_7
  have g3_8 := q8.trans g2_8
  have g3_35 := q35
  clear q2 q3 q7 q8 q35
  have g3 := And.intro g3_2 (And.intro g3_3 (And.intro g3_7 (And.intro g3_8 g3_35)))
  refine hK _ _ ?_
  clear hK K
  refine cv_cond ?_
  simp -implicitDefEqProofs (disch := first | omega | decide) only [seval, -Int.reducePow, -Nat.reducePow, cC, pv, binv, sFlRSt1, undef, g3]
  refine ⟨fun hc => ?_, fun hc => ?_⟩
  · have q1 := of_decide_eq_true ‹_›
    refine cv_seq_k fun K hK => ?_
    refine cv_region_then rfl ?_
    simp -implicitDefEqProofs (disch := first | omega | decide) only [seval, -Int.reducePow, -Nat.reducePow, cC, pv, binv, sFlRSt1, undef, g3]
    refine hK _ _ ?_
    clear hK K
    refine cv_ret ⟨_, (by simp -implicitDefEqProofs (disch := first | omega | decide) only [seval, -Int.reducePow, -Nat.reducePow, cC, pv, binv, sFlRSt1, undef, g3]; rfl), fun w hw => ?_⟩
    exact ⟨by unfold stE; rw [if_pos q1], hw.below⟩
  have q1 := of_decide_eq_false ‹_›
  refine cv_skip ?_
  try simp only [blockQ, thenQ]
  refine hK _ _ ?_
  clear hK K
  refine cv_seq_k fun K hK => ?_
  refine cv_seq_k fun K hK => ?_
  refine cv_cut (fun _ _ => True) (fun F' L' => F' 2 = G3 2 ∧ F' 3 = G3 3 ∧ F' 7 = G3 7 ∧ F' 8 = G3 8 ∧ F' 54 = .bool (decide ((i.op = 2 ∨ i.op = 3) ∧ xp + xl ≤ (i.arg : Int))) ∧ L' = [iBox b7 i, gBox b2 ⟨xp, xr, xl, some ⟨b0, off, none⟩, xn, xc, code⟩, mBox b1 ⟨TA, tn, tc, ts, some ⟨b9, of9, none⟩, fn, fc, gs⟩]) ?_ ?_
  · refine cv_region_then rfl ?_
    simp -implicitDefEqProofs (disch := first | omega | decide) only [seval, -Int.reducePow, -Nat.reducePow, cC, pv, binv, sFlRSt1, undef, g3]
    repeat' ((first | refine vcg_cases (fun hg => ?_) (fun hg => ?_) | refine vdg_cases (fun hg => ?_) (fun hg => ?_)) <;> ((try simp only [Bool.not_eq_true', Bool.not_eq_false', decide_eq_true_eq, decide_eq_false_iff_not] at hg); (try simp -implicitDefEqProofs (disch := first | omega | decide) only [seval, -Int.reducePow, -Nat.reducePow, cC, pv, binv, sFlRSt1, undef, hg, wrap_in, wrapu, g3])))
    all_goals (repeat' refine And.intro ?_ ?_)
    all_goals (first | with_reducible rfl | (refine congrArg Value.bool ?_; rw [Bool.eq_iff_iff]; (try simp only [decide_eq_true_eq, eq_self, true_and, and_true, false_and, and_false, true_or, or_true, false_or, or_false, not_true_eq_false, not_false_eq_true, true_iff, iff_true, false_iff, iff_false, Bool.false_eq_true, Bool.not_eq_true', Bool.not_eq_true, decide_eq_false_iff_not, Bool.and_eq_true, Bool.or_eq_true]) <;> omega) | (refine congrArg (Value.int _) ?_; omega) | omega)
  intro G4 L' _ hF
  obtain ⟨q2, q3, q7, q8, q54, rfl⟩ := hF
  have g4_2 := q2.trans g3_2
  have g4_3 := q3.trans g3_3
  have g4_7 := q7.trans g3_7
  have g4_8 := q8.trans g3_8
  have g4_54 := q54
  clear q2 q3 q7 q8 q54
  have g4 := And.intro g4_2 (And.intro g4_3 (And.intro g4_7 (And.intro g4_8 g4_54)))
  refine hK _ _ ?_
  clear hK K
  refine cv_cond ?_
  simp -implicitDefEqProofs (disch := first | omega | decide) only [seval, -Int.reducePow, -Nat.reducePow, cC, pv, binv, sFlRSt1, undef, g4]
  refine ⟨fun hc => ?_, fun hc => ?_⟩
  · have q2 := of_decide_eq_true ‹_›
    refine cv_seq_k fun K hK => ?_
    refine cv_region_then rfl ?_
    simp -implicitDefEqProofs (disch := first | omega | decide) only [seval, -Int.reducePow, -Nat.reducePow, cC, pv, binv, sFlRSt1, undef, g4]
    refine hK _ _ ?_
    clear hK K
    refine cv_ret ⟨_, (by simp -implicitDefEqProofs (disch := first | omega | decide) only [seval, -Int.reducePow, -Nat.reducePow, cC, pv, binv, sFlRSt1, undef, g4]; rfl), fun w hw => ?_⟩
    exact ⟨by unfold stE; rw [if_neg q1, if_pos q2], hw.below⟩
  have q2 := of_decide_eq_false ‹_›
  refine cv_skip ?_
  try simp only [blockQ, thenQ]
  refine hK _ _ ?_
  clear hK K
  refine cv_seq_k fun K hK => ?_
  refine cv_seq_k fun K hK => ?_
  refine cv_cut (fun _ _ => True) (fun F' L' => F' 2 = G4 2 ∧ F' 7 = G4 7 ∧ F' 8 = G4 8 ∧ F' 66 = .bool (decide (i.op = 21 ∧ gs.length ≤ i.arg)) ∧ L' = [iBox b7 i, gBox b2 ⟨xp, xr, xl, some ⟨b0, off, none⟩, xn, xc, code⟩, mBox b1 ⟨TA, tn, tc, ts, some ⟨b9, of9, none⟩, fn, fc, gs⟩]) ?_ ?_
  · refine cv_region_then rfl ?_
    simp -implicitDefEqProofs (disch := first | omega | decide) only [seval, -Int.reducePow, -Nat.reducePow, cC, pv, binv, sFlRSt1, undef, g4]
    repeat' ((first | refine vcg_cases (fun hg => ?_) (fun hg => ?_) | refine vdg_cases (fun hg => ?_) (fun hg => ?_)) <;> ((try simp only [Bool.not_eq_true', Bool.not_eq_false', decide_eq_true_eq, decide_eq_false_iff_not] at hg); (try simp -implicitDefEqProofs (disch := first | omega | decide) only [seval, -Int.reducePow, -Nat.reducePow, cC, pv, binv, sFlRSt1, undef, hg, wrap_in, wrapu, g4])))
    all_goals (repeat' refine And.intro ?_ ?_)
    all_goals (first | with_reducible rfl | (refine congrArg Value.bool ?_; rw [Bool.eq_iff_iff]; (try simp only [decide_eq_true_eq, eq_self, true_and, and_true, false_and, and_false, true_or, or_true, false_or, or_false, not_true_eq_false, not_false_eq_true, true_iff, iff_true, false_iff, iff_false, Bool.false_eq_true, Bool.not_eq_true', Bool.not_eq_true, decide_eq_false_iff_not, Bool.and_eq_true, Bool.or_eq_true]) <;> omega) | (refine congrArg (Value.int _) ?_; omega) | omega)
  intro G5 L' _ hF
  obtain ⟨q2, q7, q8, q66, rfl⟩ := hF
  have g5_2 := q2.trans g4_2
  have g5_7 := q7.trans g4_7
  have g5_8 := q8.trans g4_8
  have g5_66 := q66
  clear q2 q7 q8 q66
  have g5 := And.intro g5_2 (And.intro g5_7 (And.intro g5_8 g5_66))
  refine hK _ _ ?_
  clear hK K
  refine cv_cond ?_
  simp -implicitDefEqProofs (disch := first | omega | decide) only [seval, -Int.reducePow, -Nat.reducePow, cC, pv, binv, sFlRSt1, undef, g5]
  refine ⟨fun hc => ?_, fun hc => ?_⟩
  · have q3 := of_decide_eq_true ‹_›
    refine cv_seq_k fun K hK => ?_
    refine cv_region_then rfl ?_
    simp -implicitDefEqProofs (disch := first | omega | decide) only [seval, -Int.reducePow, -Nat.reducePow, cC, pv, binv, sFlRSt1, undef, g5]
    refine hK _ _ ?_
    clear hK K
    refine cv_ret ⟨_, (by simp -implicitDefEqProofs (disch := first | omega | decide) only [seval, -Int.reducePow, -Nat.reducePow, cC, pv, binv, sFlRSt1, undef, g5]; rfl), fun w hw => ?_⟩
    exact ⟨by unfold stE; rw [if_neg q1, if_neg q2, if_pos q3], hw.below⟩
  have q3 := of_decide_eq_false ‹_›
  refine cv_skip ?_
  try simp only [blockQ, thenQ]
  refine hK _ _ ?_
  clear hK K
  refine cv_seq_k fun K hK => ?_
  refine cv_seq_k fun K hK => ?_
  refine cv_cut (fun _ _ => True) (fun F' L' => F' 2 = G5 2 ∧ F' 7 = G5 7 ∧ F' 8 = G5 8 ∧ F' 79 = .bool (decide (i.op = 23 ∧ ¬ hostP i.arg)) ∧ L' = [iBox b7 i, gBox b2 ⟨xp, xr, xl, some ⟨b0, off, none⟩, xn, xc, code⟩, mBox b1 ⟨TA, tn, tc, ts, some ⟨b9, of9, none⟩, fn, fc, gs⟩]) ?_ ?_
  · refine cv_region_then rfl ?_
    simp -implicitDefEqProofs (disch := first | omega | decide) only [seval, -Int.reducePow, -Nat.reducePow, cC, pv, binv, sFlRSt1, undef, g5]
    repeat' ((first | refine vcg_cases (fun hg => ?_) (fun hg => ?_) | refine vdg_cases (fun hg => ?_) (fun hg => ?_)) <;> ((try simp only [Bool.not_eq_true', Bool.not_eq_false', decide_eq_true_eq, decide_eq_false_iff_not] at hg); (try simp -implicitDefEqProofs (disch := first | omega | decide) only [seval, -Int.reducePow, -Nat.reducePow, cC, pv, binv, sFlRSt1, undef, hg, g5])))
    all_goals (repeat' refine And.intro ?_ ?_)
    all_goals (first | with_reducible rfl | (refine congrArg Value.bool ?_; rw [Bool.eq_iff_iff]; (try simp only [hostP, decide_eq_true_eq, eq_self, true_and, and_true, false_and, and_false, true_or, or_true, false_or, or_false, not_true_eq_false, not_false_eq_true, true_iff, iff_true, false_iff, iff_false, Bool.false_eq_true, Bool.not_eq_true', Bool.not_eq_true, decide_eq_false_iff_not, Bool.and_eq_true, Bool.or_eq_true]) <;> omega) | (refine congrArg (Value.int _) ?_; omega) | omega)
  intro G6 L' _ hF
  obtain ⟨q2, q7, q8, q79, rfl⟩ := hF
  have g6_2 := q2.trans g5_2
  have g6_7 := q7.trans g5_7
  have g6_8 := q8.trans g5_8
  have g6_79 := q79
  clear q2 q7 q8 q79
  have g6 := And.intro g6_2 (And.intro g6_7 (And.intro g6_8 g6_79))
  refine hK _ _ ?_
  clear hK K
  refine cv_cond ?_
  simp -implicitDefEqProofs (disch := first | omega | decide) only [seval, -Int.reducePow, -Nat.reducePow, cC, pv, binv, sFlRSt1, undef, g6]
  refine ⟨fun hc => ?_, fun hc => ?_⟩
  · have q4 := of_decide_eq_true ‹_›
    refine cv_seq_k fun K hK => ?_
    refine cv_region_then rfl ?_
    simp -implicitDefEqProofs (disch := first | omega | decide) only [seval, -Int.reducePow, -Nat.reducePow, cC, pv, binv, sFlRSt1, undef, g6]
    refine hK _ _ ?_
    clear hK K
    refine cv_ret ⟨_, (by simp -implicitDefEqProofs (disch := first | omega | decide) only [seval, -Int.reducePow, -Nat.reducePow, cC, pv, binv, sFlRSt1, undef, g6]; rfl), fun w hw => ?_⟩
    exact ⟨by unfold stE; rw [if_neg q1, if_neg q2, if_neg q3, if_pos q4], hw.below⟩
  have q4 := of_decide_eq_false ‹_›
  refine cv_skip ?_
  try simp only [blockQ, thenQ]
  refine hK _ _ ?_
  clear hK K
  refine cv_seq_k fun K hK => ?_
  refine cv_seq_k fun K hK => ?_
  refine cv_cut (fun _ _ => True) (fun F' L' => F' 91 = .bool (decide (k + 1 = code.length ∧ ¬ endsP i.op)) ∧ L' = [iBox b7 i, gBox b2 ⟨xp, xr, xl, some ⟨b0, off, none⟩, xn, xc, code⟩, mBox b1 ⟨TA, tn, tc, ts, some ⟨b9, of9, none⟩, fn, fc, gs⟩]) ?_ ?_
  · by_cases ha : (k : Int) = (xn : Int) - 1
    · have ha' : decide ((k : Int) = (xn : Int) - 1) = true := decide_eq_true ha
      refine cv_region_then rfl ?_
      simp -implicitDefEqProofs (disch := first | omega | decide) only [seval, -Int.reducePow, -Nat.reducePow, cC, pv, binv, sFlRSt1, undef, ha', wrap_in, g6]
      refine callV_ret (fun w hw => r_ends_any i.op w) ?_
      try simp -implicitDefEqProofs (disch := first | omega | decide) only [seval, -Int.reducePow, -Nat.reducePow, cC, pv, binv, sFlRSt1, undef, ha', g6]
      all_goals (repeat' refine And.intro ?_ ?_)
      all_goals (first | with_reducible rfl | (refine congrArg Value.bool ?_; rw [Bool.eq_iff_iff]; (try simp only [endsP, decide_eq_true_eq, eq_self, true_and, and_true, false_and, and_false, true_or, or_true, false_or, or_false, not_true_eq_false, not_false_eq_true, true_iff, iff_true, false_iff, iff_false, Bool.false_eq_true, Bool.not_eq_true', Bool.not_eq_true, decide_eq_false_iff_not, Bool.and_eq_true, Bool.or_eq_true]) <;> omega) | (refine congrArg (Value.int _) ?_; omega) | omega)
    · have ha' : decide ((k : Int) = (xn : Int) - 1) = false := decide_eq_false ha
      refine cv_region_then rfl ?_
      simp -implicitDefEqProofs (disch := first | omega | decide) only [seval, -Int.reducePow, -Nat.reducePow, cC, pv, binv, sFlRSt1, undef, ha', wrap_in, g6]
      all_goals (repeat' refine And.intro ?_ ?_)
      all_goals (first | with_reducible rfl | (refine congrArg Value.bool ?_; rw [Bool.eq_iff_iff]; (try simp only [decide_eq_true_eq, eq_self, true_and, and_true, false_and, and_false, true_or, or_true, false_or, or_false, not_true_eq_false, not_false_eq_true, true_iff, iff_true, false_iff, iff_false, Bool.false_eq_true, Bool.not_eq_true', Bool.not_eq_true, decide_eq_false_iff_not, Bool.and_eq_true, Bool.or_eq_true]) <;> omega) | (refine congrArg (Value.int _) ?_; omega) | omega)
  intro G7 L' _ hF
  obtain ⟨q91, rfl⟩ := hF
  have g7_91 := q91
  clear q91
  have g7 := g7_91
  refine hK _ _ ?_
  clear hK K
  refine cv_cond ?_
  simp -implicitDefEqProofs (disch := first | omega | decide) only [seval, -Int.reducePow, -Nat.reducePow, cC, pv, binv, sFlRSt1, undef, g7]
  refine ⟨fun hc => ?_, fun hc => ?_⟩
  · have q5 := of_decide_eq_true ‹_›
    refine cv_seq_k fun K hK => ?_
    refine cv_region_then rfl ?_
    simp -implicitDefEqProofs (disch := first | omega | decide) only [seval, -Int.reducePow, -Nat.reducePow, cC, pv, binv, sFlRSt1, undef, g7]
    refine hK _ _ ?_
    clear hK K
    refine cv_ret ⟨_, (by simp -implicitDefEqProofs (disch := first | omega | decide) only [seval, -Int.reducePow, -Nat.reducePow, cC, pv, binv, sFlRSt1, undef, g7]; rfl), fun w hw => ?_⟩
    exact ⟨by unfold stE; rw [if_neg q1, if_neg q2, if_neg q3, if_neg q4, if_pos q5], hw.below⟩
  have q5 := of_decide_eq_false ‹_›
  refine cv_skip ?_
  try simp only [blockQ, thenQ]
  refine hK _ _ ?_
  clear hK K
  refine cv_seq_k fun K hK => ?_
  refine cv_region_then rfl ?_
  simp -implicitDefEqProofs (disch := first | omega | decide) only [seval, -Int.reducePow, -Nat.reducePow, cC, pv, binv, sFlRSt1, undef, g7]
  refine hK _ _ ?_
  clear hK K
  refine cv_ret ⟨_, (by simp -implicitDefEqProofs (disch := first | omega | decide) only [seval, -Int.reducePow, -Nat.reducePow, cC, pv, binv, sFlRSt1, undef, g7]; rfl), fun w hw => ?_⟩
  exact ⟨by unfold stE; rw [if_neg q1, if_neg q2, if_neg q3, if_neg q4, if_neg q5], hw.below⟩
theorem about_any (m : ModR) (f : Int) (W : World) (hM : Mod W W.heap.size m) : Calls Tryz.prog 97 #[modV m, .int .i64 f] W fun e w' =>
    e = .returned (fltV (if (chkM m).1 = 0 then (if (fnAt m f).isSome then fineF else (26, -1, -1)) else chkM m)) ∧ Below W.heap.size W w' := by
  have hlg := hM.glen
  have hMat := fun {L : List Res} {w : World} (hw : St [] W L w) => hM.at hw
  obtain ⟨q, hq⟩ : ∃ q, chkM m = q := ⟨_, rfl⟩
  obtain ⟨TA, tn, tc, ts, FA, fn, fc, gs⟩ := m
  rw [hq]
  dsimp only at *
  refine calls_cv2 (M := []) (n := 23) [.cell 4 45] rfl Tryz.func97 rfl rfl (Nat.le_of_ble_eq_true rfl) (St.nil _ _) ?_
  refine cv_seq_k fun K hK => ?_
  refine cv_region_then rfl ?_
  simp -implicitDefEqProofs (disch := first | omega | decide) only [seval, -Int.reducePow, -Nat.reducePow, cC, pv, binv, sFlRSt1, undef]
  intro b1 hb1 b4 hb4 h4
  refine hK _ _ ?_
  clear hK K
  refine cv_seq_k fun K hK => ?_
  refine cv_region_then rfl ?_
  simp -implicitDefEqProofs (disch := first | omega | decide) only [seval, -Int.reducePow, -Nat.reducePow, cC, pv, binv, sFlRSt1, undef]
  refine callV_ret (fun w hw => rmcheck_any ⟨TA, tn, tc, ts, FA, fn, fc, gs⟩ w (hMat hw)) ?_
  try simp -implicitDefEqProofs (disch := first | omega | decide) only [seval, -Int.reducePow, -Nat.reducePow, cC, pv, binv, sFlRSt1, undef, hq]
  intro b6 hb6 h6
  refine hK _ _ ?_
  clear hK K
  refine cv_gen fun G8 hG => ?_
  have g8_1 := congrFun hG 1
  have g8_2 := congrFun hG 2
  have g8_4 := congrFun hG 4
  have g8_5 := congrFun hG 5
  clear hG
  try simp -implicitDefEqProofs (disch := first | omega | decide) only [seval, -Int.reducePow, -Nat.reducePow, cC, pv, binv, sFlRSt1, undef] at g8_1 g8_2 g8_4 g8_5
  have g8 := And.intro g8_1 (And.intro g8_2 (And.intro g8_4 g8_5))
  refine cv_seq_k fun K hK => ?_
  refine cv_seq_k fun K hK => ?_
  refine cv_region_then rfl ?_
  simp -implicitDefEqProofs (disch := first | omega | decide) only [seval, -Int.reducePow, -Nat.reducePow, cC, pv, binv, sFlRSt1, undef, g8]
  refine hK _ _ ?_
  clear hK K
  refine cv_cond ?_
  simp -implicitDefEqProofs (disch := first | omega | decide) only [seval, -Int.reducePow, -Nat.reducePow, cC, pv, binv, sFlRSt1, undef, g8]
  refine ⟨fun hc => ?_, fun hc => ?_⟩
  · have hz : ¬ q.1 = 0 := nd_true ‹(!decide (q.1 = 0)) = true›
    refine cv_seq_k fun K hK => ?_
    refine cv_region_then rfl ?_
    simp -implicitDefEqProofs (disch := first | omega | decide) only [seval, -Int.reducePow, -Nat.reducePow, cC, pv, binv, sFlRSt1, undef, g8]
    refine hK _ _ ?_
    clear hK K
    refine cv_ret ?_
    simp -implicitDefEqProofs (disch := first | omega | decide) only [seval, -Int.reducePow, -Nat.reducePow, cC, pv, binv, sFlRSt1, undef, retQ2, ressV, packV, g8]
    intro w hw
    exact ⟨by rw [if_neg hz] <;> rfl, hw.below⟩
  have hz : q.1 = 0 := Decidable.not_not.1 (nd_false ‹(!decide (q.1 = 0)) = false›)
  refine cv_skip ?_
  try simp only [blockQ, thenQ]
  refine hK _ _ ?_
  clear hK K
  refine cv_seq_k fun K hK => ?_
  refine cv_seq_k fun K hK => ?_
  refine cv_cut (fun _ _ => True) (fun F' L' => F' 4 = G8 4 ∧ F' 20 = .bool (decide (f < 0 ∨ (fn : Int) ≤ f)) ∧ L' = [flBox b6 q.1 q.2.1 q.2.2, flBox b4 0 0 0, mBox b1 ⟨TA, tn, tc, ts, FA, fn, fc, gs⟩]) ?_ ?_
  · refine cv_region_then rfl ?_
    simp -implicitDefEqProofs (disch := first | omega | decide) only [seval, -Int.reducePow, -Nat.reducePow, cC, pv, binv, sFlRSt1, undef, g8]
    repeat' ((first | refine vcg_cases (fun hg => ?_) (fun hg => ?_) | refine vdg_cases (fun hg => ?_) (fun hg => ?_)) <;> ((try simp only [Bool.not_eq_true', Bool.not_eq_false', decide_eq_true_eq, decide_eq_false_iff_not] at hg); (try simp -implicitDefEqProofs (disch := first | omega | decide) only [seval, -Int.reducePow, -Nat.reducePow, cC, pv, binv, sFlRSt1, undef, hg, g8])))
    all_goals (repeat' refine And.intro ?_ ?_)
    all_goals (first | with_reducible rfl | (refine congrArg Value.bool ?_; rw [Bool.eq_iff_iff]; (try simp only [decide_eq_true_eq, eq_self, true_and, and_true, false_and, and_false, true_or, or_true, false_or, or_false, not_true_eq_false, not_false_eq_true, true_iff, iff_true, false_iff, iff_false, Bool.false_eq_true, Bool.not_eq_true', Bool.not_eq_true, decide_eq_false_iff_not, Bool.and_eq_true, Bool.or_eq_true]) <;> omega) | (refine congrArg (Value.int _) ?_; omega) | omega)
  intro G9 L' _ hF
  obtain ⟨q4, q20, rfl⟩ := hF
  have g9_4 := q4.trans g8_4
  have g9_20 := q20
  clear q4 q20
  have g9 := And.intro g9_4 g9_20
  refine hK _ _ ?_
  clear hK K
  refine cv_cond ?_
  simp -implicitDefEqProofs (disch := first | omega | decide) only [seval, -Int.reducePow, -Nat.reducePow, cC, pv, binv, sFlRSt1, undef, g9]
  refine ⟨fun hc => ?_, fun hc => ?_⟩
  · have h1 := of_decide_eq_true ‹_›
    have hno : fnAt ⟨TA, tn, tc, ts, FA, fn, fc, gs⟩ f = none := by
      unfold fnAt
      split
      · rfl
      · exact List.getElem?_eq_none (by dsimp only; omega)
    refine cv_seq_k fun K hK => ?_
    refine cv_region_then rfl ?_
    simp -implicitDefEqProofs (disch := first | omega | decide) only [seval, -Int.reducePow, -Nat.reducePow, cC, pv, binv, sFlRSt1, undef, g9]
    refine callV_ret (fun w hw => fault_any 26 (-1) (-1) w) ?_
    try simp -implicitDefEqProofs (disch := first | omega | decide) only [seval, -Int.reducePow, -Nat.reducePow, cC, pv, binv, sFlRSt1, undef, g9]
    refine hK _ _ ?_
    clear hK K
    refine cv_ret ?_
    simp -implicitDefEqProofs (disch := first | omega | decide) only [seval, -Int.reducePow, -Nat.reducePow, cC, pv, binv, sFlRSt1, undef, retQ2, ressV, packV, g9]
    intro w hw
    exact ⟨by rw [hno, if_pos hz] <;> rfl, hw.below⟩
  have h1 := of_decide_eq_false ‹_›
  obtain ⟨k, rfl⟩ : ∃ k : Nat, f = (k : Int) := ⟨f.toNat, by omega⟩
  obtain ⟨x, hx⟩ := some_of (l := gs) (i := k) (by omega)
  have hyes : fnAt ⟨TA, tn, tc, ts, FA, fn, fc, gs⟩ (k : Int) = some x := by rw [fnAt_nat]; exact hx
  refine cv_skip ?_
  try simp only [blockQ, thenQ]
  refine hK _ _ ?_
  clear hK K
  refine cv_seq_k fun K hK => ?_
  refine cv_region_then rfl ?_
  simp -implicitDefEqProofs (disch := first | omega | decide) only [seval, -Int.reducePow, -Nat.reducePow, cC, pv, binv, sFlRSt1, undef, g9]
  refine callV_ret (fun w hw => fine_any w) ?_
  try simp -implicitDefEqProofs (disch := first | omega | decide) only [seval, -Int.reducePow, -Nat.reducePow, cC, pv, binv, sFlRSt1, undef, g9]
  refine hK _ _ ?_
  clear hK K
  refine cv_ret ?_
  simp -implicitDefEqProofs (disch := first | omega | decide) only [seval, -Int.reducePow, -Nat.reducePow, cC, pv, binv, sFlRSt1, undef, retQ2, ressV, packV, g9]
  intro w hw
  exact ⟨by rw [hyes, if_pos hz] <;> rfl, hw.below⟩
set_option maxHeartbeats 2000000 in
theorem rStatic_any (m : ModR) (f : Int) (W : World) (hM : Mod W W.heap.size m) : Calls Tryz.prog 78 #[modV m, .int .i64 f] W fun e w' => e = .returned (fltV (stF m f)) ∧ Below W.heap.size W w' := by
  have hMat := fun {L : List Res} {w : World} (hw : St [] W L w) => hM.at hw
  have hfn := hM.fn
  have hG := hM.gs
  have hlg := hM.glen
  obtain ⟨q, hq⟩ : ∃ q, (if (chkM m).1 = 0 then (if (fnAt m f).isSome then fineF else (26, -1, -1)) else chkM m) = q := ⟨_, rfl⟩
  obtain ⟨TA, tn, tc, ts, FA, fn, fc, gs⟩ := m
  dsimp only at *
  refine calls_cv2 (M := []) (n := 37) [.cell 4 45] rfl Tryz.func78 rfl rfl (Nat.le_of_ble_eq_true rfl) (St.nil _ _) ?_
  refine cv_seq_k fun K hK => ?_
  refine cv_region_then rfl ?_
  simp -implicitDefEqProofs (disch := first | omega | decide) only [seval, -Int.reducePow, -Nat.reducePow, cC, pv, binv, sFlRSt1, undef]
  intro b1 hb1 b4 hb4 h4
  refine hK _ _ ?_
  clear hK K
  refine cv_seq_k fun K hK => ?_
  refine cv_region_then rfl ?_
  simp -implicitDefEqProofs (disch := first | omega | decide) only [seval, -Int.reducePow, -Nat.reducePow, cC, pv, binv, sFlRSt1, undef]
  refine callV_ret (fun w hw => (by have := about_any ⟨TA, tn, tc, ts, FA, fn, fc, gs⟩ f w (hMat hw); rwa [hq] at this)) ?_
  simp -implicitDefEqProofs (disch := first | omega | decide) only [seval, -Int.reducePow, -Nat.reducePow, cC, pv, binv, sFlRSt1, undef]
  intro b6 hb6 h6
  refine hK _ _ ?_
  clear hK K
  refine cv_gen fun G10 hG => ?_
  have g10_1 := congrFun hG 1
  have g10_2 := congrFun hG 2
  have g10_4 := congrFun hG 4
  have g10_5 := congrFun hG 5
  clear hG
  try simp -implicitDefEqProofs (disch := first | omega | decide) only [seval, -Int.reducePow, -Nat.reducePow, cC, pv, binv, sFlRSt1, undef] at g10_1 g10_2 g10_4 g10_5
  have g10 := And.intro g10_1 (And.intro g10_2 (And.intro g10_4 g10_5))
  refine cv_seq_k fun K hK => ?_
  refine cv_seq_k fun K hK => ?_
  refine cv_region_then rfl ?_
  simp -implicitDefEqProofs (disch := first | omega | decide) only [seval, -Int.reducePow, -Nat.reducePow, cC, pv, binv, sFlRSt1, undef, g10]
  refine hK _ _ ?_
  clear hK K
  refine cv_cond ?_
  simp -implicitDefEqProofs (disch := first | omega | decide) only [seval, -Int.reducePow, -Nat.reducePow, cC, pv, binv, sFlRSt1, undef, g10]
  refine ⟨fun hc => ?_, fun hc => ?_⟩
  · have hz : ¬ q.1 = 0 := nd_true ‹(!decide (q.1 = 0)) = true›
    have hS : stF ⟨TA, tn, tc, ts, FA, fn, fc, gs⟩ f = q := by
      unfold stF
      rw [← hq] at hz ⊢
      split
      · rename_i h0
        rw [if_pos h0] at hz
        cases hf : fnAt ⟨TA, tn, tc, ts, FA, fn, fc, gs⟩ f with
        | none => rfl
        | some y => rw [hf] at hz; exact absurd rfl hz
      · rfl
    refine cv_seq_k fun K hK => ?_
    refine cv_region_then rfl ?_
    simp -implicitDefEqProofs (disch := first | omega | decide) only [seval, -Int.reducePow, -Nat.reducePow, cC, pv, binv, sFlRSt1, undef, g10]
    refine hK _ _ ?_
    clear hK K
    refine cv_ret ?_
    simp -implicitDefEqProofs (disch := first | omega | decide) only [seval, -Int.reducePow, -Nat.reducePow, cC, pv, binv, sFlRSt1, undef, retQ2, ressV, packV, g10]
    intro w hw
    exact ⟨by rw [hS] <;> rfl, hw.below⟩
  have hz : q.1 = 0 := Decidable.not_not.1 (nd_false ‹(!decide (q.1 = 0)) = false›)
  have h0 : (chkM ⟨TA, tn, tc, ts, FA, fn, fc, gs⟩).1 = 0 := by
    refine Decidable.byContradiction fun h0 => ?_
    rw [← hq, if_neg h0] at hz
    exact h0 hz
  obtain ⟨x, hy⟩ : ∃ y, fnAt ⟨TA, tn, tc, ts, FA, fn, fc, gs⟩ f = some y := by
    cases hf : fnAt ⟨TA, tn, tc, ts, FA, fn, fc, gs⟩ f with
    | none => rw [← hq, if_pos h0, hf] at hz; exact absurd (show (26 : Int) = 0 from hz) (by decide)
    | some y => exact ⟨y, rfl⟩
  obtain ⟨k, rfl, hk⟩ := fnAt_some hy
  dsimp only at hk
  obtain ⟨-, -, -, hg32, hck⟩ := chkM_ok h0
  obtain ⟨hfe, hce⟩ := hck k x hk
  obtain ⟨hp0, -, hl0, -, hpl, -, -, h1024, -⟩ := fnErr_ok hfe
  have hX := hfn x (List.mem_of_getElem? hk)
  have hxl : x.code.length = x.n := cl_row insc_len (by omega) hX.len
  have hS : stF ⟨TA, tn, tc, ts, FA, fn, fc, gs⟩ (k : Int) = stX gs.length (k : Int) x := by
    unfold stF
    rw [if_pos h0, hy]
  dsimp only at hg32
  have hkf : k < fn := by have := (List.getElem?_eq_some_iff.1 hk).1; omega
  obtain ⟨b9, of9, rfl, hb9, -⟩ := hG.cells (by omega)
  refine cv_skip ?_
  try simp only [blockQ, thenQ]
  refine hK _ _ ?_
  clear hK K
  refine cv_seq_k fun K hK => ?_
  refine cv_seq_k fun K hK => ?_
  refine cv_region_then rfl ?_
  simp -implicitDefEqProofs (disch := first | omega | decide) only [seval, -Int.reducePow, -Nat.reducePow, cC, pv, binv, sFlRSt1, undef, g10]
  refine hK _ _ ?_
  clear hK K
  refine cv_gen fun G11 hG => ?_
  have g11_1 := congrFun hG 1
  have g11_2 := congrFun hG 2
  have g11_4 := congrFun hG 4
  have g11_6 := congrFun hG 6
  clear hG
  try simp -implicitDefEqProofs (disch := first | omega | decide) only [seval, -Int.reducePow, -Nat.reducePow, cC, pv, binv, sFlRSt1, undef, g10] at g11_1 g11_2 g11_4 g11_6
  have g11 := And.intro g11_1 (And.intro g11_2 (And.intro g11_4 g11_6))
  refine cv_block ?_
  refine cv_loop (fun F' L' => ∃ (j : Nat), F' 1 = G11 1 ∧ F' 2 = G11 2 ∧ F' 4 = G11 4 ∧ F' 6 = .int .i64 (j : Int) ∧ L' = [flBox b6 q.1 q.2.1 q.2.2, flBox b4 0 0 0, mBox b1 ⟨TA, tn, tc, ts, some ⟨b9, of9, none⟩, fn, fc, gs⟩] ∧ j ≤ x.n ∧ firstS gs.length x 0 x.code = firstS gs.length x j (x.code.drop j)) (fun F' L' => 1100 - (intOf (F' 6)).toNat) ?_ ?_
  · refine ⟨0, ?_⟩
    simp -implicitDefEqProofs (disch := first | omega | decide) only [seval, -Int.reducePow, -Nat.reducePow, cC, pv, binv, sFlRSt1, undef, g11]
    omega
  intro G12 L' hI
  obtain ⟨j, q1, q2, q4, q6, rfl, ⟨hj, hi⟩⟩ := hI
  have g12_1 := q1.trans g11_1
  have g12_2 := q2.trans g11_2
  have g12_4 := q4.trans g11_4
  have g12_6 := q6
  clear q1 q2 q4 q6
  have g12 := And.intro g12_1 (And.intro g12_2 (And.intro g12_4 g12_6))
  refine cv_seq_k fun K hK => ?_
  refine cv_seq_k fun K hK => ?_
  refine cv_region_then rfl ?_
  simp -implicitDefEqProofs (disch := first | omega | decide) only [seval, -Int.reducePow, -Nat.reducePow, cC, pv, binv, sFlRSt1, undef, g11, g12]
  refine ⟨_, hG.fnf hk, fun tok htok => ?_⟩
  subst htok
  simp -implicitDefEqProofs (disch := first | omega | decide) only [seval, -Int.reducePow, -Nat.reducePow, cC, pv, binv, sFlRSt1, undef, g11, g12]
  refine hK _ _ ?_
  clear hK K
  refine cv_cond ?_
  simp -implicitDefEqProofs (disch := first | omega | decide) only [seval, -Int.reducePow, -Nat.reducePow, cC, pv, binv, sFlRSt1, undef, g11, g12]
  refine ⟨fun hc => ?_, fun hc => ?_⟩
  · refine cv_skip ?_
    try simp only [blockQ, thenQ]
    have hjt : j < x.n := by have := of_decide_eq_true ‹decide ((j : Int) < (x.n : Int)) = true›; omega
    obtain ⟨y, hy⟩ := some_of (l := x.code) (i := j) (by omega)
    rw [drop_at' hy] at hi
    obtain ⟨s, hs⟩ : ∃ s, stE gs.length x j y = s := ⟨_, rfl⟩
    refine hK _ _ ?_
    clear hK K
    refine cv_seq_k fun K hK => ?_
    refine cv_block ?_
    refine cv_seq_k fun K hK => ?_
    refine cv_region_then rfl ?_
    simp -implicitDefEqProofs (disch := first | omega | decide) only [seval, -Int.reducePow, -Nat.reducePow, cC, pv, binv, sFlRSt1, undef, g11, g12]
    refine callV_ret (fun w hw => rstatic_any ⟨TA, tn, tc, ts, some ⟨b9, of9, none⟩, fn, fc, gs⟩ k x j y w (hMat hw) hk hy hp0 hl0 hpl hg32 h1024) ?_
    try simp -implicitDefEqProofs (disch := first | omega | decide) only [seval, -Int.reducePow, -Nat.reducePow, cC, pv, binv, sFlRSt1, undef, hs, g11, g12]
    refine hK _ _ ?_
    clear hK K
    refine cv_seq_k fun K hK => ?_
    refine cv_region_then rfl ?_
    simp -implicitDefEqProofs (disch := first | omega | decide) only [seval, -Int.reducePow, -Nat.reducePow, cC, pv, binv, sFlRSt1, undef, g11, g12]
    refine hK _ _ ?_
    clear hK K
    refine cv_cond ?_
    simp -implicitDefEqProofs (disch := first | omega | decide) only [seval, -Int.reducePow, -Nat.reducePow, cC, pv, binv, sFlRSt1, undef, g11, g12]
    refine ⟨fun hc => ?_, fun hc => ?_⟩
    · have hz3 : ¬ s = 0 := nd_true ‹(!decide (s = 0)) = true›
      rw [firstS_no _ (by rw [hs]; exact hz3), hs] at hi
      refine cv_seq_k fun K hK => ?_
      refine cv_region_then rfl ?_
      simp -implicitDefEqProofs (disch := first | omega | decide) only [seval, -Int.reducePow, -Nat.reducePow, cC, pv, binv, sFlRSt1, undef, g11, g12]
      refine callV_ret (fun w hw => fault_any s (k : Int) (j : Int) w) ?_
      try simp -implicitDefEqProofs (disch := first | omega | decide) only [seval, -Int.reducePow, -Nat.reducePow, cC, pv, binv, sFlRSt1, undef, g11, g12]
      refine hK _ _ ?_
      clear hK K
      refine cv_ret ?_
      simp -implicitDefEqProofs (disch := first | omega | decide) only [seval, -Int.reducePow, -Nat.reducePow, cC, pv, binv, sFlRSt1, undef, retQ2, ressV, packV, g11, g12]
      intro w hw
      exact ⟨by rw [hS]; unfold stX; rw [hi, if_neg hz3] <;> rfl, hw.below⟩
    have hz3 : s = 0 := Decidable.not_not.1 (nd_false ‹(!decide (s = 0)) = false›)
    rw [firstS_yes _ (by rw [hs]; exact hz3)] at hi
    refine cv_skip ?_
    try simp only [blockQ, thenQ]
    refine hK _ _ ?_
    clear hK K
    refine cv_region_then rfl ?_
    simp -implicitDefEqProofs (disch := first | omega | decide) only [seval, -Int.reducePow, -Nat.reducePow, cC, pv, binv, sFlRSt1, undef, wrap_in, g11, g12]
    refine ⟨⟨j + 1, ?_⟩, ?_⟩
    · simp -implicitDefEqProofs (disch := first | omega | decide) only [seval, -Int.reducePow, -Nat.reducePow, cC, pv, binv, sFlRSt1, undef, Int.natCast_add, g11, g12]
      exact ⟨by omega, hi⟩
    · simp only [intOf]; omega
  refine cv_exit ?_
  simp only [blockQ, thenQ, if_true, ite_true]
  clear hK K
  refine hK _ _ ?_
  clear hK K
  have hje : j = x.n := by have := of_decide_eq_false ‹decide ((j : Int) < (x.n : Int)) = false›; omega
  rw [List.drop_of_length_le (by omega)] at hi
  refine cv_seq_k fun K hK => ?_
  refine cv_region_then rfl ?_
  simp -implicitDefEqProofs (disch := first | omega | decide) only [seval, -Int.reducePow, -Nat.reducePow, cC, pv, binv, sFlRSt1, undef, g11, g12]
  refine callV_ret (fun w hw => fine_any w) ?_
  try simp -implicitDefEqProofs (disch := first | omega | decide) only [seval, -Int.reducePow, -Nat.reducePow, cC, pv, binv, sFlRSt1, undef, g11, g12]
  refine hK _ _ ?_
  clear hK K
  refine cv_ret ?_
  simp -implicitDefEqProofs (disch := first | omega | decide) only [seval, -Int.reducePow, -Nat.reducePow, cC, pv, binv, sFlRSt1, undef, retQ2, ressV, packV, g11, g12]
  intro w hw
  exact ⟨by rw [hS]; unfold stX; rw [hi] <;> rfl, hw.below⟩
end Go.Proofs.YtlbmnioibiomfaaGreat
/- flow's next and Next, and the reference's. -/
namespace Go.Proofs.YtlbmnioibiomfaaGreat
open Go.RowKit Go.Shelf
set_option linter.unusedVariables false
set_option linter.unusedSimpArgs false
set_option maxRecDepth 100000
set_option maxRecDepth 100000 in
theorem sFlNext1 : type_of% (And.intro (And.intro (And.intro @fBox.eq_1 (And.intro @tBox.eq_1 @iBox.eq_1)) (And.intro (And.intro @mBox.eq_1 @gBox.eq_1) (And.intro @flBox.eq_1 @fdV.eq_1))) (And.intro (And.intro (And.intro @tyV.eq_1 @insV.eq_1) (And.intro @fnV.eq_1 @modV.eq_1)) (And.intro (And.intro @fltV.eq_1 @fineF.eq_1) (And.intro @Nat.mul_one @wrap_in)))) := (And.intro (And.intro (And.intro @fBox.eq_1 (And.intro @tBox.eq_1 @iBox.eq_1)) (And.intro (And.intro @mBox.eq_1 @gBox.eq_1) (And.intro @flBox.eq_1 @fdV.eq_1))) (And.intro (And.intro (And.intro @tyV.eq_1 @insV.eq_1) (And.intro @fnV.eq_1 @modV.eq_1)) (And.intro (And.intro @fltV.eq_1 @fineF.eq_1) (And.intro @Nat.mul_one @wrap_in))))
theorem i64c_len (l : List Nat) : (i64c l).length = l.length := by simp [i64c]
theorem i64c_get {l : List Nat} {i x : Nat} (h : l[i]? = some x) : (i64c l)[i]? = some (.int .i64 x) := by simp [i64c, h]
/-- A fresh block, of which a prefix is handed back. -/
theorem rowP_blk {W w : World} {L : List Res} {b c k : Nat} {cs : List Value} {l : List Nat} (hw : St [] W (.blk b 3 cs :: L) w) (hl : cs.length = c) (hk : k ≤ c) (hc : c ≤ 9223372036854775807) (he : cs.take k = i64c l) :
    rowP 3 1 (fun v => v) (i64c l) W (.returned (.slice (some ⟨b, 0, none⟩) k c)) w := by
  have hr := hw.blk_pre (size := 1) (n := k) (c := c) (by omega) hk hc
  rw [Nat.mul_one, he] at hr
  exact ⟨_, _, _, rfl, hr.rowNew (by simp), hw.below⟩
theorem fnext_any (i : Ins) (k : Nat) (W : World) (hk : k ≤ 1024) (ha : i.op = 19 ∨ i.op = 20 → i.arg ≤ 1024) : Calls Tryz.prog 42 #[insV i, .int .i64 (k : Int)] W (rowP 3 1 (fun v => v) (i64c (nxP i k)) W) := by
  refine calls_cv (M := []) (n := 33) [.tmp 4] rfl Tryz.func42 rfl rfl (Nat.le_of_ble_eq_true rfl) (St.nil _ _) ?_
  refine cv_seq_k fun K hK => ?_
  refine cv_region_then rfl ?_
  simp -implicitDefEqProofs (disch := first | omega | decide) only [seval, -Int.reducePow, -Nat.reducePow, cC, pv, binv, sFlNext1, undef]
  intro b2 hb2
  refine hK _ _ ?_
  clear hK K
  refine cv_seq_k fun K hK => ?_
  refine cv_seq_k fun K hK => ?_
  refine cv_region_then rfl ?_
  simp -implicitDefEqProofs (disch := first | omega | decide) only [seval, -Int.reducePow, -Nat.reducePow, cC, pv, binv, sFlNext1, undef]
  refine hK _ _ ?_
  clear hK K
  refine cv_gen fun G1 hG => ?_
  have g1_1 := congrFun hG 1
  have g1_2 := congrFun hG 2
  have g1_7 := congrFun hG 7
  clear hG
  try simp -implicitDefEqProofs (disch := first | omega | decide) only [seval, -Int.reducePow, -Nat.reducePow, cC, pv, binv, sFlNext1, undef] at g1_1 g1_2 g1_7
  have g1 := And.intro g1_1 (And.intro g1_2 g1_7)
  refine cv_block ?_
  refine cv_seq_k fun K hK => ?_
  refine cv_region_then rfl ?_
  simp -implicitDefEqProofs (disch := first | omega | decide) only [seval, -Int.reducePow, -Nat.reducePow, cC, pv, binv, sFlNext1, undef, g1]
  refine hK _ _ ?_
  clear hK K
  refine cv_cond ?_
  simp -implicitDefEqProofs (disch := first | omega | decide) only [seval, -Int.reducePow, -Nat.reducePow, cC, pv, binv, sFlNext1, undef, g1]
  refine ⟨fun hc => ?_, fun hc => ?_⟩
  · have q1 := of_decide_eq_true ‹_›
    have ha' := ha (.inl q1)
    refine cv_seq_k fun K hK => ?_
    refine cv_region_then rfl ?_
    simp -implicitDefEqProofs (disch := first | omega | decide) only [seval, -Int.reducePow, -Nat.reducePow, cC, pv, binv, sFlNext1, undef, g1]
    intro b13 hb13 h13
    refine hK _ _ ?_
    clear hK K
    refine cv_ret ⟨_, (by simp -implicitDefEqProofs (disch := first | omega | decide) only [seval, -Int.reducePow, -Nat.reducePow, cC, pv, binv, sFlNext1, undef, g1]; rfl), fun w hw => ?_⟩
    exact rowP_blk hw (by simp) (by omega) (by omega) (by unfold nxP; rw [if_pos q1] <;> rfl)
  have q1 := of_decide_eq_false ‹_›
  refine cv_seq_k fun K hK => ?_
  refine cv_region_then rfl ?_
  simp -implicitDefEqProofs (disch := first | omega | decide) only [seval, -Int.reducePow, -Nat.reducePow, cC, pv, binv, sFlNext1, undef, g1]
  refine hK _ _ ?_
  clear hK K
  refine cv_cond ?_
  simp -implicitDefEqProofs (disch := first | omega | decide) only [seval, -Int.reducePow, -Nat.reducePow, cC, pv, binv, sFlNext1, undef, g1]
  refine ⟨fun hc => ?_, fun hc => ?_⟩
  · have q2 := of_decide_eq_true ‹_›
    have ha' := ha (.inr q2)
    refine cv_seq_k fun K hK => ?_
    refine cv_region_then rfl ?_
    simp -implicitDefEqProofs (disch := first | omega | decide) only [seval, -Int.reducePow, -Nat.reducePow, cC, pv, binv, sFlNext1, undef, g1]
    intro b13 hb13 h13
    refine hK _ _ ?_
    clear hK K
    refine cv_seq_k fun K hK => ?_
    refine cv_region_then rfl ?_
    simp -implicitDefEqProofs (disch := first | omega | decide) only [seval, -Int.reducePow, -Nat.reducePow, cC, pv, binv, sFlNext1, undef, g1]
    refine callV_mod1 0 (fun w hw => sort2_any b13 (i.arg : Int) ((k : Int) + 1) w (hw.hold 0 rfl)) rfl ?_
    try simp -implicitDefEqProofs (disch := first | omega | decide) only [seval, -Int.reducePow, -Nat.reducePow, cC, pv, binv, sFlNext1, undef, g1]
    refine hK _ _ ?_
    clear hK K
    by_cases c1 : i.arg < k + 1
    · have e2 : s2 (i.arg : Int) ((k : Int) + 1) = [.int .i64 (i.arg : Int), .int .i64 ((k : Int) + 1)] := by unfold s2; rw [if_neg (by omega)]
      rw [e2]
      refine cv_seq_k fun K hK => ?_
      refine cv_region_then rfl ?_
      simp -implicitDefEqProofs (disch := first | omega | decide) only [seval, -Int.reducePow, -Nat.reducePow, cC, pv, binv, sFlNext1, undef, g1]
      refine callV_mod1 0 (fun w hw => comp2_ne b13 (i.arg : Int) ((k : Int) + 1) w (hw.hold 0 rfl) (by omega)) rfl ?_
      try simp -implicitDefEqProofs (disch := first | omega | decide) only [seval, -Int.reducePow, -Nat.reducePow, cC, pv, binv, sFlNext1, undef, g1]
      refine hK _ _ ?_
      clear hK K
      refine cv_ret ⟨_, (by simp -implicitDefEqProofs (disch := first | omega | decide) only [seval, -Int.reducePow, -Nat.reducePow, cC, pv, binv, sFlNext1, undef, g1]; rfl), fun w hw => ?_⟩
      exact rowP_blk hw (by simp) (by omega) (by omega) (by unfold nxP; rw [if_neg q1, if_pos q2, if_pos c1] <;> rfl)
    by_cases c2 : k + 1 < i.arg
    · have e2 : s2 (i.arg : Int) ((k : Int) + 1) = [.int .i64 ((k : Int) + 1), .int .i64 (i.arg : Int)] := by unfold s2; rw [if_pos (by omega)]
      rw [e2]
      refine cv_seq_k fun K hK => ?_
      refine cv_region_then rfl ?_
      simp -implicitDefEqProofs (disch := first | omega | decide) only [seval, -Int.reducePow, -Nat.reducePow, cC, pv, binv, sFlNext1, undef, g1]
      refine callV_mod1 0 (fun w hw => comp2_ne b13 ((k : Int) + 1) (i.arg : Int) w (hw.hold 0 rfl) (by omega)) rfl ?_
      try simp -implicitDefEqProofs (disch := first | omega | decide) only [seval, -Int.reducePow, -Nat.reducePow, cC, pv, binv, sFlNext1, undef, g1]
      refine hK _ _ ?_
      clear hK K
      refine cv_ret ⟨_, (by simp -implicitDefEqProofs (disch := first | omega | decide) only [seval, -Int.reducePow, -Nat.reducePow, cC, pv, binv, sFlNext1, undef, g1]; rfl), fun w hw => ?_⟩
      exact rowP_blk hw (by simp) (by omega) (by omega) (by unfold nxP; rw [if_neg q1, if_pos q2, if_neg c1, if_pos c2] <;> rfl)
    have c3 : (i.arg : Int) = (k : Int) + 1 := by omega
    have e2 : s2 (i.arg : Int) ((k : Int) + 1) = [.int .i64 ((k : Int) + 1), .int .i64 ((k : Int) + 1)] := by unfold s2; rw [if_neg (by omega), c3]
    rw [e2]
    refine cv_seq_k fun K hK => ?_
    refine cv_region_then rfl ?_
    simp -implicitDefEqProofs (disch := first | omega | decide) only [seval, -Int.reducePow, -Nat.reducePow, cC, pv, binv, sFlNext1, undef, g1]
    refine callV_mod1 0 (fun w hw => comp2_eq b13 ((k : Int) + 1) w (hw.hold 0 rfl)) rfl ?_
    try simp -implicitDefEqProofs (disch := first | omega | decide) only [seval, -Int.reducePow, -Nat.reducePow, cC, pv, binv, sFlNext1, undef, g1]
    refine hK _ _ ?_
    clear hK K
    refine cv_ret ⟨_, (by simp -implicitDefEqProofs (disch := first | omega | decide) only [seval, -Int.reducePow, -Nat.reducePow, cC, pv, binv, sFlNext1, undef, g1]; rfl), fun w hw => ?_⟩
    exact rowP_blk hw (by simp) (by omega) (by omega) (by unfold nxP; rw [if_neg q1, if_pos q2, if_neg c1, if_neg c2] <;> rfl)
  have q2 := of_decide_eq_false ‹_›
  refine cv_seq_k fun K hK => ?_
  refine cv_cut (fun _ _ => True) (fun F' L' => F' 1 = G1 1 ∧ F' 7 = G1 7 ∧ F' 26 = .bool (decide (i.op = 22 ∨ i.op = 24 ∨ i.op = 25)) ∧ L' = [iBox b2 i]) ?_ ?_
  · refine cv_seq_k fun K hK => ?_
    refine cv_region_then rfl ?_
    simp -implicitDefEqProofs (disch := first | omega | decide) only [seval, -Int.reducePow, -Nat.reducePow, cC, pv, binv, sFlNext1, undef, g1]
    refine hK _ _ ?_
    clear hK K
    refine cv_cond ?_
    simp -implicitDefEqProofs (disch := first | omega | decide) only [seval, -Int.reducePow, -Nat.reducePow, cC, pv, binv, sFlNext1, undef, g1]
    refine ⟨fun hc => ?_, fun hc => ?_⟩
    · have q3 := of_decide_eq_true ‹_›
      refine cv_skip ?_
      try simp only [blockQ, thenQ]
      simp -implicitDefEqProofs (disch := first | omega | decide) only [seval, -Int.reducePow, -Nat.reducePow, cC, pv, binv, sFlNext1, undef, g1]
      all_goals (repeat' refine And.intro ?_ ?_)
      all_goals (first | with_reducible rfl | (refine congrArg Value.bool ?_; rw [Bool.eq_iff_iff]; (try simp only [decide_eq_true_eq, eq_self, true_and, and_true, false_and, and_false, true_or, or_true, false_or, or_false, not_true_eq_false, not_false_eq_true, true_iff, iff_true, false_iff, iff_false, Bool.false_eq_true, Bool.not_eq_true', Bool.not_eq_true, decide_eq_false_iff_not, Bool.and_eq_true, Bool.or_eq_true]) <;> omega) | (refine congrArg (Value.int _) ?_; omega) | omega)
    have q3 := of_decide_eq_false ‹_›
    refine cv_seq_k fun K hK => ?_
    refine cv_region_then rfl ?_
    simp -implicitDefEqProofs (disch := first | omega | decide) only [seval, -Int.reducePow, -Nat.reducePow, cC, pv, binv, sFlNext1, undef, g1]
    refine hK _ _ ?_
    clear hK K
    refine cv_cond ?_
    simp -implicitDefEqProofs (disch := first | omega | decide) only [seval, -Int.reducePow, -Nat.reducePow, cC, pv, binv, sFlNext1, undef, g1]
    refine ⟨fun hc => ?_, fun hc => ?_⟩
    · have q4 := of_decide_eq_true ‹_›
      refine cv_skip ?_
      try simp only [blockQ, thenQ]
      simp -implicitDefEqProofs (disch := first | omega | decide) only [seval, -Int.reducePow, -Nat.reducePow, cC, pv, binv, sFlNext1, undef, g1]
      all_goals (repeat' refine And.intro ?_ ?_)
      all_goals (first | with_reducible rfl | (refine congrArg Value.bool ?_; rw [Bool.eq_iff_iff]; (try simp only [decide_eq_true_eq, eq_self, true_and, and_true, false_and, and_false, true_or, or_true, false_or, or_false, not_true_eq_false, not_false_eq_true, true_iff, iff_true, false_iff, iff_false, Bool.false_eq_true, Bool.not_eq_true', Bool.not_eq_true, decide_eq_false_iff_not, Bool.and_eq_true, Bool.or_eq_true]) <;> omega) | (refine congrArg (Value.int _) ?_; omega) | omega)
    have q4 := of_decide_eq_false ‹_›
    refine cv_region_q rfl ?_
    simp -implicitDefEqProofs (disch := first | omega | decide) only [seval, -Int.reducePow, -Nat.reducePow, cC, pv, binv, sFlNext1, undef, g1]
    all_goals (repeat' refine And.intro ?_ ?_)
    all_goals (first | with_reducible rfl | (refine congrArg Value.bool ?_; rw [Bool.eq_iff_iff]; (try simp only [decide_eq_true_eq, eq_self, true_and, and_true, false_and, and_false, true_or, or_true, false_or, or_false, not_true_eq_false, not_false_eq_true, true_iff, iff_true, false_iff, iff_false, Bool.false_eq_true, Bool.not_eq_true', Bool.not_eq_true, decide_eq_false_iff_not, Bool.and_eq_true, Bool.or_eq_true]) <;> omega) | (refine congrArg (Value.int _) ?_; omega) | omega)
  intro G2 L' _ hF
  obtain ⟨q1, q7, q26, rfl⟩ := hF
  have g2_1 := q1.trans g1_1
  have g2_7 := q7.trans g1_7
  have g2_26 := q26
  clear q1 q7 q26
  have g2 := And.intro g2_1 (And.intro g2_7 g2_26)
  refine hK _ _ ?_
  clear hK K
  refine cv_cond ?_
  simp -implicitDefEqProofs (disch := first | omega | decide) only [seval, -Int.reducePow, -Nat.reducePow, cC, pv, binv, sFlNext1, undef, g2]
  refine ⟨fun hc => ?_, fun hc => ?_⟩
  · have q3 := of_decide_eq_true ‹_›
    refine cv_seq_k fun K hK => ?_
    refine cv_region_then rfl ?_
    simp -implicitDefEqProofs (disch := first | omega | decide) only [seval, -Int.reducePow, -Nat.reducePow, cC, pv, binv, sFlNext1, undef, g2]
    refine hK _ _ ?_
    clear hK K
    refine cv_ret ⟨_, (by simp -implicitDefEqProofs (disch := first | omega | decide) only [seval, -Int.reducePow, -Nat.reducePow, cC, pv, binv, sFlNext1, undef, g2]; rfl), fun w hw => ?_⟩
    exact ⟨none, 0, 0, rfl, by unfold nxP; rw [if_neg q1, if_neg q2, if_pos q3]; exact ⟨rfl, .inl ⟨rfl, rfl⟩⟩, hw.below⟩
  have q3 := of_decide_eq_false ‹_›
  refine cv_skip ?_
  try simp only [blockQ, thenQ]
  refine hK _ _ ?_
  clear hK K
  refine cv_seq_k fun K hK => ?_
  refine cv_region_then rfl ?_
  simp -implicitDefEqProofs (disch := first | omega | decide) only [seval, -Int.reducePow, -Nat.reducePow, cC, pv, binv, sFlNext1, undef, g2]
  intro b13 hb13 h13
  refine hK _ _ ?_
  clear hK K
  refine cv_ret ⟨_, (by simp -implicitDefEqProofs (disch := first | omega | decide) only [seval, -Int.reducePow, -Nat.reducePow, cC, pv, binv, sFlNext1, undef, g2]; rfl), fun w hw => ?_⟩
  exact rowP_blk hw (by simp) (by omega) (by omega) (by unfold nxP; rw [if_neg q1, if_neg q2, if_neg q3] <;> rfl)
theorem frnext_any (i : Ins) (k : Nat) (W : World) (hk : k ≤ 1024) (ha : i.op = 19 ∨ i.op = 20 → i.arg ≤ 1024) : Calls Tryz.prog 80 #[insV i, .int .i64 (k : Int)] W (rowP 3 1 (fun v => v) (i64c (nxP i k)) W) := by
  obtain ⟨to, hto⟩ : ∃ to, IntKind.i64.wrap (i.arg : Int) = to := ⟨_, rfl⟩
  have hta : i.op = 19 ∨ i.op = 20 → to = (i.arg : Int) := fun h => by have := ha h; rw [← hto, wrap_in (by omega) (by omega)]
  refine calls_cv (M := []) (n := 50) [.tmp 4] rfl Tryz.func80 rfl rfl (Nat.le_of_ble_eq_true rfl) (St.nil _ _) ?_
  refine cv_seq_k fun K hK => ?_
  refine cv_region_then rfl ?_
  simp -implicitDefEqProofs (disch := first | omega | decide) only [seval, -Int.reducePow, -Nat.reducePow, cC, pv, binv, sFlNext1, undef]
  intro b2 hb2
  refine hK _ _ ?_
  clear hK K
  refine cv_seq_k fun K hK => ?_
  refine cv_region_then rfl ?_
  simp -implicitDefEqProofs (disch := first | omega | decide) only [seval, -Int.reducePow, -Nat.reducePow, cC, pv, binv, sFlNext1, undef, hto]
  refine hK _ _ ?_
  clear hK K
  refine cv_gen fun G3 hG => ?_
  have g3_1 := congrFun hG 1
  have g3_2 := congrFun hG 2
  have g3_5 := congrFun hG 5
  clear hG
  try simp -implicitDefEqProofs (disch := first | omega | decide) only [seval, -Int.reducePow, -Nat.reducePow, cC, pv, binv, sFlNext1, undef, hto] at g3_1 g3_2 g3_5
  have g3 := And.intro g3_1 (And.intro g3_2 g3_5)
  refine cv_seq_k fun K hK => ?_
  refine cv_block ?_
  refine cv_seq_k fun K hK => ?_
  refine cv_region_then rfl ?_
  simp -implicitDefEqProofs (disch := first | omega | decide) only [seval, -Int.reducePow, -Nat.reducePow, cC, pv, binv, sFlNext1, undef, g3]
  refine hK _ _ ?_
  clear hK K
  refine cv_cond ?_
  simp -implicitDefEqProofs (disch := first | omega | decide) only [seval, -Int.reducePow, -Nat.reducePow, cC, pv, binv, sFlNext1, undef, g3]
  refine ⟨fun hc => ?_, fun hc => ?_⟩
  · have q1 := of_decide_eq_true ‹_›
    have ha' := ha (.inl q1)
    have ht := hta (.inl q1)
    subst ht
    refine cv_seq_k fun K hK => ?_
    refine cv_region_then rfl ?_
    simp -implicitDefEqProofs (disch := first | omega | decide) only [seval, -Int.reducePow, -Nat.reducePow, cC, pv, binv, sFlNext1, undef, g3]
    intro b13 hb13 h13
    refine hK _ _ ?_
    clear hK K
    refine cv_ret ⟨_, (by simp -implicitDefEqProofs (disch := first | omega | decide) only [seval, -Int.reducePow, -Nat.reducePow, cC, pv, binv, sFlNext1, undef, g3]; rfl), fun w hw => ?_⟩
    exact rowP_blk hw (by simp) (by omega) (by omega) (by unfold nxP; rw [if_pos q1] <;> rfl)
  have q1 := of_decide_eq_false ‹_›
  refine cv_seq_k fun K hK => ?_
  refine cv_cut (fun _ _ => True) (fun F' L' => F' 1 = G3 1 ∧ F' 2 = G3 2 ∧ F' 5 = G3 5 ∧ F' 15 = .bool (decide (i.op = 20 ∧ to < (k : Int) + 1)) ∧ L' = [iBox b2 i]) ?_ ?_
  · refine cv_region_then rfl ?_
    simp -implicitDefEqProofs (disch := first | omega | decide) only [seval, -Int.reducePow, -Nat.reducePow, cC, pv, binv, sFlNext1, undef, g3]
    repeat' ((first | refine vcg_cases (fun hg => ?_) (fun hg => ?_) | refine vdg_cases (fun hg => ?_) (fun hg => ?_)) <;> ((try simp only [Bool.not_eq_true', Bool.not_eq_false', decide_eq_true_eq, decide_eq_false_iff_not] at hg); (try simp -implicitDefEqProofs (disch := first | omega | decide) only [seval, -Int.reducePow, -Nat.reducePow, cC, pv, binv, sFlNext1, undef, hg, g3])))
    all_goals (repeat' refine And.intro ?_ ?_)
    all_goals (first | with_reducible rfl | (refine congrArg Value.bool ?_; rw [Bool.eq_iff_iff]; (try simp only [decide_eq_true_eq, eq_self, true_and, and_true, false_and, and_false, true_or, or_true, false_or, or_false, not_true_eq_false, not_false_eq_true, true_iff, iff_true, false_iff, iff_false, Bool.false_eq_true, Bool.not_eq_true', Bool.not_eq_true, decide_eq_false_iff_not, Bool.and_eq_true, Bool.or_eq_true]) <;> omega) | (refine congrArg (Value.int _) ?_; omega) | omega)
  intro G4 L' _ hF
  obtain ⟨q1, q2, q5, q15, rfl⟩ := hF
  have g4_1 := q1.trans g3_1
  have g4_2 := q2.trans g3_2
  have g4_5 := q5.trans g3_5
  have g4_15 := q15
  clear q1 q2 q5 q15
  have g4 := And.intro g4_1 (And.intro g4_2 (And.intro g4_5 g4_15))
  refine hK _ _ ?_
  clear hK K
  refine cv_cond ?_
  simp -implicitDefEqProofs (disch := first | omega | decide) only [seval, -Int.reducePow, -Nat.reducePow, cC, pv, binv, sFlNext1, undef, g4]
  refine ⟨fun hc => ?_, fun hc => ?_⟩
  · obtain ⟨q2, q3⟩ := of_decide_eq_true ‹_›
    have ha' := ha (.inr q2)
    have ht := hta (.inr q2)
    subst ht
    refine cv_seq_k fun K hK => ?_
    refine cv_region_then rfl ?_
    simp -implicitDefEqProofs (disch := first | omega | decide) only [seval, -Int.reducePow, -Nat.reducePow, cC, pv, binv, sFlNext1, undef, g4]
    intro b13 hb13 h13
    refine hK _ _ ?_
    clear hK K
    refine cv_ret ⟨_, (by simp -implicitDefEqProofs (disch := first | omega | decide) only [seval, -Int.reducePow, -Nat.reducePow, cC, pv, binv, sFlNext1, undef, g4]; rfl), fun w hw => ?_⟩
    exact rowP_blk hw (by simp) (by omega) (by omega) (by unfold nxP; rw [if_neg q1, if_pos q2, if_pos (by omega)] <;> rfl)
  have n2 := of_decide_eq_false ‹_›
  refine cv_seq_k fun K hK => ?_
  refine cv_cut (fun _ _ => True) (fun F' L' => F' 1 = G4 1 ∧ F' 2 = G4 2 ∧ F' 5 = G4 5 ∧ F' 29 = .bool (decide (i.op = 20 ∧ (k : Int) + 1 < to)) ∧ L' = [iBox b2 i]) ?_ ?_
  · refine cv_region_then rfl ?_
    simp -implicitDefEqProofs (disch := first | omega | decide) only [seval, -Int.reducePow, -Nat.reducePow, cC, pv, binv, sFlNext1, undef, g4]
    repeat' ((first | refine vcg_cases (fun hg => ?_) (fun hg => ?_) | refine vdg_cases (fun hg => ?_) (fun hg => ?_)) <;> ((try simp only [Bool.not_eq_true', Bool.not_eq_false', decide_eq_true_eq, decide_eq_false_iff_not] at hg); (try simp -implicitDefEqProofs (disch := first | omega | decide) only [seval, -Int.reducePow, -Nat.reducePow, cC, pv, binv, sFlNext1, undef, hg, g4])))
    all_goals (repeat' refine And.intro ?_ ?_)
    all_goals (first | with_reducible rfl | (refine congrArg Value.bool ?_; rw [Bool.eq_iff_iff]; (try simp only [decide_eq_true_eq, eq_self, true_and, and_true, false_and, and_false, true_or, or_true, false_or, or_false, not_true_eq_false, not_false_eq_true, true_iff, iff_true, false_iff, iff_false, Bool.false_eq_true, Bool.not_eq_true', Bool.not_eq_true, decide_eq_false_iff_not, Bool.and_eq_true, Bool.or_eq_true]) <;> omega) | (refine congrArg (Value.int _) ?_; omega) | omega)
  intro G5 L' _ hF
  obtain ⟨q1, q2, q5, q29, rfl⟩ := hF
  have g5_1 := q1.trans g4_1
  have g5_2 := q2.trans g4_2
  have g5_5 := q5.trans g4_5
  have g5_29 := q29
  clear q1 q2 q5 q29
  have g5 := And.intro g5_1 (And.intro g5_2 (And.intro g5_5 g5_29))
  refine hK _ _ ?_
  clear hK K
  refine cv_cond ?_
  simp -implicitDefEqProofs (disch := first | omega | decide) only [seval, -Int.reducePow, -Nat.reducePow, cC, pv, binv, sFlNext1, undef, g5]
  refine ⟨fun hc => ?_, fun hc => ?_⟩
  · obtain ⟨q2, q3⟩ := of_decide_eq_true ‹_›
    have ha' := ha (.inr q2)
    have ht := hta (.inr q2)
    subst ht
    refine cv_seq_k fun K hK => ?_
    refine cv_region_then rfl ?_
    simp -implicitDefEqProofs (disch := first | omega | decide) only [seval, -Int.reducePow, -Nat.reducePow, cC, pv, binv, sFlNext1, undef, g5]
    intro b13 hb13 h13
    refine hK _ _ ?_
    clear hK K
    refine cv_ret ⟨_, (by simp -implicitDefEqProofs (disch := first | omega | decide) only [seval, -Int.reducePow, -Nat.reducePow, cC, pv, binv, sFlNext1, undef, g5]; rfl), fun w hw => ?_⟩
    exact rowP_blk hw (by simp) (by omega) (by omega) (by unfold nxP; rw [if_neg q1, if_pos q2, if_neg (by omega), if_pos (by omega)] <;> rfl)
  have n3 := of_decide_eq_false ‹_›
  refine cv_seq_k fun K hK => ?_
  refine cv_region_then rfl ?_
  simp -implicitDefEqProofs (disch := first | omega | decide) only [seval, -Int.reducePow, -Nat.reducePow, cC, pv, binv, sFlNext1, undef, g5]
  refine callV_ret (fun w hw => r_ends_any i.op w) ?_
  try simp -implicitDefEqProofs (disch := first | omega | decide) only [seval, -Int.reducePow, -Nat.reducePow, cC, pv, binv, sFlNext1, undef, g5]
  refine hK _ _ ?_
  clear hK K
  refine cv_cond ?_
  simp -implicitDefEqProofs (disch := first | omega | decide) only [seval, -Int.reducePow, -Nat.reducePow, cC, pv, binv, sFlNext1, undef, g5]
  refine ⟨fun hc => ?_, fun hc => ?_⟩
  · have q4 : endsP i.op := of_decide_eq_true ‹_›
    refine cv_seq_k fun K hK => ?_
    refine cv_region_then rfl ?_
    simp -implicitDefEqProofs (disch := first | omega | decide) only [seval, -Int.reducePow, -Nat.reducePow, cC, pv, binv, sFlNext1, undef, g5]
    refine hK _ _ ?_
    clear hK K
    refine cv_ret ⟨_, (by simp -implicitDefEqProofs (disch := first | omega | decide) only [seval, -Int.reducePow, -Nat.reducePow, cC, pv, binv, sFlNext1, undef, g5]; rfl), fun w hw => ?_⟩
    exact ⟨none, 0, 0, rfl, by unfold endsP at q4; unfold nxP; rw [if_neg q1, if_neg (by omega), if_pos (by omega)]; exact ⟨rfl, .inl ⟨rfl, rfl⟩⟩, hw.below⟩
  have q4 : ¬ endsP i.op := of_decide_eq_false ‹_›
  refine cv_skip ?_
  try simp only [blockQ, thenQ]
  refine hK _ _ ?_
  clear hK K
  refine cv_seq_k fun K hK => ?_
  refine cv_region_then rfl ?_
  simp -implicitDefEqProofs (disch := first | omega | decide) only [seval, -Int.reducePow, -Nat.reducePow, cC, pv, binv, sFlNext1, undef, g5]
  intro b13 hb13 h13
  refine hK _ _ ?_
  clear hK K
  refine cv_ret ⟨_, (by simp -implicitDefEqProofs (disch := first | omega | decide) only [seval, -Int.reducePow, -Nat.reducePow, cC, pv, binv, sFlNext1, undef, g5]; rfl), fun w hw => ?_⟩
  refine rowP_blk hw (by simp) (by omega) (by omega) ?_
  unfold endsP at q4
  by_cases q2 : i.op = 20
  · have ht := hta (.inr q2)
    unfold nxP
    rw [if_neg q1, if_pos q2, if_neg (by omega), if_neg (by omega)] <;> rfl
  · unfold nxP
    rw [if_neg q1, if_neg q2, if_neg (by omega)] <;> rfl
end Go.Proofs.YtlbmnioibiomfaaGreat
/- slices.Repeat of one number. -/
namespace Go.Proofs.YtlbmnioibiomfaaGreat
open Go.RowKit Go.Shelf
set_option linter.unusedVariables false
set_option linter.unusedSimpArgs false
set_option maxRecDepth 100000
theorem m32 (n : Nat) (h : n ≤ 4294967295) : bits BinOp.and IntKind.u64 (n : Int) 4294967295 = (n : Int) := by
  have := bits_and_u64_nat n 4294967295 (by omega) (by omega)
  rw [show (4294967295 : Int) = ((4294967295 : Nat) : Int) from rfl, this, show (4294967295 : Nat) = 2 ^ 32 - 1 from rfl, Nat.and_two_pow_sub_one_eq_mod, Nat.mod_eq_of_lt (by omega)]
theorem m32_0 : bits BinOp.and IntKind.u64 0 4294967295 = 0 := m32 0 (by omega)
theorem m32_1 : bits BinOp.and IntKind.u64 1 4294967295 = 1 := m32 1 (by omega)
theorem d32_0 : (0 : Int) / 2 ^ 32 = 0 := by decide
theorem d32_1 : (1 : Int) / 2 ^ 32 = 0 := by decide
set_option maxRecDepth 100000 in
theorem sFlRep1 : type_of% (And.intro (And.intro (And.intro @Nat.mul_one (And.intro @wrap_in @m32_0)) (And.intro @m32_1 (And.intro @d32_0 @d32_1))) (And.intro (And.intro @Int.zero_mul (And.intro @Int.mul_zero @Int.one_mul)) (And.intro (And.intro @Int.mul_one @Int.zero_add) (And.intro @Int.add_zero @wrapu)))) := (And.intro (And.intro (And.intro @Nat.mul_one (And.intro @wrap_in @m32_0)) (And.intro @m32_1 (And.intro @d32_0 @d32_1))) (And.intro (And.intro @Int.zero_mul (And.intro @Int.mul_zero @Int.one_mul)) (And.intro (And.intro @Int.mul_one @Int.zero_add) (And.intro @Int.add_zero @wrapu))))
theorem mul64_any (n : Nat) (W : World) (h : n ≤ 1024) : Calls Tryz.prog 86 #[.int .u64 1, .int .u64 (n : Int)] W fun e w' => e = .returned (.tuple #[.int .u64 0, .int .u64 (n : Int)]) ∧ Below W.heap.size W w' := by
  have h1 := m32 n (by omega)
  have h2 : (n : Int) / 2 ^ 32 = 0 := by omega
  refine calls_cv (M := []) (n := 51) [.tmp 4, .tmp 5] rfl Tryz.func86 rfl rfl (Nat.le_of_ble_eq_true rfl) (St.nil _ _) ?_
  refine cv_seq_k fun K hK => ?_
  refine cv_region_then rfl ?_
  simp -implicitDefEqProofs (disch := first | omega | decide) only [seval, -Int.reducePow, -Nat.reducePow, cC, pv, binv, sFlRep1, undef, h1, h2]
  refine hK _ _ ?_
  clear hK K
  refine cv_seq_k fun K hK => ?_
  refine cv_region_then rfl ?_
  simp -implicitDefEqProofs (disch := first | omega | decide) only [seval, -Int.reducePow, -Nat.reducePow, cC, pv, binv, sFlRep1, undef, h1, h2]
  refine hK _ _ ?_
  clear hK K
  refine cv_seq_k fun K hK => ?_
  refine cv_region_then rfl ?_
  simp -implicitDefEqProofs (disch := first | omega | decide) only [seval, -Int.reducePow, -Nat.reducePow, cC, pv, binv, sFlRep1, undef, h1, h2]
  refine hK _ _ ?_
  clear hK K
  refine cv_seq_k fun K hK => ?_
  refine cv_region_then rfl ?_
  simp -implicitDefEqProofs (disch := first | omega | decide) only [seval, -Int.reducePow, -Nat.reducePow, cC, pv, binv, sFlRep1, undef, h1, h2]
  refine hK _ _ ?_
  clear hK K
  refine cv_seq_k fun K hK => ?_
  refine cv_region_then rfl ?_
  simp -implicitDefEqProofs (disch := first | omega | decide) only [seval, -Int.reducePow, -Nat.reducePow, cC, pv, binv, sFlRep1, undef, h1, h2]
  refine hK _ _ ?_
  clear hK K
  refine cv_gen fun G1 hG => ?_
  have g1_0 := congrFun hG 0
  have g1_1 := congrFun hG 1
  have g1_6 := congrFun hG 6
  have g1_7 := congrFun hG 7
  have g1_8 := congrFun hG 8
  have g1_9 := congrFun hG 9
  clear hG
  try simp -implicitDefEqProofs (disch := first | omega | decide) only [seval, -Int.reducePow, -Nat.reducePow, cC, pv, binv, sFlRep1, undef] at g1_0 g1_1 g1_6 g1_7 g1_8 g1_9
  have g1 := And.intro g1_0 (And.intro g1_1 (And.intro g1_6 (And.intro g1_7 (And.intro g1_8 g1_9))))
  refine cv_seq_k fun K hK => ?_
  refine cv_region_then rfl ?_
  simp -implicitDefEqProofs (disch := first | omega | decide) only [seval, -Int.reducePow, -Nat.reducePow, cC, pv, binv, sFlRep1, undef, h1, h2, g1]
  refine hK _ _ ?_
  clear hK K
  refine cv_seq_k fun K hK => ?_
  refine cv_region_then rfl ?_
  simp -implicitDefEqProofs (disch := first | omega | decide) only [seval, -Int.reducePow, -Nat.reducePow, cC, pv, binv, sFlRep1, undef, h1, h2, g1]
  refine hK _ _ ?_
  clear hK K
  refine cv_seq_k fun K hK => ?_
  refine cv_region_then rfl ?_
  simp -implicitDefEqProofs (disch := first | omega | decide) only [seval, -Int.reducePow, -Nat.reducePow, cC, pv, binv, sFlRep1, undef, h1, h2, g1]
  refine hK _ _ ?_
  clear hK K
  refine cv_seq_k fun K hK => ?_
  refine cv_region_then rfl ?_
  simp -implicitDefEqProofs (disch := first | omega | decide) only [seval, -Int.reducePow, -Nat.reducePow, cC, pv, binv, sFlRep1, undef, h1, h2, g1]
  refine hK _ _ ?_
  clear hK K
  refine cv_gen fun G2 hG => ?_
  have g2_0 := congrFun hG 0
  have g2_1 := congrFun hG 1
  have g2_6 := congrFun hG 6
  have g2_7 := congrFun hG 7
  have g2_9 := congrFun hG 9
  have g2_12 := congrFun hG 12
  have g2_13 := congrFun hG 13
  clear hG
  try simp -implicitDefEqProofs (disch := first | omega | decide) only [seval, -Int.reducePow, -Nat.reducePow, cC, pv, binv, sFlRep1, undef, g1] at g2_0 g2_1 g2_6 g2_7 g2_9 g2_12 g2_13
  have g2 := And.intro g2_0 (And.intro g2_1 (And.intro g2_6 (And.intro g2_7 (And.intro g2_9 (And.intro g2_12 g2_13)))))
  refine cv_seq_k fun K hK => ?_
  refine cv_region_then rfl ?_
  simp -implicitDefEqProofs (disch := first | omega | decide) only [seval, -Int.reducePow, -Nat.reducePow, cC, pv, binv, sFlRep1, undef, h1, h2, g2]
  refine hK _ _ ?_
  clear hK K
  refine cv_seq_k fun K hK => ?_
  refine cv_region_then rfl ?_
  simp -implicitDefEqProofs (disch := first | omega | decide) only [seval, -Int.reducePow, -Nat.reducePow, cC, pv, binv, sFlRep1, undef, h1, h2, g2]
  refine hK _ _ ?_
  clear hK K
  refine cv_gen fun G3 hG => ?_
  have g3_0 := congrFun hG 0
  have g3_1 := congrFun hG 1
  have g3_4 := congrFun hG 4
  clear hG
  try simp -implicitDefEqProofs (disch := first | omega | decide) only [seval, -Int.reducePow, -Nat.reducePow, cC, pv, binv, sFlRep1, undef, g2] at g3_0 g3_1 g3_4
  have g3 := And.intro g3_0 (And.intro g3_1 g3_4)
  refine cv_seq_k fun K hK => ?_
  refine cv_region_then rfl ?_
  simp -implicitDefEqProofs (disch := first | omega | decide) only [seval, -Int.reducePow, -Nat.reducePow, cC, pv, binv, sFlRep1, undef, h1, h2, g3]
  refine hK _ _ ?_
  clear hK K
  refine cv_ret ⟨_, (by simp -implicitDefEqProofs (disch := first | omega | decide) only [seval, -Int.reducePow, -Nat.reducePow, cC, pv, binv, sFlRep1, undef, g3]; rfl), fun w hw => ?_⟩
  exact ⟨rfl, hw.below⟩
theorem mul_any (n : Nat) (W : World) (h : n ≤ 1024) : Calls Tryz.prog 62 #[.int .u64 1, .int .u64 (n : Int)] W fun e w' => e = .returned (.tuple #[.int .u64 0, .int .u64 (n : Int)]) ∧ Below W.heap.size W w' := by
  refine calls_cv (M := []) (n := 30) [.tmp 4, .tmp 5] rfl Tryz.func62 rfl rfl (Nat.le_of_ble_eq_true rfl) (St.nil _ _) ?_
  refine cv_seq_k fun K hK => ?_
  refine cv_region_then rfl ?_
  simp -implicitDefEqProofs (disch := first | omega | decide) only [seval, -Int.reducePow, -Nat.reducePow, cC, pv, binv, sFlRep1, undef]
  refine hK _ _ ?_
  clear hK K
  refine cv_seq_k fun K hK => ?_
  refine cv_cond ?_
  simp -implicitDefEqProofs (disch := first | omega | decide) only [seval, -Int.reducePow, -Nat.reducePow, cC, pv, binv, sFlRep1, undef]
  refine cv_skip ?_
  try simp only [blockQ, thenQ]
  refine hK _ _ ?_
  clear hK K
  refine cv_seq_k fun K hK => ?_
  refine cv_region_then rfl ?_
  simp -implicitDefEqProofs (disch := first | omega | decide) only [seval, -Int.reducePow, -Nat.reducePow, cC, pv, binv, sFlRep1, undef]
  refine callV_ret (fun w hw => mul64_any n w h) ?_
  try simp -implicitDefEqProofs (disch := first | omega | decide) only [seval, -Int.reducePow, -Nat.reducePow, cC, pv, binv, sFlRep1, undef]
  refine hK _ _ ?_
  clear hK K
  refine cv_seq_k fun K hK => ?_
  refine cv_region_then rfl ?_
  simp -implicitDefEqProofs (disch := first | omega | decide) only [seval, -Int.reducePow, -Nat.reducePow, cC, pv, binv, sFlRep1, undef]
  refine hK _ _ ?_
  clear hK K
  refine cv_ret ⟨_, (by simp -implicitDefEqProofs (disch := first | omega | decide) only [seval, -Int.reducePow, -Nat.reducePow, cC, pv, binv, sFlRep1, undef]; rfl), fun w hw => ?_⟩
  exact ⟨rfl, hw.below⟩
theorem rep_dbl (n k p : Nat) (u v : Value) (h : k + p ≤ n) : List.take k (List.replicate k u ++ List.replicate (n - k) v) ++ List.replicate p u ++ List.drop (k + p) (List.replicate k u ++ List.replicate (n - k) v) = List.replicate (k + p) u ++ List.replicate (n - (k + p)) v := by
  rw [List.take_left' (by simp), List.replicate_append_replicate, List.drop_append, List.drop_of_length_le (by simp), List.drop_replicate, List.length_replicate, List.nil_append]
  congr 2
  omega
set_option maxHeartbeats 1000000 in
theorem repeat_any (a n : Nat) (W : World) (ha : Sl W W.heap.size 1 (some ⟨a, 0, none⟩) 1 1 [.int .i64 (-1)]) (h1 : 1 ≤ n) (h : n ≤ 1024) :
    Calls Tryz.prog 40 #[.slice (some ⟨a, 0, none⟩) 1 1, .int .i64 (n : Int)] W fun e w' => ∃ b, e = .returned (.slice (some ⟨b, 0, none⟩) n n) ∧ W.heap.size ≤ b ∧ w'.heap[b]? = some (.cells (List.replicate n (.int .i64 (-1))).toArray 3 (0, 0)) ∧ Below W.heap.size W w' := by
  have h0 : decide ((n : Int) < 0) = false := decide_eq_false (by omega)
  have h9 : decide (9223372036854775807 < (n : Int)) = false := decide_eq_false (by omega)
  refine calls_cv (M := []) (n := 48) [.tmp 4] rfl Tryz.func40 rfl rfl (Nat.le_of_ble_eq_true rfl) (St.nil _ _) ?_
  refine cv_seq_k fun K hK => ?_
  refine cv_region_then rfl ?_
  simp -implicitDefEqProofs (disch := first | omega | decide) only [seval, -Int.reducePow, -Nat.reducePow, cC, pv, binv, sFlRep1, undef]
  refine hK _ _ ?_
  clear hK K
  refine cv_seq_k fun K hK => ?_
  refine cv_seq_k fun K hK => ?_
  refine cv_region_then rfl ?_
  simp -implicitDefEqProofs (disch := first | omega | decide) only [seval, -Int.reducePow, -Nat.reducePow, cC, pv, binv, sFlRep1, undef]
  refine hK _ _ ?_
  clear hK K
  refine cv_cond ?_
  simp -implicitDefEqProofs (disch := first | omega | decide) only [seval, -Int.reducePow, -Nat.reducePow, cC, pv, binv, sFlRep1, undef, h0]
  refine cv_skip ?_
  try simp only [blockQ, thenQ]
  refine hK _ _ ?_
  clear hK K
  refine cv_seq_k fun K hK => ?_
  refine cv_region_then rfl ?_
  simp -implicitDefEqProofs (disch := first | omega | decide) only [seval, -Int.reducePow, -Nat.reducePow, cC, pv, binv, sFlRep1, undef]
  refine callV_ret (fun w hw => mul_any n w h) ?_
  try simp -implicitDefEqProofs (disch := first | omega | decide) only [seval, -Int.reducePow, -Nat.reducePow, cC, pv, binv, sFlRep1, undef]
  refine hK _ _ ?_
  clear hK K
  refine cv_seq_k fun K hK => ?_
  refine cv_seq_k fun K hK => ?_
  refine cv_region_then rfl ?_
  simp -implicitDefEqProofs (disch := first | omega | decide) only [seval, -Int.reducePow, -Nat.reducePow, cC, pv, binv, sFlRep1, undef]
  refine hK _ _ ?_
  clear hK K
  refine cv_cond ?_
  simp -implicitDefEqProofs (disch := first | omega | decide) only [seval, -Int.reducePow, -Nat.reducePow, cC, pv, binv, sFlRep1, undef, h9]
  refine cv_skip ?_
  try simp only [blockQ, thenQ]
  refine hK _ _ ?_
  clear hK K
  refine cv_seq_k fun K hK => ?_
  refine cv_region_then rfl ?_
  simp -implicitDefEqProofs (disch := first | omega | decide) only [seval, -Int.reducePow, -Nat.reducePow, cC, pv, binv, sFlRep1, undef]
  refine xv_make (u := .int .i64 0) tap52 rfl rfl rfl (by omega) (by omega) ?_
  intro b hb hfb
  simp -implicitDefEqProofs (disch := first | omega | decide) only [seval, -Int.reducePow, -Nat.reducePow, cC, pv, binv, sFlRep1, undef]
  refine hK _ _ ?_
  clear hK K
  refine cv_seq_k fun K hK => ?_
  refine cv_region_then rfl ?_
  simp -implicitDefEqProofs (disch := first | omega | decide) only [seval, -Int.reducePow, -Nat.reducePow, cC, pv, binv, sFlRep1, undef]
  refine xv_copy 0 (news := [.int .i64 (-1)]) tap52 rfl rfl rfl (by show 1 = min 1 n; omega) (fun w hw j v hv => ?_) (by simp; omega) rfl ?_
  · obtain ⟨b', o', e, hb', hc⟩ := (ha.at hw).cells (by omega)
    cases e
    rw [Addr.add_lit]
    exact hc j v hv
  simp -implicitDefEqProofs (disch := first | omega | decide) only [seval, -Int.reducePow, -Nat.reducePow, cC, pv, binv, sFlRep1, undef]
  refine hK _ _ ?_
  clear hK K
  refine cv_gen fun G4 hG => ?_
  have g4_7 := congrFun hG 7
  have g4_8 := congrFun hG 8
  clear hG
  try simp -implicitDefEqProofs (disch := first | omega | decide) only [seval, -Int.reducePow, -Nat.reducePow, cC, pv, binv, sFlRep1, undef] at g4_7 g4_8
  have g4 := And.intro g4_7 g4_8
  refine cv_seq_k fun K hK => ?_
  refine cv_block ?_
  refine cv_loop (fun F' L' => ∃ (k : Nat), F' 7 = G4 7 ∧ F' 8 = .int .i64 (k : Int) ∧ L' = [.blk b 3 (List.replicate k (.int .i64 (-1)) ++ List.replicate (n - k) (.int .i64 0))] ∧ 1 ≤ k ∧ k ≤ n) (fun F' L' => 1100 - (intOf (F' 8)).toNat) ?_ ?_
  · refine ⟨1, ?_⟩
    simp -implicitDefEqProofs (disch := first | omega | decide) only [seval, -Int.reducePow, -Nat.reducePow, cC, pv, binv, sFlRep1, undef, g4]
    refine ⟨?_, by omega⟩
    simp
  intro G5 L' hI
  obtain ⟨k, q7, q8, rfl, ⟨hk1, hk⟩⟩ := hI
  have g5_7 := q7.trans g4_7
  have g5_8 := q8
  clear q7 q8
  have g5 := And.intro g5_7 g5_8
  refine cv_seq_k fun K hK => ?_
  refine cv_seq_k fun K hK => ?_
  refine cv_region_then rfl ?_
  simp -implicitDefEqProofs (disch := first | omega | decide) only [seval, -Int.reducePow, -Nat.reducePow, cC, pv, binv, sFlRep1, undef, g4, g5]
  refine hK _ _ ?_
  clear hK K
  refine cv_cond ?_
  simp -implicitDefEqProofs (disch := first | omega | decide) only [seval, -Int.reducePow, -Nat.reducePow, cC, pv, binv, sFlRep1, undef, g4, g5]
  refine ⟨fun hc => ?_, fun hc => ?_⟩
  · refine cv_skip ?_
    try simp only [blockQ, thenQ]
    have hkn : k < n := by have := of_decide_eq_true ‹decide ((k : Int) < (n : Int)) = true›; omega
    refine hK _ _ ?_
    clear hK K
    refine cv_block ?_
    have hsb : sbase n k 1 (some ⟨b, 0, none⟩) = some ⟨b, k, none⟩ := by rw [sbase_some (by omega), Addr.add_lit, Nat.mul_one, Nat.zero_add]
    refine cv_q ?_
    refine cv_draw_of (pickL [] _) (fun w hw => hw.pick (by decide)) (by simp only [pickL, nth, suf_cons, suf_nil, List.mem_cons, true_or, or_true, and_true, eq_self]) [(true, 0), (true, 1), (true, 2), (true, 3), (true, 4), (true, 5), (true, 6), (false, 7), (true, 8), (true, 9)] [] mixA rfl (by kernel_rfl) (by kernel_rfl) rfl rfl ?_
    simp -implicitDefEqProofs (disch := first | omega | decide) only [seval, -Int.reducePow, -Nat.reducePow, cC, pv, binv, sFlRep1, undef, hsb, g4, g5]
    refine xv_copy 0 (news := List.replicate (min (n - k) k) (.int .i64 (-1))) tap52 rfl rfl rfl (by rw [List.length_replicate]; exact Nat.min_comm _ _) (fun w hw j v hv => ?_) (by simp; omega) (by simp [ones, Value.oneCell']) ?_
    · have hj : j < min (n - k) k := by
        have := (List.getElem?_eq_some_iff.1 hv).1
        rwa [List.length_replicate] at this
      rw [Addr.add_lit, Nat.zero_add, hw.blk_cell (.head _), List.getElem?_append_left (by rw [List.length_replicate]; omega), List.getElem?_replicate, if_pos (by omega), ← hv, List.getElem?_replicate, if_pos hj]
    simp -implicitDefEqProofs (disch := first | omega | decide) only [seval, -Int.reducePow, -Nat.reducePow, cC, pv, binv, sFlRep1, undef, hsb, g4, g5]
    obtain ⟨p, hp⟩ : ∃ p, min (n - k) k = p := ⟨_, rfl⟩
    rw [hp, List.length_replicate, rep_dbl n k p _ _ (by omega), ← Int.natCast_add, wrap_in (by omega) (by omega)]
    refine ⟨⟨k + p, rfl, rfl, by omega, by omega⟩, ?_⟩
    simp only [intOf]
    omega
  refine cv_exit ?_
  simp only [blockQ, thenQ, if_true, ite_true]
  clear hK K
  refine hK _ _ ?_
  clear hK K
  have hkn : k = n := by have := of_decide_eq_false ‹decide ((k : Int) < (n : Int)) = false›; omega
  refine cv_seq_k fun K hK => ?_
  refine cv_region_then rfl ?_
  simp -implicitDefEqProofs (disch := first | omega | decide) only [seval, -Int.reducePow, -Nat.reducePow, cC, pv, binv, sFlRep1, undef, g4, g5]
  refine hK _ _ ?_
  clear hK K
  refine cv_ret ⟨_, (by simp -implicitDefEqProofs (disch := first | omega | decide) only [seval, -Int.reducePow, -Nat.reducePow, cC, pv, binv, sFlRep1, undef, g4, g5]; rfl), fun w hw => ?_⟩
  subst hkn
  refine ⟨b, rfl, hb, ?_, hw.below⟩
  have := hw.hold 0 rfl
  simpa using this
end Go.Proofs.YtlbmnioibiomfaaGreat
/- Stack heights: what a run that ends well has shown. Plain. -/
namespace Go.Proofs.YtlbmnioibiomfaaGreat
set_option linter.unusedVariables false
set_option linter.unusedSimpArgs false
theorem updF_spec : ∀ {l : List Nat} {v : Int} {h h' : List Int}, updF l v h = some h' → v ≠ -1 → (∀ j ∈ l, j < h.length) →
    h'.length = h.length ∧ (∀ j, hAt h j ≠ -1 → hAt h' j = hAt h j) ∧ (∀ j ∈ l, hAt h' j = v) ∧ ∀ j, hAt h' j = hAt h j ∨ (j ∈ l ∧ hAt h' j = v)
  | [], v, h, h', e, _, _ => by
    simp only [updF, Option.some.injEq] at e
    subst e
    exact ⟨rfl, fun _ _ => rfl, by simp, fun _ => .inl rfl⟩
  | k :: l, v, h, h', e, hv, hl => by
    simp only [updF] at e
    split at e
    · cases e
    · rename_i hc
      have hk : k < h.length := hl k (by simp)
      obtain ⟨e1, e2, e3, e4⟩ := updF_spec e hv (fun j hj => by simpa using hl j (by simp [hj]))
      have hs : ∀ j, hAt (h.set k v) j = if k = j then v else hAt h j := fun j => hAt_set hk
      have hkk : hAt h' k = v := by rw [e2 k (by rw [hs, if_pos rfl]; exact hv), hs, if_pos rfl]
      refine ⟨by simpa using e1, fun j hj => ?_, fun j hj => ?_, fun j => ?_⟩
      · by_cases hkj : k = j
        · subst hkj
          rw [hkk]
          by_cases hq : hAt h k = v
          · exact hq.symm
          · exact absurd ⟨hj, hq⟩ hc
        · rw [e2 j (by rw [hs, if_neg hkj]; exact hj), hs, if_neg hkj]
      · rcases List.mem_cons.1 hj with rfl | hj
        · exact hkk
        · exact e3 j hj
      · by_cases hkj : k = j
        · subst hkj
          exact .inr ⟨by simp, hkk⟩
        · rcases e4 j with h1 | ⟨h1, h2⟩
          · rw [h1, hs, if_neg hkj]
            exact .inl rfl
          · exact .inr ⟨by simp [h1], h2⟩
/-- An instruction's step holds. -/
structure GoodF (gs : List FnR) (x : FnR) (h : List Int) (k : Nat) : Prop where
  known : hAt h k ≠ -1
  ret : (insAt x k).op = 22 → hAt h k = x.r
  pops : (fxP gs (insAt x k)).1 ≤ hAt h k
  most : hAt h k + (fxP gs (insAt x k)).2 - (fxP gs (insAt x k)).1 ≤ 64
  next : ∀ j ∈ nxP (insAt x k) k, hAt h j = hAt h k + (fxP gs (insAt x k)).2 - (fxP gs (insAt x k)).1
structure RunOk (gs : List FnR) (x : FnR) (h : List Int) (d : List Bool) : Prop where
  hlen : h.length = x.code.length
  dlen : d.length = x.code.length
  rng : ∀ k, hAt h k = -1 ∨ (0 ≤ hAt h k ∧ hAt h k ≤ 64)
  done : ∀ k, d[k]? = some true → GoodF gs x h k
theorem stepF_some {gs : List FnR} {x : FnR} {h h' : List Int} {k : Nat} {i : Ins} (e : stepF gs x h k i = some h') :
    (i.op = 22 → hAt h k = x.r) ∧ (fxP gs i).1 ≤ hAt h k ∧ hAt h k + (fxP gs i).2 - (fxP gs i).1 ≤ 64 ∧ updF (nxP i k) (hAt h k + (fxP gs i).2 - (fxP gs i).1) h = some h' := by
  unfold stepF at e
  split at e
  · cases e
  · rename_i hc
    refine ⟨fun ho => ?_, ?_, ?_, e⟩
    · exact Decidable.byContradiction fun hq => hc (.inl ⟨ho, hq⟩)
    · exact Int.not_lt.1 fun hq => hc (.inr (.inl hq))
    · exact Int.not_lt.1 fun hq => hc (.inr (.inr hq))
theorem run_step {gs : List FnR} {x : FnR} {h h' : List Int} {d : List Bool} {k : Nat} (hr : RunOk gs x h d) (hfx : ∀ k, k < x.code.length → 0 ≤ (fxP gs (insAt x k)).2) (hnx : ∀ k, k < x.code.length → ∀ j ∈ nxP (insAt x k) k, j < x.code.length)
    (hk : leastB h d = some k) (e : stepF gs x h k (insAt x k) = some h') :
    RunOk gs x h' (d.set k true) ∧ (∀ j, hAt h j ≠ -1 → hAt h' j = hAt h j) ∧ (∀ j, hAt h' j = hAt h j ∨ j ∈ nxP (insAt x k) k) ∧ hAt h k ≠ -1 ∧ undone d = undone (d.set k true) + 1 ∧ k < x.code.length := by
  obtain ⟨hlt, hop, -⟩ := leastB_inv hk
  unfold openB at hop
  simp only [Bool.and_eq_true, decide_eq_true_eq, Bool.not_eq_true'] at hop
  obtain ⟨hkn, hkd⟩ := hop
  have hkl : k < x.code.length := by have := hr.hlen; omega
  have hkd' : d[k]? = some false := by
    have hkd2 : k < d.length := by have := hr.dlen; omega
    rw [List.getElem?_eq_getElem hkd2] at hkd ⊢
    simpa using hkd
  obtain ⟨s1, s2, s3, s4⟩ := stepF_some e
  have h0 : 0 ≤ hAt h k := by rcases hr.rng k with q | q; exact absurd q hkn; exact q.1
  have hp := hfx k hkl
  have hv : hAt h k + (fxP gs (insAt x k)).2 - (fxP gs (insAt x k)).1 ≠ -1 := by omega
  obtain ⟨u1, u2, u3, u4⟩ := updF_spec s4 hv (fun j hj => by have := hnx k hkl j hj; have := hr.hlen; omega)
  refine ⟨⟨by rw [u1]; exact hr.hlen, by simpa using hr.dlen, fun j => ?_, fun j hj => ?_⟩, u2, fun j => (u4 j).imp id And.left, hkn, undone_set hkd', hkl⟩
  · rcases u4 j with q | ⟨-, q⟩
    · rw [q]; exact hr.rng j
    · rw [q]; right; omega
  · by_cases hjk : k = j
    · subst hjk
      have := u2 k hkn
      exact ⟨by rw [this]; exact hkn, by rw [this]; exact s1, by rw [this]; exact s2, by rw [this]; exact s3, by rw [this]; exact u3⟩
    · rw [List.getElem?_set_ne hjk] at hj
      have hg := hr.done j hj
      have := u2 j hg.known
      exact ⟨by rw [this]; exact hg.known, by rw [this]; exact hg.ret, by rw [this]; exact hg.pops, by rw [this]; exact hg.most, fun i hi => by
        rw [this, ← hg.next i hi]
        refine u2 i ?_
        rw [hg.next i hi]
        have hjl : j < x.code.length := by have := (List.getElem?_eq_some_iff.1 hj).1; have := hr.dlen; omega
        have := hfx j hjl
        have := hg.pops
        omega⟩
theorem h0F_at {n j : Nat} (hn : 0 < n) : hAt (h0F n) j = if j = 0 then 0 else -1 := by
  unfold h0F
  rw [hAt_set (by simpa using hn)]
  by_cases hj : j = 0
  · subst hj; rfl
  · rw [if_neg (fun e => hj e.symm), if_neg hj]
    unfold hAt
    rw [List.getElem?_replicate]
    split <;> rfl
theorem run_zero {gs : List FnR} {x : FnR} (hn : 0 < x.code.length) : RunOk gs x (h0F x.code.length) (List.replicate x.code.length false) :=
  ⟨by simp [h0F], by simp, fun k => by
    rw [h0F_at hn]
    split
    · right; omega
    · left; rfl, fun k hk => by
    rw [List.getElem?_replicate] at hk
    split at hk <;> cases hk⟩
theorem undone_new (n : Nat) : undone (List.replicate n false) = n := by
  unfold undone
  rw [List.filter_eq_self.2 (fun a ha => by rw [List.eq_of_mem_replicate ha]; rfl), List.length_replicate]
theorem nx_in {gl : Nat} {x : FnR} (h : ∀ (j : Nat) (i : Ins), x.code[j]? = some i → stE gl x j i = 0) : ∀ k, k < x.code.length → ∀ j ∈ nxP (insAt x k) k, j < x.code.length := by
  intro k hk j hj
  have hi : x.code[k]? = some (insAt x k) := by unfold insAt; rw [List.getElem?_eq_getElem hk]; rfl
  have hs := h k _ hi
  unfold stE at hs
  generalize insAt x k = i at *
  split at hs
  · cases hs
  rename_i c1
  split at hs
  · cases hs
  split at hs
  · cases hs
  split at hs
  · cases hs
  split at hs
  · cases hs
  rename_i c5
  unfold nxP at hj
  unfold endsP at c5
  split at hj
  · simp only [List.mem_singleton] at hj; omega
  split at hj
  · split at hj
    · simp only [List.mem_cons, List.not_mem_nil, or_false] at hj; omega
    split at hj
    · simp only [List.mem_cons, List.not_mem_nil, or_false] at hj; omega
    · simp only [List.mem_singleton] at hj; omega
  split at hj
  · cases hj
  · simp only [List.mem_singleton] at hj; omega
end Go.Proofs.YtlbmnioibiomfaaGreat
