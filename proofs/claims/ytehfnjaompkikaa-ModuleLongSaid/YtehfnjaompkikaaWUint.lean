/- wire's numbers: Uint, in both packages. -/
import Derived.Test.YtehfnjaompkikaaWPut
namespace Go.Proofs.Ytehfnjaompkikaa
open Go.RowKit Go.Shelf
set_option linter.unusedVariables false
set_option linter.unusedSimpArgs false
set_option maxRecDepth 100000

theorem byt_drop (l : List Nat) (k : Nat) : (byt l).drop (k * 1) = byt (l.drop k) := by rw [Nat.mul_one]; simp [byt]
theorem byt_take (l : List Nat) (k : Nat) : (byt l).take (k * 1) = byt (l.take k) := by rw [Nat.mul_one]; simp [byt]
theorem Sl.bdrop {w : World} {B n c : Nat} {A : Option Addr} {l : List Nat} (h : Sl w B 1 A n c (byt l)) {k : Nat} (hk : k ≤ n) : Sl w B 1 (sbase c k 1 A) (n - k) (c - k) (byt (l.drop k)) := by
  rw [← byt_drop]; exact h.drop hk
theorem Sl.btake {w : World} {B n c : Nat} {A : Option Addr} {l : List Nat} (h : Sl w B 1 A n c (byt l)) {k : Nat} (hk : k ≤ n) : Sl w B 1 A k c (byt (l.take k)) := by
  rw [← byt_take]; exact h.take hk
theorem u64_in {y : Nat} (h : y < 18446744073709551616) : IntKind.u64.wrap (y : Int) = (y : Int) := by rw [IntKind.wrap_u64]; omega
theorem getD_of {l : List Nat} {i x : Nat} (h : l[i]? = some x) : l.getD i 0 = x := by rw [List.getD_eq_getElem?_getD, h]; rfl
theorem some_at {l : List Nat} {i : Nat} (h : i < l.length) : ∃ x, l[i]? = some x := ⟨_, List.getElem?_eq_getElem h⟩
theorem drop_at {l : List Nat} {i x : Nat} (h : l[i]? = some x) : l.drop i = x :: l.drop (i + 1) := by
  obtain ⟨hi, hx⟩ := List.getElem?_eq_some_iff.1 h
  rw [List.drop_eq_getElem_cons hi, hx]

/-- The values of a number that was read. -/
def uV (r : Nat × Nat × Int) : Value := .tuple #[.int .u64 (r.1 : Int), .int .i64 (r.2.1 : Int), .int .i64 r.2.2]
set_option maxHeartbeats 2000000 in
theorem uint_any (A : Option Addr) (n c : Nat) (l : List Nat) (W : World) (hE : Sl W W.heap.size 1 A n c (byt l)) (hb : ∀ x ∈ l, x < 256) :
    Calls Try.prog 71 #[.slice A n c] W fun e w' => e = .returned (uV (uD 0 l)) ∧ Below W.heap.size W w' := by
  have hln : l.length = n := byt_row hE.len
  have hcap := hE.cap
  have hmax := hE.max
  refine calls_cv (M := []) (n := 47) [.tmp 2, .tmp 3, .tmp 4] rfl Try.func71 rfl rfl (Nat.le_of_ble_eq_true rfl) (St.nil _ _) ?_
  refine cv_seq_k fun K hK => ?_
  refine cv_region_then rfl ?_
  simp -implicitDefEqProofs (disch := first | omega | decide) only [seval, -Int.reducePow, -Nat.reducePow, cA, cB, pv, binv, fresh, thenQ, blockQ, retQ, Value.oneCell', Value.cells, Nat.mul_one, undef]
  refine hK _ _ ?_
  clear hK K
  refine cv_seq_k fun K hK => ?_
  refine cv_region_then rfl ?_
  simp -implicitDefEqProofs (disch := first | omega | decide) only [seval, -Int.reducePow, -Nat.reducePow, cA, cB, pv, binv, fresh, thenQ, blockQ, retQ, Value.oneCell', Value.cells, Nat.mul_one, undef]
  refine hK _ _ ?_
  clear hK K
  have hm : min (n : Int) 10 = ((min n 10 : Nat) : Int) := by omega
  refine cv_seq_k fun K hK => ?_
  refine cv_seq_k fun K hK => ?_
  refine cv_region_then rfl ?_
  simp -implicitDefEqProofs (disch := first | omega | decide) only [seval, -Int.reducePow, -Nat.reducePow, cA, cB, pv, binv, fresh, thenQ, blockQ, retQ, Value.oneCell', Value.cells, Nat.mul_one, undef, hm]
  refine hK _ _ ?_
  clear hK K
  refine cv_gen fun G1 hG => ?_
  have g1_5 := congrFun hG 5
  have g1_12 := congrFun hG 12
  have g1_13 := congrFun hG 13
  have g1_14 := congrFun hG 14
  clear hG
  try simp -implicitDefEqProofs (disch := first | omega | decide) only [seval, -Int.reducePow, -Nat.reducePow, cA, cB, pv, binv, fresh, thenQ, blockQ, retQ, Value.oneCell', Value.cells, Nat.mul_one, undef] at g1_5 g1_12 g1_13 g1_14
  refine cv_block ?_
  refine cv_loop (fun F' L' => ∃ (i v : Nat), F' 5 = .int .u64 (v : Int) ∧ F' 12 = G1 12 ∧ F' 13 = G1 13 ∧ F' 14 = .int .i64 (i : Int) ∧ L' = [] ∧ i ≤ 9 ∧ v < 128 ^ i ∧ fin i v (uD i (l.drop i)) = uD 0 l) (fun F' L' => 10 - (intOf (F' 14)).toNat) ?_ ?_
  · refine ⟨0, 0, ?_⟩
    simp -implicitDefEqProofs (disch := first | omega | decide) only [seval, -Int.reducePow, -Nat.reducePow, cA, cB, pv, binv, fresh, thenQ, blockQ, retQ, Value.oneCell', Value.cells, Nat.mul_one, undef, g1_5, g1_12, g1_13, g1_14]
    exact ⟨by decide, fin_zero hb⟩
  · intro G2 L' hI
    obtain ⟨i, v, q5, q12, q13, q14, rfl, ⟨hi, hv, hU⟩⟩ := hI
    have g2_5 := q5
    have g2_12 := q12.trans g1_12
    have g2_13 := q13.trans g1_13
    have g2_14 := q14
    clear q5 q12 q13 q14
    refine cv_seq_k fun K hK => ?_
    refine cv_region_then rfl ?_
    simp -implicitDefEqProofs (disch := first | omega | decide) only [seval, -Int.reducePow, -Nat.reducePow, cA, cB, pv, binv, fresh, thenQ, blockQ, retQ, Value.oneCell', Value.cells, Nat.mul_one, undef, g1_5, g1_12, g1_13, g1_14, g2_5, g2_12, g2_13, g2_14]
    refine hK _ _ ?_
    clear hK K
    refine cv_seq_k fun K hK => ?_
    refine cv_cond ?_
    simp -implicitDefEqProofs (disch := first | omega | decide) only [seval, -Int.reducePow, -Nat.reducePow, cA, cB, pv, binv, fresh, thenQ, blockQ, retQ, Value.oneCell', Value.cells, Nat.mul_one, undef, g1_5, g1_12, g1_13, g1_14, g2_5, g2_12, g2_13, g2_14]
    refine ⟨fun hc => ?_, fun hc => ?_⟩
    · refine cv_skip ?_
      try simp only [blockQ, thenQ]
      have hlt : i < n := by simp at hc; omega
      obtain ⟨b0, off, rfl, hb0, -⟩ := hE.cells (by omega)
      obtain ⟨x, hx⟩ := some_at (l := l) (i := i) (by omega)
      have hxb := hb x (List.mem_of_getElem? hx)
      rw [drop_at hx] at hU
      refine hK _ _ ?_
      clear hK K
      refine cv_seq_k fun K hK => ?_
      refine cv_block ?_
      refine cv_seq_k fun K hK => ?_
      refine cv_region_then rfl ?_
      simp -implicitDefEqProofs (disch := first | omega | decide) only [seval, -Int.reducePow, -Nat.reducePow, cA, cB, pv, binv, fresh, thenQ, blockQ, retQ, Value.oneCell', Value.cells, Nat.mul_one, undef, g1_5, g1_12, g1_13, g1_14, g2_5, g2_12, g2_13, g2_14]
      refine ⟨_, hE.ld1 (m := 1) (by kernel_rfl) (byt_get hx), fun tok htok => ?_⟩
      subst htok
      simp -implicitDefEqProofs (disch := first | omega | decide) only [seval, -Int.reducePow, -Nat.reducePow, cA, cB, pv, binv, fresh, thenQ, blockQ, retQ, Value.oneCell', Value.cells, Nat.mul_one, undef, g1_5, g1_12, g1_13, g1_14, g2_5, g2_12, g2_13, g2_14]
      refine hK _ _ ?_
      clear hK K
      refine cv_gen fun G3 hG => ?_
      have g3_5 := congrFun hG 5
      have g3_6 := congrFun hG 6
      have g3_7 := congrFun hG 7
      have g3_12 := congrFun hG 12
      have g3_13 := congrFun hG 13
      have g3_14 := congrFun hG 14
      clear hG
      try simp -implicitDefEqProofs (disch := first | omega | decide) only [seval, -Int.reducePow, -Nat.reducePow, cA, cB, pv, binv, fresh, thenQ, blockQ, retQ, Value.oneCell', Value.cells, Nat.mul_one, undef, g1_5, g1_12, g1_13, g1_14, g2_5, g2_12, g2_13, g2_14] at g3_5 g3_6 g3_7 g3_12 g3_13 g3_14
      refine cv_seq_k fun K hK => ?_
      refine cv_seq_k fun K hK => ?_
      refine cv_cut (fun _ _ => True) (fun F' L' => F' 5 = G3 5 ∧ F' 6 = G3 6 ∧ F' 7 = G3 7 ∧ F' 12 = G3 12 ∧ F' 13 = G3 13 ∧ F' 14 = G3 14 ∧ F' 32 = .bool (decide ((i = 9 ∧ 1 < x) ∨ (0 < i ∧ x = 0))) ∧ L' = []) ?_ ?_
      · refine cv_region_then rfl ?_
        simp -implicitDefEqProofs (disch := first | omega | decide) only [seval, -Int.reducePow, -Nat.reducePow, cA, cB, pv, binv, fresh, thenQ, blockQ, retQ, Value.oneCell', Value.cells, Nat.mul_one, undef, g1_5, g1_12, g1_13, g1_14, g2_5, g2_12, g2_13, g2_14, g3_5, g3_6, g3_7, g3_12, g3_13, g3_14]
        repeat' ((first | refine vcg_cases (fun hg => ?_) (fun hg => ?_) | refine vdg_cases (fun hg => ?_) (fun hg => ?_)) <;> ((try simp only [Bool.not_eq_true', Bool.not_eq_false', decide_eq_true_eq, decide_eq_false_iff_not] at hg); (try simp -implicitDefEqProofs (disch := first | omega | decide) only [seval, -Int.reducePow, -Nat.reducePow, cA, cB, pv, binv, fresh, thenQ, blockQ, retQ, Value.oneCell', Value.cells, Nat.mul_one, undef, hg, g1_5, g1_12, g1_13, g1_14, g2_5, g2_12, g2_13, g2_14, g3_5, g3_6, g3_7, g3_12, g3_13, g3_14])))
        all_goals (repeat' refine And.intro ?_ ?_)
        all_goals (first | with_reducible rfl | (refine congrArg Value.bool ?_; rw [Bool.eq_iff_iff]; (try simp only [decide_eq_true_eq, eq_self, true_and, and_true, false_and, and_false, true_or, or_true, false_or, or_false, not_true_eq_false, not_false_eq_true, true_iff, iff_true, false_iff, iff_false, Bool.false_eq_true, Bool.not_eq_true', Bool.not_eq_true, decide_eq_false_iff_not, Bool.and_eq_true, Bool.or_eq_true]) <;> omega) | (refine congrArg (Value.int _) ?_; omega) | omega)
      · intro G4 L' _ hF
        obtain ⟨q5, q6, q7, q12, q13, q14, q32, rfl⟩ := hF
        have g4_5 := q5.trans g3_5
        have g4_6 := q6.trans g3_6
        have g4_7 := q7.trans g3_7
        have g4_12 := q12.trans g3_12
        have g4_13 := q13.trans g3_13
        have g4_14 := q14.trans g3_14
        have g4_32 := q32
        clear q5 q6 q7 q12 q13 q14 q32
        refine hK _ _ ?_
        clear hK K
        refine cv_cond ?_
        simp -implicitDefEqProofs (disch := first | omega | decide) only [seval, -Int.reducePow, -Nat.reducePow, cA, cB, pv, binv, fresh, thenQ, blockQ, retQ, Value.oneCell', Value.cells, Nat.mul_one, undef, g1_5, g1_12, g1_13, g1_14, g2_5, g2_12, g2_13, g2_14, g4_5, g4_6, g4_7, g4_12, g4_13, g4_14, g4_32]
        refine ⟨fun hc => ?_, fun hc => ?_⟩
        · have hc := of_decide_eq_true hc
          refine cv_seq_k fun K hK => ?_
          refine cv_region_then rfl ?_
          simp -implicitDefEqProofs (disch := first | omega | decide) only [seval, -Int.reducePow, -Nat.reducePow, cA, cB, pv, binv, fresh, thenQ, blockQ, retQ, Value.oneCell', Value.cells, Nat.mul_one, undef, g1_5, g1_12, g1_13, g1_14, g2_5, g2_12, g2_13, g2_14, g4_5, g4_6, g4_7, g4_12, g4_13, g4_14, g4_32]
          refine hK _ _ ?_
          clear hK K
          refine cv_ret ⟨_, (by simp -implicitDefEqProofs (disch := first | omega | decide) only [seval, -Int.reducePow, -Nat.reducePow, cA, cB, pv, binv, fresh, thenQ, blockQ, retQ, Value.oneCell', Value.cells, Nat.mul_one, undef, g1_5, g1_12, g1_13, g1_14, g2_5, g2_12, g2_13, g2_14, g4_5, g4_6, g4_7, g4_12, g4_13, g4_14, g4_32]; rfl), fun w hw => ?_⟩
          rw [uD_form _ hc] at hU
          exact ⟨by rw [← hU]; rfl, hw.below⟩
        · have hq := of_decide_eq_false hc
          refine cv_skip ?_
          try simp only [blockQ, thenQ]
          refine hK _ _ ?_
          clear hK K
          have h1 := and127 hxb
          have h2 : IntKind.u64.wrap ((x % 128 : Nat) : Int) = ((x % 128 : Nat) : Int) := u64_in (by omega)
          have h3 : IntKind.i64.wrap (7 * (i : Int)) = ((7 * i : Nat) : Int) := by rw [wrap_in (by omega) (by omega)]; omega
          obtain ⟨h4, h5, h6⟩ := or_high (c := x % 128) hv (by omega) hi (by omega)
          refine cv_seq_k fun K hK => ?_
          refine cv_region_then rfl ?_
          simp -implicitDefEqProofs (disch := first | omega | decide) only [seval, -Int.reducePow, -Nat.reducePow, cA, cB, pv, binv, fresh, thenQ, blockQ, retQ, Value.oneCell', Value.cells, Nat.mul_one, undef, h1, h2, h3, h4, h5, IntKind.bits, g1_5, g1_12, g1_13, g1_14, g2_5, g2_12, g2_13, g2_14, g4_5, g4_6, g4_7, g4_12, g4_13, g4_14, g4_32]
          refine hK _ _ ?_
          clear hK K
          refine cv_seq_k fun K hK => ?_
          refine cv_region_then rfl ?_
          simp -implicitDefEqProofs (disch := first | omega | decide) only [seval, -Int.reducePow, -Nat.reducePow, cA, cB, pv, binv, fresh, thenQ, blockQ, retQ, Value.oneCell', Value.cells, Nat.mul_one, undef, g1_5, g1_12, g1_13, g1_14, g2_5, g2_12, g2_13, g2_14, g4_5, g4_6, g4_7, g4_12, g4_13, g4_14, g4_32]
          refine hK _ _ ?_
          clear hK K
          refine cv_cond ?_
          simp -implicitDefEqProofs (disch := first | omega | decide) only [seval, -Int.reducePow, -Nat.reducePow, cA, cB, pv, binv, fresh, thenQ, blockQ, retQ, Value.oneCell', Value.cells, Nat.mul_one, undef, g1_5, g1_12, g1_13, g1_14, g2_5, g2_12, g2_13, g2_14, g4_5, g4_6, g4_7, g4_12, g4_13, g4_14, g4_32]
          refine ⟨fun hc => ?_, fun hc => ?_⟩
          · have hx1 : x < 128 := by simp at hc; omega
            refine cv_seq_k fun K hK => ?_
            refine cv_region_then rfl ?_
            simp -implicitDefEqProofs (disch := first | omega | decide) only [seval, -Int.reducePow, -Nat.reducePow, cA, cB, pv, binv, fresh, thenQ, blockQ, retQ, Value.oneCell', Value.cells, Nat.mul_one, undef, wrap_in, g1_5, g1_12, g1_13, g1_14, g2_5, g2_12, g2_13, g2_14, g4_5, g4_6, g4_7, g4_12, g4_13, g4_14, g4_32]
            refine hK _ _ ?_
            clear hK K
            refine cv_ret ⟨_, (by simp -implicitDefEqProofs (disch := first | omega | decide) only [seval, -Int.reducePow, -Nat.reducePow, cA, cB, pv, binv, fresh, thenQ, blockQ, retQ, Value.oneCell', Value.cells, Nat.mul_one, undef, g1_5, g1_12, g1_13, g1_14, g2_5, g2_12, g2_13, g2_14, g4_5, g4_6, g4_7, g4_12, g4_13, g4_14, g4_32]; rfl), fun w hw => ?_⟩
            rw [uD_last _ hq hx1] at hU
            refine ⟨?_, hw.below⟩
            rw [← hU, Nat.mod_eq_of_lt hx1, Nat.mul_comm]
            unfold fin uV
            simp
          · have hx1 : ¬ x < 128 := by simp at hc; omega
            refine cv_skip ?_
            try simp only [blockQ, thenQ]
            rw [fin_more _ hq hx1] at hU
            refine hK _ _ ?_
            clear hK K
            refine cv_region_then rfl ?_
            simp -implicitDefEqProofs (disch := first | omega | decide) only [seval, -Int.reducePow, -Nat.reducePow, cA, cB, pv, binv, fresh, thenQ, blockQ, retQ, Value.oneCell', Value.cells, Nat.mul_one, undef, wrap_in, g1_5, g1_12, g1_13, g1_14, g2_5, g2_12, g2_13, g2_14, g4_5, g4_6, g4_7, g4_12, g4_13, g4_14, g4_32]
            refine ⟨⟨i + 1, v + x % 128 * 128 ^ i, ?_⟩, ?_⟩
            · simp -implicitDefEqProofs (disch := first | omega | decide) only [seval, -Int.reducePow, -Nat.reducePow, cA, cB, pv, binv, fresh, thenQ, blockQ, retQ, Value.oneCell', Value.cells, Nat.mul_one, undef, Int.natCast_add, g1_5, g1_12, g1_13, g1_14, g2_5, g2_12, g2_13, g2_14, g4_5, g4_6, g4_7, g4_12, g4_13, g4_14, g4_32]
              refine ⟨by omega, ?_, hU⟩
              rw [Nat.pow_succ]
              have : x % 128 * 128 ^ i ≤ 127 * 128 ^ i := Nat.mul_le_mul_right _ (by omega)
              omega
            · simp only [intOf]; omega
    · refine cv_exit ?_
      simp only [blockQ, thenQ, if_true, ite_true]
      clear hK K
      refine hK _ _ ?_
      clear hK K
      have hge : l.length ≤ i := by simp at hc; omega
      rw [List.drop_of_length_le hge, uD_nil] at hU
      refine cv_seq_k fun K hK => ?_
      refine cv_region_then rfl ?_
      simp -implicitDefEqProofs (disch := first | omega | decide) only [seval, -Int.reducePow, -Nat.reducePow, cA, cB, pv, binv, fresh, thenQ, blockQ, retQ, Value.oneCell', Value.cells, Nat.mul_one, undef, g1_5, g1_12, g1_13, g1_14, g2_5, g2_12, g2_13, g2_14]
      refine hK _ _ ?_
      clear hK K
      refine cv_ret ⟨_, (by simp -implicitDefEqProofs (disch := first | omega | decide) only [seval, -Int.reducePow, -Nat.reducePow, cA, cB, pv, binv, fresh, thenQ, blockQ, retQ, Value.oneCell', Value.cells, Nat.mul_one, undef, g1_5, g1_12, g1_13, g1_14, g2_5, g2_12, g2_13, g2_14]; rfl), fun w hw => ?_⟩
      exact ⟨by rw [← hU]; rfl, hw.below⟩

end Go.Proofs.Ytehfnjaompkikaa
