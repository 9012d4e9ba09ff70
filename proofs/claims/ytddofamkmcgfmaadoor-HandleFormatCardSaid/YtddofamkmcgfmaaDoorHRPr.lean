/- The definition's number in a text, and its word. -/
import Derived.Test.YtddofamkmcgfmaaDoorHSpl
namespace Go.Proofs.YtddofamkmcgfmaaDoor
open Go.RowKit Go.Shelf Go.Sort
set_option linter.unusedVariables false
set_option linter.unusedSimpArgs false
set_option maxRecDepth 100000
theorem seq0 {l : List Nat} (hb : ∀ x ∈ l, x < 256) : ((bstr l).toList == (bstr []).toList) = decide (l = []) := bstr_beq hb (by simp)
theorem u8w {x : Int} (h0 : 0 ≤ x) (h1 : x < 256) : IntKind.u8.wrap x = x := by rw [IntKind.wrap_u8]; omega
theorem drop_cons {l : List Nat} {i x : Nat} (h : l[i]? = some x) : l.drop i = x :: l.drop (i + 1) := by
  have hi : i < l.length := (List.getElem?_eq_some_iff.1 h).1
  rw [List.drop_eq_getElem_cons hi]
  rw [List.getElem?_eq_getElem hi] at h
  injection h with h
  rw [h]
structure NuI (l : List Nat) (most i v : Nat) : Prop where
  le : i ≤ l.length
  vm : v ≤ most
  run : numG most 0 l = numG most v (l.drop i)
set_option maxRecDepth 100000 in
theorem sHRPr1 : type_of% (And.intro (And.intro (And.intro @slash_eq @bstr_app) (And.intro @u64w @i32w)) (And.intro (And.intro @u8w @empty_eq) (And.intro @bstr_size @wrap_in))) := (And.intro (And.intro (And.intro @slash_eq @bstr_app) (And.intro @u64w @i32w)) (And.intro (And.intro @u8w @empty_eq) (And.intro @bstr_size @wrap_in)))
set_option maxHeartbeats 2000000 in
theorem rnum_any (l : List Nat) (hl : l.length ≤ 1000) (hb : ∀ x ∈ l, x < 256) (most : Nat) (hm : most ≤ 4294967295) (W : World) :
    Calls Tryd.prog 30 #[.string (bstr l), .int .u64 (most : Int)] W fun e w' => e = .returned (.tuple #[.int .u64 ((numF l most).1 : Int), .bool (numF l most).2]) ∧ Below W.heap.size W w' := by
  have h00 := seq0 hb
  refine calls_cv (M := []) (n := 48) [.tmp 4, .tmp 5] rfl Tryd.func30 rfl rfl (Nat.le_of_ble_eq_true rfl) (St.nil _ _) ?_
  refine cv_seq_k fun K hK => ?_
  refine cv_region_then rfl ?_
  simp -implicitDefEqProofs (disch := first | omega | decide) only [seval, -Int.reducePow, -Nat.reducePow, cC, pv, binv, sHRPr1, undef, Int.toNat_natCast]
  refine hK _ _ ?_
  clear hK K
  refine cv_gen fun G1 hG => ?_
  have g1_0 := congrFun hG 0
  have g1_1 := congrFun hG 1
  clear hG
  try simp -implicitDefEqProofs (disch := first | omega | decide) only [seval, -Int.reducePow, -Nat.reducePow, cC, pv, binv, sHRPr1, undef, Int.toNat_natCast] at g1_0 g1_1
  have g1 := And.intro g1_0 g1_1
  refine cv_seq_k fun K hK => ?_
  refine cv_seq_k fun K hK => ?_
  refine cv_cut (fun _ _ => True) (fun F' L' => F' 0 = G1 0 ∧ F' 1 = G1 1 ∧ F' 19 = .bool (decide (l = [] ∨ (1 < l.length ∧ l[0]? = some 48))) ∧ L' = []) ?_ ?_
  · refine cv_region_then rfl ?_
    by_cases h0 : l = []
    · have d0 : decide (l = []) = true := decide_eq_true h0
      simp -implicitDefEqProofs (disch := first | omega | decide) only [seval, -Int.reducePow, -Nat.reducePow, cC, pv, binv, sHRPr1, undef, Int.toNat_natCast, h00, d0, g1]
      rw [decide_eq_true (show l = [] ∨ (1 < l.length ∧ l[0]? = some 48) from .inl h0)]
    · have d0 : decide (l = []) = false := decide_eq_false h0
      by_cases h1 : 1 < l.length
      · have d1 : decide ((1 : Int) < (l.length : Int)) = true := decide_eq_true (by omega)
        obtain ⟨x, hx⟩ : ∃ x, l[0]? = some x := ⟨_, List.getElem?_eq_getElem (by omega)⟩
        have hgx := bstr_get hb hx
        by_cases h48 : x = 48
        · have d2 : decide ((((bstr l).data.toList.getD 0 0).toNat : Int) = 48) = true := decide_eq_true (by rw [hgx, h48]; rfl)
          simp -implicitDefEqProofs (disch := first | omega | decide) only [seval, -Int.reducePow, -Nat.reducePow, cC, pv, binv, sHRPr1, undef, Int.toNat_natCast, h00, d0, d1, d2, g1]
          rw [decide_eq_true (show l = [] ∨ (1 < l.length ∧ l[0]? = some 48) from .inr ⟨h1, h48 ▸ hx⟩)]
        · have d2 : decide ((((bstr l).data.toList.getD 0 0).toNat : Int) = 48) = false := decide_eq_false (by rw [hgx]; omega)
          simp -implicitDefEqProofs (disch := first | omega | decide) only [seval, -Int.reducePow, -Nat.reducePow, cC, pv, binv, sHRPr1, undef, Int.toNat_natCast, h00, d0, d1, d2, g1]
          rw [decide_eq_false (show ¬ (l = [] ∨ (1 < l.length ∧ l[0]? = some 48)) from fun h => h.elim h0 fun h => h48 (by rw [hx] at h; exact Option.some.inj h.2))]
      · have d1 : decide ((1 : Int) < (l.length : Int)) = false := decide_eq_false (by omega)
        simp -implicitDefEqProofs (disch := first | omega | decide) only [seval, -Int.reducePow, -Nat.reducePow, cC, pv, binv, sHRPr1, undef, Int.toNat_natCast, h00, d0, d1, g1]
        rw [decide_eq_false (show ¬ (l = [] ∨ (1 < l.length ∧ l[0]? = some 48)) from fun h => h.elim h0 fun h => h1 h.1)]
  intro G2 L' _ hF
  obtain ⟨q0, q1, q19, rfl⟩ := hF
  have g2_0 := q0.trans g1_0
  have g2_1 := q1.trans g1_1
  have g2_19 := q19
  clear q0 q1 q19
  have g2 := And.intro g2_0 (And.intro g2_1 g2_19)
  refine hK _ _ ?_
  clear hK K
  refine cv_cond ?_
  simp -implicitDefEqProofs (disch := first | omega | decide) only [seval, -Int.reducePow, -Nat.reducePow, cC, pv, binv, sHRPr1, undef, Int.toNat_natCast, g2]
  refine ⟨fun hc => ?_, fun hc => ?_⟩
  · have h := of_decide_eq_true hc
    refine cv_seq_k fun K hK => ?_
    refine cv_region_then rfl ?_
    simp -implicitDefEqProofs (disch := first | omega | decide) only [seval, -Int.reducePow, -Nat.reducePow, cC, pv, binv, sHRPr1, undef, Int.toNat_natCast, g2]
    refine hK _ _ ?_
    clear hK K
    refine cv_ret ⟨_, (by simp -implicitDefEqProofs (disch := first | omega | decide) only [seval, -Int.reducePow, -Nat.reducePow, cC, pv, binv, sHRPr1, undef, Int.toNat_natCast, g2]; rfl), fun w hw => ?_⟩
    exact ⟨by unfold numF; rw [if_pos h]; rfl, hw.below⟩
  have h := of_decide_eq_false hc
  have hnF : numF l most = numG most 0 l := by unfold numF; rw [if_neg h]
  refine cv_skip ?_
  try simp only [blockQ, thenQ]
  refine hK _ _ ?_
  clear hK K
  refine cv_seq_k fun K hK => ?_
  refine cv_region_then rfl ?_
  simp -implicitDefEqProofs (disch := first | omega | decide) only [seval, -Int.reducePow, -Nat.reducePow, cC, pv, binv, sHRPr1, undef, Int.toNat_natCast, g2]
  refine hK _ _ ?_
  clear hK K
  refine cv_seq_k fun K hK => ?_
  refine cv_seq_k fun K hK => ?_
  refine cv_region_then rfl ?_
  simp -implicitDefEqProofs (disch := first | omega | decide) only [seval, -Int.reducePow, -Nat.reducePow, cC, pv, binv, sHRPr1, undef, Int.toNat_natCast, g2]
  refine hK _ _ ?_
  clear hK K
  refine cv_gen fun G3 hG => ?_
  have g3_0 := congrFun hG 0
  have g3_1 := congrFun hG 1
  have g3_6 := congrFun hG 6
  have g3_7 := congrFun hG 7
  clear hG
  try simp -implicitDefEqProofs (disch := first | omega | decide) only [seval, -Int.reducePow, -Nat.reducePow, cC, pv, binv, sHRPr1, undef, Int.toNat_natCast, g2] at g3_0 g3_1 g3_6 g3_7
  have g3 := And.intro g3_0 (And.intro g3_1 (And.intro g3_6 g3_7))
  refine cv_block ?_
  refine cv_loop (fun F' L' => ∃ (i v : Nat), F' 0 = G3 0 ∧ F' 1 = G3 1 ∧ F' 6 = .int .u64 (v : Int) ∧ F' 7 = .int .i64 (i : Int) ∧ L' = [] ∧ NuI l most i v) (fun F' L' => 2000 - (intOf (F' 7)).toNat) ?_ ?_
  · refine ⟨0, 0, ?_⟩
    simp -implicitDefEqProofs (disch := first | omega | decide) only [seval, -Int.reducePow, -Nat.reducePow, cC, pv, binv, sHRPr1, undef, Int.toNat_natCast, g3]
    exact ⟨by omega, by omega, rfl⟩
  intro G4 L' hI
  obtain ⟨i, v, q0, q1, q6, q7, rfl, hI⟩ := hI
  have g4_0 := q0.trans g3_0
  have g4_1 := q1.trans g3_1
  have g4_6 := q6
  have g4_7 := q7
  clear q0 q1 q6 q7
  have g4 := And.intro g4_0 (And.intro g4_1 (And.intro g4_6 g4_7))
  have hle := hI.le
  have hvm := hI.vm
  have hrn := hI.run
  refine cv_seq_k fun K hK => ?_
  refine cv_seq_k fun K hK => ?_
  refine cv_region_then rfl ?_
  simp -implicitDefEqProofs (disch := first | omega | decide) only [seval, -Int.reducePow, -Nat.reducePow, cC, pv, binv, sHRPr1, undef, Int.toNat_natCast, g3, g4]
  refine hK _ _ ?_
  clear hK K
  refine cv_cond ?_
  simp -implicitDefEqProofs (disch := first | omega | decide) only [seval, -Int.reducePow, -Nat.reducePow, cC, pv, binv, sHRPr1, undef, Int.toNat_natCast, g3, g4]
  refine ⟨fun hc => ?_, fun hc => ?_⟩
  · have hi : i < l.length := by have := of_decide_eq_true hc; omega
    obtain ⟨x, hx⟩ : ∃ x, l[i]? = some x := ⟨_, List.getElem?_eq_getElem hi⟩
    have hgx := bstr_get hb hx
    rw [drop_cons hx] at hrn
    refine cv_skip ?_
    try simp only [blockQ, thenQ]
    refine hK _ _ ?_
    clear hK K
    refine cv_seq_k fun K hK => ?_
    refine cv_block ?_
    refine cv_seq_k fun K hK => ?_
    refine cv_seq_k fun K hK => ?_
    refine cv_region_then rfl ?_
    by_cases hdg : x < 48 ∨ 57 < x
    · have e0 : numG most 0 l = (0, false) := by rw [hrn, numG, if_pos hdg]
      by_cases h48 : x < 48
      · have d1 : decide ((((bstr l).data.toList.getD i 0).toNat : Int) < 48) = true := decide_eq_true (by rw [hgx]; omega)
        simp -implicitDefEqProofs (disch := first | omega | decide) only [seval, -Int.reducePow, -Nat.reducePow, cC, pv, binv, sHRPr1, undef, Int.toNat_natCast, d1, g3, g4]
        refine hK _ _ ?_
        clear hK K
        refine cv_cond ?_
        simp -implicitDefEqProofs (disch := first | omega | decide) only [seval, -Int.reducePow, -Nat.reducePow, cC, pv, binv, sHRPr1, undef, Int.toNat_natCast, g3, g4]
        refine cv_seq_k fun K hK => ?_
        refine cv_region_then rfl ?_
        simp -implicitDefEqProofs (disch := first | omega | decide) only [seval, -Int.reducePow, -Nat.reducePow, cC, pv, binv, sHRPr1, undef, Int.toNat_natCast, g3, g4]
        refine hK _ _ ?_
        clear hK K
        refine cv_ret ⟨_, (by simp -implicitDefEqProofs (disch := first | omega | decide) only [seval, -Int.reducePow, -Nat.reducePow, cC, pv, binv, sHRPr1, undef, Int.toNat_natCast, g3, g4]; rfl), fun w hw => ?_⟩
        exact ⟨by rw [hnF, e0]; rfl, hw.below⟩
      · have d1 : decide ((((bstr l).data.toList.getD i 0).toNat : Int) < 48) = false := decide_eq_false (by rw [hgx]; omega)
        have d2 : decide ((57 : Int) < (((bstr l).data.toList.getD i 0).toNat : Int)) = true := decide_eq_true (by rw [hgx]; omega)
        simp -implicitDefEqProofs (disch := first | omega | decide) only [seval, -Int.reducePow, -Nat.reducePow, cC, pv, binv, sHRPr1, undef, Int.toNat_natCast, d1, d2, g3, g4]
        refine hK _ _ ?_
        clear hK K
        refine cv_cond ?_
        simp -implicitDefEqProofs (disch := first | omega | decide) only [seval, -Int.reducePow, -Nat.reducePow, cC, pv, binv, sHRPr1, undef, Int.toNat_natCast, g3, g4]
        refine cv_seq_k fun K hK => ?_
        refine cv_region_then rfl ?_
        simp -implicitDefEqProofs (disch := first | omega | decide) only [seval, -Int.reducePow, -Nat.reducePow, cC, pv, binv, sHRPr1, undef, Int.toNat_natCast, g3, g4]
        refine hK _ _ ?_
        clear hK K
        refine cv_ret ⟨_, (by simp -implicitDefEqProofs (disch := first | omega | decide) only [seval, -Int.reducePow, -Nat.reducePow, cC, pv, binv, sHRPr1, undef, Int.toNat_natCast, g3, g4]; rfl), fun w hw => ?_⟩
        exact ⟨by rw [hnF, e0]; rfl, hw.below⟩
    · have d1 : decide ((((bstr l).data.toList.getD i 0).toNat : Int) < 48) = false := decide_eq_false (by rw [hgx]; omega)
      have d2 : decide ((57 : Int) < (((bstr l).data.toList.getD i 0).toNat : Int)) = false := decide_eq_false (by rw [hgx]; omega)
      have e3 : (x : Int) - 48 = ((x - 48 : Nat) : Int) := by omega
      have e4 : 10 * (v : Int) + ((x - 48 : Nat) : Int) = ((10 * v + (x - 48) : Nat) : Int) := by omega
      simp -implicitDefEqProofs (disch := first | omega | decide) only [seval, -Int.reducePow, -Nat.reducePow, cC, pv, binv, sHRPr1, undef, Int.toNat_natCast, d1, d2, g3, g4]
      refine hK _ _ ?_
      clear hK K
      refine cv_cond ?_
      simp -implicitDefEqProofs (disch := first | omega | decide) only [seval, -Int.reducePow, -Nat.reducePow, cC, pv, binv, sHRPr1, undef, Int.toNat_natCast, g3, g4]
      refine cv_skip ?_
      try simp only [blockQ, thenQ]
      refine hK _ _ ?_
      clear hK K
      refine cv_gen fun G5 hG => ?_
      have g5_0 := congrFun hG 0
      have g5_1 := congrFun hG 1
      have g5_6 := congrFun hG 6
      have g5_7 := congrFun hG 7
      clear hG
      try simp -implicitDefEqProofs (disch := first | omega | decide) only [seval, -Int.reducePow, -Nat.reducePow, cC, pv, binv, sHRPr1, undef, Int.toNat_natCast, g3, g4] at g5_0 g5_1 g5_6 g5_7
      have g5 := And.intro g5_0 (And.intro g5_1 (And.intro g5_6 g5_7))
      refine cv_seq_k fun K hK => ?_
      refine cv_region_then rfl ?_
      simp -implicitDefEqProofs (disch := first | omega | decide) only [seval, -Int.reducePow, -Nat.reducePow, cC, pv, binv, sHRPr1, undef, Int.toNat_natCast, hgx, e3, e4, g3, g4, g5]
      refine hK _ _ ?_
      clear hK K
      refine cv_seq_k fun K hK => ?_
      refine cv_region_then rfl ?_
      simp -implicitDefEqProofs (disch := first | omega | decide) only [seval, -Int.reducePow, -Nat.reducePow, cC, pv, binv, sHRPr1, undef, Int.toNat_natCast, g3, g4, g5]
      refine hK _ _ ?_
      clear hK K
      refine cv_cond ?_
      simp -implicitDefEqProofs (disch := first | omega | decide) only [seval, -Int.reducePow, -Nat.reducePow, cC, pv, binv, sHRPr1, undef, Int.toNat_natCast, g3, g4, g5]
      refine ⟨fun hc => ?_, fun hc => ?_⟩
      · have hgt : most < 10 * v + (x - 48) := by have := of_decide_eq_true hc; omega
        refine cv_seq_k fun K hK => ?_
        refine cv_region_then rfl ?_
        simp -implicitDefEqProofs (disch := first | omega | decide) only [seval, -Int.reducePow, -Nat.reducePow, cC, pv, binv, sHRPr1, undef, Int.toNat_natCast, g3, g4, g5]
        refine hK _ _ ?_
        clear hK K
        refine cv_ret ⟨_, (by simp -implicitDefEqProofs (disch := first | omega | decide) only [seval, -Int.reducePow, -Nat.reducePow, cC, pv, binv, sHRPr1, undef, Int.toNat_natCast, g3, g4, g5]; rfl), fun w hw => ?_⟩
        exact ⟨by rw [hnF, hrn, numG, if_neg hdg, if_pos hgt]; rfl, hw.below⟩
      · have hgt : ¬ most < 10 * v + (x - 48) := by have := of_decide_eq_false hc; omega
        refine cv_skip ?_
        try simp only [blockQ, thenQ]
        refine hK _ _ ?_
        clear hK K
        refine cv_region_then rfl ?_
        simp -implicitDefEqProofs (disch := first | omega | decide) only [seval, -Int.reducePow, -Nat.reducePow, cC, pv, binv, sHRPr1, undef, Int.toNat_natCast, g3, g4, g5]
        refine ⟨⟨i + 1, 10 * v + (x - 48), ?_⟩, ?_⟩
        · simp -implicitDefEqProofs (disch := first | omega | decide) only [seval, -Int.reducePow, -Nat.reducePow, cC, pv, binv, sHRPr1, undef, Int.toNat_natCast, Int.natCast_add, g3, g4, g5]
          exact ⟨by omega, by omega, by rw [hrn, numG, if_neg hdg, if_neg hgt]⟩
        · simp only [intOf]; omega
  refine cv_exit ?_
  simp only [blockQ, thenQ, if_true, ite_true]
  clear hK K
  refine hK _ _ ?_
  clear hK K
  have hi : i = l.length := by have := of_decide_eq_false hc; omega
  have e0 : numG most 0 l = (v, true) := by rw [hrn, hi, List.drop_length]; rfl
  refine cv_seq_k fun K hK => ?_
  refine cv_region_then rfl ?_
  simp -implicitDefEqProofs (disch := first | omega | decide) only [seval, -Int.reducePow, -Nat.reducePow, cC, pv, binv, sHRPr1, undef, Int.toNat_natCast, g3, g4]
  refine hK _ _ ?_
  clear hK K
  refine cv_ret ⟨_, (by simp -implicitDefEqProofs (disch := first | omega | decide) only [seval, -Int.reducePow, -Nat.reducePow, cC, pv, binv, sHRPr1, undef, Int.toNat_natCast, g3, g4]; rfl), fun w hw => ?_⟩
  exact ⟨by rw [hnF, e0], hw.below⟩
end Go.Proofs.YtddofamkmcgfmaaDoor
