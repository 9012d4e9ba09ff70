/- The law AllocatorPlays, walked. -/
import Derived.Test.YtejogdielfgeoaaZ5
import Derived.Test.YtejogdielfgeoaaZ4
import Derived.Test.YtejogdielfgeoaaZ6
namespace Go.Proofs.Ytejogdielfgeoaa
open Go.RowKit Go.Shelf
set_option linter.unusedVariables false
set_option linter.unusedSimpArgs false
set_option maxRecDepth 100000
theorem s3_len (s : S3) : (s3V s).length = 3 := rfl
set_option maxRecDepth 100000 in
theorem sAlLPl1 : type_of% (And.intro (And.intro (And.intro @eBox.eq_1 @exV.eq_1) (And.intro @alL.eq_1 @mlL.eq_1)) (And.intro (And.intro @wkL.eq_1 @Nat.mul_one) (And.intro @wrap_in (And.intro @cMp @cM)))) := (And.intro (And.intro (And.intro @eBox.eq_1 @exV.eq_1) (And.intro @alL.eq_1 @mlL.eq_1)) (And.intro (And.intro @wkL.eq_1 @Nat.mul_one) (And.intro @wrap_in (And.intro @cMp @cM))))
set_option maxHeartbeats 4000000 in
theorem alPlays_walk (W : World) (room : Int) (hr : 0 ≤ room ∧ room ≤ 65535) (A : Option Addr) (n c : Nat) (l : List S3) (hE : Sl W W.heap.size 3 A n c (cl s3V l)) (hb : ∀ s ∈ l, s.ok) :
    Calls Try.prog 3 #[.int .u16 room, .slice A n c] W fun e w' => e = .returned (.bool true) ∧ Below W.heap.size W w' := by
  have hlen := cl_row s3_len (by omega) hE.len
  obtain ⟨N, hN⟩ : ∃ N : Nat, room % 2000 = (N : Int) := ⟨(room % 2000).toNat, by omega⟩
  have hN1 : N ≤ 1048576 := by omega
  refine calls_cv (M := []) (n := 57) [.tmp 4] rfl Try.func3 rfl rfl (Nat.le_of_ble_eq_true rfl) (St.nil _ _) ?_
  refine cv_seq_k fun K hK => ?_
  refine cv_region_then rfl ?_
  simp -implicitDefEqProofs (disch := first | omega | decide) only [seval, -Int.reducePow, -Nat.reducePow, cC, pv, binv, sAlLPl1, undef, List.cons_append, List.nil_append]
  refine hK _ _ ?_
  clear hK K
  refine cv_seq_k fun K hK => ?_
  refine cv_region_then rfl ?_
  simp -implicitDefEqProofs (disch := first | omega | decide) only [seval, -Int.reducePow, -Nat.reducePow, cC, pv, binv, sAlLPl1, undef, List.cons_append, List.nil_append, hN]
  refine hK _ _ ?_
  clear hK K
  refine cv_seq_k fun K hK => ?_
  refine cv_region_then rfl ?_
  simp -implicitDefEqProofs (disch := first | omega | decide) only [seval, -Int.reducePow, -Nat.reducePow, cC, pv, binv, sAlLPl1, undef, List.cons_append, List.nil_append]
  refine callV_grp [] [] (by decide) (fun x : AlR => .tuple #[.pointer (some ⟨x.bA, 0, none⟩), .int .i64 0]) (fun x => alL x) (fun x => Ex.Inv (N : Int) [] x.fr x.tk) (fun w hw hs => (aNew_ok N w hN1).mono (by
    rintro e w' ⟨y, rfl, ⟨h1, h2⟩, h3⟩
    refine ⟨y, rfl, ?_, h3⟩
    rw [h1, h2]
    exact Ex.inv_new (by omega) (by omega))) ?_
  intro x1 hI1
  simp only [pickL, nth]
  simp -implicitDefEqProofs (disch := first | omega | decide) only [seval, -Int.reducePow, -Nat.reducePow, cC, pv, binv, sAlLPl1, undef, List.cons_append, List.nil_append]
  refine hK _ _ ?_
  clear hK K
  refine cv_seq_k fun K hK => ?_
  refine cv_region_then rfl ?_
  simp -implicitDefEqProofs (disch := first | omega | decide) only [seval, -Int.reducePow, -Nat.reducePow, cC, pv, binv, sAlLPl1, undef, List.cons_append, List.nil_append]
  intro bM hbM hfM
  refine hK _ _ ?_
  clear hK K
  refine cv_nil 39 2 ?_
  refine cv_seq_k fun K hK => ?_
  refine cv_seq_k fun K hK => ?_
  refine cv_region_then rfl ?_
  simp -implicitDefEqProofs (disch := first | omega | decide) only [seval, -Int.reducePow, -Nat.reducePow, cC, pv, binv, sAlLPl1, undef, List.cons_append, List.nil_append]
  refine callV_ret (fun w hw => alike_any x1 ⟨bM, (N : Int), none, 0, 0, []⟩ w (AlW.of (x := x1) hw 2 3 4 rfl rfl rfl (by have := hI1.frLen; simp at this; omega)) (MlW.of (y := ⟨bM, (N : Int), none, 0, 0, []⟩) (T := 31) (rest := []) hw 1 0 rfl rfl (by simp) (by simp)) hI1) ?_
  try simp -implicitDefEqProofs (disch := first | omega | decide) only [seval, -Int.reducePow, -Nat.reducePow, cC, pv, binv, sAlLPl1, undef, List.cons_append, List.nil_append]
  refine hK _ _ ?_
  clear hK K
  refine cv_cond ?_
  simp -implicitDefEqProofs (disch := first | omega | decide) only [seval, -Int.reducePow, -Nat.reducePow, cC, pv, binv, sAlLPl1, undef, List.cons_append, List.nil_append]
  refine cv_skip ?_
  try simp only [blockQ, thenQ]
  refine hK _ _ ?_
  clear hK K
  refine cv_seq_k fun K hK => ?_
  refine cv_region_then rfl ?_
  simp -implicitDefEqProofs (disch := first | omega | decide) only [seval, -Int.reducePow, -Nat.reducePow, cC, pv, binv, sAlLPl1, undef, List.cons_append, List.nil_append]
  refine hK _ _ ?_
  clear hK K
  refine cv_seq_k fun K hK => ?_
  refine cv_seq_k fun K hK => ?_
  refine cv_region_then rfl ?_
  simp -implicitDefEqProofs (disch := first | omega | decide) only [seval, -Int.reducePow, -Nat.reducePow, cC, pv, binv, sAlLPl1, undef, List.cons_append, List.nil_append]
  refine hK _ _ ?_
  clear hK K
  refine cv_nil 39 2 ?_
  refine cv_gen fun G1 hG => ?_
  have g1_1 := congrFun hG 1
  have g1_6 := congrFun hG 6
  have g1_8 := congrFun hG 8
  have g1_9 := congrFun hG 9
  have g1_10 := congrFun hG 10
  clear hG
  try simp -implicitDefEqProofs (disch := first | omega | decide) only [seval, -Int.reducePow, -Nat.reducePow, cC, pv, binv, sAlLPl1, undef, List.cons_append, List.nil_append] at g1_1 g1_6 g1_8 g1_9 g1_10
  have g1 := And.intro g1_1 (And.intro g1_6 (And.intro g1_8 (And.intro g1_9 g1_10)))
  refine cv_pick [3, 4, 5, 2, 1, 0] (by decide) ?_
  simp only [pickL, nth]
  refine cv_block ?_
  refine cv_loop (fun F' L' => ∃ (i : Nat) (z : Wk), F' 1 = G1 1 ∧ F' 6 = .pointer (some ⟨z.al.bA, 0, none⟩) ∧ F' 8 = .pointer (some ⟨z.ml.bM, 0, none⟩) ∧ F' 9 = .slice z.A z.n z.c ∧ F' 10 = .int .i64 (i : Int) ∧ L' = wkL z ∧ WkI (N : Int) i z ∧ i ≤ 24) (fun F' L' => 40 - (intOf (F' 10)).toNat) ?_ ?_
  · refine ⟨0, ⟨x1, ⟨bM, (N : Int), none, 0, 0, []⟩, none, 0, 0, []⟩, ?_⟩
    simp -implicitDefEqProofs (disch := first | omega | decide) only [seval, -Int.reducePow, -Nat.reducePow, cC, pv, binv, sAlLPl1, undef, List.cons_append, List.nil_append, g1]
    exact ⟨rfl, ⟨hI1, rfl, by simp, by simp⟩⟩
  intro G2 L' hI
  obtain ⟨i, z, q1, q6, q8, q9, q10, rfl, ⟨hI, hi⟩⟩ := hI
  have g2_1 := q1.trans g1_1
  have g2_6 := q6
  have g2_8 := q8
  have g2_9 := q9
  have g2_10 := q10
  clear q1 q6 q8 q9 q10
  have g2 := And.intro g2_1 (And.intro g2_6 (And.intro g2_8 (And.intro g2_9 g2_10)))
  refine cv_seq_k fun K hK => ?_
  by_cases hc1 : i < n ∧ i < 24
  · have a1 : decide ((i : Int) < (n : Int)) = true := decide_eq_true (by omega)
    have a2 : decide ((i : Int) < 24) = true := decide_eq_true (by omega)
    obtain ⟨s, hs⟩ : ∃ s, l[i]? = some s := ⟨_, List.getElem?_eq_getElem (by omega)⟩
    have hok := hb s (List.mem_of_getElem? hs)
    unfold S3.ok at hok
    have hpos : 0 < n := by omega
    obtain ⟨bF, oF, rfl, hbF, -⟩ := hE.cells hpos
    refine cv_apart fun hap => ?_
    simp only [factL_nil, factL_blk, factL_row, neR_nil, neR_blk, neR_row, neB_nil, neB_blk, neB_row, and_true, true_and, List.not_mem_nil, or_false, sAlLPl1, undef, List.cons_append, List.nil_append] at hap
    obtain hap := hap
    refine cv_seq_k fun K hK => ?_
    refine cv_region_then rfl ?_
    simp -implicitDefEqProofs (disch := first | omega | decide) only [seval, -Int.reducePow, -Nat.reducePow, cC, pv, binv, sAlLPl1, undef, List.cons_append, List.nil_append, a1, a2, g1, g2]
    refine hK _ _ ?_
    clear hK K
    refine cv_cond ?_
    simp -implicitDefEqProofs (disch := first | omega | decide) only [seval, -Int.reducePow, -Nat.reducePow, cC, pv, binv, sAlLPl1, undef, List.cons_append, List.nil_append, g1, g2]
    refine cv_skip ?_
    try simp only [blockQ, thenQ]
    refine hK _ _ ?_
    clear hK K
    refine cv_seq_k fun K hK => ?_
    refine cv_block ?_
    refine cv_seq_k fun K hK => ?_
    refine cv_region_then rfl ?_
    simp -implicitDefEqProofs (disch := first | omega | decide) only [seval, -Int.reducePow, -Nat.reducePow, cC, pv, binv, sAlLPl1, undef, List.cons_append, List.nil_append, g1, g2]
    refine ⟨_, hE.ld (vs := s3V s) hpos (show tsz Try.prog 35 = some (true, 3) from by kernel_rfl) (cl_at s3_len hs), fun tok htok => ?_⟩
    subst htok
    simp -implicitDefEqProofs (disch := first | omega | decide) only [seval, -Int.reducePow, -Nat.reducePow, cC, pv, binv, sAlLPl1, undef, List.cons_append, List.nil_append, g1, g2]
    refine callV_grp [0, 1, 2, 3, 4, 5] [] (by decide) (fun z2 : Wk => .tuple #[.slice z2.A z2.n z2.c, .bool true]) (fun z2 => wkL z2) (fun z2 => WkI (N : Int) (i + 1) z2 ∧ z2.al.bA = z.al.bA ∧ z2.ml.bM = z.ml.bM) (fun w hw hq => alStep_any (N : Int) i z (s.a : Int) (s.b : Int) (s.c : Int) w hq hI (by omega) (by omega) (by omega) (by omega)) ?_
    rintro z2 ⟨hI2, e1, e2⟩
    simp only [pickL, nth]
    simp -implicitDefEqProofs (disch := first | omega | decide) only [seval, -Int.reducePow, -Nat.reducePow, cC, pv, binv, sAlLPl1, undef, List.cons_append, List.nil_append, g1, g2]
    refine hK _ _ ?_
    clear hK K
    refine cv_seq_k fun K hK => ?_
    refine cv_seq_k fun K hK => ?_
    refine cv_region_then rfl ?_
    simp -implicitDefEqProofs (disch := first | omega | decide) only [seval, -Int.reducePow, -Nat.reducePow, cC, pv, binv, sAlLPl1, undef, List.cons_append, List.nil_append, g1, g2]
    refine hK _ _ ?_
    clear hK K
    refine cv_cond ?_
    simp -implicitDefEqProofs (disch := first | omega | decide) only [seval, -Int.reducePow, -Nat.reducePow, cC, pv, binv, sAlLPl1, undef, List.cons_append, List.nil_append, g1, g2]
    refine cv_skip ?_
    try simp only [blockQ, thenQ]
    refine hK _ _ ?_
    clear hK K
    refine cv_region_q rfl ?_
    simp -implicitDefEqProofs (disch := first | omega | decide) only [seval, -Int.reducePow, -Nat.reducePow, cC, pv, binv, sAlLPl1, undef, List.cons_append, List.nil_append, g1, g2]
    refine hK _ _ ?_
    clear hK K
    refine cv_region_then rfl ?_
    simp -implicitDefEqProofs (disch := first | omega | decide) only [seval, -Int.reducePow, -Nat.reducePow, cC, pv, binv, sAlLPl1, undef, List.cons_append, List.nil_append, g1, g2]
    refine ⟨⟨i + 1, z2, ?_⟩, ?_⟩
    · simp -implicitDefEqProofs (disch := first | omega | decide) only [seval, -Int.reducePow, -Nat.reducePow, cC, pv, binv, sAlLPl1, undef, List.cons_append, List.nil_append, e1, e2, Int.natCast_add, g1, g2]
      exact ⟨hI2, by omega⟩
    · simp only [intOf]; omega
  · refine cv_seq_k fun K hK => ?_
    refine cv_region_then rfl ?_
    by_cases h1 : i < n
    · have a1 : decide ((i : Int) < (n : Int)) = true := decide_eq_true (by omega)
      have a2 : decide ((i : Int) < 24) = false := decide_eq_false (by omega)
      simp -implicitDefEqProofs (disch := first | omega | decide) only [seval, -Int.reducePow, -Nat.reducePow, cC, pv, binv, sAlLPl1, undef, List.cons_append, List.nil_append, a1, a2, g1, g2]
      refine hK _ _ ?_
      clear hK K
      refine cv_cond ?_
      simp -implicitDefEqProofs (disch := first | omega | decide) only [seval, -Int.reducePow, -Nat.reducePow, cC, pv, binv, sAlLPl1, undef, List.cons_append, List.nil_append, g1, g2]
      refine cv_exit ?_
      simp only [blockQ, thenQ, if_true, ite_true]
      clear hK K
      refine hK _ _ ?_
      clear hK K
      refine cv_seq_k fun K hK => ?_
      refine cv_region_then rfl ?_
      simp -implicitDefEqProofs (disch := first | omega | decide) only [seval, -Int.reducePow, -Nat.reducePow, cC, pv, binv, sAlLPl1, undef, List.cons_append, List.nil_append, g1, g2]
      refine callV_ret (fun w hw => alAwake_any w) ?_
      try simp -implicitDefEqProofs (disch := first | omega | decide) only [seval, -Int.reducePow, -Nat.reducePow, cC, pv, binv, sAlLPl1, undef, List.cons_append, List.nil_append, g1, g2]
      refine hK _ _ ?_
      clear hK K
      refine cv_ret ⟨_, (by simp -implicitDefEqProofs (disch := first | omega | decide) only [seval, -Int.reducePow, -Nat.reducePow, cC, pv, binv, sAlLPl1, undef, List.cons_append, List.nil_append, g1, g2]; rfl), fun w hw => ?_⟩
      exact ⟨rfl, hw.below⟩
    · have a1 : decide ((i : Int) < (n : Int)) = false := decide_eq_false (by omega)
      simp -implicitDefEqProofs (disch := first | omega | decide) only [seval, -Int.reducePow, -Nat.reducePow, cC, pv, binv, sAlLPl1, undef, List.cons_append, List.nil_append, a1, g1, g2]
      refine hK _ _ ?_
      clear hK K
      refine cv_cond ?_
      simp -implicitDefEqProofs (disch := first | omega | decide) only [seval, -Int.reducePow, -Nat.reducePow, cC, pv, binv, sAlLPl1, undef, List.cons_append, List.nil_append, g1, g2]
      refine cv_exit ?_
      simp only [blockQ, thenQ, if_true, ite_true]
      clear hK K
      refine hK _ _ ?_
      clear hK K
      refine cv_seq_k fun K hK => ?_
      refine cv_region_then rfl ?_
      simp -implicitDefEqProofs (disch := first | omega | decide) only [seval, -Int.reducePow, -Nat.reducePow, cC, pv, binv, sAlLPl1, undef, List.cons_append, List.nil_append, g1, g2]
      refine callV_ret (fun w hw => alAwake_any w) ?_
      try simp -implicitDefEqProofs (disch := first | omega | decide) only [seval, -Int.reducePow, -Nat.reducePow, cC, pv, binv, sAlLPl1, undef, List.cons_append, List.nil_append, g1, g2]
      refine hK _ _ ?_
      clear hK K
      refine cv_ret ⟨_, (by simp -implicitDefEqProofs (disch := first | omega | decide) only [seval, -Int.reducePow, -Nat.reducePow, cC, pv, binv, sAlLPl1, undef, List.cons_append, List.nil_append, g1, g2]; rfl), fun w hw => ?_⟩
      exact ⟨rfl, hw.below⟩
end Go.Proofs.Ytejogdielfgeoaa
