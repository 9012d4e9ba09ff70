/- The law ArenaZero, walked. -/
import Derived.Test.YtfaanphjaghbpaaZ7
import Derived.Test.YtfaanphjaghbpaaZ5
namespace Go.Proofs.Ytfaanphjaghbpaa
open Go.RowKit Go.Shelf
set_option linter.unusedVariables false
set_option linter.unusedSimpArgs false
set_option maxRecDepth 100000
theorem Pr.freeAt {x : ArR} {y : MrR} (h : Pr x y) {i : Nat} (hi : i < x.al.fr.length) : 0 ≤ (Ex.get x.al.fr i).off ∧ 0 < (Ex.get x.al.fr i).len ∧ (Ex.get x.al.fr i).off + (Ex.get x.al.fr i).len ≤ (x.N : Int) ∧
    ∀ j : Nat, (Ex.get x.al.fr i).off ≤ (j : Int) → (j : Int) < (Ex.get x.al.fr i).off + (Ex.get x.al.fr i).len → x.bs[j]? = some 0 := by
  obtain ⟨hv, hm, -, he⟩ := h.inv.free
  obtain ⟨h1, h2, h3⟩ := vld_prop hv hi
  have h4 := he i hi
  unfold Ext.end_ at h4
  refine ⟨h1, h2, h4, fun j hj1 hj2 => h.zero j (by omega) ((hm _).1 (Ex.mem_get hi ⟨hj1, hj2⟩)).2.2⟩
theorem findF_alt {fr : List Ext} {n : Int} (h : Sz.err n = 0) : (Ex.findF fr n).2 = 0 ∨ (Ex.findF fr n).2 = 18 := by
  unfold Ex.findF
  rw [if_pos h]
  split
  · exact .inr rfl
  · exact .inl rfl
theorem Pr.newZero {x : ArR} {y : MrR} (h : Pr x y) {n : Int} (hf : (Ex.findF x.al.fr n).2 = 0) : 0 ≤ (Ex.findF x.al.fr n).1.off ∧ 16 ≤ (Ex.findF x.al.fr n).1.len ∧ (Ex.findF x.al.fr n).1.len ≤ 65536 ∧ winF x.bs (Ex.findF x.al.fr n).1 0 (Ex.findF x.al.fr n).1.len = List.replicate (Ex.findF x.al.fr n).1.len.toNat 0 := by
  obtain ⟨h1, -, hI, h3, h4, h5, -, -⟩ := h.inv.alloc hf
  obtain ⟨hv, hm, -, -⟩ := h.inv.free
  have h6 := Ex.rnd_bd h4
  obtain ⟨e, he⟩ : ∃ e, (Ex.findF x.al.fr n).1 = e := ⟨_, rfl⟩
  rw [he] at h1 h3 h5 hI ⊢
  have hN := (hI.prop e (by simp)).2
  have hl := h.len
  unfold Ext.prop at h1
  refine ⟨by omega, by omega, by omega, ?_⟩
  apply List.ext_getElem?
  intro j
  unfold winF
  rw [List.getElem?_take, List.getElem?_drop, List.getElem?_replicate]
  by_cases hj : j < e.len.toNat
  · rw [if_pos hj, if_pos hj]
    have hin : Ex.inn e (((e.off + 0).toNat + j : Nat) : Int) := ⟨by omega, by omega⟩
    exact h.zero _ (by omega) ((hm _).1 (h5 _ hin)).2.2
  · rw [if_neg hj, if_neg hj]
set_option maxRecDepth 100000 in
theorem sArLZe1 : type_of% (And.intro (And.intro (And.intro @eBox.eq_1 @exV.eq_1) (And.intro @alL.eq_1 @arL.eq_1)) (And.intro (And.intro @mrL.eq_1 @Nat.mul_one) (And.intro @wrap_in (And.intro @cMp @cM)))) := (And.intro (And.intro (And.intro @eBox.eq_1 @exV.eq_1) (And.intro @alL.eq_1 @arL.eq_1)) (And.intro (And.intro @mrL.eq_1 @Nat.mul_one) (And.intro @wrap_in (And.intro @cMp @cM))))
set_option maxHeartbeats 4000000 in
theorem arZero_walk (W : World) (room : Int) (hr : 0 ≤ room ∧ room ≤ 255) (A : Option Addr) (n c : Nat) (l : List S6) (hE : Sl W W.heap.size 6 A n c (cl s6V l)) (hb : ∀ s ∈ l, s.ok) (m : Int) (hm : 0 ≤ m ∧ m ≤ 255) :
    Calls Try.prog 9 #[.int .u8 room, .slice A n c, .int .u8 m] W fun e w' => e = .returned (.bool true) ∧ Below W.heap.size W w' := by
  obtain ⟨r, rfl⟩ : ∃ r : Nat, room = (r : Int) := ⟨room.toNat, by omega⟩
  obtain ⟨q, hq⟩ : ∃ q : Int, 1 + m % 40 = q := ⟨_, rfl⟩
  have hq1 : 1 ≤ q ∧ q ≤ 40 := by omega
  have hqe : Sz.err q = 0 := by unfold Sz.err; rw [if_neg (by omega), if_neg (by omega)]
  refine calls_cv (M := []) (n := 109) [.tmp 6] rfl Try.func9 rfl rfl (Nat.le_of_ble_eq_true rfl) (St.nil _ _) ?_
  refine cv_seq_k fun K hK => ?_
  refine cv_region_then rfl ?_
  simp -implicitDefEqProofs (disch := first | omega | decide) only [seval, -Int.reducePow, -Nat.reducePow, cC, pv, binv, sArLZe1, undef, List.cons_append, List.nil_append]
  refine hK _ _ ?_
  clear hK K
  refine cv_seq_k fun K hK => ?_
  refine cv_region_then rfl ?_
  simp -implicitDefEqProofs (disch := first | omega | decide) only [seval, -Int.reducePow, -Nat.reducePow, cC, pv, binv, sArLZe1, undef, List.cons_append, List.nil_append]
  refine callV_grp [] [] (by decide) (fun i : ArR × MrR => .tuple #[.pointer (some ⟨i.1.bR, 0, none⟩), .pointer (some ⟨i.2.ml.bM, 0, none⟩), .bool true]) (fun i => arL i.1 ++ mrL i.2) (fun i => Pr i.1 i.2 ∧ i.2.ml.us.length ≤ 30) (fun w hw hq => built_any r (by omega) A n c l w (hE.at hw) hb) ?_
  rintro ⟨x, y⟩ ⟨hP, hl⟩
  dsimp only at hP hl
  have hfrl := hP.inv.frLen
  have hN1 := hP.inv.N1
  simp only [pickL, nth]
  simp -implicitDefEqProofs (disch := first | omega | decide) only [seval, -Int.reducePow, -Nat.reducePow, cC, pv, binv, sArLZe1, undef, List.cons_append, List.nil_append]
  refine hK _ _ ?_
  clear hK K
  refine cv_seq_k fun K hK => ?_
  refine cv_seq_k fun K hK => ?_
  refine cv_region_then rfl ?_
  simp -implicitDefEqProofs (disch := first | omega | decide) only [seval, -Int.reducePow, -Nat.reducePow, cC, pv, binv, sArLZe1, undef, List.cons_append, List.nil_append]
  refine hK _ _ ?_
  clear hK K
  refine cv_cond ?_
  simp -implicitDefEqProofs (disch := first | omega | decide) only [seval, -Int.reducePow, -Nat.reducePow, cC, pv, binv, sArLZe1, undef, List.cons_append, List.nil_append]
  refine cv_skip ?_
  try simp only [blockQ, thenQ]
  refine hK _ _ ?_
  clear hK K
  refine cv_seq_k fun K hK => ?_
  refine cv_region_then rfl ?_
  simp -implicitDefEqProofs (disch := first | omega | decide) only [seval, -Int.reducePow, -Nat.reducePow, cC, pv, binv, sArLZe1, undef, List.cons_append, List.nil_append]
  refine callV_row (fun A n c => .slice A n c) (fun w hw => arBytes_any x w (hP.arW hw 0 1 2 3 4 rfl rfl rfl rfl rfl (by omega))) ?_
  intro A1 n1 c1 hl1 hr1
  have hn1 : x.bs.length = n1 := byt_row hl1
  have hbN := hP.len
  simp -implicitDefEqProofs (disch := first | omega | decide) only [seval, -Int.reducePow, -Nat.reducePow, cC, pv, binv, sArLZe1, undef, List.cons_append, List.nil_append]
  refine hK _ _ ?_
  clear hK K
  refine cv_seq_k fun K hK => ?_
  refine cv_seq_k fun K hK => ?_
  refine cv_region_then rfl ?_
  simp -implicitDefEqProofs (disch := first | omega | decide) only [seval, -Int.reducePow, -Nat.reducePow, cC, pv, binv, sArLZe1, undef, List.cons_append, List.nil_append]
  refine callV_row (fun A n c => .slice A n c) (fun w hw => arFreeList_any x w (hP.arW hw 1 2 3 4 5 rfl rfl rfl rfl rfl (by omega))) ?_
  intro A2 n2 c2 hl2 hr2
  have hn2 : x.al.fr.length = n2 := by have := exCells_len x.al.fr; omega
  simp -implicitDefEqProofs (disch := first | omega | decide) only [seval, -Int.reducePow, -Nat.reducePow, cC, pv, binv, sArLZe1, undef, List.cons_append, List.nil_append]
  refine hK _ _ ?_
  clear hK K
  refine cv_gen fun G1 hG => ?_
  have g1_2 := congrFun hG 2
  have g1_7 := congrFun hG 7
  have g1_10 := congrFun hG 10
  have g1_30 := congrFun hG 30
  have g1_31 := congrFun hG 31
  have g1_32 := congrFun hG 32
  clear hG
  try simp -implicitDefEqProofs (disch := first | omega | decide) only [seval, -Int.reducePow, -Nat.reducePow, cC, pv, binv, sArLZe1, undef, List.cons_append, List.nil_append] at g1_2 g1_7 g1_10 g1_30 g1_31 g1_32
  have g1 := And.intro g1_2 (And.intro g1_7 (And.intro g1_10 (And.intro g1_30 (And.intro g1_31 g1_32))))
  refine cv_block ?_
  refine cv_loop (fun F' L' => ∃ (i : Nat), F' 2 = G1 2 ∧ F' 7 = G1 7 ∧ F' 10 = G1 10 ∧ F' 30 = G1 30 ∧ F' 31 = G1 31 ∧ F' 32 = .int .i64 (i : Int) ∧ L' = .row (.slice A2 n2 c2) 28 2 n2 (exCells x.al.fr) :: .row (.slice A1 n1 c1) 5 1 n1 (byt x.bs) :: (arL x ++ mrL y) ∧ i ≤ n2) (fun F' L' => 2000 - (intOf (F' 32)).toNat) ?_ ?_
  · refine ⟨0, ?_⟩
    simp -implicitDefEqProofs (disch := first | omega | decide) only [seval, -Int.reducePow, -Nat.reducePow, cC, pv, binv, sArLZe1, undef, List.cons_append, List.nil_append, g1]
    omega
  intro G2 L' hI
  obtain ⟨i, q2, q7, q10, q30, q31, q32, rfl, hi⟩ := hI
  have g2_2 := q2.trans g1_2
  have g2_7 := q7.trans g1_7
  have g2_10 := q10.trans g1_10
  have g2_30 := q30.trans g1_30
  have g2_31 := q31.trans g1_31
  have g2_32 := q32
  clear q2 q7 q10 q30 q31 q32
  have g2 := And.intro g2_2 (And.intro g2_7 (And.intro g2_10 (And.intro g2_30 (And.intro g2_31 g2_32))))
  refine cv_seq_k fun K hK => ?_
  refine cv_region_then rfl ?_
  simp -implicitDefEqProofs (disch := first | omega | decide) only [seval, -Int.reducePow, -Nat.reducePow, cC, pv, binv, sArLZe1, undef, List.cons_append, List.nil_append, g1, g2]
  refine hK _ _ ?_
  clear hK K
  refine cv_seq_k fun K hK => ?_
  refine cv_cond ?_
  simp -implicitDefEqProofs (disch := first | omega | decide) only [seval, -Int.reducePow, -Nat.reducePow, cC, pv, binv, sArLZe1, undef, List.cons_append, List.nil_append, g1, g2]
  refine ⟨fun hc => ?_, fun hc => ?_⟩
  · refine cv_skip ?_
    try simp only [blockQ, thenQ]
    have hit : i < n2 := by have := of_decide_eq_true ‹decide ((i : Int) < (n2 : Int)) = true›; omega
    obtain ⟨f1, f2, f3, f4⟩ := hP.freeAt (i := i) (by omega)
    have hcx := exCells_two x.al.fr i (by omega)
    obtain ⟨e, he⟩ : ∃ e, Ex.get x.al.fr i = e := ⟨_, rfl⟩
    rw [he] at f1 f2 f3 f4 hcx
    refine hK _ _ ?_
    clear hK K
    refine cv_rowA 0 rfl (by omega) fun g hAA hg hNN => ?_
    subst hAA
    simp only [List.eraseIdx_cons_zero, List.eraseIdx_cons_succ, neB_nil, neB_blk, neB_row, neB_snap, and_true, List.not_mem_nil, or_false, sArLZe1, undef, List.cons_append, List.nil_append] at hNN hg
    replace hg := And.intro hg hNN
    clear hNN
    refine cv_rowA 1 rfl (by omega) fun gB hAA hgB hNN => ?_
    subst hAA
    simp only [List.eraseIdx_cons_zero, List.eraseIdx_cons_succ, neB_nil, neB_blk, neB_row, neB_snap, and_true, List.not_mem_nil, or_false, sArLZe1, undef, List.cons_append, List.nil_append] at hNN hgB
    replace hgB := And.intro hgB hNN
    clear hNN
    refine cv_seq_k fun K hK => ?_
    refine cv_block ?_
    refine cv_seq_k fun K hK => ?_
    refine cv_region_then rfl ?_
    simp -implicitDefEqProofs (disch := first | omega | decide) only [seval, -Int.reducePow, -Nat.reducePow, cC, pv, binv, sArLZe1, undef, List.cons_append, List.nil_append, g1, g2]
    refine ⟨_, ld_row (i := i * 2) (vs := [.int .i64 e.off, .int .i64 e.len]) (.head _) rfl hcx, fun tok htok => ?_⟩
    subst htok
    simp -implicitDefEqProofs (disch := first | omega | decide) only [seval, -Int.reducePow, -Nat.reducePow, cC, pv, binv, sArLZe1, undef, List.cons_append, List.nil_append, g1, g2]
    intro b12 hb12 hf12
    refine hK _ _ ?_
    clear hK K
    have a1 : decide (e.off < 0) = false := decide_eq_false (by omega)
    have a2 : decide (e.len < 0) = false := decide_eq_false (by omega)
    have a3 : decide ((n1 : Int) < e.off + e.len) = false := decide_eq_false (by omega)
    refine cv_seq_k fun K hK => ?_
    refine cv_seq_k fun K hK => ?_
    refine cv_region_then rfl ?_
    simp -implicitDefEqProofs (disch := first | omega | decide) only [seval, -Int.reducePow, -Nat.reducePow, cC, pv, binv, sArLZe1, undef, List.cons_append, List.nil_append, a1, a2, a3, g1, g2]
    refine hK _ _ ?_
    clear hK K
    refine cv_cond ?_
    simp -implicitDefEqProofs (disch := first | omega | decide) only [seval, -Int.reducePow, -Nat.reducePow, cC, pv, binv, sArLZe1, undef, List.cons_append, List.nil_append, g1, g2]
    refine cv_skip ?_
    try simp only [blockQ, thenQ]
    refine hK _ _ ?_
    clear hK K
    refine cv_seq_k fun K hK => ?_
    refine cv_region_then rfl ?_
    simp -implicitDefEqProofs (disch := first | omega | decide) only [seval, -Int.reducePow, -Nat.reducePow, cC, pv, binv, sArLZe1, undef, List.cons_append, List.nil_append, g1, g2]
    refine hK _ _ ?_
    clear hK K
    refine cv_gen fun G3 hG => ?_
    have g3_2 := congrFun hG 2
    have g3_7 := congrFun hG 7
    have g3_10 := congrFun hG 10
    have g3_12 := congrFun hG 12
    have g3_13 := congrFun hG 13
    have g3_30 := congrFun hG 30
    have g3_31 := congrFun hG 31
    have g3_32 := congrFun hG 32
    clear hG
    try simp -implicitDefEqProofs (disch := first | omega | decide) only [seval, -Int.reducePow, -Nat.reducePow, cC, pv, binv, sArLZe1, undef, List.cons_append, List.nil_append, g1, g2] at g3_2 g3_7 g3_10 g3_12 g3_13 g3_30 g3_31 g3_32
    have g3 := And.intro g3_2 (And.intro g3_7 (And.intro g3_10 (And.intro g3_12 (And.intro g3_13 (And.intro g3_30 (And.intro g3_31 g3_32))))))
    refine cv_block ?_
    obtain ⟨j0, hj0⟩ : ∃ j0 : Nat, e.off = (j0 : Int) := ⟨e.off.toNat, by omega⟩
    refine cv_loop (fun F' L' => ∃ (j : Nat), F' 2 = G3 2 ∧ F' 7 = G3 7 ∧ F' 10 = G3 10 ∧ F' 12 = G3 12 ∧ F' 13 = .int .i64 (j : Int) ∧ F' 30 = G3 30 ∧ F' 31 = G3 31 ∧ F' 32 = G3 32 ∧ L' = eBox b12 e :: .row (.slice (some ⟨g, 0, none⟩) n2 c2) 28 2 n2 (exCells x.al.fr) :: .row (.slice (some ⟨gB, 0, none⟩) n1 c1) 5 1 n1 (byt x.bs) :: (arL x ++ mrL y) ∧ e.off ≤ (j : Int) ∧ (j : Int) ≤ e.off + e.len) (fun F' L' => 2000000 - (intOf (F' 13)).toNat) ?_ ?_
    · refine ⟨j0, ?_⟩
      simp -implicitDefEqProofs (disch := first | omega | decide) only [seval, -Int.reducePow, -Nat.reducePow, cC, pv, binv, sArLZe1, undef, List.cons_append, List.nil_append, hj0, g1, g2, g3]
      omega
    intro G4 L' hI
    obtain ⟨j, q2, q7, q10, q12, q13, q30, q31, q32, rfl, ⟨hj1, hj2⟩⟩ := hI
    have g4_2 := q2.trans g3_2
    have g4_7 := q7.trans g3_7
    have g4_10 := q10.trans g3_10
    have g4_12 := q12.trans g3_12
    have g4_13 := q13
    have g4_30 := q30.trans g3_30
    have g4_31 := q31.trans g3_31
    have g4_32 := q32.trans g3_32
    clear q2 q7 q10 q12 q13 q30 q31 q32
    have g4 := And.intro g4_2 (And.intro g4_7 (And.intro g4_10 (And.intro g4_12 (And.intro g4_13 (And.intro g4_30 (And.intro g4_31 g4_32))))))
    refine cv_seq_k fun K hK => ?_
    refine cv_seq_k fun K hK => ?_
    refine cv_region_then rfl ?_
    simp -implicitDefEqProofs (disch := first | omega | decide) only [seval, -Int.reducePow, -Nat.reducePow, cC, pv, binv, sArLZe1, undef, List.cons_append, List.nil_append, g1, g2, g3, g4]
    refine hK _ _ ?_
    clear hK K
    refine cv_cond ?_
    simp -implicitDefEqProofs (disch := first | omega | decide) only [seval, -Int.reducePow, -Nat.reducePow, cC, pv, binv, sArLZe1, undef, List.cons_append, List.nil_append, g1, g2, g3, g4]
    refine ⟨fun hc => ?_, fun hc => ?_⟩
    · refine cv_skip ?_
      try simp only [blockQ, thenQ]
      have hlt : (j : Int) < e.off + e.len := of_decide_eq_true ‹decide ((j : Int) < e.off + e.len) = true›
      have hz : (byt x.bs)[j]? = some (.int .u8 0) := by have := byt_get (f4 j hj1 hlt); simpa using this
      refine hK _ _ ?_
      clear hK K
      refine cv_rowA 2 rfl (by omega) fun gN_ hAA hgN_ hgn => ?_
      cases hAA
      clear hgN_
      simp only [List.eraseIdx_cons_zero, List.eraseIdx_cons_succ, neB_nil, neB_blk, neB_row, neB_snap, and_true, sArLZe1, undef, List.cons_append, List.nil_append] at hgn
      refine cv_seq_k fun K hK => ?_
      refine cv_block ?_
      refine cv_seq_k fun K hK => ?_
      refine cv_region_then rfl ?_
      simp -implicitDefEqProofs (disch := first | omega | decide) only [seval, -Int.reducePow, -Nat.reducePow, cC, pv, binv, sArLZe1, undef, List.cons_append, List.nil_append, g1, g2, g3, g4]
      refine ⟨_, ld_row1 (i := j) (v := .int .u8 0) (.tail _ (.tail _ (.head _))) rfl hz, fun tok htok => ?_⟩
      subst htok
      simp -implicitDefEqProofs (disch := first | omega | decide) only [seval, -Int.reducePow, -Nat.reducePow, cC, pv, binv, sArLZe1, undef, List.cons_append, List.nil_append, g1, g2, g3, g4]
      refine hK _ _ ?_
      clear hK K
      refine cv_cond ?_
      simp -implicitDefEqProofs (disch := first | omega | decide) only [seval, -Int.reducePow, -Nat.reducePow, cC, pv, binv, sArLZe1, undef, List.cons_append, List.nil_append, g1, g2, g3, g4]
      refine cv_skip ?_
      try simp only [blockQ, thenQ]
      refine hK _ _ ?_
      clear hK K
      refine cv_region_then rfl ?_
      simp -implicitDefEqProofs (disch := first | omega | decide) only [seval, -Int.reducePow, -Nat.reducePow, cC, pv, binv, sArLZe1, undef, List.cons_append, List.nil_append, g1, g2, g3, g4]
      refine ⟨⟨j + 1, ?_⟩, ?_⟩
      · simp -implicitDefEqProofs (disch := first | omega | decide) only [seval, -Int.reducePow, -Nat.reducePow, cC, pv, binv, sArLZe1, undef, List.cons_append, List.nil_append, Int.natCast_add, g1, g2, g3, g4]
        omega
      · simp only [intOf]; omega
    refine cv_exit ?_
    simp only [blockQ, thenQ, if_true, ite_true]
    clear hK K
    refine hK _ _ ?_
    clear hK K
    refine cv_pick_post [1, 2, 3, 4, 5, 6, 7, 8, 9, 10] (by decide) ?_
    refine cv_region_q rfl ?_
    simp -implicitDefEqProofs (maxSteps := 1000000) (disch := first | omega | decide) only [seval, -Int.reducePow, -Nat.reducePow, cC, pv, binv, sArLZe1, undef, List.cons_append, List.nil_append, g1, g2, g3, g4]
    refine ⟨⟨i + 1, ?_⟩, ?_⟩
    · simp -implicitDefEqProofs (disch := first | omega | decide) only [seval, -Int.reducePow, -Nat.reducePow, cC, pv, binv, sArLZe1, undef, List.cons_append, List.nil_append, Int.natCast_add, g1, g2, g3, g4]
      omega
    · simp only [intOf]; omega
  refine cv_exit ?_
  simp only [blockQ, thenQ, if_true, ite_true]
  clear hK K
  refine hK _ _ ?_
  clear hK K
  refine cv_seq_k fun K hK => ?_
  refine cv_region_then rfl ?_
  simp -implicitDefEqProofs (disch := first | omega | decide) only [seval, -Int.reducePow, -Nat.reducePow, cC, pv, binv, sArLZe1, undef, List.cons_append, List.nil_append, hq, g1, g2]
  refine callV_grp [2, 3, 4, 5, 6] [7, 8, 9] (by decide) (fun _ : AlR => .tuple #[exV (Ex.findF x.al.fr q).1, .int .i64 (Ex.findF x.al.fr q).2]) (fun al' => arL ⟨al', x.bR, x.bB, x.N, x.bs⟩) (fun al' => al'.bA = x.al.bA ∧ (¬ (Ex.findF x.al.fr q).2 = 0 → al' = x.al) ∧ ((Ex.findF x.al.fr q).2 = 0 → Ex.Inv (x.N : Int) (y.ml.us ++ [(Ex.findF x.al.fr q).1]) al'.fr al'.tk)) (fun w hw hs => arAlloc_any x y.ml.us q w hs hP.inv (by omega) hP.len) ?_
  intro al' hal
  simp only [pickL, nth]
  have hz := fun h => hP.newZero (n := q) h
  have hf2 := findF_alt (fr := x.al.fr) hqe
  obtain ⟨f, hf⟩ : ∃ f, Ex.findF x.al.fr q = f := ⟨_, rfl⟩
  rw [hf] at hal hz hf2 ⊢
  obtain ⟨e, fe⟩ := f
  dsimp only at hal hz hf2 ⊢
  simp -implicitDefEqProofs (disch := first | omega | decide) only [seval, -Int.reducePow, -Nat.reducePow, cC, pv, binv, sArLZe1, undef, List.cons_append, List.nil_append, g1, g2]
  intro b14 hb14 hf14
  refine hK _ _ ?_
  clear hK K
  refine cv_gen fun G5 hG => ?_
  have g5_7 := congrFun hG 7
  have g5_14 := congrFun hG 14
  have g5_15 := congrFun hG 15
  clear hG
  try simp -implicitDefEqProofs (disch := first | omega | decide) only [seval, -Int.reducePow, -Nat.reducePow, cC, pv, binv, sArLZe1, undef, List.cons_append, List.nil_append, g1, g2] at g5_7 g5_14 g5_15
  have g5 := And.intro g5_7 (And.intro g5_14 g5_15)
  refine cv_seq_k fun K hK => ?_
  rcases hf2 with rfl | rfl
  · obtain ⟨h1, -, h3⟩ := hal
    have hI := h3 rfl
    obtain ⟨z1, z2, z3, z4⟩ := hz rfl
    have hA : ∀ {w : World} {L : List Res} {M : List Nat}, St M W L w → ∀ (i1 i2 i3 i4 i5 : Nat), nth L i1 = some (.blk x.bR 64 [.pointer (some ⟨al'.bA, 0, none⟩), .slice (some ⟨x.bB, 0, none⟩) x.N x.N]) → nth L i2 = some (.blk x.bB 5 (byt x.bs)) →
        nth L i3 = some (.blk al'.bA 99 [.slice al'.FA al'.fn al'.fc, .map (some al'.bm)]) → nth L i4 = some (mpR al'.bm al'.tk) → nth L i5 = some (.row (.slice al'.FA al'.fn al'.fc) 28 2 al'.fn (exCells al'.fr)) → ArW w w.heap.size ⟨al', x.bR, x.bB, x.N, x.bs⟩ :=
      fun hw i1 i2 i3 i4 i5 q1 q2 q3 q4 q5 => ArW.of (x := ⟨al', x.bR, x.bB, x.N, x.bs⟩) hw i1 i2 i3 i4 i5 q1 q2 q3 q4 q5 (by have := hI.frLen; simp at this; dsimp only; omega) hP.len (by have := hP.inv.N1; dsimp only; omega)
    refine cv_seq_k fun K hK => ?_
    refine cv_region_then rfl ?_
    simp -implicitDefEqProofs (disch := first | omega | decide) only [seval, -Int.reducePow, -Nat.reducePow, cC, pv, binv, sArLZe1, undef, List.cons_append, List.nil_append, g1, g2, g5]
    refine hK _ _ ?_
    clear hK K
    refine cv_cond ?_
    simp -implicitDefEqProofs (disch := first | omega | decide) only [seval, -Int.reducePow, -Nat.reducePow, cC, pv, binv, sArLZe1, undef, List.cons_append, List.nil_append, g1, g2, g5]
    refine cv_skip ?_
    try simp only [blockQ, thenQ]
    refine hK _ _ ?_
    clear hK K
    obtain ⟨m', hm'⟩ : ∃ m' : Nat, e.len = (m' : Int) := ⟨e.len.toNat, by omega⟩
    have hre : rdErr (y.ml.us ++ [e]) e 0 e.len = 0 := by
      unfold rdErr
      rw [if_pos (by simp), if_neg (by omega), if_pos (by omega)]
    have hrf : rdF x.bs e 0 e.len 0 = List.replicate m' 0 := by
      unfold rdF
      rw [if_pos rfl, z4, hm']
      rfl
    refine cv_seq_k fun K hK => ?_
    refine cv_region_then rfl ?_
    simp -implicitDefEqProofs (disch := first | omega | decide) only [seval, -Int.reducePow, -Nat.reducePow, cC, pv, binv, sArLZe1, undef, List.cons_append, List.nil_append, g1, g2, g5]
    refine callV_row (fun A n c => .tuple #[.slice A n c, .int .i64 (rdErr (y.ml.us ++ [e]) e 0 e.len)]) (fun w hw => arRead_any ⟨al', x.bR, x.bB, x.N, x.bs⟩ (y.ml.us ++ [e]) w e 0 e.len (hA hw 1 2 3 4 5 rfl rfl rfl rfl rfl) hI) ?_
    intro A3 n3 c3 hl3 hr3
    dsimp only at hl3
    rw [hre, hrf] at *
    simp -implicitDefEqProofs (maxSteps := 1000000) (disch := first | omega | decide) only [seval, -Int.reducePow, -Nat.reducePow, cC, pv, binv, sArLZe1, undef, List.cons_append, List.nil_append, g1, g2, g5]
    refine hK _ _ ?_
    clear hK K
    refine cv_seq_k fun K hK => ?_
    refine cv_draw_of (pickL [0, 1] _) (fun w hw => hw.pick (by decide)) (by simp only [pickL, nth, suf_cons, suf_nil, List.mem_cons, true_or, or_true, and_true, eq_self]) [(false, 0), (true, 1), (true, 2), (true, 3), (true, 4), (true, 5), (true, 6), (true, 7), (true, 8), (true, 9), (false, 10), (false, 11), (true, 12), (true, 13), (true, 14)] [] mixA rfl (by kernel_rfl) (by kernel_rfl) rfl rfl ?_
    simp -implicitDefEqProofs (disch := first | omega | decide) only [seval, -Int.reducePow, -Nat.reducePow, cC, pv, binv, sArLZe1, undef, List.cons_append, List.nil_append, g1, g2, g5]
    refine callV_ret (fun w hw => arAwake_any w) ?_
    try simp -implicitDefEqProofs (disch := first | omega | decide) only [seval, -Int.reducePow, -Nat.reducePow, cC, pv, binv, sArLZe1, undef, List.cons_append, List.nil_append, g1, g2, g5]
    refine ⟨_, fun w hw => hw.strk 0 rfl, fun tok htok => ?_⟩
    subst htok
    simp -implicitDefEqProofs (disch := first | omega | decide) only [seval, -Int.reducePow, -Nat.reducePow, cC, pv, binv, sArLZe1, undef, List.cons_append, List.nil_append, g1, g2, g5]
    rw [hm']
    try simp -implicitDefEqProofs (maxSteps := 1000000) (disch := first | omega | decide) only [seval, -Int.reducePow, -Nat.reducePow, cC, pv, binv, sArLZe1, undef, List.cons_append, List.nil_append, g1, g2, g5]
    refine xv_make (n := m') (u := .int .u8 0) tap36 rfl rfl rfl (by omega) (by omega) ?_
    intro bS hbS hfS
    rw [byt_rep]
    try simp -implicitDefEqProofs (maxSteps := 1000000) (disch := first | omega | decide) only [seval, -Int.reducePow, -Nat.reducePow, cC, pv, binv, sArLZe1, undef, List.cons_append, List.nil_append, g1, g2, g5]
    refine ⟨_, fun w hw => (Sl.of_blk hw (.head _) (by rw [byt_len, List.length_replicate, Nat.mul_one]) (by omega)).reads, fun tok htok => ?_⟩
    subst htok
    simp -implicitDefEqProofs (disch := first | omega | decide) only [seval, -Int.reducePow, -Nat.reducePow, cC, pv, binv, sArLZe1, undef, List.cons_append, List.nil_append, g1, g2, g5]
    refine hK _ _ ?_
    clear hK K
    refine cv_ret ⟨_, (by simp -implicitDefEqProofs (disch := first | omega | decide) only [seval, -Int.reducePow, -Nat.reducePow, cC, pv, binv, sArLZe1, undef, List.cons_append, List.nil_append, g1, g2, g5]; rfl), fun w hw => ?_⟩
    exact ⟨rfl, hw.below⟩
  · obtain ⟨h1, h2, -⟩ := hal
    refine cv_seq_k fun K hK => ?_
    refine cv_region_then rfl ?_
    simp -implicitDefEqProofs (disch := first | omega | decide) only [seval, -Int.reducePow, -Nat.reducePow, cC, pv, binv, sArLZe1, undef, List.cons_append, List.nil_append, g1, g2, g5]
    refine hK _ _ ?_
    clear hK K
    refine cv_cond ?_
    simp -implicitDefEqProofs (disch := first | omega | decide) only [seval, -Int.reducePow, -Nat.reducePow, cC, pv, binv, sArLZe1, undef, List.cons_append, List.nil_append, g1, g2, g5]
    refine cv_seq_k fun K hK => ?_
    refine cv_region_then rfl ?_
    simp -implicitDefEqProofs (disch := first | omega | decide) only [seval, -Int.reducePow, -Nat.reducePow, cC, pv, binv, sArLZe1, undef, List.cons_append, List.nil_append, g1, g2, g5]
    refine callV_ret (fun w hw => arAwake_any w) ?_
    try simp -implicitDefEqProofs (disch := first | omega | decide) only [seval, -Int.reducePow, -Nat.reducePow, cC, pv, binv, sArLZe1, undef, List.cons_append, List.nil_append, g1, g2, g5]
    refine hK _ _ ?_
    clear hK K
    refine cv_ret ⟨_, (by simp -implicitDefEqProofs (disch := first | omega | decide) only [seval, -Int.reducePow, -Nat.reducePow, cC, pv, binv, sArLZe1, undef, List.cons_append, List.nil_append, g1, g2, g5]; rfl), fun w hw => ?_⟩
    exact ⟨rfl, hw.below⟩
end Go.Proofs.Ytfaanphjaghbpaa
