/- The laws' run: an allocator after a list of steps. -/
import Derived.Test.YtejogdielfgeoaaZ5
import Derived.Test.YtejogdielfgeoaaZ4
import Derived.Test.YtejogdielfgeoaaZ6
namespace Go.Proofs.Ytejogdielfgeoaa
open Go.RowKit Go.Shelf
set_option linter.unusedVariables false
set_option linter.unusedSimpArgs false
set_option maxRecDepth 100000
theorem s3_lenR (s : S3) : (s3V s).length = 3 := rfl
set_option maxRecDepth 100000 in
theorem sAlRun1 : type_of% (And.intro (And.intro (And.intro @eBox.eq_1 @exV.eq_1) (And.intro @alL.eq_1 @mlL.eq_1)) (And.intro (And.intro @wkL.eq_1 @Nat.mul_one) (And.intro @wrap_in (And.intro @cMp @cM)))) := (And.intro (And.intro (And.intro @eBox.eq_1 @exV.eq_1) (And.intro @alL.eq_1 @mlL.eq_1)) (And.intro (And.intro @wkL.eq_1 @Nat.mul_one) (And.intro @wrap_in (And.intro @cMp @cM))))
set_option maxHeartbeats 4000000 in
theorem alRun_any (N : Nat) (hN1 : N ≤ 1048576) (A : Option Addr) (n c : Nat) (l : List S3) (W : World) (hE : Sl W W.heap.size 3 A n c (cl s3V l)) (hb : ∀ s ∈ l, s.ok) :
    Calls Try.prog 20 #[.int .i64 (N : Int), .slice A n c] W fun e w' => ∃ x : AlR × List Ext, e = .returned (.tuple #[.pointer (some ⟨x.1.bA, 0, none⟩), .bool true]) ∧ (Ex.Inv (N : Int) x.2 x.1.fr x.1.tk ∧ x.2.length ≤ 24) ∧ St [] W (alL x.1) w' := by
  have hlen := cl_row s3_lenR (by omega) hE.len
  refine calls_cv (M := []) (n := 52) [.tmp 4, .tmp 5] rfl Try.func20 rfl rfl (Nat.le_of_ble_eq_true rfl) (St.nil _ _) ?_
  refine cv_seq_k fun K hK => ?_
  refine cv_region_then rfl ?_
  simp -implicitDefEqProofs (disch := first | omega | decide) only [seval, -Int.reducePow, -Nat.reducePow, cC, pv, binv, sAlRun1, undef, List.cons_append, List.nil_append]
  refine hK _ _ ?_
  clear hK K
  refine cv_seq_k fun K hK => ?_
  refine cv_region_then rfl ?_
  simp -implicitDefEqProofs (disch := first | omega | decide) only [seval, -Int.reducePow, -Nat.reducePow, cC, pv, binv, sAlRun1, undef, List.cons_append, List.nil_append]
  refine callV_grp [] [] (by decide) (fun x : AlR => .tuple #[.pointer (some ⟨x.bA, 0, none⟩), .int .i64 0]) (fun x => alL x) (fun x => Ex.Inv (N : Int) [] x.fr x.tk) (fun w hw hs => (aNew_ok N w hN1).mono (by
    rintro e w' ⟨y, rfl, ⟨h1, h2⟩, h3⟩
    refine ⟨y, rfl, ?_, h3⟩
    rw [h1, h2]
    exact Ex.inv_new (by omega) (by omega))) ?_
  intro x1 hI1
  simp only [pickL, nth]
  simp -implicitDefEqProofs (disch := first | omega | decide) only [seval, -Int.reducePow, -Nat.reducePow, cC, pv, binv, sAlRun1, undef, List.cons_append, List.nil_append]
  refine hK _ _ ?_
  clear hK K
  refine cv_seq_k fun K hK => ?_
  refine cv_seq_k fun K hK => ?_
  refine cv_region_then rfl ?_
  simp -implicitDefEqProofs (disch := first | omega | decide) only [seval, -Int.reducePow, -Nat.reducePow, cC, pv, binv, sAlRun1, undef, List.cons_append, List.nil_append]
  refine hK _ _ ?_
  clear hK K
  refine cv_cond ?_
  simp -implicitDefEqProofs (disch := first | omega | decide) only [seval, -Int.reducePow, -Nat.reducePow, cC, pv, binv, sAlRun1, undef, List.cons_append, List.nil_append]
  refine cv_skip ?_
  try simp only [blockQ, thenQ]
  refine hK _ _ ?_
  clear hK K
  refine cv_seq_k fun K hK => ?_
  refine cv_region_then rfl ?_
  simp -implicitDefEqProofs (disch := first | omega | decide) only [seval, -Int.reducePow, -Nat.reducePow, cC, pv, binv, sAlRun1, undef, List.cons_append, List.nil_append]
  intro bM hbM hfM
  refine hK _ _ ?_
  clear hK K
  refine cv_nil 39 2 ?_
  refine cv_seq_k fun K hK => ?_
  refine cv_region_then rfl ?_
  simp -implicitDefEqProofs (disch := first | omega | decide) only [seval, -Int.reducePow, -Nat.reducePow, cC, pv, binv, sAlRun1, undef, List.cons_append, List.nil_append]
  refine hK _ _ ?_
  clear hK K
  refine cv_seq_k fun K hK => ?_
  refine cv_seq_k fun K hK => ?_
  refine cv_region_then rfl ?_
  simp -implicitDefEqProofs (disch := first | omega | decide) only [seval, -Int.reducePow, -Nat.reducePow, cC, pv, binv, sAlRun1, undef, List.cons_append, List.nil_append]
  refine hK _ _ ?_
  clear hK K
  refine cv_nil 39 2 ?_
  refine cv_gen fun G1 hG => ?_
  have g1_1 := congrFun hG 1
  have g1_6 := congrFun hG 6
  have g1_8 := congrFun hG 8
  have g1_9 := congrFun hG 9
  have g1_10 := congrFun hG 10
  clear hG
  try simp -implicitDefEqProofs (disch := first | omega | decide) only [seval, -Int.reducePow, -Nat.reducePow, cC, pv, binv, sAlRun1, undef, List.cons_append, List.nil_append] at g1_1 g1_6 g1_8 g1_9 g1_10
  have g1 := And.intro g1_1 (And.intro g1_6 (And.intro g1_8 (And.intro g1_9 g1_10)))
  refine cv_pick [3, 4, 5, 2, 1, 0] (by decide) ?_
  simp only [pickL, nth]
  refine cv_block ?_
  refine cv_loop (fun F' L' => ∃ (i : Nat) (z : Wk), F' 1 = G1 1 ∧ F' 6 = .pointer (some ⟨z.al.bA, 0, none⟩) ∧ F' 8 = .pointer (some ⟨z.ml.bM, 0, none⟩) ∧ F' 9 = .slice z.A z.n z.c ∧ F' 10 = .int .i64 (i : Int) ∧ L' = wkL z ∧ WkI (N : Int) i z ∧ i ≤ 24) (fun F' L' => 40 - (intOf (F' 10)).toNat) ?_ ?_
  · refine ⟨0, ⟨x1, ⟨bM, (N : Int), none, 0, 0, []⟩, none, 0, 0, []⟩, ?_⟩
    simp -implicitDefEqProofs (disch := first | omega | decide) only [seval, -Int.reducePow, -Nat.reducePow, cC, pv, binv, sAlRun1, undef, List.cons_append, List.nil_append, g1]
    exact ⟨rfl, ⟨hI1, rfl, by simp, by simp⟩⟩
  intro G2 L' hI
  obtain ⟨i, z, q1, q6, q8, q9, q10, rfl, ⟨hI, hi⟩⟩ := hI
  have g2_1 := q1.trans g1_1
  have g2_6 := q6
  have g2_8 := q8
  have g2_9 := q9
  have g2_10 := q10
  clear q1 q6 q8 q9 q10
  have g2 := And.intro g2_1 (And.intro g2_6 (And.intro g2_8 (And.intro g2_9 g2_10)))
  refine cv_seq_k fun K hK => ?_
  by_cases hc1 : i < n ∧ i < 24
  · have a1 : decide ((i : Int) < (n : Int)) = true := decide_eq_true (by omega)
    have a2 : decide ((i : Int) < 24) = true := decide_eq_true (by omega)
    obtain ⟨s, hs⟩ : ∃ s, l[i]? = some s := ⟨_, List.getElem?_eq_getElem (by omega)⟩
    have hok := hb s (List.mem_of_getElem? hs)
    unfold S3.ok at hok
    have hpos : 0 < n := by omega
    obtain ⟨bF, oF, rfl, hbF, -⟩ := hE.cells hpos
    refine cv_apart fun hap => ?_
    simp only [factL_nil, factL_blk, factL_row, neR_nil, neR_blk, neR_row, neB_nil, neB_blk, neB_row, and_true, true_and, List.not_mem_nil, or_false, sAlRun1, undef, List.cons_append, List.nil_append] at hap
    obtain hap := hap
    refine cv_seq_k fun K hK => ?_
    refine cv_region_then rfl ?_
    simp -implicitDefEqProofs (disch := first | omega | decide) only [seval, -Int.reducePow, -Nat.reducePow, cC, pv, binv, sAlRun1, undef, List.cons_append, List.nil_append, a1, a2, g1, g2]
    refine hK _ _ ?_
    clear hK K
    refine cv_cond ?_
    simp -implicitDefEqProofs (disch := first | omega | decide) only [seval, -Int.reducePow, -Nat.reducePow, cC, pv, binv, sAlRun1, undef, List.cons_append, List.nil_append, g1, g2]
    refine cv_skip ?_
    try simp only [blockQ, thenQ]
    refine hK _ _ ?_
    clear hK K
    refine cv_seq_k fun K hK => ?_
    refine cv_block ?_
    refine cv_seq_k fun K hK => ?_
    refine cv_region_then rfl ?_
    simp -implicitDefEqProofs (disch := first | omega | decide) only [seval, -Int.reducePow, -Nat.reducePow, cC, pv, binv, sAlRun1, undef, List.cons_append, List.nil_append, g1, g2]
    refine ⟨_, hE.ld (vs := s3V s) hpos (show tsz Try.prog 35 = some (true, 3) from by kernel_rfl) (cl_at s3_lenR hs), fun tok htok => ?_⟩
    subst htok
    simp -implicitDefEqProofs (disch := first | omega | decide) only [seval, -Int.reducePow, -Nat.reducePow, cC, pv, binv, sAlRun1, undef, List.cons_append, List.nil_append, g1, g2]
    refine callV_grp [0, 1, 2, 3, 4, 5] [] (by decide) (fun z2 : Wk => .tuple #[.slice z2.A z2.n z2.c, .bool true]) (fun z2 => wkL z2) (fun z2 => WkI (N : Int) (i + 1) z2 ∧ z2.al.bA = z.al.bA ∧ z2.ml.bM = z.ml.bM) (fun w hw hq => alStep_any (N : Int) i z (s.a : Int) (s.b : Int) (s.c : Int) w hq hI (by omega) (by omega) (by omega) (by omega)) ?_
    rintro z2 ⟨hI2, e1, e2⟩
    simp only [pickL, nth]
    simp -implicitDefEqProofs (disch := first | omega | decide) only [seval, -Int.reducePow, -Nat.reducePow, cC, pv, binv, sAlRun1, undef, List.cons_append, List.nil_append, g1, g2]
    refine hK _ _ ?_
    clear hK K
    refine cv_seq_k fun K hK => ?_
    refine cv_seq_k fun K hK => ?_
    refine cv_region_then rfl ?_
    simp -implicitDefEqProofs (disch := first | omega | decide) only [seval, -Int.reducePow, -Nat.reducePow, cC, pv, binv, sAlRun1, undef, List.cons_append, List.nil_append, g1, g2]
    refine hK _ _ ?_
    clear hK K
    refine cv_cond ?_
    simp -implicitDefEqProofs (disch := first | omega | decide) only [seval, -Int.reducePow, -Nat.reducePow, cC, pv, binv, sAlRun1, undef, List.cons_append, List.nil_append, g1, g2]
    refine cv_skip ?_
    try simp only [blockQ, thenQ]
    refine hK _ _ ?_
    clear hK K
    refine cv_region_q rfl ?_
    simp -implicitDefEqProofs (disch := first | omega | decide) only [seval, -Int.reducePow, -Nat.reducePow, cC, pv, binv, sAlRun1, undef, List.cons_append, List.nil_append, g1, g2]
    refine hK _ _ ?_
    clear hK K
    refine cv_region_then rfl ?_
    simp -implicitDefEqProofs (disch := first | omega | decide) only [seval, -Int.reducePow, -Nat.reducePow, cC, pv, binv, sAlRun1, undef, List.cons_append, List.nil_append, g1, g2]
    refine ⟨⟨i + 1, z2, ?_⟩, ?_⟩
    · simp -implicitDefEqProofs (disch := first | omega | decide) only [seval, -Int.reducePow, -Nat.reducePow, cC, pv, binv, sAlRun1, undef, List.cons_append, List.nil_append, e1, e2, Int.natCast_add, g1, g2]
      exact ⟨hI2, by omega⟩
    · simp only [intOf]; omega
  · refine cv_seq_k fun K hK => ?_
    refine cv_region_then rfl ?_
    by_cases h1 : i < n
    · have a1 : decide ((i : Int) < (n : Int)) = true := decide_eq_true (by omega)
      have a2 : decide ((i : Int) < 24) = false := decide_eq_false (by omega)
      simp -implicitDefEqProofs (disch := first | omega | decide) only [seval, -Int.reducePow, -Nat.reducePow, cC, pv, binv, sAlRun1, undef, List.cons_append, List.nil_append, a1, a2, g1, g2]
      refine hK _ _ ?_
      clear hK K
      refine cv_cond ?_
      simp -implicitDefEqProofs (disch := first | omega | decide) only [seval, -Int.reducePow, -Nat.reducePow, cC, pv, binv, sAlRun1, undef, List.cons_append, List.nil_append, g1, g2]
      refine cv_exit ?_
      simp only [blockQ, thenQ, if_true, ite_true]
      clear hK K
      refine hK _ _ ?_
      clear hK K
      refine cv_seq_k fun K hK => ?_
      refine cv_region_then rfl ?_
      simp -implicitDefEqProofs (disch := first | omega | decide) only [seval, -Int.reducePow, -Nat.reducePow, cC, pv, binv, sAlRun1, undef, List.cons_append, List.nil_append, g1, g2]
      refine hK _ _ ?_
      clear hK K
      refine cv_ret ⟨_, (by simp -implicitDefEqProofs (disch := first | omega | decide) only [seval, -Int.reducePow, -Nat.reducePow, cC, pv, binv, sAlRun1, undef, List.cons_append, List.nil_append, g1, g2]; rfl), fun w hw => ?_⟩
      exact ⟨(z.al, z.ml.us), rfl, ⟨by have := hI.inv; rw [hI.N] at this; exact this, by have := hI.us; dsimp only; omega⟩, hw.pick (ix := [0, 1, 2]) (by decide)⟩
    · have a1 : decide ((i : Int) < (n : Int)) = false := decide_eq_false (by omega)
      simp -implicitDefEqProofs (disch := first | omega | decide) only [seval, -Int.reducePow, -Nat.reducePow, cC, pv, binv, sAlRun1, undef, List.cons_append, List.nil_append, a1, g1, g2]
      refine hK _ _ ?_
      clear hK K
      refine cv_cond ?_
      simp -implicitDefEqProofs (disch := first | omega | decide) only [seval, -Int.reducePow, -Nat.reducePow, cC, pv, binv, sAlRun1, undef, List.cons_append, List.nil_append, g1, g2]
      refine cv_exit ?_
      simp only [blockQ, thenQ, if_true, ite_true]
      clear hK K
      refine hK _ _ ?_
      clear hK K
      refine cv_seq_k fun K hK => ?_
      refine cv_region_then rfl ?_
      simp -implicitDefEqProofs (disch := first | omega | decide) only [seval, -Int.reducePow, -Nat.reducePow, cC, pv, binv, sAlRun1, undef, List.cons_append, List.nil_append, g1, g2]
      refine hK _ _ ?_
      clear hK K
      refine cv_ret ⟨_, (by simp -implicitDefEqProofs (disch := first | omega | decide) only [seval, -Int.reducePow, -Nat.reducePow, cC, pv, binv, sAlRun1, undef, List.cons_append, List.nil_append, g1, g2]; rfl), fun w hw => ?_⟩
      exact ⟨(z.al, z.ml.us), rfl, ⟨by have := hI.inv; rw [hI.N] at this; exact this, by have := hI.us; dsimp only; omega⟩, hw.pick (ix := [0, 1, 2]) (by decide)⟩
end Go.Proofs.Ytejogdielfgeoaa
/- The law AllocatorUndo, walked. -/
namespace Go.Proofs.Ytejogdielfgeoaa
open Go.RowKit Go.Shelf
set_option linter.unusedVariables false
set_option linter.unusedSimpArgs false
set_option maxRecDepth 100000
theorem err_small {m : Int} (h : 1 ≤ m ∧ m ≤ 300) : Sz.err m = 0 := by
  unfold Sz.err
  rw [if_neg (by omega), if_neg (by omega)]
theorem find_two {m : Int} (fr : List Ext) (h : Sz.err m = 0) : Ex.findF fr m = (⟨0, 0⟩, 18) ∨ ∃ e, Ex.findF fr m = (e, 0) := by
  unfold Ex.findF
  rw [if_pos h]
  split
  · exact .inl rfl
  · exact .inr ⟨_, rfl⟩
theorem undo_us {N : Int} {us fr : List Ext} {tk : List (Int × Int)} {e : Ext} (h : Ex.Inv N (us ++ [e]) fr tk) : (us ++ [e]).filter (fun x => decide (x ≠ e)) = us ∧ e ∉ us := by
  have hn := h.nodup
  have h1 : e ∉ us := fun he => by
    have := (List.nodup_append.1 hn).2.2 e he e (by simp)
    exact this rfl
  refine ⟨?_, h1⟩
  rw [List.filter_append, List.filter_eq_self.2 (fun y hy => decide_eq_true (by rintro rfl; exact h1 hy))]
  simp
set_option maxRecDepth 100000 in
theorem sAlLUn1 : type_of% (And.intro (And.intro @eBox.eq_1 (And.intro @exV.eq_1 @alL.eq_1)) (And.intro (And.intro @Nat.mul_one @wrap_in) (And.intro @cMp @cM))) := (And.intro (And.intro @eBox.eq_1 (And.intro @exV.eq_1 @alL.eq_1)) (And.intro (And.intro @Nat.mul_one @wrap_in) (And.intro @cMp @cM)))
set_option maxHeartbeats 4000000 in
theorem alUndo_walk (W : World) (room : Int) (hr : 0 ≤ room ∧ room ≤ 65535) (A : Option Addr) (n c : Nat) (l : List S3) (hE : Sl W W.heap.size 3 A n c (cl s3V l)) (hb : ∀ s ∈ l, s.ok) (k : Int) (hk : 0 ≤ k ∧ k ≤ 65535) :
    Calls Try.prog 7 #[.int .u16 room, .slice A n c, .int .u16 k] W fun e w' => e = .returned (.bool true) ∧ Below W.heap.size W w' := by
  obtain ⟨N, hN⟩ : ∃ N : Nat, room % 2000 = (N : Int) := ⟨(room % 2000).toNat, by omega⟩
  have hN1 : N ≤ 1048576 := by omega
  obtain ⟨m, hm⟩ : ∃ m : Int, 1 + k % 300 = m := ⟨_, rfl⟩
  have hm1 : 1 ≤ m ∧ m ≤ 300 := by omega
  refine calls_cv (M := []) (n := 65) [.tmp 6] rfl Try.func7 rfl rfl (Nat.le_of_ble_eq_true rfl) (St.nil _ _) ?_
  refine cv_seq_k fun K hK => ?_
  refine cv_region_then rfl ?_
  simp -implicitDefEqProofs (disch := first | omega | decide) only [seval, -Int.reducePow, -Nat.reducePow, cC, pv, binv, sAlLUn1, undef, List.cons_append, List.nil_append]
  refine hK _ _ ?_
  clear hK K
  refine cv_seq_k fun K hK => ?_
  refine cv_region_then rfl ?_
  simp -implicitDefEqProofs (disch := first | omega | decide) only [seval, -Int.reducePow, -Nat.reducePow, cC, pv, binv, sAlLUn1, undef, List.cons_append, List.nil_append, hN]
  refine callV_grp [] [] (by decide) (fun x : AlR × List Ext => .tuple #[.pointer (some ⟨x.1.bA, 0, none⟩), .bool true]) (fun x => alL x.1) (fun x => Ex.Inv (N : Int) x.2 x.1.fr x.1.tk ∧ x.2.length ≤ 24) (fun w hw hs => alRun_any N hN1 A n c l w (hE.at hw) hb) ?_
  rintro ⟨⟨bA, bm, FA, fn, fc, fr, tk⟩, us⟩ ⟨hI, hl⟩
  dsimp only at hI hl
  have hfl := hI.frLen
  have hfr := hI.fr
  simp only [pickL, nth]
  simp -implicitDefEqProofs (disch := first | omega | decide) only [seval, -Int.reducePow, -Nat.reducePow, cC, pv, binv, sAlLUn1, undef, List.cons_append, List.nil_append]
  refine hK _ _ ?_
  clear hK K
  refine cv_seq_k fun K hK => ?_
  refine cv_seq_k fun K hK => ?_
  refine cv_region_then rfl ?_
  simp -implicitDefEqProofs (disch := first | omega | decide) only [seval, -Int.reducePow, -Nat.reducePow, cC, pv, binv, sAlLUn1, undef, List.cons_append, List.nil_append]
  refine hK _ _ ?_
  clear hK K
  refine cv_cond ?_
  simp -implicitDefEqProofs (disch := first | omega | decide) only [seval, -Int.reducePow, -Nat.reducePow, cC, pv, binv, sAlLUn1, undef, List.cons_append, List.nil_append]
  refine cv_skip ?_
  try simp only [blockQ, thenQ]
  refine hK _ _ ?_
  clear hK K
  refine cv_seq_k fun K hK => ?_
  refine cv_region_then rfl ?_
  simp -implicitDefEqProofs (disch := first | omega | decide) only [seval, -Int.reducePow, -Nat.reducePow, cC, pv, binv, sAlLUn1, undef, List.cons_append, List.nil_append]
  refine callV_row (fun A n c => .slice A n c) (fun w hw => (aFreeList_any ⟨bA, bm, FA, fn, fc, fr, tk⟩ w (AlW.of (x := ⟨bA, bm, FA, fn, fc, fr, tk⟩) hw 0 1 2 rfl rfl rfl (by dsimp only; omega)))) ?_
  intro A1 n1 c1 hl1 hr1
  dsimp only at hl1
  dsimp only
  simp -implicitDefEqProofs (disch := first | omega | decide) only [seval, -Int.reducePow, -Nat.reducePow, cC, pv, binv, sAlLUn1, undef, List.cons_append, List.nil_append]
  refine hK _ _ ?_
  clear hK K
  refine cv_seq_k fun K hK => ?_
  refine cv_region_then rfl ?_
  rcases find_two fr (err_small hm1) with hq | ⟨q, hq⟩
  · simp -implicitDefEqProofs (disch := first | omega | decide) only [seval, -Int.reducePow, -Nat.reducePow, cC, pv, binv, sAlLUn1, undef, List.cons_append, List.nil_append, hm]
    refine callV_grp [1, 2, 3] [0] (by decide) (fun _ : Unit => .tuple #[.agg #[.int .i64 0, .int .i64 0], .int .i64 18]) (fun _ => alL ⟨bA, bm, FA, fn, fc, fr, tk⟩) (fun _ => True) (fun w hw hs => by
      have := aAlloc_any ⟨bA, bm, FA, fn, fc, fr, tk⟩ (N : Int) us m w hs hI (by omega)
      dsimp only at this
      rw [hq] at this
      refine this.mono ?_
      rintro e w' ⟨y, rfl, ⟨-, h2, -⟩, h4⟩
      rw [h2 (by decide)] at h4
      exact ⟨(), rfl, trivial, h4⟩) ?_
    intro _ _
    simp only [pickL, nth]
    simp -implicitDefEqProofs (disch := first | omega | decide) only [seval, -Int.reducePow, -Nat.reducePow, cC, pv, binv, sAlLUn1, undef, List.cons_append, List.nil_append]
    intro b10 hb10 hf10
    refine hK _ _ ?_
    clear hK K
    refine cv_gen fun G1 hG => ?_
    have g1_7 := congrFun hG 7
    have g1_9 := congrFun hG 9
    have g1_10 := congrFun hG 10
    have g1_11 := congrFun hG 11
    clear hG
    try simp -implicitDefEqProofs (disch := first | omega | decide) only [seval, -Int.reducePow, -Nat.reducePow, cC, pv, binv, sAlLUn1, undef, List.cons_append, List.nil_append] at g1_7 g1_9 g1_10 g1_11
    have g1 := And.intro g1_7 (And.intro g1_9 (And.intro g1_10 g1_11))
    refine cv_seq_k fun K hK => ?_
    refine cv_seq_k fun K hK => ?_
    refine cv_region_then rfl ?_
    simp -implicitDefEqProofs (disch := first | omega | decide) only [seval, -Int.reducePow, -Nat.reducePow, cC, pv, binv, sAlLUn1, undef, List.cons_append, List.nil_append, g1]
    refine hK _ _ ?_
    clear hK K
    refine cv_cond ?_
    simp -implicitDefEqProofs (disch := first | omega | decide) only [seval, -Int.reducePow, -Nat.reducePow, cC, pv, binv, sAlLUn1, undef, List.cons_append, List.nil_append, g1]
    refine cv_seq_k fun K hK => ?_
    refine cv_region_then rfl ?_
    simp -implicitDefEqProofs (disch := first | omega | decide) only [seval, -Int.reducePow, -Nat.reducePow, cC, pv, binv, sAlLUn1, undef, List.cons_append, List.nil_append, g1]
    refine callV_ret (fun w hw => alAwake_any w) ?_
    try simp -implicitDefEqProofs (disch := first | omega | decide) only [seval, -Int.reducePow, -Nat.reducePow, cC, pv, binv, sAlLUn1, undef, List.cons_append, List.nil_append, g1]
    refine callV_row (fun A n c => .slice A n c) (fun w hw => (aFreeList_any ⟨bA, bm, FA, fn, fc, fr, tk⟩ w (AlW.of (x := ⟨bA, bm, FA, fn, fc, fr, tk⟩) hw 1 2 3 rfl rfl rfl (by dsimp only; omega)))) ?_
    intro A2 n2 c2 hl2 hr2
    dsimp only at hl2
    dsimp only
    simp -implicitDefEqProofs (disch := first | omega | decide) only [seval, -Int.reducePow, -Nat.reducePow, cC, pv, binv, sAlLUn1, undef, List.cons_append, List.nil_append, g1]
    refine callV_ret (fun w hw => esame_any A2 A1 n2 c2 n1 c1 fr w (Exts.of_row hw (.head _)) (Exts.of_row hw (nth_mem (k := 5) rfl)) (by omega)) ?_
    try simp -implicitDefEqProofs (disch := first | omega | decide) only [seval, -Int.reducePow, -Nat.reducePow, cC, pv, binv, sAlLUn1, undef, List.cons_append, List.nil_append, g1]
    refine hK _ _ ?_
    clear hK K
    refine cv_ret ⟨_, (by simp -implicitDefEqProofs (disch := first | omega | decide) only [seval, -Int.reducePow, -Nat.reducePow, cC, pv, binv, sAlLUn1, undef, List.cons_append, List.nil_append, g1]; rfl), fun w hw => ?_⟩
    exact ⟨rfl, hw.below⟩
  · simp -implicitDefEqProofs (disch := first | omega | decide) only [seval, -Int.reducePow, -Nat.reducePow, cC, pv, binv, sAlLUn1, undef, List.cons_append, List.nil_append, hm]
    refine callV_grp [1, 2, 3] [0] (by decide) (fun _ : AlR => .tuple #[.agg #[.int .i64 q.off, .int .i64 q.len], .int .i64 0]) (fun y => alL y) (fun y => y.bA = bA ∧ Ex.Inv (N : Int) (us ++ [q]) y.fr y.tk) (fun w hw hs => by
      have := aAlloc_any ⟨bA, bm, FA, fn, fc, fr, tk⟩ (N : Int) us m w hs hI (by omega)
      dsimp only at this
      rw [hq] at this
      refine this.mono ?_
      rintro e w' ⟨y, rfl, ⟨h1, -, h3⟩, h4⟩
      exact ⟨y, rfl, ⟨h1, h3 rfl⟩, h4⟩) ?_
    rintro ⟨bA2, bm2, FA2, fn2, fc2, fr2, tk2⟩ ⟨hb2, hI2⟩
    dsimp only at hb2 hI2
    subst hb2
    have hu := undo_us hI2
    simp only [pickL, nth]
    simp -implicitDefEqProofs (disch := first | omega | decide) only [seval, -Int.reducePow, -Nat.reducePow, cC, pv, binv, sAlLUn1, undef, List.cons_append, List.nil_append]
    intro b10 hb10 hf10
    refine hK _ _ ?_
    clear hK K
    refine cv_gen fun G2 hG => ?_
    have g2_7 := congrFun hG 7
    have g2_9 := congrFun hG 9
    have g2_10 := congrFun hG 10
    have g2_11 := congrFun hG 11
    clear hG
    try simp -implicitDefEqProofs (disch := first | omega | decide) only [seval, -Int.reducePow, -Nat.reducePow, cC, pv, binv, sAlLUn1, undef, List.cons_append, List.nil_append] at g2_7 g2_9 g2_10 g2_11
    have g2 := And.intro g2_7 (And.intro g2_9 (And.intro g2_10 g2_11))
    refine cv_seq_k fun K hK => ?_
    refine cv_seq_k fun K hK => ?_
    refine cv_region_then rfl ?_
    simp -implicitDefEqProofs (disch := first | omega | decide) only [seval, -Int.reducePow, -Nat.reducePow, cC, pv, binv, sAlLUn1, undef, List.cons_append, List.nil_append, g2]
    refine hK _ _ ?_
    clear hK K
    refine cv_cond ?_
    simp -implicitDefEqProofs (disch := first | omega | decide) only [seval, -Int.reducePow, -Nat.reducePow, cC, pv, binv, sAlLUn1, undef, List.cons_append, List.nil_append, g2]
    refine cv_skip ?_
    try simp only [blockQ, thenQ]
    refine hK _ _ ?_
    clear hK K
    refine cv_seq_k fun K hK => ?_
    refine cv_region_then rfl ?_
    simp -implicitDefEqProofs (disch := first | omega | decide) only [seval, -Int.reducePow, -Nat.reducePow, cC, pv, binv, sAlLUn1, undef, List.cons_append, List.nil_append, g2]
    refine callV_ret (fun w hw => alAwake_any w) ?_
    try simp -implicitDefEqProofs (disch := first | omega | decide) only [seval, -Int.reducePow, -Nat.reducePow, cC, pv, binv, sAlLUn1, undef, List.cons_append, List.nil_append, g2]
    refine callV_grp [1, 2, 3] [0, 4] (by decide) (fun _ : AlR => .int .i64 0) (fun y => alL y) (fun y => y.bA = bA2 ∧ Ex.Inv (N : Int) us y.fr y.tk) (fun w hw hs => by
      have := aFree_any ⟨bA2, bm2, FA2, fn2, fc2, fr2, tk2⟩ (N : Int) (us ++ [q]) q w hs hI2 (by simp; omega)
      rw [hu.1, if_pos (by simp)] at this
      refine this.mono ?_
      rintro e w' ⟨y, rfl, ⟨h1, -, h3⟩, h4⟩
      exact ⟨y, rfl, ⟨h1, h3 (by simp)⟩, h4⟩) ?_
    rintro ⟨bA3, bm3, FA3, fn3, fc3, fr3, tk3⟩ ⟨hb3, hI3⟩
    dsimp only at hb3 hI3
    subst hb3
    have hfr3 : fr3 = fr := by rw [hI3.fr, hfr]
    subst hfr3
    simp only [pickL, nth]
    simp -implicitDefEqProofs (disch := first | omega | decide) only [seval, -Int.reducePow, -Nat.reducePow, cC, pv, binv, sAlLUn1, undef, List.cons_append, List.nil_append, g2]
    refine callV_row (fun A n c => .slice A n c) (fun w hw => (aFreeList_any ⟨bA3, bm3, FA3, fn3, fc3, fr3, tk3⟩ w (AlW.of (x := ⟨bA3, bm3, FA3, fn3, fc3, fr3, tk3⟩) hw 0 1 2 rfl rfl rfl (by dsimp only; omega)))) ?_
    intro A2 n2 c2 hl2 hr2
    dsimp only at hl2
    dsimp only
    simp -implicitDefEqProofs (disch := first | omega | decide) only [seval, -Int.reducePow, -Nat.reducePow, cC, pv, binv, sAlLUn1, undef, List.cons_append, List.nil_append, g2]
    refine callV_ret (fun w hw => esame_any A2 A1 n2 c2 n1 c1 fr3 w (Exts.of_row hw (.head _)) (Exts.of_row hw (nth_mem (k := 5) rfl)) (by omega)) ?_
    try simp -implicitDefEqProofs (disch := first | omega | decide) only [seval, -Int.reducePow, -Nat.reducePow, cC, pv, binv, sAlLUn1, undef, List.cons_append, List.nil_append, g2]
    refine callV_grp [1, 2, 3] [0, 4, 5] (by decide) (fun _ : AlR => .int .i64 6) (fun y => alL y) (fun _ => True) (fun w hw hs => by
      have := aFree_any ⟨bA3, bm3, FA3, fn3, fc3, fr3, tk3⟩ (N : Int) us q w hs hI3 (by omega)
      rw [if_neg hu.2] at this
      refine this.mono ?_
      rintro e w' ⟨y, rfl, -, h4⟩
      exact ⟨y, rfl, trivial, h4⟩) ?_
    intro _ _
    simp only [pickL, nth]
    simp -implicitDefEqProofs (disch := first | omega | decide) only [seval, -Int.reducePow, -Nat.reducePow, cC, pv, binv, sAlLUn1, undef, List.cons_append, List.nil_append, g2]
    refine hK _ _ ?_
    clear hK K
    refine cv_ret ⟨_, (by simp -implicitDefEqProofs (disch := first | omega | decide) only [seval, -Int.reducePow, -Nat.reducePow, cC, pv, binv, sAlLUn1, undef, List.cons_append, List.nil_append, g2]; rfl), fun w hw => ?_⟩
    exact ⟨rfl, hw.below⟩
end Go.Proofs.Ytejogdielfgeoaa
/- The law AllocatorExact, walked. -/
namespace Go.Proofs.Ytejogdielfgeoaa
open Go.RowKit Go.Shelf
set_option linter.unusedVariables false
set_option linter.unusedSimpArgs false
set_option maxRecDepth 100000
structure BeI (r : Int) (fr : List Ext) (i : Nat) (f : Bool) (b : Int) : Prop where
  is : b = (Ex.best r (fr.take i)).len ∧ (f = true ↔ (Ex.best r (fr.take i)).len ≠ 0)
structure MeI (q : Ext) (fr : List Ext) (i : Nat) (g : Bool) : Prop where
  is : g = true ↔ q ∈ fr.take i
theorem take_snoc {fr : List Ext} {i : Nat} (h : i < fr.length) : fr.take (i + 1) = fr.take i ++ [Ex.get fr i] := by rw [List.take_add_one, List.getElem?_eq_getElem h, Ex.get_eq h]; rfl
set_option maxRecDepth 100000 in
theorem sAlLEx1 : type_of% (And.intro (And.intro @eBox.eq_1 (And.intro @exV.eq_1 @alL.eq_1)) (And.intro (And.intro @Nat.mul_one @wrap_in) (And.intro @cMp @cM))) := (And.intro (And.intro @eBox.eq_1 (And.intro @exV.eq_1 @alL.eq_1)) (And.intro (And.intro @Nat.mul_one @wrap_in) (And.intro @cMp @cM)))
set_option maxHeartbeats 4000000 in
theorem alExact_walk (W : World) (room : Int) (hr : 0 ≤ room ∧ room ≤ 65535) (A : Option Addr) (n c : Nat) (l : List S3) (hE : Sl W W.heap.size 3 A n c (cl s3V l)) (hb : ∀ s ∈ l, s.ok) (k : Int) (hk : 0 ≤ k ∧ k ≤ 65535) :
    Calls Try.prog 8 #[.int .u16 room, .slice A n c, .int .u16 k] W fun e w' => e = .returned (.bool true) ∧ Below W.heap.size W w' := by
  obtain ⟨N, hN⟩ : ∃ N : Nat, room % 2000 = (N : Int) := ⟨(room % 2000).toNat, by omega⟩
  have hN1 : N ≤ 1048576 := by omega
  obtain ⟨m, hm⟩ : ∃ m : Int, 1 + k % 300 = m := ⟨_, rfl⟩
  have hm1 : 1 ≤ m ∧ m ≤ 300 := by omega
  refine calls_cv (M := []) (n := 120) [.tmp 6] rfl Try.func8 rfl rfl (Nat.le_of_ble_eq_true rfl) (St.nil _ _) ?_
  refine cv_seq_k fun K hK => ?_
  refine cv_region_then rfl ?_
  simp -implicitDefEqProofs (disch := first | omega | decide) only [seval, -Int.reducePow, -Nat.reducePow, cC, pv, binv, sAlLEx1, undef, List.cons_append, List.nil_append]
  refine hK _ _ ?_
  clear hK K
  refine cv_seq_k fun K hK => ?_
  refine cv_region_then rfl ?_
  simp -implicitDefEqProofs (disch := first | omega | decide) only [seval, -Int.reducePow, -Nat.reducePow, cC, pv, binv, sAlLEx1, undef, List.cons_append, List.nil_append, hN]
  refine callV_grp [] [] (by decide) (fun x : AlR × List Ext => .tuple #[.pointer (some ⟨x.1.bA, 0, none⟩), .bool true]) (fun x => alL x.1) (fun x => Ex.Inv (N : Int) x.2 x.1.fr x.1.tk ∧ x.2.length ≤ 24) (fun w hw hs => alRun_any N hN1 A n c l w (hE.at hw) hb) ?_
  rintro ⟨⟨bA, bm, FA, fn, fc, fr, tk⟩, us⟩ ⟨hI, hl⟩
  dsimp only at hI hl
  have hfl := hI.frLen
  have hfr := hI.fr
  simp only [pickL, nth]
  simp -implicitDefEqProofs (disch := first | omega | decide) only [seval, -Int.reducePow, -Nat.reducePow, cC, pv, binv, sAlLEx1, undef, List.cons_append, List.nil_append]
  refine hK _ _ ?_
  clear hK K
  refine cv_seq_k fun K hK => ?_
  refine cv_seq_k fun K hK => ?_
  refine cv_region_then rfl ?_
  simp -implicitDefEqProofs (disch := first | omega | decide) only [seval, -Int.reducePow, -Nat.reducePow, cC, pv, binv, sAlLEx1, undef, List.cons_append, List.nil_append]
  refine hK _ _ ?_
  clear hK K
  refine cv_cond ?_
  simp -implicitDefEqProofs (disch := first | omega | decide) only [seval, -Int.reducePow, -Nat.reducePow, cC, pv, binv, sAlLEx1, undef, List.cons_append, List.nil_append]
  refine cv_skip ?_
  try simp only [blockQ, thenQ]
  refine hK _ _ ?_
  clear hK K
  have hr0 := Ex.rnd_bd (err_small hm1)
  obtain ⟨r, hrr⟩ : ∃ r, Sz.rnd m = r := ⟨_, rfl⟩
  rw [hrr] at hr0
  refine cv_seq_k fun K hK => ?_
  refine cv_region_then rfl ?_
  simp -implicitDefEqProofs (disch := first | omega | decide) only [seval, -Int.reducePow, -Nat.reducePow, cC, pv, binv, sAlLEx1, undef, List.cons_append, List.nil_append, hm]
  refine callV_ret (fun w hw => rround_any m w) ?_
  try simp -implicitDefEqProofs (disch := first | omega | decide) only [seval, -Int.reducePow, -Nat.reducePow, cC, pv, binv, sAlLEx1, undef, List.cons_append, List.nil_append, hrr]
  refine hK _ _ ?_
  clear hK K
  refine cv_seq_k fun K hK => ?_
  refine cv_region_then rfl ?_
  simp -implicitDefEqProofs (disch := first | omega | decide) only [seval, -Int.reducePow, -Nat.reducePow, cC, pv, binv, sAlLEx1, undef, List.cons_append, List.nil_append]
  refine hK _ _ ?_
  clear hK K
  refine cv_seq_k fun K hK => ?_
  refine cv_region_then rfl ?_
  simp -implicitDefEqProofs (disch := first | omega | decide) only [seval, -Int.reducePow, -Nat.reducePow, cC, pv, binv, sAlLEx1, undef, List.cons_append, List.nil_append]
  refine callV_row (fun A n c => .slice A n c) (fun w hw => (aFreeList_any ⟨bA, bm, FA, fn, fc, fr, tk⟩ w (AlW.of (x := ⟨bA, bm, FA, fn, fc, fr, tk⟩) hw 0 1 2 rfl rfl rfl (by dsimp only; omega)))) ?_
  intro A1 n1 c1 hl1 hr1
  dsimp only at hl1
  dsimp only
  simp -implicitDefEqProofs (disch := first | omega | decide) only [seval, -Int.reducePow, -Nat.reducePow, cC, pv, binv, sAlLEx1, undef, List.cons_append, List.nil_append]
  refine hK _ _ ?_
  clear hK K
  have hn1 : fr.length = n1 := by rw [exCells_len] at hl1; omega
  refine cv_seq_k fun K hK => ?_
  refine cv_seq_k fun K hK => ?_
  refine cv_region_then rfl ?_
  simp -implicitDefEqProofs (disch := first | omega | decide) only [seval, -Int.reducePow, -Nat.reducePow, cC, pv, binv, sAlLEx1, undef, List.cons_append, List.nil_append]
  refine hK _ _ ?_
  clear hK K
  refine cv_gen fun G1 hG => ?_
  have g1_2 := congrFun hG 2
  have g1_7 := congrFun hG 7
  have g1_9 := congrFun hG 9
  have g1_11 := congrFun hG 11
  have g1_12 := congrFun hG 12
  have g1_13 := congrFun hG 13
  have g1_41 := congrFun hG 41
  have g1_42 := congrFun hG 42
  have g1_43 := congrFun hG 43
  clear hG
  try simp -implicitDefEqProofs (disch := first | omega | decide) only [seval, -Int.reducePow, -Nat.reducePow, cC, pv, binv, sAlLEx1, undef, List.cons_append, List.nil_append] at g1_2 g1_7 g1_9 g1_11 g1_12 g1_13 g1_41 g1_42 g1_43
  have g1 := And.intro g1_2 (And.intro g1_7 (And.intro g1_9 (And.intro g1_11 (And.intro g1_12 (And.intro g1_13 (And.intro g1_41 (And.intro g1_42 g1_43)))))))
  refine cv_block ?_
  refine cv_loop (fun F' L' => ∃ (i : Nat) (f : Bool) (b : Int), F' 2 = G1 2 ∧ F' 7 = G1 7 ∧ F' 9 = G1 9 ∧ F' 11 = .bool f ∧ F' 12 = .int .i64 b ∧ F' 13 = G1 13 ∧ F' 41 = G1 41 ∧ F' 42 = G1 42 ∧ F' 43 = .int .i64 (i : Int) ∧ L' = [.row (.slice A1 n1 c1) 39 2 n1 (exCells fr), .blk bA 42 [.slice FA fn fc, .map (some bm)], mpR bm tk, .row (.slice FA fn fc) 39 2 fn (exCells fr)] ∧ i ≤ n1 ∧ BeI r fr i f b) (fun F' L' => 400 - (intOf (F' 43)).toNat) ?_ ?_
  · refine ⟨0, false, 0, ?_⟩
    simp -implicitDefEqProofs (disch := first | omega | decide) only [seval, -Int.reducePow, -Nat.reducePow, cC, pv, binv, sAlLEx1, undef, List.cons_append, List.nil_append, g1]
    exact ⟨Nat.zero_le _, ⟨rfl, by simp [Ex.best]⟩⟩
  intro G2 L' hI
  obtain ⟨i, f, b, q2, q7, q9, q11, q12, q13, q41, q42, q43, rfl, ⟨hi, ⟨hb1, hb2⟩⟩⟩ := hI
  have g2_2 := q2.trans g1_2
  have g2_7 := q7.trans g1_7
  have g2_9 := q9.trans g1_9
  have g2_11 := q11
  have g2_12 := q12
  have g2_13 := q13.trans g1_13
  have g2_41 := q41.trans g1_41
  have g2_42 := q42.trans g1_42
  have g2_43 := q43
  clear q2 q7 q9 q11 q12 q13 q41 q42 q43
  have g2 := And.intro g2_2 (And.intro g2_7 (And.intro g2_9 (And.intro g2_11 (And.intro g2_12 (And.intro g2_13 (And.intro g2_41 (And.intro g2_42 g2_43)))))))
  refine cv_seq_k fun K hK => ?_
  refine cv_region_then rfl ?_
  simp -implicitDefEqProofs (disch := first | omega | decide) only [seval, -Int.reducePow, -Nat.reducePow, cC, pv, binv, sAlLEx1, undef, List.cons_append, List.nil_append, g1, g2]
  refine hK _ _ ?_
  clear hK K
  refine cv_seq_k fun K hK => ?_
  refine cv_cond ?_
  simp -implicitDefEqProofs (disch := first | omega | decide) only [seval, -Int.reducePow, -Nat.reducePow, cC, pv, binv, sAlLEx1, undef, List.cons_append, List.nil_append, g1, g2]
  refine ⟨fun hc => ?_, fun hc => ?_⟩
  · refine cv_skip ?_
    try simp only [blockQ, thenQ]
    have hit : i < n1 := by have := of_decide_eq_true ‹decide ((i : Int) < (n1 : Int)) = true›; omega
    refine hK _ _ ?_
    clear hK K
    have hiS : i < fr.length := by omega
    obtain ⟨x, hx⟩ : ∃ x, Ex.get fr i = x := ⟨_, rfl⟩
    have hcx := exCells_two fr i hiS
    have hbt := Ex.best_take (size := r) hiS
    rw [hx] at hcx hbt
    obtain ⟨B, hB⟩ : ∃ B, Ex.best r (fr.take i) = B := ⟨_, rfl⟩
    rw [hB] at hb1 hb2 hbt
    have hup : r ≤ x.len ∧ (B.len = 0 ∨ x.len < B.len) → BeI r fr (i + 1) true x.len := fun h => by
      refine ⟨?_⟩
      rw [hbt, Ex.bstep, if_pos h]
      exact ⟨rfl, by simp; omega⟩
    have hno : ¬ (r ≤ x.len ∧ (B.len = 0 ∨ x.len < B.len)) → BeI r fr (i + 1) f b := fun h => by
      refine ⟨?_⟩
      rw [hbt, Ex.bstep, if_neg h]
      exact ⟨hb1, hb2⟩
    refine cv_rowA 0 rfl (by omega) fun g hAA hg hNN => ?_
    subst hAA
    simp only [List.eraseIdx_cons_zero, List.eraseIdx_cons_succ, neB_nil, neB_blk, neB_row, neB_snap, and_true, List.not_mem_nil, or_false, sAlLEx1, undef, List.cons_append, List.nil_append] at hNN hg
    replace hg := And.intro hg hNN
    clear hNN
    refine cv_seq_k fun K hK => ?_
    refine cv_block ?_
    refine cv_seq_k fun K hK => ?_
    refine cv_region_then rfl ?_
    simp -implicitDefEqProofs (disch := first | omega | decide) only [seval, -Int.reducePow, -Nat.reducePow, cC, pv, binv, sAlLEx1, undef, List.cons_append, List.nil_append, g1, g2]
    refine ⟨_, ld_row (i := i * 2) (vs := [.int .i64 x.off, .int .i64 x.len]) (.head _) rfl hcx, fun tok htok => ?_⟩
    subst htok
    simp -implicitDefEqProofs (disch := first | omega | decide) only [seval, -Int.reducePow, -Nat.reducePow, cC, pv, binv, sAlLEx1, undef, List.cons_append, List.nil_append, g1, g2]
    intro b15 hb15 hf15
    refine hK _ _ ?_
    clear hK K
    refine cv_seq_k fun K hK => ?_
    refine cv_region_then rfl ?_
    by_cases a1 : r ≤ x.len
    · have a1' : decide (r ≤ x.len) = true := decide_eq_true a1
      cases f with
      | false =>
        have h0 : B.len = 0 := by by_cases h : B.len = 0; exact h; exact absurd (hb2.2 h) (by simp)
        have hn := hup ⟨a1, .inl h0⟩
        simp -implicitDefEqProofs (disch := first | omega | decide) only [seval, -Int.reducePow, -Nat.reducePow, cC, pv, binv, sAlLEx1, undef, List.cons_append, List.nil_append, a1', g1, g2]
        refine hK _ _ ?_
        clear hK K
        refine cv_cond ?_
        simp -implicitDefEqProofs (disch := first | omega | decide) only [seval, -Int.reducePow, -Nat.reducePow, cC, pv, binv, sAlLEx1, undef, List.cons_append, List.nil_append, g1, g2]
        refine cv_seq_k fun K hK => ?_
        refine cv_region_then rfl ?_
        simp -implicitDefEqProofs (disch := first | omega | decide) only [seval, -Int.reducePow, -Nat.reducePow, cC, pv, binv, sAlLEx1, undef, List.cons_append, List.nil_append, g1, g2]
        refine hK _ _ ?_
        clear hK K
        refine cv_pick_post [1, 2, 3, 4] (by decide) ?_
        refine cv_region_q rfl ?_
        simp -implicitDefEqProofs (disch := first | omega | decide) only [seval, -Int.reducePow, -Nat.reducePow, cC, pv, binv, sAlLEx1, undef, List.cons_append, List.nil_append, g1, g2]
        refine hK _ _ ?_
        clear hK K
        refine cv_region_then rfl ?_
        simp -implicitDefEqProofs (disch := first | omega | decide) only [seval, -Int.reducePow, -Nat.reducePow, cC, pv, binv, sAlLEx1, undef, List.cons_append, List.nil_append, g1, g2]
        refine ⟨⟨i + 1, true, x.len, ?_⟩, ?_⟩
        · simp -implicitDefEqProofs (disch := first | omega | decide) only [seval, -Int.reducePow, -Nat.reducePow, cC, pv, binv, sAlLEx1, undef, List.cons_append, List.nil_append, Int.natCast_add, g1, g2]
          exact ⟨by omega, hn⟩
        · simp only [intOf]; omega
      | true =>
        have h0 : B.len ≠ 0 := hb2.1 rfl
        by_cases a2 : x.len < b
        · have a2' : decide (x.len < b) = true := decide_eq_true a2
          have hn := hup ⟨a1, .inr (by omega)⟩
          simp -implicitDefEqProofs (disch := first | omega | decide) only [seval, -Int.reducePow, -Nat.reducePow, cC, pv, binv, sAlLEx1, undef, List.cons_append, List.nil_append, a1', a2', g1, g2]
          refine hK _ _ ?_
          clear hK K
          refine cv_cond ?_
          simp -implicitDefEqProofs (disch := first | omega | decide) only [seval, -Int.reducePow, -Nat.reducePow, cC, pv, binv, sAlLEx1, undef, List.cons_append, List.nil_append, g1, g2]
          refine cv_seq_k fun K hK => ?_
          refine cv_region_then rfl ?_
          simp -implicitDefEqProofs (disch := first | omega | decide) only [seval, -Int.reducePow, -Nat.reducePow, cC, pv, binv, sAlLEx1, undef, List.cons_append, List.nil_append, g1, g2]
          refine hK _ _ ?_
          clear hK K
          refine cv_pick_post [1, 2, 3, 4] (by decide) ?_
          refine cv_region_q rfl ?_
          simp -implicitDefEqProofs (disch := first | omega | decide) only [seval, -Int.reducePow, -Nat.reducePow, cC, pv, binv, sAlLEx1, undef, List.cons_append, List.nil_append, g1, g2]
          refine hK _ _ ?_
          clear hK K
          refine cv_region_then rfl ?_
          simp -implicitDefEqProofs (disch := first | omega | decide) only [seval, -Int.reducePow, -Nat.reducePow, cC, pv, binv, sAlLEx1, undef, List.cons_append, List.nil_append, g1, g2]
          refine ⟨⟨i + 1, true, x.len, ?_⟩, ?_⟩
          · simp -implicitDefEqProofs (disch := first | omega | decide) only [seval, -Int.reducePow, -Nat.reducePow, cC, pv, binv, sAlLEx1, undef, List.cons_append, List.nil_append, Int.natCast_add, g1, g2]
            exact ⟨by omega, hn⟩
          · simp only [intOf]; omega
        · have a2' : decide (x.len < b) = false := decide_eq_false a2
          have hn := hno (by omega)
          simp -implicitDefEqProofs (disch := first | omega | decide) only [seval, -Int.reducePow, -Nat.reducePow, cC, pv, binv, sAlLEx1, undef, List.cons_append, List.nil_append, a1', a2', g1, g2]
          refine hK _ _ ?_
          clear hK K
          refine cv_cond ?_
          simp -implicitDefEqProofs (disch := first | omega | decide) only [seval, -Int.reducePow, -Nat.reducePow, cC, pv, binv, sAlLEx1, undef, List.cons_append, List.nil_append, g1, g2]
          refine cv_pick [1, 2, 3, 4] (by decide) ?_
          simp only [pickL, nth]
          refine cv_skip ?_
          try simp only [blockQ, thenQ]
          refine hK _ _ ?_
          clear hK K
          refine cv_region_then rfl ?_
          simp -implicitDefEqProofs (disch := first | omega | decide) only [seval, -Int.reducePow, -Nat.reducePow, cC, pv, binv, sAlLEx1, undef, List.cons_append, List.nil_append, g1, g2]
          refine ⟨⟨i + 1, true, b, ?_⟩, ?_⟩
          rotate_left
          · simp only [intOf]; omega
          · simp -implicitDefEqProofs (disch := first | omega | decide) only [seval, -Int.reducePow, -Nat.reducePow, cC, pv, binv, sAlLEx1, undef, List.cons_append, List.nil_append, Int.natCast_add, g1, g2]
            exact ⟨by omega, hn⟩
    · have a1' : decide (r ≤ x.len) = false := decide_eq_false a1
      have hn := hno (by omega)
      simp -implicitDefEqProofs (disch := first | omega | decide) only [seval, -Int.reducePow, -Nat.reducePow, cC, pv, binv, sAlLEx1, undef, List.cons_append, List.nil_append, a1', g1, g2]
      refine hK _ _ ?_
      clear hK K
      refine cv_cond ?_
      simp -implicitDefEqProofs (disch := first | omega | decide) only [seval, -Int.reducePow, -Nat.reducePow, cC, pv, binv, sAlLEx1, undef, List.cons_append, List.nil_append, g1, g2]
      refine cv_pick [1, 2, 3, 4] (by decide) ?_
      simp only [pickL, nth]
      refine cv_skip ?_
      try simp only [blockQ, thenQ]
      refine hK _ _ ?_
      clear hK K
      refine cv_region_then rfl ?_
      simp -implicitDefEqProofs (disch := first | omega | decide) only [seval, -Int.reducePow, -Nat.reducePow, cC, pv, binv, sAlLEx1, undef, List.cons_append, List.nil_append, g1, g2]
      refine ⟨⟨i + 1, f, b, ?_⟩, ?_⟩
      rotate_left
      · simp only [intOf]; omega
      · simp -implicitDefEqProofs (disch := first | omega | decide) only [seval, -Int.reducePow, -Nat.reducePow, cC, pv, binv, sAlLEx1, undef, List.cons_append, List.nil_append, Int.natCast_add, g1, g2]
        exact ⟨by omega, hn⟩
  refine cv_exit ?_
  simp only [blockQ, thenQ, if_true, ite_true]
  clear hK K
  refine hK _ _ ?_
  clear hK K
  have hit : ¬ i < n1 := by have := of_decide_eq_false ‹decide ((i : Int) < (n1 : Int)) = false›; omega
  rw [List.take_of_length_le (by omega)] at hb1 hb2
  obtain ⟨B, hB⟩ : ∃ B, Ex.best r fr = B := ⟨_, rfl⟩
  have hbs := Ex.best_spec (size := r) (by omega) fr
  rw [hB] at hb1 hb2 hbs
  refine cv_gen fun G3 hG => ?_
  have g3_2 := congrFun hG 2
  have g3_7 := congrFun hG 7
  have g3_9 := congrFun hG 9
  have g3_11 := congrFun hG 11
  have g3_12 := congrFun hG 12
  have g3_13 := congrFun hG 13
  clear hG
  try simp -implicitDefEqProofs (disch := first | omega | decide) only [seval, -Int.reducePow, -Nat.reducePow, cC, pv, binv, sAlLEx1, undef, List.cons_append, List.nil_append, g1, g2] at g3_2 g3_7 g3_9 g3_11 g3_12 g3_13
  have g3 := And.intro g3_2 (And.intro g3_7 (And.intro g3_9 (And.intro g3_11 (And.intro g3_12 g3_13))))
  refine cv_seq_k fun K hK => ?_
  refine cv_region_then rfl ?_
  cases f with
  | false =>
    have h0 : B.len = 0 := by by_cases h : B.len = 0; exact h; exact absurd (hb2.2 h) (by simp)
    have hq : Ex.findF fr m = (⟨0, 0⟩, 18) := by unfold Ex.findF; rw [if_pos (err_small hm1), hrr, hB, if_pos h0]
    simp -implicitDefEqProofs (disch := first | omega | decide) only [seval, -Int.reducePow, -Nat.reducePow, cC, pv, binv, sAlLEx1, undef, List.cons_append, List.nil_append, hm, g1, g2, g3]
    refine callV_grp [1, 2, 3] [0] (by decide) (fun _ : Unit => .tuple #[.agg #[.int .i64 0, .int .i64 0], .int .i64 18]) (fun _ => alL ⟨bA, bm, FA, fn, fc, fr, tk⟩) (fun _ => True) (fun w hw hs => by
      have := aAlloc_any ⟨bA, bm, FA, fn, fc, fr, tk⟩ (N : Int) us m w hs hI (by omega)
      dsimp only at this
      rw [hq] at this
      refine this.mono ?_
      rintro e w' ⟨y, rfl, ⟨-, h2, -⟩, h4⟩
      rw [h2 (by decide)] at h4
      exact ⟨(), rfl, trivial, h4⟩) ?_
    intro _ _
    simp only [pickL, nth]
    simp -implicitDefEqProofs (disch := first | omega | decide) only [seval, -Int.reducePow, -Nat.reducePow, cC, pv, binv, sAlLEx1, undef, List.cons_append, List.nil_append, g1, g2, g3]
    intro b16 hb16 hf16
    refine hK _ _ ?_
    clear hK K
    refine cv_seq_k fun K hK => ?_
    refine cv_seq_k fun K hK => ?_
    refine cv_region_then rfl ?_
    simp -implicitDefEqProofs (disch := first | omega | decide) only [seval, -Int.reducePow, -Nat.reducePow, cC, pv, binv, sAlLEx1, undef, List.cons_append, List.nil_append, g1, g2, g3]
    refine hK _ _ ?_
    clear hK K
    refine cv_cond ?_
    simp -implicitDefEqProofs (disch := first | omega | decide) only [seval, -Int.reducePow, -Nat.reducePow, cC, pv, binv, sAlLEx1, undef, List.cons_append, List.nil_append, g1, g2, g3]
    refine cv_seq_k fun K hK => ?_
    refine cv_region_then rfl ?_
    simp -implicitDefEqProofs (disch := first | omega | decide) only [seval, -Int.reducePow, -Nat.reducePow, cC, pv, binv, sAlLEx1, undef, List.cons_append, List.nil_append, g1, g2, g3]
    refine callV_ret (fun w hw => alAwake_any w) ?_
    try simp -implicitDefEqProofs (disch := first | omega | decide) only [seval, -Int.reducePow, -Nat.reducePow, cC, pv, binv, sAlLEx1, undef, List.cons_append, List.nil_append, g1, g2, g3]
    refine hK _ _ ?_
    clear hK K
    refine cv_ret ⟨_, (by simp -implicitDefEqProofs (disch := first | omega | decide) only [seval, -Int.reducePow, -Nat.reducePow, cC, pv, binv, sAlLEx1, undef, List.cons_append, List.nil_append, g1, g2, g3]; rfl), fun w hw => ?_⟩
    exact ⟨rfl, hw.below⟩
  | true =>
    have h0 : B.len ≠ 0 := hb2.1 rfl
    obtain ⟨q, hqq⟩ : ∃ q : Ext, q = ⟨B.off, r⟩ := ⟨_, rfl⟩
    have hq : Ex.findF fr m = (q, 0) := by unfold Ex.findF; rw [if_pos (err_small hm1), hrr, hB, if_neg h0, hqq]
    have hBm : B ∈ fr := by rcases hbs with ⟨h1, -⟩ | ⟨h1, -⟩; exact absurd (by rw [h1]) h0; exact h1
    have hqo : q.off = B.off := by rw [hqq]
    have hql : q.len = r := by rw [hqq]
    clear hqq
    simp -implicitDefEqProofs (disch := first | omega | decide) only [seval, -Int.reducePow, -Nat.reducePow, cC, pv, binv, sAlLEx1, undef, List.cons_append, List.nil_append, hm, g1, g2, g3]
    refine callV_grp [1, 2, 3] [0] (by decide) (fun _ : AlR => .tuple #[.agg #[.int .i64 q.off, .int .i64 q.len], .int .i64 0]) (fun y => alL y) (fun y => y.bA = bA ∧ Ex.Inv (N : Int) (us ++ [q]) y.fr y.tk) (fun w hw hs => by
      have := aAlloc_any ⟨bA, bm, FA, fn, fc, fr, tk⟩ (N : Int) us m w hs hI (by omega)
      dsimp only at this
      rw [hq] at this
      refine this.mono ?_
      rintro e w' ⟨y, rfl, ⟨h1, -, h3⟩, h4⟩
      exact ⟨y, rfl, ⟨h1, h3 rfl⟩, h4⟩) ?_
    rintro ⟨bA2, bm2, FA2, fn2, fc2, fr2, tk2⟩ ⟨hb2_, hI2⟩
    dsimp only at hb2_ hI2
    subst hb2_
    simp only [pickL, nth]
    simp -implicitDefEqProofs (disch := first | omega | decide) only [seval, -Int.reducePow, -Nat.reducePow, cC, pv, binv, sAlLEx1, undef, List.cons_append, List.nil_append, g1, g2, g3]
    intro b16 hb16 hf16
    refine hK _ _ ?_
    clear hK K
    refine cv_seq_k fun K hK => ?_
    refine cv_seq_k fun K hK => ?_
    refine cv_region_then rfl ?_
    simp -implicitDefEqProofs (disch := first | omega | decide) only [seval, -Int.reducePow, -Nat.reducePow, cC, pv, binv, sAlLEx1, undef, List.cons_append, List.nil_append, g1, g2, g3]
    refine hK _ _ ?_
    clear hK K
    refine cv_cond ?_
    simp -implicitDefEqProofs (disch := first | omega | decide) only [seval, -Int.reducePow, -Nat.reducePow, cC, pv, binv, sAlLEx1, undef, List.cons_append, List.nil_append, g1, g2, g3]
    refine cv_skip ?_
    try simp only [blockQ, thenQ]
    refine hK _ _ ?_
    clear hK K
    refine cv_seq_k fun K hK => ?_
    refine cv_region_then rfl ?_
    simp -implicitDefEqProofs (disch := first | omega | decide) only [seval, -Int.reducePow, -Nat.reducePow, cC, pv, binv, sAlLEx1, undef, List.cons_append, List.nil_append, g1, g2, g3]
    refine hK _ _ ?_
    clear hK K
    refine cv_seq_k fun K hK => ?_
    refine cv_seq_k fun K hK => ?_
    refine cv_region_then rfl ?_
    simp -implicitDefEqProofs (disch := first | omega | decide) only [seval, -Int.reducePow, -Nat.reducePow, cC, pv, binv, sAlLEx1, undef, List.cons_append, List.nil_append, g1, g2, g3]
    refine hK _ _ ?_
    clear hK K
    refine cv_gen fun G4 hG => ?_
    have g4_7 := congrFun hG 7
    have g4_9 := congrFun hG 9
    have g4_12 := congrFun hG 12
    have g4_16 := congrFun hG 16
    have g4_17 := congrFun hG 17
    have g4_18 := congrFun hG 18
    have g4_80 := congrFun hG 80
    have g4_81 := congrFun hG 81
    have g4_82 := congrFun hG 82
    clear hG
    try simp -implicitDefEqProofs (disch := first | omega | decide) only [seval, -Int.reducePow, -Nat.reducePow, cC, pv, binv, sAlLEx1, undef, List.cons_append, List.nil_append, g1, g2, g3] at g4_7 g4_9 g4_12 g4_16 g4_17 g4_18 g4_80 g4_81 g4_82
    have g4 := And.intro g4_7 (And.intro g4_9 (And.intro g4_12 (And.intro g4_16 (And.intro g4_17 (And.intro g4_18 (And.intro g4_80 (And.intro g4_81 g4_82)))))))
    refine cv_block ?_
    refine cv_loop (fun F' L' => ∃ (j : Nat) (f2 : Bool), F' 7 = G4 7 ∧ F' 9 = G4 9 ∧ F' 12 = G4 12 ∧ F' 16 = G4 16 ∧ F' 17 = G4 17 ∧ F' 18 = .bool f2 ∧ F' 80 = G4 80 ∧ F' 81 = G4 81 ∧ F' 82 = .int .i64 (j : Int) ∧ L' = [.blk b16 39 [.int .i64 q.off, .int .i64 q.len], .blk bA2 42 [.slice FA2 fn2 fc2, .map (some bm2)], mpR bm2 tk2, .row (.slice FA2 fn2 fc2) 39 2 fn2 (exCells fr2), .row (.slice A1 n1 c1) 39 2 n1 (exCells fr)] ∧ j ≤ n1 ∧ MeI B fr j f2) (fun F' L' => 400 - (intOf (F' 82)).toNat) ?_ ?_
    · refine ⟨0, false, ?_⟩
      simp -implicitDefEqProofs (disch := first | omega | decide) only [seval, -Int.reducePow, -Nat.reducePow, cC, pv, binv, sAlLEx1, undef, List.cons_append, List.nil_append, g1, g2, g4]
      exact ⟨Nat.zero_le _, ⟨by simp⟩⟩
    intro G5 L' hI
    obtain ⟨j, f2, q7, q9, q12, q16, q17, q18, q80, q81, q82, rfl, ⟨hj, ⟨hg2⟩⟩⟩ := hI
    have g5_7 := q7.trans g4_7
    have g5_9 := q9.trans g4_9
    have g5_12 := q12.trans g4_12
    have g5_16 := q16.trans g4_16
    have g5_17 := q17.trans g4_17
    have g5_18 := q18
    have g5_80 := q80.trans g4_80
    have g5_81 := q81.trans g4_81
    have g5_82 := q82
    clear q7 q9 q12 q16 q17 q18 q80 q81 q82
    have g5 := And.intro g5_7 (And.intro g5_9 (And.intro g5_12 (And.intro g5_16 (And.intro g5_17 (And.intro g5_18 (And.intro g5_80 (And.intro g5_81 g5_82)))))))
    refine cv_seq_k fun K hK => ?_
    refine cv_region_then rfl ?_
    simp -implicitDefEqProofs (disch := first | omega | decide) only [seval, -Int.reducePow, -Nat.reducePow, cC, pv, binv, sAlLEx1, undef, List.cons_append, List.nil_append, g1, g2, g4, g5]
    refine hK _ _ ?_
    clear hK K
    refine cv_seq_k fun K hK => ?_
    refine cv_cond ?_
    simp -implicitDefEqProofs (disch := first | omega | decide) only [seval, -Int.reducePow, -Nat.reducePow, cC, pv, binv, sAlLEx1, undef, List.cons_append, List.nil_append, g1, g2, g4, g5]
    refine ⟨fun hc => ?_, fun hc => ?_⟩
    · refine cv_skip ?_
      try simp only [blockQ, thenQ]
      have hjt : j < n1 := by have := of_decide_eq_true ‹decide ((j : Int) < (n1 : Int)) = true›; omega
      refine hK _ _ ?_
      clear hK K
      have hiS : j < fr.length := by omega
      obtain ⟨x, hx⟩ : ∃ x, Ex.get fr j = x := ⟨_, rfl⟩
      have hcx := exCells_two fr j hiS
      have htk := take_snoc hiS
      rw [hx] at hcx htk
      have hkeep : f2 = true ∨ B ≠ x → MeI B fr (j + 1) f2 := fun h => ⟨by
        rw [htk, List.mem_append, List.mem_singleton, hg2]
        rcases h with h | h
        · exact ⟨.inl, fun _ => hg2.1 h⟩
        · exact ⟨.inl, fun h2 => h2.resolve_right h⟩⟩
      have hset : B = x → MeI B fr (j + 1) true := fun h => ⟨by rw [htk, h]; simp⟩
      refine cv_rowA 4 rfl (by omega) fun g hAA hg hNN => ?_
      subst hAA
      simp only [List.eraseIdx_cons_zero, List.eraseIdx_cons_succ, neB_nil, neB_blk, neB_row, neB_snap, and_true, List.not_mem_nil, or_false, sAlLEx1, undef, List.cons_append, List.nil_append] at hNN hg
      replace hg := And.intro hg hNN
      clear hNN
      refine cv_seq_k fun K hK => ?_
      refine cv_block ?_
      refine cv_seq_k fun K hK => ?_
      refine cv_region_then rfl ?_
      simp -implicitDefEqProofs (disch := first | omega | decide) only [seval, -Int.reducePow, -Nat.reducePow, cC, pv, binv, sAlLEx1, undef, List.cons_append, List.nil_append, g1, g2, g4, g5]
      refine ⟨_, ld_row (i := j * 2) (vs := [.int .i64 x.off, .int .i64 x.len]) (nth_mem (k := 4) rfl) rfl hcx, fun tok htok => ?_⟩
      subst htok
      simp -implicitDefEqProofs (disch := first | omega | decide) only [seval, -Int.reducePow, -Nat.reducePow, cC, pv, binv, sAlLEx1, undef, List.cons_append, List.nil_append, g1, g2, g4, g5]
      intro b20 hb20 hf20
      refine hK _ _ ?_
      clear hK K
      refine cv_pick_post [1, 2, 3, 4, 5] (by decide) ?_
      refine cv_region_q rfl ?_
      cases f2 with
      | true =>
        have hn := hkeep (.inl rfl)
        simp -implicitDefEqProofs (disch := first | omega | decide) only [seval, -Int.reducePow, -Nat.reducePow, cC, pv, binv, sAlLEx1, undef, List.cons_append, List.nil_append, g1, g2, g4, g5]
        refine hK _ _ ?_
        clear hK K
        refine cv_region_then rfl ?_
        simp -implicitDefEqProofs (disch := first | omega | decide) only [seval, -Int.reducePow, -Nat.reducePow, cC, pv, binv, sAlLEx1, undef, List.cons_append, List.nil_append, g1, g2, g4, g5]
        refine ⟨⟨j + 1, true, ?_⟩, ?_⟩
        · simp -implicitDefEqProofs (disch := first | omega | decide) only [seval, -Int.reducePow, -Nat.reducePow, cC, pv, binv, sAlLEx1, undef, List.cons_append, List.nil_append, Int.natCast_add, g1, g2, g4, g5]
          exact ⟨by omega, hn⟩
        · simp only [intOf]; omega
      | false =>
        by_cases a1 : x.off = q.off
        · have a1' : decide (x.off = q.off) = true := decide_eq_true a1
          by_cases a2 : x.len = b
          · have a2' : decide (x.len = b) = true := decide_eq_true a2
            have hn := hset (by obtain ⟨xo, xl⟩ := x; obtain ⟨bo, bl⟩ := B; dsimp only at *; rw [a1, a2, hqo, hb1])
            simp -implicitDefEqProofs (disch := first | omega | decide) only [seval, -Int.reducePow, -Nat.reducePow, cC, pv, binv, sAlLEx1, undef, List.cons_append, List.nil_append, a1', a2', g1, g2, g4, g5]
            refine hK _ _ ?_
            clear hK K
            refine cv_region_then rfl ?_
            simp -implicitDefEqProofs (disch := first | omega | decide) only [seval, -Int.reducePow, -Nat.reducePow, cC, pv, binv, sAlLEx1, undef, List.cons_append, List.nil_append, g1, g2, g4, g5]
            refine ⟨⟨j + 1, true, ?_⟩, ?_⟩
            · simp -implicitDefEqProofs (disch := first | omega | decide) only [seval, -Int.reducePow, -Nat.reducePow, cC, pv, binv, sAlLEx1, undef, List.cons_append, List.nil_append, Int.natCast_add, g1, g2, g4, g5]
              exact ⟨by omega, hn⟩
            · simp only [intOf]; omega
          · have a2' : decide (x.len = b) = false := decide_eq_false a2
            have hn := hkeep (.inr fun h => a2 (by rw [hb1, h]))
            simp -implicitDefEqProofs (disch := first | omega | decide) only [seval, -Int.reducePow, -Nat.reducePow, cC, pv, binv, sAlLEx1, undef, List.cons_append, List.nil_append, a1', a2', g1, g2, g4, g5]
            refine hK _ _ ?_
            clear hK K
            refine cv_region_then rfl ?_
            simp -implicitDefEqProofs (disch := first | omega | decide) only [seval, -Int.reducePow, -Nat.reducePow, cC, pv, binv, sAlLEx1, undef, List.cons_append, List.nil_append, g1, g2, g4, g5]
            refine ⟨⟨j + 1, false, ?_⟩, ?_⟩
            · simp -implicitDefEqProofs (disch := first | omega | decide) only [seval, -Int.reducePow, -Nat.reducePow, cC, pv, binv, sAlLEx1, undef, List.cons_append, List.nil_append, Int.natCast_add, g1, g2, g4, g5]
              exact ⟨by omega, hn⟩
            · simp only [intOf]; omega
        · have a1' : decide (x.off = q.off) = false := decide_eq_false a1
          have hn := hkeep (.inr fun h => a1 (by rw [hqo, h]))
          simp -implicitDefEqProofs (disch := first | omega | decide) only [seval, -Int.reducePow, -Nat.reducePow, cC, pv, binv, sAlLEx1, undef, List.cons_append, List.nil_append, a1', g1, g2, g4, g5]
          refine hK _ _ ?_
          clear hK K
          refine cv_region_then rfl ?_
          simp -implicitDefEqProofs (disch := first | omega | decide) only [seval, -Int.reducePow, -Nat.reducePow, cC, pv, binv, sAlLEx1, undef, List.cons_append, List.nil_append, g1, g2, g4, g5]
          refine ⟨⟨j + 1, false, ?_⟩, ?_⟩
          · simp -implicitDefEqProofs (disch := first | omega | decide) only [seval, -Int.reducePow, -Nat.reducePow, cC, pv, binv, sAlLEx1, undef, List.cons_append, List.nil_append, Int.natCast_add, g1, g2, g4, g5]
            exact ⟨by omega, hn⟩
          · simp only [intOf]; omega
    refine cv_exit ?_
    simp only [blockQ, thenQ, if_true, ite_true]
    clear hK K
    refine hK _ _ ?_
    clear hK K
    have hjt : ¬ j < n1 := by have := of_decide_eq_false ‹decide ((j : Int) < (n1 : Int)) = false›; omega
    rw [List.take_of_length_le (by omega)] at hg2
    obtain rfl : f2 = true := hg2.2 hBm
    have hhas := hI2.has q
    have hd : decide (mget tk2 q.off = some q.len) = true := decide_eq_true (hhas.2 (by simp))
    refine cv_seq_k fun K hK => ?_
    refine cv_region_then rfl ?_
    simp -implicitDefEqProofs (disch := first | omega | decide) only [seval, -Int.reducePow, -Nat.reducePow, cC, pv, binv, sAlLEx1, undef, List.cons_append, List.nil_append, hql, g1, g2, g4, g5]
    refine callV_ret (fun w hw => alAwake_any w) ?_
    try simp -implicitDefEqProofs (disch := first | omega | decide) only [seval, -Int.reducePow, -Nat.reducePow, cC, pv, binv, sAlLEx1, undef, List.cons_append, List.nil_append, g1, g2, g4, g5]
    rw [← hql]
    refine callV_ret (fun w hw => aHas_any ⟨bA2, bm2, FA2, fn2, fc2, fr2, tk2⟩ q w (AlW.of (x := ⟨bA2, bm2, FA2, fn2, fc2, fr2, tk2⟩) hw 1 2 3 rfl rfl rfl (by have := hI2.frLen; simp at this; dsimp only; omega))) ?_
    try simp -implicitDefEqProofs (disch := first | omega | decide) only [seval, -Int.reducePow, -Nat.reducePow, cC, pv, binv, sAlLEx1, undef, List.cons_append, List.nil_append, hd, g1, g2, g4, g5]
    refine hK _ _ ?_
    clear hK K
    refine cv_ret ⟨_, (by simp -implicitDefEqProofs (disch := first | omega | decide) only [seval, -Int.reducePow, -Nat.reducePow, cC, pv, binv, sAlLEx1, undef, List.cons_append, List.nil_append, g1, g2, g4, g5]; rfl), fun w hw => ?_⟩
    exact ⟨rfl, hw.below⟩
end Go.Proofs.Ytejogdielfgeoaa
