/- The laws' run: an allocator after a list of steps. -/
import Derived.Test.YtejogdielfgeoaaZ5
import Derived.Test.YtejogdielfgeoaaZ4
import Derived.Test.YtejogdielfgeoaaZ6
namespace Go.Proofs.Ytejogdielfgeoaa
open Go.RowKit Go.Shelf
set_option linter.unusedVariables false
set_option linter.unusedSimpArgs false
set_option maxRecDepth 100000
theorem s3_lenR (s : S3) : (s3V s).length = 3 := rfl
set_option maxRecDepth 100000 in
theorem sAlRun1 : type_of% (And.intro (And.intro (And.intro @eBox.eq_1 @exV.eq_1) (And.intro @alL.eq_1 @mlL.eq_1)) (And.intro (And.intro @wkL.eq_1 @Nat.mul_one) (And.intro @wrap_in (And.intro @cMp @cM)))) := (And.intro (And.intro (And.intro @eBox.eq_1 @exV.eq_1) (And.intro @alL.eq_1 @mlL.eq_1)) (And.intro (And.intro @wkL.eq_1 @Nat.mul_one) (And.intro @wrap_in (And.intro @cMp @cM))))
set_option maxHeartbeats 4000000 in
theorem alRun_any (N : Nat) (hN1 : N ≤ 1048576) (A : Option Addr) (n c : Nat) (l : List S3) (W : World) (hE : Sl W W.heap.size 3 A n c (cl s3V l)) (hb : ∀ s ∈ l, s.ok) :
    Calls Try.prog 20 #[.int .i64 (N : Int), .slice A n c] W fun e w' => ∃ x : AlR × List Ext, e = .returned (.tuple #[.pointer (some ⟨x.1.bA, 0, none⟩), .bool true]) ∧ (Ex.Inv (N : Int) x.2 x.1.fr x.1.tk ∧ x.2.length ≤ 24) ∧ St [] W (alL x.1) w' := by
  have hlen := cl_row s3_lenR (by omega) hE.len
  refine calls_cv (M := []) (n := 52) [.tmp 4, .tmp 5] rfl Try.func20 rfl rfl (Nat.le_of_ble_eq_true rfl) (St.nil _ _) ?_
  refine cv_seq_k fun K hK => ?_
  refine cv_region_then rfl ?_
  simp -implicitDefEqProofs (disch := first | omega | decide) only [seval, -Int.reducePow, -Nat.reducePow, cC, pv, binv, sAlRun1, undef, List.cons_append, List.nil_append]
  refine hK _ _ ?_
  clear hK K
  refine cv_seq_k fun K hK => ?_
  refine cv_region_then rfl ?_
  simp -implicitDefEqProofs (disch := first | omega | decide) only [seval, -Int.reducePow, -Nat.reducePow, cC, pv, binv, sAlRun1, undef, List.cons_append, List.nil_append]
  refine callV_grp [] [] (by decide) (fun x : AlR => .tuple #[.pointer (some ⟨x.bA, 0, none⟩), .int .i64 0]) (fun x => alL x) (fun x => Ex.Inv (N : Int) [] x.fr x.tk) (fun w hw hs => (aNew_ok N w hN1).mono (by
    rintro e w' ⟨y, rfl, ⟨h1, h2⟩, h3⟩
    refine ⟨y, rfl, ?_, h3⟩
    rw [h1, h2]
    exact Ex.inv_new (by omega) (by omega))) ?_
  intro x1 hI1
  simp only [pickL, nth]
  simp -implicitDefEqProofs (disch := first | omega | decide) only [seval, -Int.reducePow, -Nat.reducePow, cC, pv, binv, sAlRun1, undef, List.cons_append, List.nil_append]
  refine hK _ _ ?_
  clear hK K
  refine cv_seq_k fun K hK => ?_
  refine cv_seq_k fun K hK => ?_
  refine cv_region_then rfl ?_
  simp -implicitDefEqProofs (disch := first | omega | decide) only [seval, -Int.reducePow, -Nat.reducePow, cC, pv, binv, sAlRun1, undef, List.cons_append, List.nil_append]
  refine hK _ _ ?_
  clear hK K
  refine cv_cond ?_
  simp -implicitDefEqProofs (disch := first | omega | decide) only [seval, -Int.reducePow, -Nat.reducePow, cC, pv, binv, sAlRun1, undef, List.cons_append, List.nil_append]
  refine cv_skip ?_
  try simp only [blockQ, thenQ]
  refine hK _ _ ?_
  clear hK K
  refine cv_seq_k fun K hK => ?_
  refine cv_region_then rfl ?_
  simp -implicitDefEqProofs (disch := first | omega | decide) only [seval, -Int.reducePow, -Nat.reducePow, cC, pv, binv, sAlRun1, undef, List.cons_append, List.nil_append]
  intro bM hbM hfM
  refine hK _ _ ?_
  clear hK K
  refine cv_nil 39 2 ?_
  refine cv_seq_k fun K hK => ?_
  refine cv_region_then rfl ?_
  simp -implicitDefEqProofs (disch := first | omega | decide) only [seval, -Int.reducePow, -Nat.reducePow, cC, pv, binv, sAlRun1, undef, List.cons_append, List.nil_append]
  refine hK _ _ ?_
  clear hK K
  refine cv_seq_k fun K hK => ?_
  refine cv_seq_k fun K hK => ?_
  refine cv_region_then rfl ?_
  simp -implicitDefEqProofs (disch := first | omega | decide) only [seval, -Int.reducePow, -Nat.reducePow, cC, pv, binv, sAlRun1, undef, List.cons_append, List.nil_append]
  refine hK _ _ ?_
  clear hK K
  refine cv_nil 39 2 ?_
  refine cv_gen fun G1 hG => ?_
  have g1_1 := congrFun hG 1
  have g1_6 := congrFun hG 6
  have g1_8 := congrFun hG 8
  have g1_9 := congrFun hG 9
  have g1_10 := congrFun hG 10
  clear hG
  try simp -implicitDefEqProofs (disch := first | omega | decide) only [seval, -Int.reducePow, -Nat.reducePow, cC, pv, binv, sAlRun1, undef, List.cons_append, List.nil_append] at g1_1 g1_6 g1_8 g1_9 g1_10
  have g1 := And.intro g1_1 (And.intro g1_6 (And.intro g1_8 (And.intro g1_9 g1_10)))
  refine cv_pick [3, 4, 5, 2, 1, 0] (by decide) ?_
  simp only [pickL, nth]
  refine cv_block ?_
  refine cv_loop (fun F' L' => ∃ (i : Nat) (z : Wk), F' 1 = G1 1 ∧ F' 6 = .pointer (some ⟨z.al.bA, 0, none⟩) ∧ F' 8 = .pointer (some ⟨z.ml.bM, 0, none⟩) ∧ F' 9 = .slice z.A z.n z.c ∧ F' 10 = .int .i64 (i : Int) ∧ L' = wkL z ∧ WkI (N : Int) i z ∧ i ≤ 24) (fun F' L' => 40 - (intOf (F' 10)).toNat) ?_ ?_
  · refine ⟨0, ⟨x1, ⟨bM, (N : Int), none, 0, 0, []⟩, none, 0, 0, []⟩, ?_⟩
    simp -implicitDefEqProofs (disch := first | omega | decide) only [seval, -Int.reducePow, -Nat.reducePow, cC, pv, binv, sAlRun1, undef, List.cons_append, List.nil_append, g1]
    exact ⟨rfl, ⟨hI1, rfl, by simp, by simp⟩⟩
  intro G2 L' hI
  obtain ⟨i, z, q1, q6, q8, q9, q10, rfl, ⟨hI, hi⟩⟩ := hI
  have g2_1 := q1.trans g1_1
  have g2_6 := q6
  have g2_8 := q8
  have g2_9 := q9
  have g2_10 := q10
  clear q1 q6 q8 q9 q10
  have g2 := And.intro g2_1 (And.intro g2_6 (And.intro g2_8 (And.intro g2_9 g2_10)))
  refine cv_seq_k fun K hK => ?_
  by_cases hc1 : i < n ∧ i < 24
  · have a1 : decide ((i : Int) < (n : Int)) = true := decide_eq_true (by omega)
    have a2 : decide ((i : Int) < 24) = true := decide_eq_true (by omega)
    obtain ⟨s, hs⟩ : ∃ s, l[i]? = some s := ⟨_, List.getElem?_eq_getElem (by omega)⟩
    have hok := hb s (List.mem_of_getElem? hs)
    unfold S3.ok at hok
    have hpos : 0 < n := by omega
    obtain ⟨bF, oF, rfl, hbF, -⟩ := hE.cells hpos
    refine cv_apart fun hap => ?_
    simp only [factL_nil, factL_blk, factL_row, neR_nil, neR_blk, neR_row, neB_nil, neB_blk, neB_row, and_true, true_and, List.not_mem_nil, or_false, sAlRun1, undef, List.cons_append, List.nil_append] at hap
    obtain hap := hap
    refine cv_seq_k fun K hK => ?_
    refine cv_region_then rfl ?_
    simp -implicitDefEqProofs (disch := first | omega | decide) only [seval, -Int.reducePow, -Nat.reducePow, cC, pv, binv, sAlRun1, undef, List.cons_append, List.nil_append, a1, a2, g1, g2]
    refine hK _ _ ?_
    clear hK K
    refine cv_cond ?_
    simp -implicitDefEqProofs (disch := first | omega | decide) only [seval, -Int.reducePow, -Nat.reducePow, cC, pv, binv, sAlRun1, undef, List.cons_append, List.nil_append, g1, g2]
    refine cv_skip ?_
    try simp only [blockQ, thenQ]
    refine hK _ _ ?_
    clear hK K
    refine cv_seq_k fun K hK => ?_
    refine cv_block ?_
    refine cv_seq_k fun K hK => ?_
    refine cv_region_then rfl ?_
    simp -implicitDefEqProofs (disch := first | omega | decide) only [seval, -Int.reducePow, -Nat.reducePow, cC, pv, binv, sAlRun1, undef, List.cons_append, List.nil_append, g1, g2]
    refine ⟨_, hE.ld (vs := s3V s) hpos (show tsz Try.prog 35 = some (true, 3) from by kernel_rfl) (cl_at s3_lenR hs), fun tok htok => ?_⟩
    subst htok
    simp -implicitDefEqProofs (disch := first | omega | decide) only [seval, -Int.reducePow, -Nat.reducePow, cC, pv, binv, sAlRun1, undef, List.cons_append, List.nil_append, g1, g2]
    refine callV_grp [0, 1, 2, 3, 4, 5] [] (by decide) (fun z2 : Wk => .tuple #[.slice z2.A z2.n z2.c, .bool true]) (fun z2 => wkL z2) (fun z2 => WkI (N : Int) (i + 1) z2 ∧ z2.al.bA = z.al.bA ∧ z2.ml.bM = z.ml.bM) (fun w hw hq => alStep_any (N : Int) i z (s.a : Int) (s.b : Int) (s.c : Int) w hq hI (by omega) (by omega) (by omega) (by omega)) ?_
    rintro z2 ⟨hI2, e1, e2⟩
    simp only [pickL, nth]
    simp -implicitDefEqProofs (disch := first | omega | decide) only [seval, -Int.reducePow, -Nat.reducePow, cC, pv, binv, sAlRun1, undef, List.cons_append, List.nil_append, g1, g2]
    refine hK _ _ ?_
    clear hK K
    refine cv_seq_k fun K hK => ?_
    refine cv_seq_k fun K hK => ?_
    refine cv_region_then rfl ?_
    simp -implicitDefEqProofs (disch := first | omega | decide) only [seval, -Int.reducePow, -Nat.reducePow, cC, pv, binv, sAlRun1, undef, List.cons_append, List.nil_append, g1, g2]
    refine hK _ _ ?_
    clear hK K
    refine cv_cond ?_
    simp -implicitDefEqProofs (disch := first | omega | decide) only [seval, -Int.reducePow, -Nat.reducePow, cC, pv, binv, sAlRun1, undef, List.cons_append, List.nil_append, g1, g2]
    refine cv_skip ?_
    try simp only [blockQ, thenQ]
    refine hK _ _ ?_
    clear hK K
    refine cv_region_q rfl ?_
    simp -implicitDefEqProofs (disch := first | omega | decide) only [seval, -Int.reducePow, -Nat.reducePow, cC, pv, binv, sAlRun1, undef, List.cons_append, List.nil_append, g1, g2]
    refine hK _ _ ?_
    clear hK K
    refine cv_region_then rfl ?_
    simp -implicitDefEqProofs (disch := first | omega | decide) only [seval, -Int.reducePow, -Nat.reducePow, cC, pv, binv, sAlRun1, undef, List.cons_append, List.nil_append, g1, g2]
    refine ⟨⟨i + 1, z2, ?_⟩, ?_⟩
    · simp -implicitDefEqProofs (disch := first | omega | decide) only [seval, -Int.reducePow, -Nat.reducePow, cC, pv, binv, sAlRun1, undef, List.cons_append, List.nil_append, e1, e2, Int.natCast_add, g1, g2]
      exact ⟨hI2, by omega⟩
    · simp only [intOf]; omega
  · refine cv_seq_k fun K hK => ?_
    refine cv_region_then rfl ?_
    by_cases h1 : i < n
    · have a1 : decide ((i : Int) < (n : Int)) = true := decide_eq_true (by omega)
      have a2 : decide ((i : Int) < 24) = false := decide_eq_false (by omega)
      simp -implicitDefEqProofs (disch := first | omega | decide) only [seval, -Int.reducePow, -Nat.reducePow, cC, pv, binv, sAlRun1, undef, List.cons_append, List.nil_append, a1, a2, g1, g2]
      refine hK _ _ ?_
      clear hK K
      refine cv_cond ?_
      simp -implicitDefEqProofs (disch := first | omega | decide) only [seval, -Int.reducePow, -Nat.reducePow, cC, pv, binv, sAlRun1, undef, List.cons_append, List.nil_append, g1, g2]
      refine cv_exit ?_
      simp only [blockQ, thenQ, if_true, ite_true]
      clear hK K
      refine hK _ _ ?_
      clear hK K
      refine cv_seq_k fun K hK => ?_
      refine cv_region_then rfl ?_
      simp -implicitDefEqProofs (disch := first | omega | decide) only [seval, -Int.reducePow, -Nat.reducePow, cC, pv, binv, sAlRun1, undef, List.cons_append, List.nil_append, g1, g2]
      refine hK _ _ ?_
      clear hK K
      refine cv_ret ⟨_, (by simp -implicitDefEqProofs (disch := first | omega | decide) only [seval, -Int.reducePow, -Nat.reducePow, cC, pv, binv, sAlRun1, undef, List.cons_append, List.nil_append, g1, g2]; rfl), fun w hw => ?_⟩
      exact ⟨(z.al, z.ml.us), rfl, ⟨by have := hI.inv; rw [hI.N] at this; exact this, by have := hI.us; dsimp only; omega⟩, hw.pick (ix := [0, 1, 2]) (by decide)⟩
    · have a1 : decide ((i : Int) < (n : Int)) = false := decide_eq_false (by omega)
      simp -implicitDefEqProofs (disch := first | omega | decide) only [seval, -Int.reducePow, -Nat.reducePow, cC, pv, binv, sAlRun1, undef, List.cons_append, List.nil_append, a1, g1, g2]
      refine hK _ _ ?_
      clear hK K
      refine cv_cond ?_
      simp -implicitDefEqProofs (disch := first | omega | decide) only [seval, -Int.reducePow, -Nat.reducePow, cC, pv, binv, sAlRun1, undef, List.cons_append, List.nil_append, g1, g2]
      refine cv_exit ?_
      simp only [blockQ, thenQ, if_true, ite_true]
      clear hK K
      refine hK _ _ ?_
      clear hK K
      refine cv_seq_k fun K hK => ?_
      refine cv_region_then rfl ?_
      simp -implicitDefEqProofs (disch := first | omega | decide) only [seval, -Int.reducePow, -Nat.reducePow, cC, pv, binv, sAlRun1, undef, List.cons_append, List.nil_append, g1, g2]
      refine hK _ _ ?_
      clear hK K
      refine cv_ret ⟨_, (by simp -implicitDefEqProofs (disch := first | omega | decide) only [seval, -Int.reducePow, -Nat.reducePow, cC, pv, binv, sAlRun1, undef, List.cons_append, List.nil_append, g1, g2]; rfl), fun w hw => ?_⟩
      exact ⟨(z.al, z.ml.us), rfl, ⟨by have := hI.inv; rw [hI.N] at this; exact this, by have := hI.us; dsimp only; omega⟩, hw.pick (ix := [0, 1, 2]) (by decide)⟩
end Go.Proofs.Ytejogdielfgeoaa
/- The law AllocatorUndo, walked. -/
namespace Go.Proofs.Ytejogdielfgeoaa
open Go.RowKit Go.Shelf
set_option linter.unusedVariables false
set_option linter.unusedSimpArgs false
set_option maxRecDepth 100000
theorem err_small {m : Int} (h : 1 ≤ m ∧ m ≤ 300) : Sz.err m = 0 := by
  unfold Sz.err
  rw [if_neg (by omega), if_neg (by omega)]
theorem find_two {m : Int} (fr : List Ext) (h : Sz.err m = 0) : Ex.findF fr m = (⟨0, 0⟩, 18) ∨ ∃ e, Ex.findF fr m = (e, 0) := by
  unfold Ex.findF
  rw [if_pos h]
  split
  · exact .inl rfl
  · exact .inr ⟨_, rfl⟩
theorem undo_us {N : Int} {us fr : List Ext} {tk : List (Int × Int)} {e : Ext} (h : Ex.Inv N (us ++ [e]) fr tk) : (us ++ [e]).filter (fun x => decide (x ≠ e)) = us ∧ e ∉ us := by
  have hn := h.nodup
  have h1 : e ∉ us := fun he => by
    have := (List.nodup_append.1 hn).2.2 e he e (by simp)
    exact this rfl
  refine ⟨?_, h1⟩
  rw [List.filter_append, List.filter_eq_self.2 (fun y hy => decide_eq_true (by rintro rfl; exact h1 hy))]
  simp
set_option maxRecDepth 100000 in
theorem sAlLUn1 : type_of% (And.intro (And.intro @eBox.eq_1 (And.intro @exV.eq_1 @alL.eq_1)) (And.intro (And.intro @Nat.mul_one @wrap_in) (And.intro @cMp @cM))) := (And.intro (And.intro @eBox.eq_1 (And.intro @exV.eq_1 @alL.eq_1)) (And.intro (And.intro @Nat.mul_one @wrap_in) (And.intro @cMp @cM)))
set_option maxHeartbeats 4000000 in
theorem alUndo_walk (W : World) (room : Int) (hr : 0 ≤ room ∧ room ≤ 65535) (A : Option Addr) (n c : Nat) (l : List S3) (hE : Sl W W.heap.size 3 A n c (cl s3V l)) (hb : ∀ s ∈ l, s.ok) (k : Int) (hk : 0 ≤ k ∧ k ≤ 65535) :
    Calls Try.prog 7 #[.int .u16 room, .slice A n c, .int .u16 k] W fun e w' => e = .returned (.bool true) ∧ Below W.heap.size W w' := by
  obtain ⟨N, hN⟩ : ∃ N : Nat, room % 2000 = (N : Int) := ⟨(room % 2000).toNat, by omega⟩
  have hN1 : N ≤ 1048576 := by omega
  obtain ⟨m, hm⟩ : ∃ m : Int, 1 + k % 300 = m := ⟨_, rfl⟩
  have hm1 : 1 ≤ m ∧ m ≤ 300 := by omega
  refine calls_cv (M := []) (n := 65) [.tmp 6] rfl Try.func7 rfl rfl (Nat.le_of_ble_eq_true rfl) (St.nil _ _) ?_
  refine cv_seq_k fun K hK => ?_
  refine cv_region_then rfl ?_
  simp -implicitDefEqProofs (disch := first | omega | decide) only [seval, -Int.reducePow, -Nat.reducePow, cC, pv, binv, sAlLUn1, undef, List.cons_append, List.nil_append]
  refine hK _ _ ?_
  clear hK K
  refine cv_seq_k fun K hK => ?_
  refine cv_region_then rfl ?_
  simp -implicitDefEqProofs (disch := first | omega | decide) only [seval, -Int.reducePow, -Nat.reducePow, cC, pv, binv, sAlLUn1, undef, List.cons_append, List.nil_append, hN]
  refine callV_grp [] [] (by decide) (fun x : AlR × List Ext => .tuple #[.pointer (some ⟨x.1.bA, 0, none⟩), .bool true]) (fun x => alL x.1) (fun x => Ex.Inv (N : Int) x.2 x.1.fr x.1.tk ∧ x.2.length ≤ 24) (fun w hw hs => alRun_any N hN1 A n c l w (hE.at hw) hb) ?_
  rintro ⟨⟨bA, bm, FA, fn, fc, fr, tk⟩, us⟩ ⟨hI, hl⟩
  dsimp only at hI hl
  have hfl := hI.frLen
  have hfr := hI.fr
  simp only [pickL, nth]
  simp -implicitDefEqProofs (disch := first | omega | decide) only [seval, -Int.reducePow, -Nat.reducePow, cC, pv, binv, sAlLUn1, undef, List.cons_append, List.nil_append]
  refine hK _ _ ?_
  clear hK K
  refine cv_seq_k fun K hK => ?_
  refine cv_seq_k fun K hK => ?_
  refine cv_region_then rfl ?_
  simp -implicitDefEqProofs (disch := first | omega | decide) only [seval, -Int.reducePow, -Nat.reducePow, cC, pv, binv, sAlLUn1, undef, List.cons_append, List.nil_append]
  refine hK _ _ ?_
  clear hK K
  refine cv_cond ?_
  simp -implicitDefEqProofs (disch := first | omega | decide) only [seval, -Int.reducePow, -Nat.reducePow, cC, pv, binv, sAlLUn1, undef, List.cons_append, List.nil_append]
  refine cv_skip ?_
  try simp only [blockQ, thenQ]
  refine hK _ _ ?_
  clear hK K
  refine cv_seq_k fun K hK => ?_
  refine cv_region_then rfl ?_
  simp -implicitDefEqProofs (disch := first | omega | decide) only [seval, -Int.reducePow, -Nat.reducePow, cC, pv, binv, sAlLUn1, undef, List.cons_append, List.nil_append]
  refine callV_row (fun A n c => .slice A n c) (fun w hw => (aFreeList_any ⟨bA, bm, FA, fn, fc, fr, tk⟩ w (AlW.of (x := ⟨bA, bm, FA, fn, fc, fr, tk⟩) hw 0 1 2 rfl rfl rfl (by dsimp only; omega)))) ?_
  intro A1 n1 c1 hl1 hr1
  dsimp only at hl1
  dsimp only
  simp -implicitDefEqProofs (disch := first | omega | decide) only [seval, -Int.reducePow, -Nat.reducePow, cC, pv, binv, sAlLUn1, undef, List.cons_append, List.nil_append]
  refine hK _ _ ?_
  clear hK K
  refine cv_seq_k fun K hK => ?_
  refine cv_region_then rfl ?_
  rcases find_two fr (err_small hm1) with hq | ⟨q, hq⟩
  · simp -implicitDefEqProofs (disch := first | omega | decide) only [seval, -Int.reducePow, -Nat.reducePow, cC, pv, binv, sAlLUn1, undef, List.cons_append, List.nil_append, hm]
    refine callV_grp [1, 2, 3] [0] (by decide) (fun _ : Unit => .tuple #[.agg #[.int .i64 0, .int .i64 0], .int .i64 18]) (fun _ => alL ⟨bA, bm, FA, fn, fc, fr, tk⟩) (fun _ => True) (fun w hw hs => by
      have := aAlloc_any ⟨bA, bm, FA, fn, fc, fr, tk⟩ (N : Int) us m w hs hI (by omega)
      dsimp only at this
      rw [hq] at this
      refine this.mono ?_
      rintro e w' ⟨y, rfl, ⟨-, h2, -⟩, h4⟩
      rw [h2 (by decide)] at h4
      exact ⟨(), rfl, trivial, h4⟩) ?_
    intro _ _
    simp only [pickL, nth]
    simp -implicitDefEqProofs (disch := first | omega | decide) only [seval, -Int.reducePow, -Nat.reducePow, cC, pv, binv, sAlLUn1, undef, List.cons_append, List.nil_append]
    intro b10 hb10 hf10
    refine hK _ _ ?_
    clear hK K
    refine cv_gen fun G1 hG => ?_
    have g1_7 := congrFun hG 7
    have g1_9 := congrFun hG 9
    have g1_10 := congrFun hG 10
    have g1_11 := congrFun hG 11
    clear hG
    try simp -implicitDefEqProofs (disch := first | omega | decide) only [seval, -Int.reducePow, -Nat.reducePow, cC, pv, binv, sAlLUn1, undef, List.cons_append, List.nil_append] at g1_7 g1_9 g1_10 g1_11
    have g1 := And.intro g1_7 (And.intro g1_9 (And.intro g1_10 g1_11))
    refine cv_seq_k fun K hK => ?_
    refine cv_seq_k fun K hK => ?_
    refine cv_region_then rfl ?_
    simp -implicitDefEqProofs (disch := first | omega | decide) only [seval, -Int.reducePow, -Nat.reducePow, cC, pv, binv, sAlLUn1, undef, List.cons_append, List.nil_append, g1]
    refine hK _ _ ?_
    clear hK K
    refine cv_cond ?_
    simp -implicitDefEqProofs (disch := first | omega | decide) only [seval, -Int.reducePow, -Nat.reducePow, cC, pv, binv, sAlLUn1, undef, List.cons_append, List.nil_append, g1]
    refine cv_seq_k fun K hK => ?_
    refine cv_region_then rfl ?_
    simp -implicitDefEqProofs (disch := first | omega | decide) only [seval, -Int.reducePow, -Nat.reducePow, cC, pv, binv, sAlLUn1, undef, List.cons_append, List.nil_append, g1]
    refine callV_ret (fun w hw => alAwake_any w) ?_
    try simp -implicitDefEqProofs (disch := first | omega | decide) only [seval, -Int.reducePow, -Nat.reducePow, cC, pv, binv, sAlLUn1, undef, List.cons_append, List.nil_append, g1]
    refine callV_row (fun A n c => .slice A n c) (fun w hw => (aFreeList_any ⟨bA, bm, FA, fn, fc, fr, tk⟩ w (AlW.of (x := ⟨bA, bm, FA, fn, fc, fr, tk⟩) hw 1 2 3 rfl rfl rfl (by dsimp only; omega)))) ?_
    intro A2 n2 c2 hl2 hr2
    dsimp only at hl2
    dsimp only
    simp -implicitDefEqProofs (disch := first | omega | decide) only [seval, -Int.reducePow, -Nat.reducePow, cC, pv, binv, sAlLUn1, undef, List.cons_append, List.nil_append, g1]
    refine callV_ret (fun w hw => esame_any A2 A1 n2 c2 n1 c1 fr w (Exts.of_row hw (.head _)) (Exts.of_row hw (nth_mem (k := 5) rfl)) (by omega)) ?_
    try simp -implicitDefEqProofs (disch := first | omega | decide) only [seval, -Int.reducePow, -Nat.reducePow, cC, pv, binv, sAlLUn1, undef, List.cons_append, List.nil_append, g1]
    refine hK _ _ ?_
    clear hK K
    refine cv_ret ⟨_, (by simp -implicitDefEqProofs (disch := first | omega | decide) only [seval, -Int.reducePow, -Nat.reducePow, cC, pv, binv, sAlLUn1, undef, List.cons_append, List.nil_append, g1]; rfl), fun w hw => ?_⟩
    exact ⟨rfl, hw.below⟩
  · simp -implicitDefEqProofs (disch := first | omega | decide) only [seval, -Int.reducePow, -Nat.reducePow, cC, pv, binv, sAlLUn1, undef, List.cons_append, List.nil_append, hm]
    refine callV_grp [1, 2, 3] [0] (by decide) (fun _ : AlR => .tuple #[.agg #[.int .i64 q.off, .int .i64 q.len], .int .i64 0]) (fun y => alL y) (fun y => y.bA = bA ∧ Ex.Inv (N : Int) (us ++ [q]) y.fr y.tk) (fun w hw hs => by
      have := aAlloc_any ⟨bA, bm, FA, fn, fc, fr, tk⟩ (N : Int) us m w hs hI (by omega)
      dsimp only at this
      rw [hq] at this
      refine this.mono ?_
      rintro e w' ⟨y, rfl, ⟨h1, -, h3⟩, h4⟩
      exact ⟨y, rfl, ⟨h1, h3 rfl⟩, h4⟩) ?_
    rintro ⟨bA2, bm2, FA2, fn2, fc2, fr2, tk2⟩ ⟨hb2, hI2⟩
    dsimp only at hb2 hI2
    subst hb2
    have hu := undo_us hI2
    simp only [pickL, nth]
    simp -implicitDefEqProofs (disch := first | omega | decide) only [seval, -Int.reducePow, -Nat.reducePow, cC, pv, binv, sAlLUn1, undef, List.cons_append, List.nil_append]
    intro b10 hb10 hf10
    refine hK _ _ ?_
    clear hK K
    refine cv_gen fun G2 hG => ?_
    have g2_7 := congrFun hG 7
    have g2_9 := congrFun hG 9
    have g2_10 := congrFun hG 10
    have g2_11 := congrFun hG 11
    clear hG
    try simp -implicitDefEqProofs (disch := first | omega | decide) only [seval, -Int.reducePow, -Nat.reducePow, cC, pv, binv, sAlLUn1, undef, List.cons_append, List.nil_append] at g2_7 g2_9 g2_10 g2_11
    have g2 := And.intro g2_7 (And.intro g2_9 (And.intro g2_10 g2_11))
    refine cv_seq_k fun K hK => ?_
    refine cv_seq_k fun K hK => ?_
    refine cv_region_then rfl ?_
    simp -implicitDefEqProofs (disch := first | omega | decide) only [seval, -Int.reducePow, -Nat.reducePow, cC, pv, binv, sAlLUn1, undef, List.cons_append, List.nil_append, g2]
    refine hK _ _ ?_
    clear hK K
    refine cv_cond ?_
    simp -implicitDefEqProofs (disch := first | omega | decide) only [seval, -Int.reducePow, -Nat.reducePow, cC, pv, binv, sAlLUn1, undef, List.cons_append, List.nil_append, g2]
    refine cv_skip ?_
    try simp only [blockQ, thenQ]
    refine hK _ _ ?_
    clear hK K
    refine cv_seq_k fun K hK => ?_
    refine cv_region_then rfl ?_
    simp -implicitDefEqProofs (disch := first | omega | decide) only [seval, -Int.reducePow, -Nat.reducePow, cC, pv, binv, sAlLUn1, undef, List.cons_append, List.nil_append, g2]
    refine callV_ret (fun w hw => alAwake_any w) ?_
    try simp -implicitDefEqProofs (disch := first | omega | decide) only [seval, -Int.reducePow, -Nat.reducePow, cC, pv, binv, sAlLUn1, undef, List.cons_append, List.nil_append, g2]
    refine callV_grp [1, 2, 3] [0, 4] (by decide) (fun _ : AlR => .int .i64 0) (fun y => alL y) (fun y => y.bA = bA2 ∧ Ex.Inv (N : Int) us y.fr y.tk) (fun w hw hs => by
      have := aFree_any ⟨bA2, bm2, FA2, fn2, fc2, fr2, tk2⟩ (N : Int) (us ++ [q]) q w hs hI2 (by simp; omega)
      rw [hu.1, if_pos (by simp)] at this
      refine this.mono ?_
      rintro e w' ⟨y, rfl, ⟨h1, -, h3⟩, h4⟩
      exact ⟨y, rfl, ⟨h1, h3 (by simp)⟩, h4⟩) ?_
    rintro ⟨bA3, bm3, FA3, fn3, fc3, fr3, tk3⟩ ⟨hb3, hI3⟩
    dsimp only at hb3 hI3
    subst hb3
    have hfr3 : fr3 = fr := by rw [hI3.fr, hfr]
    subst hfr3
    simp only [pickL, nth]
    simp -implicitDefEqProofs (disch := first | omega | decide) only [seval, -Int.reducePow, -Nat.reducePow, cC, pv, binv, sAlLUn1, undef, List.cons_append, List.nil_append, g2]
    refine callV_row (fun A n c => .slice A n c) (fun w hw => (aFreeList_any ⟨bA3, bm3, FA3, fn3, fc3, fr3, tk3⟩ w (AlW.of (x := ⟨bA3, bm3, FA3, fn3, fc3, fr3, tk3⟩) hw 0 1 2 rfl rfl rfl (by dsimp only; omega)))) ?_
    intro A2 n2 c2 hl2 hr2
    dsimp only at hl2
    dsimp only
    simp -implicitDefEqProofs (disch := first | omega | decide) only [seval, -Int.reducePow, -Nat.reducePow, cC, pv, binv, sAlLUn1, undef, List.cons_append, List.nil_append, g2]
    refine callV_ret (fun w hw => esame_any A2 A1 n2 c2 n1 c1 fr3 w (Exts.of_row hw (.head _)) (Exts.of_row hw (nth_mem (k := 5) rfl)) (by omega)) ?_
    try simp -implicitDefEqProofs (disch := first | omega | decide) only [seval, -Int.reducePow, -Nat.reducePow, cC, pv, binv, sAlLUn1, undef, List.cons_append, List.nil_append, g2]
    refine callV_grp [1, 2, 3] [0, 4, 5] (by decide) (fun _ : AlR => .int .i64 6) (fun y => alL y) (fun _ => True) (fun w hw hs => by
      have := aFree_any ⟨bA3, bm3, FA3, fn3, fc3, fr3, tk3⟩ (N : Int) us q w hs hI3 (by omega)
      rw [if_neg hu.2] at this
      refine this.mono ?_
      rintro e w' ⟨y, rfl, -, h4⟩
      exact ⟨y, rfl, trivial, h4⟩) ?_
    intro _ _
    simp only [pickL, nth]
    simp -implicitDefEqProofs (disch := first | omega | decide) only [seval, -Int.reducePow, -Nat.reducePow, cC, pv, binv, sAlLUn1, undef, List.cons_append, List.nil_append, g2]
    refine hK _ _ ?_
    clear hK K
    refine cv_ret ⟨_, (by simp -implicitDefEqProofs (disch := first | omega | decide) only [seval, -Int.reducePow, -Nat.reducePow, cC, pv, binv, sAlLUn1, undef, List.cons_append, List.nil_append, g2]; rfl), fun w hw => ?_⟩
    exact ⟨rfl, hw.below⟩
end Go.Proofs.Ytejogdielfgeoaa
