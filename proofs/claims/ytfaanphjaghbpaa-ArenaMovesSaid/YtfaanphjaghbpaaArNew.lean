/- New of the allocator and of the arena. -/
import Derived.Test.YtfaanphjaghbpaaArCopy
namespace Go.Proofs.Ytfaanphjaghbpaa
open Go.RowKit Go.Shelf
set_option linter.unusedVariables false
set_option linter.unusedSimpArgs false
set_option maxRecDepth 100000
theorem Exts.nil0 (w : World) (B : Nat) : Exts w B none 0 0 [] := ⟨rfl, Nat.le_refl _, by omega, fun h => by omega⟩
theorem Ex.compN_ok {s : Nat} (h : s ≤ 1048576) : (Ex.compF [] (s : Int)).2 = 0 := (Ex.compF_spec (xs := []) (s := (s : Int)) (fun i hi => by simp at hi) (by omega) (by omega) (fun i hi => by simp at hi)).1
theorem Ex.compN_no {s : Int} (h : s < 0 ∨ 1048576 < s) : Ex.compF [] s = ([], 1) := by
  have : Ex.cBad [] s = true := by unfold Ex.cBad; rcases h with h | h <;> simp [h]
  unfold Ex.compF
  rw [if_pos this]
set_option maxRecDepth 100000 in
theorem sArNew1 : type_of% (And.intro (And.intro (And.intro @eBox.eq_1 @exV.eq_1) (And.intro @alL.eq_1 @arL.eq_1)) (And.intro (And.intro @Nat.mul_one @wrap_in) (And.intro @cMp @cM))) := (And.intro (And.intro (And.intro @eBox.eq_1 @exV.eq_1) (And.intro @alL.eq_1 @arL.eq_1)) (And.intro (And.intro @Nat.mul_one @wrap_in) (And.intro @cMp @cM)))
set_option maxHeartbeats 1000000 in
theorem aNew_ok (s : Nat) (W : World) (hs : s ≤ 1048576) : Calls Try.prog 32 #[.int .i64 (s : Int)] W
    fun e w' => ∃ y : AlR, e = .returned (.tuple #[.pointer (some ⟨y.bA, 0, none⟩), .int .i64 0]) ∧ (y.fr = (Ex.compF [] (s : Int)).1 ∧ y.tk = []) ∧ St [] W (alL y) w' := by
  have h0 := Ex.compN_ok hs
  refine calls_cv (M := []) (n := 18) [.tmp 2, .tmp 3] rfl Try.func32 rfl rfl (Nat.le_of_ble_eq_true rfl) (St.nil _ _) ?_
  refine cv_seq_k fun K hK => ?_
  refine cv_region_then rfl ?_
  simp -implicitDefEqProofs (disch := first | omega | decide) only [seval, -Int.reducePow, -Nat.reducePow, cC, pv, binv, sArNew1, undef]
  refine hK _ _ ?_
  clear hK K
  refine cv_seq_k fun K hK => ?_
  refine cv_region_then rfl ?_
  simp -implicitDefEqProofs (disch := first | omega | decide) only [seval, -Int.reducePow, -Nat.reducePow, cC, pv, binv, sArNew1, undef]
  refine callV_row (fun A n c => .tuple #[.slice A n c, .int .i64 0]) (fun w hw => (by have := complement_any none 0 0 [] (s : Int) w (Exts.nil0 _ _) (by omega); rw [h0] at this; exact this)) ?_
  intro A n c hl hr
  simp -implicitDefEqProofs (disch := first | omega | decide) only [seval, -Int.reducePow, -Nat.reducePow, cC, pv, binv, sArNew1, undef]
  refine hK _ _ ?_
  clear hK K
  refine cv_seq_k fun K hK => ?_
  refine cv_seq_k fun K hK => ?_
  refine cv_region_then rfl ?_
  simp -implicitDefEqProofs (disch := first | omega | decide) only [seval, -Int.reducePow, -Nat.reducePow, cC, pv, binv, sArNew1, undef]
  refine hK _ _ ?_
  clear hK K
  refine cv_cond ?_
  simp -implicitDefEqProofs (disch := first | omega | decide) only [seval, -Int.reducePow, -Nat.reducePow, cC, pv, binv, sArNew1, undef]
  refine cv_skip ?_
  try simp only [blockQ, thenQ]
  refine hK _ _ ?_
  clear hK K
  refine cv_seq_k fun K hK => ?_
  refine cv_region_then rfl ?_
  simp -implicitDefEqProofs (disch := first | omega | decide) only [seval, -Int.reducePow, -Nat.reducePow, cC, pv, binv, sArNew1, undef]
  refine xv_mkmap ?_
  intro bm hbm hfm
  simp -implicitDefEqProofs (disch := first | omega | decide) only [seval, -Int.reducePow, -Nat.reducePow, cC, pv, binv, sArNew1, undef]
  intro bA hbA
  refine hK _ _ ?_
  clear hK K
  refine cv_ret ⟨_, (by simp -implicitDefEqProofs (disch := first | omega | decide) only [seval, -Int.reducePow, -Nat.reducePow, cC, pv, binv, sArNew1, undef]; rfl), fun w hw => ?_⟩
  exact ⟨⟨bA, bm, A, n, c, (Ex.compF [] (s : Int)).1, []⟩, rfl, ⟨rfl, rfl⟩, hw⟩
set_option maxHeartbeats 1000000 in
theorem aNew_no (s : Int) (W : World) (hs : s < 0 ∨ 1048576 < s) : Calls Try.prog 32 #[.int .i64 s] W
    fun e w' => e = .returned (.tuple #[.pointer none, .int .i64 1]) ∧ Below W.heap.size W w' := by
  have h0 := Ex.compN_no hs
  refine calls_cv (M := []) (n := 18) [.tmp 2, .tmp 3] rfl Try.func32 rfl rfl (Nat.le_of_ble_eq_true rfl) (St.nil _ _) ?_
  refine cv_seq_k fun K hK => ?_
  refine cv_region_then rfl ?_
  simp -implicitDefEqProofs (disch := first | omega | decide) only [seval, -Int.reducePow, -Nat.reducePow, cC, pv, binv, sArNew1, undef]
  refine hK _ _ ?_
  clear hK K
  refine cv_seq_k fun K hK => ?_
  refine cv_region_then rfl ?_
  simp -implicitDefEqProofs (disch := first | omega | decide) only [seval, -Int.reducePow, -Nat.reducePow, cC, pv, binv, sArNew1, undef]
  refine callV_row (fun A n c => .tuple #[.slice A n c, .int .i64 1]) (fun w hw => (by have := complement_any none 0 0 [] s w (Exts.nil0 _ _) (by omega); rw [h0] at this; exact this)) ?_
  intro A n c hl hr
  simp -implicitDefEqProofs (disch := first | omega | decide) only [seval, -Int.reducePow, -Nat.reducePow, cC, pv, binv, sArNew1, undef]
  refine hK _ _ ?_
  clear hK K
  refine cv_seq_k fun K hK => ?_
  refine cv_seq_k fun K hK => ?_
  refine cv_region_then rfl ?_
  simp -implicitDefEqProofs (disch := first | omega | decide) only [seval, -Int.reducePow, -Nat.reducePow, cC, pv, binv, sArNew1, undef]
  refine hK _ _ ?_
  clear hK K
  refine cv_cond ?_
  simp -implicitDefEqProofs (disch := first | omega | decide) only [seval, -Int.reducePow, -Nat.reducePow, cC, pv, binv, sArNew1, undef]
  refine cv_seq_k fun K hK => ?_
  refine cv_region_then rfl ?_
  simp -implicitDefEqProofs (disch := first | omega | decide) only [seval, -Int.reducePow, -Nat.reducePow, cC, pv, binv, sArNew1, undef]
  refine hK _ _ ?_
  clear hK K
  refine cv_ret ⟨_, (by simp -implicitDefEqProofs (disch := first | omega | decide) only [seval, -Int.reducePow, -Nat.reducePow, cC, pv, binv, sArNew1, undef]; rfl), fun w hw => ?_⟩
  exact ⟨rfl, hw.below⟩
theorem byt_rep (n : Nat) : List.replicate n (Value.int .u8 0) = byt (List.replicate n 0) := by simp [byt]
set_option maxHeartbeats 1000000 in
theorem arNew_ok (s : Nat) (W : World) (hs : s ≤ 1048576) : Calls Try.prog 10 #[.int .i64 (s : Int)] W
    fun e w' => ∃ x : ArR, e = .returned (.tuple #[.pointer (some ⟨x.bR, 0, none⟩), .int .i64 0]) ∧ (x.N = s ∧ x.bs = List.replicate s 0 ∧ Ex.Inv (s : Int) [] x.al.fr x.al.tk) ∧ St [] W (arL x) w' := by
  have hI := Ex.inv_new (N := (s : Int)) (by omega) (by omega)
  refine calls_cv (M := []) (n := 19) [.tmp 2, .tmp 3] rfl Try.func10 rfl rfl (Nat.le_of_ble_eq_true rfl) (St.nil _ _) ?_
  refine cv_seq_k fun K hK => ?_
  refine cv_region_then rfl ?_
  simp -implicitDefEqProofs (disch := first | omega | decide) only [seval, -Int.reducePow, -Nat.reducePow, cC, pv, binv, sArNew1, undef]
  refine hK _ _ ?_
  clear hK K
  refine cv_seq_k fun K hK => ?_
  refine cv_region_then rfl ?_
  simp -implicitDefEqProofs (disch := first | omega | decide) only [seval, -Int.reducePow, -Nat.reducePow, cC, pv, binv, sArNew1, undef]
  refine callV_grp [] [] (by decide) (fun y : AlR => .tuple #[.pointer (some ⟨y.bA, 0, none⟩), .int .i64 0]) (fun y => alL y) (fun y => y.fr = (Ex.compF [] (s : Int)).1 ∧ y.tk = []) (fun w hw hs' => aNew_ok s w hs) ?_
  intro y hy
  simp only [pickL, nth]
  simp -implicitDefEqProofs (disch := first | omega | decide) only [seval, -Int.reducePow, -Nat.reducePow, cC, pv, binv, sArNew1, undef]
  refine hK _ _ ?_
  clear hK K
  refine cv_seq_k fun K hK => ?_
  refine cv_seq_k fun K hK => ?_
  refine cv_region_then rfl ?_
  simp -implicitDefEqProofs (disch := first | omega | decide) only [seval, -Int.reducePow, -Nat.reducePow, cC, pv, binv, sArNew1, undef]
  refine hK _ _ ?_
  clear hK K
  refine cv_cond ?_
  simp -implicitDefEqProofs (disch := first | omega | decide) only [seval, -Int.reducePow, -Nat.reducePow, cC, pv, binv, sArNew1, undef]
  refine cv_skip ?_
  try simp only [blockQ, thenQ]
  refine hK _ _ ?_
  clear hK K
  refine cv_seq_k fun K hK => ?_
  refine cv_region_then rfl ?_
  simp -implicitDefEqProofs (disch := first | omega | decide) only [seval, -Int.reducePow, -Nat.reducePow, cC, pv, binv, sArNew1, undef]
  refine xv_make (u := .int .u8 0) tap36 rfl rfl rfl (by omega) (by omega) ?_
  intro bB hbB hfB
  simp -implicitDefEqProofs (disch := first | omega | decide) only [seval, -Int.reducePow, -Nat.reducePow, cC, pv, binv, sArNew1, undef]
  intro bR hbR hfR
  rw [byt_rep]
  refine hK _ _ ?_
  clear hK K
  refine cv_ret ⟨_, (by simp -implicitDefEqProofs (disch := first | omega | decide) only [seval, -Int.reducePow, -Nat.reducePow, cC, pv, binv, sArNew1, undef]; rfl), fun w hw => ?_⟩
  refine ⟨⟨y, bR, bB, s, List.replicate s 0⟩, rfl, ⟨rfl, rfl, ?_⟩, hw⟩
  dsimp only
  rw [hy.1, hy.2]
  exact hI
set_option maxHeartbeats 1000000 in
theorem arNew_no (s : Int) (W : World) (hs : s < 0 ∨ 1048576 < s) : Calls Try.prog 10 #[.int .i64 s] W
    fun e w' => e = .returned (.tuple #[.pointer none, .int .i64 1]) ∧ Below W.heap.size W w' := by
  refine calls_cv (M := []) (n := 19) [.tmp 2, .tmp 3] rfl Try.func10 rfl rfl (Nat.le_of_ble_eq_true rfl) (St.nil _ _) ?_
  refine cv_seq_k fun K hK => ?_
  refine cv_region_then rfl ?_
  simp -implicitDefEqProofs (disch := first | omega | decide) only [seval, -Int.reducePow, -Nat.reducePow, cC, pv, binv, sArNew1, undef]
  refine hK _ _ ?_
  clear hK K
  refine cv_seq_k fun K hK => ?_
  refine cv_region_then rfl ?_
  simp -implicitDefEqProofs (disch := first | omega | decide) only [seval, -Int.reducePow, -Nat.reducePow, cC, pv, binv, sArNew1, undef]
  refine callV_ret (fun w hw => aNew_no s w hs) ?_
  try simp -implicitDefEqProofs (disch := first | omega | decide) only [seval, -Int.reducePow, -Nat.reducePow, cC, pv, binv, sArNew1, undef]
  refine hK _ _ ?_
  clear hK K
  refine cv_seq_k fun K hK => ?_
  refine cv_seq_k fun K hK => ?_
  refine cv_region_then rfl ?_
  simp -implicitDefEqProofs (disch := first | omega | decide) only [seval, -Int.reducePow, -Nat.reducePow, cC, pv, binv, sArNew1, undef]
  refine hK _ _ ?_
  clear hK K
  refine cv_cond ?_
  simp -implicitDefEqProofs (disch := first | omega | decide) only [seval, -Int.reducePow, -Nat.reducePow, cC, pv, binv, sArNew1, undef]
  refine cv_seq_k fun K hK => ?_
  refine cv_region_then rfl ?_
  simp -implicitDefEqProofs (disch := first | omega | decide) only [seval, -Int.reducePow, -Nat.reducePow, cC, pv, binv, sArNew1, undef]
  refine hK _ _ ?_
  clear hK K
  refine cv_ret ⟨_, (by simp -implicitDefEqProofs (disch := first | omega | decide) only [seval, -Int.reducePow, -Nat.reducePow, cC, pv, binv, sArNew1, undef]; rfl), fun w hw => ?_⟩
  exact ⟨rfl, hw.below⟩
end Go.Proofs.Ytfaanphjaghbpaa
