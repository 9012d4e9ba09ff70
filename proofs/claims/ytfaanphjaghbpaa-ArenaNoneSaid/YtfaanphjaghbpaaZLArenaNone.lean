/- Nil and zero arenas. -/
import Derived.Test.YtfaanphjaghbpaaZ5
import Derived.Test.YtfaanphjaghbpaaZ4
namespace Go.Proofs.Ytfaanphjaghbpaa
open Go.RowKit Go.Shelf
set_option linter.unusedVariables false
set_option linter.unusedSimpArgs false
set_option maxRecDepth 100000
/-- A nil arena, or a zero one. -/
def Zr (w : World) (B : Nat) (z : Value) : Prop := z = .pointer none ∨ ∃ b, z = .pointer (some ⟨b, 0, none⟩) ∧ Sl w B 1 (some ⟨b, 0, none⟩) 2 2 [.pointer none, .slice none 0 0]
theorem Zr.at {W w : World} {L : List Res} {z : Value} (h : Zr W W.heap.size z) (hw : St [] W L w) : Zr w w.heap.size z := by
  rcases h with h | ⟨b, h1, h2⟩
  · exact .inl h
  · exact .inr ⟨b, h1, h2.at hw⟩
set_option maxRecDepth 100000 in
theorem sArNone1 : type_of% (And.intro (And.intro @eBox.eq_1 (And.intro @exV.eq_1 @Nat.mul_one)) (And.intro @wrap_in (And.intro @cMp @cM))) := (And.intro (And.intro @eBox.eq_1 (And.intro @exV.eq_1 @Nat.mul_one)) (And.intro @wrap_in (And.intro @cMp @cM)))
section
variable (W : World)
theorem parts_z (z : Value) (h : Zr W W.heap.size z) : Calls Try.prog 33 #[z] W
    fun e w' => e = .returned (.pointer none) ∧ Below W.heap.size W w' := by
  refine calls_cv (M := []) (n := 9) [.tmp 2] rfl Try.func33 rfl rfl (Nat.le_of_ble_eq_true rfl) (St.nil _ _) ?_
  refine cv_seq_k fun K hK => ?_
  refine cv_region_then rfl ?_
  simp -implicitDefEqProofs (disch := first | omega | decide) only [seval, -Int.reducePow, -Nat.reducePow, cC, pv, binv, sArNone1, undef]
  refine hK _ _ ?_
  clear hK K
  rcases h with rfl | ⟨b, rfl, hb⟩
  · refine cv_seq_k fun K hK => ?_
    refine cv_seq_k fun K hK => ?_
    refine cv_region_then rfl ?_
    simp -implicitDefEqProofs (disch := first | omega | decide) only [seval, -Int.reducePow, -Nat.reducePow, cC, pv, binv, sArNone1, undef]
    refine hK _ _ ?_
    clear hK K
    refine cv_cond ?_
    simp -implicitDefEqProofs (disch := first | omega | decide) only [seval, -Int.reducePow, -Nat.reducePow, cC, pv, binv, sArNone1, undef]
    refine cv_seq_k fun K hK => ?_
    refine cv_region_then rfl ?_
    simp -implicitDefEqProofs (disch := first | omega | decide) only [seval, -Int.reducePow, -Nat.reducePow, cC, pv, binv, sArNone1, undef]
    refine hK _ _ ?_
    clear hK K
    refine cv_ret ⟨_, (by simp -implicitDefEqProofs (disch := first | omega | decide) only [seval, -Int.reducePow, -Nat.reducePow, cC, pv, binv, sArNone1, undef]; rfl), fun w hw => ?_⟩
    exact ⟨rfl, hw.below⟩
  · obtain ⟨_, _, hq, hbR, -⟩ := hb.cells (by omega)
    cases hq
    refine cv_seq_k fun K hK => ?_
    refine cv_seq_k fun K hK => ?_
    refine cv_region_then rfl ?_
    simp -implicitDefEqProofs (disch := first | omega | decide) only [seval, -Int.reducePow, -Nat.reducePow, cC, pv, binv, sArNone1, undef]
    refine hK _ _ ?_
    clear hK K
    refine cv_cond ?_
    simp -implicitDefEqProofs (disch := first | omega | decide) only [seval, -Int.reducePow, -Nat.reducePow, cC, pv, binv, sArNone1, undef]
    refine cv_skip ?_
    try simp only [blockQ, thenQ]
    refine hK _ _ ?_
    clear hK K
    refine cv_seq_k fun K hK => ?_
    refine cv_region_then rfl ?_
    simp -implicitDefEqProofs (disch := first | omega | decide) only [seval, -Int.reducePow, -Nat.reducePow, cC, pv, binv, sArNone1, undef]
    refine ⟨_, hb.ld1 (m := 1) (i := 0) (by kernel_rfl) rfl, fun tok htok => ?_⟩
    subst htok
    simp -implicitDefEqProofs (disch := first | omega | decide) only [seval, -Int.reducePow, -Nat.reducePow, cC, pv, binv, sArNone1, undef]
    refine hK _ _ ?_
    clear hK K
    refine cv_ret ⟨_, (by simp -implicitDefEqProofs (disch := first | omega | decide) only [seval, -Int.reducePow, -Nat.reducePow, cC, pv, binv, sArNone1, undef]; rfl), fun w hw => ?_⟩
    exact ⟨rfl, hw.below⟩
theorem bclone_z : Calls Try.prog 38 #[.slice none 0 0] W
    fun e w' => e = .returned (.slice none 0 0) ∧ Below W.heap.size W w' := by
  refine calls_cv (M := []) (n := 8) [.tmp 2] rfl Try.func38 rfl rfl (Nat.le_of_ble_eq_true rfl) (St.nil _ _) ?_
  refine cv_seq_k fun K hK => ?_
  refine cv_region_then rfl ?_
  simp -implicitDefEqProofs (disch := first | omega | decide) only [seval, -Int.reducePow, -Nat.reducePow, cC, pv, binv, sArNone1, undef]
  refine hK _ _ ?_
  clear hK K
  refine cv_seq_k fun K hK => ?_
  refine cv_seq_k fun K hK => ?_
  refine cv_region_then rfl ?_
  simp -implicitDefEqProofs (disch := first | omega | decide) only [seval, -Int.reducePow, -Nat.reducePow, cC, pv, binv, sArNone1, undef]
  refine hK _ _ ?_
  clear hK K
  refine cv_cond ?_
  simp -implicitDefEqProofs (disch := first | omega | decide) only [seval, -Int.reducePow, -Nat.reducePow, cC, pv, binv, sArNone1, undef]
  refine cv_seq_k fun K hK => ?_
  refine cv_region_then rfl ?_
  simp -implicitDefEqProofs (disch := first | omega | decide) only [seval, -Int.reducePow, -Nat.reducePow, cC, pv, binv, sArNone1, undef]
  refine hK _ _ ?_
  clear hK K
  refine cv_ret ⟨_, (by simp -implicitDefEqProofs (disch := first | omega | decide) only [seval, -Int.reducePow, -Nat.reducePow, cC, pv, binv, sArNone1, undef]; rfl), fun w hw => ?_⟩
  exact ⟨rfl, hw.below⟩
theorem Bytes_z (z : Value) (h : Zr W W.heap.size z) : Calls Try.prog 20 #[z] W
    fun e w' => e = .returned (.slice none 0 0) ∧ Below W.heap.size W w' := by
  refine calls_cv (M := []) (n := 10) [.tmp 2] rfl Try.func20 rfl rfl (Nat.le_of_ble_eq_true rfl) (St.nil _ _) ?_
  refine cv_seq_k fun K hK => ?_
  refine cv_region_then rfl ?_
  simp -implicitDefEqProofs (disch := first | omega | decide) only [seval, -Int.reducePow, -Nat.reducePow, cC, pv, binv, sArNone1, undef]
  refine hK _ _ ?_
  clear hK K
  rcases h with rfl | ⟨b, rfl, hb⟩
  · refine cv_seq_k fun K hK => ?_
    refine cv_seq_k fun K hK => ?_
    refine cv_region_then rfl ?_
    simp -implicitDefEqProofs (disch := first | omega | decide) only [seval, -Int.reducePow, -Nat.reducePow, cC, pv, binv, sArNone1, undef]
    refine hK _ _ ?_
    clear hK K
    refine cv_cond ?_
    simp -implicitDefEqProofs (disch := first | omega | decide) only [seval, -Int.reducePow, -Nat.reducePow, cC, pv, binv, sArNone1, undef]
    refine cv_seq_k fun K hK => ?_
    refine cv_region_then rfl ?_
    simp -implicitDefEqProofs (disch := first | omega | decide) only [seval, -Int.reducePow, -Nat.reducePow, cC, pv, binv, sArNone1, undef]
    refine hK _ _ ?_
    clear hK K
    refine cv_ret ⟨_, (by simp -implicitDefEqProofs (disch := first | omega | decide) only [seval, -Int.reducePow, -Nat.reducePow, cC, pv, binv, sArNone1, undef]; rfl), fun w hw => ?_⟩
    exact ⟨rfl, hw.below⟩
  · obtain ⟨_, _, hq, hbR, -⟩ := hb.cells (by omega)
    cases hq
    refine cv_seq_k fun K hK => ?_
    refine cv_seq_k fun K hK => ?_
    refine cv_region_then rfl ?_
    simp -implicitDefEqProofs (disch := first | omega | decide) only [seval, -Int.reducePow, -Nat.reducePow, cC, pv, binv, sArNone1, undef]
    refine hK _ _ ?_
    clear hK K
    refine cv_cond ?_
    simp -implicitDefEqProofs (disch := first | omega | decide) only [seval, -Int.reducePow, -Nat.reducePow, cC, pv, binv, sArNone1, undef]
    refine cv_skip ?_
    try simp only [blockQ, thenQ]
    refine hK _ _ ?_
    clear hK K
    refine cv_seq_k fun K hK => ?_
    refine cv_region_then rfl ?_
    simp -implicitDefEqProofs (disch := first | omega | decide) only [seval, -Int.reducePow, -Nat.reducePow, cC, pv, binv, sArNone1, undef]
    refine ⟨_, hb.ld1 (m := 1) (i := 1) (by kernel_rfl) rfl, fun tok htok => ?_⟩
    subst htok
    simp -implicitDefEqProofs (disch := first | omega | decide) only [seval, -Int.reducePow, -Nat.reducePow, cC, pv, binv, sArNone1, undef]
    refine callV_ret (fun w hw => bclone_z w) ?_
    try simp -implicitDefEqProofs (disch := first | omega | decide) only [seval, -Int.reducePow, -Nat.reducePow, cC, pv, binv, sArNone1, undef]
    refine hK _ _ ?_
    clear hK K
    refine cv_ret ⟨_, (by simp -implicitDefEqProofs (disch := first | omega | decide) only [seval, -Int.reducePow, -Nat.reducePow, cC, pv, binv, sArNone1, undef]; rfl), fun w hw => ?_⟩
    exact ⟨rfl, hw.below⟩
theorem aHas_z (e : Ext) : Calls Try.prog 56 #[.pointer none, exV e] W
    fun en w' => en = .returned (.bool false) ∧ Below W.heap.size W w' := by
  refine calls_cv (M := []) (n := 26) [.tmp 4] rfl Try.func56 rfl rfl (Nat.le_of_ble_eq_true rfl) (St.nil _ _) ?_
  refine cv_seq_k fun K hK => ?_
  refine cv_region_then rfl ?_
  simp -implicitDefEqProofs (disch := first | omega | decide) only [seval, -Int.reducePow, -Nat.reducePow, cC, pv, binv, sArNone1, undef]
  intro b3 hb3
  refine hK _ _ ?_
  clear hK K
  refine cv_seq_k fun K hK => ?_
  refine cv_seq_k fun K hK => ?_
  refine cv_region_then rfl ?_
  simp -implicitDefEqProofs (disch := first | omega | decide) only [seval, -Int.reducePow, -Nat.reducePow, cC, pv, binv, sArNone1, undef]
  refine hK _ _ ?_
  clear hK K
  refine cv_cond ?_
  simp -implicitDefEqProofs (disch := first | omega | decide) only [seval, -Int.reducePow, -Nat.reducePow, cC, pv, binv, sArNone1, undef]
  refine cv_seq_k fun K hK => ?_
  refine cv_region_then rfl ?_
  simp -implicitDefEqProofs (disch := first | omega | decide) only [seval, -Int.reducePow, -Nat.reducePow, cC, pv, binv, sArNone1, undef]
  refine hK _ _ ?_
  clear hK K
  refine cv_ret ⟨_, (by simp -implicitDefEqProofs (disch := first | omega | decide) only [seval, -Int.reducePow, -Nat.reducePow, cC, pv, binv, sArNone1, undef]; rfl), fun w hw => ?_⟩
  exact ⟨rfl, hw.below⟩
theorem aFreeList_z : Calls Try.prog 49 #[.pointer none] W
    fun en w' => en = .returned (.slice none 0 0) ∧ Below W.heap.size W w' := by
  refine calls_cv (M := []) (n := 10) [.tmp 2] rfl Try.func49 rfl rfl (Nat.le_of_ble_eq_true rfl) (St.nil _ _) ?_
  refine cv_seq_k fun K hK => ?_
  refine cv_region_then rfl ?_
  simp -implicitDefEqProofs (disch := first | omega | decide) only [seval, -Int.reducePow, -Nat.reducePow, cC, pv, binv, sArNone1, undef]
  refine hK _ _ ?_
  clear hK K
  refine cv_seq_k fun K hK => ?_
  refine cv_seq_k fun K hK => ?_
  refine cv_region_then rfl ?_
  simp -implicitDefEqProofs (disch := first | omega | decide) only [seval, -Int.reducePow, -Nat.reducePow, cC, pv, binv, sArNone1, undef]
  refine hK _ _ ?_
  clear hK K
  refine cv_cond ?_
  simp -implicitDefEqProofs (disch := first | omega | decide) only [seval, -Int.reducePow, -Nat.reducePow, cC, pv, binv, sArNone1, undef]
  refine cv_seq_k fun K hK => ?_
  refine cv_region_then rfl ?_
  simp -implicitDefEqProofs (disch := first | omega | decide) only [seval, -Int.reducePow, -Nat.reducePow, cC, pv, binv, sArNone1, undef]
  refine hK _ _ ?_
  clear hK K
  refine cv_ret ⟨_, (by simp -implicitDefEqProofs (disch := first | omega | decide) only [seval, -Int.reducePow, -Nat.reducePow, cC, pv, binv, sArNone1, undef]; rfl), fun w hw => ?_⟩
  exact ⟨rfl, hw.below⟩
theorem afind_z (n : Int) : Calls Try.prog 54 #[.pointer none, .int .i64 n] W
    fun e w' => e = .returned (.tuple #[exV (Ex.findF [] n).1, .int .i64 (Ex.findF [] n).2]) ∧ Below W.heap.size W w' := by
  obtain ⟨S, hS⟩ : ∃ S, Sz.rnd n = S := ⟨_, rfl⟩
  obtain ⟨e0, he⟩ : ∃ e0, Sz.err n = e0 := ⟨_, rfl⟩
  have hF : Ex.findF [] n = if e0 = 0 then (⟨0, 0⟩, 18) else (⟨0, 0⟩, e0) := by rw [← he]; rfl
  refine calls_cv2 (M := []) (n := 58) [.cell 4 28, .tmp 5] rfl Try.func54 rfl rfl (Nat.le_of_ble_eq_true rfl) (St.nil _ _) ?_
  refine cv_seq_k fun K hK => ?_
  refine cv_region_then rfl ?_
  simp -implicitDefEqProofs (disch := first | omega | decide) only [seval, -Int.reducePow, -Nat.reducePow, cC, pv, binv, sArNone1, undef]
  intro b4 hb4
  refine hK _ _ ?_
  clear hK K
  refine cv_seq_k fun K hK => ?_
  refine cv_region_then rfl ?_
  simp -implicitDefEqProofs (disch := first | omega | decide) only [seval, -Int.reducePow, -Nat.reducePow, cC, pv, binv, sArNone1, undef]
  refine callV_ret (fun w hw => round_any n w) ?_
  try simp -implicitDefEqProofs (disch := first | omega | decide) only [seval, -Int.reducePow, -Nat.reducePow, cC, pv, binv, sArNone1, undef, hS, he]
  refine hK _ _ ?_
  clear hK K
  refine cv_seq_k fun K hK => ?_
  refine cv_seq_k fun K hK => ?_
  refine cv_region_then rfl ?_
  simp -implicitDefEqProofs (disch := first | omega | decide) only [seval, -Int.reducePow, -Nat.reducePow, cC, pv, binv, sArNone1, undef]
  refine hK _ _ ?_
  clear hK K
  refine cv_cond ?_
  simp -implicitDefEqProofs (disch := first | omega | decide) only [seval, -Int.reducePow, -Nat.reducePow, cC, pv, binv, sArNone1, undef]
  refine ⟨fun hc => ?_, fun hc => ?_⟩
  · have hz : ¬ e0 = 0 := nd_true ‹(!decide (e0 = 0)) = true›
    refine cv_seq_k fun K hK => ?_
    refine cv_region_then rfl ?_
    simp -implicitDefEqProofs (disch := first | omega | decide) only [seval, -Int.reducePow, -Nat.reducePow, cC, pv, binv, sArNone1, undef]
    refine hK _ _ ?_
    clear hK K
    refine cv_ret ?_
    simp -implicitDefEqProofs (disch := first | omega | decide) only [seval, -Int.reducePow, -Nat.reducePow, cC, pv, binv, sArNone1, undef, retQ2, ressV, packV]
    intro w hw
    rw [hF, if_neg hz]
    exact ⟨rfl, hw.below⟩
  have hz : e0 = 0 := Decidable.not_not.1 (nd_false ‹(!decide (e0 = 0)) = false›)
  rw [if_pos hz] at hF
  refine cv_skip ?_
  try simp only [blockQ, thenQ]
  refine hK _ _ ?_
  clear hK K
  refine cv_seq_k fun K hK => ?_
  refine cv_region_then rfl ?_
  simp -implicitDefEqProofs (disch := first | omega | decide) only [seval, -Int.reducePow, -Nat.reducePow, cC, pv, binv, sArNone1, undef]
  intro b8 hb8 hf8
  refine hK _ _ ?_
  clear hK K
  refine cv_seq_k fun K hK => ?_
  refine cv_seq_k fun K hK => ?_
  refine cv_region_then rfl ?_
  simp -implicitDefEqProofs (disch := first | omega | decide) only [seval, -Int.reducePow, -Nat.reducePow, cC, pv, binv, sArNone1, undef]
  refine hK _ _ ?_
  clear hK K
  refine cv_cond ?_
  simp -implicitDefEqProofs (disch := first | omega | decide) only [seval, -Int.reducePow, -Nat.reducePow, cC, pv, binv, sArNone1, undef]
  refine cv_skip ?_
  try simp only [blockQ, thenQ]
  refine hK _ _ ?_
  clear hK K
  refine cv_seq_k fun K hK => ?_
  refine cv_seq_k fun K hK => ?_
  refine cv_region_then rfl ?_
  simp -implicitDefEqProofs (disch := first | omega | decide) only [seval, -Int.reducePow, -Nat.reducePow, cC, pv, binv, sArNone1, undef]
  refine hK _ _ ?_
  clear hK K
  refine cv_cond ?_
  simp -implicitDefEqProofs (disch := first | omega | decide) only [seval, -Int.reducePow, -Nat.reducePow, cC, pv, binv, sArNone1, undef]
  refine cv_seq_k fun K hK => ?_
  refine cv_region_then rfl ?_
  simp -implicitDefEqProofs (disch := first | omega | decide) only [seval, -Int.reducePow, -Nat.reducePow, cC, pv, binv, sArNone1, undef]
  refine hK _ _ ?_
  clear hK K
  refine cv_ret ?_
  simp -implicitDefEqProofs (disch := first | omega | decide) only [seval, -Int.reducePow, -Nat.reducePow, cC, pv, binv, sArNone1, undef, retQ2, ressV, packV]
  intro w hw
  rw [hF]
  exact ⟨rfl, hw.below⟩
theorem aFits_z (n : Int) : Calls Try.prog 50 #[.pointer none, .int .i64 n] W
    fun e w' => e = .returned (.int .i64 (Ex.findF [] n).2) ∧ Below W.heap.size W w' := by
  refine calls_cv (M := []) (n := 14) [.tmp 4] rfl Try.func50 rfl rfl (Nat.le_of_ble_eq_true rfl) (St.nil _ _) ?_
  refine cv_seq_k fun K hK => ?_
  refine cv_region_then rfl ?_
  simp -implicitDefEqProofs (disch := first | omega | decide) only [seval, -Int.reducePow, -Nat.reducePow, cC, pv, binv, sArNone1, undef]
  refine hK _ _ ?_
  clear hK K
  refine cv_seq_k fun K hK => ?_
  refine cv_region_then rfl ?_
  simp -implicitDefEqProofs (disch := first | omega | decide) only [seval, -Int.reducePow, -Nat.reducePow, cC, pv, binv, sArNone1, undef]
  refine callV_ret (fun w hw => afind_z w n) ?_
  try simp -implicitDefEqProofs (disch := first | omega | decide) only [seval, -Int.reducePow, -Nat.reducePow, cC, pv, binv, sArNone1, undef]
  intro b5 hb5
  refine hK _ _ ?_
  clear hK K
  refine cv_seq_k fun K hK => ?_
  refine cv_region_then rfl ?_
  simp -implicitDefEqProofs (disch := first | omega | decide) only [seval, -Int.reducePow, -Nat.reducePow, cC, pv, binv, sArNone1, undef]
  refine hK _ _ ?_
  clear hK K
  refine cv_ret ⟨_, (by simp -implicitDefEqProofs (disch := first | omega | decide) only [seval, -Int.reducePow, -Nat.reducePow, cC, pv, binv, sArNone1, undef]; rfl), fun w hw => ?_⟩
  exact ⟨rfl, hw.below⟩
variable (z : Value) (h : Zr W W.heap.size z)
include h
theorem arFits_z (n : Int) : Calls Try.prog 30 #[z, .int .i64 n] W
    fun e w' => e = .returned (.int .i64 (Ex.findF [] n).2) ∧ Below W.heap.size W w' := by
  refine calls_cv (M := []) (n := 9) [.tmp 4] rfl Try.func30 rfl rfl (Nat.le_of_ble_eq_true rfl) (St.nil _ _) ?_
  refine cv_seq_k fun K hK => ?_
  refine cv_region_then rfl ?_
  simp -implicitDefEqProofs (disch := first | omega | decide) only [seval, -Int.reducePow, -Nat.reducePow, cC, pv, binv, sArNone1, undef]
  refine hK _ _ ?_
  clear hK K
  refine cv_seq_k fun K hK => ?_
  refine cv_region_then rfl ?_
  simp -implicitDefEqProofs (disch := first | omega | decide) only [seval, -Int.reducePow, -Nat.reducePow, cC, pv, binv, sArNone1, undef]
  refine callV_ret (fun w hw => parts_z w z (h.at hw)) ?_
  try simp -implicitDefEqProofs (disch := first | omega | decide) only [seval, -Int.reducePow, -Nat.reducePow, cC, pv, binv, sArNone1, undef]
  refine callV_ret (fun w hw => aFits_z w n) ?_
  try simp -implicitDefEqProofs (disch := first | omega | decide) only [seval, -Int.reducePow, -Nat.reducePow, cC, pv, binv, sArNone1, undef]
  refine hK _ _ ?_
  clear hK K
  refine cv_ret ⟨_, (by simp -implicitDefEqProofs (disch := first | omega | decide) only [seval, -Int.reducePow, -Nat.reducePow, cC, pv, binv, sArNone1, undef]; rfl), fun w hw => ?_⟩
  exact ⟨rfl, hw.below⟩
theorem arFreeList_z : Calls Try.prog 29 #[z] W
    fun e w' => e = .returned (.slice none 0 0) ∧ Below W.heap.size W w' := by
  refine calls_cv (M := []) (n := 6) [.tmp 2] rfl Try.func29 rfl rfl (Nat.le_of_ble_eq_true rfl) (St.nil _ _) ?_
  refine cv_seq_k fun K hK => ?_
  refine cv_region_then rfl ?_
  simp -implicitDefEqProofs (disch := first | omega | decide) only [seval, -Int.reducePow, -Nat.reducePow, cC, pv, binv, sArNone1, undef]
  refine hK _ _ ?_
  clear hK K
  refine cv_seq_k fun K hK => ?_
  refine cv_region_then rfl ?_
  simp -implicitDefEqProofs (disch := first | omega | decide) only [seval, -Int.reducePow, -Nat.reducePow, cC, pv, binv, sArNone1, undef]
  refine callV_ret (fun w hw => parts_z w z (h.at hw)) ?_
  try simp -implicitDefEqProofs (disch := first | omega | decide) only [seval, -Int.reducePow, -Nat.reducePow, cC, pv, binv, sArNone1, undef]
  refine callV_ret (fun w hw => aFreeList_z w) ?_
  try simp -implicitDefEqProofs (disch := first | omega | decide) only [seval, -Int.reducePow, -Nat.reducePow, cC, pv, binv, sArNone1, undef]
  refine hK _ _ ?_
  clear hK K
  refine cv_ret ⟨_, (by simp -implicitDefEqProofs (disch := first | omega | decide) only [seval, -Int.reducePow, -Nat.reducePow, cC, pv, binv, sArNone1, undef]; rfl), fun w hw => ?_⟩
  exact ⟨rfl, hw.below⟩
theorem arSlice_z (e : Ext) : Calls Try.prog 36 #[z, exV e] W
    fun en w' => en = .returned (.tuple #[.slice none 0 0, .int .i64 6]) ∧ Below W.heap.size W w' := by
  refine calls_cv (M := []) (n := 23) [.tmp 4, .tmp 5] rfl Try.func36 rfl rfl (Nat.le_of_ble_eq_true rfl) (St.nil _ _) ?_
  refine cv_seq_k fun K hK => ?_
  refine cv_region_then rfl ?_
  simp -implicitDefEqProofs (disch := first | omega | decide) only [seval, -Int.reducePow, -Nat.reducePow, cC, pv, binv, sArNone1, undef]
  intro b3 hb3
  refine hK _ _ ?_
  clear hK K
  refine cv_seq_k fun K hK => ?_
  refine cv_seq_k fun K hK => ?_
  refine cv_draw_of (pickL [0] _) (fun w hw => hw.pick (by decide)) (by simp only [pickL, nth, suf_cons, suf_nil, List.mem_cons, true_or, or_true, and_true, eq_self]) [(true, 0), (true, 2), (false, 1), (false, 3), (true, 4)] [] mixA rfl (by kernel_rfl) (by kernel_rfl) rfl rfl ?_
  simp -implicitDefEqProofs (disch := first | omega | decide) only [seval, -Int.reducePow, -Nat.reducePow, cC, pv, binv, sArNone1, undef]
  refine callV_ret (fun w hw => parts_z w z (h.at hw)) ?_
  try simp -implicitDefEqProofs (disch := first | omega | decide) only [seval, -Int.reducePow, -Nat.reducePow, cC, pv, binv, sArNone1, undef]
  refine callV_ret (fun w hw => aHas_z w e) ?_
  try simp -implicitDefEqProofs (disch := first | omega | decide) only [seval, -Int.reducePow, -Nat.reducePow, cC, pv, binv, sArNone1, undef]
  refine hK _ _ ?_
  clear hK K
  refine cv_cond ?_
  simp -implicitDefEqProofs (disch := first | omega | decide) only [seval, -Int.reducePow, -Nat.reducePow, cC, pv, binv, sArNone1, undef]
  refine cv_seq_k fun K hK => ?_
  refine cv_region_then rfl ?_
  simp -implicitDefEqProofs (disch := first | omega | decide) only [seval, -Int.reducePow, -Nat.reducePow, cC, pv, binv, sArNone1, undef]
  refine hK _ _ ?_
  clear hK K
  refine cv_ret ⟨_, (by simp -implicitDefEqProofs (disch := first | omega | decide) only [seval, -Int.reducePow, -Nat.reducePow, cC, pv, binv, sArNone1, undef]; rfl), fun w hw => ?_⟩
  exact ⟨rfl, hw.below⟩
theorem field_z (e : Ext) (k wd : Int) : Calls Try.prog 35 #[z, exV e, .int .i64 k, .int .i64 wd] W
    fun en w' => en = .returned (.tuple #[.slice none 0 0, .int .i64 6]) ∧ Below W.heap.size W w' := by
  refine calls_cv (M := []) (n := 46) [.tmp 8, .tmp 9] rfl Try.func35 rfl rfl (Nat.le_of_ble_eq_true rfl) (St.nil _ _) ?_
  refine cv_seq_k fun K hK => ?_
  refine cv_region_then rfl ?_
  simp -implicitDefEqProofs (disch := first | omega | decide) only [seval, -Int.reducePow, -Nat.reducePow, cC, pv, binv, sArNone1, undef]
  intro b5 hb5
  refine hK _ _ ?_
  clear hK K
  refine cv_seq_k fun K hK => ?_
  refine cv_region_then rfl ?_
  simp -implicitDefEqProofs (disch := first | omega | decide) only [seval, -Int.reducePow, -Nat.reducePow, cC, pv, binv, sArNone1, undef]
  refine callV_ret (fun w hw => arSlice_z w z (h.at hw) e) ?_
  try simp -implicitDefEqProofs (disch := first | omega | decide) only [seval, -Int.reducePow, -Nat.reducePow, cC, pv, binv, sArNone1, undef]
  refine hK _ _ ?_
  clear hK K
  refine cv_seq_k fun K hK => ?_
  refine cv_seq_k fun K hK => ?_
  refine cv_region_then rfl ?_
  simp -implicitDefEqProofs (disch := first | omega | decide) only [seval, -Int.reducePow, -Nat.reducePow, cC, pv, binv, sArNone1, undef]
  refine hK _ _ ?_
  clear hK K
  refine cv_cond ?_
  simp -implicitDefEqProofs (disch := first | omega | decide) only [seval, -Int.reducePow, -Nat.reducePow, cC, pv, binv, sArNone1, undef]
  refine cv_seq_k fun K hK => ?_
  refine cv_region_then rfl ?_
  simp -implicitDefEqProofs (disch := first | omega | decide) only [seval, -Int.reducePow, -Nat.reducePow, cC, pv, binv, sArNone1, undef]
  refine hK _ _ ?_
  clear hK K
  refine cv_ret ⟨_, (by simp -implicitDefEqProofs (disch := first | omega | decide) only [seval, -Int.reducePow, -Nat.reducePow, cC, pv, binv, sArNone1, undef]; rfl), fun w hw => ?_⟩
  exact ⟨rfl, hw.below⟩
theorem arLoad_z (e : Ext) (k wd : Int) : Calls Try.prog 14 #[z, exV e, .int .i64 k, .int .i64 wd] W
    fun en w' => en = .returned (.tuple #[.int .u64 0, .int .i64 6]) ∧ Below W.heap.size W w' := by
  refine calls_cv (M := []) (n := 40) [.tmp 8, .tmp 9] rfl Try.func14 rfl rfl (Nat.le_of_ble_eq_true rfl) (St.nil _ _) ?_
  refine cv_seq_k fun K hK => ?_
  refine cv_region_then rfl ?_
  simp -implicitDefEqProofs (disch := first | omega | decide) only [seval, -Int.reducePow, -Nat.reducePow, cC, pv, binv, sArNone1, undef]
  intro b5 hb5
  refine hK _ _ ?_
  clear hK K
  refine cv_seq_k fun K hK => ?_
  refine cv_region_then rfl ?_
  simp -implicitDefEqProofs (disch := first | omega | decide) only [seval, -Int.reducePow, -Nat.reducePow, cC, pv, binv, sArNone1, undef]
  refine callV_ret (fun w hw => field_z w z (h.at hw) e k wd) ?_
  try simp -implicitDefEqProofs (disch := first | omega | decide) only [seval, -Int.reducePow, -Nat.reducePow, cC, pv, binv, sArNone1, undef]
  refine hK _ _ ?_
  clear hK K
  refine cv_seq_k fun K hK => ?_
  refine cv_region_then rfl ?_
  simp -implicitDefEqProofs (disch := first | omega | decide) only [seval, -Int.reducePow, -Nat.reducePow, cC, pv, binv, sArNone1, undef]
  refine hK _ _ ?_
  clear hK K
  refine cv_seq_k fun K hK => ?_
  refine cv_seq_k fun K hK => ?_
  refine cv_region_then rfl ?_
  simp -implicitDefEqProofs (disch := first | omega | decide) only [seval, -Int.reducePow, -Nat.reducePow, cC, pv, binv, sArNone1, undef]
  refine hK _ _ ?_
  clear hK K
  refine cv_gen fun G1 hG => ?_
  have g1_11 := congrFun hG 11
  have g1_12 := congrFun hG 12
  have g1_23 := congrFun hG 23
  have g1_24 := congrFun hG 24
  have g1_25 := congrFun hG 25
  clear hG
  try simp -implicitDefEqProofs (disch := first | omega | decide) only [seval, -Int.reducePow, -Nat.reducePow, cC, pv, binv, sArNone1, undef] at g1_11 g1_12 g1_23 g1_24 g1_25
  have g1 := And.intro g1_11 (And.intro g1_12 (And.intro g1_23 (And.intro g1_24 g1_25)))
  refine cv_block ?_
  refine cv_loop (fun F' L' => F' 11 = G1 11 ∧ F' 12 = .int .u64 0 ∧ F' 23 = G1 23 ∧ F' 24 = G1 24 ∧ F' 25 = .int .i64 0 ∧ L' = [eBox b5 e]) (fun F' L' => 0) ?_ ?_
  · simp -implicitDefEqProofs (disch := first | omega | decide) only [seval, -Int.reducePow, -Nat.reducePow, cC, pv, binv, sArNone1, undef, g1]
  intro G2 L' hI
  obtain ⟨q11, q12, q23, q24, q25, rfl⟩ := hI
  have g2_11 := q11.trans g1_11
  have g2_12 := q12
  have g2_23 := q23.trans g1_23
  have g2_24 := q24.trans g1_24
  have g2_25 := q25
  clear q11 q12 q23 q24 q25
  have g2 := And.intro g2_11 (And.intro g2_12 (And.intro g2_23 (And.intro g2_24 g2_25)))
  refine cv_seq_k fun K hK => ?_
  refine cv_region_then rfl ?_
  simp -implicitDefEqProofs (disch := first | omega | decide) only [seval, -Int.reducePow, -Nat.reducePow, cC, pv, binv, sArNone1, undef, g1, g2]
  refine hK _ _ ?_
  clear hK K
  refine cv_seq_k fun K hK => ?_
  refine cv_cond ?_
  simp -implicitDefEqProofs (disch := first | omega | decide) only [seval, -Int.reducePow, -Nat.reducePow, cC, pv, binv, sArNone1, undef, g1, g2]
  refine cv_exit ?_
  simp only [blockQ, thenQ, if_true, ite_true]
  clear hK K
  refine hK _ _ ?_
  clear hK K
  refine cv_seq_k fun K hK => ?_
  refine cv_region_then rfl ?_
  simp -implicitDefEqProofs (disch := first | omega | decide) only [seval, -Int.reducePow, -Nat.reducePow, cC, pv, binv, sArNone1, undef, g1, g2]
  refine hK _ _ ?_
  clear hK K
  refine cv_ret ⟨_, (by simp -implicitDefEqProofs (disch := first | omega | decide) only [seval, -Int.reducePow, -Nat.reducePow, cC, pv, binv, sArNone1, undef, g1, g2]; rfl), fun w hw => ?_⟩
  exact ⟨rfl, hw.below⟩
theorem arStore_z (e : Ext) (k wd v : Int) : Calls Try.prog 12 #[z, exV e, .int .i64 k, .int .i64 wd, .int .u64 v] W
    fun en w' => en = .returned (.int .i64 6) ∧ Below W.heap.size W w' := by
  refine calls_cv (M := []) (n := 48) [.tmp 10] rfl Try.func12 rfl rfl (Nat.le_of_ble_eq_true rfl) (St.nil _ _) ?_
  refine cv_seq_k fun K hK => ?_
  refine cv_region_then rfl ?_
  simp -implicitDefEqProofs (disch := first | omega | decide) only [seval, -Int.reducePow, -Nat.reducePow, cC, pv, binv, sArNone1, undef]
  intro b6 hb6
  refine hK _ _ ?_
  clear hK K
  refine cv_seq_k fun K hK => ?_
  refine cv_region_then rfl ?_
  simp -implicitDefEqProofs (disch := first | omega | decide) only [seval, -Int.reducePow, -Nat.reducePow, cC, pv, binv, sArNone1, undef]
  refine callV_ret (fun w hw => field_z w z (h.at hw) e k wd) ?_
  try simp -implicitDefEqProofs (disch := first | omega | decide) only [seval, -Int.reducePow, -Nat.reducePow, cC, pv, binv, sArNone1, undef]
  refine hK _ _ ?_
  clear hK K
  refine cv_seq_k fun K hK => ?_
  refine cv_seq_k fun K hK => ?_
  refine cv_region_then rfl ?_
  simp -implicitDefEqProofs (disch := first | omega | decide) only [seval, -Int.reducePow, -Nat.reducePow, cC, pv, binv, sArNone1, undef]
  refine hK _ _ ?_
  clear hK K
  refine cv_cond ?_
  simp -implicitDefEqProofs (disch := first | omega | decide) only [seval, -Int.reducePow, -Nat.reducePow, cC, pv, binv, sArNone1, undef]
  refine cv_seq_k fun K hK => ?_
  refine cv_region_then rfl ?_
  simp -implicitDefEqProofs (disch := first | omega | decide) only [seval, -Int.reducePow, -Nat.reducePow, cC, pv, binv, sArNone1, undef]
  refine hK _ _ ?_
  clear hK K
  refine cv_ret ⟨_, (by simp -implicitDefEqProofs (disch := first | omega | decide) only [seval, -Int.reducePow, -Nat.reducePow, cC, pv, binv, sArNone1, undef]; rfl), fun w hw => ?_⟩
  exact ⟨rfl, hw.below⟩
theorem arRead_z (e : Ext) (k n : Int) : Calls Try.prog 16 #[z, exV e, .int .i64 k, .int .i64 n] W
    fun en w' => en = .returned (.tuple #[.slice none 0 0, .int .i64 6]) ∧ Below W.heap.size W w' := by
  refine calls_cv (M := []) (n := 38) [.tmp 8, .tmp 9] rfl Try.func16 rfl rfl (Nat.le_of_ble_eq_true rfl) (St.nil _ _) ?_
  refine cv_seq_k fun K hK => ?_
  refine cv_region_then rfl ?_
  simp -implicitDefEqProofs (disch := first | omega | decide) only [seval, -Int.reducePow, -Nat.reducePow, cC, pv, binv, sArNone1, undef]
  intro b5 hb5
  refine hK _ _ ?_
  clear hK K
  refine cv_seq_k fun K hK => ?_
  refine cv_region_then rfl ?_
  simp -implicitDefEqProofs (disch := first | omega | decide) only [seval, -Int.reducePow, -Nat.reducePow, cC, pv, binv, sArNone1, undef]
  refine callV_ret (fun w hw => arSlice_z w z (h.at hw) e) ?_
  try simp -implicitDefEqProofs (disch := first | omega | decide) only [seval, -Int.reducePow, -Nat.reducePow, cC, pv, binv, sArNone1, undef]
  refine hK _ _ ?_
  clear hK K
  refine cv_seq_k fun K hK => ?_
  refine cv_block ?_
  refine cv_seq_k fun K hK => ?_
  refine cv_region_then rfl ?_
  simp -implicitDefEqProofs (disch := first | omega | decide) only [seval, -Int.reducePow, -Nat.reducePow, cC, pv, binv, sArNone1, undef]
  refine hK _ _ ?_
  clear hK K
  refine cv_cond ?_
  simp -implicitDefEqProofs (disch := first | omega | decide) only [seval, -Int.reducePow, -Nat.reducePow, cC, pv, binv, sArNone1, undef]
  refine cv_seq_k fun K hK => ?_
  refine cv_region_then rfl ?_
  simp -implicitDefEqProofs (disch := first | omega | decide) only [seval, -Int.reducePow, -Nat.reducePow, cC, pv, binv, sArNone1, undef]
  refine hK _ _ ?_
  clear hK K
  refine cv_ret ⟨_, (by simp -implicitDefEqProofs (disch := first | omega | decide) only [seval, -Int.reducePow, -Nat.reducePow, cC, pv, binv, sArNone1, undef]; rfl), fun w hw => ?_⟩
  exact ⟨rfl, hw.below⟩
theorem arWrite_z (e : Ext) (k : Int) (s : Value) : Calls Try.prog 15 #[z, exV e, .int .i64 k, s] W
    fun en w' => en = .returned (.int .i64 6) ∧ Below W.heap.size W w' := by
  refine calls_cv (M := []) (n := 31) [.tmp 8] rfl Try.func15 rfl rfl (Nat.le_of_ble_eq_true rfl) (St.nil _ _) ?_
  refine cv_seq_k fun K hK => ?_
  refine cv_region_then rfl ?_
  simp -implicitDefEqProofs (disch := first | omega | decide) only [seval, -Int.reducePow, -Nat.reducePow, cC, pv, binv, sArNone1, undef]
  intro b5 hb5
  refine hK _ _ ?_
  clear hK K
  refine cv_seq_k fun K hK => ?_
  refine cv_region_then rfl ?_
  simp -implicitDefEqProofs (disch := first | omega | decide) only [seval, -Int.reducePow, -Nat.reducePow, cC, pv, binv, sArNone1, undef]
  refine callV_ret (fun w hw => arSlice_z w z (h.at hw) e) ?_
  try simp -implicitDefEqProofs (disch := first | omega | decide) only [seval, -Int.reducePow, -Nat.reducePow, cC, pv, binv, sArNone1, undef]
  refine hK _ _ ?_
  clear hK K
  refine cv_seq_k fun K hK => ?_
  refine cv_seq_k fun K hK => ?_
  refine cv_region_then rfl ?_
  simp -implicitDefEqProofs (disch := first | omega | decide) only [seval, -Int.reducePow, -Nat.reducePow, cC, pv, binv, sArNone1, undef]
  refine hK _ _ ?_
  clear hK K
  refine cv_cond ?_
  simp -implicitDefEqProofs (disch := first | omega | decide) only [seval, -Int.reducePow, -Nat.reducePow, cC, pv, binv, sArNone1, undef]
  refine cv_seq_k fun K hK => ?_
  refine cv_region_then rfl ?_
  simp -implicitDefEqProofs (disch := first | omega | decide) only [seval, -Int.reducePow, -Nat.reducePow, cC, pv, binv, sArNone1, undef]
  refine hK _ _ ?_
  clear hK K
  refine cv_ret ⟨_, (by simp -implicitDefEqProofs (disch := first | omega | decide) only [seval, -Int.reducePow, -Nat.reducePow, cC, pv, binv, sArNone1, undef]; rfl), fun w hw => ?_⟩
  exact ⟨rfl, hw.below⟩
theorem arFree_z (e : Ext) : Calls Try.prog 28 #[z, exV e] W
    fun en w' => en = .returned (.int .i64 6) ∧ Below W.heap.size W w' := by
  refine calls_cv (M := []) (n := 23) [.tmp 4] rfl Try.func28 rfl rfl (Nat.le_of_ble_eq_true rfl) (St.nil _ _) ?_
  refine cv_seq_k fun K hK => ?_
  refine cv_region_then rfl ?_
  simp -implicitDefEqProofs (disch := first | omega | decide) only [seval, -Int.reducePow, -Nat.reducePow, cC, pv, binv, sArNone1, undef]
  intro b5 hb5
  refine hK _ _ ?_
  clear hK K
  refine cv_seq_k fun K hK => ?_
  refine cv_region_then rfl ?_
  simp -implicitDefEqProofs (disch := first | omega | decide) only [seval, -Int.reducePow, -Nat.reducePow, cC, pv, binv, sArNone1, undef]
  refine callV_ret (fun w hw => arSlice_z w z (h.at hw) e) ?_
  try simp -implicitDefEqProofs (disch := first | omega | decide) only [seval, -Int.reducePow, -Nat.reducePow, cC, pv, binv, sArNone1, undef]
  refine hK _ _ ?_
  clear hK K
  refine cv_seq_k fun K hK => ?_
  refine cv_seq_k fun K hK => ?_
  refine cv_region_then rfl ?_
  simp -implicitDefEqProofs (disch := first | omega | decide) only [seval, -Int.reducePow, -Nat.reducePow, cC, pv, binv, sArNone1, undef]
  refine hK _ _ ?_
  clear hK K
  refine cv_cond ?_
  simp -implicitDefEqProofs (disch := first | omega | decide) only [seval, -Int.reducePow, -Nat.reducePow, cC, pv, binv, sArNone1, undef]
  refine cv_seq_k fun K hK => ?_
  refine cv_region_then rfl ?_
  simp -implicitDefEqProofs (disch := first | omega | decide) only [seval, -Int.reducePow, -Nat.reducePow, cC, pv, binv, sArNone1, undef]
  refine hK _ _ ?_
  clear hK K
  refine cv_ret ⟨_, (by simp -implicitDefEqProofs (disch := first | omega | decide) only [seval, -Int.reducePow, -Nat.reducePow, cC, pv, binv, sArNone1, undef]; rfl), fun w hw => ?_⟩
  exact ⟨rfl, hw.below⟩
theorem arCopy_z (e s : Ext) (k j n : Int) : Calls Try.prog 17 #[z, exV e, .int .i64 k, exV s, .int .i64 j, .int .i64 n] W
    fun en w' => en = .returned (.int .i64 6) ∧ Below W.heap.size W w' := by
  refine calls_cv (M := []) (n := 65) [.tmp 12] rfl Try.func17 rfl rfl (Nat.le_of_ble_eq_true rfl) (St.nil _ _) ?_
  refine cv_seq_k fun K hK => ?_
  refine cv_region_then rfl ?_
  simp -implicitDefEqProofs (disch := first | omega | decide) only [seval, -Int.reducePow, -Nat.reducePow, cC, pv, binv, sArNone1, undef]
  intro b7 hb7
  intro b9 hb9 hf9
  refine hK _ _ ?_
  clear hK K
  refine cv_seq_k fun K hK => ?_
  refine cv_region_then rfl ?_
  simp -implicitDefEqProofs (disch := first | omega | decide) only [seval, -Int.reducePow, -Nat.reducePow, cC, pv, binv, sArNone1, undef]
  refine callV_ret (fun w hw => arSlice_z w z (h.at hw) e) ?_
  try simp -implicitDefEqProofs (disch := first | omega | decide) only [seval, -Int.reducePow, -Nat.reducePow, cC, pv, binv, sArNone1, undef]
  refine hK _ _ ?_
  clear hK K
  refine cv_seq_k fun K hK => ?_
  refine cv_region_then rfl ?_
  simp -implicitDefEqProofs (disch := first | omega | decide) only [seval, -Int.reducePow, -Nat.reducePow, cC, pv, binv, sArNone1, undef]
  refine callV_ret (fun w hw => arSlice_z w z (h.at hw) s) ?_
  try simp -implicitDefEqProofs (disch := first | omega | decide) only [seval, -Int.reducePow, -Nat.reducePow, cC, pv, binv, sArNone1, undef]
  refine hK _ _ ?_
  clear hK K
  refine cv_seq_k fun K hK => ?_
  refine cv_block ?_
  refine cv_seq_k fun K hK => ?_
  refine cv_region_then rfl ?_
  simp -implicitDefEqProofs (disch := first | omega | decide) only [seval, -Int.reducePow, -Nat.reducePow, cC, pv, binv, sArNone1, undef]
  refine hK _ _ ?_
  clear hK K
  refine cv_cond ?_
  simp -implicitDefEqProofs (disch := first | omega | decide) only [seval, -Int.reducePow, -Nat.reducePow, cC, pv, binv, sArNone1, undef]
  refine cv_seq_k fun K hK => ?_
  refine cv_region_then rfl ?_
  simp -implicitDefEqProofs (disch := first | omega | decide) only [seval, -Int.reducePow, -Nat.reducePow, cC, pv, binv, sArNone1, undef]
  refine hK _ _ ?_
  clear hK K
  refine cv_ret ⟨_, (by simp -implicitDefEqProofs (disch := first | omega | decide) only [seval, -Int.reducePow, -Nat.reducePow, cC, pv, binv, sArNone1, undef]; rfl), fun w hw => ?_⟩
  exact ⟨rfl, hw.below⟩
end
end Go.Proofs.Ytfaanphjaghbpaa
/- The law ArenaNone, walked. -/
namespace Go.Proofs.Ytfaanphjaghbpaa
open Go.RowKit Go.Shelf
set_option linter.unusedVariables false
set_option linter.unusedSimpArgs false
set_option maxRecDepth 100000
structure NwI (s : Int) (p : Option Addr) (f : Int) : Prop where
  is : ((0 ≤ s ∧ s ≤ 1048576) ∧ f = 0 ∧ ∃ b, p = some ⟨b, 0, none⟩) ∨ (¬ (0 ≤ s ∧ s ≤ 1048576) ∧ f = 1 ∧ p = none)
theorem bft : (false == true) = false := rfl
theorem btf : (true == false) = false := rfl
def okS (s : Int) : Bool := decide (0 ≤ s ∧ s ≤ 1048576)
set_option maxRecDepth 100000 in
theorem sArLNon1 : type_of% (And.intro (And.intro (And.intro @eBox.eq_1 @exV.eq_1) (And.intro @alL.eq_1 @arL.eq_1)) (And.intro (And.intro @Nat.mul_one @wrap_in) (And.intro @cMp @cM))) := (And.intro (And.intro (And.intro @eBox.eq_1 @exV.eq_1) (And.intro @alL.eq_1 @arL.eq_1)) (And.intro (And.intro @Nat.mul_one @wrap_in) (And.intro @cMp @cM)))
set_option maxHeartbeats 4000000 in
theorem arNone_walk (W : World) (s : Int) (hs : -9223372036854775808 ≤ s ∧ s ≤ 9223372036854775807) (e : Ext) (h1 : -9223372036854775808 ≤ e.off ∧ e.off ≤ 9223372036854775807) (h2 : -9223372036854775808 ≤ e.len ∧ e.len ≤ 9223372036854775807) (k : Int) (hk : -9223372036854775808 ≤ k ∧ k ≤ 9223372036854775807) (v : Int) (hv : 0 ≤ v ∧ v ≤ 18446744073709551615) :
    Calls Try.prog 8 #[.int .i64 s, exV e, .int .i64 k, .int .u64 v] W fun e w' => e = .returned (.bool true) ∧ Below W.heap.size W w' := by
  have hI0 := Ex.inv_new (N := 0) (by omega) (by omega)
  have hc0 : (Ex.compF [] (0 : Int)).1 = [] := by decide
  rw [hc0] at hI0
  refine calls_cv (M := []) (n := 135) [.tmp 8] rfl Try.func8 rfl rfl (Nat.le_of_ble_eq_true rfl) (St.nil _ _) ?_
  refine cv_seq_k fun K hK => ?_
  refine cv_region_then rfl ?_
  simp -implicitDefEqProofs (disch := first | omega | decide) only [seval, -Int.reducePow, -Nat.reducePow, cC, pv, binv, sArLNon1, undef]
  intro b5 hb5
  refine hK _ _ ?_
  clear hK K
  refine cv_gen fun G1 hG => ?_
  have g1_0 := congrFun hG 0
  have g1_2 := congrFun hG 2
  have g1_3 := congrFun hG 3
  have g1_5 := congrFun hG 5
  clear hG
  try simp -implicitDefEqProofs (disch := first | omega | decide) only [seval, -Int.reducePow, -Nat.reducePow, cC, pv, binv, sArLNon1, undef] at g1_0 g1_2 g1_3 g1_5
  have g1 := And.intro g1_0 (And.intro g1_2 (And.intro g1_3 g1_5))
  refine cv_seq_k fun K hK => ?_
  refine cv_cut (fun _ _ => True) (fun F' L' => ∃ (p : Option Addr) (f : Int), F' 0 = G1 0 ∧ F' 2 = G1 2 ∧ F' 3 = G1 3 ∧ F' 5 = G1 5 ∧ F' 9 = .pointer p ∧ F' 10 = .int .i64 f ∧ L' = [eBox b5 e] ∧ NwI s p f) ?_ ?_
  · by_cases hsz : 0 ≤ s ∧ s ≤ 1048576
    · obtain ⟨m, rfl⟩ : ∃ m : Nat, s = (m : Int) := ⟨s.toNat, by omega⟩
      refine cv_pick_post [5] (by decide) ?_
      refine cv_region_q rfl ?_
      simp -implicitDefEqProofs (disch := first | omega | decide) only [seval, -Int.reducePow, -Nat.reducePow, cC, pv, binv, sArLNon1, undef, g1]
      refine callV_grp [] [0] (by decide) (fun x : ArR => .tuple #[.pointer (some ⟨x.bR, 0, none⟩), .int .i64 0]) (fun x => arL x) (fun x => True) (fun w hw hs => (arNew_ok m w (by omega)).mono fun e w' ⟨x, p1, p2, p3⟩ => ⟨x, p1, trivial, p3⟩) ?_
      intro x _
      simp only [pickL, nth]
      simp -implicitDefEqProofs (disch := first | omega | decide) only [seval, -Int.reducePow, -Nat.reducePow, cC, pv, binv, sArLNon1, undef, g1]
      refine ⟨some ⟨x.bR, 0, none⟩, 0, ?_⟩
      simp -implicitDefEqProofs (disch := first | omega | decide) only [seval, -Int.reducePow, -Nat.reducePow, cC, pv, binv, sArLNon1, undef, g1]
      exact ⟨.inl ⟨hsz, rfl, _, rfl⟩⟩
    · refine cv_region_then rfl ?_
      simp -implicitDefEqProofs (disch := first | omega | decide) only [seval, -Int.reducePow, -Nat.reducePow, cC, pv, binv, sArLNon1, undef, g1]
      refine callV_ret (fun w hw => arNew_no s w (by omega)) ?_
      try simp -implicitDefEqProofs (disch := first | omega | decide) only [seval, -Int.reducePow, -Nat.reducePow, cC, pv, binv, sArLNon1, undef, g1]
      refine ⟨none, 1, ?_⟩
      simp -implicitDefEqProofs (disch := first | omega | decide) only [seval, -Int.reducePow, -Nat.reducePow, cC, pv, binv, sArLNon1, undef, g1]
      exact ⟨.inr ⟨hsz, rfl, rfl⟩⟩
  intro G2 L' _ hF
  obtain ⟨p, f, q0, q2, q3, q5, q9, q10, rfl, ⟨hpf⟩⟩ := hF
  have g2_0 := q0.trans g1_0
  have g2_2 := q2.trans g1_2
  have g2_3 := q3.trans g1_3
  have g2_5 := q5.trans g1_5
  have g2_9 := q9
  have g2_10 := q10
  clear q0 q2 q3 q5 q9 q10
  have g2 := And.intro g2_0 (And.intro g2_2 (And.intro g2_3 (And.intro g2_5 (And.intro g2_9 g2_10))))
  refine hK _ _ ?_
  clear hK K
  refine cv_seq_k fun K hK => ?_
  refine cv_cut (fun _ _ => True) (fun F' L' => F' 2 = G2 2 ∧ F' 3 = G2 3 ∧ F' 5 = G2 5 ∧ F' 9 = G2 9 ∧ F' 10 = G2 10 ∧ F' 11 = .bool (okS s) ∧ L' = [eBox b5 e]) ?_ ?_
  · by_cases h0 : 0 ≤ s
    · have a1 : decide ((0 : Int) ≤ s) = true := decide_eq_true h0
      refine cv_region_then rfl ?_
      simp -implicitDefEqProofs (disch := first | omega | decide) only [seval, -Int.reducePow, -Nat.reducePow, cC, pv, binv, sArLNon1, undef, a1, g2]
      unfold okS
      exact congrArg Value.bool (decide_eq_decide.2 ⟨fun h => ⟨h0, h⟩, fun h => h.2⟩)
    · have a1 : decide ((0 : Int) ≤ s) = false := decide_eq_false h0
      refine cv_region_then rfl ?_
      simp -implicitDefEqProofs (disch := first | omega | decide) only [seval, -Int.reducePow, -Nat.reducePow, cC, pv, binv, sArLNon1, undef, a1, g2]
      unfold okS
      exact congrArg Value.bool (decide_eq_false fun h => h0 h.1).symm
  intro G3 L' _ hF
  obtain ⟨q2, q3, q5, q9, q10, q11, rfl⟩ := hF
  have g3_2 := q2.trans g2_2
  have g3_3 := q3.trans g2_3
  have g3_5 := q5.trans g2_5
  have g3_9 := q9.trans g2_9
  have g3_10 := q10.trans g2_10
  have g3_11 := q11
  clear q2 q3 q5 q9 q10 q11
  have g3 := And.intro g3_2 (And.intro g3_3 (And.intro g3_5 (And.intro g3_9 (And.intro g3_10 g3_11))))
  refine hK _ _ ?_
  clear hK K
  refine cv_seq_k fun K hK => ?_
  refine cv_cut (fun _ _ => True) (fun F' L' => F' 2 = G3 2 ∧ F' 3 = G3 3 ∧ F' 5 = G3 5 ∧ L' = [eBox b5 e]) ?_ ?_
  · refine cv_seq_k fun K hK => ?_
    refine cv_region_then rfl ?_
    rcases hpf with ⟨hsz, rfl, b, rfl⟩ | ⟨hsz, rfl, rfl⟩
    · rw [show okS s = true from decide_eq_true hsz] at *
      simp -implicitDefEqProofs (disch := first | omega | decide) only [seval, -Int.reducePow, -Nat.reducePow, cC, pv, binv, sArLNon1, undef, bft, btf, g3]
      refine hK _ _ ?_
      clear hK K
      refine cv_cond ?_
      simp -implicitDefEqProofs (disch := first | omega | decide) only [seval, -Int.reducePow, -Nat.reducePow, cC, pv, binv, sArLNon1, undef, g3]
      refine cv_skip ?_
      try simp only [blockQ, thenQ]
      simp -implicitDefEqProofs (disch := first | omega | decide) only [seval, -Int.reducePow, -Nat.reducePow, cC, pv, binv, sArLNon1, undef, g3]
    · rw [show okS s = false from decide_eq_false hsz] at *
      simp -implicitDefEqProofs (disch := first | omega | decide) only [seval, -Int.reducePow, -Nat.reducePow, cC, pv, binv, sArLNon1, undef, bft, btf, g3]
      refine hK _ _ ?_
      clear hK K
      refine cv_cond ?_
      simp -implicitDefEqProofs (disch := first | omega | decide) only [seval, -Int.reducePow, -Nat.reducePow, cC, pv, binv, sArLNon1, undef, g3]
      refine cv_skip ?_
      try simp only [blockQ, thenQ]
      simp -implicitDefEqProofs (disch := first | omega | decide) only [seval, -Int.reducePow, -Nat.reducePow, cC, pv, binv, sArLNon1, undef, g3]
  intro G4 L' _ hF
  obtain ⟨q2, q3, q5, rfl⟩ := hF
  have g4_2 := q2.trans g3_2
  have g4_3 := q3.trans g3_3
  have g4_5 := q5.trans g3_5
  clear q2 q3 q5
  have g4 := And.intro g4_2 (And.intro g4_3 g4_5)
  refine hK _ _ ?_
  clear hK K
  refine cv_seq_k fun K hK => ?_
  refine cv_region_then rfl ?_
  simp -implicitDefEqProofs (disch := first | omega | decide) only [seval, -Int.reducePow, -Nat.reducePow, cC, pv, binv, sArLNon1, undef, g4]
  refine hK _ _ ?_
  clear hK K
  refine cv_seq_k fun K hK => ?_
  refine cv_seq_k fun K hK => ?_
  refine cv_region_then rfl ?_
  simp -implicitDefEqProofs (disch := first | omega | decide) only [seval, -Int.reducePow, -Nat.reducePow, cC, pv, binv, sArLNon1, undef, g4]
  intro b50 hb50 hf50 bS hbS hfS
  refine hK _ _ ?_
  clear hK K
  refine cv_gen fun G5 hG => ?_
  have g5_2 := congrFun hG 2
  have g5_3 := congrFun hG 3
  have g5_5 := congrFun hG 5
  have g5_51 := congrFun hG 51
  have g5_52 := congrFun hG 52
  have g5_53 := congrFun hG 53
  clear hG
  try simp -implicitDefEqProofs (disch := first | omega | decide) only [seval, -Int.reducePow, -Nat.reducePow, cC, pv, binv, sArLNon1, undef, g4] at g5_2 g5_3 g5_5 g5_51 g5_52 g5_53
  have g5 := And.intro g5_2 (And.intro g5_3 (And.intro g5_5 (And.intro g5_51 (And.intro g5_52 g5_53))))
  refine cv_block ?_
  refine cv_loop (fun F' L' => ∃ (i : Nat), F' 2 = G5 2 ∧ F' 3 = G5 3 ∧ F' 5 = G5 5 ∧ F' 51 = G5 51 ∧ F' 52 = G5 52 ∧ F' 53 = .int .i64 (i : Int) ∧ L' = [.blk bS 23 [.pointer none, .pointer (some ⟨b50, 0, none⟩)], .blk b50 64 [.pointer none, .slice none 0 0], eBox b5 e] ∧ i ≤ 2) (fun F' L' => 4 - (intOf (F' 53)).toNat) ?_ ?_
  · refine ⟨0, ?_⟩
    simp -implicitDefEqProofs (disch := first | omega | decide) only [seval, -Int.reducePow, -Nat.reducePow, cC, pv, binv, sArLNon1, undef, g5]
  intro G6 L' hI
  obtain ⟨i, q2, q3, q5, q51, q52, q53, rfl, hi⟩ := hI
  have g6_2 := q2.trans g5_2
  have g6_3 := q3.trans g5_3
  have g6_5 := q5.trans g5_5
  have g6_51 := q51.trans g5_51
  have g6_52 := q52.trans g5_52
  have g6_53 := q53
  clear q2 q3 q5 q51 q52 q53
  have g6 := And.intro g6_2 (And.intro g6_3 (And.intro g6_5 (And.intro g6_51 (And.intro g6_52 g6_53))))
  refine cv_apart fun hap => ?_
  simp only [factL_nil, factL_blk, factL_row, neR_nil, neR_blk, neR_row, neB_nil, neB_blk, neB_row, and_true, true_and, List.not_mem_nil, or_false, sArLNon1, undef] at hap
  obtain hap := hap
  refine cv_seq_k fun K hK => ?_
  refine cv_region_then rfl ?_
  simp -implicitDefEqProofs (disch := first | omega | decide) only [seval, -Int.reducePow, -Nat.reducePow, cC, pv, binv, sArLNon1, undef, g5, g6]
  refine hK _ _ ?_
  clear hK K
  refine cv_seq_k fun K hK => ?_
  refine cv_cond ?_
  simp -implicitDefEqProofs (disch := first | omega | decide) only [seval, -Int.reducePow, -Nat.reducePow, cC, pv, binv, sArLNon1, undef, g5, g6]
  refine ⟨fun hc => ?_, fun hc => ?_⟩
  · refine cv_skip ?_
    try simp only [blockQ, thenQ]
    have hit : i < 2 := by have := of_decide_eq_true ‹decide ((i : Int) < 2) = true›; omega
    refine hK _ _ ?_
    clear hK K
    rcases (show i = 0 ∨ i = 1 by omega) with rfl | rfl
    · skip
      refine cv_seq_k fun K hK => ?_
      refine cv_block ?_
      refine cv_seq_k fun K hK => ?_
      refine cv_region_then rfl ?_
      simp -implicitDefEqProofs (disch := first | omega | decide) only [seval, -Int.reducePow, -Nat.reducePow, cC, pv, binv, sArLNon1, undef, g5, g6]
      refine hK _ _ ?_
      clear hK K
      refine cv_seq_k fun K hK => ?_
      refine cv_region_then rfl ?_
      simp -implicitDefEqProofs (disch := first | omega | decide) only [seval, -Int.reducePow, -Nat.reducePow, cC, pv, binv, sArLNon1, undef, g5, g6]
      refine callV_ret (fun w hw => arLoad_z w _ (.inl rfl) e k k) ?_
      try simp -implicitDefEqProofs (disch := first | omega | decide) only [seval, -Int.reducePow, -Nat.reducePow, cC, pv, binv, sArLNon1, undef, g5, g6]
      refine hK _ _ ?_
      clear hK K
      refine cv_seq_k fun K hK => ?_
      refine cv_region_then rfl ?_
      simp -implicitDefEqProofs (disch := first | omega | decide) only [seval, -Int.reducePow, -Nat.reducePow, cC, pv, binv, sArLNon1, undef, g5, g6]
      refine callV_ret (fun w hw => arRead_z w _ (.inl rfl) e k k) ?_
      try simp -implicitDefEqProofs (disch := first | omega | decide) only [seval, -Int.reducePow, -Nat.reducePow, cC, pv, binv, sArLNon1, undef, g5, g6]
      refine hK _ _ ?_
      clear hK K
      refine cv_seq_k fun K hK => ?_
      refine cv_region_then rfl ?_
      simp -implicitDefEqProofs (disch := first | omega | decide) only [seval, -Int.reducePow, -Nat.reducePow, cC, pv, binv, sArLNon1, undef, g5, g6]
      refine callV_ret (fun w hw => arStore_z w _ (.inl rfl) e k k v) ?_
      try simp -implicitDefEqProofs (disch := first | omega | decide) only [seval, -Int.reducePow, -Nat.reducePow, cC, pv, binv, sArLNon1, undef, g5, g6]
      refine callV_ret (fun w hw => arWrite_z w _ (.inl rfl) e k _) ?_
      try simp -implicitDefEqProofs (disch := first | omega | decide) only [seval, -Int.reducePow, -Nat.reducePow, cC, pv, binv, sArLNon1, undef, g5, g6]
      refine callV_ret (fun w hw => arCopy_z w _ (.inl rfl) e e k k k) ?_
      try simp -implicitDefEqProofs (disch := first | omega | decide) only [seval, -Int.reducePow, -Nat.reducePow, cC, pv, binv, sArLNon1, undef, g5, g6]
      refine callV_ret (fun w hw => arFree_z w _ (.inl rfl) e) ?_
      try simp -implicitDefEqProofs (disch := first | omega | decide) only [seval, -Int.reducePow, -Nat.reducePow, cC, pv, binv, sArLNon1, undef, g5, g6]
      refine callV_ret (fun w hw => arFreeList_z w _ (.inl rfl)) ?_
      try simp -implicitDefEqProofs (disch := first | omega | decide) only [seval, -Int.reducePow, -Nat.reducePow, cC, pv, binv, sArLNon1, undef, g5, g6]
      refine callV_ret (fun w hw => Bytes_z w _ (.inl rfl)) ?_
      try simp -implicitDefEqProofs (disch := first | omega | decide) only [seval, -Int.reducePow, -Nat.reducePow, cC, pv, binv, sArLNon1, undef, g5, g6]
      refine callV_ret (fun w hw => arFits_z w _ (.inl rfl) k) ?_
      try simp -implicitDefEqProofs (disch := first | omega | decide) only [seval, -Int.reducePow, -Nat.reducePow, cC, pv, binv, sArLNon1, undef, g5, g6]
      intro bM hbM hfM
      refine callV_ret (fun w hw => rFits_any ⟨bM, 0, none, 0, 0, []⟩ k [] [] w ⟨Sl.of_blk hw (.head _) rfl (by omega), Exts.nil0 _ _, by simp, by simp⟩ hI0) ?_
      try simp -implicitDefEqProofs (disch := first | omega | decide) only [seval, -Int.reducePow, -Nat.reducePow, cC, pv, binv, sArLNon1, undef, g5, g6]
      refine hK _ _ ?_
      clear hK K
      refine cv_pick [1, 2, 3] (by decide) ?_
      simp only [pickL, nth]
      refine cv_cond ?_
      simp -implicitDefEqProofs (disch := first | omega | decide) only [seval, -Int.reducePow, -Nat.reducePow, cC, pv, binv, sArLNon1, undef, g5, g6]
      refine cv_skip ?_
      try simp only [blockQ, thenQ]
      refine hK _ _ ?_
      clear hK K
      refine cv_region_then rfl ?_
      simp -implicitDefEqProofs (disch := first | omega | decide) only [seval, -Int.reducePow, -Nat.reducePow, cC, pv, binv, sArLNon1, undef, wrap_in, g5, g6]
      refine ⟨⟨1, ?_⟩, ?_⟩
      · simp -implicitDefEqProofs (disch := first | omega | decide) only [seval, -Int.reducePow, -Nat.reducePow, cC, pv, binv, sArLNon1, undef, g5, g6]
      · simp only [intOf]; omega
    · skip
      refine cv_seq_k fun K hK => ?_
      refine cv_block ?_
      refine cv_seq_k fun K hK => ?_
      refine cv_region_then rfl ?_
      simp -implicitDefEqProofs (disch := first | omega | decide) only [seval, -Int.reducePow, -Nat.reducePow, cC, pv, binv, sArLNon1, undef, g5, g6]
      refine hK _ _ ?_
      clear hK K
      refine cv_seq_k fun K hK => ?_
      refine cv_region_then rfl ?_
      simp -implicitDefEqProofs (disch := first | omega | decide) only [seval, -Int.reducePow, -Nat.reducePow, cC, pv, binv, sArLNon1, undef, g5, g6]
      refine callV_ret (fun w hw => arLoad_z w _ (.inr ⟨b50, rfl, Sl.of_blk hw (.tail _ (.head _)) rfl (by omega)⟩) e k k) ?_
      try simp -implicitDefEqProofs (disch := first | omega | decide) only [seval, -Int.reducePow, -Nat.reducePow, cC, pv, binv, sArLNon1, undef, g5, g6]
      refine hK _ _ ?_
      clear hK K
      refine cv_seq_k fun K hK => ?_
      refine cv_region_then rfl ?_
      simp -implicitDefEqProofs (disch := first | omega | decide) only [seval, -Int.reducePow, -Nat.reducePow, cC, pv, binv, sArLNon1, undef, g5, g6]
      refine callV_ret (fun w hw => arRead_z w _ (.inr ⟨b50, rfl, Sl.of_blk hw (.tail _ (.head _)) rfl (by omega)⟩) e k k) ?_
      try simp -implicitDefEqProofs (disch := first | omega | decide) only [seval, -Int.reducePow, -Nat.reducePow, cC, pv, binv, sArLNon1, undef, g5, g6]
      refine hK _ _ ?_
      clear hK K
      refine cv_seq_k fun K hK => ?_
      refine cv_region_then rfl ?_
      simp -implicitDefEqProofs (disch := first | omega | decide) only [seval, -Int.reducePow, -Nat.reducePow, cC, pv, binv, sArLNon1, undef, g5, g6]
      refine callV_ret (fun w hw => arStore_z w _ (.inr ⟨b50, rfl, Sl.of_blk hw (.tail _ (.head _)) rfl (by omega)⟩) e k k v) ?_
      try simp -implicitDefEqProofs (disch := first | omega | decide) only [seval, -Int.reducePow, -Nat.reducePow, cC, pv, binv, sArLNon1, undef, g5, g6]
      refine callV_ret (fun w hw => arWrite_z w _ (.inr ⟨b50, rfl, Sl.of_blk hw (.tail _ (.head _)) rfl (by omega)⟩) e k _) ?_
      try simp -implicitDefEqProofs (disch := first | omega | decide) only [seval, -Int.reducePow, -Nat.reducePow, cC, pv, binv, sArLNon1, undef, g5, g6]
      refine callV_ret (fun w hw => arCopy_z w _ (.inr ⟨b50, rfl, Sl.of_blk hw (.tail _ (.head _)) rfl (by omega)⟩) e e k k k) ?_
      try simp -implicitDefEqProofs (disch := first | omega | decide) only [seval, -Int.reducePow, -Nat.reducePow, cC, pv, binv, sArLNon1, undef, g5, g6]
      refine callV_ret (fun w hw => arFree_z w _ (.inr ⟨b50, rfl, Sl.of_blk hw (.tail _ (.head _)) rfl (by omega)⟩) e) ?_
      try simp -implicitDefEqProofs (disch := first | omega | decide) only [seval, -Int.reducePow, -Nat.reducePow, cC, pv, binv, sArLNon1, undef, g5, g6]
      refine callV_ret (fun w hw => arFreeList_z w _ (.inr ⟨b50, rfl, Sl.of_blk hw (.tail _ (.head _)) rfl (by omega)⟩)) ?_
      try simp -implicitDefEqProofs (disch := first | omega | decide) only [seval, -Int.reducePow, -Nat.reducePow, cC, pv, binv, sArLNon1, undef, g5, g6]
      refine callV_ret (fun w hw => Bytes_z w _ (.inr ⟨b50, rfl, Sl.of_blk hw (.tail _ (.head _)) rfl (by omega)⟩)) ?_
      try simp -implicitDefEqProofs (disch := first | omega | decide) only [seval, -Int.reducePow, -Nat.reducePow, cC, pv, binv, sArLNon1, undef, g5, g6]
      refine callV_ret (fun w hw => arFits_z w _ (.inr ⟨b50, rfl, Sl.of_blk hw (.tail _ (.head _)) rfl (by omega)⟩) k) ?_
      try simp -implicitDefEqProofs (disch := first | omega | decide) only [seval, -Int.reducePow, -Nat.reducePow, cC, pv, binv, sArLNon1, undef, g5, g6]
      intro bM hbM hfM
      refine callV_ret (fun w hw => rFits_any ⟨bM, 0, none, 0, 0, []⟩ k [] [] w ⟨Sl.of_blk hw (.head _) rfl (by omega), Exts.nil0 _ _, by simp, by simp⟩ hI0) ?_
      try simp -implicitDefEqProofs (disch := first | omega | decide) only [seval, -Int.reducePow, -Nat.reducePow, cC, pv, binv, sArLNon1, undef, g5, g6]
      refine hK _ _ ?_
      clear hK K
      refine cv_pick [1, 2, 3] (by decide) ?_
      simp only [pickL, nth]
      refine cv_cond ?_
      simp -implicitDefEqProofs (disch := first | omega | decide) only [seval, -Int.reducePow, -Nat.reducePow, cC, pv, binv, sArLNon1, undef, g5, g6]
      refine cv_skip ?_
      try simp only [blockQ, thenQ]
      refine hK _ _ ?_
      clear hK K
      refine cv_region_then rfl ?_
      simp -implicitDefEqProofs (disch := first | omega | decide) only [seval, -Int.reducePow, -Nat.reducePow, cC, pv, binv, sArLNon1, undef, wrap_in, g5, g6]
      refine ⟨⟨2, ?_⟩, ?_⟩
      · simp -implicitDefEqProofs (disch := first | omega | decide) only [seval, -Int.reducePow, -Nat.reducePow, cC, pv, binv, sArLNon1, undef, g5, g6]
      · simp only [intOf]; omega
  refine cv_exit ?_
  simp only [blockQ, thenQ, if_true, ite_true]
  clear hK K
  refine hK _ _ ?_
  clear hK K
  refine cv_seq_k fun K hK => ?_
  refine cv_region_then rfl ?_
  simp -implicitDefEqProofs (disch := first | omega | decide) only [seval, -Int.reducePow, -Nat.reducePow, cC, pv, binv, sArLNon1, undef, g5, g6]
  refine callV_ret (fun w hw => arAwake_any w) ?_
  try simp -implicitDefEqProofs (disch := first | omega | decide) only [seval, -Int.reducePow, -Nat.reducePow, cC, pv, binv, sArLNon1, undef, g5, g6]
  refine hK _ _ ?_
  clear hK K
  refine cv_ret ⟨_, (by simp -implicitDefEqProofs (disch := first | omega | decide) only [seval, -Int.reducePow, -Nat.reducePow, cC, pv, binv, sArLNon1, undef, g5, g6]; rfl), fun w hw => ?_⟩
  exact ⟨rfl, hw.below⟩
end Go.Proofs.Ytfaanphjaghbpaa
