/- Handles: the parts, and packing. -/
import Derived.Test.YtddofamkmcgfmaaDoorEng8
import Derived.Test.YtddofamkmcgfmaaDoorTy
import Derived.Laws.BitsLemmas
import Derived.Laws.Bits64b
namespace Go.Proofs.YtddofamkmcgfmaaDoor
open Go.RowKit Go.Shelf
set_option linter.unusedVariables false
set_option linter.unusedSimpArgs false
set_option maxRecDepth 100000

def slotF (h : Nat) : Nat := h % 16777216
def genF (h : Nat) : Nat := h / 16777216 % 4294967296
def tagF (h : Nat) : Nat := h / 72057594037927936
theorem wraps_u64 (n : Int) (h0 : 0 ≤ n) (h1 : n < 2 ^ 64) : IntKind.u64.wrap n = n := by rw [IntKind.wrap_u64]; omega
theorem u64_id {y : Nat} (h : y < 18446744073709551616) : IntKind.u64.wrap (y : Int) = (y : Int) := by rw [IntKind.wrap_u64]; omega
theorem and24 {h : Nat} (hh : h < 18446744073709551616) : bits .and .u64 (h : Int) 16777215 = ((slotF h : Nat) : Int) := by
  have := bits_mask .u64 64 (by decide) wraps_u64 24 (by decide) (h : Int) (by omega) (by omega)
  rw [show ((2 : Int) ^ 24 - 1) = 16777215 by decide, show ((2 : Int) ^ 24) = 16777216 by decide] at this
  rw [this]
  unfold slotF
  omega
theorem and32 {h : Nat} (hh : h < 18446744073709551616) : bits .and .u64 (h : Int) 4294967295 = ((h % 4294967296 : Nat) : Int) := by
  have := bits_mask .u64 64 (by decide) wraps_u64 32 (by decide) (h : Int) (by omega) (by omega)
  rw [show ((2 : Int) ^ 32 - 1) = 4294967295 by decide, show ((2 : Int) ^ 32) = 4294967296 by decide] at this
  rw [this]
  omega
theorem or_apart (k p : Nat) (hkp : 2 ^ k = p) {a b : Nat} (ha : a < p) (hs : b * p < 18446744073709551616) (hk : p ≤ 18446744073709551616) : bits .or .u64 (a : Int) ((b * p : Nat) : Int) = ((a + b * p : Nat) : Int) := by
  subst hkp
  rw [bits_or_u64_nat _ _ (by omega) hs]
  have h2 := Nat.two_pow_add_eq_or_of_lt ha b
  rw [Nat.mul_comm] at h2
  rw [Nat.or_comm, ← h2, Nat.add_comm]
theorem or24 {a b : Nat} (ha : a < 16777216) (hs : b * 16777216 < 18446744073709551616) : bits .or .u64 (a : Int) ((b * 16777216 : Nat) : Int) = ((a + b * 16777216 : Nat) : Int) := or_apart 24 16777216 (by decide) ha hs (by omega)
theorem or56 {a b : Nat} (ha : a < 72057594037927936) (hs : b * 72057594037927936 < 18446744073709551616) : bits .or .u64 (a : Int) ((b * 72057594037927936 : Nat) : Int) = ((a + b * 72057594037927936 : Nat) : Int) := or_apart 56 72057594037927936 (by decide) ha hs (by omega)
theorem shl24 {g : Nat} (hg : g < 4294967296) : IntKind.u64.wrap ((g : Int) * 2 ^ 24) = ((g * 16777216 : Nat) : Int) := by rw [IntKind.wrap_u64]; omega
theorem shl56 {t : Nat} (ht : t < 256) : IntKind.u64.wrap ((t : Int) * 2 ^ 56) = ((t * 72057594037927936 : Nat) : Int) := by rw [IntKind.wrap_u64]; omega
theorem pk_cast (s g t : Nat) : ((s + g * 16777216 + t * 72057594037927936 : Nat) : Int) = (t : Int) * 72057594037927936 + (g : Int) * 16777216 + (s : Int) := by omega
theorem parts_eq {a b : Nat} (h1 : slotF a = slotF b) (h2 : genF a = genF b) (h3 : tagF a = tagF b) (ha : a < 18446744073709551616) (hb : b < 18446744073709551616) : a = b := by
  unfold slotF genF tagF at *
  omega
theorem parts_rng {h : Nat} (hh : h < 18446744073709551616) : slotF h < 16777216 ∧ genF h < 4294967296 ∧ tagF h < 256 := by
  unfold slotF genF tagF
  omega
def pkF (s g t : Int) : Int × Int := if s < 0 ∨ 16777215 < s ∨ g < 1 ∨ 4294967295 < g ∨ t < 1 ∨ 255 < t then (0, 1) else (t * 72057594037927936 + g * 16777216 + s, 0)
theorem xor_ne {a x : Nat} (hx : x ≠ 0) : a ^^^ x ≠ a := by
  intro h
  have h2 : a ^^^ (a ^^^ x) = a ^^^ a := by rw [h]
  rw [← Nat.xor_assoc, Nat.xor_self, Nat.zero_xor] at h2
  exact hx h2

theorem slot_any (h : Nat) (hh : h < 18446744073709551616) (W : World) : Calls Tryd.prog 12 #[.int .u64 (h : Int)] W fun e w' => e = .returned (.int .i64 (slotF h : Int)) ∧ Below W.heap.size W w' := by
  have hp := parts_rng hh
  refine calls_cv (M := []) (n := 6) [.tmp 2] rfl Tryd.func12 rfl rfl (Nat.le_of_ble_eq_true rfl) (St.nil _ _) ?_
  refine cv_seq_k fun K hK => ?_
  refine cv_region_then rfl ?_
  simp -implicitDefEqProofs (disch := first | omega | decide) only [seval, -Int.reducePow, -Nat.reducePow, cC, pv, binv, undef]
  refine hK _ _ ?_
  clear hK K
  refine cv_seq_k fun K hK => ?_
  refine cv_region_then rfl ?_
  simp -implicitDefEqProofs (disch := first | omega | decide) only [seval, -Int.reducePow, -Nat.reducePow, cC, pv, binv, undef, and24 hh, wrap_in]
  refine hK _ _ ?_
  clear hK K
  refine cv_ret ⟨_, (by simp -implicitDefEqProofs (disch := first | omega | decide) only [seval, -Int.reducePow, -Nat.reducePow, cC, pv, binv, undef]; rfl), fun w hw => ?_⟩
  exact ⟨rfl, hw.below⟩
theorem gen_any (h : Nat) (hh : h < 18446744073709551616) (W : World) : Calls Tryd.prog 13 #[.int .u64 (h : Int)] W fun e w' => e = .returned (.int .i64 (genF h : Int)) ∧ Below W.heap.size W w' := by
  have hp := parts_rng hh
  have e1 : (h : Int) / 2 ^ 24 = ((h / 16777216 : Nat) : Int) := by omega
  have e2 : bits .and .u64 ((h / 16777216 : Nat) : Int) 4294967295 = ((genF h : Nat) : Int) := and32 (by omega)
  refine calls_cv (M := []) (n := 7) [.tmp 2] rfl Tryd.func13 rfl rfl (Nat.le_of_ble_eq_true rfl) (St.nil _ _) ?_
  refine cv_seq_k fun K hK => ?_
  refine cv_region_then rfl ?_
  simp -implicitDefEqProofs (disch := first | omega | decide) only [seval, -Int.reducePow, -Nat.reducePow, cC, pv, binv, undef]
  refine hK _ _ ?_
  clear hK K
  refine cv_seq_k fun K hK => ?_
  refine cv_region_then rfl ?_
  simp -implicitDefEqProofs (disch := first | omega | decide) only [seval, -Int.reducePow, -Nat.reducePow, cC, pv, binv, undef, e1, e2, wrap_in, IntKind.bits]
  refine hK _ _ ?_
  clear hK K
  refine cv_ret ⟨_, (by simp -implicitDefEqProofs (disch := first | omega | decide) only [seval, -Int.reducePow, -Nat.reducePow, cC, pv, binv, undef]; rfl), fun w hw => ?_⟩
  exact ⟨rfl, hw.below⟩
theorem tag_any (h : Nat) (hh : h < 18446744073709551616) (W : World) : Calls Tryd.prog 14 #[.int .u64 (h : Int)] W fun e w' => e = .returned (.int .i64 (tagF h : Int)) ∧ Below W.heap.size W w' := by
  have hp := parts_rng hh
  have e1 : (h : Int) / 2 ^ 56 = ((tagF h : Nat) : Int) := by unfold tagF; omega
  refine calls_cv (M := []) (n := 6) [.tmp 2] rfl Tryd.func14 rfl rfl (Nat.le_of_ble_eq_true rfl) (St.nil _ _) ?_
  refine cv_seq_k fun K hK => ?_
  refine cv_region_then rfl ?_
  simp -implicitDefEqProofs (disch := first | omega | decide) only [seval, -Int.reducePow, -Nat.reducePow, cC, pv, binv, undef]
  refine hK _ _ ?_
  clear hK K
  refine cv_seq_k fun K hK => ?_
  refine cv_region_then rfl ?_
  simp -implicitDefEqProofs (disch := first | omega | decide) only [seval, -Int.reducePow, -Nat.reducePow, cC, pv, binv, undef, e1, wrap_in, IntKind.bits]
  refine hK _ _ ?_
  clear hK K
  refine cv_ret ⟨_, (by simp -implicitDefEqProofs (disch := first | omega | decide) only [seval, -Int.reducePow, -Nat.reducePow, cC, pv, binv, undef]; rfl), fun w hw => ?_⟩
  exact ⟨rfl, hw.below⟩
theorem rslot_any (h : Nat) (hh : h < 18446744073709551616) (W : World) : Calls Tryd.prog 15 #[.int .u64 (h : Int)] W fun e w' => e = .returned (.int .i64 (slotF h : Int)) ∧ Below W.heap.size W w' := by
  have hp := parts_rng hh
  have e1 : (h : Int) % 16777216 = ((slotF h : Nat) : Int) := by unfold slotF; omega
  refine calls_cv (M := []) (n := 6) [.tmp 2] rfl Tryd.func15 rfl rfl (Nat.le_of_ble_eq_true rfl) (St.nil _ _) ?_
  refine cv_seq_k fun K hK => ?_
  refine cv_region_then rfl ?_
  simp -implicitDefEqProofs (disch := first | omega | decide) only [seval, -Int.reducePow, -Nat.reducePow, cC, pv, binv, undef]
  refine hK _ _ ?_
  clear hK K
  refine cv_seq_k fun K hK => ?_
  refine cv_region_then rfl ?_
  simp -implicitDefEqProofs (disch := first | omega | decide) only [seval, -Int.reducePow, -Nat.reducePow, cC, pv, binv, undef, e1, wrap_in]
  refine hK _ _ ?_
  clear hK K
  refine cv_ret ⟨_, (by simp -implicitDefEqProofs (disch := first | omega | decide) only [seval, -Int.reducePow, -Nat.reducePow, cC, pv, binv, undef]; rfl), fun w hw => ?_⟩
  exact ⟨rfl, hw.below⟩
theorem rgen_any (h : Nat) (hh : h < 18446744073709551616) (W : World) : Calls Tryd.prog 16 #[.int .u64 (h : Int)] W fun e w' => e = .returned (.int .i64 (genF h : Int)) ∧ Below W.heap.size W w' := by
  have hp := parts_rng hh
  have e0 : IntKind.u64.wrap ((h : Int) / 16777216) = ((h / 16777216 : Nat) : Int) := by rw [IntKind.wrap_u64]; omega
  have e1 : ((h / 16777216 : Nat) : Int) % 4294967296 = ((genF h : Nat) : Int) := by unfold genF; omega
  refine calls_cv (M := []) (n := 7) [.tmp 2] rfl Tryd.func16 rfl rfl (Nat.le_of_ble_eq_true rfl) (St.nil _ _) ?_
  refine cv_seq_k fun K hK => ?_
  refine cv_region_then rfl ?_
  simp -implicitDefEqProofs (disch := first | omega | decide) only [seval, -Int.reducePow, -Nat.reducePow, cC, pv, binv, undef]
  refine hK _ _ ?_
  clear hK K
  refine cv_seq_k fun K hK => ?_
  refine cv_region_then rfl ?_
  simp -implicitDefEqProofs (disch := first | omega | decide) only [seval, -Int.reducePow, -Nat.reducePow, cC, pv, binv, undef, e0, e1, wrap_in]
  refine hK _ _ ?_
  clear hK K
  refine cv_ret ⟨_, (by simp -implicitDefEqProofs (disch := first | omega | decide) only [seval, -Int.reducePow, -Nat.reducePow, cC, pv, binv, undef]; rfl), fun w hw => ?_⟩
  exact ⟨rfl, hw.below⟩
theorem rtag_any (h : Nat) (hh : h < 18446744073709551616) (W : World) : Calls Tryd.prog 17 #[.int .u64 (h : Int)] W fun e w' => e = .returned (.int .i64 (tagF h : Int)) ∧ Below W.heap.size W w' := by
  have hp := parts_rng hh
  have e0 : IntKind.u64.wrap ((h : Int) / 72057594037927936) = ((tagF h : Nat) : Int) := by rw [IntKind.wrap_u64]; unfold tagF; omega
  refine calls_cv (M := []) (n := 6) [.tmp 2] rfl Tryd.func17 rfl rfl (Nat.le_of_ble_eq_true rfl) (St.nil _ _) ?_
  refine cv_seq_k fun K hK => ?_
  refine cv_region_then rfl ?_
  simp -implicitDefEqProofs (disch := first | omega | decide) only [seval, -Int.reducePow, -Nat.reducePow, cC, pv, binv, undef]
  refine hK _ _ ?_
  clear hK K
  refine cv_seq_k fun K hK => ?_
  refine cv_region_then rfl ?_
  simp -implicitDefEqProofs (disch := first | omega | decide) only [seval, -Int.reducePow, -Nat.reducePow, cC, pv, binv, undef, e0, wrap_in]
  refine hK _ _ ?_
  clear hK K
  refine cv_ret ⟨_, (by simp -implicitDefEqProofs (disch := first | omega | decide) only [seval, -Int.reducePow, -Nat.reducePow, cC, pv, binv, undef]; rfl), fun w hw => ?_⟩
  exact ⟨rfl, hw.below⟩
theorem valid_any (h : Nat) (hh : h < 18446744073709551616) (W : World) : Calls Tryd.prog 18 #[.int .u64 (h : Int)] W fun e w' => e = .returned (.bool (decide (0 < genF h ∧ 0 < tagF h))) ∧ Below W.heap.size W w' := by
  refine calls_cv (M := []) (n := 11) [.tmp 2] rfl Tryd.func18 rfl rfl (Nat.le_of_ble_eq_true rfl) (St.nil _ _) ?_
  refine cv_seq_k fun K hK => ?_
  refine cv_region_then rfl ?_
  simp -implicitDefEqProofs (disch := first | omega | decide) only [seval, -Int.reducePow, -Nat.reducePow, cC, pv, binv, undef]
  refine hK _ _ ?_
  clear hK K
  refine cv_gen fun G1 hG => ?_
  have g1_0 := congrFun hG 0
  clear hG
  try simp -implicitDefEqProofs (disch := first | omega | decide) only [seval, -Int.reducePow, -Nat.reducePow, cC, pv, binv, undef] at g1_0
  have g1 := g1_0
  by_cases hg : (genF h : Int) = 0
  · refine cv_seq_k fun K hK => ?_
    refine cv_region_then rfl ?_
    simp -implicitDefEqProofs (disch := first | omega | decide) only [seval, -Int.reducePow, -Nat.reducePow, cC, pv, binv, undef, g1]
    refine callV_ret (fun w hw => gen_any h hh w) ?_
    try simp -implicitDefEqProofs (disch := first | omega | decide) only [seval, -Int.reducePow, -Nat.reducePow, cC, pv, binv, undef, hg, g1]
    refine hK _ _ ?_
    clear hK K
    refine cv_ret ⟨_, (by simp -implicitDefEqProofs (disch := first | omega | decide) only [seval, -Int.reducePow, -Nat.reducePow, cC, pv, binv, undef, g1]; rfl), fun w hw => ?_⟩
    exact ⟨by rw [decide_eq_false (by omega)], hw.below⟩
  · refine cv_seq_k fun K hK => ?_
    refine cv_region_then rfl ?_
    simp -implicitDefEqProofs (disch := first | omega | decide) only [seval, -Int.reducePow, -Nat.reducePow, cC, pv, binv, undef, g1]
    refine callV_ret (fun w hw => gen_any h hh w) ?_
    try simp -implicitDefEqProofs (disch := first | omega | decide) only [seval, -Int.reducePow, -Nat.reducePow, cC, pv, binv, undef, hg, g1]
    refine callV_ret (fun w hw => tag_any h hh w) ?_
    try simp -implicitDefEqProofs (disch := first | omega | decide) only [seval, -Int.reducePow, -Nat.reducePow, cC, pv, binv, undef, g1]
    refine hK _ _ ?_
    clear hK K
    refine cv_ret ⟨_, (by simp -implicitDefEqProofs (disch := first | omega | decide) only [seval, -Int.reducePow, -Nat.reducePow, cC, pv, binv, undef, g1]; rfl), fun w hw => ?_⟩
    refine ⟨congrArg (fun b => Ending.returned (.bool b)) ?_, hw.below⟩
    rw [Bool.eq_iff_iff]
    simp
    omega
theorem rvalid_any (h : Nat) (hh : h < 18446744073709551616) (W : World) : Calls Tryd.prog 19 #[.int .u64 (h : Int)] W fun e w' => e = .returned (.bool (decide (0 < genF h ∧ 0 < tagF h))) ∧ Below W.heap.size W w' := by
  refine calls_cv (M := []) (n := 11) [.tmp 2] rfl Tryd.func19 rfl rfl (Nat.le_of_ble_eq_true rfl) (St.nil _ _) ?_
  refine cv_seq_k fun K hK => ?_
  refine cv_region_then rfl ?_
  simp -implicitDefEqProofs (disch := first | omega | decide) only [seval, -Int.reducePow, -Nat.reducePow, cC, pv, binv, undef]
  refine hK _ _ ?_
  clear hK K
  refine cv_gen fun G2 hG => ?_
  have g2_0 := congrFun hG 0
  clear hG
  try simp -implicitDefEqProofs (disch := first | omega | decide) only [seval, -Int.reducePow, -Nat.reducePow, cC, pv, binv, undef] at g2_0
  have g2 := g2_0
  by_cases hg : (0 : Int) < (genF h : Int)
  · refine cv_seq_k fun K hK => ?_
    refine cv_region_then rfl ?_
    simp -implicitDefEqProofs (disch := first | omega | decide) only [seval, -Int.reducePow, -Nat.reducePow, cC, pv, binv, undef, g2]
    refine callV_ret (fun w hw => rgen_any h hh w) ?_
    try simp -implicitDefEqProofs (disch := first | omega | decide) only [seval, -Int.reducePow, -Nat.reducePow, cC, pv, binv, undef, hg, g2]
    refine callV_ret (fun w hw => rtag_any h hh w) ?_
    try simp -implicitDefEqProofs (disch := first | omega | decide) only [seval, -Int.reducePow, -Nat.reducePow, cC, pv, binv, undef, g2]
    refine hK _ _ ?_
    clear hK K
    refine cv_ret ⟨_, (by simp -implicitDefEqProofs (disch := first | omega | decide) only [seval, -Int.reducePow, -Nat.reducePow, cC, pv, binv, undef, g2]; rfl), fun w hw => ?_⟩
    refine ⟨congrArg (fun b => Ending.returned (.bool b)) ?_, hw.below⟩
    rw [Bool.eq_iff_iff]
    simp
    omega
  · refine cv_seq_k fun K hK => ?_
    refine cv_region_then rfl ?_
    simp -implicitDefEqProofs (disch := first | omega | decide) only [seval, -Int.reducePow, -Nat.reducePow, cC, pv, binv, undef, g2]
    refine callV_ret (fun w hw => rgen_any h hh w) ?_
    try simp -implicitDefEqProofs (disch := first | omega | decide) only [seval, -Int.reducePow, -Nat.reducePow, cC, pv, binv, undef, hg, g2]
    refine hK _ _ ?_
    clear hK K
    refine cv_ret ⟨_, (by simp -implicitDefEqProofs (disch := first | omega | decide) only [seval, -Int.reducePow, -Nat.reducePow, cC, pv, binv, undef, g2]; rfl), fun w hw => ?_⟩
    exact ⟨by rw [decide_eq_false (by omega)], hw.below⟩
end Go.Proofs.YtddofamkmcgfmaaDoor
