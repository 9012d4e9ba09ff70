/- Texts of one digit; the sanity check. -/
import Derived.Test.YtddofamkmcgfmaaDoorHPack
namespace Go.Proofs.YtddofamkmcgfmaaDoor
open Go.RowKit Go.Shelf
set_option linter.unusedVariables false
set_option linter.unusedSimpArgs false
set_option maxRecDepth 100000
theorem bstr_app (l m : List Nat) : bstr l ++ bstr m = bstr (l ++ m) := by
  rw [bstr_eq, bstr_eq, bstr_eq]
  apply ByteArray.ext
  simp [ByteArray.data_append]
theorem bstr_size (l : List Nat) : (bstr l).size = l.length := by
  rw [bstr_eq]
  show (l.map fun x => UInt8.ofNat x).toArray.size = _
  simp
theorem digit : ∀ d, d < 10 → (ByteArray.mk #[48, 49, 50, 51, 52, 53, 54, 55, 56, 57, 97, 98, 99, 100, 101, 102, 103, 104, 105, 106, 107, 108, 109, 110, 111, 112, 113, 114, 115, 116, 117, 118, 119, 120, 121, 122]).extract d (d + 1) = ByteArray.mk #[UInt8.ofNat (48 + d)] := by decide +kernel
theorem one_eq (d : Nat) : ByteArray.mk #[UInt8.ofNat (48 + d)] = bstr [48 + d] := by rw [bstr_eq]; rfl
theorem slash_eq : ByteArray.mk #[47] = bstr [47] := by rw [bstr_eq]; rfl
theorem aw_eq : ByteArray.mk #[53, 47, 49, 47, 50] = bstr [53, 47, 49, 47, 50] := by rw [bstr_eq]; rfl
theorem small_any (d : Nat) (hd : d < 10) (W : World) : Calls Tryd.prog 44 #[.int .i64 (d : Int)] W fun e w' => e = .returned (.string (bstr [48 + d])) ∧ Below W.heap.size W w' := by
  have h1 : (d : Int) < 10 := by omega
  have h2 : ((d : Int) + 1).toNat = d + 1 := by omega
  refine calls_cv (M := []) (n := 15) [.tmp 2] rfl Tryd.func44 rfl rfl (Nat.le_of_ble_eq_true rfl) (St.nil _ _) ?_
  refine cv_seq_k fun K hK => ?_
  refine cv_region_then rfl ?_
  simp -implicitDefEqProofs (disch := first | omega | decide) only [seval, -Int.reducePow, -Nat.reducePow, cC, pv, binv, undef]
  refine hK _ _ ?_
  clear hK K
  refine cv_seq_k fun K hK => ?_
  refine cv_seq_k fun K hK => ?_
  refine cv_region_then rfl ?_
  simp -implicitDefEqProofs (disch := first | omega | decide) only [seval, -Int.reducePow, -Nat.reducePow, cC, pv, binv, undef, h1]
  refine hK _ _ ?_
  clear hK K
  refine cv_cond ?_
  simp -implicitDefEqProofs (disch := first | omega | decide) only [seval, -Int.reducePow, -Nat.reducePow, cC, pv, binv, undef]
  refine cv_seq_k fun K hK => ?_
  refine cv_region_then rfl ?_
  simp -implicitDefEqProofs (disch := first | omega | decide) only [seval, -Int.reducePow, -Nat.reducePow, cC, pv, binv, undef, wrap_in, h2]
  refine ⟨(show (0 : Int) ≤ d ∧ (d : Int) ≤ d + 1 ∧ (d : Int) + 1 ≤ ((36 : Nat) : Int) from by omega), ?_⟩
  refine hK _ _ ?_
  clear hK K
  refine cv_ret ⟨_, (by simp -implicitDefEqProofs (disch := first | omega | decide) only [seval, -Int.reducePow, -Nat.reducePow, cC, pv, binv, undef]; rfl), fun w hw => ?_⟩
  exact ⟨congrArg (fun s => Ending.returned (.string s)) ((digit d hd).trans (one_eq d)), hw.below⟩
theorem formatInt_one (d : Nat) (hd : d < 10) (W : World) : Calls Tryd.prog 35 #[.int .i64 (d : Int), .int .i64 10] W fun e w' => e = .returned (.string (bstr [48 + d])) ∧ Below W.heap.size W w' := by
  have h0 : (0 : Int) ≤ d := by omega
  have h1 : (d : Int) < 100 := by omega
  refine calls_cv (M := []) (n := 54) [.tmp 4] rfl Tryd.func35 rfl rfl (Nat.le_of_ble_eq_true rfl) (St.nil _ _) ?_
  refine cv_seq_k fun K hK => ?_
  refine cv_region_then rfl ?_
  simp -implicitDefEqProofs (disch := first | omega | decide) only [seval, -Int.reducePow, -Nat.reducePow, cC, pv, binv, undef]
  refine hK _ _ ?_
  clear hK K
  refine cv_seq_k fun K hK => ?_
  refine cv_seq_k fun K hK => ?_
  refine cv_region_then rfl ?_
  simp -implicitDefEqProofs (disch := first | omega | decide) only [seval, -Int.reducePow, -Nat.reducePow, cC, pv, binv, undef]
  refine hK _ _ ?_
  clear hK K
  refine cv_cond ?_
  simp -implicitDefEqProofs (disch := first | omega | decide) only [seval, -Int.reducePow, -Nat.reducePow, cC, pv, binv, undef]
  refine cv_seq_k fun K hK => ?_
  refine cv_seq_k fun K hK => ?_
  refine cv_region_then rfl ?_
  simp -implicitDefEqProofs (disch := first | omega | decide) only [seval, -Int.reducePow, -Nat.reducePow, cC, pv, binv, undef, h0, h1]
  refine hK _ _ ?_
  clear hK K
  refine cv_cond ?_
  simp -implicitDefEqProofs (disch := first | omega | decide) only [seval, -Int.reducePow, -Nat.reducePow, cC, pv, binv, undef]
  refine cv_seq_k fun K hK => ?_
  refine cv_region_then rfl ?_
  simp -implicitDefEqProofs (disch := first | omega | decide) only [seval, -Int.reducePow, -Nat.reducePow, cC, pv, binv, undef]
  refine callV_ret (fun w hw => small_any d hd w) ?_
  try simp -implicitDefEqProofs (disch := first | omega | decide) only [seval, -Int.reducePow, -Nat.reducePow, cC, pv, binv, undef]
  refine hK _ _ ?_
  clear hK K
  refine cv_ret ⟨_, (by simp -implicitDefEqProofs (disch := first | omega | decide) only [seval, -Int.reducePow, -Nat.reducePow, cC, pv, binv, undef]; rfl), fun w hw => ?_⟩
  exact ⟨rfl, hw.below⟩
theorem itoaI_one (d : Nat) (hd : d < 10) (W : World) : Calls Tryd.prog 31 #[.int .i64 (d : Int)] W fun e w' => e = .returned (.string (bstr [48 + d])) ∧ Below W.heap.size W w' := by
  refine calls_cv (M := []) (n := 5) [.tmp 2] rfl Tryd.func31 rfl rfl (Nat.le_of_ble_eq_true rfl) (St.nil _ _) ?_
  refine cv_seq_k fun K hK => ?_
  refine cv_region_then rfl ?_
  simp -implicitDefEqProofs (disch := first | omega | decide) only [seval, -Int.reducePow, -Nat.reducePow, cC, pv, binv, undef]
  refine hK _ _ ?_
  clear hK K
  refine cv_seq_k fun K hK => ?_
  refine cv_region_then rfl ?_
  simp -implicitDefEqProofs (disch := first | omega | decide) only [seval, -Int.reducePow, -Nat.reducePow, cC, pv, binv, undef]
  refine callV_ret (fun w hw => formatInt_one d hd w) ?_
  try simp -implicitDefEqProofs (disch := first | omega | decide) only [seval, -Int.reducePow, -Nat.reducePow, cC, pv, binv, undef]
  refine hK _ _ ?_
  clear hK K
  refine cv_ret ⟨_, (by simp -implicitDefEqProofs (disch := first | omega | decide) only [seval, -Int.reducePow, -Nat.reducePow, cC, pv, binv, undef]; rfl), fun w hw => ?_⟩
  exact ⟨rfl, hw.below⟩
theorem itoa_one (d : Nat) (hd : d < 10) (W : World) : Calls Tryd.prog 25 #[.int .i64 (d : Int)] W fun e w' => e = .returned (.string (bstr [48 + d])) ∧ Below W.heap.size W w' := by
  refine calls_cv (M := []) (n := 5) [.tmp 2] rfl Tryd.func25 rfl rfl (Nat.le_of_ble_eq_true rfl) (St.nil _ _) ?_
  refine cv_seq_k fun K hK => ?_
  refine cv_region_then rfl ?_
  simp -implicitDefEqProofs (disch := first | omega | decide) only [seval, -Int.reducePow, -Nat.reducePow, cC, pv, binv, undef]
  refine hK _ _ ?_
  clear hK K
  refine cv_seq_k fun K hK => ?_
  refine cv_region_then rfl ?_
  simp -implicitDefEqProofs (disch := first | omega | decide) only [seval, -Int.reducePow, -Nat.reducePow, cC, pv, binv, undef]
  refine callV_ret (fun w hw => itoaI_one d hd w) ?_
  try simp -implicitDefEqProofs (disch := first | omega | decide) only [seval, -Int.reducePow, -Nat.reducePow, cC, pv, binv, undef]
  refine hK _ _ ?_
  clear hK K
  refine cv_ret ⟨_, (by simp -implicitDefEqProofs (disch := first | omega | decide) only [seval, -Int.reducePow, -Nat.reducePow, cC, pv, binv, undef]; rfl), fun w hw => ?_⟩
  exact ⟨rfl, hw.below⟩
theorem format_one (h : Nat) (hh : h < 18446744073709551616) (h1 : slotF h < 10) (h2 : genF h < 10) (h3 : tagF h < 10) (W : World) :
    Calls Tryd.prog 20 #[.int .u64 (h : Int)] W fun e w' => e = .returned (.string (bstr [48 + slotF h, 47, 48 + genF h, 47, 48 + tagF h])) ∧ Below W.heap.size W w' := by
  refine calls_cv (M := []) (n := 16) [.tmp 2] rfl Tryd.func20 rfl rfl (Nat.le_of_ble_eq_true rfl) (St.nil _ _) ?_
  refine cv_seq_k fun K hK => ?_
  refine cv_region_then rfl ?_
  simp -implicitDefEqProofs (disch := first | omega | decide) only [seval, -Int.reducePow, -Nat.reducePow, cC, pv, binv, undef]
  refine hK _ _ ?_
  clear hK K
  refine cv_seq_k fun K hK => ?_
  refine cv_region_then rfl ?_
  simp -implicitDefEqProofs (disch := first | omega | decide) only [seval, -Int.reducePow, -Nat.reducePow, cC, pv, binv, undef]
  refine callV_ret (fun w hw => slot_any h hh w) ?_
  try simp -implicitDefEqProofs (disch := first | omega | decide) only [seval, -Int.reducePow, -Nat.reducePow, cC, pv, binv, undef]
  refine callV_ret (fun w hw => itoa_one _ h1 w) ?_
  try simp -implicitDefEqProofs (disch := first | omega | decide) only [seval, -Int.reducePow, -Nat.reducePow, cC, pv, binv, undef, slash_eq, bstr_app, bstr_size]
  refine callV_ret (fun w hw => gen_any h hh w) ?_
  try simp -implicitDefEqProofs (disch := first | omega | decide) only [seval, -Int.reducePow, -Nat.reducePow, cC, pv, binv, undef, slash_eq, bstr_app, bstr_size]
  refine callV_ret (fun w hw => itoa_one _ h2 w) ?_
  try simp -implicitDefEqProofs (disch := first | omega | decide) only [seval, -Int.reducePow, -Nat.reducePow, cC, pv, binv, undef, slash_eq, bstr_app, bstr_size]
  refine callV_ret (fun w hw => tag_any h hh w) ?_
  try simp -implicitDefEqProofs (disch := first | omega | decide) only [seval, -Int.reducePow, -Nat.reducePow, cC, pv, binv, undef, slash_eq, bstr_app, bstr_size]
  refine callV_ret (fun w hw => itoa_one _ h3 w) ?_
  try simp -implicitDefEqProofs (disch := first | omega | decide) only [seval, -Int.reducePow, -Nat.reducePow, cC, pv, binv, undef, slash_eq, bstr_app, bstr_size]
  refine hK _ _ ?_
  clear hK K
  refine cv_ret ⟨_, (by simp -implicitDefEqProofs (disch := first | omega | decide) only [seval, -Int.reducePow, -Nat.reducePow, cC, pv, binv, undef]; rfl), fun w hw => ?_⟩
  exact ⟨rfl, hw.below⟩
theorem aw_pk : pkF 5 1 2 = (144115188092633093, 0) := by decide
theorem awake_any (W : World) : Calls Tryd.prog 11 #[] W fun e w' => e = .returned (.bool true) ∧ Below W.heap.size W w' := by
  have hs : slotF 144115188092633093 = 5 := by decide
  have hg : genF 144115188092633093 = 1 := by decide
  have ht : tagF 144115188092633093 = 2 := by decide
  have hp : pkV (pkF 5 1 2) = .tuple #[.int .u64 144115188092633093, .int .i64 0] := by rw [aw_pk]; rfl
  refine calls_cv (M := []) (n := 18) [.tmp 0] rfl Tryd.func11 rfl rfl (Nat.le_of_ble_eq_true rfl) (St.nil _ _) ?_
  refine cv_seq_k fun K hK => ?_
  refine cv_region_then rfl ?_
  simp -implicitDefEqProofs (disch := first | omega | decide) only [seval, -Int.reducePow, -Nat.reducePow, cC, pv, binv, undef]
  refine hK _ _ ?_
  clear hK K
  refine cv_seq_k fun K hK => ?_
  refine cv_region_then rfl ?_
  simp -implicitDefEqProofs (disch := first | omega | decide) only [seval, -Int.reducePow, -Nat.reducePow, cC, pv, binv, undef]
  refine callV_ret (fun w hw => pack_any 5 1 2 w) ?_
  try simp -implicitDefEqProofs (disch := first | omega | decide) only [seval, -Int.reducePow, -Nat.reducePow, cC, pv, binv, undef, hp]
  refine hK _ _ ?_
  clear hK K
  refine cv_seq_k fun K hK => ?_
  refine cv_region_then rfl ?_
  simp -implicitDefEqProofs (disch := first | omega | decide) only [seval, -Int.reducePow, -Nat.reducePow, cC, pv, binv, undef]
  refine callV_ret (fun w hw => format_one 144115188092633093 (by decide) (by rw [hs]; decide) (by rw [hg]; decide) (by rw [ht]; decide) w) ?_
  try simp -implicitDefEqProofs (disch := first | omega | decide) only [seval, -Int.reducePow, -Nat.reducePow, cC, pv, binv, undef, hs, hg, ht, aw_eq]
  refine hK _ _ ?_
  clear hK K
  refine cv_ret ⟨_, (by simp -implicitDefEqProofs (disch := first | omega | decide) only [seval, -Int.reducePow, -Nat.reducePow, cC, pv, binv, undef]; rfl), fun w hw => ?_⟩
  exact ⟨rfl, hw.below⟩
end Go.Proofs.YtddofamkmcgfmaaDoor
