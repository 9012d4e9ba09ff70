/- The law FlowDeep, walked. -/
import Derived.Test.YthlhjljgpohgbaaFlAw
namespace Go.Proofs.Ythlhjljgpohgbaa
open Go.RowKit Go.Shelf
set_option linter.unusedVariables false
set_option linter.unusedSimpArgs false
set_option maxRecDepth 100000
/-- So many pushes, and a halt. -/
def deepC (a : Nat) (k : Nat) : List Ins := List.replicate k ⟨1, a⟩ ++ [⟨25, 0⟩]
def deepH (k : Nat) : List Int := (List.range (k + 1)).map fun i : Nat => (i : Int)
theorem deepH_at {k i : Nat} (h : i ≤ k) : (deepH k)[i]? = some (i : Int) := by
  unfold deepH
  rw [List.getElem?_map, List.getElem?_range (by omega)]
  rfl
theorem deepH_len (k : Nat) : (deepH k).length = k + 1 := by simp [deepH]
theorem deep_snoc (a k : Nat) : cl insc (List.replicate k ⟨1, a⟩) ++ [Value.int .i64 1, Value.int .u64 (a : Int)] = cl insc (List.replicate (k + 1) ⟨1, a⟩) := by
  rw [List.replicate_succ', cl_snoc]
  rfl
theorem deep_end (a k : Nat) : cl insc (List.replicate k ⟨1, a⟩) ++ [Value.int .i64 25, Value.int .u64 0] = cl insc (deepC a k) := by
  unfold deepC
  rw [cl_snoc]
  rfl
theorem deep_arg {a k : Nat} (ha : a < 256) : ∀ i ∈ deepC a k, i.arg < 18446744073709551616 := fun i hi => by
  rcases List.mem_append.1 hi with hi | hi
  · rw [List.eq_of_mem_replicate hi]
    show a < _
    omega
  · obtain rfl : i = ⟨25, 0⟩ := by simpa using hi
    decide
section
variable (b n c a : Nat) (A : Option Addr)
theorem deep_60 : hgtF (codM b A n c (deepC a 60)) 0 = (deepH 60, fineF) := by kernel_rfl
theorem deep_61 : hgtF (codM b A n c (deepC a 61)) 0 = (deepH 61, fineF) := by kernel_rfl
theorem deep_62 : hgtF (codM b A n c (deepC a 62)) 0 = (deepH 62, fineF) := by kernel_rfl
theorem deep_63 : hgtF (codM b A n c (deepC a 63)) 0 = (deepH 63, fineF) := by kernel_rfl
theorem deep_64 : hgtF (codM b A n c (deepC a 64)) 0 = (deepH 64, fineF) := by kernel_rfl
theorem deep_65 : hgtF (codM b A n c (deepC a 65)) 0 = ([], (24, 0, 64)) := by kernel_rfl
theorem deep_66 : hgtF (codM b A n c (deepC a 66)) 0 = ([], (24, 0, 64)) := by kernel_rfl
theorem deep_67 : hgtF (codM b A n c (deepC a 67)) 0 = ([], (24, 0, 64)) := by kernel_rfl
end
theorem deep_ok {k : Nat} (h1 : 60 ≤ k) (h2 : k ≤ 64) (b n c a : Nat) (A : Option Addr) : hgtF (codM b A n c (deepC a k)) 0 = (deepH k, fineF) := by
  rcases (by omega : k = 60 ∨ k = 61 ∨ k = 62 ∨ k = 63 ∨ k = 64) with rfl | rfl | rfl | rfl | rfl
  · exact deep_60 b n c a A
  · exact deep_61 b n c a A
  · exact deep_62 b n c a A
  · exact deep_63 b n c a A
  · exact deep_64 b n c a A
theorem deep_bad {k : Nat} (h1 : 65 ≤ k) (h2 : k ≤ 67) (b n c a : Nat) (A : Option Addr) : hgtF (codM b A n c (deepC a k)) 0 = ([], (24, 0, 64)) := by
  rcases (by omega : k = 65 ∨ k = 66 ∨ k = 67) with rfl | rfl | rfl
  · exact deep_65 b n c a A
  · exact deep_66 b n c a A
  · exact deep_67 b n c a A
set_option maxRecDepth 100000 in
theorem sFlLDeep1 : type_of% (And.intro (And.intro @flBox.eq_1 (And.intro @fltV.eq_1 @fineF.eq_1)) (And.intro @Nat.mul_one (And.intro @wrap_in @wrapu))) := (And.intro (And.intro @flBox.eq_1 (And.intro @fltV.eq_1 @fineF.eq_1)) (And.intro @Nat.mul_one (And.intro @wrap_in @wrapu)))
set_option maxHeartbeats 2000000 in
theorem fDeep_walk (W : World) (nn : Int) (hnn : 0 ≤ nn ∧ nn ≤ 255) (at' : Int) (hat : 0 ≤ at' ∧ at' ≤ 255) : Calls Try.prog 3 #[.int .u8 nn, .int .u8 at'] W fun e w' => e = .returned (.bool true) ∧ Below W.heap.size W w' := by
  obtain ⟨n, rfl⟩ : ∃ x : Nat, nn = (x : Int) := ⟨nn.toNat, by omega⟩
  obtain ⟨a, rfl⟩ : ∃ x : Nat, at' = (x : Int) := ⟨at'.toNat, by omega⟩
  obtain ⟨k, hk⟩ : ∃ k : Nat, 60 + (n : Int) % 8 = (k : Int) := ⟨60 + n % 8, by rw [Int.natCast_add, Int.natCast_emod]; rfl⟩
  have hk1 : 60 ≤ k ∧ k ≤ 67 := by omega
  refine calls_cv (M := []) (n := 82) [.tmp 4] rfl Try.func3 rfl rfl (Nat.le_of_ble_eq_true rfl) (St.nil _ _) ?_
  refine cv_seq_k fun K hK => ?_
  refine cv_region_then rfl ?_
  simp -implicitDefEqProofs (disch := first | omega | decide) only [seval, -Int.reducePow, -Nat.reducePow, cC, pv, binv, sFlLDeep1, undef]
  refine hK _ _ ?_
  clear hK K
  refine cv_seq_k fun K hK => ?_
  refine cv_region_then rfl ?_
  simp -implicitDefEqProofs (disch := first | omega | decide) only [seval, -Int.reducePow, -Nat.reducePow, cC, pv, binv, sFlLDeep1, undef, hk]
  refine hK _ _ ?_
  clear hK K
  refine cv_seq_k fun K hK => ?_
  refine cv_region_then rfl ?_
  simp -implicitDefEqProofs (disch := first | omega | decide) only [seval, -Int.reducePow, -Nat.reducePow, cC, pv, binv, sFlLDeep1, undef]
  refine hK _ _ ?_
  clear hK K
  refine cv_nil 25 2 ?_
  refine cv_gen fun G1 hG => ?_
  have g1_1 := congrFun hG 1
  have g1_5 := congrFun hG 5
  have g1_6 := congrFun hG 6
  clear hG
  try simp -implicitDefEqProofs (disch := first | omega | decide) only [seval, -Int.reducePow, -Nat.reducePow, cC, pv, binv, sFlLDeep1, undef, hk] at g1_1 g1_5 g1_6
  have g1 := And.intro g1_1 (And.intro g1_5 g1_6)
  refine cv_seq_k fun K hK => ?_
  refine cv_seq_k fun K hK => ?_
  refine cv_region_then rfl ?_
  simp -implicitDefEqProofs (disch := first | omega | decide) only [seval, -Int.reducePow, -Nat.reducePow, cC, pv, binv, sFlLDeep1, undef, g1]
  refine hK _ _ ?_
  clear hK K
  refine cv_block ?_
  refine cv_loop (fun F' L' => ∃ (i : Nat) (A5 : Option Addr) (c5 : Nat), F' 1 = G1 1 ∧ F' 5 = G1 5 ∧ F' 6 = .slice A5 i c5 ∧ F' 7 = .int .i64 (i : Int) ∧ L' = [.row (.slice A5 i c5) 25 2 i (cl insc (List.replicate i ⟨1, a⟩))] ∧ i ≤ k) (fun F' L' => 100 - (intOf (F' 7)).toNat) ?_ ?_
  · refine ⟨0, none, 0, ?_⟩
    simp -implicitDefEqProofs (disch := first | omega | decide) only [seval, -Int.reducePow, -Nat.reducePow, cC, pv, binv, sFlLDeep1, undef, g1]
    exact ⟨rfl, by omega⟩
  intro G2 L' hI
  obtain ⟨i, A5, c5, q1, q5, q6, q7, rfl, hi⟩ := hI
  have g2_1 := q1.trans g1_1
  have g2_5 := q5.trans g1_5
  have g2_6 := q6
  have g2_7 := q7
  clear q1 q5 q6 q7
  have g2 := And.intro g2_1 (And.intro g2_5 (And.intro g2_6 g2_7))
  refine cv_seq_k fun K hK => ?_
  refine cv_seq_k fun K hK => ?_
  refine cv_region_then rfl ?_
  simp -implicitDefEqProofs (disch := first | omega | decide) only [seval, -Int.reducePow, -Nat.reducePow, cC, pv, binv, sFlLDeep1, undef, g1, g2]
  refine hK _ _ ?_
  clear hK K
  refine cv_cond ?_
  simp -implicitDefEqProofs (disch := first | omega | decide) only [seval, -Int.reducePow, -Nat.reducePow, cC, pv, binv, sFlLDeep1, undef, g1, g2]
  refine ⟨fun hc => ?_, fun hc => ?_⟩
  · refine cv_skip ?_
    try simp only [blockQ, thenQ]
    have hin : i < k := by have := of_decide_eq_true ‹decide ((i : Int) < (k : Int)) = true›; omega
    refine hK _ _ ?_
    clear hK K
    refine cv_seq_k fun K hK => ?_
    refine cv_block ?_
    refine cv_pick_post [0] (by decide) ?_
    refine cv_region_q rfl ?_
    simp -implicitDefEqProofs (disch := first | omega | decide) only [seval, -Int.reducePow, -Nat.reducePow, cC, pv, binv, sFlLDeep1, undef, g1, g2]
    intro b23 hb23
    refine appV_at 1 tap22 rfl (fun w hw => src_blk (size := 2) (.head _) rfl hw) rfl (by omega) (by omega) ?_
    intro A6 c6 hl6 hr6
    rw [deep_snoc]
    simp -implicitDefEqProofs (disch := first | omega | decide) only [seval, -Int.reducePow, -Nat.reducePow, cC, pv, binv, sFlLDeep1, undef, g1, g2]
    refine hK _ _ ?_
    clear hK K
    refine cv_region_then rfl ?_
    simp -implicitDefEqProofs (disch := first | omega | decide) only [seval, -Int.reducePow, -Nat.reducePow, cC, pv, binv, sFlLDeep1, undef, g1, g2]
    refine ⟨⟨i + 1, A6, c6, ?_⟩, ?_⟩
    · simp -implicitDefEqProofs (disch := first | omega | decide) only [seval, -Int.reducePow, -Nat.reducePow, cC, pv, binv, sFlLDeep1, undef, Int.natCast_add, g1, g2]
      omega
    · simp only [intOf]; omega
  refine cv_exit ?_
  simp only [blockQ, thenQ, if_true, ite_true]
  clear hK K
  refine hK _ _ ?_
  clear hK K
  have hik : i = k := by have := of_decide_eq_false ‹decide ((i : Int) < (k : Int)) = false›; omega
  subst hik
  refine cv_gen fun G3 hG => ?_
  have g3_1 := congrFun hG 1
  have g3_5 := congrFun hG 5
  have g3_6 := congrFun hG 6
  clear hG
  try simp -implicitDefEqProofs (disch := first | omega | decide) only [seval, -Int.reducePow, -Nat.reducePow, cC, pv, binv, sFlLDeep1, undef, g1, g2] at g3_1 g3_5 g3_6
  have g3 := And.intro g3_1 (And.intro g3_5 g3_6)
  refine cv_seq_k fun K hK => ?_
  refine cv_region_then rfl ?_
  simp -implicitDefEqProofs (disch := first | omega | decide) only [seval, -Int.reducePow, -Nat.reducePow, cC, pv, binv, sFlLDeep1, undef, g1, g2, g3]
  intro b28 hb28
  refine appV_at 1 tap22 rfl (fun w hw => src_blk (size := 2) (.head _) rfl hw) rfl (by omega) (by omega) ?_
  intro A7 c7 hl7 hr7
  rw [deep_end]
  simp -implicitDefEqProofs (disch := first | omega | decide) only [seval, -Int.reducePow, -Nat.reducePow, cC, pv, binv, sFlLDeep1, undef, g1, g2, g3]
  refine callV_blk (us := [.int .i64 0, .int .i64 0, .int .i64 2, .slice A7 (i + 1) c7]) (fun b => .agg #[.slice none 0 0, .slice (some ⟨b, 0, none⟩) 1 1]) (fun w hw => code_any A7 (i + 1) c7 w) ?_
  intro b8 hb8 hf8
  simp -implicitDefEqProofs (disch := first | omega | decide) only [seval, -Int.reducePow, -Nat.reducePow, cC, pv, binv, sFlLDeep1, undef, g1, g2, g3] at hf8
  simp -implicitDefEqProofs (disch := first | omega | decide) only [seval, -Int.reducePow, -Nat.reducePow, cC, pv, binv, sFlLDeep1, undef, g1, g2, g3]
  obtain ⟨u, hu⟩ : ∃ u, hgtF (codM b8 A7 (i + 1) c7 (deepC a i)) 0 = u := ⟨_, rfl⟩
  refine callV_row (fun A n c => .tuple #[.slice A n c, fltV u.2]) (fun w hw => (by have := Heights_any (codM b8 A7 (i + 1) c7 (deepC a i)) 0 w (cod_mod (hw.slr 1 rfl) (Sl.of_blk hw (.head _) rfl (by omega)) (deep_arg (by omega))); rw [hu] at this; exact this)) ?_
  intro A1 n1 c1 hl1 hr1
  simp -implicitDefEqProofs (disch := first | omega | decide) only [seval, -Int.reducePow, -Nat.reducePow, cC, pv, binv, sFlLDeep1, undef, g1, g2, g3]
  intro b9 hb9 hf9
  refine hK _ _ ?_
  clear hK K
  refine cv_gen fun G4 hG => ?_
  have g4_1 := congrFun hG 1
  have g4_5 := congrFun hG 5
  have g4_8 := congrFun hG 8
  have g4_9 := congrFun hG 9
  clear hG
  try simp -implicitDefEqProofs (disch := first | omega | decide) only [seval, -Int.reducePow, -Nat.reducePow, cC, pv, binv, sFlLDeep1, undef, g1, g2, g3] at g4_1 g4_5 g4_8 g4_9
  have g4 := And.intro g4_1 (And.intro g4_5 (And.intro g4_8 g4_9))
  by_cases h64 : 64 < i
  · rw [deep_bad (by omega) (by omega)] at hu
    subst hu
    have h' : decide (64 < (i : Int)) = true := decide_eq_true (by omega)
    have hn1 : n1 = 0 := by have : (i64z []).length = n1 * 1 := hl1; rw [z_len] at this; simp at this; omega
    subst hn1
    refine cv_seq_k fun K hK => ?_
    refine cv_seq_k fun K hK => ?_
    refine cv_region_then rfl ?_
    simp -implicitDefEqProofs (disch := first | omega | decide) only [seval, -Int.reducePow, -Nat.reducePow, cC, pv, binv, sFlLDeep1, undef, g1, g2, g4]
    refine hK _ _ ?_
    clear hK K
    refine cv_cond ?_
    simp -implicitDefEqProofs (disch := first | omega | decide) only [seval, -Int.reducePow, -Nat.reducePow, cC, pv, binv, sFlLDeep1, undef, h', g1, g2, g4]
    refine cv_seq_k fun K hK => ?_
    refine cv_region_then rfl ?_
    simp -implicitDefEqProofs (disch := first | omega | decide) only [seval, -Int.reducePow, -Nat.reducePow, cC, pv, binv, sFlLDeep1, undef, g1, g2, g4]
    refine callV_ret (fun w hw => flAwake_any w) ?_
    try simp -implicitDefEqProofs (disch := first | omega | decide) only [seval, -Int.reducePow, -Nat.reducePow, cC, pv, binv, sFlLDeep1, undef, g1, g2, g4]
    refine hK _ _ ?_
    clear hK K
    refine cv_ret ⟨_, (by simp -implicitDefEqProofs (disch := first | omega | decide) only [seval, -Int.reducePow, -Nat.reducePow, cC, pv, binv, sFlLDeep1, undef, g1, g2, g4]; rfl), fun w hw => ?_⟩
    exact ⟨rfl, hw.below⟩
  · rw [deep_ok (by omega) (by omega)] at hu
    subst hu
    have h' : decide (64 < (i : Int)) = false := decide_eq_false (by omega)
    have hn1 : n1 = i + 1 := by have : (i64z (deepH i)).length = n1 * 1 := hl1; rw [z_len, deepH_len] at this; omega
    subst hn1
    obtain ⟨z, hz⟩ : ∃ z : Nat, (a : Int) % (i : Int) = (z : Int) := ⟨a % i, by rw [Int.natCast_emod]⟩
    have hzi : z < i := by
      have := Int.emod_lt_of_pos (a : Int) (show (0 : Int) < i by omega)
      omega
    refine cv_rowA 1 rfl (by omega) fun g hAA hg hNN => ?_
    subst hAA
    simp only [List.eraseIdx_cons_zero, List.eraseIdx_cons_succ, neB_nil, neB_blk, neB_row, neB_snap, and_true, List.not_mem_nil, or_false] at hNN hg
    replace hg := And.intro hg hNN
    clear hNN
    refine cv_seq_k fun K hK => ?_
    refine cv_seq_k fun K hK => ?_
    refine cv_region_then rfl ?_
    simp -implicitDefEqProofs (disch := first | omega | decide) only [seval, -Int.reducePow, -Nat.reducePow, cC, pv, binv, sFlLDeep1, undef, g1, g2, g4]
    refine hK _ _ ?_
    clear hK K
    refine cv_cond ?_
    simp -implicitDefEqProofs (disch := first | omega | decide) only [seval, -Int.reducePow, -Nat.reducePow, cC, pv, binv, sFlLDeep1, undef, h', g1, g2, g4]
    refine cv_skip ?_
    try simp only [blockQ, thenQ]
    refine hK _ _ ?_
    clear hK K
    refine cv_seq_k fun K hK => ?_
    refine cv_draw [(false, 0), (true, 1), (true, 2), (true, 3), (true, 4), (true, 5), (true, 6), (true, 7), (true, 8), (true, 9), (true, 10), (true, 11), (true, 12), (true, 13), (true, 14), (true, 15), (true, 16), (true, 17), (true, 18), (true, 19), (true, 20), (true, 21), (true, 22), (true, 23), (true, 24), (true, 25), (true, 26), (true, 27), (true, 28), (true, 29), (true, 30), (true, 31), (true, 32), (true, 33), (true, 34), (true, 35)] [] mixA rfl (by kernel_rfl) (by kernel_rfl) rfl rfl ?_
    simp -implicitDefEqProofs (disch := first | omega | decide) only [seval, -Int.reducePow, -Nat.reducePow, cC, pv, binv, sFlLDeep1, undef, g1, g2, g4]
    refine callV_ret (fun w hw => flAwake_any w) ?_
    try simp -implicitDefEqProofs (disch := first | omega | decide) only [seval, -Int.reducePow, -Nat.reducePow, cC, pv, binv, sFlLDeep1, undef, Int.natCast_add, hz, g1, g2, g4]
    refine ⟨_, ld_row1 (m := 1) (v := .int .i64 (i : Int)) (i := i) (.tail _ (.head _)) rfl (z_at (deepH_at (Nat.le_refl _))), fun tok htok => ?_⟩
    subst htok
    simp -implicitDefEqProofs (disch := first | omega | decide) only [seval, -Int.reducePow, -Nat.reducePow, cC, pv, binv, sFlLDeep1, undef, hz, g1, g2, g4]
    refine ⟨_, ld_row1 (m := 1) (v := .int .i64 (z : Int)) (i := z) (.tail _ (.head _)) rfl (z_at (deepH_at (by omega))), fun tok htok => ?_⟩
    subst htok
    simp -implicitDefEqProofs (disch := first | omega | decide) only [seval, -Int.reducePow, -Nat.reducePow, cC, pv, binv, sFlLDeep1, undef, hz, g1, g2, g4]
    refine hK _ _ ?_
    clear hK K
    refine cv_ret ⟨_, (by simp -implicitDefEqProofs (disch := first | omega | decide) only [seval, -Int.reducePow, -Nat.reducePow, cC, pv, binv, sFlLDeep1, undef, g1, g2, g4]; rfl), fun w hw => ?_⟩
    exact ⟨rfl, hw.below⟩
end Go.Proofs.Ythlhjljgpohgbaa
