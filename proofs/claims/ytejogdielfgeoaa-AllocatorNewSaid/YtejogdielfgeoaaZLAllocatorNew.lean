/- An allocator that is nil or the zero value: what its methods answer. -/
import Derived.Test.YtejogdielfgeoaaZ5
import Derived.Test.YtejogdielfgeoaaZ4
namespace Go.Proofs.Ytejogdielfgeoaa
open Go.RowKit Go.Shelf Go.Maps Go.Sort
set_option linter.unusedVariables false
set_option linter.unusedSimpArgs false
set_option maxRecDepth 100000
section
variable {P : Program} {M : List Nat} {W w : World} {L : List Res}
theorem run_lookup_none {t : TypeId} {k : Int} (ht : mpT P t = true) : (Instr.lookup t (.map none) (.int .i64 k) true).run P w = .ok (.tuple #[.int .i64 0, .bool false]) w := by
  obtain ⟨kt, et, i, h1, h2, h3, h4⟩ := mpT_run ht
  have hk : MapKept.IsKey (.int .i64) (.int .i64 k) := rfl
  rcases findNow_mp k 0 ([] : List MapEntry) [] 0 rfl with ⟨a, b', -, -⟩ | ⟨j, x, a, b', h5, -, -⟩
  · simp [Instr.lookup, run_underlying h1, MapKept.run_checkKey h2 hk, MapKept.run_findKey h2 b', Result.andThen, zeroValue, typeInfo, h3, h4]
  · simp at h5
theorem xv_lookup0 {F : Fr} {d : Option Nat} {t ty : TypeId} {pos : String} {af : Array Edge} {gd : Option (Nat × Bool)} {m k : Operand} {x : Int} {K : Bool → Value → List Res → Prop}
    (ht : mpT P t = true) (hm : ev F m = .map none) (hk : ev F k = .int .i64 x) (hK : K true (.tuple #[.int .i64 0, .bool false]) L) :
    XV P M W ⟨d, .lookup t m k true, ty, pos, af, gd⟩ F L K := fun w hw =>
  ⟨_, _, w, by simp [execOp, hm, hk, run_lookup_none ht], hw, hK⟩
end
theorem sortedKeys_nil (Bm : Nat) (w : World) (hm : w.cell? ⟨Bm, 0, none⟩ = some (.map none)) (hB : Bm < w.heap.size) :
    Calls Try.prog 51 #[.func (.func 59) #[] #[.pointer (some ⟨Bm, 0, none⟩)]] w fun e w' => ∃ (A : Option Addr) (n c : Nat), e = .returned (.slice A n c) ∧
      w'.ownsRow w.heap.size 3 1 (.slice A n c) n [] ∧ Below w.heap.size w w' := by
  have hseq : SeqGives Fence.wide 2 Try.prog 59 #[.pointer (some ⟨Bm, 0, none⟩)] encZ (fun ss : List Int => ss = []) 0 w :=
    AnyZI.keys_gives_nil (ρ := keysLay0_ren) { keysLay0 with } Fence.wide _ trivial rfl Bm w hB hm
  have cS := AnyZI.sorted_in sortedLay Fence.wide 5 trivial trivial trivial trivial rfl (by omega) (sorts_any _) (enters_of Try.func58 (by kernel_rfl) rfl) 59 #[.pointer (some ⟨Bm, 0, none⟩)] trivial (enters_of Try.func59 (by kernel_rfl) rfl) _ 0 (by decide) (by omega) w hseq
  refine (callsIn_wide.1 cS).mono ?_
  rintro e w' ⟨v, ss, rfl, hS, hrow, -, hb⟩
  obtain ⟨A, c, rfl⟩ := slice_of_row hrow
  subst hS
  have e : List.map encZ (([] : List Int).mergeSort fun x y => decide (x ≤ y)) = [] := by simp
  rw [e] at hrow
  exact ⟨A, 0, c, rfl, hrow, hb⟩
/-- Nil, or the zero value. -/
def NZ (w : World) (B : Nat) (p : Option Addr) : Prop := p = none ∨ ∃ b, p = some ⟨b, 0, none⟩ ∧ Sl w B 1 (some ⟨b, 0, none⟩) 2 2 [.slice none 0 0, .map none]
theorem NZ.at {W w : World} {L : List Res} {p : Option Addr} (h : NZ W W.heap.size p) (hw : St [] W L w) : NZ w w.heap.size p := h.imp id fun ⟨b, h1, h2⟩ => ⟨b, h1, h2.at hw⟩
set_option maxRecDepth 100000 in
theorem sAlNil1 : type_of% (And.intro (And.intro @eBox.eq_1 (And.intro @exV.eq_1 @Nat.mul_one)) (And.intro @wrap_in (And.intro @cMp @cM))) := (And.intro (And.intro @eBox.eq_1 (And.intro @exV.eq_1 @Nat.mul_one)) (And.intro @wrap_in (And.intro @cMp @cM)))
def zerr (n : Int) : Int := if Sz.err n = 0 then 18 else Sz.err n
set_option maxHeartbeats 2000000 in
theorem zfind_any (p : Option Addr) (n : Int) (W : World) (h : NZ W W.heap.size p) : Calls Try.prog 33 #[.pointer p, .int .i64 n] W
    fun e w' => e = .returned (.tuple #[.agg #[.int .i64 0, .int .i64 0], .int .i64 (zerr n)]) ∧ Below W.heap.size W w' := by
  obtain ⟨S, hS⟩ : ∃ S, Sz.rnd n = S := ⟨_, rfl⟩
  obtain ⟨e0, he⟩ : ∃ e0, Sz.err n = e0 := ⟨_, rfl⟩
  unfold zerr
  rw [he]
  refine calls_cv2 (M := []) (n := 58) [.cell 4 39, .tmp 5] rfl Try.func33 rfl rfl (Nat.le_of_ble_eq_true rfl) (St.nil _ _) ?_
  refine cv_seq_k fun K hK => ?_
  refine cv_region_then rfl ?_
  simp -implicitDefEqProofs (disch := first | omega | decide) only [seval, -Int.reducePow, -Nat.reducePow, cC, pv, binv, sAlNil1, undef]
  intro b4 hb4
  refine hK _ _ ?_
  clear hK K
  refine cv_seq_k fun K hK => ?_
  refine cv_region_then rfl ?_
  simp -implicitDefEqProofs (disch := first | omega | decide) only [seval, -Int.reducePow, -Nat.reducePow, cC, pv, binv, sAlNil1, undef]
  refine callV_ret (fun w hw => round_any n w) ?_
  try simp -implicitDefEqProofs (disch := first | omega | decide) only [seval, -Int.reducePow, -Nat.reducePow, cC, pv, binv, sAlNil1, undef, hS, he]
  refine hK _ _ ?_
  clear hK K
  refine cv_seq_k fun K hK => ?_
  refine cv_seq_k fun K hK => ?_
  refine cv_region_then rfl ?_
  simp -implicitDefEqProofs (disch := first | omega | decide) only [seval, -Int.reducePow, -Nat.reducePow, cC, pv, binv, sAlNil1, undef]
  refine hK _ _ ?_
  clear hK K
  refine cv_cond ?_
  simp -implicitDefEqProofs (disch := first | omega | decide) only [seval, -Int.reducePow, -Nat.reducePow, cC, pv, binv, sAlNil1, undef]
  refine ⟨fun hc => ?_, fun hc => ?_⟩
  · have hz : ¬ e0 = 0 := nd_true ‹(!decide (e0 = 0)) = true›
    rw [if_neg hz]
    refine cv_seq_k fun K hK => ?_
    refine cv_region_then rfl ?_
    simp -implicitDefEqProofs (disch := first | omega | decide) only [seval, -Int.reducePow, -Nat.reducePow, cC, pv, binv, sAlNil1, undef]
    refine hK _ _ ?_
    clear hK K
    refine cv_ret ?_
    simp -implicitDefEqProofs (disch := first | omega | decide) only [seval, -Int.reducePow, -Nat.reducePow, cC, pv, binv, sAlNil1, undef, retQ2, ressV, packV]
    intro w hw
    exact hw.below
  · have hz : e0 = 0 := by have := ‹(!decide (e0 = 0)) = false›; simpa using this
    rw [if_pos hz]
    refine cv_skip ?_
    try simp only [blockQ, thenQ]
    refine hK _ _ ?_
    clear hK K
    refine cv_seq_k fun K hK => ?_
    refine cv_region_then rfl ?_
    simp -implicitDefEqProofs (disch := first | omega | decide) only [seval, -Int.reducePow, -Nat.reducePow, cC, pv, binv, sAlNil1, undef]
    intro b8 hb8 hf8
    refine hK _ _ ?_
    clear hK K
    refine cv_gen fun G1 hG => ?_
    have g1_0 := congrFun hG 0
    have g1_4 := congrFun hG 4
    have g1_6 := congrFun hG 6
    have g1_8 := congrFun hG 8
    clear hG
    try simp -implicitDefEqProofs (disch := first | omega | decide) only [seval, -Int.reducePow, -Nat.reducePow, cC, pv, binv, sAlNil1, undef] at g1_0 g1_4 g1_6 g1_8
    have g1 := And.intro g1_0 (And.intro g1_4 (And.intro g1_6 g1_8))
    refine cv_seq_k fun K hK => ?_
    refine cv_cut (fun _ _ => True) (fun F' L' => F' 4 = G1 4 ∧ F' 6 = G1 6 ∧ F' 8 = G1 8 ∧ L' = [.blk b8 39 [.int .i64 0, .int .i64 0], .blk b4 39 [.int .i64 0, .int .i64 0]]) ?_ ?_
    · rcases h with rfl | ⟨b, rfl, hZ⟩
      · refine cv_seq_k fun K hK => ?_
        refine cv_region_then rfl ?_
        simp -implicitDefEqProofs (disch := first | omega | decide) only [seval, -Int.reducePow, -Nat.reducePow, cC, pv, binv, sAlNil1, undef, g1]
        refine hK _ _ ?_
        clear hK K
        refine cv_cond ?_
        simp -implicitDefEqProofs (disch := first | omega | decide) only [seval, -Int.reducePow, -Nat.reducePow, cC, pv, binv, sAlNil1, undef, g1]
        refine cv_skip ?_
        try simp only [blockQ, thenQ]
        simp -implicitDefEqProofs (disch := first | omega | decide) only [seval, -Int.reducePow, -Nat.reducePow, cC, pv, binv, sAlNil1, undef, g1]
      · obtain ⟨b', o', e, hb, -⟩ := hZ.cells (by omega)
        cases e
        refine cv_apart fun hap => ?_
        simp only [factL_nil, factL_blk, factL_row, neR_nil, neR_blk, neR_row, neB_nil, neB_blk, neB_row, and_true, true_and, List.not_mem_nil, or_false, sAlNil1, undef] at hap
        obtain hap := hap
        refine cv_seq_k fun K hK => ?_
        refine cv_region_then rfl ?_
        simp -implicitDefEqProofs (disch := first | omega | decide) only [seval, -Int.reducePow, -Nat.reducePow, cC, pv, binv, sAlNil1, undef, g1]
        refine hK _ _ ?_
        clear hK K
        refine cv_cond ?_
        simp -implicitDefEqProofs (disch := first | omega | decide) only [seval, -Int.reducePow, -Nat.reducePow, cC, pv, binv, sAlNil1, undef, g1]
        refine cv_seq_k fun K hK => ?_
        refine cv_region_then rfl ?_
        simp -implicitDefEqProofs (disch := first | omega | decide) only [seval, -Int.reducePow, -Nat.reducePow, cC, pv, binv, sAlNil1, undef, g1]
        refine ⟨_, hZ.ld1 (m := 1) (i := 0) (by kernel_rfl) rfl, fun tok htok => ?_⟩
        subst htok
        simp -implicitDefEqProofs (disch := first | omega | decide) only [seval, -Int.reducePow, -Nat.reducePow, cC, pv, binv, sAlNil1, undef, g1]
        refine hK _ _ ?_
        clear hK K
        refine cv_block ?_
        refine cv_times 1 ?_
        unfold timesV
        refine cv_seq_k fun K hK => ?_
        refine cv_region_then rfl ?_
        simp -implicitDefEqProofs (disch := first | omega | decide) only [seval, -Int.reducePow, -Nat.reducePow, cC, pv, binv, sAlNil1, undef, g1]
        refine hK _ _ ?_
        clear hK K
        refine cv_seq_k fun K hK => ?_
        refine cv_cond ?_
        simp -implicitDefEqProofs (disch := first | omega | decide) only [seval, -Int.reducePow, -Nat.reducePow, cC, pv, binv, sAlNil1, undef, g1]
        refine cv_exit ?_
        simp only [blockQ, thenQ, if_true, ite_true]
        simp -implicitDefEqProofs (disch := first | omega | decide) only [seval, -Int.reducePow, -Nat.reducePow, cC, pv, binv, sAlNil1, undef, g1]
    intro G2 L' _ hF
    obtain ⟨q4, q6, q8, rfl⟩ := hF
    have g2_4 := q4.trans g1_4
    have g2_6 := q6.trans g1_6
    have g2_8 := q8.trans g1_8
    clear q4 q6 q8
    have g2 := And.intro g2_4 (And.intro g2_6 g2_8)
    refine hK _ _ ?_
    clear hK K
    refine cv_seq_k fun K hK => ?_
    refine cv_seq_k fun K hK => ?_
    refine cv_region_then rfl ?_
    simp -implicitDefEqProofs (disch := first | omega | decide) only [seval, -Int.reducePow, -Nat.reducePow, cC, pv, binv, sAlNil1, undef, g2]
    refine hK _ _ ?_
    clear hK K
    refine cv_cond ?_
    simp -implicitDefEqProofs (disch := first | omega | decide) only [seval, -Int.reducePow, -Nat.reducePow, cC, pv, binv, sAlNil1, undef, g2]
    refine cv_seq_k fun K hK => ?_
    refine cv_region_then rfl ?_
    simp -implicitDefEqProofs (disch := first | omega | decide) only [seval, -Int.reducePow, -Nat.reducePow, cC, pv, binv, sAlNil1, undef, g2]
    refine hK _ _ ?_
    clear hK K
    refine cv_ret ?_
    simp -implicitDefEqProofs (disch := first | omega | decide) only [seval, -Int.reducePow, -Nat.reducePow, cC, pv, binv, sAlNil1, undef, retQ2, ressV, packV, g2]
    intro w hw
    exact ⟨by rw [if_pos hz], hw.below⟩
theorem zFits_any (p : Option Addr) (n : Int) (W : World) (h : NZ W W.heap.size p) : Calls Try.prog 15 #[.pointer p, .int .i64 n] W
    fun e w' => e = .returned (.int .i64 (zerr n)) ∧ Below W.heap.size W w' := by
  refine calls_cv (M := []) (n := 14) [.tmp 4] rfl Try.func15 rfl rfl (Nat.le_of_ble_eq_true rfl) (St.nil _ _) ?_
  refine cv_seq_k fun K hK => ?_
  refine cv_region_then rfl ?_
  simp -implicitDefEqProofs (disch := first | omega | decide) only [seval, -Int.reducePow, -Nat.reducePow, cC, pv, binv, sAlNil1, undef]
  refine hK _ _ ?_
  clear hK K
  refine cv_seq_k fun K hK => ?_
  refine cv_region_then rfl ?_
  simp -implicitDefEqProofs (disch := first | omega | decide) only [seval, -Int.reducePow, -Nat.reducePow, cC, pv, binv, sAlNil1, undef]
  refine callV_ret (fun w hw => zfind_any p n w (h.at hw)) ?_
  try simp -implicitDefEqProofs (disch := first | omega | decide) only [seval, -Int.reducePow, -Nat.reducePow, cC, pv, binv, sAlNil1, undef]
  intro b5 hb5
  refine hK _ _ ?_
  clear hK K
  refine cv_seq_k fun K hK => ?_
  refine cv_region_then rfl ?_
  simp -implicitDefEqProofs (disch := first | omega | decide) only [seval, -Int.reducePow, -Nat.reducePow, cC, pv, binv, sAlNil1, undef]
  refine hK _ _ ?_
  clear hK K
  refine cv_ret ⟨_, (by simp -implicitDefEqProofs (disch := first | omega | decide) only [seval, -Int.reducePow, -Nat.reducePow, cC, pv, binv, sAlNil1, undef]; rfl), fun w hw => ?_⟩
  exact ⟨rfl, hw.below⟩
theorem zerr_ne (n : Int) : zerr n ≠ 0 := by
  unfold zerr
  split
  · decide
  · assumption
theorem zAlloc_any (p : Option Addr) (n : Int) (W : World) (h : NZ W W.heap.size p) : Calls Try.prog 13 #[.pointer p, .int .i64 n] W
    fun e w' => e = .returned (.tuple #[.agg #[.int .i64 0, .int .i64 0], .int .i64 (zerr n)]) ∧ Below W.heap.size W w' := by
  have hz := zerr_ne n
  obtain ⟨z, hzz⟩ : ∃ z, zerr n = z := ⟨_, rfl⟩
  rw [hzz] at hz
  have hzd : decide (z = 0) = false := decide_eq_false hz
  refine calls_cv2 (M := []) (n := 39) [.cell 4 39, .tmp 5] rfl Try.func13 rfl rfl (Nat.le_of_ble_eq_true rfl) (St.nil _ _) ?_
  refine cv_seq_k fun K hK => ?_
  refine cv_region_then rfl ?_
  simp -implicitDefEqProofs (disch := first | omega | decide) only [seval, -Int.reducePow, -Nat.reducePow, cC, pv, binv, sAlNil1, undef]
  intro b4 hb4
  refine hK _ _ ?_
  clear hK K
  refine cv_seq_k fun K hK => ?_
  refine cv_region_then rfl ?_
  simp -implicitDefEqProofs (disch := first | omega | decide) only [seval, -Int.reducePow, -Nat.reducePow, cC, pv, binv, sAlNil1, undef]
  refine callV_ret (fun w hw => zfind_any p n w (h.at hw)) ?_
  try simp -implicitDefEqProofs (disch := first | omega | decide) only [seval, -Int.reducePow, -Nat.reducePow, cC, pv, binv, sAlNil1, undef, hzz]
  intro b6 hb6 hf6
  refine hK _ _ ?_
  clear hK K
  refine cv_seq_k fun K hK => ?_
  refine cv_seq_k fun K hK => ?_
  refine cv_region_then rfl ?_
  simp -implicitDefEqProofs (disch := first | omega | decide) only [seval, -Int.reducePow, -Nat.reducePow, cC, pv, binv, sAlNil1, undef, hzd]
  refine hK _ _ ?_
  clear hK K
  refine cv_cond ?_
  simp -implicitDefEqProofs (disch := first | omega | decide) only [seval, -Int.reducePow, -Nat.reducePow, cC, pv, binv, sAlNil1, undef]
  refine cv_seq_k fun K hK => ?_
  refine cv_region_then rfl ?_
  simp -implicitDefEqProofs (disch := first | omega | decide) only [seval, -Int.reducePow, -Nat.reducePow, cC, pv, binv, sAlNil1, undef]
  refine hK _ _ ?_
  clear hK K
  refine cv_ret ?_
  simp -implicitDefEqProofs (disch := first | omega | decide) only [seval, -Int.reducePow, -Nat.reducePow, cC, pv, binv, sAlNil1, undef, retQ2, ressV, packV]
  intro w hw
  exact ⟨by rw [hzz], hw.below⟩
theorem zHas_any (p : Option Addr) (e : Ext) (W : World) (h : NZ W W.heap.size p) : Calls Try.prog 17 #[.pointer p, exV e] W
    fun en w' => en = .returned (.bool false) ∧ Below W.heap.size W w' := by
  refine calls_cv (M := []) (n := 26) [.tmp 4] rfl Try.func17 rfl rfl (Nat.le_of_ble_eq_true rfl) (St.nil _ _) ?_
  refine cv_seq_k fun K hK => ?_
  refine cv_region_then rfl ?_
  simp -implicitDefEqProofs (disch := first | omega | decide) only [seval, -Int.reducePow, -Nat.reducePow, cC, pv, binv, sAlNil1, undef]
  intro b3 hb3
  refine hK _ _ ?_
  clear hK K
  rcases h with rfl | ⟨b, rfl, hZ⟩
  · refine cv_seq_k fun K hK => ?_
    refine cv_seq_k fun K hK => ?_
    refine cv_region_then rfl ?_
    simp -implicitDefEqProofs (disch := first | omega | decide) only [seval, -Int.reducePow, -Nat.reducePow, cC, pv, binv, sAlNil1, undef]
    refine hK _ _ ?_
    clear hK K
    refine cv_cond ?_
    simp -implicitDefEqProofs (disch := first | omega | decide) only [seval, -Int.reducePow, -Nat.reducePow, cC, pv, binv, sAlNil1, undef]
    refine cv_seq_k fun K hK => ?_
    refine cv_region_then rfl ?_
    simp -implicitDefEqProofs (disch := first | omega | decide) only [seval, -Int.reducePow, -Nat.reducePow, cC, pv, binv, sAlNil1, undef]
    refine hK _ _ ?_
    clear hK K
    refine cv_ret ⟨_, (by simp -implicitDefEqProofs (disch := first | omega | decide) only [seval, -Int.reducePow, -Nat.reducePow, cC, pv, binv, sAlNil1, undef]; rfl), fun w hw => ?_⟩
    exact ⟨rfl, hw.below⟩
  · obtain ⟨b', o', e', hb, -⟩ := hZ.cells (by omega)
    cases e'
    refine cv_seq_k fun K hK => ?_
    refine cv_seq_k fun K hK => ?_
    refine cv_region_then rfl ?_
    simp -implicitDefEqProofs (disch := first | omega | decide) only [seval, -Int.reducePow, -Nat.reducePow, cC, pv, binv, sAlNil1, undef]
    refine hK _ _ ?_
    clear hK K
    refine cv_cond ?_
    simp -implicitDefEqProofs (disch := first | omega | decide) only [seval, -Int.reducePow, -Nat.reducePow, cC, pv, binv, sAlNil1, undef]
    refine cv_skip ?_
    try simp only [blockQ, thenQ]
    refine hK _ _ ?_
    clear hK K
    refine cv_seq_k fun K hK => ?_
    refine cv_draw [(true, 0), (true, 1), (true, 2), (true, 3), (true, 4), (true, 5), (false, 6), (true, 7), (true, 8), (true, 9), (true, 10), (true, 11)] [] mixA rfl (by kernel_rfl) (by kernel_rfl) rfl rfl ?_
    simp -implicitDefEqProofs (disch := first | omega | decide) only [seval, -Int.reducePow, -Nat.reducePow, cC, pv, binv, sAlNil1, undef]
    refine ⟨_, hZ.ld1 (m := 1) (i := 1) (by kernel_rfl) rfl, fun tok htok => ?_⟩
    subst htok
    simp -implicitDefEqProofs (disch := first | omega | decide) only [seval, -Int.reducePow, -Nat.reducePow, cC, pv, binv, sAlNil1, undef]
    refine xv_lookup0 (x := e.off) (by kernel_rfl) rfl rfl ?_
    simp -implicitDefEqProofs (disch := first | omega | decide) only [seval, -Int.reducePow, -Nat.reducePow, cC, pv, binv, sAlNil1, undef]
    refine hK _ _ ?_
    clear hK K
    refine cv_seq_k fun K hK => ?_
    refine cv_region_then rfl ?_
    simp -implicitDefEqProofs (disch := first | omega | decide) only [seval, -Int.reducePow, -Nat.reducePow, cC, pv, binv, sAlNil1, undef]
    refine hK _ _ ?_
    clear hK K
    refine cv_ret ⟨_, (by simp -implicitDefEqProofs (disch := first | omega | decide) only [seval, -Int.reducePow, -Nat.reducePow, cC, pv, binv, sAlNil1, undef]; rfl), fun w hw => ?_⟩
    exact ⟨rfl, hw.below⟩
theorem zFree_any (p : Option Addr) (e : Ext) (W : World) (h : NZ W W.heap.size p) : Calls Try.prog 16 #[.pointer p, exV e] W
    fun en w' => en = .returned (.int .i64 6) ∧ Below W.heap.size W w' := by
  refine calls_cv (M := []) (n := 27) [.tmp 4] rfl Try.func16 rfl rfl (Nat.le_of_ble_eq_true rfl) (St.nil _ _) ?_
  refine cv_seq_k fun K hK => ?_
  refine cv_region_then rfl ?_
  simp -implicitDefEqProofs (disch := first | omega | decide) only [seval, -Int.reducePow, -Nat.reducePow, cC, pv, binv, sAlNil1, undef]
  intro b3 hb3
  refine hK _ _ ?_
  clear hK K
  refine cv_seq_k fun K hK => ?_
  refine cv_seq_k fun K hK => ?_
  refine cv_region_then rfl ?_
  simp -implicitDefEqProofs (disch := first | omega | decide) only [seval, -Int.reducePow, -Nat.reducePow, cC, pv, binv, sAlNil1, undef]
  refine callV_ret (fun w hw => zHas_any p e w (h.at hw)) ?_
  try simp -implicitDefEqProofs (disch := first | omega | decide) only [seval, -Int.reducePow, -Nat.reducePow, cC, pv, binv, sAlNil1, undef]
  refine hK _ _ ?_
  clear hK K
  refine cv_cond ?_
  simp -implicitDefEqProofs (disch := first | omega | decide) only [seval, -Int.reducePow, -Nat.reducePow, cC, pv, binv, sAlNil1, undef]
  refine cv_seq_k fun K hK => ?_
  refine cv_region_then rfl ?_
  simp -implicitDefEqProofs (disch := first | omega | decide) only [seval, -Int.reducePow, -Nat.reducePow, cC, pv, binv, sAlNil1, undef]
  refine hK _ _ ?_
  clear hK K
  refine cv_ret ⟨_, (by simp -implicitDefEqProofs (disch := first | omega | decide) only [seval, -Int.reducePow, -Nat.reducePow, cC, pv, binv, sAlNil1, undef]; rfl), fun w hw => ?_⟩
  exact ⟨rfl, hw.below⟩
theorem zFreeList_any (p : Option Addr) (W : World) (h : NZ W W.heap.size p) : Calls Try.prog 18 #[.pointer p] W
    (rowPost 39 2 (fun v => v) (exCells []) W) := by
  refine calls_cv (M := []) (n := 10) [.tmp 2] rfl Try.func18 rfl rfl (Nat.le_of_ble_eq_true rfl) (St.nil _ _) ?_
  refine cv_seq_k fun K hK => ?_
  refine cv_region_then rfl ?_
  simp -implicitDefEqProofs (disch := first | omega | decide) only [seval, -Int.reducePow, -Nat.reducePow, cC, pv, binv, sAlNil1, undef]
  refine hK _ _ ?_
  clear hK K
  rcases h with rfl | ⟨b, rfl, hZ⟩
  · refine cv_seq_k fun K hK => ?_
    refine cv_seq_k fun K hK => ?_
    refine cv_region_then rfl ?_
    simp -implicitDefEqProofs (disch := first | omega | decide) only [seval, -Int.reducePow, -Nat.reducePow, cC, pv, binv, sAlNil1, undef]
    refine hK _ _ ?_
    clear hK K
    refine cv_cond ?_
    simp -implicitDefEqProofs (disch := first | omega | decide) only [seval, -Int.reducePow, -Nat.reducePow, cC, pv, binv, sAlNil1, undef]
    refine cv_seq_k fun K hK => ?_
    refine cv_region_then rfl ?_
    simp -implicitDefEqProofs (disch := first | omega | decide) only [seval, -Int.reducePow, -Nat.reducePow, cC, pv, binv, sAlNil1, undef]
    refine hK _ _ ?_
    clear hK K
    refine cv_ret ⟨_, (by simp -implicitDefEqProofs (disch := first | omega | decide) only [seval, -Int.reducePow, -Nat.reducePow, cC, pv, binv, sAlNil1, undef]; rfl), fun w hw => ?_⟩
    exact ⟨none, 0, 0, rfl, World.ownsRow_nil _ _ _ _, hw.below⟩
  · obtain ⟨b', o', e', hb, -⟩ := hZ.cells (by omega)
    cases e'
    refine cv_seq_k fun K hK => ?_
    refine cv_seq_k fun K hK => ?_
    refine cv_region_then rfl ?_
    simp -implicitDefEqProofs (disch := first | omega | decide) only [seval, -Int.reducePow, -Nat.reducePow, cC, pv, binv, sAlNil1, undef]
    refine hK _ _ ?_
    clear hK K
    refine cv_cond ?_
    simp -implicitDefEqProofs (disch := first | omega | decide) only [seval, -Int.reducePow, -Nat.reducePow, cC, pv, binv, sAlNil1, undef]
    refine cv_skip ?_
    try simp only [blockQ, thenQ]
    refine hK _ _ ?_
    clear hK K
    refine cv_seq_k fun K hK => ?_
    refine cv_region_then rfl ?_
    simp -implicitDefEqProofs (disch := first | omega | decide) only [seval, -Int.reducePow, -Nat.reducePow, cC, pv, binv, sAlNil1, undef]
    refine ⟨_, hZ.ld1 (m := 1) (i := 0) (by kernel_rfl) rfl, fun tok htok => ?_⟩
    subst htok
    simp -implicitDefEqProofs (disch := first | omega | decide) only [seval, -Int.reducePow, -Nat.reducePow, cC, pv, binv, sAlNil1, undef]
    refine callV_row (fun A n c => .slice A n c) (fun w hw => clone_ext none 0 0 [] w ⟨rfl, Nat.le_refl _, by omega, fun h => by omega⟩ (by omega)) ?_
    intro A n c hl hr
    simp -implicitDefEqProofs (disch := first | omega | decide) only [seval, -Int.reducePow, -Nat.reducePow, cC, pv, binv, sAlNil1, undef]
    refine hK _ _ ?_
    clear hK K
    refine cv_ret ⟨_, (by simp -implicitDefEqProofs (disch := first | omega | decide) only [seval, -Int.reducePow, -Nat.reducePow, cC, pv, binv, sAlNil1, undef]; rfl), fun w hw => ?_⟩
    exact ⟨_, _, _, rfl, hw.rowNew (by simp), hw.below⟩
end Go.Proofs.Ytejogdielfgeoaa
/- What Allocated of a nil or zero allocator runs over: nothing. -/
namespace Go.Proofs.Ytejogdielfgeoaa
open Go.RowKit Go.Shelf
set_option linter.unusedVariables false
set_option linter.unusedSimpArgs false
set_option maxRecDepth 100000
set_option maxRecDepth 100000 in
theorem sAlZL1 : type_of% (And.intro (And.intro @eBox.eq_1 (And.intro @exV.eq_1 @Nat.mul_one)) (And.intro (And.intro @wrap_in @cMp) (And.intro @cM @cF))) := (And.intro (And.intro @eBox.eq_1 (And.intro @exV.eq_1 @Nat.mul_one)) (And.intro (And.intro @wrap_in @cMp) (And.intro @cM @cF)))
set_option maxHeartbeats 2000000 in
theorem z_iter {W : World} (p : Option Addr) (bx : Nat) (h : NZ W W.heap.size p) :
    Iter Try.prog [] W 50 #[.pointer (some ⟨bx, 0, none⟩)] (fun e : Ext => #[exV e]) 0 (fun xs => xs = []) (fun _ => True) [.blk bx 24 [.pointer p]] := by
  intro l I Ix hdt hY R w hI hw
  obtain ⟨fR, pR, lR, rfl⟩ := hdt _ _ hI
  show Calls Try.prog 50 #[.func (.yield l) #[] #[], .pointer (some ⟨bx, 0, none⟩)] w _
  rcases h with rfl | ⟨b, rfl, hZ⟩
  · refine calls_cvf (n := 44) [] rfl Try.func50 rfl rfl (Nat.le_of_ble_eq_true rfl)  hw ?_
    refine cvf_seq_k fun K hK => ?_
    refine cvf_seq_k fun K hK => ?_
    refine cvf_region_then rfl rfl ?_
    simp -implicitDefEqProofs (disch := first | omega | decide) only [seval, -Int.reducePow, -Nat.reducePow, cC, pv, binv, sAlZL1, undef]
    refine hK _ _ _ ?_
    clear hK K
    refine cvf_cond ?_
    simp -implicitDefEqProofs (disch := first | omega | decide) only [seval, -Int.reducePow, -Nat.reducePow, cC, pv, binv, sAlZL1, undef]
    refine cvf_ret ?_
    simp only [retF, thenF, blockF]
    refine ⟨_, rfl, ?_⟩
    simp -implicitDefEqProofs (disch := first | omega | decide) only [seval, -Int.reducePow, -Nat.reducePow, cC, pv, binv, sAlZL1, undef, ressV, packV]
    intro w hw
    exact ⟨⟨_, rfl⟩, .inl ⟨_, _, rfl, hI, hw.pick (ix := [0, 1]) (by decide)⟩⟩
  · obtain ⟨b', o', e', hb, -⟩ := hZ.cells (by omega)
    cases e'
    refine calls_cvf (n := 44) [] rfl Try.func50 rfl rfl (Nat.le_of_ble_eq_true rfl)  hw ?_
    refine cvf_seq_k fun K hK => ?_
    refine cvf_seq_k fun K hK => ?_
    refine cvf_region_then rfl rfl ?_
    simp -implicitDefEqProofs (disch := first | omega | decide) only [seval, -Int.reducePow, -Nat.reducePow, cC, pv, binv, sAlZL1, undef]
    refine hK _ _ _ ?_
    clear hK K
    refine cvf_cond ?_
    simp -implicitDefEqProofs (disch := first | omega | decide) only [seval, -Int.reducePow, -Nat.reducePow, cC, pv, binv, sAlZL1, undef]
    refine cvf_skip ?_
    try simp only [blockF, thenF]
    refine hK _ _ _ ?_
    clear hK K
    refine cvf_seq_k fun K hK => ?_
    refine cvf_region_then rfl rfl ?_
    simp -implicitDefEqProofs (disch := first | omega | decide) only [seval, -Int.reducePow, -Nat.reducePow, cC, pv, binv, sAlZL1, undef]
    refine hK _ _ _ ?_
    clear hK K
    refine cvf_apart fun hap => ?_
    simp only [factL_nil, factL_blk, factL_row, neR_nil, neR_blk, neR_row, neB_nil, neB_blk, neB_row, and_true, true_and, List.not_mem_nil, or_false, sAlZL1, undef] at hap
    obtain hap := hap
    refine cvf_seq_k fun K hK => ?_
    refine cvf_seq_k fun K hK => ?_
    refine cvf_region_then rfl rfl ?_
    simp -implicitDefEqProofs (disch := first | omega | decide) only [seval, -Int.reducePow, -Nat.reducePow, cC, pv, binv, sAlZL1, undef]
    refine ⟨_, hZ.ld1 (m := 1) (i := 1) (by kernel_rfl) rfl, fun tok htok => ?_⟩
    subst htok
    simp -implicitDefEqProofs (disch := first | omega | decide) only [seval, -Int.reducePow, -Nat.reducePow, cC, pv, binv, sAlZL1, undef]
    refine callV_box (f := fun b => .func (.func 59) #[] #[.pointer (some ⟨b, 0, none⟩)]) (t := 40) (cs := [.map none]) (fun w hw => mkeys_any none w) ?_
    intro bk hbk hfk
    simp -implicitDefEqProofs (disch := first | omega | decide) only [seval, -Int.reducePow, -Nat.reducePow, cC, pv, binv, sAlZL1, undef]
    refine callV_row (fun A n c => .slice A n c) (fun w hw => (sortedKeys_nil bk w (by rw [hw.blk_cell (.head _)]; rfl) (hw.own _ (.head _) bk (by simp [Res.foot])).2).mono fun e w' ⟨A, n, c, q1, q2, q3⟩ => ⟨A, n, c, q1, q2, q3⟩) ?_
    intro A2 n2 c2 hl2 hr2
    have hn2 : 0 = n2 := by
      simp at hl2
      omega
    subst hn2
    simp -implicitDefEqProofs (disch := first | omega | decide) only [seval, -Int.reducePow, -Nat.reducePow, cC, pv, binv, sAlZL1, undef]
    refine hK _ _ _ ?_
    clear hK K
    refine cvf_gen fun G1 hG => ?_
    have g1_0 := congrFun hG 0
    have g1_1 := congrFun hG 1
    have g1_3 := congrFun hG 3
    have g1_15 := congrFun hG 15
    have g1_16 := congrFun hG 16
    have g1_17 := congrFun hG 17
    clear hG
    try simp -implicitDefEqProofs (disch := first | omega | decide) only [seval, -Int.reducePow, -Nat.reducePow, cC, pv, binv, sAlZL1, undef] at g1_0 g1_1 g1_3 g1_15 g1_16 g1_17
    have g1 := And.intro g1_0 (And.intro g1_1 (And.intro g1_3 (And.intro g1_15 (And.intro g1_16 g1_17))))
    clear hap
    refine cvf_pick [2, 3] (by decide) ?_
    simp only [pickL, nth]
    refine cvf_block ?_
    refine cvf_loop (fun F' L' => ∃ (i : Nat), F' 0 = G1 0 ∧ F' 1 = G1 1 ∧ F' 3 = G1 3 ∧ F' 15 = G1 15 ∧ F' 16 = G1 16 ∧ F' 17 = .int .i64 (i : Int) ∧ L' = [.blk bx 24 [.pointer (some ⟨b, 0, none⟩)], .dat fR pR lR]) (fun F' L' => 400 - (intOf (F' 17)).toNat) ?_ ?_
    · refine ⟨0, ?_⟩
      simp -implicitDefEqProofs (disch := first | omega | decide) only [seval, -Int.reducePow, -Nat.reducePow, cC, pv, binv, sAlZL1, undef, g1]
    intro G2 L' hI
    obtain ⟨i, q0, q1, q3, q15, q16, q17, rfl⟩ := hI
    have g2_0 := q0.trans g1_0
    have g2_1 := q1.trans g1_1
    have g2_3 := q3.trans g1_3
    have g2_15 := q15.trans g1_15
    have g2_16 := q16.trans g1_16
    have g2_17 := q17
    clear q0 q1 q3 q15 q16 q17
    have g2 := And.intro g2_0 (And.intro g2_1 (And.intro g2_3 (And.intro g2_15 (And.intro g2_16 g2_17))))
    refine cvf_seq_k fun K hK => ?_
    refine cvf_region_then rfl rfl ?_
    simp -implicitDefEqProofs (disch := first | omega | decide) only [seval, -Int.reducePow, -Nat.reducePow, cC, pv, binv, sAlZL1, undef, g1, g2]
    refine hK _ _ _ ?_
    clear hK K
    refine cvf_seq_k fun K hK => ?_
    refine cvf_cond ?_
    simp -implicitDefEqProofs (disch := first | omega | decide) only [seval, -Int.reducePow, -Nat.reducePow, cC, pv, binv, sAlZL1, undef, g1, g2]
    refine ⟨fun hc => ?_, fun hc => ?_⟩
    · exfalso
      have := of_decide_eq_true ‹decide ((i : Int) < ((0 : Nat) : Int)) = true›
      omega
    refine cvf_exit ?_
    simp only [blockF, thenF, if_true, ite_true]
    clear hK K
    refine hK _ _ _ ?_
    clear hK K
    refine cvf_seq_k fun K hK => ?_
    refine cvf_region_then rfl rfl ?_
    simp -implicitDefEqProofs (disch := first | omega | decide) only [seval, -Int.reducePow, -Nat.reducePow, cC, pv, binv, sAlZL1, undef, g1, g2]
    refine hK _ _ _ ?_
    clear hK K
    refine cvf_gen fun G3 hG => ?_
    have g3_0 := congrFun hG 0
    have g3_33 := congrFun hG 33
    have g3_34 := congrFun hG 34
    have g3_35 := congrFun hG 35
    clear hG
    try simp -implicitDefEqProofs (disch := first | omega | decide) only [seval, -Int.reducePow, -Nat.reducePow, cC, pv, binv, sAlZL1, undef, g1, g2] at g3_0 g3_33 g3_34 g3_35
    have g3 := And.intro g3_0 (And.intro g3_33 (And.intro g3_34 g3_35))
    refine cvf_block ?_
    refine cvf_loop (fun F' L' => ∃ (j : Nat), F' 0 = G3 0 ∧ F' 33 = G3 33 ∧ F' 34 = G3 34 ∧ F' 35 = .int .i64 (j : Int) ∧ L' = [.blk bx 24 [.pointer (some ⟨b, 0, none⟩)], .dat fR pR lR]) (fun F' L' => 400 - (intOf (F' 35)).toNat) ?_ ?_
    · refine ⟨0, ?_⟩
      simp -implicitDefEqProofs (disch := first | omega | decide) only [seval, -Int.reducePow, -Nat.reducePow, cC, pv, binv, sAlZL1, undef, g1, g2, g3]
    intro G4 L' hI
    obtain ⟨j, q0, q33, q34, q35, rfl⟩ := hI
    have g4_0 := q0.trans g3_0
    have g4_33 := q33.trans g3_33
    have g4_34 := q34.trans g3_34
    have g4_35 := q35
    clear q0 q33 q34 q35
    have g4 := And.intro g4_0 (And.intro g4_33 (And.intro g4_34 g4_35))
    refine cvf_seq_k fun K hK => ?_
    refine cvf_region_then rfl rfl ?_
    simp -implicitDefEqProofs (disch := first | omega | decide) only [seval, -Int.reducePow, -Nat.reducePow, cC, pv, binv, sAlZL1, undef, g1, g2, g3, g4]
    refine hK _ _ _ ?_
    clear hK K
    refine cvf_seq_k fun K hK => ?_
    refine cvf_cond ?_
    simp -implicitDefEqProofs (disch := first | omega | decide) only [seval, -Int.reducePow, -Nat.reducePow, cC, pv, binv, sAlZL1, undef, g1, g2, g3, g4]
    refine ⟨fun hc => ?_, fun hc => ?_⟩
    · exfalso
      have := of_decide_eq_true ‹decide ((j : Int) < ((0 : Nat) : Int)) = true›
      omega
    refine cvf_exit ?_
    simp only [blockF, thenF, if_true, ite_true]
    simp only [retF, thenF, blockF]
    refine ⟨_, rfl, ?_⟩
    simp -implicitDefEqProofs (disch := first | omega | decide) only [seval, -Int.reducePow, -Nat.reducePow, cC, pv, binv, sAlZL1, undef, ressV, packV, g1, g2, g3, g4]
    intro w hw
    exact ⟨⟨_, rfl⟩, .inl ⟨_, _, rfl, hI, hw.pick (ix := [0, 1]) (by decide)⟩⟩
set_option maxHeartbeats 2000000 in
theorem zallocated_call {M : List Nat} {W : World} {L : List Res} (p : Option Addr) {K : Bool → Value → List Res → Prop} (hK : ∀ bx, W.heap.size ≤ bx → K true (.func (.func 50) #[] #[.pointer (some ⟨bx, 0, none⟩)]) (.blk bx 24 [.pointer p] :: L)) :
    CallV Try.prog M W 38 #[.pointer p] L K := by
  have hKK := hK
  clear hK
  intro w hw
  refine calls_cvf (n := 4) [.tmp 2] rfl Try.func38 rfl rfl (Nat.le_of_ble_eq_true rfl)  hw ?_
  refine cvf_seq_k fun K hK => ?_
  refine cvf_region_then rfl rfl ?_
  simp -implicitDefEqProofs (disch := first | omega | decide) only [seval, -Int.reducePow, -Nat.reducePow, cC, pv, binv, sAlZL1, undef]
  intro bx hbx hfx
  refine hK _ _ _ ?_
  clear hK K
  refine cvf_seq_k fun K hK => ?_
  refine cvf_region_then rfl rfl ?_
  simp -implicitDefEqProofs (disch := first | omega | decide) only [seval, -Int.reducePow, -Nat.reducePow, cC, pv, binv, sAlZL1, undef]
  refine xv_func ?_
  simp -implicitDefEqProofs (disch := first | omega | decide) only [seval, -Int.reducePow, -Nat.reducePow, cC, pv, binv, sAlZL1, undef]
  refine hK _ _ _ ?_
  clear hK K
  refine cvf_ret ?_
  simp only [retF, thenF, blockF]
  refine ⟨_, rfl, ?_⟩
  simp -implicitDefEqProofs (disch := first | omega | decide) only [seval, -Int.reducePow, -Nat.reducePow, cC, pv, binv, sAlZL1, undef, ressV, packV]
  intro w hw
  exact ⟨_, _, rfl, hw, hKK _ hbx⟩
set_option maxHeartbeats 2000000 in
theorem zListed_any {W : World} (p : Option Addr) (h : NZ W W.heap.size p) :
    Calls Try.prog 19 #[.pointer p] W (rowPost 39 2 (fun v => v) (exCells []) W) := by
  have hw : St [] W [] W := St.nil [] W
  refine calls_cvf (n := 13) [.tmp 2] rfl Try.func19 rfl rfl (Nat.le_of_ble_eq_true rfl)  hw ?_
  refine cvf_seq_k fun K hK => ?_
  refine cvf_region_then rfl rfl ?_
  simp -implicitDefEqProofs (disch := first | omega | decide) only [seval, -Int.reducePow, -Nat.reducePow, cC, pv, binv, sAlZL1, undef]
  refine hK _ _ _ ?_
  clear hK K
  refine cvf_seq_k fun K hK => ?_
  refine cvf_region_then rfl rfl ?_
  simp -implicitDefEqProofs (disch := first | omega | decide) only [seval, -Int.reducePow, -Nat.reducePow, cC, pv, binv, sAlZL1, undef]
  intro b3 hb3
  refine hK _ _ _ ?_
  clear hK K
  refine cvf_seq_k fun K hK => ?_
  refine cvf_seq_k fun K hK => ?_
  refine cvf_region_then rfl rfl ?_
  simp -implicitDefEqProofs (disch := first | omega | decide) only [seval, -Int.reducePow, -Nat.reducePow, cC, pv, binv, sAlZL1, undef]
  refine zallocated_call p ?_
  intro bx hbx
  simp -implicitDefEqProofs (disch := first | omega | decide) only [seval, -Int.reducePow, -Nat.reducePow, cC, pv, binv, sAlZL1, undef]
  refine hK _ _ _ ?_
  clear hK K
  refine cvf_nil 39 2 ?_
  refine cvf_pick [1, 2, 0] (by decide) ?_
  simp only [pickL, nth]
  refine cvf_block ?_
  refine cvf_range (α := Ext) (gf := 50) (lb := #[.pointer (some ⟨bx, 0, none⟩)]) (encs := fun e => #[exV e]) (N := 0) (S := fun xs => xs = []) (Sp := fun _ => True) (A := [.blk bx 24 [.pointer p]]) [.blk b3 29 [.slice none 0 0], .row (.slice none 0 0) 39 2 0 []] ?g ?gb ?it ?ps ?pn ?L
    (fun pre B => ∃ (A : Option Addr) (n c : Nat), B = [.blk b3 29 [.slice A n c], .row (.slice A n c) 39 2 n (exCells pre)]) (fun _ _ _ => False) ?h0 ?body ?done ?stop
  case g => simp -implicitDefEqProofs (disch := first | omega | decide) only [seval, -Int.reducePow, -Nat.reducePow, cC, pv, binv, sAlZL1, undef]
  case gb => kernel_rfl
  case it => exact z_iter p bx h
  case ps => exact fun _ => rfl
  case pn => rfl
  case L => rfl
  case h0 => exact ⟨_, _, _, rfl⟩
  case stop => exact fun _ _ _ _ _ h => h.elim
  case body =>
    rintro l pre e R B' hpre
    exact absurd hpre (by omega)
  case done =>
    rintro d xs B' rfl ⟨A, n, c, rfl⟩
    simp only [List.cons_append, List.nil_append]
    simp -implicitDefEqProofs (disch := first | omega | decide) only [seval, -Int.reducePow, -Nat.reducePow, cC, pv, binv, sAlZL1, undef]
    refine hK _ _ _ ?_
    clear hK K
    refine cvf_pick [0, 2, 3] (by decide) ?_
    simp only [pickL, nth]
    refine cvf_seq_k fun K hK => ?_
    refine cvf_region_then rfl rfl ?_
    simp -implicitDefEqProofs (disch := first | omega | decide) only [seval, -Int.reducePow, -Nat.reducePow, cC, pv, binv, sAlZL1, undef]
    refine hK _ _ _ ?_
    clear hK K
    refine cvf_ret ?_
    simp only [retF, thenF, blockF]
    refine ⟨_, rfl, ?_⟩
    simp -implicitDefEqProofs (disch := first | omega | decide) only [seval, -Int.reducePow, -Nat.reducePow, cC, pv, binv, sAlZL1, undef, ressV, packV]
    intro w hw
    exact ⟨A, n, c, rfl, ownsRow_new (hw.holds _ (.tail _ (.head _))) (hw.own _ (.tail _ (.head _))), hw.below⟩
end Go.Proofs.Ytejogdielfgeoaa
/- The law AllocatorNew, walked. -/
namespace Go.Proofs.Ytejogdielfgeoaa
open Go.RowKit Go.Shelf
set_option linter.unusedVariables false
set_option linter.unusedSimpArgs false
set_option maxRecDepth 100000
structure NwI (s : Int) (p : Option Addr) (f : Int) : Prop where
  is : ((0 ≤ s ∧ s ≤ 1048576) ∧ f = 0 ∧ ∃ b, p = some ⟨b, 0, none⟩) ∨ (¬ (0 ≤ s ∧ s ≤ 1048576) ∧ f = 1 ∧ p = none)
structure NwJ (r : Int) (p : Option Addr) (f : Int) : Prop where
  is : (r = 0 ∧ f = 0 ∧ ∃ b, p = some ⟨b, 0, none⟩) ∨ (r = 1 ∧ f = 0 ∧ ∃ b, p = some ⟨b, 0, none⟩) ∨ (r = 2 ∧ f = 1 ∧ p = none)
theorem bft : (false == true) = false := rfl
theorem btf : (true == false) = false := rfl
def okS (s : Int) : Bool := decide (0 ≤ s ∧ s ≤ 1048576)
theorem findF_nil (k : Int) : (Ex.findF [] k).2 = zerr k := by
  unfold Ex.findF zerr
  split
  · rw [if_pos (by rfl)]
  · rfl
set_option maxRecDepth 100000 in
theorem sAlLNew1 : type_of% (And.intro (And.intro @eBox.eq_1 (And.intro @exV.eq_1 @alL.eq_1)) (And.intro (And.intro @Nat.mul_one @wrap_in) (And.intro @cMp @cM))) := (And.intro (And.intro @eBox.eq_1 (And.intro @exV.eq_1 @alL.eq_1)) (And.intro (And.intro @Nat.mul_one @wrap_in) (And.intro @cMp @cM)))
set_option maxHeartbeats 4000000 in
theorem alNew_walk (W : World) (s : Int) (hs : -9223372036854775808 ≤ s ∧ s ≤ 9223372036854775807) (a : Int) (ha : 0 ≤ a ∧ a ≤ 255) (k : Int) (hk : -9223372036854775808 ≤ k ∧ k ≤ 9223372036854775807) (e : Ext) (h1 : -9223372036854775808 ≤ e.off ∧ e.off ≤ 9223372036854775807) (h2 : -9223372036854775808 ≤ e.len ∧ e.len ≤ 9223372036854775807) :
    Calls Try.prog 4 #[.int .i64 s, .int .u8 a, .int .i64 k, exV e] W fun e w' => e = .returned (.bool true) ∧ Below W.heap.size W w' := by
  have hI0 := Ex.inv_new (N := 0) (by omega) (by omega)
  have hc0 : (Ex.compF [] (0 : Int)).1 = [] := by decide
  rw [hc0] at hI0
  obtain ⟨z, hzz⟩ : ∃ z, zerr k = z := ⟨_, rfl⟩
  obtain ⟨r, hr⟩ : ∃ r : Int, a % 3 = r := ⟨_, rfl⟩
  have hr3 : r = 0 ∨ r = 1 ∨ r = 2 := by omega
  refine calls_cv (M := []) (n := 132) [.tmp 8] rfl Try.func4 rfl rfl (Nat.le_of_ble_eq_true rfl) (St.nil _ _) ?_
  refine cv_seq_k fun K hK => ?_
  refine cv_region_then rfl ?_
  simp -implicitDefEqProofs (disch := first | omega | decide) only [seval, -Int.reducePow, -Nat.reducePow, cC, pv, binv, sAlLNew1, undef]
  intro b5 hb5
  refine hK _ _ ?_
  clear hK K
  refine cv_gen fun G1 hG => ?_
  have g1_0 := congrFun hG 0
  have g1_1 := congrFun hG 1
  have g1_2 := congrFun hG 2
  have g1_7 := congrFun hG 7
  clear hG
  try simp -implicitDefEqProofs (disch := first | omega | decide) only [seval, -Int.reducePow, -Nat.reducePow, cC, pv, binv, sAlLNew1, undef] at g1_0 g1_1 g1_2 g1_7
  have g1 := And.intro g1_0 (And.intro g1_1 (And.intro g1_2 g1_7))
  refine cv_seq_k fun K hK => ?_
  refine cv_cut (fun _ _ => True) (fun F' L' => ∃ (p : Option Addr) (f : Int), F' 0 = G1 0 ∧ F' 1 = G1 1 ∧ F' 2 = G1 2 ∧ F' 7 = G1 7 ∧ F' 9 = .pointer p ∧ F' 10 = .int .i64 f ∧ L' = [eBox b5 e] ∧ NwI s p f) ?_ ?_
  · by_cases hsz : 0 ≤ s ∧ s ≤ 1048576
    · obtain ⟨m, rfl⟩ : ∃ m : Nat, s = (m : Int) := ⟨s.toNat, by omega⟩
      refine cv_pick_post [3] (by decide) ?_
      refine cv_region_q rfl ?_
      simp -implicitDefEqProofs (disch := first | omega | decide) only [seval, -Int.reducePow, -Nat.reducePow, cC, pv, binv, sAlLNew1, undef, g1]
      refine callV_grp [] [0] (by decide) (fun x : AlR => .tuple #[.pointer (some ⟨x.bA, 0, none⟩), .int .i64 0]) (fun x => alL x) (fun x => True) (fun w hw hs => (aNew_ok m w (by omega)).mono fun e w' ⟨x, p1, p2, p3⟩ => ⟨x, p1, trivial, p3⟩) ?_
      intro x _
      simp only [pickL, nth]
      simp -implicitDefEqProofs (disch := first | omega | decide) only [seval, -Int.reducePow, -Nat.reducePow, cC, pv, binv, sAlLNew1, undef, g1]
      refine ⟨some ⟨x.bA, 0, none⟩, 0, ?_⟩
      simp -implicitDefEqProofs (disch := first | omega | decide) only [seval, -Int.reducePow, -Nat.reducePow, cC, pv, binv, sAlLNew1, undef, g1]
      exact ⟨.inl ⟨hsz, rfl, _, rfl⟩⟩
    · refine cv_region_then rfl ?_
      simp -implicitDefEqProofs (disch := first | omega | decide) only [seval, -Int.reducePow, -Nat.reducePow, cC, pv, binv, sAlLNew1, undef, g1]
      refine callV_ret (fun w hw => aNew_no s w (by omega)) ?_
      try simp -implicitDefEqProofs (disch := first | omega | decide) only [seval, -Int.reducePow, -Nat.reducePow, cC, pv, binv, sAlLNew1, undef, g1]
      refine ⟨none, 1, ?_⟩
      simp -implicitDefEqProofs (disch := first | omega | decide) only [seval, -Int.reducePow, -Nat.reducePow, cC, pv, binv, sAlLNew1, undef, g1]
      exact ⟨.inr ⟨hsz, rfl, rfl⟩⟩
  intro G2 L' _ hF
  obtain ⟨p, f, q0, q1, q2, q7, q9, q10, rfl, ⟨hpf⟩⟩ := hF
  have g2_0 := q0.trans g1_0
  have g2_1 := q1.trans g1_1
  have g2_2 := q2.trans g1_2
  have g2_7 := q7.trans g1_7
  have g2_9 := q9
  have g2_10 := q10
  clear q0 q1 q2 q7 q9 q10
  have g2 := And.intro g2_0 (And.intro g2_1 (And.intro g2_2 (And.intro g2_7 (And.intro g2_9 g2_10))))
  refine hK _ _ ?_
  clear hK K
  refine cv_seq_k fun K hK => ?_
  refine cv_cut (fun _ _ => True) (fun F' L' => ∃ (p2 : Option Addr) (f2 : Int), F' 0 = G2 0 ∧ F' 1 = G2 1 ∧ F' 2 = G2 2 ∧ F' 7 = G2 7 ∧ F' 9 = G2 9 ∧ F' 10 = G2 10 ∧ F' 11 = .pointer p2 ∧ F' 12 = .int .i64 f2 ∧ L' = [eBox b5 e] ∧ NwJ r p2 f2) ?_ ?_
  · rcases hr3 with rfl | rfl | rfl
    · refine cv_pick_post [3] (by decide) ?_
      refine cv_region_q rfl ?_
      simp -implicitDefEqProofs (disch := first | omega | decide) only [seval, -Int.reducePow, -Nat.reducePow, cC, pv, binv, sAlLNew1, undef, hr, g2]
      refine callV_grp [] [0] (by decide) (fun x : AlR => .tuple #[.pointer (some ⟨x.bA, 0, none⟩), .int .i64 0]) (fun x => alL x) (fun x => True) (fun w hw hs => (aNew_ok 1048575 w (by omega)).mono fun e w' ⟨x, p1, p2, p3⟩ => ⟨x, p1, trivial, p3⟩) ?_
      intro x _
      simp only [pickL, nth]
      simp -implicitDefEqProofs (disch := first | omega | decide) only [seval, -Int.reducePow, -Nat.reducePow, cC, pv, binv, sAlLNew1, undef, g2]
      refine ⟨some ⟨x.bA, 0, none⟩, 0, ?_⟩
      simp -implicitDefEqProofs (disch := first | omega | decide) only [seval, -Int.reducePow, -Nat.reducePow, cC, pv, binv, sAlLNew1, undef, g2]
      exact ⟨.inl ⟨rfl, rfl, _, rfl⟩⟩
    · refine cv_pick_post [3] (by decide) ?_
      refine cv_region_q rfl ?_
      simp -implicitDefEqProofs (disch := first | omega | decide) only [seval, -Int.reducePow, -Nat.reducePow, cC, pv, binv, sAlLNew1, undef, hr, g2]
      refine callV_grp [] [0] (by decide) (fun x : AlR => .tuple #[.pointer (some ⟨x.bA, 0, none⟩), .int .i64 0]) (fun x => alL x) (fun x => True) (fun w hw hs => (aNew_ok 1048576 w (by omega)).mono fun e w' ⟨x, p1, p2, p3⟩ => ⟨x, p1, trivial, p3⟩) ?_
      intro x _
      simp only [pickL, nth]
      simp -implicitDefEqProofs (disch := first | omega | decide) only [seval, -Int.reducePow, -Nat.reducePow, cC, pv, binv, sAlLNew1, undef, g2]
      refine ⟨some ⟨x.bA, 0, none⟩, 0, ?_⟩
      simp -implicitDefEqProofs (disch := first | omega | decide) only [seval, -Int.reducePow, -Nat.reducePow, cC, pv, binv, sAlLNew1, undef, g2]
      exact ⟨.inr (.inl ⟨rfl, rfl, _, rfl⟩)⟩
    · refine cv_region_then rfl ?_
      simp -implicitDefEqProofs (disch := first | omega | decide) only [seval, -Int.reducePow, -Nat.reducePow, cC, pv, binv, sAlLNew1, undef, hr, g2]
      refine callV_ret (fun w hw => aNew_no 1048577 w (by omega)) ?_
      try simp -implicitDefEqProofs (disch := first | omega | decide) only [seval, -Int.reducePow, -Nat.reducePow, cC, pv, binv, sAlLNew1, undef, g2]
      refine ⟨none, 1, ?_⟩
      simp -implicitDefEqProofs (disch := first | omega | decide) only [seval, -Int.reducePow, -Nat.reducePow, cC, pv, binv, sAlLNew1, undef, g2]
      exact ⟨.inr (.inr ⟨rfl, rfl, rfl⟩)⟩
  intro G3 L' _ hF
  obtain ⟨p2, f2, q0, q1, q2, q7, q9, q10, q11, q12, rfl, ⟨hpf2⟩⟩ := hF
  have g3_0 := q0.trans g2_0
  have g3_1 := q1.trans g2_1
  have g3_2 := q2.trans g2_2
  have g3_7 := q7.trans g2_7
  have g3_9 := q9.trans g2_9
  have g3_10 := q10.trans g2_10
  have g3_11 := q11
  have g3_12 := q12
  clear q0 q1 q2 q7 q9 q10 q11 q12
  have g3 := And.intro g3_0 (And.intro g3_1 (And.intro g3_2 (And.intro g3_7 (And.intro g3_9 (And.intro g3_10 (And.intro g3_11 g3_12))))))
  refine hK _ _ ?_
  clear hK K
  refine cv_seq_k fun K hK => ?_
  refine cv_cut (fun _ _ => True) (fun F' L' => F' 1 = G3 1 ∧ F' 2 = G3 2 ∧ F' 7 = G3 7 ∧ F' 9 = G3 9 ∧ F' 10 = G3 10 ∧ F' 11 = G3 11 ∧ F' 12 = G3 12 ∧ F' 13 = .bool (okS s) ∧ L' = [eBox b5 e]) ?_ ?_
  · by_cases h0 : 0 ≤ s
    · have a1 : decide ((0 : Int) ≤ s) = true := decide_eq_true h0
      refine cv_region_then rfl ?_
      simp -implicitDefEqProofs (disch := first | omega | decide) only [seval, -Int.reducePow, -Nat.reducePow, cC, pv, binv, sAlLNew1, undef, a1, g3]
      unfold okS
      exact congrArg Value.bool (decide_eq_decide.2 ⟨fun h => ⟨h0, h⟩, fun h => h.2⟩)
    · have a1 : decide ((0 : Int) ≤ s) = false := decide_eq_false h0
      refine cv_region_then rfl ?_
      simp -implicitDefEqProofs (disch := first | omega | decide) only [seval, -Int.reducePow, -Nat.reducePow, cC, pv, binv, sAlLNew1, undef, a1, g3]
      unfold okS
      exact congrArg Value.bool (decide_eq_false fun h => h0 h.1).symm
  intro G4 L' _ hF
  obtain ⟨q1, q2, q7, q9, q10, q11, q12, q13, rfl⟩ := hF
  have g4_1 := q1.trans g3_1
  have g4_2 := q2.trans g3_2
  have g4_7 := q7.trans g3_7
  have g4_9 := q9.trans g3_9
  have g4_10 := q10.trans g3_10
  have g4_11 := q11.trans g3_11
  have g4_12 := q12.trans g3_12
  have g4_13 := q13
  clear q1 q2 q7 q9 q10 q11 q12 q13
  have g4 := And.intro g4_1 (And.intro g4_2 (And.intro g4_7 (And.intro g4_9 (And.intro g4_10 (And.intro g4_11 (And.intro g4_12 g4_13))))))
  refine hK _ _ ?_
  clear hK K
  refine cv_seq_k fun K hK => ?_
  refine cv_cut (fun _ _ => True) (fun F' L' => F' 2 = G4 2 ∧ F' 7 = G4 7 ∧ L' = [eBox b5 e]) ?_ ?_
  · refine cv_seq_k fun K hK => ?_
    refine cv_region_then rfl ?_
    rcases hpf with ⟨hsz, rfl, b, rfl⟩ | ⟨hsz, rfl, rfl⟩
    · rw [show okS s = true from decide_eq_true hsz] at *
      rcases hpf2 with ⟨rfl, rfl, b2, rfl⟩ | ⟨rfl, rfl, b2, rfl⟩ | ⟨rfl, rfl, rfl⟩
      · simp -implicitDefEqProofs (disch := first | omega | decide) only [seval, -Int.reducePow, -Nat.reducePow, cC, pv, binv, sAlLNew1, undef, bft, btf, hr, g4]
        refine hK _ _ ?_
        clear hK K
        refine cv_cond ?_
        simp -implicitDefEqProofs (disch := first | omega | decide) only [seval, -Int.reducePow, -Nat.reducePow, cC, pv, binv, sAlLNew1, undef, g4]
        refine cv_skip ?_
        try simp only [blockQ, thenQ]
        simp -implicitDefEqProofs (disch := first | omega | decide) only [seval, -Int.reducePow, -Nat.reducePow, cC, pv, binv, sAlLNew1, undef, g4]
      · simp -implicitDefEqProofs (disch := first | omega | decide) only [seval, -Int.reducePow, -Nat.reducePow, cC, pv, binv, sAlLNew1, undef, bft, btf, hr, g4]
        refine hK _ _ ?_
        clear hK K
        refine cv_cond ?_
        simp -implicitDefEqProofs (disch := first | omega | decide) only [seval, -Int.reducePow, -Nat.reducePow, cC, pv, binv, sAlLNew1, undef, g4]
        refine cv_skip ?_
        try simp only [blockQ, thenQ]
        simp -implicitDefEqProofs (disch := first | omega | decide) only [seval, -Int.reducePow, -Nat.reducePow, cC, pv, binv, sAlLNew1, undef, g4]
      · simp -implicitDefEqProofs (disch := first | omega | decide) only [seval, -Int.reducePow, -Nat.reducePow, cC, pv, binv, sAlLNew1, undef, bft, btf, hr, g4]
        refine hK _ _ ?_
        clear hK K
        refine cv_cond ?_
        simp -implicitDefEqProofs (disch := first | omega | decide) only [seval, -Int.reducePow, -Nat.reducePow, cC, pv, binv, sAlLNew1, undef, g4]
        refine cv_skip ?_
        try simp only [blockQ, thenQ]
        simp -implicitDefEqProofs (disch := first | omega | decide) only [seval, -Int.reducePow, -Nat.reducePow, cC, pv, binv, sAlLNew1, undef, g4]
    · rw [show okS s = false from decide_eq_false hsz] at *
      rcases hpf2 with ⟨rfl, rfl, b2, rfl⟩ | ⟨rfl, rfl, b2, rfl⟩ | ⟨rfl, rfl, rfl⟩
      · simp -implicitDefEqProofs (disch := first | omega | decide) only [seval, -Int.reducePow, -Nat.reducePow, cC, pv, binv, sAlLNew1, undef, bft, btf, hr, g4]
        refine hK _ _ ?_
        clear hK K
        refine cv_cond ?_
        simp -implicitDefEqProofs (disch := first | omega | decide) only [seval, -Int.reducePow, -Nat.reducePow, cC, pv, binv, sAlLNew1, undef, g4]
        refine cv_skip ?_
        try simp only [blockQ, thenQ]
        simp -implicitDefEqProofs (disch := first | omega | decide) only [seval, -Int.reducePow, -Nat.reducePow, cC, pv, binv, sAlLNew1, undef, g4]
      · simp -implicitDefEqProofs (disch := first | omega | decide) only [seval, -Int.reducePow, -Nat.reducePow, cC, pv, binv, sAlLNew1, undef, bft, btf, hr, g4]
        refine hK _ _ ?_
        clear hK K
        refine cv_cond ?_
        simp -implicitDefEqProofs (disch := first | omega | decide) only [seval, -Int.reducePow, -Nat.reducePow, cC, pv, binv, sAlLNew1, undef, g4]
        refine cv_skip ?_
        try simp only [blockQ, thenQ]
        simp -implicitDefEqProofs (disch := first | omega | decide) only [seval, -Int.reducePow, -Nat.reducePow, cC, pv, binv, sAlLNew1, undef, g4]
      · simp -implicitDefEqProofs (disch := first | omega | decide) only [seval, -Int.reducePow, -Nat.reducePow, cC, pv, binv, sAlLNew1, undef, bft, btf, hr, g4]
        refine hK _ _ ?_
        clear hK K
        refine cv_cond ?_
        simp -implicitDefEqProofs (disch := first | omega | decide) only [seval, -Int.reducePow, -Nat.reducePow, cC, pv, binv, sAlLNew1, undef, g4]
        refine cv_skip ?_
        try simp only [blockQ, thenQ]
        simp -implicitDefEqProofs (disch := first | omega | decide) only [seval, -Int.reducePow, -Nat.reducePow, cC, pv, binv, sAlLNew1, undef, g4]
  intro G5 L' _ hF
  obtain ⟨q2, q7, rfl⟩ := hF
  have g5_2 := q2.trans g4_2
  have g5_7 := q7.trans g4_7
  clear q2 q7
  have g5 := And.intro g5_2 g5_7
  refine hK _ _ ?_
  clear hK K
  refine cv_seq_k fun K hK => ?_
  refine cv_region_then rfl ?_
  simp -implicitDefEqProofs (disch := first | omega | decide) only [seval, -Int.reducePow, -Nat.reducePow, cC, pv, binv, sAlLNew1, undef, g5]
  refine hK _ _ ?_
  clear hK K
  refine cv_seq_k fun K hK => ?_
  refine cv_seq_k fun K hK => ?_
  refine cv_region_then rfl ?_
  simp -implicitDefEqProofs (disch := first | omega | decide) only [seval, -Int.reducePow, -Nat.reducePow, cC, pv, binv, sAlLNew1, undef, g5]
  intro b50 hb50 hf50 bS hbS hfS
  refine hK _ _ ?_
  clear hK K
  refine cv_gen fun G6 hG => ?_
  have g6_2 := congrFun hG 2
  have g6_7 := congrFun hG 7
  have g6_76 := congrFun hG 76
  have g6_77 := congrFun hG 77
  have g6_78 := congrFun hG 78
  clear hG
  try simp -implicitDefEqProofs (disch := first | omega | decide) only [seval, -Int.reducePow, -Nat.reducePow, cC, pv, binv, sAlLNew1, undef, g5] at g6_2 g6_7 g6_76 g6_77 g6_78
  have g6 := And.intro g6_2 (And.intro g6_7 (And.intro g6_76 (And.intro g6_77 g6_78)))
  refine cv_block ?_
  refine cv_loop (fun F' L' => ∃ (i : Nat), F' 2 = G6 2 ∧ F' 7 = G6 7 ∧ F' 76 = G6 76 ∧ F' 77 = G6 77 ∧ F' 78 = .int .i64 (i : Int) ∧ L' = [.blk bS 24 [.pointer none, .pointer (some ⟨b50, 0, none⟩)], .blk b50 42 [.slice none 0 0, .map none], eBox b5 e] ∧ i ≤ 2) (fun F' L' => 4 - (intOf (F' 78)).toNat) ?_ ?_
  · refine ⟨0, ?_⟩
    simp -implicitDefEqProofs (disch := first | omega | decide) only [seval, -Int.reducePow, -Nat.reducePow, cC, pv, binv, sAlLNew1, undef, g6]
  intro G7 L' hI
  obtain ⟨i, q2, q7, q76, q77, q78, rfl, hi⟩ := hI
  have g7_2 := q2.trans g6_2
  have g7_7 := q7.trans g6_7
  have g7_76 := q76.trans g6_76
  have g7_77 := q77.trans g6_77
  have g7_78 := q78
  clear q2 q7 q76 q77 q78
  have g7 := And.intro g7_2 (And.intro g7_7 (And.intro g7_76 (And.intro g7_77 g7_78)))
  refine cv_apart fun hap => ?_
  simp only [factL_nil, factL_blk, factL_row, neR_nil, neR_blk, neR_row, neB_nil, neB_blk, neB_row, and_true, true_and, List.not_mem_nil, or_false, sAlLNew1, undef] at hap
  obtain hap := hap
  refine cv_seq_k fun K hK => ?_
  refine cv_region_then rfl ?_
  simp -implicitDefEqProofs (disch := first | omega | decide) only [seval, -Int.reducePow, -Nat.reducePow, cC, pv, binv, sAlLNew1, undef, g6, g7]
  refine hK _ _ ?_
  clear hK K
  refine cv_seq_k fun K hK => ?_
  refine cv_cond ?_
  simp -implicitDefEqProofs (disch := first | omega | decide) only [seval, -Int.reducePow, -Nat.reducePow, cC, pv, binv, sAlLNew1, undef, g6, g7]
  refine ⟨fun hc => ?_, fun hc => ?_⟩
  · refine cv_skip ?_
    try simp only [blockQ, thenQ]
    have hit : i < 2 := by have := of_decide_eq_true ‹decide ((i : Int) < 2) = true›; omega
    refine hK _ _ ?_
    clear hK K
    rcases (show i = 0 ∨ i = 1 by omega) with rfl | rfl
    · skip
      refine cv_seq_k fun K hK => ?_
      refine cv_block ?_
      refine cv_seq_k fun K hK => ?_
      refine cv_region_then rfl ?_
      simp -implicitDefEqProofs (disch := first | omega | decide) only [seval, -Int.reducePow, -Nat.reducePow, cC, pv, binv, sAlLNew1, undef, g6, g7]
      refine hK _ _ ?_
      clear hK K
      refine cv_seq_k fun K hK => ?_
      refine cv_region_then rfl ?_
      simp -implicitDefEqProofs (disch := first | omega | decide) only [seval, -Int.reducePow, -Nat.reducePow, cC, pv, binv, sAlLNew1, undef, g6, g7]
      intro bM hbM hfM
      refine hK _ _ ?_
      clear hK K
      refine cv_seq_k fun K hK => ?_
      refine cv_region_then rfl ?_
      simp -implicitDefEqProofs (disch := first | omega | decide) only [seval, -Int.reducePow, -Nat.reducePow, cC, pv, binv, sAlLNew1, undef, g6, g7]
      refine callV_ret (fun w hw => zAlloc_any _ k w (.inl rfl)) ?_
      try simp -implicitDefEqProofs (disch := first | omega | decide) only [seval, -Int.reducePow, -Nat.reducePow, cC, pv, binv, sAlLNew1, undef, hzz, g6, g7]
      intro b6 hb6 hf6
      refine hK _ _ ?_
      clear hK K
      refine cv_seq_k fun K hK => ?_
      refine cv_region_then rfl ?_
      simp -implicitDefEqProofs (disch := first | omega | decide) only [seval, -Int.reducePow, -Nat.reducePow, cC, pv, binv, sAlLNew1, undef, g6, g7]
      refine callV_ret (fun w hw => (by have := rFits_any ⟨bM, 0, none, 0, 0, []⟩ k [] [] w ⟨Sl.of_blk hw (nth_mem (k := 1) rfl) rfl (by omega), Exts.nil0 _ _, by simp, by simp⟩ hI0; rw [findF_nil, hzz] at this; exact this)) ?_
      try simp -implicitDefEqProofs (disch := first | omega | decide) only [seval, -Int.reducePow, -Nat.reducePow, cC, pv, binv, sAlLNew1, undef, hzz, g6, g7]
      refine callV_ret (fun w hw => zFits_any _ k w (.inl rfl)) ?_
      try simp -implicitDefEqProofs (disch := first | omega | decide) only [seval, -Int.reducePow, -Nat.reducePow, cC, pv, binv, sAlLNew1, undef, hzz, g6, g7]
      refine callV_ret (fun w hw => zFree_any _ e w (.inl rfl)) ?_
      try simp -implicitDefEqProofs (disch := first | omega | decide) only [seval, -Int.reducePow, -Nat.reducePow, cC, pv, binv, sAlLNew1, undef, g6, g7]
      refine callV_ret (fun w hw => zHas_any _ e w (.inl rfl)) ?_
      try simp -implicitDefEqProofs (disch := first | omega | decide) only [seval, -Int.reducePow, -Nat.reducePow, cC, pv, binv, sAlLNew1, undef, g6, g7]
      refine callV_row (fun A n c => .slice A n c) (fun w hw => zFreeList_any _ w (.inl rfl)) ?_
      intro A1 n1 c1 hl1 hr1
      have hn1 : 0 = n1 := by
        simp [exCells] at hl1
        omega
      subst hn1
      simp -implicitDefEqProofs (disch := first | omega | decide) only [seval, -Int.reducePow, -Nat.reducePow, cC, pv, binv, sAlLNew1, undef, g6, g7]
      refine callV_row (fun A n c => .slice A n c) (fun w hw => zListed_any _ (.inl rfl)) ?_
      intro A2 n2 c2 hl2 hr2
      have hn2 : 0 = n2 := by
        simp [exCells] at hl2
        omega
      subst hn2
      simp -implicitDefEqProofs (disch := first | omega | decide) only [seval, -Int.reducePow, -Nat.reducePow, cC, pv, binv, sAlLNew1, undef, g6, g7]
      refine hK _ _ ?_
      clear hK K
      refine cv_pick [4, 5, 6] (by decide) ?_
      simp only [pickL, nth]
      refine cv_cond ?_
      simp -implicitDefEqProofs (disch := first | omega | decide) only [seval, -Int.reducePow, -Nat.reducePow, cC, pv, binv, sAlLNew1, undef, g6, g7]
      refine cv_skip ?_
      try simp only [blockQ, thenQ]
      refine hK _ _ ?_
      clear hK K
      refine cv_region_then rfl ?_
      simp -implicitDefEqProofs (disch := first | omega | decide) only [seval, -Int.reducePow, -Nat.reducePow, cC, pv, binv, sAlLNew1, undef, wrap_in, g6, g7]
      refine ⟨⟨1, ?_⟩, ?_⟩
      · simp -implicitDefEqProofs (disch := first | omega | decide) only [seval, -Int.reducePow, -Nat.reducePow, cC, pv, binv, sAlLNew1, undef, g6, g7]
      · simp only [intOf]; omega
    · skip
      refine cv_seq_k fun K hK => ?_
      refine cv_block ?_
      refine cv_seq_k fun K hK => ?_
      refine cv_region_then rfl ?_
      simp -implicitDefEqProofs (disch := first | omega | decide) only [seval, -Int.reducePow, -Nat.reducePow, cC, pv, binv, sAlLNew1, undef, g6, g7]
      refine hK _ _ ?_
      clear hK K
      refine cv_seq_k fun K hK => ?_
      refine cv_region_then rfl ?_
      simp -implicitDefEqProofs (disch := first | omega | decide) only [seval, -Int.reducePow, -Nat.reducePow, cC, pv, binv, sAlLNew1, undef, g6, g7]
      intro bM hbM hfM
      refine hK _ _ ?_
      clear hK K
      refine cv_seq_k fun K hK => ?_
      refine cv_region_then rfl ?_
      simp -implicitDefEqProofs (disch := first | omega | decide) only [seval, -Int.reducePow, -Nat.reducePow, cC, pv, binv, sAlLNew1, undef, g6, g7]
      refine callV_ret (fun w hw => zAlloc_any _ k w (.inr ⟨b50, rfl, Sl.of_blk hw (nth_mem (k := 2)  rfl) rfl (by omega)⟩)) ?_
      try simp -implicitDefEqProofs (disch := first | omega | decide) only [seval, -Int.reducePow, -Nat.reducePow, cC, pv, binv, sAlLNew1, undef, hzz, g6, g7]
      intro b6 hb6 hf6
      refine hK _ _ ?_
      clear hK K
      refine cv_seq_k fun K hK => ?_
      refine cv_region_then rfl ?_
      simp -implicitDefEqProofs (disch := first | omega | decide) only [seval, -Int.reducePow, -Nat.reducePow, cC, pv, binv, sAlLNew1, undef, g6, g7]
      refine callV_ret (fun w hw => (by have := rFits_any ⟨bM, 0, none, 0, 0, []⟩ k [] [] w ⟨Sl.of_blk hw (nth_mem (k := 1) rfl) rfl (by omega), Exts.nil0 _ _, by simp, by simp⟩ hI0; rw [findF_nil, hzz] at this; exact this)) ?_
      try simp -implicitDefEqProofs (disch := first | omega | decide) only [seval, -Int.reducePow, -Nat.reducePow, cC, pv, binv, sAlLNew1, undef, hzz, g6, g7]
      refine callV_ret (fun w hw => zFits_any _ k w (.inr ⟨b50, rfl, Sl.of_blk hw (nth_mem (k := 3)  rfl) rfl (by omega)⟩)) ?_
      try simp -implicitDefEqProofs (disch := first | omega | decide) only [seval, -Int.reducePow, -Nat.reducePow, cC, pv, binv, sAlLNew1, undef, hzz, g6, g7]
      refine callV_ret (fun w hw => zFree_any _ e w (.inr ⟨b50, rfl, Sl.of_blk hw (nth_mem (k := 3)  rfl) rfl (by omega)⟩)) ?_
      try simp -implicitDefEqProofs (disch := first | omega | decide) only [seval, -Int.reducePow, -Nat.reducePow, cC, pv, binv, sAlLNew1, undef, g6, g7]
      refine callV_ret (fun w hw => zHas_any _ e w (.inr ⟨b50, rfl, Sl.of_blk hw (nth_mem (k := 3)  rfl) rfl (by omega)⟩)) ?_
      try simp -implicitDefEqProofs (disch := first | omega | decide) only [seval, -Int.reducePow, -Nat.reducePow, cC, pv, binv, sAlLNew1, undef, g6, g7]
      refine callV_row (fun A n c => .slice A n c) (fun w hw => zFreeList_any _ w (.inr ⟨b50, rfl, Sl.of_blk hw (nth_mem (k := 3)  rfl) rfl (by omega)⟩)) ?_
      intro A1 n1 c1 hl1 hr1
      have hn1 : 0 = n1 := by
        simp [exCells] at hl1
        omega
      subst hn1
      simp -implicitDefEqProofs (disch := first | omega | decide) only [seval, -Int.reducePow, -Nat.reducePow, cC, pv, binv, sAlLNew1, undef, g6, g7]
      refine callV_row (fun A n c => .slice A n c) (fun w hw => zListed_any _ (.inr ⟨b50, rfl, Sl.of_blk hw (nth_mem (k := 4)  rfl) rfl (by omega)⟩)) ?_
      intro A2 n2 c2 hl2 hr2
      have hn2 : 0 = n2 := by
        simp [exCells] at hl2
        omega
      subst hn2
      simp -implicitDefEqProofs (disch := first | omega | decide) only [seval, -Int.reducePow, -Nat.reducePow, cC, pv, binv, sAlLNew1, undef, g6, g7]
      refine hK _ _ ?_
      clear hK K
      refine cv_pick [4, 5, 6] (by decide) ?_
      simp only [pickL, nth]
      refine cv_cond ?_
      simp -implicitDefEqProofs (disch := first | omega | decide) only [seval, -Int.reducePow, -Nat.reducePow, cC, pv, binv, sAlLNew1, undef, g6, g7]
      refine cv_skip ?_
      try simp only [blockQ, thenQ]
      refine hK _ _ ?_
      clear hK K
      refine cv_region_then rfl ?_
      simp -implicitDefEqProofs (disch := first | omega | decide) only [seval, -Int.reducePow, -Nat.reducePow, cC, pv, binv, sAlLNew1, undef, wrap_in, g6, g7]
      refine ⟨⟨2, ?_⟩, ?_⟩
      · simp -implicitDefEqProofs (disch := first | omega | decide) only [seval, -Int.reducePow, -Nat.reducePow, cC, pv, binv, sAlLNew1, undef, g6, g7]
      · simp only [intOf]; omega
  refine cv_exit ?_
  simp only [blockQ, thenQ, if_true, ite_true]
  clear hK K
  refine hK _ _ ?_
  clear hK K
  refine cv_seq_k fun K hK => ?_
  refine cv_region_then rfl ?_
  simp -implicitDefEqProofs (disch := first | omega | decide) only [seval, -Int.reducePow, -Nat.reducePow, cC, pv, binv, sAlLNew1, undef, g6, g7]
  refine callV_ret (fun w hw => alAwake_any w) ?_
  try simp -implicitDefEqProofs (disch := first | omega | decide) only [seval, -Int.reducePow, -Nat.reducePow, cC, pv, binv, sAlLNew1, undef, g6, g7]
  refine hK _ _ ?_
  clear hK K
  refine cv_ret ⟨_, (by simp -implicitDefEqProofs (disch := first | omega | decide) only [seval, -Int.reducePow, -Nat.reducePow, cC, pv, binv, sAlLNew1, undef, g6, g7]; rfl), fun w hw => ?_⟩
  exact ⟨rfl, hw.below⟩
end Go.Proofs.Ytejogdielfgeoaa
