/- The allocator's code that writes: New, Alloc, Free. -/
import Derived.Test.YtfaanphjaghbpaaAlCode
import Derived.Test.YtfaanphjaghbpaaFCmp
import Derived.Test.YtfaanphjaghbpaaMore
namespace Go.Proofs.Ytfaanphjaghbpaa
open Go.RowKit Go.Shelf
set_option linter.unusedVariables false
set_option linter.unusedSimpArgs false
set_option maxRecDepth 100000
def alL (x : AlR) : List Res := [.blk x.bA 99 [.slice x.FA x.fn x.fc, .map (some x.bm)], mpR x.bm x.tk, .row (.slice x.FA x.fn x.fc) 28 2 x.fn (exCells x.fr)]
section
variable {M : List Nat} {W w : World} {L : List Res} {x : AlR}
theorem AlW.of (hw : St M W L w) (i j k : Nat) (hi : nth L i = some (.blk x.bA 99 [.slice x.FA x.fn x.fc, .map (some x.bm)])) (hj : nth L j = some (mpR x.bm x.tk))
    (hk : nth L k = some (.row (.slice x.FA x.fn x.fc) 28 2 x.fn (exCells x.fr))) (hl : x.fr.length ≤ 500) : AlW w w.heap.size x :=
  ⟨Sl.of_blk hw (nth_mem hi) rfl (by omega), ⟨(hw.own _ (nth_mem hj) x.bm (by simp [mpR_foot])).2, hw.mpH j hj⟩, Exts.of_row hw (nth_mem hk), hl⟩
end
set_option maxRecDepth 100000 in
theorem sAlMut1 : type_of% (And.intro (And.intro @eBox.eq_1 (And.intro @exV.eq_1 @alL.eq_1)) (And.intro (And.intro @Nat.mul_one @wrap_in) (And.intro @cMp @cM))) := (And.intro (And.intro @eBox.eq_1 (And.intro @exV.eq_1 @alL.eq_1)) (And.intro (And.intro @Nat.mul_one @wrap_in) (And.intro @cMp @cM)))
set_option maxHeartbeats 2000000 in
theorem aAlloc_any (x : AlR) (N : Int) (us : List Ext) (n : Int) (W : World) (hst : St (feet (alL x)) W (alL x) W) (hI : Ex.Inv N us x.fr x.tk) (hl : us.length ≤ 100) :
    Calls Try.prog 34 #[.pointer (some ⟨x.bA, 0, none⟩), .int .i64 n] W
    fun e w' => ∃ y : AlR, e = .returned (.tuple #[exV (Ex.findF x.fr n).1, .int .i64 (Ex.findF x.fr n).2]) ∧
      (y.bA = x.bA ∧ (¬ (Ex.findF x.fr n).2 = 0 → y = x) ∧ ((Ex.findF x.fr n).2 = 0 → Ex.Inv N (us ++ [(Ex.findF x.fr n).1]) y.fr y.tk)) ∧ St (feet (alL x)) W (alL y) w' := by
  have hfl := hI.frLen
  have hal := hI.alloc (n := n)
  obtain ⟨M, hM⟩ : ∃ M, feet (alL x) = M := ⟨_, rfl⟩
  rw [hM] at hst ⊢
  obtain ⟨q, hq⟩ : ∃ q, Ex.findF x.fr n = q := ⟨_, rfl⟩
  rw [hq] at hal ⊢
  have hfe := Ex.findF_err (fr := x.fr) (n := n)
  rw [hq] at hfe
  obtain ⟨bA, bm, FA, fn, fc, fr, tk⟩ := x
  dsimp only at hfl hal hq hI hfe
  unfold alL at hst
  dsimp only at hst
  clear hM
  refine calls_cv2 (M := M) (n := 39) [.cell 4 28, .tmp 5] rfl Try.func34 rfl rfl (Nat.le_of_ble_eq_true rfl)  hst ?_
  refine cv_seq_k fun K hK => ?_
  refine cv_region_then rfl ?_
  simp -implicitDefEqProofs (disch := first | omega | decide) only [seval, -Int.reducePow, -Nat.reducePow, cC, pv, binv, sAlMut1, undef]
  intro b4 hb4 hf4
  refine hK _ _ ?_
  clear hK K
  refine cv_seq_k fun K hK => ?_
  refine cv_region_then rfl ?_
  simp -implicitDefEqProofs (disch := first | omega | decide) only [seval, -Int.reducePow, -Nat.reducePow, cC, pv, binv, sAlMut1, undef]
  refine callV_ret (fun w hw => (afind_any ⟨bA, bm, FA, fn, fc, fr, tk⟩ n w (AlW.of hw 1 2 3 rfl rfl rfl (by dsimp only; omega)))) ?_
  try simp -implicitDefEqProofs (disch := first | omega | decide) only [seval, -Int.reducePow, -Nat.reducePow, cC, pv, binv, sAlMut1, undef, hq]
  intro b6 hb6 hf6
  refine hK _ _ ?_
  clear hK K
  refine cv_gen fun G1 hG => ?_
  have g1_0 := congrFun hG 0
  have g1_4 := congrFun hG 4
  have g1_6 := congrFun hG 6
  have g1_7 := congrFun hG 7
  clear hG
  try simp -implicitDefEqProofs (disch := first | omega | decide) only [seval, -Int.reducePow, -Nat.reducePow, cC, pv, binv, sAlMut1, undef] at g1_0 g1_4 g1_6 g1_7
  have g1 := And.intro g1_0 (And.intro g1_4 (And.intro g1_6 g1_7))
  refine cv_seq_k fun K hK => ?_
  refine cv_seq_k fun K hK => ?_
  refine cv_region_then rfl ?_
  simp -implicitDefEqProofs (disch := first | omega | decide) only [seval, -Int.reducePow, -Nat.reducePow, cC, pv, binv, sAlMut1, undef, g1]
  refine hK _ _ ?_
  clear hK K
  refine cv_cond ?_
  simp -implicitDefEqProofs (disch := first | omega | decide) only [seval, -Int.reducePow, -Nat.reducePow, cC, pv, binv, sAlMut1, undef, g1]
  refine ⟨fun hc => ?_, fun hc => ?_⟩
  · have hz : ¬ q.2 = 0 := nd_true ‹(!decide (q.2 = 0)) = true›
    refine cv_seq_k fun K hK => ?_
    refine cv_region_then rfl ?_
    simp -implicitDefEqProofs (disch := first | omega | decide) only [seval, -Int.reducePow, -Nat.reducePow, cC, pv, binv, sAlMut1, undef, g1]
    refine hK _ _ ?_
    clear hK K
    refine cv_ret ?_
    simp -implicitDefEqProofs (disch := first | omega | decide) only [seval, -Int.reducePow, -Nat.reducePow, cC, pv, binv, sAlMut1, undef, retQ2, ressV, packV, g1]
    intro w hw
    rw [hfe hz]
    exact ⟨⟨bA, bm, FA, fn, fc, fr, tk⟩, rfl, ⟨rfl, fun _ => rfl, fun h => absurd h hz⟩, hw.tail.tail⟩
  have hz : q.2 = 0 := Decidable.not_not.1 (nd_false ‹(!decide (q.2 = 0)) = false›)
  obtain ⟨a1, a2, a3, a4, a5, a6, a7, a8⟩ := hal hz
  obtain ⟨rr, hrr⟩ : ∃ rr, (Ex.remF fr q.1).1 = rr := ⟨_, rfl⟩
  rw [hrr] at a2 a3
  refine cv_skip ?_
  try simp only [blockQ, thenQ]
  refine hK _ _ ?_
  clear hK K
  refine cv_seq_k fun K hK => ?_
  refine cv_cut (fun _ _ => True) (fun F' L' => ∃ (A1 : Option Addr) (n1 c1 : Nat), F' 0 = G1 0 ∧ F' 4 = G1 4 ∧ F' 6 = G1 6 ∧ L' = [.row (.slice A1 n1 c1) 28 2 n1 (exCells rr), eBox b6 q.1, eBox b4 ⟨0, 0⟩, .blk bA 99 [.slice A1 n1 c1, .map (some bm)], mpR bm tk, .row (.slice FA fn fc) 28 2 fn (exCells fr)]) ?_ ?_
  · refine cv_more [] (by decide) (by simp only [pickL, nth, suf_cons, suf_nil, List.mem_cons, true_or, or_true, and_true, eq_self]) (.rd 0 (.rd 1 (.rd 2 (.rd 3 (.more 4 (.act 5 (.act 6 (.rd 7 (.rd 8 (.rd 9 (.rd 10 (.rd 11 (.act 12 (.done))))))))) (.act 5 (.act 4 (.act 6 (.rd 7 (.rd 8 (.rd 9 (.rd 10 (.rd 11 (.act 12 (.done))))))))))))))) [] mixA rfl (by kernel_rfl) (by kernel_rfl) (by kernel_rfl) (by kernel_rfl) ?_
    simp only [pickL, nth]
    simp -implicitDefEqProofs (disch := first | omega | decide) only [seval, -Int.reducePow, -Nat.reducePow, cC, pv, binv, sAlMut1, undef, g1]
    repeat' (first
      | refine And.intro ?_ ?_
      | (refine callV_row (fun A n c => .tuple #[.slice A n c, .int .i64 0]) (fun w hw => (by have := remove_any FA fn fc fr q.1 w (Exts.of_row hw (.tail _ (.tail _ (.tail _ (.tail _ (.head _)))))) (by have := Exts.of_row hw (.tail _ (.tail _ (.tail _ (.tail _ (.head _))))); have := this.len; omega); rw [a2] at this; exact this)) ?_
         intro A1 n1 c1 hl1 hr1
         simp -implicitDefEqProofs (disch := first | omega | decide) only [seval, -Int.reducePow, -Nat.reducePow, cC, pv, binv, sAlMut1, undef, g1]))
    all_goals
      refine ⟨[0, 1, 2, 3, 4, 5], by decide, ?_⟩
      simp only [pickL, nth]
      refine ⟨A1, n1, c1, ?_⟩
      simp -implicitDefEqProofs (disch := first | omega | decide) only [seval, -Int.reducePow, -Nat.reducePow, cC, pv, binv, sAlMut1, undef, g1]
  intro G2 L' _ hF
  obtain ⟨A1, n1, c1, q0, q4, q6, rfl⟩ := hF
  have g2_0 := q0.trans g1_0
  have g2_4 := q4.trans g1_4
  have g2_6 := q6.trans g1_6
  clear q0 q4 q6
  have g2 := And.intro g2_0 (And.intro g2_4 g2_6)
  refine hK _ _ ?_
  clear hK K
  refine cv_seq_k fun K hK => ?_
  refine cv_draw [(true, 0), (true, 1), (true, 2), (true, 3), (true, 4), (true, 5), (true, 6), (true, 7), (false, 8)] [8] mixA rfl (by kernel_rfl) (by kernel_rfl) rfl rfl ?_
  simp -implicitDefEqProofs (disch := first | omega | decide) only [seval, -Int.reducePow, -Nat.reducePow, cC, pv, binv, sAlMut1, undef, g2]
  refine xu_mapset 4 (by kernel_rfl) rfl rfl rfl rfl ?_
  simp -implicitDefEqProofs (disch := first | omega | decide) only [seval, -Int.reducePow, -Nat.reducePow, cC, pv, binv, sAlMut1, undef, g2]
  refine hK _ _ ?_
  clear hK K
  refine cv_seq_k fun K hK => ?_
  refine cv_region_then rfl ?_
  simp -implicitDefEqProofs (disch := first | omega | decide) only [seval, -Int.reducePow, -Nat.reducePow, cC, pv, binv, sAlMut1, undef, g2]
  refine hK _ _ ?_
  clear hK K
  refine cv_ret ?_
  simp -implicitDefEqProofs (disch := first | omega | decide) only [seval, -Int.reducePow, -Nat.reducePow, cC, pv, binv, sAlMut1, undef, retQ2, ressV, packV, g2]
  intro w hw
  refine ⟨⟨bA, bm, A1, n1, c1, rr, mset tk q.1.off q.1.len⟩, by rw [hz], ⟨rfl, fun h => absurd hz h, fun _ => a3⟩, ?_⟩
  exact hw.pick (ix := [3, 4, 0]) (by decide)
set_option maxHeartbeats 2000000 in
theorem aFree_any (x : AlR) (N : Int) (us : List Ext) (e : Ext) (W : World) (hst : St (feet (alL x)) W (alL x) W) (hI : Ex.Inv N us x.fr x.tk) (hl : us.length ≤ 100) :
    Calls Try.prog 48 #[.pointer (some ⟨x.bA, 0, none⟩), exV e] W
    fun en w' => ∃ y : AlR, en = .returned (.int .i64 (if e ∈ us then 0 else 6)) ∧
      (y.bA = x.bA ∧ (e ∉ us → y = x) ∧ (e ∈ us → Ex.Inv N (us.filter fun x => decide (x ≠ e)) y.fr y.tk)) ∧ St (feet (alL x)) W (alL y) w' := by
  have hfl := hI.frLen
  have hhas := hI.has e
  have hrel := fun h => hI.release (e := e) h
  obtain ⟨M, hM⟩ : ∃ M, feet (alL x) = M := ⟨_, rfl⟩
  rw [hM] at hst ⊢
  obtain ⟨bA, bm, FA, fn, fc, fr, tk⟩ := x
  dsimp only at hfl hI hhas hrel
  unfold alL at hst
  dsimp only at hst
  clear hM
  refine calls_cv (M := M) (n := 27) [.tmp 4] rfl Try.func48 rfl rfl (Nat.le_of_ble_eq_true rfl)  hst ?_
  refine cv_seq_k fun K hK => ?_
  refine cv_region_then rfl ?_
  simp -implicitDefEqProofs (disch := first | omega | decide) only [seval, -Int.reducePow, -Nat.reducePow, cC, pv, binv, sAlMut1, undef]
  intro b3 hb3 hf3
  refine hK _ _ ?_
  clear hK K
  refine cv_seq_k fun K hK => ?_
  refine cv_seq_k fun K hK => ?_
  refine cv_region_then rfl ?_
  simp -implicitDefEqProofs (disch := first | omega | decide) only [seval, -Int.reducePow, -Nat.reducePow, cC, pv, binv, sAlMut1, undef]
  refine callV_ret (fun w hw => (aHas_any ⟨bA, bm, FA, fn, fc, fr, tk⟩ e w (AlW.of hw 1 2 3 rfl rfl rfl (by dsimp only; omega)))) ?_
  try simp -implicitDefEqProofs (disch := first | omega | decide) only [seval, -Int.reducePow, -Nat.reducePow, cC, pv, binv, sAlMut1, undef]
  refine hK _ _ ?_
  clear hK K
  refine cv_gen fun G3 hG => ?_
  have g3_0 := congrFun hG 0
  have g3_3 := congrFun hG 3
  have g3_8 := congrFun hG 8
  clear hG
  try simp -implicitDefEqProofs (disch := first | omega | decide) only [seval, -Int.reducePow, -Nat.reducePow, cC, pv, binv, sAlMut1, undef] at g3_0 g3_3 g3_8
  have g3 := And.intro g3_0 (And.intro g3_3 g3_8)
  refine cv_cond ?_
  simp -implicitDefEqProofs (disch := first | omega | decide) only [seval, -Int.reducePow, -Nat.reducePow, cC, pv, binv, sAlMut1, undef, g3]
  refine ⟨fun hc => ?_, fun hc => ?_⟩
  · have hn : e ∉ us := fun h => by
      have := nd_true hc
      exact this (hhas.2 h)
    refine cv_seq_k fun K hK => ?_
    refine cv_region_then rfl ?_
    simp -implicitDefEqProofs (disch := first | omega | decide) only [seval, -Int.reducePow, -Nat.reducePow, cC, pv, binv, sAlMut1, undef, g3]
    refine hK _ _ ?_
    clear hK K
    refine cv_ret ⟨_, (by simp -implicitDefEqProofs (disch := first | omega | decide) only [seval, -Int.reducePow, -Nat.reducePow, cC, pv, binv, sAlMut1, undef, g3]; rfl), fun w hw => ?_⟩
    rw [if_neg hn]
    exact ⟨⟨bA, bm, FA, fn, fc, fr, tk⟩, rfl, ⟨rfl, fun _ => rfl, fun h => absurd h hn⟩, hw.tail⟩
  have hy : e ∈ us := hhas.1 (Decidable.not_not.1 (nd_false hc))
  obtain ⟨a1, a2⟩ := hrel hy
  obtain ⟨rr, hrr⟩ : ∃ rr, (Ex.insF fr e).1 = rr := ⟨_, rfl⟩
  rw [hrr] at a1 a2
  refine cv_skip ?_
  try simp only [blockQ, thenQ]
  refine hK _ _ ?_
  clear hK K
  refine cv_seq_k fun K hK => ?_
  refine cv_draw [(true, 0), (true, 1), (true, 2), (true, 3), (true, 4), (true, 5), (false, 6)] [6] mixA rfl (by kernel_rfl) (by kernel_rfl) rfl rfl ?_
  simp -implicitDefEqProofs (disch := first | omega | decide) only [seval, -Int.reducePow, -Nat.reducePow, cC, pv, binv, sAlMut1, undef, g3]
  refine xv_mapdel 2 (by kernel_rfl) rfl rfl rfl ?_
  simp -implicitDefEqProofs (disch := first | omega | decide) only [seval, -Int.reducePow, -Nat.reducePow, cC, pv, binv, sAlMut1, undef, g3]
  refine hK _ _ ?_
  clear hK K
  refine cv_gen fun G4 hG => ?_
  have g4_0 := congrFun hG 0
  have g4_3 := congrFun hG 3
  clear hG
  try simp -implicitDefEqProofs (disch := first | omega | decide) only [seval, -Int.reducePow, -Nat.reducePow, cC, pv, binv, sAlMut1, undef, g3] at g4_0 g4_3
  have g4 := And.intro g4_0 g4_3
  refine cv_seq_k fun K hK => ?_
  refine cv_cut (fun _ _ => True) (fun F' L' => ∃ (A1 : Option Addr) (n1 c1 : Nat), L' = [.row (.slice A1 n1 c1) 28 2 n1 (exCells rr), eBox b3 e, .blk bA 99 [.slice A1 n1 c1, .map (some bm)], mpR bm (mdel tk e.off), .row (.slice FA fn fc) 28 2 fn (exCells fr)]) ?_ ?_
  · refine cv_more [] (by decide) (by simp only [pickL, nth, suf_cons, suf_nil, List.mem_cons, true_or, or_true, and_true, eq_self]) (.rd 0 (.rd 1 (.rd 2 (.rd 3 (.more 4 (.act 5 (.act 6 (.rd 7 (.rd 8 (.rd 9 (.rd 10 (.rd 11 (.act 12 (.done))))))))) (.act 5 (.act 4 (.act 6 (.rd 7 (.rd 8 (.rd 9 (.rd 10 (.rd 11 (.act 12 (.done))))))))))))))) [] mixA rfl (by kernel_rfl) (by kernel_rfl) (by kernel_rfl) (by kernel_rfl) ?_
    simp only [pickL, nth]
    simp -implicitDefEqProofs (disch := first | omega | decide) only [seval, -Int.reducePow, -Nat.reducePow, cC, pv, binv, sAlMut1, undef, g4]
    repeat' (first
      | refine And.intro ?_ ?_
      | (refine callV_row (fun A n c => .tuple #[.slice A n c, .int .i64 0]) (fun w hw => (by have := insert_good FA fn fc fr e w (Exts.of_row hw (.tail _ (.tail _ (.tail _ (.head _))))) (by have := Exts.of_row hw (.tail _ (.tail _ (.tail _ (.head _)))); have := this.len; omega); rw [a1] at this; exact this)) ?_
         intro A1 n1 c1 hl1 hr1
         simp -implicitDefEqProofs (disch := first | omega | decide) only [seval, -Int.reducePow, -Nat.reducePow, cC, pv, binv, sAlMut1, undef, g4]))
    all_goals
      refine ⟨[0, 1, 2, 3, 4], by decide, ?_⟩
      simp only [pickL, nth]
      refine ⟨A1, n1, c1, ?_⟩
      simp -implicitDefEqProofs (disch := first | omega | decide) only [seval, -Int.reducePow, -Nat.reducePow, cC, pv, binv, sAlMut1, undef, g4]
  intro G5 L' _ hF
  obtain ⟨A1, n1, c1, rfl⟩ := hF
  refine hK _ _ ?_
  clear hK K
  refine cv_seq_k fun K hK => ?_
  refine cv_region_then rfl ?_
  simp -implicitDefEqProofs (disch := first | omega | decide) only [seval, -Int.reducePow, -Nat.reducePow, cC, pv, binv, sAlMut1, undef]
  refine hK _ _ ?_
  clear hK K
  refine cv_ret ⟨_, (by simp -implicitDefEqProofs (disch := first | omega | decide) only [seval, -Int.reducePow, -Nat.reducePow, cC, pv, binv, sAlMut1, undef]; rfl), fun w hw => ?_⟩
  refine ⟨⟨bA, bm, A1, n1, c1, rr, mdel tk e.off⟩, by rw [if_pos hy], ⟨rfl, fun h => absurd hy h, fun _ => a2⟩, ?_⟩
  exact hw.pick (ix := [2, 3, 0]) (by decide)
end Go.Proofs.Ytfaanphjaghbpaa
