/- The code's step: apply. -/
import Derived.Test.YtaifnipgefkemaaZ2
import Derived.Test.YtaifnipgefkemaaSortLay
import Derived.Test.YtaifnipgefkemaaZ1
import Derived.Test.YtaifnipgefkemaaZ6
namespace Go.Proofs.Ytaifnipgefkemaa
open Go.RowKit Go.Shelf
set_option linter.unusedVariables false
set_option linter.unusedSimpArgs false
set_option maxRecDepth 100000
set_option maxRecDepth 100000 in
theorem sHiB1 : type_of% (And.intro (And.intro (And.intro @evBox.eq_1 @obP.eq_1) (And.intro @Nat.mul_one @cMv)) (And.intro (And.intro @suf_o3 @suf_o4) (And.intro @suf_o5 (And.intro @suf_o6 @suf_o7)))) := (And.intro (And.intro (And.intro @evBox.eq_1 @obP.eq_1) (And.intro @Nat.mul_one @cMv)) (And.intro (And.intro @suf_o3 @suf_o4) (And.intro @suf_o5 (And.intro @suf_o6 @suf_o7))))
set_option maxHeartbeats 2000000 in
theorem hApply_any (x : HsR) (e : EvR) (k : Nat) (hI : HInv k x.pl) (hk : k ≤ 1000000) (he : e.ok) (W : World) (hst : St (feet (hsL x)) W (hsL x) W) :
    Calls Try.prog 18 #[.pointer (some ⟨x.bS, 0, none⟩), evV e] W
    fun en w' => ∃ i : Bool × HsR, en = .returned (didV i) ∧ Did x.bS (stepS x.pl e) i ∧ St (feet (hsL x)) W (didL i) w' := by
  obtain ⟨M, hM⟩ : ∃ M, feet (hsL x) = M := ⟨_, rfl⟩
  rw [hM] at hst ⊢
  obtain ⟨s, hs⟩ : ∃ s, x.pl = s := ⟨_, rfl⟩
  rw [hs]
  clear hM
  have hstep : stepS s e = stepS s e := rfl
  conv at hstep => rhs; unfold stepS
  refine calls_cv (M := M) (n := 55) [.tmp 4] rfl Try.func18 rfl rfl (Nat.le_of_ble_eq_true rfl)  hst ?_
  refine cv_seq_k fun K hK => ?_
  refine cv_region_then rfl ?_
  simp -implicitDefEqProofs (disch := first | omega | decide) only [seval, -Int.reducePow, -Nat.reducePow, cC, pv, binv, sHiB1, undef, evV]
  intro b3 hb3 hf3
  refine hK _ _ ?_
  clear hK K
  refine cv_seq_k fun K hK => ?_
  refine cv_block ?_
  refine cv_seq_k fun K hK => ?_
  refine cv_region_then rfl ?_
  simp -implicitDefEqProofs (disch := first | omega | decide) only [seval, -Int.reducePow, -Nat.reducePow, cC, pv, binv, sHiB1, undef]
  refine callV_ret (fun w hw => hSkip_any e w) ?_
  try simp -implicitDefEqProofs (disch := first | omega | decide) only [seval, -Int.reducePow, -Nat.reducePow, cC, pv, binv, sHiB1, undef]
  refine hK _ _ ?_
  clear hK K
  refine cv_cond ?_
  cases hsk : evSkip e with
  | true =>
    simp -implicitDefEqProofs (disch := first | omega | decide) only [seval, -Int.reducePow, -Nat.reducePow, cC, pv, binv, sHiB1, undef]
    refine cv_seq_k fun K hK => ?_
    refine cv_region_then rfl ?_
    simp -implicitDefEqProofs (disch := first | omega | decide) only [seval, -Int.reducePow, -Nat.reducePow, cC, pv, binv, sHiB1, undef]
    refine hK _ _ ?_
    clear hK K
    refine cv_ret ⟨_, (by simp -implicitDefEqProofs (disch := first | omega | decide) only [seval, -Int.reducePow, -Nat.reducePow, cC, pv, binv, sHiB1, undef]; rfl), fun w hw => ?_⟩
    rw [hsk, if_pos rfl] at hstep
    exact ⟨(true, x), rfl, .yes hstep hs rfl, hw.tail⟩
  | false =>
  rw [hsk, if_neg Bool.false_ne_true] at hstep
  simp -implicitDefEqProofs (disch := first | omega | decide) only [seval, -Int.reducePow, -Nat.reducePow, cC, pv, binv, sHiB1, undef]
  by_cases hpl : e.pl < 1 ∨ 64 < e.pl
  · rw [if_pos hpl] at hstep
    refine cv_seq_k fun K hK => ?_
    refine cv_region_then rfl ?_
    simp -implicitDefEqProofs (disch := first | omega | decide) only [seval, -Int.reducePow, -Nat.reducePow, cC, pv, binv, sHiB1, undef]
    by_cases hp1 : e.pl < 1
    · simp -implicitDefEqProofs (disch := first | omega | decide) only [seval, -Int.reducePow, -Nat.reducePow, cC, pv, binv, sHiB1, undef, hp1]
      refine hK _ _ ?_
      clear hK K
      refine cv_cond ?_
      simp -implicitDefEqProofs (disch := first | omega | decide) only [seval, -Int.reducePow, -Nat.reducePow, cC, pv, binv, sHiB1, undef]
      refine cv_seq_k fun K hK => ?_
      refine cv_region_then rfl ?_
      simp -implicitDefEqProofs (disch := first | omega | decide) only [seval, -Int.reducePow, -Nat.reducePow, cC, pv, binv, sHiB1, undef]
      refine hK _ _ ?_
      clear hK K
      refine cv_ret ⟨_, (by simp -implicitDefEqProofs (disch := first | omega | decide) only [seval, -Int.reducePow, -Nat.reducePow, cC, pv, binv, sHiB1, undef]; rfl), fun w hw => ?_⟩
      exact ⟨(false, x), rfl, .no hstep rfl, hw.tail⟩
    · have hp2 : 64 < e.pl := hpl.resolve_left hp1
      simp -implicitDefEqProofs (disch := first | omega | decide) only [seval, -Int.reducePow, -Nat.reducePow, cC, pv, binv, sHiB1, undef, hp1, hp2]
      refine hK _ _ ?_
      clear hK K
      refine cv_cond ?_
      simp -implicitDefEqProofs (disch := first | omega | decide) only [seval, -Int.reducePow, -Nat.reducePow, cC, pv, binv, sHiB1, undef]
      refine cv_seq_k fun K hK => ?_
      refine cv_region_then rfl ?_
      simp -implicitDefEqProofs (disch := first | omega | decide) only [seval, -Int.reducePow, -Nat.reducePow, cC, pv, binv, sHiB1, undef]
      refine hK _ _ ?_
      clear hK K
      refine cv_ret ⟨_, (by simp -implicitDefEqProofs (disch := first | omega | decide) only [seval, -Int.reducePow, -Nat.reducePow, cC, pv, binv, sHiB1, undef]; rfl), fun w hw => ?_⟩
      exact ⟨(false, x), rfl, .no hstep rfl, hw.tail⟩
  rw [if_neg hpl] at hstep
  have hp1 : ¬ e.pl < 1 := fun h => hpl (.inl h)
  have hp2 : ¬ 64 < e.pl := fun h => hpl (.inr h)
  refine cv_seq_k fun K hK => ?_
  refine cv_region_then rfl ?_
  simp -implicitDefEqProofs (disch := first | omega | decide) only [seval, -Int.reducePow, -Nat.reducePow, cC, pv, binv, sHiB1, undef, hp1, hp2]
  refine hK _ _ ?_
  clear hK K
  refine cv_cond ?_
  simp -implicitDefEqProofs (disch := first | omega | decide) only [seval, -Int.reducePow, -Nat.reducePow, cC, pv, binv, sHiB1, undef]
  by_cases o32 : e.op = 32
  · have d32 : decide (e.op = 32) = true := by simp [o32]
    rw [if_pos o32] at hstep
    refine cv_seq_k fun K hK => ?_
    refine cv_region_then rfl ?_
    simp -implicitDefEqProofs (disch := first | omega | decide) only [seval, -Int.reducePow, -Nat.reducePow, cC, pv, binv, sHiB1, undef, d32]
    refine hK _ _ ?_
    clear hK K
    refine cv_cond ?_
    simp -implicitDefEqProofs (disch := first | omega | decide) only [seval, -Int.reducePow, -Nat.reducePow, cC, pv, binv, sHiB1, undef]
    refine cv_seq_k fun K hK => ?_
    refine cv_region_then rfl ?_
    simp -implicitDefEqProofs (disch := first | omega | decide) only [seval, -Int.reducePow, -Nat.reducePow, cC, pv, binv, sHiB1, undef]
    refine callV_sub [evBox b3 e] (hsL x) (List.Perm.refl _) didV didL _ (fun w hw => hStart_any x e.pl w hw) ?_
    intro i hi
    simp -implicitDefEqProofs (disch := first | omega | decide) only [seval, -Int.reducePow, -Nat.reducePow, cC, pv, binv, sHiB1, undef, didV]
    refine hK _ _ ?_
    clear hK K
    refine cv_ret ⟨_, (by simp -implicitDefEqProofs (disch := first | omega | decide) only [seval, -Int.reducePow, -Nat.reducePow, cC, pv, binv, sHiB1, undef]; rfl), fun w hw => ?_⟩
    rw [hs] at hi
    exact ⟨i, rfl, hstep ▸ hi, hw.sub (List.sublist_append_left _ _)⟩
  rw [if_neg o32] at hstep
  refine cv_seq_k fun K hK => ?_
  refine cv_region_then rfl ?_
  simp -implicitDefEqProofs (disch := first | omega | decide) only [seval, -Int.reducePow, -Nat.reducePow, cC, pv, binv, sHiB1, undef, o32]
  refine hK _ _ ?_
  clear hK K
  refine cv_cond ?_
  simp -implicitDefEqProofs (disch := first | omega | decide) only [seval, -Int.reducePow, -Nat.reducePow, cC, pv, binv, sHiB1, undef]
  refine cv_eq (L' := evBox b3 e :: .blk x.bS 63 [.map (some x.b1), .map (some x.b2)] :: mvR x.b1 (kmap Value.bool x.sd) :: mvR x.b2 (kmap obP x.os) :: obsL x.os) rfl ?_
  refine cv_fact (x.bS ≠ b3) (fun w hw => hw.bNe 1 0 rfl rfl (by decide)) fun hn1 => ?_
  have hal : ((kget x.sd e.pl).map Value.bool).getD (.bool false) = .bool (alive s e.pl) := by
    rw [← hs]
    unfold alive HsR.pl
    cases kget x.sd e.pl <;> rfl
  refine cv_seq_k fun K hK => ?_
  refine cv_draw [(true, 0), (true, 1), (true, 2), (true, 3), (true, 4), (true, 5), (false, 6), (true, 7), (true, 8)] [] mixA rfl (by kernel_rfl) (by kernel_rfl) rfl rfl ?_
  simp -implicitDefEqProofs (disch := first | omega | decide) only [seval, -Int.reducePow, -Nat.reducePow, cC, pv, binv, sHiB1, undef]
  refine xv_vlook1 mvSt rfl rfl (fun w hw => hw.mvH 2 rfl) ?_
  rw [vget_kmap, hal]
  simp -implicitDefEqProofs (disch := first | omega | decide) only [seval, -Int.reducePow, -Nat.reducePow, cC, pv, binv, sHiB1, undef]
  refine hK _ _ ?_
  clear hK K
  refine cv_cond ?_
  cases hav : alive s e.pl with
  | false =>
    rw [hav, if_pos rfl] at hstep
    simp -implicitDefEqProofs (disch := first | omega | decide) only [seval, -Int.reducePow, -Nat.reducePow, cC, pv, binv, sHiB1, undef]
    refine cv_seq_k fun K hK => ?_
    refine cv_region_then rfl ?_
    simp -implicitDefEqProofs (disch := first | omega | decide) only [seval, -Int.reducePow, -Nat.reducePow, cC, pv, binv, sHiB1, undef]
    refine hK _ _ ?_
    clear hK K
    refine cv_ret ⟨_, (by simp -implicitDefEqProofs (disch := first | omega | decide) only [seval, -Int.reducePow, -Nat.reducePow, cC, pv, binv, sHiB1, undef]; rfl), fun w hw => ?_⟩
    exact ⟨(false, x), rfl, .no hstep rfl, hw.tail⟩
  | true =>
  rw [hav, if_neg (by decide : ¬ (true = false))] at hstep
  simp -implicitDefEqProofs (disch := first | omega | decide) only [seval, -Int.reducePow, -Nat.reducePow, cC, pv, binv, sHiB1, undef]
  refine cv_skip ?_
  try simp only [blockQ, thenQ]
  refine hK _ _ ?_
  clear hK K
  refine cv_eq (L' := evBox b3 e :: hsL x) rfl ?_
  refine cv_gen fun G1 hG => ?_
  have g1_0 := congrFun hG 0
  have g1_3 := congrFun hG 3
  clear hG
  try simp -implicitDefEqProofs (disch := first | omega | decide) only [seval, -Int.reducePow, -Nat.reducePow, cC, pv, binv, sHiB1, undef] at g1_0 g1_3
  have g1 := And.intro g1_0 g1_3
  refine cv_seq_k fun K hK => ?_
  refine cv_seq_k fun K hK => ?_
  refine cv_region_then rfl ?_
  simp -implicitDefEqProofs (disch := first | omega | decide) only [seval, -Int.reducePow, -Nat.reducePow, cC, pv, binv, sHiB1, undef, g1]
  refine hK _ _ ?_
  clear hK K
  refine cv_block ?_
  by_cases o33 : e.op = 33
  · have d33 : decide (e.op = 33) = true := by simp [o33]
    rw [if_pos o33] at hstep
    refine cv_seq_k fun K hK => ?_
    refine cv_region_then rfl ?_
    simp -implicitDefEqProofs (disch := first | omega | decide) only [seval, -Int.reducePow, -Nat.reducePow, cC, pv, binv, sHiB1, undef, d33, g1]
    refine hK _ _ ?_
    clear hK K
    refine cv_cond ?_
    simp -implicitDefEqProofs (disch := first | omega | decide) only [seval, -Int.reducePow, -Nat.reducePow, cC, pv, binv, sHiB1, undef, g1]
    refine cv_seq_k fun K hK => ?_
    refine cv_region_then rfl ?_
    simp -implicitDefEqProofs (disch := first | omega | decide) only [seval, -Int.reducePow, -Nat.reducePow, cC, pv, binv, sHiB1, undef, g1]
    refine callV_sub [evBox b3 e] (hsL x) (List.Perm.refl _) didV didL _ (fun w hw => hEnd_any x e k hI hk he w hw) ?_
    intro i hi
    simp -implicitDefEqProofs (disch := first | omega | decide) only [seval, -Int.reducePow, -Nat.reducePow, cC, pv, binv, sHiB1, undef, didV, g1]
    refine hK _ _ ?_
    clear hK K
    refine cv_ret ⟨_, (by simp -implicitDefEqProofs (disch := first | omega | decide) only [seval, -Int.reducePow, -Nat.reducePow, cC, pv, binv, sHiB1, undef, g1]; rfl), fun w hw => ?_⟩
    rw [hs] at hi
    exact ⟨i, rfl, hstep ▸ hi, hw.sub (List.sublist_append_left _ _)⟩
  rw [if_neg o33] at hstep
  refine cv_seq_k fun K hK => ?_
  refine cv_region_then rfl ?_
  simp -implicitDefEqProofs (disch := first | omega | decide) only [seval, -Int.reducePow, -Nat.reducePow, cC, pv, binv, sHiB1, undef, o33, g1]
  refine hK _ _ ?_
  clear hK K
  refine cv_cond ?_
  simp -implicitDefEqProofs (disch := first | omega | decide) only [seval, -Int.reducePow, -Nat.reducePow, cC, pv, binv, sHiB1, undef, g1]
  by_cases o1 : e.op = 1
  · have d1 : decide (e.op = 1) = true := by simp [o1]
    rw [if_pos o1] at hstep
    refine cv_seq_k fun K hK => ?_
    refine cv_region_then rfl ?_
    simp -implicitDefEqProofs (disch := first | omega | decide) only [seval, -Int.reducePow, -Nat.reducePow, cC, pv, binv, sHiB1, undef, d1, g1]
    refine hK _ _ ?_
    clear hK K
    refine cv_cond ?_
    simp -implicitDefEqProofs (disch := first | omega | decide) only [seval, -Int.reducePow, -Nat.reducePow, cC, pv, binv, sHiB1, undef, g1]
    refine cv_seq_k fun K hK => ?_
    refine cv_region_then rfl ?_
    simp -implicitDefEqProofs (disch := first | omega | decide) only [seval, -Int.reducePow, -Nat.reducePow, cC, pv, binv, sHiB1, undef, g1]
    refine callV_sub [evBox b3 e] (hsL x) (List.Perm.refl _) didV didL _ (fun w hw => hAlloc_any x e he w hw) ?_
    intro i hi
    simp -implicitDefEqProofs (disch := first | omega | decide) only [seval, -Int.reducePow, -Nat.reducePow, cC, pv, binv, sHiB1, undef, didV, g1]
    refine hK _ _ ?_
    clear hK K
    refine cv_ret ⟨_, (by simp -implicitDefEqProofs (disch := first | omega | decide) only [seval, -Int.reducePow, -Nat.reducePow, cC, pv, binv, sHiB1, undef, g1]; rfl), fun w hw => ?_⟩
    rw [hs] at hi
    exact ⟨i, rfl, hstep ▸ hi, hw.sub (List.sublist_append_left _ _)⟩
  rw [if_neg o1] at hstep
  refine cv_seq_k fun K hK => ?_
  refine cv_region_then rfl ?_
  simp -implicitDefEqProofs (disch := first | omega | decide) only [seval, -Int.reducePow, -Nat.reducePow, cC, pv, binv, sHiB1, undef, o1, g1]
  refine hK _ _ ?_
  clear hK K
  refine cv_cond ?_
  simp -implicitDefEqProofs (disch := first | omega | decide) only [seval, -Int.reducePow, -Nat.reducePow, cC, pv, binv, sHiB1, undef, g1]
  refine cv_seq_k fun K hK => ?_
  refine cv_cut (fun _ _ => True) (fun F' L' => F' 0 = G1 0 ∧ F' 3 = G1 3 ∧ F' 35 = .int .i64 e.op ∧ F' 46 = .bool (decide (e.op = 2 ∨ e.op = 8 ∨ e.op = 9 ∨ e.op = 10 ∨ e.op = 11)) ∧ L' = evBox b3 e :: hsL x) ?_ ?_
  · by_cases o2 : e.op = 2
    · have d2 : decide (e.op = 2) = true := by simp [o2]
      refine cv_seq_k fun K hK => ?_
      refine cv_region_then rfl ?_
      simp -implicitDefEqProofs (disch := first | omega | decide) only [seval, -Int.reducePow, -Nat.reducePow, cC, pv, binv, sHiB1, undef, d2, g1]
      refine hK _ _ ?_
      clear hK K
      refine cv_cond ?_
      simp -implicitDefEqProofs (disch := first | omega | decide) only [seval, -Int.reducePow, -Nat.reducePow, cC, pv, binv, sHiB1, undef, g1]
      refine cv_skip ?_
      try simp only [blockQ, thenQ]
      simp -implicitDefEqProofs (disch := first | omega | decide) only [seval, -Int.reducePow, -Nat.reducePow, cC, pv, binv, sHiB1, undef, g1]
      simp [o2]
    refine cv_seq_k fun K hK => ?_
    refine cv_region_then rfl ?_
    simp -implicitDefEqProofs (disch := first | omega | decide) only [seval, -Int.reducePow, -Nat.reducePow, cC, pv, binv, sHiB1, undef, o2, g1]
    refine hK _ _ ?_
    clear hK K
    refine cv_cond ?_
    simp -implicitDefEqProofs (disch := first | omega | decide) only [seval, -Int.reducePow, -Nat.reducePow, cC, pv, binv, sHiB1, undef, g1]
    by_cases o8 : e.op = 8
    · have d8 : decide (e.op = 8) = true := by simp [o8]
      refine cv_seq_k fun K hK => ?_
      refine cv_region_then rfl ?_
      simp -implicitDefEqProofs (disch := first | omega | decide) only [seval, -Int.reducePow, -Nat.reducePow, cC, pv, binv, sHiB1, undef, d8, g1]
      refine hK _ _ ?_
      clear hK K
      refine cv_cond ?_
      simp -implicitDefEqProofs (disch := first | omega | decide) only [seval, -Int.reducePow, -Nat.reducePow, cC, pv, binv, sHiB1, undef, g1]
      refine cv_skip ?_
      try simp only [blockQ, thenQ]
      simp -implicitDefEqProofs (disch := first | omega | decide) only [seval, -Int.reducePow, -Nat.reducePow, cC, pv, binv, sHiB1, undef, g1]
      simp [o8]
    refine cv_seq_k fun K hK => ?_
    refine cv_region_then rfl ?_
    simp -implicitDefEqProofs (disch := first | omega | decide) only [seval, -Int.reducePow, -Nat.reducePow, cC, pv, binv, sHiB1, undef, o8, g1]
    refine hK _ _ ?_
    clear hK K
    refine cv_cond ?_
    simp -implicitDefEqProofs (disch := first | omega | decide) only [seval, -Int.reducePow, -Nat.reducePow, cC, pv, binv, sHiB1, undef, g1]
    by_cases o9 : e.op = 9
    · have d9 : decide (e.op = 9) = true := by simp [o9]
      refine cv_seq_k fun K hK => ?_
      refine cv_region_then rfl ?_
      simp -implicitDefEqProofs (disch := first | omega | decide) only [seval, -Int.reducePow, -Nat.reducePow, cC, pv, binv, sHiB1, undef, d9, g1]
      refine hK _ _ ?_
      clear hK K
      refine cv_cond ?_
      simp -implicitDefEqProofs (disch := first | omega | decide) only [seval, -Int.reducePow, -Nat.reducePow, cC, pv, binv, sHiB1, undef, g1]
      refine cv_skip ?_
      try simp only [blockQ, thenQ]
      simp -implicitDefEqProofs (disch := first | omega | decide) only [seval, -Int.reducePow, -Nat.reducePow, cC, pv, binv, sHiB1, undef, g1]
      simp [o9]
    refine cv_seq_k fun K hK => ?_
    refine cv_region_then rfl ?_
    simp -implicitDefEqProofs (disch := first | omega | decide) only [seval, -Int.reducePow, -Nat.reducePow, cC, pv, binv, sHiB1, undef, o9, g1]
    refine hK _ _ ?_
    clear hK K
    refine cv_cond ?_
    simp -implicitDefEqProofs (disch := first | omega | decide) only [seval, -Int.reducePow, -Nat.reducePow, cC, pv, binv, sHiB1, undef, g1]
    by_cases o10 : e.op = 10
    · have d10 : decide (e.op = 10) = true := by simp [o10]
      refine cv_seq_k fun K hK => ?_
      refine cv_region_then rfl ?_
      simp -implicitDefEqProofs (disch := first | omega | decide) only [seval, -Int.reducePow, -Nat.reducePow, cC, pv, binv, sHiB1, undef, d10, g1]
      refine hK _ _ ?_
      clear hK K
      refine cv_cond ?_
      simp -implicitDefEqProofs (disch := first | omega | decide) only [seval, -Int.reducePow, -Nat.reducePow, cC, pv, binv, sHiB1, undef, g1]
      refine cv_skip ?_
      try simp only [blockQ, thenQ]
      simp -implicitDefEqProofs (disch := first | omega | decide) only [seval, -Int.reducePow, -Nat.reducePow, cC, pv, binv, sHiB1, undef, g1]
      simp [o10]
    refine cv_seq_k fun K hK => ?_
    refine cv_region_then rfl ?_
    simp -implicitDefEqProofs (disch := first | omega | decide) only [seval, -Int.reducePow, -Nat.reducePow, cC, pv, binv, sHiB1, undef, o10, g1]
    refine hK _ _ ?_
    clear hK K
    refine cv_cond ?_
    simp -implicitDefEqProofs (disch := first | omega | decide) only [seval, -Int.reducePow, -Nat.reducePow, cC, pv, binv, sHiB1, undef, g1]
    refine cv_region_q rfl ?_
    simp -implicitDefEqProofs (disch := first | omega | decide) only [seval, -Int.reducePow, -Nat.reducePow, cC, pv, binv, sHiB1, undef, g1]
    simp [o2, o8, o9, o10]
  intro G2 L' _ hF
  obtain ⟨q0, q3, q35, q46, rfl⟩ := hF
  have g2_0 := q0.trans g1_0
  have g2_3 := q3.trans g1_3
  have g2_35 := q35
  have g2_46 := q46
  clear q0 q3 q35 q46
  have g2 := And.intro g2_0 (And.intro g2_3 (And.intro g2_35 g2_46))
  refine hK _ _ ?_
  clear hK K
  refine cv_cond ?_
  by_cases hu : e.op = 2 ∨ e.op = 8 ∨ e.op = 9 ∨ e.op = 10 ∨ e.op = 11
  · rw [if_pos hu] at hstep
    simp -implicitDefEqProofs (disch := first | omega | decide) only [seval, -Int.reducePow, -Nat.reducePow, cC, pv, binv, sHiB1, undef, hu, g2]
    refine cv_seq_k fun K hK => ?_
    refine cv_region_then rfl ?_
    simp -implicitDefEqProofs (disch := first | omega | decide) only [seval, -Int.reducePow, -Nat.reducePow, cC, pv, binv, sHiB1, undef, g2]
    refine callV_sub [evBox b3 e] (hsL x) (List.Perm.refl _) didV didL _ (fun w hw => hUse_any x e k hI hk he w hw) ?_
    intro i hi
    simp -implicitDefEqProofs (disch := first | omega | decide) only [seval, -Int.reducePow, -Nat.reducePow, cC, pv, binv, sHiB1, undef, didV, g2]
    refine hK _ _ ?_
    clear hK K
    refine cv_ret ⟨_, (by simp -implicitDefEqProofs (disch := first | omega | decide) only [seval, -Int.reducePow, -Nat.reducePow, cC, pv, binv, sHiB1, undef, g2]; rfl), fun w hw => ?_⟩
    rw [hs] at hi
    exact ⟨i, rfl, hstep ▸ hi, hw.sub (List.sublist_append_left _ _)⟩
  rw [if_neg hu] at hstep
  simp -implicitDefEqProofs (disch := first | omega | decide) only [seval, -Int.reducePow, -Nat.reducePow, cC, pv, binv, sHiB1, undef, hu, g2]
  refine cv_skip ?_
  try simp only [blockQ, thenQ]
  refine hK _ _ ?_
  clear hK K
  refine cv_seq_k fun K hK => ?_
  refine cv_region_then rfl ?_
  simp -implicitDefEqProofs (disch := first | omega | decide) only [seval, -Int.reducePow, -Nat.reducePow, cC, pv, binv, sHiB1, undef, g2]
  refine hK _ _ ?_
  clear hK K
  refine cv_ret ⟨_, (by simp -implicitDefEqProofs (disch := first | omega | decide) only [seval, -Int.reducePow, -Nat.reducePow, cC, pv, binv, sHiB1, undef, g2]; rfl), fun w hw => ?_⟩
  exact ⟨(false, x), rfl, .no hstep rfl, hw.tail⟩
end Go.Proofs.Ytaifnipgefkemaa
/- The keys of the history's maps, sorted: maps.Keys and slices.Sorted by the library's contracts. -/
namespace Go.Proofs.Ytaifnipgefkemaa
open Go.RowKit Go.Shelf Go.Maps Go.Sort
set_option linter.unusedVariables false
set_option linter.unusedSimpArgs false
theorem sorts_any (m : Nat) : AnyZI.SortsIn Try.prog sortedLay_ren Fence.wide m :=
  ⟨fun blk off cap ss W hH hblk hsz => callsIn_wide.2 (AnyM.slices_Sort_int sortLay blk off cap ss W hH hblk hsz),
   fun p cap W => callsIn_wide.2 (AnyM.slices_Sort_int_none sortLay p cap W)⟩
/-- A value that is not looked at. -/
def blind (_ : Value) : Option (DataW Unit × List MemPlace) := some (.nil, [])
/-- A map's block with whatever keys of type int. -/
def KsH (w : World) (b : Nat) (ks : List Int) : Prop := ∃ (es : Array MapEntry) (cl : Nat), w.heap[b]? = some (.map es cl) ∧ es.toList.map (·.key) = ks.map (Value.int .i64) ∧ MapKept.Stamped es cl
theorem MvH.ks {w : World} {b : Nat} {l : List (Int × Value)} (h : MvH w b l) : KsH w b (keys l) := by
  obtain ⟨es, cl, h1, h2, h3⟩ := h
  refine ⟨es, cl, h1, ?_, h3⟩
  have := congrArg (List.map Prod.fst) h2
  simp only [List.map_map] at this
  unfold keys
  rw [List.map_map]
  exact this
theorem ownsMap_ks {w : World} {b : Nat} {ks : List Int} {P : Program} {k : TypeId} (hk : P.underlying k = some (.int .i64)) (h : KsH w b ks) (hwf : ∀ x ∈ ks, (Lit.int .i64 x).wf = true) (hl : ks.length ≤ maxLen) :
    ∃ D0 : DataW Unit, w.ownsMap P k blind b ks.length D0 ∧ (intKeys D0).Perm ks ∧ Maps.size D0 = ks.length := by
  obtain ⟨es, cl, h1, h2, h3⟩ := h
  have hlen : es.size = ks.length := by have := congrArg List.length h2; simpa using this
  have hrd : ∀ x ∈ es.toList, ∃ a : Int, a ∈ ks ∧ x.key = .int .i64 a ∧ WideElems.rd P k blind x = some (.int .i64 a, .nil) := fun x hx => by
    have hm : x.key ∈ ks.map (Value.int .i64) := by rw [← h2]; exact List.mem_map.2 ⟨x, hx, rfl⟩
    obtain ⟨a, ha, hax⟩ := List.mem_map.1 hm
    refine ⟨a, ha, hax.symm, ?_⟩
    simp [WideElems.rd, ← hax, Maps.keyOf_int_mk hk (hwf a ha), blind]
  refine ⟨_, ⟨es, cl, h1, ⟨by rw [hlen]; exact hl, h3, fun x hx => ?_⟩, by omega, rfl⟩, ?_, ?_⟩
  · obtain ⟨a, -, -, h⟩ := hrd x hx
    exact ⟨_, h⟩
  · have hp := (WideShapes.sorted_perm (es.toList.map (WideElems.rg P k blind))).map fun p => Go.intOf p.1
    refine hp.trans (List.Perm.of_eq ?_)
    rw [List.map_map]
    have : (es.toList.map fun x => Go.intOf (WideElems.rg P k blind x).1).map (Value.int .i64) = ks.map (Value.int .i64) := by
      rw [← h2, List.map_map]
      refine List.map_congr_left fun x hx => ?_
      obtain ⟨a, -, h4, h5⟩ := hrd x hx
      simp [WideElems.rg, h5, h4, Go.intOf]
    exact (List.map_inj_right fun a b h => by simpa using h).1 this
  · rw [Maps.size_eq, (WideShapes.sorted_perm (es.toList.map (WideElems.rg P k blind))).length_eq, List.length_map, Array.length_toList, hlen]
theorem mkeys0_any (mb : Option Nat) (W : World) : Calls Try.prog 20 #[.map mb] W fun e w' => e = .returned (.func (.func 38) #[] #[.pointer (some ⟨W.heap.size, 0, none⟩)]) ∧ w' = W.alloc (.cells #[.map mb] 61) :=
  callsIn_wide.1 (AnyZI.keys_in keysLay0 Fence.wide 5 trivial rfl mb W)
theorem sortedKeys0_any (Bm b : Nat) (ks : List Int) (w : World) (hm : w.cell? ⟨Bm, 0, none⟩ = some (.map (some b))) (hB : Bm < w.heap.size) (hM : KsH w b ks) (hwf : ∀ x ∈ ks, (Lit.int .i64 x).wf = true) (hl : ks.length ≤ 1000) :
    Calls Try.prog 19 #[.func (.func 38) #[] #[.pointer (some ⟨Bm, 0, none⟩)]] w fun e w' => ∃ (A : Option Addr) (n c : Nat), e = .returned (.slice A n c) ∧
      w'.ownsRow w.heap.size 3 1 (.slice A n c) n ((ks.mergeSort leI).map (Value.int .i64)) ∧ Below w.heap.size w w' := by
  obtain ⟨D0, hown, hp, hs⟩ := ownsMap_ks (P := Try.prog) (k := 3) Try.underlying3 hM hwf (Nat.le_trans hl (by decide))
  have hseq : SeqGives Fence.wide 2 Try.prog 38 #[.pointer (some ⟨Bm, 0, none⟩)] encZ (fun ss => ss.Perm (intKeys D0)) (Maps.size D0) w :=
    AnyZI.keys_gives (ρ := keysLay0_ren) { keysLay0 with } Fence.wide _ trivial rfl (by omega) Bm b ks.length D0 _ hB hm hown
  have cS := AnyZI.sorted_in sortedLay Fence.wide 5 trivial trivial trivial trivial rfl (by omega) (sorts_any _) (enters_of Try.func37 (by kernel_rfl) rfl) 38 #[.pointer (some ⟨Bm, 0, none⟩)] trivial (enters_of Try.func38 (by kernel_rfl) rfl) _ (Maps.size D0) (by rw [hs]; exact Nat.le_trans hl (by decide)) (by rw [hs]; omega) w hseq
  refine (callsIn_wide.1 cS).mono ?_
  rintro e w' ⟨v, ss, rfl, hS, hrow, -, hb⟩
  obtain ⟨A, c, rfl⟩ := slice_of_row hrow
  rw [mergeSort_of_perm_i (hS.trans hp)] at hrow
  exact ⟨A, ss.length, c, rfl, hrow, hb⟩
theorem mkeys1_any (mb : Option Nat) (W : World) : Calls Try.prog 39 #[.map mb] W fun e w' => e = .returned (.func (.func 55) #[] #[.pointer (some ⟨W.heap.size, 0, none⟩)]) ∧ w' = W.alloc (.cells #[.map mb] 91) :=
  callsIn_wide.1 (AnyZI.keys_in keysLay1 Fence.wide 5 trivial rfl mb W)
theorem sortedKeys1_any (Bm b : Nat) (ks : List Int) (w : World) (hm : w.cell? ⟨Bm, 0, none⟩ = some (.map (some b))) (hB : Bm < w.heap.size) (hM : KsH w b ks) (hwf : ∀ x ∈ ks, (Lit.int .i64 x).wf = true) (hl : ks.length ≤ 1000) :
    Calls Try.prog 19 #[.func (.func 55) #[] #[.pointer (some ⟨Bm, 0, none⟩)]] w fun e w' => ∃ (A : Option Addr) (n c : Nat), e = .returned (.slice A n c) ∧
      w'.ownsRow w.heap.size 3 1 (.slice A n c) n ((ks.mergeSort leI).map (Value.int .i64)) ∧ Below w.heap.size w w' := by
  obtain ⟨D0, hown, hp, hs⟩ := ownsMap_ks (P := Try.prog) (k := 3) Try.underlying3 hM hwf (Nat.le_trans hl (by decide))
  have hseq : SeqGives Fence.wide 2 Try.prog 55 #[.pointer (some ⟨Bm, 0, none⟩)] encZ (fun ss => ss.Perm (intKeys D0)) (Maps.size D0) w :=
    AnyZI.keys_gives (ρ := keysLay1_ren) { keysLay1 with } Fence.wide _ trivial rfl (by omega) Bm b ks.length D0 _ hB hm hown
  have cS := AnyZI.sorted_in sortedLay Fence.wide 5 trivial trivial trivial trivial rfl (by omega) (sorts_any _) (enters_of Try.func37 (by kernel_rfl) rfl) 55 #[.pointer (some ⟨Bm, 0, none⟩)] trivial (enters_of Try.func55 (by kernel_rfl) rfl) _ (Maps.size D0) (by rw [hs]; exact Nat.le_trans hl (by decide)) (by rw [hs]; omega) w hseq
  refine (callsIn_wide.1 cS).mono ?_
  rintro e w' ⟨v, ss, rfl, hS, hrow, -, hb⟩
  obtain ⟨A, c, rfl⟩ := slice_of_row hrow
  rw [mergeSort_of_perm_i (hS.trans hp)] at hrow
  exact ⟨A, ss.length, c, rfl, hrow, hb⟩
theorem leI_eq : leI = fun x y => decide (x ≤ y) := rfl
theorem sortK_eq {α : Type} (l : List (Int × α)) : (keys l).mergeSort leI = keys (srtL l) := by rw [srtL_keys, leI_eq]
end Go.Proofs.Ytaifnipgefkemaa
/- An object as an inspector sees it: list. -/
namespace Go.Proofs.Ytaifnipgefkemaa
open Go.RowKit Go.Shelf
set_option linter.unusedVariables false
set_option linter.unusedSimpArgs false
set_option maxRecDepth 100000
structure Bw where
  ob : Int
  ho : Int
  mo : Int
  co : Int
deriving DecidableEq
def bwc (b : Bw) : List Value := [.int .i64 b.ob, .int .i64 b.ho, .int .i64 b.mo, .int .i64 b.co]
def bwCells (l : List Bw) : List Value := l.flatMap bwc
theorem bwCells_nil : bwCells [] = [] := rfl
theorem bwCells_len (l : List Bw) : (bwCells l).length = l.length * 4 := by
  induction l with
  | nil => rfl
  | cons b l ih => rw [bwCells, List.flatMap_cons, List.length_append, List.length_cons, ← bwCells, ih, bwc]; simp; omega
theorem bwCells_app (a b : List Bw) : bwCells (a ++ b) = bwCells a ++ bwCells b := by simp [bwCells]
theorem bwCells_snoc (l : List Bw) (b : Bw) : bwCells (l ++ [b]) = bwCells l ++ [.int .i64 b.ob, .int .i64 b.ho, .int .i64 b.mo, .int .i64 b.co] := by rw [bwCells_app]; rfl
/-- A result's object: its plain parts, and where its borrows lie. -/
structure RO where
  h : Nat
  ow : Int
  A : Option Addr
  n : Nat
  c : Nat
  bs : List Bw
structure RP where
  h : Nat
  ow : Int
  bs : List Bw
deriving DecidableEq
def RO.pl (o : RO) : RP := ⟨o.h, o.ow, o.bs⟩
def roV (o : RO) : Value := .agg #[.int .u64 (o.h : Int), .int .i64 o.ow, .int .i64 0, .int .i64 0, .slice none 0 0, .slice o.A o.n o.c]
def roc (o : RO) : List Value := [.int .u64 (o.h : Int), .int .i64 o.ow, .int .i64 0, .int .i64 0, .slice none 0 0, .slice o.A o.n o.c]
def roRow (o : RO) : Res := .row (.slice o.A o.n o.c) 82 4 o.n (bwCells o.bs)
def bwO (o : Ob) (c : Int × Int) : Bw := ⟨slotF o.h, c.1, o.mo, c.2⟩
def outO (o : Ob) : RP := ⟨o.h, o.ow, (srtL o.cs).map (bwO o)⟩
theorem wfI64h {x : Int} (h : -9223372036854775808 ≤ x ∧ x ≤ 9223372036854775807) : (Lit.int .i64 x).wf = true := by
  simp only [Lit.wf, Bool.and_eq_true, decide_eq_true_eq]
  exact h
set_option maxRecDepth 100000 in
theorem sHiL1 : type_of% (And.intro (And.intro (And.intro @evBox.eq_1 @obP.eq_1) (And.intro @Nat.mul_one (And.intro @wrap_in @cMv))) (And.intro (And.intro @cM (And.intro @suf_o3 @suf_o4)) (And.intro @suf_o5 (And.intro @suf_o6 @suf_o7)))) := (And.intro (And.intro (And.intro @evBox.eq_1 @obP.eq_1) (And.intro @Nat.mul_one (And.intro @wrap_in @cMv))) (And.intro (And.intro @cM (And.intro @suf_o3 @suf_o4)) (And.intro @suf_o5 (And.intro @suf_o6 @suf_o7))))
set_option maxHeartbeats 2000000 in
theorem hList_any (o : ObR) (k : Nat) (sl : Int) (hk : k ≤ 1000) (hok : ObOk k (sl, o.o)) (W : World) (hst : St (feet (obL o)) W (obL o) W) :
    Calls Try.prog 21 #[.pointer (some ⟨o.b, 0, none⟩)] W
    fun en w' => ∃ i : RO, en = .returned (roV i) ∧ i.pl = outO o.o ∧ St (feet (obL o)) W (roRow i :: obL o) w' := by
  obtain ⟨M, hM⟩ : ∃ M, feet (obL o) = M := ⟨_, rfl⟩
  rw [hM] at hst ⊢
  have hnd := hok.nd
  have hcn := hok.cnt
  have hh64 := hok.h64
  obtain ⟨b, bc, o⟩ := o
  obtain ⟨h, ow, mo, cs⟩ := o
  unfold obL at hst
  dsimp only at hst hnd hcn hh64 ⊢
  clear hM
  have hlen : cs.length ≤ k := hok.cl
  have hks : ∀ y ∈ keys cs, (Lit.int .i64 y).wf = true := fun y hy => by
    obtain ⟨p, hp, rfl⟩ := List.mem_map.1 hy
    have := hcn p hp
    exact wfI64h (by omega)
  refine calls_cv2 (M := M) (n := 50) [.cell 2 43] rfl Try.func21 rfl rfl (Nat.le_of_ble_eq_true rfl)  hst ?_
  refine cv_seq_k fun K hK => ?_
  refine cv_region_then rfl ?_
  simp -implicitDefEqProofs (disch := first | omega | decide) only [seval, -Int.reducePow, -Nat.reducePow, cC, pv, binv, sHiL1, undef]
  intro b2 hb2 hf2
  refine hK _ _ ?_
  clear hK K
  refine cv_seq_k fun K hK => ?_
  refine cv_draw [(true, 0), (true, 1), (true, 2), (true, 3), (true, 4), (true, 5), (true, 6), (true, 7), (true, 8), (false, 9), (false, 10)] [10] mixA rfl (by kernel_rfl) (by kernel_rfl) rfl rfl ?_
  simp -implicitDefEqProofs (disch := first | omega | decide) only [seval, -Int.reducePow, -Nat.reducePow, cC, pv, binv, sHiL1, undef]
  intro b3 hb3 hf3
  refine hK _ _ ?_
  clear hK K
  refine cv_seq_k fun K hK => ?_
  refine cv_seq_k fun K hK => ?_
  refine cv_region_then rfl ?_
  simp -implicitDefEqProofs (disch := first | omega | decide) only [seval, -Int.reducePow, -Nat.reducePow, cC, pv, binv, sHiL1, undef]
  refine callV_box (f := fun b => .func (.func 55) #[] #[.pointer (some ⟨b, 0, none⟩)]) (t := 91) (cs := [.map (some bc)]) (fun w hw => mkeys1_any (some bc) w) ?_
  intro bk hbk hfk
  simp -implicitDefEqProofs (disch := first | omega | decide) only [seval, -Int.reducePow, -Nat.reducePow, cC, pv, binv, sHiL1, undef]
  refine callV_row (fun A n c => .slice A n c) (fun w hw => (sortedKeys1_any bk bc (keys cs) w (by rw [hw.blk_cell (.head _)]; rfl) (hw.own _ (.head _) bk (by simp [Res.foot])).2 (by have := (hw.mvH 4 rfl).ks; rw [keys_kmap] at this; exact this) hks (by unfold keys; rw [List.length_map]; omega)).mono fun e w' ⟨A, n, c, q1, q2, q3⟩ => ⟨A, n, c, q1, q2, q3⟩) ?_
  intro A2 n2 c2 hl2 hr2
  rw [sortK_eq] at hl2 ⊢
  simp -implicitDefEqProofs (disch := first | omega | decide) only [seval, -Int.reducePow, -Nat.reducePow, cC, pv, binv, sHiL1, undef]
  refine hK _ _ ?_
  clear hK K
  refine cv_gen fun G1 hG => ?_
  have g1_0 := congrFun hG 0
  have g1_2 := congrFun hG 2
  have g1_3 := congrFun hG 3
  have g1_20 := congrFun hG 20
  have g1_21 := congrFun hG 21
  have g1_22 := congrFun hG 22
  clear hG
  try simp -implicitDefEqProofs (disch := first | omega | decide) only [seval, -Int.reducePow, -Nat.reducePow, cC, pv, binv, sHiL1, undef] at g1_0 g1_2 g1_3 g1_20 g1_21 g1_22
  have g1 := And.intro g1_0 (And.intro g1_2 (And.intro g1_3 (And.intro g1_20 (And.intro g1_21 g1_22))))
  have hn2 : (srtL cs).length = n2 := by rw [List.length_map] at hl2; unfold keys at hl2; rw [List.length_map] at hl2; omega
  have hsl : (srtL cs).length = cs.length := by have := congrArg List.length (srtL_keys (l := cs)); rw [List.length_mergeSort] at this; unfold keys at this; rw [List.length_map, List.length_map] at this; exact this
  refine cv_nil 82 4 ?_
  refine cv_pick [0, 3, 4, 1, 5, 6] (by decide) ?_
  simp only [pickL, nth]
  refine cv_block ?_
  refine cv_loop (fun F' L' => ∃ (i : Nat) (A : Option Addr) (n c : Nat), F' 0 = G1 0 ∧ F' 2 = G1 2 ∧ F' 3 = G1 3 ∧ F' 20 = G1 20 ∧ F' 21 = G1 21 ∧ F' 22 = .int .i64 (i : Int) ∧ L' = [.row (.slice A n c) 82 4 n (bwCells (((srtL cs).map (bwO ⟨h, ow, mo, cs⟩)).take i)), .blk b3 43 [.int .u64 (h : Int), .int .i64 ow, .int .i64 0, .int .i64 0, .slice none 0 0, .slice A n c], .blk b2 43 [.int .u64 0, .int .i64 0, .int .i64 0, .int .i64 0, .slice none 0 0, .slice none 0 0], .row (.slice A2 n2 c2) 3 1 n2 ((keys (srtL cs)).map (Value.int .i64)), .blk b 93 [.int .u64 (h : Int), .int .i64 ow, .int .i64 mo, .map (some bc)], mvR bc (kmap (Value.int .i64) cs)] ∧ i ≤ n2) (fun F' L' => 2000 - (intOf (F' 22)).toNat) ?_ ?_
  · refine ⟨0, none, 0, 0, ?_⟩
    simp -implicitDefEqProofs (disch := first | omega | decide) only [seval, -Int.reducePow, -Nat.reducePow, cC, pv, binv, sHiL1, undef, g1]
    exact ⟨rfl, by omega⟩
  intro G2 L' hI
  obtain ⟨i, A, n, c, q0, q2, q3, q20, q21, q22, rfl, hi⟩ := hI
  have g2_0 := q0.trans g1_0
  have g2_2 := q2.trans g1_2
  have g2_3 := q3.trans g1_3
  have g2_20 := q20.trans g1_20
  have g2_21 := q21.trans g1_21
  have g2_22 := q22
  clear q0 q2 q3 q20 q21 q22
  have g2 := And.intro g2_0 (And.intro g2_2 (And.intro g2_3 (And.intro g2_20 (And.intro g2_21 g2_22))))
  refine cv_seq_k fun K hK => ?_
  refine cv_region_then rfl ?_
  simp -implicitDefEqProofs (disch := first | omega | decide) only [seval, -Int.reducePow, -Nat.reducePow, cC, pv, binv, sHiL1, undef, g1, g2]
  refine hK _ _ ?_
  clear hK K
  refine cv_seq_k fun K hK => ?_
  refine cv_cond ?_
  simp -implicitDefEqProofs (disch := first | omega | decide) only [seval, -Int.reducePow, -Nat.reducePow, cC, pv, binv, sHiL1, undef, g1, g2]
  refine ⟨fun hc => ?_, fun hc => ?_⟩
  · refine cv_skip ?_
    try simp only [blockQ, thenQ]
    have hit : i < n2 := by have := of_decide_eq_true ‹decide ((i : Int) < (n2 : Int)) = true›; omega
    obtain ⟨p, hp⟩ : ∃ p, (srtL cs)[i]? = some p := ⟨_, List.getElem?_eq_getElem (by omega)⟩
    have hkv : ((keys (srtL cs)).map (Value.int .i64))[i]? = some (.int .i64 p.1) := by unfold keys; rw [List.getElem?_map, List.getElem?_map, hp]; rfl
    have htk : ((srtL cs).map (bwO ⟨h, ow, mo, cs⟩)).take (i + 1) = ((srtL cs).map (bwO ⟨h, ow, mo, cs⟩)).take i ++ [bwO ⟨h, ow, mo, cs⟩ p] := by
      rw [List.take_add_one, List.getElem?_map, hp]
      rfl
    have hpg : kget cs p.1 = some p.2 := by
      rw [← srtL_get hnd, ← kget_of (srtL_srt hnd).nodup (List.mem_of_getElem? hp)]
    refine hK _ _ ?_
    clear hK K
    refine cv_len 0 rfl fun hlA => ?_
    have hn200 : n ≤ 1000 := by
      rw [bwCells_len, List.length_take, List.length_map] at hlA
      omega
    refine cv_rowA 3 rfl (by omega) fun g hAA hg hNN => ?_
    subst hAA
    simp only [List.eraseIdx_cons_zero, List.eraseIdx_cons_succ, neB_nil, neB_blk, neB_row, neB_snap, and_true, List.not_mem_nil, or_false, sHiL1, undef] at hNN hg
    replace hg := And.intro hg hNN
    clear hNN
    refine cv_apart fun hap => ?_
    simp only [factL_nil, factL_blk, factL_row, neR_nil, neR_blk, neR_row, neB_nil, neB_blk, neB_row, and_true, true_and, List.not_mem_nil, or_false, sHiL1, undef] at hap
    obtain hap := hap
    refine cv_seq_k fun K hK => ?_
    refine cv_block ?_
    refine cv_seq_k fun K hK => ?_
    refine cv_region_then rfl ?_
    simp -implicitDefEqProofs (disch := first | omega | decide) only [seval, -Int.reducePow, -Nat.reducePow, cC, pv, binv, sHiL1, undef, g1, g2]
    refine ⟨_, ld_row1 (i := i) (v := .int .i64 p.1) (.tail _ (.tail _ (.tail _ (.head _)))) rfl hkv, fun tok htok => ?_⟩
    subst htok
    simp -implicitDefEqProofs (disch := first | omega | decide) only [seval, -Int.reducePow, -Nat.reducePow, cC, pv, binv, sHiL1, undef, g1, g2]
    refine hK _ _ ?_
    clear hK K
    refine cv_q ?_
    refine cv_more [1, 4, 5] (by decide) (by simp only [pickL, nth, suf_cons, suf_nil, List.mem_cons, true_or, or_true, and_true, eq_self]) (.rd 0 (.rd 1 (.rd 2 (.rd 3 (.rd 4 (.rd 5 (.rd 7 (.rd 8 (.rd 9 (.rd 10 (.rd 11 (.rd 12 (.rd 13 (.rd 14 (.rd 15 (.rd 16 (.more 6 (.act 17 (.rd 18 (.act 19 (.act 20 (.rd 21 (.act 22 (.done))))))) (.act 17 (.act 6 (.rd 18 (.act 19 (.act 20 (.rd 21 (.act 22 (.done))))))))))))))))))))))))) [22] mixA rfl (by kernel_rfl) (by kernel_rfl) (by kernel_rfl) (by kernel_rfl) ?_
    simp only [pickL, nth]
    simp -implicitDefEqProofs (disch := first | omega | decide) only [seval, -Int.reducePow, -Nat.reducePow, cC, pv, binv, sHiL1, undef, g1, g2]
    repeat' (first
      | refine And.intro ?_ ?_
      | (refine callV_ret (fun w hw => slot_any h hh64 w) ?_; simp -implicitDefEqProofs (disch := first | omega | decide) only [seval, -Int.reducePow, -Nat.reducePow, cC, pv, binv, sHiL1, undef, g1, g2])
      | (refine xv_vlook1 mvCt rfl rfl (fun w hw => hw.mvH 5 rfl) ?_; rw [vget_kmap, vint_get, hpg, Option.getD_some]; simp -implicitDefEqProofs (disch := first | omega | decide) only [seval, -Int.reducePow, -Nat.reducePow, cC, pv, binv, sHiL1, undef, g1, g2]))
    all_goals
      intro bE hbE hfE
      refine appV_at 1 tap41 rfl (fun w hw => src_blk (size := 4) (.head _) rfl hw) rfl (by omega) (by omega) ?_
      intro A1 c1 hl1 hr1
      simp -implicitDefEqProofs (disch := first | omega | decide) only [seval, -Int.reducePow, -Nat.reducePow, cC, pv, binv, sHiL1, undef, g1, g2]
      refine ⟨[0, 2, 3, 4, 5, 6], by decide, ?_⟩
      simp only [pickL, nth]
      refine hK _ _ ?_
      clear hK K
      refine cv_region_then rfl ?_
      simp -implicitDefEqProofs (disch := first | omega | decide) only [seval, -Int.reducePow, -Nat.reducePow, cC, pv, binv, sHiL1, undef, g1, g2]
      refine ⟨⟨i + 1, A1, n + 1, c1, ?_⟩, ?_⟩
      · rw [htk, bwCells_snoc]
        simp -implicitDefEqProofs (disch := first | omega | decide) only [seval, -Int.reducePow, -Nat.reducePow, cC, pv, binv, sHiL1, undef, Int.natCast_add, g1, g2]
        exact ⟨rfl, by omega⟩
      · simp only [intOf]; omega
  refine cv_exit ?_
  simp only [blockQ, thenQ, if_true, ite_true]
  clear hK K
  refine hK _ _ ?_
  clear hK K
  have hin : i = n2 := by have := of_decide_eq_false ‹decide ((i : Int) < (n2 : Int)) = false›; omega
  subst hin
  rw [List.take_of_length_le (by rw [List.length_map]; omega)]
  refine cv_seq_k fun K hK => ?_
  refine cv_region_then rfl ?_
  simp -implicitDefEqProofs (disch := first | omega | decide) only [seval, -Int.reducePow, -Nat.reducePow, cC, pv, binv, sHiL1, undef, g1, g2]
  refine hK _ _ ?_
  clear hK K
  refine cv_ret ?_
  simp -implicitDefEqProofs (disch := first | omega | decide) only [seval, -Int.reducePow, -Nat.reducePow, cC, pv, binv, sHiL1, undef, retQ2, ressV, packV, g1, g2]
  intro w hw
  have h9 := hw.pick (ix := [0, 4, 5]) (by decide)
  simp only [pickL, nth] at h9
  exact ⟨⟨h, ow, A, n, c, (srtL cs).map (bwO ⟨h, ow, mo, cs⟩)⟩, rfl, rfl, h9⟩
end Go.Proofs.Ytaifnipgefkemaa
/- Replay: the events one by one, then the live objects in the order of their slots. -/
namespace Go.Proofs.Ytaifnipgefkemaa
open Go.RowKit Go.Shelf
set_option linter.unusedVariables false
set_option linter.unusedSimpArgs false
set_option maxRecDepth 100000
theorem flAt {α : Type} {f : α → List Value} {s : Nat} (hf : ∀ a, (f a).length = s) : ∀ {l : List α} {i : Nat} {a : α}, l[i]? = some a → ((l.flatMap f).drop (i * s)).take s = f a
  | [], i, a, h => by simp at h
  | x :: l, 0, a, h => by
    have h : x = a := by simpa using h
    subst h
    rw [Nat.zero_mul, List.drop_zero, List.flatMap_cons, List.take_append_of_le_length (by rw [hf]; exact Nat.le_refl _), List.take_of_length_le (by rw [hf]; exact Nat.le_refl _)]
  | x :: l, i + 1, a, h => by
    have h : l[i]? = some a := by simpa using h
    rw [List.flatMap_cons, show (i + 1) * s = s + i * s by rw [Nat.succ_mul, Nat.add_comm], List.drop_append, List.drop_of_length_le (by rw [hf]; omega), hf, Nat.add_sub_cancel_left, List.nil_append]
    exact flAt hf h
theorem flLen {α : Type} {f : α → List Value} {s : Nat} (hf : ∀ a, (f a).length = s) (l : List α) : (l.flatMap f).length = l.length * s := by
  induction l with
  | nil => simp
  | cons x l ih => rw [List.flatMap_cons, List.length_append, hf, ih, List.length_cons, Nat.succ_mul, Nat.add_comm]
def evCells (es : List EvR) : List Value := es.flatMap evc
def roCells (os : List RO) : List Value := os.flatMap roc
theorem evc_len (e : EvR) : (evc e).length = 5 := rfl
theorem roc_len (o : RO) : (roc o).length = 6 := rfl
theorem roCells_snoc (l : List RO) (o : RO) : roCells (l ++ [o]) = roCells l ++ [.int .u64 (o.h : Int), .int .i64 o.ow, .int .i64 0, .int .i64 0, .slice none 0 0, .slice o.A o.n o.c] := by simp [roCells, roc]
theorem runS_snoc : ∀ (l : List EvR) (s : HS) (e : EvR), runS s (l ++ [e]) = (runS s l).bind fun s' => stepS s' e
  | [], s, e => by
    simp only [List.nil_append, runS]
    show _ = stepS s e
    cases stepS s e <;> rfl
  | x :: l, s, e => by
    simp only [List.cons_append, runS]
    cases stepS s x with
    | none => rfl
    | some s' => exact runS_snoc l s' e
theorem runS_none : ∀ (l r : List EvR) (s : HS), runS s l = none → runS s (l ++ r) = none
  | [], r, s, h => by cases h
  | x :: l, r, s, h => by
    simp only [List.cons_append, runS] at h ⊢
    cases hs : stepS s x with
    | none => rfl
    | some s' =>
      rw [hs] at h
      exact runS_none l r s' h
def hs0 : HS := ⟨[], []⟩
theorem hs0_inv : HInv 0 hs0 := ⟨by simp [hs0, keys], by simp [hs0], fun q hq => by simp [hs0] at hq, fun p hp => by simp [hs0, alive, kget] at hp⟩
def outL (s : HS) : List RP := (srtL s.os).map fun q => outO q.2
structure RepR where
  A : Option Addr
  n : Nat
  c : Nat
  ros : List RO
  err : Int
def repV (i : RepR) : Value := .tuple #[.slice i.A i.n i.c, .int .i64 i.err]
def repL (i : RepR) : List Res := .row (.slice i.A i.n i.c) 43 6 i.n (roCells i.ros) :: i.ros.map roRow
def repS (o : Option HS) : List RP × Int := match o with
  | none => ([], 28)
  | some s => (outL s, 0)
structure RepOk (es : List EvR) (i : RepR) : Prop where
  ros : i.ros.map RO.pl = (repS (runS hs0 es)).1
  err : i.err = (repS (runS hs0 es)).2
theorem perm_mid {r : Res} {B C R O : List Res} : (C ++ ((R ++ [r]) ++ (B ++ O))).Perm ((r :: B) ++ (C ++ (R ++ O))) := by
  have h : (C ++ R ++ ((r :: B) ++ O)).Perm ((r :: B) ++ (C ++ R ++ O)) := List.perm_append_comm_assoc _ _ _
  simpa [List.append_assoc] using h
theorem kmap_srt {α β : Type} (f : α → β) (l : List (Int × α)) : srtL (kmap f l) = kmap f (srtL l) := by
  have key : ∀ ks : List Int, (ks.filterMap fun k => (kget (kmap f l) k).map fun v => (k, v)) = kmap f (ks.filterMap fun k => (kget l k).map fun v => (k, v)) := by
    intro ks
    induction ks with
    | nil => rfl
    | cons k ks ih =>
      rw [List.filterMap_cons, List.filterMap_cons, kget_kmap]
      cases kget l k with
      | none => exact ih
      | some v =>
        simp only [Option.map_some]
        rw [ih]
        rfl
  unfold srtL
  rw [keys_kmap]
  exact key _
theorem St.lookW {W w : World} {L : List Res} {b : Nat} (hw : St [] W L w) (hb : b < W.heap.size) : look L b = none := by
  cases h : look L b with
  | none => rfl
  | some cs =>
    obtain ⟨t, ht⟩ := look_mem h
    have := (hw.own _ ht b (by simp [Res.foot])).1
    simp at this
    omega
theorem St.look5 {M : List Nat} {W w : World} {a r b c d : Res} {T : List Res} (hw : St M W (a :: r :: b :: c :: d :: T) w) {g : Nat} (hg : g ∈ r.foot) : look T g = none := by
  cases h : look T g with
  | none => rfl
  | some cs =>
    obtain ⟨t, ht⟩ := look_mem h
    have h1 := (List.pairwise_cons.1 hw.apart).2
    exact absurd (show g ∈ (Res.blk g t cs).foot by simp [Res.foot]) ((List.pairwise_cons.1 h1).1 _ (by simp [ht]) g hg)
set_option maxRecDepth 100000 in
theorem sHiR1 : type_of% (And.intro (And.intro (And.intro @evBox.eq_1 @obP.eq_1) (And.intro @Nat.mul_one (And.intro @wrap_in @cMv))) (And.intro (And.intro @cM (And.intro @suf_o3 @suf_o4)) (And.intro @suf_o5 (And.intro @suf_o6 @suf_o7)))) := (And.intro (And.intro (And.intro @evBox.eq_1 @obP.eq_1) (And.intro @Nat.mul_one (And.intro @wrap_in @cMv))) (And.intro (And.intro @cM (And.intro @suf_o3 @suf_o4)) (And.intro @suf_o5 (And.intro @suf_o6 @suf_o7))))
set_option maxHeartbeats 2000000 in
theorem hReplay_any (A : Option Addr) (n c : Nat) (es : List EvR) (W : World) (hE : Sl W W.heap.size 5 A n c (evCells es)) (hok : ∀ e ∈ es, e.ok) (hn : n ≤ 900) :
    Calls Try.prog 8 #[.slice A n c] W
    fun en w' => ∃ i : RepR, en = .returned (repV i) ∧ RepOk es i ∧ St [] W (repL i) w' := by
  have hlen : es.length = n := by
    have := hE.len
    unfold evCells at this
    rw [flLen evc_len] at this
    omega
  refine calls_cv (M := []) (n := 48) [.tmp 2, .tmp 3] rfl Try.func8 rfl rfl (Nat.le_of_ble_eq_true rfl) (St.nil _ _) ?_
  refine cv_seq_k fun K hK => ?_
  refine cv_region_then rfl ?_
  simp -implicitDefEqProofs (disch := first | omega | decide) only [seval, -Int.reducePow, -Nat.reducePow, cC, pv, binv, sHiR1, undef]
  refine hK _ _ ?_
  clear hK K
  refine cv_seq_k fun K hK => ?_
  refine cv_region_then rfl ?_
  simp -implicitDefEqProofs (disch := first | omega | decide) only [seval, -Int.reducePow, -Nat.reducePow, cC, pv, binv, sHiR1, undef]
  refine xv_vmk fun b1 hb1 hf1 => ?_
  simp -implicitDefEqProofs (disch := first | omega | decide) only [seval, -Int.reducePow, -Nat.reducePow, cC, pv, binv, sHiR1, undef]
  refine xv_vmk fun b2 hb2 hf2 => ?_
  simp -implicitDefEqProofs (disch := first | omega | decide) only [seval, -Int.reducePow, -Nat.reducePow, cC, pv, binv, sHiR1, undef]
  intro bS hbS
  refine hK _ _ ?_
  clear hK K
  refine cv_seq_k fun K hK => ?_
  refine cv_seq_k fun K hK => ?_
  refine cv_region_then rfl ?_
  simp -implicitDefEqProofs (disch := first | omega | decide) only [seval, -Int.reducePow, -Nat.reducePow, cC, pv, binv, sHiR1, undef]
  refine hK _ _ ?_
  clear hK K
  refine cv_gen fun G1 hG => ?_
  have g1_4 := congrFun hG 4
  have g1_14 := congrFun hG 14
  have g1_15 := congrFun hG 15
  have g1_16 := congrFun hG 16
  clear hG
  try simp -implicitDefEqProofs (disch := first | omega | decide) only [seval, -Int.reducePow, -Nat.reducePow, cC, pv, binv, sHiR1, undef] at g1_4 g1_14 g1_15 g1_16
  have g1 := And.intro g1_4 (And.intro g1_14 (And.intro g1_15 g1_16))
  refine cv_pick [0, 2, 1] (by decide) ?_
  simp only [pickL, nth]
  refine cv_eq (L' := hsL ⟨bS, b1, b2, [], []⟩) rfl ?_
  refine cv_block ?_
  refine cv_loop (fun F' L' => ∃ (i : Nat) (x : HsR), F' 4 = G1 4 ∧ F' 14 = G1 14 ∧ F' 15 = G1 15 ∧ F' 16 = .int .i64 (i : Int) ∧ L' = hsL x ∧ (i ≤ n ∧ x.bS = bS) ∧ HInv i x.pl ∧ runS hs0 (es.take i) = some x.pl) (fun F' L' => 2000 - (intOf (F' 16)).toNat) ?_ ?_
  · refine ⟨0, ⟨bS, b1, b2, [], []⟩, ?_⟩
    simp -implicitDefEqProofs (disch := first | omega | decide) only [seval, -Int.reducePow, -Nat.reducePow, cC, pv, binv, sHiR1, undef, g1]
    exact ⟨by omega, hs0_inv, rfl⟩
  intro G2 L' hI
  obtain ⟨i, x, q4, q14, q15, q16, rfl, ⟨⟨hi, hxb⟩, hI, hrun⟩⟩ := hI
  have g2_4 := q4.trans g1_4
  have g2_14 := q14.trans g1_14
  have g2_15 := q15.trans g1_15
  have g2_16 := q16
  clear q4 q14 q15 q16
  have g2 := And.intro g2_4 (And.intro g2_14 (And.intro g2_15 g2_16))
  refine cv_seq_k fun K hK => ?_
  refine cv_region_then rfl ?_
  simp -implicitDefEqProofs (disch := first | omega | decide) only [seval, -Int.reducePow, -Nat.reducePow, cC, pv, binv, sHiR1, undef, g1, g2]
  refine hK _ _ ?_
  clear hK K
  refine cv_seq_k fun K hK => ?_
  refine cv_cond ?_
  simp -implicitDefEqProofs (disch := first | omega | decide) only [seval, -Int.reducePow, -Nat.reducePow, cC, pv, binv, sHiR1, undef, g1, g2]
  refine ⟨fun hc => ?_, fun hc => ?_⟩
  · refine cv_skip ?_
    try simp only [blockQ, thenQ]
    have hit : i < n := by have := of_decide_eq_true ‹decide ((i : Int) < (n : Int)) = true›; omega
    obtain ⟨e, he⟩ : ∃ e, es[i]? = some e := ⟨_, List.getElem?_eq_getElem (by omega)⟩
    have heo := hok e (List.mem_of_getElem? he)
    obtain ⟨bA, oA, rfl, hbA, -⟩ := hE.cells (by omega)
    have hld := flAt evc_len he
    have htk : es.take (i + 1) = es.take i ++ [e] := by rw [List.take_add_one, he]; rfl
    refine hK _ _ ?_
    clear hK K
    refine cv_fact (look (hsL x) bA = none) (fun w hw => hw.lookW hbA) fun hlk => ?_
    subst hxb
    refine cv_seq_k fun K hK => ?_
    refine cv_block ?_
    refine cv_seq_k fun K hK => ?_
    refine cv_region_then rfl ?_
    simp -implicitDefEqProofs (disch := first | omega | decide) only [seval, -Int.reducePow, -Nat.reducePow, cC, pv, binv, sHiR1, undef, hlk, g1, g2]
    refine ⟨_, hE.ld (i := i * 5) (vs := evc e) (by omega) (by kernel_rfl) hld, fun tok htok => ?_⟩
    subst htok
    simp -implicitDefEqProofs (disch := first | omega | decide) only [seval, -Int.reducePow, -Nat.reducePow, cC, pv, binv, sHiR1, undef, hld, g1, g2]
    intro b6 hb6 hf6
    refine ⟨rfl, rfl, ?_⟩
    refine hK _ _ ?_
    clear hK K
    refine cv_gen fun G3 hG => ?_
    have g3_4 := congrFun hG 4
    have g3_6 := congrFun hG 6
    have g3_14 := congrFun hG 14
    have g3_15 := congrFun hG 15
    have g3_16 := congrFun hG 16
    clear hG
    try simp -implicitDefEqProofs (disch := first | omega | decide) only [seval, -Int.reducePow, -Nat.reducePow, cC, pv, binv, sHiR1, undef, g1, g2] at g3_4 g3_6 g3_14 g3_15 g3_16
    have g3 := And.intro g3_4 (And.intro g3_6 (And.intro g3_14 (And.intro g3_15 g3_16)))
    have hrs : runS hs0 (es.take (i + 1)) = stepS x.pl e := by rw [htk, runS_snoc, hrun]; rfl
    refine cv_seq_k fun K hK => ?_
    refine cv_region_then rfl ?_
    simp -implicitDefEqProofs (disch := first | omega | decide) only [seval, -Int.reducePow, -Nat.reducePow, cC, pv, binv, sHiR1, undef, evc, g1, g2, g3]
    refine callV_sub [.blk b6 37 (evc e)] (hsL x) (List.Perm.refl _) didV didL _ (fun w hw => hApply_any x e i hI (by omega) heo w hw) ?_
    rintro ⟨r, y⟩ hy
    simp -implicitDefEqProofs (disch := first | omega | decide) only [seval, -Int.reducePow, -Nat.reducePow, cC, pv, binv, sHiR1, undef, didV, g1, g2, g3]
    refine hK _ _ ?_
    clear hK K
    refine cv_cond ?_
    cases r with
    | false =>
      have hsn : stepS x.pl e = none := by have := hy.res; cases h : stepS x.pl e with
        | none => rfl
        | some s => rw [h] at this; cases this
      simp -implicitDefEqProofs (disch := first | omega | decide) only [seval, -Int.reducePow, -Nat.reducePow, cC, pv, binv, sHiR1, undef, g1, g2, g3]
      refine cv_seq_k fun K hK => ?_
      refine cv_region_then rfl ?_
      simp -implicitDefEqProofs (disch := first | omega | decide) only [seval, -Int.reducePow, -Nat.reducePow, cC, pv, binv, sHiR1, undef, g1, g2, g3]
      refine hK _ _ ?_
      clear hK K
      refine cv_nil 43 6 ?_
      refine cv_ret ⟨_, (by simp -implicitDefEqProofs (disch := first | omega | decide) only [seval, -Int.reducePow, -Nat.reducePow, cC, pv, binv, sHiR1, undef, g1, g2, g3]; rfl), fun w hw => ?_⟩
      refine ⟨⟨none, 0, 0, [], 28⟩, rfl, ⟨?_, ?_⟩, hw.sub (.cons_cons _ (List.nil_sublist _))⟩
      all_goals
        have hnn : runS hs0 es = none := by
          rw [← List.take_append_drop (i + 1) es]
          exact runS_none _ _ _ (hrs.trans hsn)
        rw [hnn]
        rfl
    | true =>
      obtain ⟨s', hs'⟩ : ∃ s', stepS x.pl e = some s' := by
        have := hy.res
        cases h : stepS x.pl e with
        | none => rw [h] at this; cases this
        | some s => exact ⟨s, rfl⟩
      have hyp := hy.st s' hs'
      have hyb := hy.bS
      dsimp only at hyp hyb
      simp -implicitDefEqProofs (disch := first | omega | decide) only [seval, -Int.reducePow, -Nat.reducePow, cC, pv, binv, sHiR1, undef, g1, g2, g3]
      refine cv_skip ?_
      try simp only [blockQ, thenQ]
      refine hK _ _ ?_
      clear hK K
      refine cv_sub (hsL y) (fun w hw => hw.sub (List.sublist_append_left _ _)) ?_
      refine cv_region_then rfl ?_
      simp -implicitDefEqProofs (disch := first | omega | decide) only [seval, -Int.reducePow, -Nat.reducePow, cC, pv, binv, sHiR1, undef, g1, g2, g3]
      refine ⟨⟨i + 1, y, ?_⟩, ?_⟩
      · simp -implicitDefEqProofs (disch := first | omega | decide) only [seval, -Int.reducePow, -Nat.reducePow, cC, pv, binv, sHiR1, undef, Int.natCast_add, g1, g2, g3]
        refine ⟨⟨by omega, hyb⟩, ?_, ?_⟩
        · rw [hyp]
          exact hI.step heo hs'
        · rw [hrs, hs', hyp]
      · simp only [intOf]; omega
  refine cv_exit ?_
  simp only [blockQ, thenQ, if_true, ite_true]
  clear hK K
  refine hK _ _ ?_
  clear hK K
  have hin : i = n := by have := of_decide_eq_false ‹decide ((i : Int) < (n : Int)) = false›; omega
  subst hin
  rw [List.take_of_length_le (by omega)] at hrun
  clear hE hi
  refine cv_seq_k fun K hK => ?_
  refine cv_region_then rfl ?_
  simp -implicitDefEqProofs (disch := first | omega | decide) only [seval, -Int.reducePow, -Nat.reducePow, cC, pv, binv, sHiR1, undef, g1, g2]
  refine hK _ _ ?_
  clear hK K
  obtain ⟨bS', b1, b2, sd, os⟩ := x
  dsimp only at hxb
  subst hxb
  have hnd : (keys os).Nodup := by have := hI.nd; unfold HsR.pl at this; rw [keys_kmap] at this; exact this
  have hol : os.length ≤ i := by have := hI.len; unfold HsR.pl at this; rw [len_kmap] at this; exact this
  have hob : ∀ q ∈ os, ObOk i (q.1, q.2.o) := fun q hq => hI.obj _ (List.mem_map.2 ⟨q, hq, rfl⟩)
  have hks : ∀ y ∈ keys os, (Lit.int .i64 y).wf = true := fun y hy => by
    obtain ⟨p, hp, rfl⟩ := List.mem_map.1 hy
    have h1 := (hob p hp).slot
    simp only at h1
    have : slotF p.2.o.h < 16777216 := Nat.mod_lt _ (by omega)
    exact wfI64h (by omega)
  refine cv_eq (L' := .blk bS' 63 [.map (some b1), .map (some b2)] :: mvR b1 (kmap Value.bool sd) :: mvR b2 (kmap obP os) :: obsL os) rfl ?_
  refine cv_gen fun G4 hG => ?_
  have g4_4 := congrFun hG 4
  have g4_7 := congrFun hG 7
  clear hG
  try simp -implicitDefEqProofs (disch := first | omega | decide) only [seval, -Int.reducePow, -Nat.reducePow, cC, pv, binv, sHiR1, undef, g1, g2] at g4_4 g4_7
  have g4 := And.intro g4_4 g4_7
  refine cv_seq_k fun K hK => ?_
  refine cv_seq_k fun K hK => ?_
  refine cv_region_then rfl ?_
  simp -implicitDefEqProofs (disch := first | omega | decide) only [seval, -Int.reducePow, -Nat.reducePow, cC, pv, binv, sHiR1, undef, g1, g2, g4]
  refine callV_box (f := fun b => .func (.func 38) #[] #[.pointer (some ⟨b, 0, none⟩)]) (t := 61) (cs := [.map (some b2)]) (fun w hw => mkeys0_any (some b2) w) ?_
  intro bk hbk hfk
  simp -implicitDefEqProofs (disch := first | omega | decide) only [seval, -Int.reducePow, -Nat.reducePow, cC, pv, binv, sHiR1, undef, g1, g2, g4]
  refine callV_row (fun A n c => .slice A n c) (fun w hw => (sortedKeys0_any bk b2 (keys os) w (by rw [hw.blk_cell (.head _)]; rfl) (hw.own _ (.head _) bk (by simp [Res.foot])).2 (by have := (hw.mvH 3 rfl).ks; rw [keys_kmap] at this; exact this) hks (by unfold keys; rw [List.length_map]; omega)).mono fun e w' ⟨A, n, c, q1, q2, q3⟩ => ⟨A, n, c, q1, q2, q3⟩) ?_
  intro A2 n2 c2 hl2 hr2
  rw [sortK_eq] at hl2 ⊢
  simp -implicitDefEqProofs (disch := first | omega | decide) only [seval, -Int.reducePow, -Nat.reducePow, cC, pv, binv, sHiR1, undef, g1, g2, g4]
  refine hK _ _ ?_
  clear hK K
  refine cv_gen fun G5 hG => ?_
  have g5_4 := congrFun hG 4
  have g5_7 := congrFun hG 7
  have g5_30 := congrFun hG 30
  have g5_31 := congrFun hG 31
  have g5_32 := congrFun hG 32
  clear hG
  try simp -implicitDefEqProofs (disch := first | omega | decide) only [seval, -Int.reducePow, -Nat.reducePow, cC, pv, binv, sHiR1, undef, g1, g2, g4] at g5_4 g5_7 g5_30 g5_31 g5_32
  have g5 := And.intro g5_4 (And.intro g5_7 (And.intro g5_30 (And.intro g5_31 g5_32)))
  have hn2 : (srtL os).length = n2 := by rw [List.length_map] at hl2; unfold keys at hl2; rw [List.length_map] at hl2; omega
  have hsl : (srtL os).length = os.length := by have := congrArg List.length (srtL_keys (l := os)); rw [List.length_mergeSort] at this; unfold keys at this; rw [List.length_map, List.length_map] at this; exact this
  refine cv_nil 43 6 ?_
  refine cv_sub (.row (.slice none 0 0) 43 6 0 [] :: .row (.slice A2 n2 c2) 3 1 n2 ((keys (srtL os)).map (Value.int .i64)) :: .blk bS' 63 [.map (some b1), .map (some b2)] :: mvR b1 (kmap Value.bool sd) :: mvR b2 (kmap obP os) :: obsL os) (fun w hw => hw.sub (.cons_cons _ (.cons_cons _ (.cons _ (List.Sublist.refl _))))) ?_
  refine cv_block ?_
  refine cv_loop (fun F' L' => ∃ (j : Nat) (A : Option Addr) (n c : Nat) (ros : List RO), F' 4 = G5 4 ∧ F' 7 = .slice A n c ∧ F' 30 = G5 30 ∧ F' 31 = G5 31 ∧ F' 32 = .int .i64 (j : Int) ∧ L' = .row (.slice A n c) 43 6 n (roCells ros) :: .row (.slice A2 n2 c2) 3 1 n2 ((keys (srtL os)).map (Value.int .i64)) :: .blk bS' 63 [.map (some b1), .map (some b2)] :: mvR b1 (kmap Value.bool sd) :: mvR b2 (kmap obP os) :: (ros.map roRow ++ obsL os) ∧ j ≤ n2 ∧ ros.map RO.pl = ((srtL os).take j).map fun q => outO q.2.o) (fun F' L' => 2000 - (intOf (F' 32)).toNat) ?_ ?_
  · refine ⟨0, none, 0, 0, [], ?_⟩
    simp -implicitDefEqProofs (disch := first | omega | decide) only [seval, -Int.reducePow, -Nat.reducePow, cC, pv, binv, sHiR1, undef, g1, g2, g5]
    exact ⟨rfl, by omega⟩
  intro G6 L' hI
  obtain ⟨j, A, n, c, ros, q4, q7, q30, q31, q32, rfl, ⟨hj, hros⟩⟩ := hI
  have g6_4 := q4.trans g5_4
  have g6_7 := q7
  have g6_30 := q30.trans g5_30
  have g6_31 := q31.trans g5_31
  have g6_32 := q32
  clear q4 q7 q30 q31 q32
  have g6 := And.intro g6_4 (And.intro g6_7 (And.intro g6_30 (And.intro g6_31 g6_32)))
  refine cv_seq_k fun K hK => ?_
  refine cv_region_then rfl ?_
  simp -implicitDefEqProofs (disch := first | omega | decide) only [seval, -Int.reducePow, -Nat.reducePow, cC, pv, binv, sHiR1, undef, g1, g2, g5, g6]
  refine hK _ _ ?_
  clear hK K
  refine cv_seq_k fun K hK => ?_
  refine cv_cond ?_
  simp -implicitDefEqProofs (disch := first | omega | decide) only [seval, -Int.reducePow, -Nat.reducePow, cC, pv, binv, sHiR1, undef, g1, g2, g5, g6]
  refine ⟨fun hc => ?_, fun hc => ?_⟩
  · refine cv_skip ?_
    try simp only [blockQ, thenQ]
    have hit : j < n2 := by have := of_decide_eq_true ‹decide ((j : Int) < (n2 : Int)) = true›; omega
    obtain ⟨⟨kk, o⟩, hp⟩ : ∃ p, (srtL os)[j]? = some p := ⟨_, List.getElem?_eq_getElem (by omega)⟩
    have hkv : ((keys (srtL os)).map (Value.int .i64))[j]? = some (.int .i64 kk) := by unfold keys; rw [List.getElem?_map, List.getElem?_map, hp]; rfl
    have hpg : kget os kk = some o := by
      have := kget_of (srtL_srt hnd).nodup (List.mem_of_getElem? hp)
      rw [srtL_get hnd] at this
      exact this
    have hobk := hob _ (kget_mem hpg)
    refine hK _ _ ?_
    clear hK K
    refine cv_len 0 rfl fun hlA => ?_
    have hn200 : n ≤ 1000 := by
      unfold roCells at hlA
      rw [flLen roc_len] at hlA
      have := congrArg List.length hros
      rw [List.length_map, List.length_map, List.length_take] at this
      omega
    refine cv_rowA 1 rfl (by omega) fun g hAA hg hNN => ?_
    subst hAA
    simp only [List.eraseIdx_cons_zero, List.eraseIdx_cons_succ, neB_nil, neB_blk, neB_row, neB_snap, and_true, List.not_mem_nil, or_false, sHiR1, undef] at hNN hg
    replace hg := And.intro hg hNN
    clear hNN
    refine cv_apart fun hap => ?_
    simp only [factL_nil, factL_blk, factL_row, neR_nil, neR_blk, neR_row, neB_nil, neB_blk, neB_row, and_true, true_and, List.not_mem_nil, or_false, sHiR1, undef] at hap
    obtain hap := hap
    obtain ⟨pre, post, hpp, -, -, -⟩ := ksplit hpg
    have hPm : ∀ H : List Res, (obL o ++ (H ++ (ros.map roRow ++ obsL (pre ++ post)))).Perm (H ++ (ros.map roRow ++ obsL os)) := fun H => by
      have := obs_head (H ++ ros.map roRow) pre post kk o
      rw [← hpp] at this
      simpa [List.append_assoc] using this
    refine cv_fact (look (ros.map roRow ++ obsL os) g = none) (fun w hw => hw.look5 (by simp [Res.foot, Value.ownBlock])) fun hlk => ?_
    refine cv_seq_k fun K hK => ?_
    refine cv_block ?_
    refine cv_seq_k fun K hK => ?_
    refine cv_region_then rfl ?_
    simp -implicitDefEqProofs (disch := first | omega | decide) only [seval, -Int.reducePow, -Nat.reducePow, cC, pv, binv, sHiR1, undef, hlk, g1, g2, g5, g6]
    refine ⟨_, ld_row1 (i := j) (v := .int .i64 kk) (.tail _ (.head _)) rfl hkv, fun tok htok => ?_⟩
    subst htok
    simp -implicitDefEqProofs (disch := first | omega | decide) only [seval, -Int.reducePow, -Nat.reducePow, cC, pv, binv, sHiR1, undef, g1, g2, g5, g6]
    refine hK _ _ ?_
    clear hK K
    refine cv_sub (obL o ++ ([.row (.slice A n c) 43 6 n (roCells ros), .row (.slice (some ⟨g, 0, none⟩) n2 c2) 3 1 n2 ((keys (srtL os)).map (Value.int .i64)), .blk bS' 63 [.map (some b1), .map (some b2)], mvR b1 (kmap Value.bool sd), mvR b2 (kmap obP os)] ++ (ros.map roRow ++ obsL (pre ++ post)))) (fun w hw => hw.perm (hPm _)) ?_
    unfold obL
    dsimp only [List.cons_append, List.nil_append]
    refine cv_fact (o.b ≠ bS') (fun w hw => hw.bNe 0 4 rfl rfl (by decide)) fun hn1 => ?_
    refine cv_region_q rfl ?_
    simp -implicitDefEqProofs (disch := first | omega | decide) only [seval, -Int.reducePow, -Nat.reducePow, cC, pv, binv, sHiR1, undef, g1, g2, g5, g6]
    refine xv_vlook1 mvOb rfl rfl (fun w hw => hw.mvH 6 rfl) ?_
    rw [vget_kmap, hpg, Option.map_some, Option.getD_some]
    simp -implicitDefEqProofs (disch := first | omega | decide) only [seval, -Int.reducePow, -Nat.reducePow, cC, pv, binv, sHiR1, undef, g1, g2, g5, g6]
    refine callV_sub (.row (.slice A n c) 43 6 n (roCells ros) :: .row (.slice (some ⟨g, 0, none⟩) n2 c2) 3 1 n2 ((keys (srtL os)).map (Value.int .i64)) :: .blk bS' 63 [.map (some b1), .map (some b2)] :: mvR b1 (kmap Value.bool sd) :: mvR b2 (kmap obP os) :: (ros.map roRow ++ obsL (pre ++ post))) (obL o) List.perm_append_comm roV (fun r : RO => roRow r :: obL o) _ (fun w hw => hList_any o i kk (by omega) hobk w hw) ?_
    intro r hr
    unfold obL roV
    simp -implicitDefEqProofs (disch := first | omega | decide) only [seval, -Int.reducePow, -Nat.reducePow, cC, pv, binv, sHiR1, undef, g1, g2, g5, g6]
    intro bE hbE hfE
    refine appV_at 4 tap30 rfl (fun w hw => src_blk (size := 6) (.head _) rfl hw) rfl (by omega) (by omega) ?_
    intro A1 c1 hl1 hr1
    simp -implicitDefEqProofs (disch := first | omega | decide) only [seval, -Int.reducePow, -Nat.reducePow, cC, pv, binv, sHiR1, undef, g1, g2, g5, g6]
    refine hK _ _ ?_
    clear hK K
    refine cv_sub (.row (.slice A1 (n + 1) c1) 43 6 (n + 1) (roCells (ros ++ [r])) :: .row (.slice (some ⟨g, 0, none⟩) n2 c2) 3 1 n2 ((keys (srtL os)).map (Value.int .i64)) :: .blk bS' 63 [.map (some b1), .map (some b2)] :: mvR b1 (kmap Value.bool sd) :: mvR b2 (kmap obP os) :: ((ros ++ [r]).map roRow ++ obsL os)) (fun w hw => ?_) ?_
    · have h1 := hw.sub (.cons_cons _ (.cons _ (List.Sublist.refl _)))
      rw [roCells_snoc]
      refine h1.perm (.cons _ ?_)
      have h2 := obs_front pre post kk o
      rw [← hpp] at h2
      have h3 := List.Perm.append_left [.row (.slice (some ⟨g, 0, none⟩) n2 c2) 3 1 n2 ((keys (srtL os)).map (Value.int .i64)), .blk bS' 63 [.map (some b1), .map (some b2)], mvR b1 (kmap Value.bool sd), mvR b2 (kmap obP os)] (List.Perm.append_left (ros.map roRow ++ [roRow r]) h2.symm)
      rw [List.map_append]
      exact h3.trans perm_mid
    refine cv_region_then rfl ?_
    simp -implicitDefEqProofs (disch := first | omega | decide) only [seval, -Int.reducePow, -Nat.reducePow, cC, pv, binv, sHiR1, undef, g1, g2, g5, g6]
    refine ⟨⟨j + 1, A1, n + 1, c1, ros ++ [r], ?_⟩, ?_⟩
    · simp -implicitDefEqProofs (disch := first | omega | decide) only [seval, -Int.reducePow, -Nat.reducePow, cC, pv, binv, sHiR1, undef, Int.natCast_add, g1, g2, g5, g6]
      refine ⟨by omega, ?_⟩
      rw [List.map_append, hros, List.take_add_one, hp]
      simp [hr]
    · simp only [intOf]; omega
  refine cv_exit ?_
  simp only [blockQ, thenQ, if_true, ite_true]
  clear hK K
  refine hK _ _ ?_
  clear hK K
  have hjn : j = n2 := by have := of_decide_eq_false ‹decide ((j : Int) < (n2 : Int)) = false›; omega
  subst hjn
  rw [List.take_of_length_le (by omega)] at hros
  refine cv_seq_k fun K hK => ?_
  refine cv_region_then rfl ?_
  simp -implicitDefEqProofs (disch := first | omega | decide) only [seval, -Int.reducePow, -Nat.reducePow, cC, pv, binv, sHiR1, undef, g1, g2, g5, g6]
  refine hK _ _ ?_
  clear hK K
  refine cv_ret ⟨_, (by simp -implicitDefEqProofs (disch := first | omega | decide) only [seval, -Int.reducePow, -Nat.reducePow, cC, pv, binv, sHiR1, undef, g1, g2, g5, g6]; rfl), fun w hw => ?_⟩
  refine ⟨⟨A, n, c, ros, 0⟩, rfl, ⟨?_, ?_⟩, ?_⟩
  · rw [hrun]
    show ros.map RO.pl = (srtL (kmap ObR.o os)).map fun q => outO q.2
    rw [hros, kmap_srt]
    simp [kmap]
  · rw [hrun]
    rfl
  · refine hw.sub (.cons_cons _ (.cons _ (.cons _ (.cons _ (.cons _ (List.sublist_append_left _ _))))))
end Go.Proofs.Ytaifnipgefkemaa
/- The reference's ledger: what it tells (Of, Held, Holds, without). -/
namespace Go.Proofs.Ytaifnipgefkemaa
open Go.RowKit Go.Shelf
set_option linter.unusedVariables false
set_option linter.unusedSimpArgs false
set_option maxRecDepth 100000
theorem bwc_len (b : Bw) : (bwc b).length = 4 := rfl
theorem Sl.cell1 {w : World} {B b off : Nat} {v : Value} (hc : w.cell? ⟨b, off, none⟩ = some v) (hb : b < B) : Sl w B 1 (some ⟨b, off, none⟩) 1 1 [v] :=
  ⟨rfl, Nat.le_refl _, by omega, fun _ => ⟨b, off, rfl, hb, fun i u hi => by
    cases i with
    | zero => have : v = u := by simpa using hi
              subst this
              exact hc
    | succ i => simp at hi⟩⟩
structure LgW (w : World) (B b off : Nat) (A : Option Addr) (n c : Nat) (l : List Bw) : Prop where
  cell : Sl w B 1 (some ⟨b, off, none⟩) 1 1 [.slice A n c]
  row : Sl w B 4 A n c (bwCells l)
  max : n ≤ 100000
theorem LgW.at {W w : World} {L : List Res} {b off : Nat} {A : Option Addr} {n c : Nat} {l : List Bw} (h : LgW W W.heap.size b off A n c l) (hw : St [] W L w) : LgW w w.heap.size b off A n c l := ⟨h.cell.at hw, h.row.at hw, h.max⟩
theorem LgW.len {w : World} {B b off : Nat} {A : Option Addr} {n c : Nat} {l : List Bw} (h : LgW w B b off A n c l) : l.length = n := by have := h.row.len; rw [bwCells_len] at this; omega
theorem LgW.lt {w : World} {B b off : Nat} {A : Option Addr} {n c : Nat} {l : List Bw} (h : LgW w B b off A n c l) : b < B := by
  obtain ⟨b', off', e, hb, -⟩ := h.cell.cells (by omega)
  cases e
  exact hb
def ofB (l : List Bw) (ob : Int) : List Bw := l.filter fun b => decide (b.ob = ob)
def heldB (l : List Bw) (ho : Int) : Nat := (l.filter fun b => decide (b.ho = ho)).length
def isB (ob ho : Int) (b : Bw) : Bool := decide (b.ob = ob) && decide (b.ho = ho)
def wtoB (l : List Bw) (ob ho : Int) : List Bw := l.filter fun b => !isB ob ho b
def holdB (l : List Bw) (ob ho : Int) : Option Bw := l.find? (isB ob ho)
def bwV (b : Bw) : Value := .agg #[.int .i64 b.ob, .int .i64 b.ho, .int .i64 b.mo, .int .i64 b.co]
theorem flGet {α : Type} {f : α → List Value} {s : Nat} (hf : ∀ a, (f a).length = s) {l : List α} {i k : Nat} {a : α} (h : l[i]? = some a) (hk : k < s) : (l.flatMap f)[i * s + k]? = (f a)[k]? := by
  have h1 := congrArg (fun x : List Value => x[k]?) (flAt hf h)
  simp only [List.getElem?_take, List.getElem?_drop, hk, if_true] at h1
  exact h1
theorem filter_step {α : Type} {l : List α} {i : Nat} {a : α} (h : l[i]? = some a) (p : α → Bool) : (l.take (i + 1)).filter p = (l.take i).filter p ++ (if p a = true then [a] else []) := by
  rw [List.take_add_one, h, List.filter_append]
  simp [List.filter_cons]
set_option maxRecDepth 100000 in
theorem sHjA1 : type_of% (And.intro (And.intro @Nat.mul_one @wrap_in) (And.intro @cMv @cM)) := (And.intro (And.intro @Nat.mul_one @wrap_in) (And.intro @cMv @cM))
set_option maxHeartbeats 1000000 in
theorem rOf_any {W : World} {b off : Nat} {A : Option Addr} {n c : Nat} {l : List Bw} (h : LgW W W.heap.size b off A n c l) (ob : Int) :
    Calls Try.prog 43 #[.pointer (some ⟨b, off, none⟩), .int .i64 ob] W (rowP 82 4 (fun v => v) (bwCells (ofB l ob)) W) := by
  have hlen := h.len
  have hmax := h.max
  refine calls_cv (M := []) (n := 37) [.tmp 4] rfl Try.func43 rfl rfl (Nat.le_of_ble_eq_true rfl) (St.nil _ _) ?_
  refine cv_seq_k fun K hK => ?_
  refine cv_region_then rfl ?_
  simp -implicitDefEqProofs (disch := first | omega | decide) only [seval, -Int.reducePow, -Nat.reducePow, cC, pv, binv, sHjA1, undef]
  refine hK _ _ ?_
  clear hK K
  refine cv_seq_k fun K hK => ?_
  refine cv_region_then rfl ?_
  simp -implicitDefEqProofs (disch := first | omega | decide) only [seval, -Int.reducePow, -Nat.reducePow, cC, pv, binv, sHjA1, undef]
  refine hK _ _ ?_
  clear hK K
  refine cv_seq_k fun K hK => ?_
  refine cv_seq_k fun K hK => ?_
  refine cv_region_then rfl ?_
  simp -implicitDefEqProofs (disch := first | omega | decide) only [seval, -Int.reducePow, -Nat.reducePow, cC, pv, binv, sHjA1, undef]
  refine hK _ _ ?_
  clear hK K
  refine cv_gen fun G1 hG => ?_
  have g1_0 := congrFun hG 0
  have g1_1 := congrFun hG 1
  have g1_5 := congrFun hG 5
  have g1_6 := congrFun hG 6
  clear hG
  try simp -implicitDefEqProofs (disch := first | omega | decide) only [seval, -Int.reducePow, -Nat.reducePow, cC, pv, binv, sHjA1, undef] at g1_0 g1_1 g1_5 g1_6
  have g1 := And.intro g1_0 (And.intro g1_1 (And.intro g1_5 g1_6))
  refine cv_nil 82 4 ?_
  refine cv_block ?_
  refine cv_loop (fun F' L' => ∃ (i : Nat) (A1 : Option Addr) (n1 c1 : Nat), F' 0 = G1 0 ∧ F' 1 = G1 1 ∧ F' 5 = .slice A1 n1 c1 ∧ F' 6 = .int .i64 (i : Int) ∧ L' = [.row (.slice A1 n1 c1) 82 4 n1 (bwCells (ofB (l.take i) ob))] ∧ i ≤ n) (fun F' L' => 200000 - (intOf (F' 6)).toNat) ?_ ?_
  · refine ⟨0, none, 0, 0, ?_⟩
    simp -implicitDefEqProofs (disch := first | omega | decide) only [seval, -Int.reducePow, -Nat.reducePow, cC, pv, binv, sHjA1, undef, g1]
    exact ⟨rfl, Nat.zero_le _⟩
  intro G2 L' hI
  obtain ⟨i, A1, n1, c1, q0, q1, q5, q6, rfl, hi⟩ := hI
  have g2_0 := q0.trans g1_0
  have g2_1 := q1.trans g1_1
  have g2_5 := q5
  have g2_6 := q6
  clear q0 q1 q5 q6
  have g2 := And.intro g2_0 (And.intro g2_1 (And.intro g2_5 g2_6))
  refine cv_seq_k fun K hK => ?_
  refine cv_seq_k fun K hK => ?_
  refine cv_region_then rfl ?_
  simp -implicitDefEqProofs (disch := first | omega | decide) only [seval, -Int.reducePow, -Nat.reducePow, cC, pv, binv, sHjA1, undef, g1, g2]
  refine ⟨_, h.cell.ld1 (m := 1) (i := 0) (by kernel_rfl) rfl, fun tok htok => ?_⟩
  subst htok
  simp -implicitDefEqProofs (disch := first | omega | decide) only [seval, -Int.reducePow, -Nat.reducePow, cC, pv, binv, sHjA1, undef, g1, g2]
  refine hK _ _ ?_
  clear hK K
  refine cv_cond ?_
  simp -implicitDefEqProofs (disch := first | omega | decide) only [seval, -Int.reducePow, -Nat.reducePow, cC, pv, binv, sHjA1, undef, g1, g2]
  refine ⟨fun hc => ?_, fun hc => ?_⟩
  · refine cv_skip ?_
    try simp only [blockQ, thenQ]
    have hit : i < n := by have := of_decide_eq_true ‹decide ((i : Int) < (n : Int)) = true›; omega
    obtain ⟨e, he⟩ : ∃ e, l[i]? = some e := ⟨_, List.getElem?_eq_getElem (by omega)⟩
    have hld := flAt bwc_len he
    have hfs := filter_step he (fun b => decide (b.ob = ob))
    have hrow := h.row
    obtain ⟨bA, oA, rfl, hbA, -⟩ := hrow.cells (by omega)
    refine hK _ _ ?_
    clear hK K
    refine cv_len 0 rfl fun hlA => ?_
    have hn1 : n1 ≤ 100000 := by
      rw [bwCells_len] at hlA
      have h1 : (ofB (l.take i) ob).length ≤ (l.take i).length := List.length_filter_le _ _
      rw [List.length_take] at h1
      omega
    refine cv_seq_k fun K hK => ?_
    refine cv_block ?_
    refine cv_seq_k fun K hK => ?_
    refine cv_region_then rfl ?_
    simp -implicitDefEqProofs (disch := first | omega | decide) only [seval, -Int.reducePow, -Nat.reducePow, cC, pv, binv, sHjA1, undef, g1, g2]
    refine ⟨_, h.cell.ld1 (m := 1) (i := 0) (by kernel_rfl) rfl, fun tok htok => ?_⟩
    subst htok
    simp -implicitDefEqProofs (disch := first | omega | decide) only [seval, -Int.reducePow, -Nat.reducePow, cC, pv, binv, sHjA1, undef, g1, g2]
    refine ⟨_, hrow.ld1 (m := 1) (i := i * 4 + 0) (by kernel_rfl) (flGet bwc_len he (by omega)), fun tok htok => ?_⟩
    subst htok
    simp -implicitDefEqProofs (disch := first | omega | decide) only [seval, -Int.reducePow, -Nat.reducePow, cC, pv, binv, sHjA1, undef, g1, g2]
    refine hK _ _ ?_
    clear hK K
    refine cv_cond ?_
    by_cases he1 : e.ob = ob
    · have hof : ofB (l.take (i + 1)) ob = ofB (l.take i) ob ++ [e] := by unfold ofB; rw [hfs]; simp [he1]
      simp -implicitDefEqProofs (disch := first | omega | decide) only [seval, -Int.reducePow, -Nat.reducePow, cC, pv, binv, sHjA1, undef, he1, g1, g2]
      refine cv_pick_post [0] (by decide) ?_
      refine cv_region_q rfl ?_
      simp -implicitDefEqProofs (disch := first | omega | decide) only [seval, -Int.reducePow, -Nat.reducePow, cC, pv, binv, sHjA1, undef, g1, g2]
      refine ⟨_, h.cell.ld1 (m := 1) (i := 0) (by kernel_rfl) rfl, fun tok htok => ?_⟩
      subst htok
      simp -implicitDefEqProofs (disch := first | omega | decide) only [seval, -Int.reducePow, -Nat.reducePow, cC, pv, binv, sHjA1, undef, g1, g2]
      refine ⟨_, hrow.ld (i := i * 4) (vs := bwc e) (by omega) (by kernel_rfl) hld, fun tok htok => ?_⟩
      subst htok
      simp -implicitDefEqProofs (disch := first | omega | decide) only [seval, -Int.reducePow, -Nat.reducePow, cC, pv, binv, sHjA1, undef, g1, g2]
      simp only [bwc, List.length_cons, List.length_nil, true_and]
      simp -implicitDefEqProofs (disch := first | omega | decide) only [seval, -Int.reducePow, -Nat.reducePow, cC, pv, binv, sHjA1, undef, g1, g2]
      intro bE hbE
      refine appV_at 1 tap41 rfl (fun w hw => src_blk (size := 4) (.head _) rfl hw) rfl (by omega) (by omega) ?_
      intro A2 c2 hl2 hr2
      simp -implicitDefEqProofs (disch := first | omega | decide) only [seval, -Int.reducePow, -Nat.reducePow, cC, pv, binv, sHjA1, undef, g1, g2]
      refine hK _ _ ?_
      clear hK K
      refine cv_region_then rfl ?_
      simp -implicitDefEqProofs (disch := first | omega | decide) only [seval, -Int.reducePow, -Nat.reducePow, cC, pv, binv, sHjA1, undef, g1, g2]
      refine ⟨⟨i + 1, A2, n1 + 1, c2, ?_⟩, ?_⟩
      · rw [hof, bwCells_snoc]
        simp -implicitDefEqProofs (disch := first | omega | decide) only [seval, -Int.reducePow, -Nat.reducePow, cC, pv, binv, sHjA1, undef, Int.natCast_add, g1, g2]
        omega
      · simp only [intOf]; omega
    · have hof : ofB (l.take (i + 1)) ob = ofB (l.take i) ob := by unfold ofB; rw [hfs]; simp [he1]
      simp -implicitDefEqProofs (disch := first | omega | decide) only [seval, -Int.reducePow, -Nat.reducePow, cC, pv, binv, sHjA1, undef, he1, g1, g2]
      refine cv_skip ?_
      try simp only [blockQ, thenQ]
      refine hK _ _ ?_
      clear hK K
      refine cv_region_then rfl ?_
      simp -implicitDefEqProofs (disch := first | omega | decide) only [seval, -Int.reducePow, -Nat.reducePow, cC, pv, binv, sHjA1, undef, g1, g2]
      refine ⟨⟨i + 1, A1, n1, c1, ?_⟩, ?_⟩
      · rw [hof]
        simp -implicitDefEqProofs (disch := first | omega | decide) only [seval, -Int.reducePow, -Nat.reducePow, cC, pv, binv, sHjA1, undef, Int.natCast_add, g1, g2]
        omega
      · simp only [intOf]; omega
  refine cv_exit ?_
  simp only [blockQ, thenQ, if_true, ite_true]
  clear hK K
  refine hK _ _ ?_
  clear hK K
  have hin : i = n := by have := of_decide_eq_false ‹decide ((i : Int) < (n : Int)) = false›; omega
  subst hin
  rw [List.take_of_length_le (by omega)]
  refine cv_seq_k fun K hK => ?_
  refine cv_region_then rfl ?_
  simp -implicitDefEqProofs (disch := first | omega | decide) only [seval, -Int.reducePow, -Nat.reducePow, cC, pv, binv, sHjA1, undef, g1, g2]
  refine hK _ _ ?_
  clear hK K
  refine cv_ret ⟨_, (by simp -implicitDefEqProofs (disch := first | omega | decide) only [seval, -Int.reducePow, -Nat.reducePow, cC, pv, binv, sHjA1, undef, g1, g2]; rfl), fun w hw => ?_⟩
  exact ⟨A1, n1, c1, rfl, ownsRow_new (hw.holds _ (.head _)) (hw.own _ (.head _)), hw.below⟩
set_option maxHeartbeats 1000000 in
theorem rWithout_any {W : World} {b off : Nat} {A : Option Addr} {n c : Nat} {l : List Bw} (h : LgW W W.heap.size b off A n c l) (ob ho : Int) :
    Calls Try.prog 90 #[.pointer (some ⟨b, off, none⟩), .int .i64 ob, .int .i64 ho] W (rowP 82 4 (fun v => v) (bwCells (wtoB l ob ho)) W) := by
  have hlen := h.len
  have hmax := h.max
  refine calls_cv (M := []) (n := 51) [.tmp 6] rfl Try.func90 rfl rfl (Nat.le_of_ble_eq_true rfl) (St.nil _ _) ?_
  refine cv_seq_k fun K hK => ?_
  refine cv_region_then rfl ?_
  simp -implicitDefEqProofs (disch := first | omega | decide) only [seval, -Int.reducePow, -Nat.reducePow, cC, pv, binv, sHjA1, undef]
  refine hK _ _ ?_
  clear hK K
  refine cv_seq_k fun K hK => ?_
  refine cv_region_then rfl ?_
  simp -implicitDefEqProofs (disch := first | omega | decide) only [seval, -Int.reducePow, -Nat.reducePow, cC, pv, binv, sHjA1, undef]
  refine hK _ _ ?_
  clear hK K
  refine cv_seq_k fun K hK => ?_
  refine cv_seq_k fun K hK => ?_
  refine cv_region_then rfl ?_
  simp -implicitDefEqProofs (disch := first | omega | decide) only [seval, -Int.reducePow, -Nat.reducePow, cC, pv, binv, sHjA1, undef]
  refine hK _ _ ?_
  clear hK K
  refine cv_gen fun G3 hG => ?_
  have g3_0 := congrFun hG 0
  have g3_1 := congrFun hG 1
  have g3_2 := congrFun hG 2
  have g3_7 := congrFun hG 7
  have g3_8 := congrFun hG 8
  clear hG
  try simp -implicitDefEqProofs (disch := first | omega | decide) only [seval, -Int.reducePow, -Nat.reducePow, cC, pv, binv, sHjA1, undef] at g3_0 g3_1 g3_2 g3_7 g3_8
  have g3 := And.intro g3_0 (And.intro g3_1 (And.intro g3_2 (And.intro g3_7 g3_8)))
  refine cv_nil 82 4 ?_
  refine cv_block ?_
  refine cv_loop (fun F' L' => ∃ (i : Nat) (A1 : Option Addr) (n1 c1 : Nat), F' 0 = G3 0 ∧ F' 1 = G3 1 ∧ F' 2 = G3 2 ∧ F' 7 = .slice A1 n1 c1 ∧ F' 8 = .int .i64 (i : Int) ∧ L' = [.row (.slice A1 n1 c1) 82 4 n1 (bwCells (wtoB (l.take i) ob ho))] ∧ i ≤ n) (fun F' L' => 200000 - (intOf (F' 8)).toNat) ?_ ?_
  · refine ⟨0, none, 0, 0, ?_⟩
    simp -implicitDefEqProofs (disch := first | omega | decide) only [seval, -Int.reducePow, -Nat.reducePow, cC, pv, binv, sHjA1, undef, g3]
    exact ⟨rfl, Nat.zero_le _⟩
  intro G4 L' hI
  obtain ⟨i, A1, n1, c1, q0, q1, q2, q7, q8, rfl, hi⟩ := hI
  have g4_0 := q0.trans g3_0
  have g4_1 := q1.trans g3_1
  have g4_2 := q2.trans g3_2
  have g4_7 := q7
  have g4_8 := q8
  clear q0 q1 q2 q7 q8
  have g4 := And.intro g4_0 (And.intro g4_1 (And.intro g4_2 (And.intro g4_7 g4_8)))
  refine cv_seq_k fun K hK => ?_
  refine cv_seq_k fun K hK => ?_
  refine cv_region_then rfl ?_
  simp -implicitDefEqProofs (disch := first | omega | decide) only [seval, -Int.reducePow, -Nat.reducePow, cC, pv, binv, sHjA1, undef, g3, g4]
  refine ⟨_, h.cell.ld1 (m := 1) (i := 0) (by kernel_rfl) rfl, fun tok htok => ?_⟩
  subst htok
  simp -implicitDefEqProofs (disch := first | omega | decide) only [seval, -Int.reducePow, -Nat.reducePow, cC, pv, binv, sHjA1, undef, g3, g4]
  refine hK _ _ ?_
  clear hK K
  refine cv_cond ?_
  simp -implicitDefEqProofs (disch := first | omega | decide) only [seval, -Int.reducePow, -Nat.reducePow, cC, pv, binv, sHjA1, undef, g3, g4]
  refine ⟨fun hc => ?_, fun hc => ?_⟩
  · refine cv_skip ?_
    try simp only [blockQ, thenQ]
    have hit : i < n := by have := of_decide_eq_true ‹decide ((i : Int) < (n : Int)) = true›; omega
    obtain ⟨e, he⟩ : ∃ e, l[i]? = some e := ⟨_, List.getElem?_eq_getElem (by omega)⟩
    have hld := flAt bwc_len he
    have hfs := filter_step he (fun b => !isB ob ho b)
    have hrow := h.row
    obtain ⟨bA, oA, rfl, hbA, -⟩ := hrow.cells (by omega)
    refine hK _ _ ?_
    clear hK K
    refine cv_len 0 rfl fun hlA => ?_
    have hn1 : n1 ≤ 100000 := by
      rw [bwCells_len] at hlA
      have h1 : (wtoB (l.take i) ob ho).length ≤ (l.take i).length := List.length_filter_le _ _
      rw [List.length_take] at h1
      omega
    refine cv_seq_k fun K hK => ?_
    refine cv_block ?_
    refine cv_seq_k fun K hK => ?_
    refine cv_cut (fun _ _ => True) (fun F' L' => F' 0 = G4 0 ∧ F' 1 = G4 1 ∧ F' 2 = G4 2 ∧ F' 7 = G4 7 ∧ F' 8 = G4 8 ∧ F' 39 = .bool (!isB ob ho e) ∧ L' = [.row (.slice A1 n1 c1) 82 4 n1 (bwCells (wtoB (l.take i) ob ho))]) ?_ ?_
    · refine cv_region_then rfl ?_
      simp -implicitDefEqProofs (disch := first | omega | decide) only [seval, -Int.reducePow, -Nat.reducePow, cC, pv, binv, sHjA1, undef, g3, g4]
      refine ⟨_, h.cell.ld1 (m := 1) (i := 0) (by kernel_rfl) rfl, fun tok htok => ?_⟩
      subst htok
      simp -implicitDefEqProofs (disch := first | omega | decide) only [seval, -Int.reducePow, -Nat.reducePow, cC, pv, binv, sHjA1, undef, g3, g4]
      refine ⟨_, hrow.ld1 (m := 1) (i := i * 4 + 0) (by kernel_rfl) (flGet bwc_len he (by omega)), fun tok htok => ?_⟩
      subst htok
      simp -implicitDefEqProofs (disch := first | omega | decide) only [seval, -Int.reducePow, -Nat.reducePow, cC, pv, binv, sHjA1, undef, g3, g4]
      by_cases e1 : e.ob = ob
      · simp -implicitDefEqProofs (disch := first | omega | decide) only [seval, -Int.reducePow, -Nat.reducePow, cC, pv, binv, sHjA1, undef, e1, g3, g4]
        refine ⟨_, h.cell.ld1 (m := 1) (i := 0) (by kernel_rfl) rfl, fun tok htok => ?_⟩
        subst htok
        simp -implicitDefEqProofs (disch := first | omega | decide) only [seval, -Int.reducePow, -Nat.reducePow, cC, pv, binv, sHjA1, undef, g3, g4]
        refine ⟨_, hrow.ld1 (m := 1) (i := i * 4 + 1) (by kernel_rfl) (flGet bwc_len he (by omega)), fun tok htok => ?_⟩
        subst htok
        simp -implicitDefEqProofs (disch := first | omega | decide) only [seval, -Int.reducePow, -Nat.reducePow, cC, pv, binv, sHjA1, undef, g3, g4]
        unfold isB
        simp [e1]
      · simp -implicitDefEqProofs (disch := first | omega | decide) only [seval, -Int.reducePow, -Nat.reducePow, cC, pv, binv, sHjA1, undef, e1, g3, g4]
        unfold isB
        simp [e1]
    intro G5 L' _ hF
    obtain ⟨q0, q1, q2, q7, q8, q39, rfl⟩ := hF
    have g5_0 := q0.trans g4_0
    have g5_1 := q1.trans g4_1
    have g5_2 := q2.trans g4_2
    have g5_7 := q7.trans g4_7
    have g5_8 := q8.trans g4_8
    have g5_39 := q39
    clear q0 q1 q2 q7 q8 q39
    have g5 := And.intro g5_0 (And.intro g5_1 (And.intro g5_2 (And.intro g5_7 (And.intro g5_8 g5_39))))
    refine hK _ _ ?_
    clear hK K
    refine cv_cond ?_
    cases hb : isB ob ho e with
    | false =>
      have hof : wtoB (l.take (i + 1)) ob ho = wtoB (l.take i) ob ho ++ [e] := by unfold wtoB; rw [hfs]; simp [hb]
      simp -implicitDefEqProofs (disch := first | omega | decide) only [seval, -Int.reducePow, -Nat.reducePow, cC, pv, binv, sHjA1, undef, hb, g3, g4, g5]
      refine cv_pick_post [0] (by decide) ?_
      refine cv_region_q rfl ?_
      simp -implicitDefEqProofs (disch := first | omega | decide) only [seval, -Int.reducePow, -Nat.reducePow, cC, pv, binv, sHjA1, undef, g3, g4, g5]
      refine ⟨_, h.cell.ld1 (m := 1) (i := 0) (by kernel_rfl) rfl, fun tok htok => ?_⟩
      subst htok
      simp -implicitDefEqProofs (disch := first | omega | decide) only [seval, -Int.reducePow, -Nat.reducePow, cC, pv, binv, sHjA1, undef, g3, g4, g5]
      refine ⟨_, hrow.ld (i := i * 4) (vs := bwc e) (by omega) (by kernel_rfl) hld, fun tok htok => ?_⟩
      subst htok
      simp -implicitDefEqProofs (disch := first | omega | decide) only [seval, -Int.reducePow, -Nat.reducePow, cC, pv, binv, sHjA1, undef, g3, g4, g5]
      simp only [bwc, List.length_cons, List.length_nil, true_and]
      simp -implicitDefEqProofs (disch := first | omega | decide) only [seval, -Int.reducePow, -Nat.reducePow, cC, pv, binv, sHjA1, undef, g3, g4, g5]
      intro bE hbE
      refine appV_at 1 tap41 rfl (fun w hw => src_blk (size := 4) (.head _) rfl hw) rfl (by omega) (by omega) ?_
      intro A2 c2 hl2 hr2
      simp -implicitDefEqProofs (disch := first | omega | decide) only [seval, -Int.reducePow, -Nat.reducePow, cC, pv, binv, sHjA1, undef, g3, g4, g5]
      refine hK _ _ ?_
      clear hK K
      refine cv_region_then rfl ?_
      simp -implicitDefEqProofs (disch := first | omega | decide) only [seval, -Int.reducePow, -Nat.reducePow, cC, pv, binv, sHjA1, undef, g3, g4, g5]
      refine ⟨⟨i + 1, A2, n1 + 1, c2, ?_⟩, ?_⟩
      · rw [hof, bwCells_snoc]
        simp -implicitDefEqProofs (disch := first | omega | decide) only [seval, -Int.reducePow, -Nat.reducePow, cC, pv, binv, sHjA1, undef, Int.natCast_add, g3, g4, g5]
        omega
      · simp only [intOf]; omega
    | true =>
      have hof : wtoB (l.take (i + 1)) ob ho = wtoB (l.take i) ob ho := by unfold wtoB; rw [hfs]; simp [hb]
      simp -implicitDefEqProofs (disch := first | omega | decide) only [seval, -Int.reducePow, -Nat.reducePow, cC, pv, binv, sHjA1, undef, hb, g3, g4, g5]
      refine cv_skip ?_
      try simp only [blockQ, thenQ]
      refine hK _ _ ?_
      clear hK K
      refine cv_region_then rfl ?_
      simp -implicitDefEqProofs (disch := first | omega | decide) only [seval, -Int.reducePow, -Nat.reducePow, cC, pv, binv, sHjA1, undef, g3, g4, g5]
      refine ⟨⟨i + 1, A1, n1, c1, ?_⟩, ?_⟩
      · rw [hof]
        simp -implicitDefEqProofs (disch := first | omega | decide) only [seval, -Int.reducePow, -Nat.reducePow, cC, pv, binv, sHjA1, undef, Int.natCast_add, g3, g4, g5]
        omega
      · simp only [intOf]; omega
  refine cv_exit ?_
  simp only [blockQ, thenQ, if_true, ite_true]
  clear hK K
  refine hK _ _ ?_
  clear hK K
  have hin : i = n := by have := of_decide_eq_false ‹decide ((i : Int) < (n : Int)) = false›; omega
  subst hin
  rw [List.take_of_length_le (by omega)]
  refine cv_seq_k fun K hK => ?_
  refine cv_region_then rfl ?_
  simp -implicitDefEqProofs (disch := first | omega | decide) only [seval, -Int.reducePow, -Nat.reducePow, cC, pv, binv, sHjA1, undef, g3, g4]
  refine hK _ _ ?_
  clear hK K
  refine cv_ret ⟨_, (by simp -implicitDefEqProofs (disch := first | omega | decide) only [seval, -Int.reducePow, -Nat.reducePow, cC, pv, binv, sHjA1, undef, g3, g4]; rfl), fun w hw => ?_⟩
  exact ⟨A1, n1, c1, rfl, ownsRow_new (hw.holds _ (.head _)) (hw.own _ (.head _)), hw.below⟩
set_option maxHeartbeats 1000000 in
theorem rHeld_any {W : World} {b off : Nat} {A : Option Addr} {n c : Nat} {l : List Bw} (h : LgW W W.heap.size b off A n c l) (ho : Int) :
    Calls Try.prog 26 #[.pointer (some ⟨b, off, none⟩), .int .i64 ho] W fun e w' => e = .returned (.int .i64 (heldB l ho : Int)) ∧ Below W.heap.size W w' := by
  have hlen := h.len
  have hmax := h.max
  refine calls_cv (M := []) (n := 29) [.tmp 4] rfl Try.func26 rfl rfl (Nat.le_of_ble_eq_true rfl) (St.nil _ _) ?_
  refine cv_seq_k fun K hK => ?_
  refine cv_region_then rfl ?_
  simp -implicitDefEqProofs (disch := first | omega | decide) only [seval, -Int.reducePow, -Nat.reducePow, cC, pv, binv, sHjA1, undef]
  refine hK _ _ ?_
  clear hK K
  refine cv_seq_k fun K hK => ?_
  refine cv_region_then rfl ?_
  simp -implicitDefEqProofs (disch := first | omega | decide) only [seval, -Int.reducePow, -Nat.reducePow, cC, pv, binv, sHjA1, undef]
  refine hK _ _ ?_
  clear hK K
  refine cv_seq_k fun K hK => ?_
  refine cv_seq_k fun K hK => ?_
  refine cv_region_then rfl ?_
  simp -implicitDefEqProofs (disch := first | omega | decide) only [seval, -Int.reducePow, -Nat.reducePow, cC, pv, binv, sHjA1, undef]
  refine hK _ _ ?_
  clear hK K
  refine cv_gen fun G6 hG => ?_
  have g6_0 := congrFun hG 0
  have g6_1 := congrFun hG 1
  have g6_5 := congrFun hG 5
  have g6_6 := congrFun hG 6
  clear hG
  try simp -implicitDefEqProofs (disch := first | omega | decide) only [seval, -Int.reducePow, -Nat.reducePow, cC, pv, binv, sHjA1, undef] at g6_0 g6_1 g6_5 g6_6
  have g6 := And.intro g6_0 (And.intro g6_1 (And.intro g6_5 g6_6))
  refine cv_block ?_
  refine cv_loop (fun F' L' => ∃ (i : Nat), F' 0 = G6 0 ∧ F' 1 = G6 1 ∧ F' 5 = .int .i64 (heldB (l.take i) ho : Int) ∧ F' 6 = .int .i64 (i : Int) ∧ L' = [] ∧ i ≤ n) (fun F' L' => 200000 - (intOf (F' 6)).toNat) ?_ ?_
  · refine ⟨0, ?_⟩
    simp -implicitDefEqProofs (disch := first | omega | decide) only [seval, -Int.reducePow, -Nat.reducePow, cC, pv, binv, sHjA1, undef, g6]
    exact ⟨rfl, Nat.zero_le _⟩
  intro G7 L' hI
  obtain ⟨i, q0, q1, q5, q6, rfl, hi⟩ := hI
  have g7_0 := q0.trans g6_0
  have g7_1 := q1.trans g6_1
  have g7_5 := q5
  have g7_6 := q6
  clear q0 q1 q5 q6
  have g7 := And.intro g7_0 (And.intro g7_1 (And.intro g7_5 g7_6))
  refine cv_seq_k fun K hK => ?_
  refine cv_seq_k fun K hK => ?_
  refine cv_region_then rfl ?_
  simp -implicitDefEqProofs (disch := first | omega | decide) only [seval, -Int.reducePow, -Nat.reducePow, cC, pv, binv, sHjA1, undef, g6, g7]
  refine ⟨_, h.cell.ld1 (m := 1) (i := 0) (by kernel_rfl) rfl, fun tok htok => ?_⟩
  subst htok
  simp -implicitDefEqProofs (disch := first | omega | decide) only [seval, -Int.reducePow, -Nat.reducePow, cC, pv, binv, sHjA1, undef, g6, g7]
  refine hK _ _ ?_
  clear hK K
  refine cv_cond ?_
  simp -implicitDefEqProofs (disch := first | omega | decide) only [seval, -Int.reducePow, -Nat.reducePow, cC, pv, binv, sHjA1, undef, g6, g7]
  refine ⟨fun hc => ?_, fun hc => ?_⟩
  · refine cv_skip ?_
    try simp only [blockQ, thenQ]
    have hit : i < n := by have := of_decide_eq_true ‹decide ((i : Int) < (n : Int)) = true›; omega
    obtain ⟨e, he⟩ : ∃ e, l[i]? = some e := ⟨_, List.getElem?_eq_getElem (by omega)⟩
    have hfs := filter_step he (fun b => decide (b.ho = ho))
    have hrow := h.row
    obtain ⟨bA, oA, rfl, hbA, -⟩ := hrow.cells (by omega)
    have hn1 : heldB (l.take i) ho ≤ 100000 := by
      have h1 : heldB (l.take i) ho ≤ (l.take i).length := List.length_filter_le _ _
      rw [List.length_take] at h1
      omega
    refine hK _ _ ?_
    clear hK K
    refine cv_seq_k fun K hK => ?_
    refine cv_block ?_
    refine cv_seq_k fun K hK => ?_
    refine cv_region_then rfl ?_
    simp -implicitDefEqProofs (disch := first | omega | decide) only [seval, -Int.reducePow, -Nat.reducePow, cC, pv, binv, sHjA1, undef, g6, g7]
    refine ⟨_, h.cell.ld1 (m := 1) (i := 0) (by kernel_rfl) rfl, fun tok htok => ?_⟩
    subst htok
    simp -implicitDefEqProofs (disch := first | omega | decide) only [seval, -Int.reducePow, -Nat.reducePow, cC, pv, binv, sHjA1, undef, g6, g7]
    refine ⟨_, hrow.ld1 (m := 1) (i := i * 4 + 1) (by kernel_rfl) (flGet bwc_len he (by omega)), fun tok htok => ?_⟩
    subst htok
    simp -implicitDefEqProofs (disch := first | omega | decide) only [seval, -Int.reducePow, -Nat.reducePow, cC, pv, binv, sHjA1, undef, g6, g7]
    refine hK _ _ ?_
    clear hK K
    refine cv_cond ?_
    by_cases he1 : e.ho = ho
    · have hof : heldB (l.take (i + 1)) ho = heldB (l.take i) ho + 1 := by unfold heldB; rw [hfs]; simp [he1]
      simp -implicitDefEqProofs (disch := first | omega | decide) only [seval, -Int.reducePow, -Nat.reducePow, cC, pv, binv, sHjA1, undef, he1, g6, g7]
      refine cv_region_q rfl ?_
      simp -implicitDefEqProofs (disch := first | omega | decide) only [seval, -Int.reducePow, -Nat.reducePow, cC, pv, binv, sHjA1, undef, g6, g7]
      refine hK _ _ ?_
      clear hK K
      refine cv_region_then rfl ?_
      simp -implicitDefEqProofs (disch := first | omega | decide) only [seval, -Int.reducePow, -Nat.reducePow, cC, pv, binv, sHjA1, undef, g6, g7]
      refine ⟨⟨i + 1, ?_⟩, ?_⟩
      · rw [hof]
        simp -implicitDefEqProofs (disch := first | omega | decide) only [seval, -Int.reducePow, -Nat.reducePow, cC, pv, binv, sHjA1, undef, Int.natCast_add, g6, g7]
        omega
      · simp only [intOf]; omega
    · have hof : heldB (l.take (i + 1)) ho = heldB (l.take i) ho := by unfold heldB; rw [hfs]; simp [he1]
      simp -implicitDefEqProofs (disch := first | omega | decide) only [seval, -Int.reducePow, -Nat.reducePow, cC, pv, binv, sHjA1, undef, he1, g6, g7]
      refine cv_skip ?_
      try simp only [blockQ, thenQ]
      refine hK _ _ ?_
      clear hK K
      refine cv_region_then rfl ?_
      simp -implicitDefEqProofs (disch := first | omega | decide) only [seval, -Int.reducePow, -Nat.reducePow, cC, pv, binv, sHjA1, undef, g6, g7]
      refine ⟨⟨i + 1, ?_⟩, ?_⟩
      · rw [hof]
        simp -implicitDefEqProofs (disch := first | omega | decide) only [seval, -Int.reducePow, -Nat.reducePow, cC, pv, binv, sHjA1, undef, Int.natCast_add, g6, g7]
        omega
      · simp only [intOf]; omega
  refine cv_exit ?_
  simp only [blockQ, thenQ, if_true, ite_true]
  clear hK K
  refine hK _ _ ?_
  clear hK K
  have hin : i = n := by have := of_decide_eq_false ‹decide ((i : Int) < (n : Int)) = false›; omega
  subst hin
  have hl : heldB (l.take i) ho = heldB l ho := by rw [List.take_of_length_le (by omega)]
  refine cv_seq_k fun K hK => ?_
  refine cv_region_then rfl ?_
  simp -implicitDefEqProofs (disch := first | omega | decide) only [seval, -Int.reducePow, -Nat.reducePow, cC, pv, binv, sHjA1, undef, hl, g6, g7]
  refine hK _ _ ?_
  clear hK K
  refine cv_ret ⟨_, (by simp -implicitDefEqProofs (disch := first | omega | decide) only [seval, -Int.reducePow, -Nat.reducePow, cC, pv, binv, sHjA1, undef, g6, g7]; rfl), fun w hw => ?_⟩
  exact ⟨rfl, hw.below⟩
def bw0 : Bw := ⟨0, 0, 0, 0⟩
def holdV (l : List Bw) (ob ho : Int) : Value := .tuple #[bwV ((holdB l ob ho).getD bw0), .bool (holdB l ob ho).isSome]
theorem find_take {l : List Bw} {p : Bw → Bool} {i : Nat} {e : Bw} (he : l[i]? = some e) (hp : (l.take i).find? p = none) (h : p e = true) : l.find? p = some e := by
  have h1 : l = l.take i ++ e :: l.drop (i + 1) := by
    conv => lhs; rw [← List.take_append_drop i l]
    congr 1
    rw [List.drop_eq_getElem_cons (List.getElem?_eq_some_iff.1 he).1]
    congr 1
    have := (List.getElem?_eq_some_iff.1 he).2
    exact this
  rw [h1, List.find?_append, hp]
  simp [h]
theorem find_step {l : List Bw} {p : Bw → Bool} {i : Nat} {e : Bw} (he : l[i]? = some e) (hp : (l.take i).find? p = none) (h : p e = false) : (l.take (i + 1)).find? p = none := by
  rw [List.take_add_one, he, List.find?_append, hp]
  simp [h]
set_option maxHeartbeats 1000000 in
theorem rHolds_any {W : World} {b off : Nat} {A : Option Addr} {n c : Nat} {l : List Bw} (h : LgW W W.heap.size b off A n c l) (ob ho : Int) :
    Calls Try.prog 89 #[.pointer (some ⟨b, off, none⟩), .int .i64 ob, .int .i64 ho] W fun e w' => e = .returned (holdV l ob ho) ∧ Below W.heap.size W w' := by
  have hlen := h.len
  have hmax := h.max
  have hbW : b < W.heap.size := h.lt
  refine calls_cv2 (M := []) (n := 48) [.cell 6 82, .tmp 7] rfl Try.func89 rfl rfl (Nat.le_of_ble_eq_true rfl) (St.nil _ _) ?_
  refine cv_seq_k fun K hK => ?_
  refine cv_region_then rfl ?_
  simp -implicitDefEqProofs (disch := first | omega | decide) only [seval, -Int.reducePow, -Nat.reducePow, cC, pv, binv, sHjA1, undef]
  intro b6 hb6
  refine hK _ _ ?_
  clear hK K
  refine cv_seq_k fun K hK => ?_
  refine cv_seq_k fun K hK => ?_
  refine cv_region_then rfl ?_
  simp -implicitDefEqProofs (disch := first | omega | decide) only [seval, -Int.reducePow, -Nat.reducePow, cC, pv, binv, sHjA1, undef]
  refine hK _ _ ?_
  clear hK K
  refine cv_gen fun G8 hG => ?_
  have g8_0 := congrFun hG 0
  have g8_1 := congrFun hG 1
  have g8_2 := congrFun hG 2
  have g8_6 := congrFun hG 6
  have g8_8 := congrFun hG 8
  clear hG
  try simp -implicitDefEqProofs (disch := first | omega | decide) only [seval, -Int.reducePow, -Nat.reducePow, cC, pv, binv, sHjA1, undef] at g8_0 g8_1 g8_2 g8_6 g8_8
  have g8 := And.intro g8_0 (And.intro g8_1 (And.intro g8_2 (And.intro g8_6 g8_8)))
  refine cv_block ?_
  refine cv_loop (fun F' L' => ∃ (i : Nat), F' 0 = G8 0 ∧ F' 1 = G8 1 ∧ F' 2 = G8 2 ∧ F' 6 = G8 6 ∧ F' 8 = .int .i64 (i : Int) ∧ L' = [.blk b6 82 [.int .i64 0, .int .i64 0, .int .i64 0, .int .i64 0]] ∧ i ≤ n ∧ (l.take i).find? (isB ob ho) = none) (fun F' L' => 200000 - (intOf (F' 8)).toNat) ?_ ?_
  · refine ⟨0, ?_⟩
    simp -implicitDefEqProofs (disch := first | omega | decide) only [seval, -Int.reducePow, -Nat.reducePow, cC, pv, binv, sHjA1, undef, g8]
    exact ⟨Nat.zero_le _, rfl⟩
  intro G9 L' hI
  obtain ⟨i, q0, q1, q2, q6, q8, rfl, ⟨hi, hfn⟩⟩ := hI
  have g9_0 := q0.trans g8_0
  have g9_1 := q1.trans g8_1
  have g9_2 := q2.trans g8_2
  have g9_6 := q6.trans g8_6
  have g9_8 := q8
  clear q0 q1 q2 q6 q8
  have g9 := And.intro g9_0 (And.intro g9_1 (And.intro g9_2 (And.intro g9_6 g9_8)))
  refine cv_seq_k fun K hK => ?_
  refine cv_seq_k fun K hK => ?_
  refine cv_region_then rfl ?_
  simp -implicitDefEqProofs (disch := first | omega | decide) only [seval, -Int.reducePow, -Nat.reducePow, cC, pv, binv, sHjA1, undef, g8, g9]
  refine ⟨_, h.cell.ld1 (m := 1) (i := 0) (by kernel_rfl) rfl, fun tok htok => ?_⟩
  subst htok
  simp -implicitDefEqProofs (disch := first | omega | decide) only [seval, -Int.reducePow, -Nat.reducePow, cC, pv, binv, sHjA1, undef, g8, g9]
  refine hK _ _ ?_
  clear hK K
  refine cv_cond ?_
  simp -implicitDefEqProofs (disch := first | omega | decide) only [seval, -Int.reducePow, -Nat.reducePow, cC, pv, binv, sHjA1, undef, g8, g9]
  refine ⟨fun hc => ?_, fun hc => ?_⟩
  · refine cv_skip ?_
    try simp only [blockQ, thenQ]
    have hit : i < n := by have := of_decide_eq_true ‹decide ((i : Int) < (n : Int)) = true›; omega
    obtain ⟨e, he⟩ : ∃ e, l[i]? = some e := ⟨_, List.getElem?_eq_getElem (by omega)⟩
    have hld := flAt bwc_len he
    have hrow := h.row
    obtain ⟨bA, oA, rfl, hbA, -⟩ := hrow.cells (by omega)
    refine hK _ _ ?_
    clear hK K
    refine cv_seq_k fun K hK => ?_
    refine cv_block ?_
    refine cv_seq_k fun K hK => ?_
    refine cv_cut (fun _ _ => True) (fun F' L' => F' 0 = G9 0 ∧ F' 1 = G9 1 ∧ F' 2 = G9 2 ∧ F' 6 = G9 6 ∧ F' 8 = G9 8 ∧ F' 39 = .bool (isB ob ho e) ∧ L' = [.blk b6 82 [.int .i64 0, .int .i64 0, .int .i64 0, .int .i64 0]]) ?_ ?_
    · refine cv_region_then rfl ?_
      simp -implicitDefEqProofs (disch := first | omega | decide) only [seval, -Int.reducePow, -Nat.reducePow, cC, pv, binv, sHjA1, undef, g8, g9]
      refine ⟨_, h.cell.ld1 (m := 1) (i := 0) (by kernel_rfl) rfl, fun tok htok => ?_⟩
      subst htok
      simp -implicitDefEqProofs (disch := first | omega | decide) only [seval, -Int.reducePow, -Nat.reducePow, cC, pv, binv, sHjA1, undef, g8, g9]
      refine ⟨_, hrow.ld1 (m := 1) (i := i * 4 + 0) (by kernel_rfl) (flGet bwc_len he (by omega)), fun tok htok => ?_⟩
      subst htok
      simp -implicitDefEqProofs (disch := first | omega | decide) only [seval, -Int.reducePow, -Nat.reducePow, cC, pv, binv, sHjA1, undef, g8, g9]
      by_cases e1 : e.ob = ob
      · simp -implicitDefEqProofs (disch := first | omega | decide) only [seval, -Int.reducePow, -Nat.reducePow, cC, pv, binv, sHjA1, undef, e1, g8, g9]
        refine ⟨_, h.cell.ld1 (m := 1) (i := 0) (by kernel_rfl) rfl, fun tok htok => ?_⟩
        subst htok
        simp -implicitDefEqProofs (disch := first | omega | decide) only [seval, -Int.reducePow, -Nat.reducePow, cC, pv, binv, sHjA1, undef, g8, g9]
        refine ⟨_, hrow.ld1 (m := 1) (i := i * 4 + 1) (by kernel_rfl) (flGet bwc_len he (by omega)), fun tok htok => ?_⟩
        subst htok
        simp -implicitDefEqProofs (disch := first | omega | decide) only [seval, -Int.reducePow, -Nat.reducePow, cC, pv, binv, sHjA1, undef, g8, g9]
        unfold isB
        simp [e1]
      · simp -implicitDefEqProofs (disch := first | omega | decide) only [seval, -Int.reducePow, -Nat.reducePow, cC, pv, binv, sHjA1, undef, e1, g8, g9]
        unfold isB
        simp [e1]
    intro G10 L' _ hF
    obtain ⟨q0, q1, q2, q6, q8, q39, rfl⟩ := hF
    have g10_0 := q0.trans g9_0
    have g10_1 := q1.trans g9_1
    have g10_2 := q2.trans g9_2
    have g10_6 := q6.trans g9_6
    have g10_8 := q8.trans g9_8
    have g10_39 := q39
    clear q0 q1 q2 q6 q8 q39
    have g10 := And.intro g10_0 (And.intro g10_1 (And.intro g10_2 (And.intro g10_6 (And.intro g10_8 g10_39))))
    refine hK _ _ ?_
    clear hK K
    refine cv_cond ?_
    cases hb : isB ob ho e with
    | true =>
      simp -implicitDefEqProofs (disch := first | omega | decide) only [seval, -Int.reducePow, -Nat.reducePow, cC, pv, binv, sHjA1, undef, hb, g8, g9, g10]
      refine cv_seq_k fun K hK => ?_
      refine cv_region_then rfl ?_
      simp -implicitDefEqProofs (disch := first | omega | decide) only [seval, -Int.reducePow, -Nat.reducePow, cC, pv, binv, sHjA1, undef, g8, g9, g10]
      refine ⟨_, h.cell.ld1 (m := 1) (i := 0) (by kernel_rfl) rfl, fun tok htok => ?_⟩
      subst htok
      simp -implicitDefEqProofs (disch := first | omega | decide) only [seval, -Int.reducePow, -Nat.reducePow, cC, pv, binv, sHjA1, undef, g8, g9, g10]
      refine ⟨_, hrow.ld (i := i * 4) (vs := bwc e) (by omega) (by kernel_rfl) hld, fun tok htok => ?_⟩
      subst htok
      simp -implicitDefEqProofs (disch := first | omega | decide) only [seval, -Int.reducePow, -Nat.reducePow, cC, pv, binv, sHjA1, undef, g8, g9, g10]
      simp only [bwc]
      simp -implicitDefEqProofs (disch := first | omega | decide) only [seval, -Int.reducePow, -Nat.reducePow, cC, pv, binv, sHjA1, undef, g8, g9, g10]
      refine hK _ _ ?_
      clear hK K
      refine cv_ret ?_
      simp -implicitDefEqProofs (disch := first | omega | decide) only [seval, -Int.reducePow, -Nat.reducePow, cC, pv, binv, sHjA1, undef, retQ2, ressV, packV, g8, g9, g10]
      intro w hw
      have hfd : holdB l ob ho = some e := find_take he hfn hb
      exact ⟨by unfold holdV; rw [hfd]; rfl, hw.below⟩
    | false =>
      simp -implicitDefEqProofs (disch := first | omega | decide) only [seval, -Int.reducePow, -Nat.reducePow, cC, pv, binv, sHjA1, undef, hb, g8, g9, g10]
      refine cv_skip ?_
      try simp only [blockQ, thenQ]
      refine hK _ _ ?_
      clear hK K
      refine cv_region_then rfl ?_
      simp -implicitDefEqProofs (disch := first | omega | decide) only [seval, -Int.reducePow, -Nat.reducePow, cC, pv, binv, sHjA1, undef, g8, g9, g10]
      refine ⟨⟨i + 1, ?_⟩, ?_⟩
      · simp -implicitDefEqProofs (disch := first | omega | decide) only [seval, -Int.reducePow, -Nat.reducePow, cC, pv, binv, sHjA1, undef, Int.natCast_add, g8, g9, g10]
        exact ⟨by omega, find_step he hfn hb⟩
      · simp only [intOf]; omega
  refine cv_exit ?_
  simp only [blockQ, thenQ, if_true, ite_true]
  clear hK K
  refine hK _ _ ?_
  clear hK K
  have hin : i = n := by have := of_decide_eq_false ‹decide ((i : Int) < (n : Int)) = false›; omega
  subst hin
  rw [List.take_of_length_le (by omega)] at hfn
  refine cv_seq_k fun K hK => ?_
  refine cv_region_then rfl ?_
  simp -implicitDefEqProofs (disch := first | omega | decide) only [seval, -Int.reducePow, -Nat.reducePow, cC, pv, binv, sHjA1, undef, g8, g9]
  refine hK _ _ ?_
  clear hK K
  refine cv_ret ?_
  simp -implicitDefEqProofs (disch := first | omega | decide) only [seval, -Int.reducePow, -Nat.reducePow, cC, pv, binv, sHjA1, undef, retQ2, ressV, packV, g8, g9]
  intro w hw
  have hfd : holdB l ob ho = none := hfn
  exact ⟨by unfold holdV; rw [hfd]; rfl, hw.below⟩
end Go.Proofs.Ytaifnipgefkemaa
/- pluginhostmake: Word, Sum, Event, Events. -/
namespace Go.Proofs.Ytaifnipgefkemaa
open Go.RowKit Go.Shelf
set_option linter.unusedVariables false
set_option linter.unusedSimpArgs false
set_option maxRecDepth 100000
theorem u64bH (op : BinOp) (a b : Int) : 0 ≤ bits op .u64 a b ∧ bits op .u64 a b < 18446744073709551616 := by
  unfold bits
  dsimp only
  rw [IntKind.wrap_u64]
  omega
set_option maxRecDepth 100000 in
theorem sHkT1 : type_of% (And.intro @tape.eq_1 (And.intro @tpBox.eq_1 @Nat.mul_one)) := (And.intro @tape.eq_1 (And.intro @tpBox.eq_1 @Nat.mul_one))
set_option maxHeartbeats 2000000 in
theorem hWord_any (b : Nat) (A : Option Addr) (n c : Nat) (l : List Nat) (i first : Nat) (W : World) (hW : W.heap[b]? = some (.cells (tape A n c i).toArray 58 (0, 0))) (hE : Sl W W.heap.size 1 A n c (u16c l)) (ha : 0 < n → Apt A [b]) (hl : ∀ x ∈ l, x < 65536) (hi : i ≤ 900000) :
    Calls Try.prog 29 #[.pointer (some ⟨b, 0, none⟩), .int .u32 (first : Int)] W (fun e w' => ∃ p : Nat × Nat, e = .returned (.int .u64 (p.1 : Int)) ∧ (p.1 < 18446744073709551616 ∧ p.2 ≤ i + 10) ∧ w'.heap[b]? = some (.cells (tape A n c p.2).toArray 58 (0, 0)) ∧ Pres [b] W w') := by
  have hn8 := nextF_lt (l := l) (i := i + 1) (m := 8) (by omega)
  have hn64 := nextF_lt (l := l) (i := i + 1 + 1 + 1 + 1 + 1) (m := 64) (by omega)
  have e64 : IntKind.u64.wrap ((nextF l (i + 1 + 1 + 1 + 1 + 1) 64 : Nat) : Int) = ((nextF l (i + 1 + 1 + 1 + 1 + 1) 64 : Nat) : Int) := u64_in (by omega)
  have hn3 := nextF_lt (l := l) (i := i + 1 + 1) (m := 3) (by omega)
  have e1 : IntKind.i64.wrap (1 + ((nextF l (i + 1 + 1) 3 : Nat) : Int)) = ((1 + nextF l (i + 1 + 1) 3 : Nat) : Int) := by rw [wrap_in (by omega) (by omega)]; omega
  have e2 : IntKind.u64.wrap ((1 + nextF l (i + 1 + 1) 3 : Nat) : Int) = ((1 + nextF l (i + 1 + 1) 3 : Nat) : Int) := u64_in (by omega)
  obtain ⟨U, hU⟩ : ∃ U, IntKind.u64.wrap (((1 + nextF l (i + 1 + 1) 3 : Nat) : Int) * 2 ^ 56) = U := ⟨_, rfl⟩
  refine calls_cv (M := [b]) (n := 41) [.tmp 4] rfl Try.func29 rfl rfl (Nat.le_of_ble_eq_true rfl)  (St.one hW) ?_
  refine cv_seq_k fun K hK => ?_
  refine cv_region_then rfl ?_
  simp -implicitDefEqProofs (disch := first | omega | decide) only [seval, -Int.reducePow, -Nat.reducePow, cC, pv, binv, sHkT1, undef, IntKind.bits]
  refine hK _ _ ?_
  clear hK K
  refine cv_seq_k fun K hK => ?_
  refine cv_region_then rfl ?_
  simp -implicitDefEqProofs (disch := first | omega | decide) only [seval, -Int.reducePow, -Nat.reducePow, cC, pv, binv, sHkT1, undef, IntKind.bits]
  refine callV_mod1 0 (fun w hw => next_anyN b A n c l i 3 w (hw.hold 0 rfl) (hE.atM' hw ha) ha hl (by omega) (by omega)) rfl ?_
  try simp -implicitDefEqProofs (disch := first | omega | decide) only [seval, -Int.reducePow, -Nat.reducePow, cC, pv, binv, sHkT1, undef, IntKind.bits]
  refine callV_mod1 0 (fun w hw => next_anyN b A n c l (i + 1) 8 w (hw.hold 0 rfl) (hE.atM' hw ha) ha hl (by omega) (by omega)) rfl ?_
  try simp -implicitDefEqProofs (disch := first | omega | decide) only [seval, -Int.reducePow, -Nat.reducePow, cC, pv, binv, sHkT1, undef, IntKind.bits]
  refine hK _ _ ?_
  clear hK K
  refine cv_gen fun G1 hG => ?_
  have g1_0 := congrFun hG 0
  have g1_5 := congrFun hG 5
  clear hG
  try simp -implicitDefEqProofs (disch := first | omega | decide) only [seval, -Int.reducePow, -Nat.reducePow, cC, pv, binv, sHkT1, undef, IntKind.bits] at g1_0 g1_5
  have g1 := And.intro g1_0 g1_5
  obtain ⟨V5, g1_5⟩ : ∃ V : Int, G1 5 = .int .u64 V := ⟨_, g1_5⟩
  have g1 := And.intro g1_0 g1_5
  rename_i gold
  clear gold
  have g1 := And.intro g1_0 g1_5
  obtain ⟨B, hB⟩ : ∃ B, bits .and .u64 V5 4294967295 = B := ⟨_, rfl⟩
  obtain ⟨C, hC⟩ : ∃ C, IntKind.u64.wrap (B * 2 ^ 24) = C := ⟨_, rfl⟩
  refine cv_seq_k fun K hK => ?_
  refine cv_region_then rfl ?_
  simp -implicitDefEqProofs (disch := first | omega | decide) only [seval, -Int.reducePow, -Nat.reducePow, cC, pv, binv, sHkT1, undef, IntKind.bits, g1]
  refine callV_mod1 0 (fun w hw => next_anyN b A n c l (i + 1 + 1) 3 w (hw.hold 0 rfl) (hE.atM' hw ha) ha hl (by omega) (by omega)) rfl ?_
  try simp -implicitDefEqProofs (disch := first | omega | decide) only [seval, -Int.reducePow, -Nat.reducePow, cC, pv, binv, sHkT1, undef, IntKind.bits, e1, e2, hU, hB, hC, g1]
  refine callV_mod1 0 (fun w hw => next_anyN b A n c l (i + 1 + 1 + 1) 6 w (hw.hold 0 rfl) (hE.atM' hw ha) ha hl (by omega) (by omega)) rfl ?_
  try simp -implicitDefEqProofs (disch := first | omega | decide) only [seval, -Int.reducePow, -Nat.reducePow, cC, pv, binv, sHkT1, undef, IntKind.bits, e1, e2, hU, hB, hC, g1]
  refine hK _ _ ?_
  clear hK K
  refine cv_gen fun G2 hG => ?_
  have g2_0 := congrFun hG 0
  have g2_6 := congrFun hG 6
  clear hG
  try simp -implicitDefEqProofs (disch := first | omega | decide) only [seval, -Int.reducePow, -Nat.reducePow, cC, pv, binv, sHkT1, undef, IntKind.bits, g1] at g2_0 g2_6
  have g2 := And.intro g2_0 g2_6
  obtain ⟨V0, hV0, g2_6⟩ : ∃ V : Int, (0 ≤ V ∧ V < 18446744073709551616) ∧ G2 6 = .int .u64 V := by
    refine ⟨_, ?_, g2_6⟩
    exact u64bH _ _ _
  rename_i gold
  clear gold
  have g2 := And.intro g2_0 g2_6
  refine cv_seq_k fun K hK => ?_
  refine cv_cut (fun _ _ => True) (fun F' L' => ∃ (V : Int) (j : Nat), F' 6 = .int .u64 V ∧ L' = [tpBox b A n c j] ∧ 0 ≤ V ∧ V < 18446744073709551616 ∧ j ≤ i + 10) ?_ ?_
  · refine cv_seq_k fun K hK => ?_
    refine cv_region_then rfl ?_
    simp -implicitDefEqProofs (disch := first | omega | decide) only [seval, -Int.reducePow, -Nat.reducePow, cC, pv, binv, sHkT1, undef, IntKind.bits, g2]
    refine callV_mod1 0 (fun w hw => next_anyN b A n c l (i + 1 + 1 + 1 + 1) 20 w (hw.hold 0 rfl) (hE.atM' hw ha) ha hl (by omega) (by omega)) rfl ?_
    try simp -implicitDefEqProofs (disch := first | omega | decide) only [seval, -Int.reducePow, -Nat.reducePow, cC, pv, binv, sHkT1, undef, IntKind.bits, g2]
    refine hK _ _ ?_
    clear hK K
    refine cv_cond ?_
    simp -implicitDefEqProofs (disch := first | omega | decide) only [seval, -Int.reducePow, -Nat.reducePow, cC, pv, binv, sHkT1, undef, IntKind.bits, g2]
    refine ⟨fun hc => ?_, fun hc => ?_⟩
    · refine cv_region_q rfl ?_
      simp -implicitDefEqProofs (disch := first | omega | decide) only [seval, -Int.reducePow, -Nat.reducePow, cC, pv, binv, sHkT1, undef, IntKind.bits, g2]
      refine callV_mod1 0 (fun w hw => next_anyN b A n c l (i + 1 + 1 + 1 + 1 + 1) 64 w (hw.hold 0 rfl) (hE.atM' hw ha) ha hl (by omega) (by omega)) rfl ?_
      try simp -implicitDefEqProofs (disch := first | omega | decide) only [seval, -Int.reducePow, -Nat.reducePow, cC, pv, binv, sHkT1, undef, IntKind.bits, g2]
      simp -implicitDefEqProofs (disch := first | omega | decide) only [seval, -Int.reducePow, -Nat.reducePow, cC, pv, binv, sHkT1, undef, IntKind.bits, e64, g2]
      have hx := u64bH .xor V0 (IntKind.u64.wrap (1 * 2 ^ nextF l (i + 1 + 1 + 1 + 1 + 1) 64))
      generalize bits .xor .u64 V0 (IntKind.u64.wrap (1 * 2 ^ nextF l (i + 1 + 1 + 1 + 1 + 1) 64)) = V1 at *
      refine ⟨V1, i + 6, ?_⟩
      simp -implicitDefEqProofs (disch := first | omega | decide) only [seval, -Int.reducePow, -Nat.reducePow, cC, pv, binv, sHkT1, undef, IntKind.bits, g2]
      exact ⟨hx.1, hx.2, by omega⟩
    · refine cv_skip ?_
      try simp only [blockQ, thenQ]
      refine ⟨V0, i + 5, ?_⟩
      simp -implicitDefEqProofs (disch := first | omega | decide) only [seval, -Int.reducePow, -Nat.reducePow, cC, pv, binv, sHkT1, undef, IntKind.bits, g2]
      exact ⟨hV0.1, hV0.2, by omega⟩
  intro G3 L' _ hF
  obtain ⟨V, j, q6, rfl, ⟨hV0, hV1, hj⟩⟩ := hF
  have g3_6 := q6
  clear q6
  have g3 := g3_6
  refine hK _ _ ?_
  clear hK K
  obtain ⟨y, rfl⟩ := Int.eq_ofNat_of_zero_le hV0
  refine cv_seq_k fun K hK => ?_
  refine cv_region_then rfl ?_
  simp -implicitDefEqProofs (disch := first | omega | decide) only [seval, -Int.reducePow, -Nat.reducePow, cC, pv, binv, sHkT1, undef, IntKind.bits, g3]
  refine hK _ _ ?_
  clear hK K
  refine cv_ret ⟨_, (by simp -implicitDefEqProofs (disch := first | omega | decide) only [seval, -Int.reducePow, -Nat.reducePow, cC, pv, binv, sHkT1, undef, IntKind.bits, g3]; rfl), fun w hw => ?_⟩
  exact ⟨(y, j), rfl, ⟨by omega, hj⟩, hw.hold 0 rfl, hw.pres⟩
/-- A call that may write a block but leaves it as it was. -/
theorem presH_below {W w : World} {b : Nat} (h : Pres [b] W w) (hb : w.heap[b]? = W.heap[b]?) : Below W.heap.size W w :=
  ⟨h.os, h.tape, h.output, h.size, fun k hk => by
    by_cases e : k = b
    · subst e; exact hb
    · exact h.block k hk (by simpa using e)⟩
theorem hMore_any (b : Nat) (A : Option Addr) (n c i : Nat) (W : World) (hW : W.heap[b]? = some (.cells (tape A n c i).toArray 58 (0, 0))) :
    Calls Try.prog 16 #[.pointer (some ⟨b, 0, none⟩)] W (fun e w' => (∃ r : Bool, e = .returned (.bool r) ∧ True) ∧ Below W.heap.size W w') := by
  refine calls_cv (M := [b]) (n := 13) [.tmp 2] rfl Try.func16 rfl rfl (Nat.le_of_ble_eq_true rfl)  (St.one hW) ?_
  refine cv_seq_k fun K hK => ?_
  refine cv_region_then rfl ?_
  simp -implicitDefEqProofs (disch := first | omega | decide) only [seval, -Int.reducePow, -Nat.reducePow, cC, pv, binv, sHkT1, undef, IntKind.bits]
  refine hK _ _ ?_
  clear hK K
  refine cv_seq_k fun K hK => ?_
  refine cv_draw [(true, 0), (true, 1), (true, 2), (true, 3), (true, 4), (true, 5), (true, 6), (true, 7), (true, 8), (true, 9), (true, 10)] [] mixA rfl (by kernel_rfl) (by kernel_rfl) rfl rfl ?_
  simp -implicitDefEqProofs (disch := first | omega | decide) only [seval, -Int.reducePow, -Nat.reducePow, cC, pv, binv, sHkT1, undef, IntKind.bits]
  refine hK _ _ ?_
  clear hK K
  refine cv_ret ⟨_, (by simp -implicitDefEqProofs (disch := first | omega | decide) only [seval, -Int.reducePow, -Nat.reducePow, cC, pv, binv, sHkT1, undef, IntKind.bits]; rfl), fun w hw => ?_⟩
  have := presH_below hw.pres ((hw.hold 0 rfl).trans hW.symm)
  exact ⟨⟨_, rfl, trivial⟩, this⟩
theorem ops_get {q : Nat} (h : q < 13) : ∃ op : Int, ([.int .i64 32, .int .i64 1, .int .i64 2, .int .i64 3, .int .i64 4, .int .i64 8, .int .i64 9, .int .i64 10, .int .i64 11, .int .i64 33, .int .i64 7, .int .i64 5, .int .i64 6] : List Value)[q]? = some (.int .i64 op) := by
  have : q = 0 ∨ q = 1 ∨ q = 2 ∨ q = 3 ∨ q = 4 ∨ q = 5 ∨ q = 6 ∨ q = 7 ∨ q = 8 ∨ q = 9 ∨ q = 10 ∨ q = 11 ∨ q = 12 := by omega
  rcases this with rfl | rfl | rfl | rfl | rfl | rfl | rfl | rfl | rfl | rfl | rfl | rfl | rfl <;> exact ⟨_, rfl⟩
set_option maxRecDepth 100000 in
theorem sHkT2 : type_of% (And.intro @Nat.mul_one @wrap_in) := (And.intro @Nat.mul_one @wrap_in)
set_option maxHeartbeats 4000000 in
theorem hSum_any {W : World} {A : Option Addr} {n c : Nat} {l : List Nat} (hE : Sl W W.heap.size 1 A n c (l.map fun x : Nat => Value.int .u8 (x : Int))) (hn : n ≤ 100000) :
    Calls Try.prog 30 #[.slice A n c] W fun e w' => (∃ d : Nat, e = .returned (.int .u64 (d : Int)) ∧ d < 18446744073709551616) ∧ Below W.heap.size W w' := by
  have hlen := hE.len
  rw [List.length_map] at hlen
  refine calls_cv (M := []) (n := 20) [.tmp 2] rfl Try.func30 rfl rfl (Nat.le_of_ble_eq_true rfl) (St.nil _ _) ?_
  refine cv_seq_k fun K hK => ?_
  refine cv_region_then rfl ?_
  simp -implicitDefEqProofs (disch := first | omega | decide) only [seval, -Int.reducePow, -Nat.reducePow, cC, pv, binv, sHkT2, undef]
  refine hK _ _ ?_
  clear hK K
  refine cv_seq_k fun K hK => ?_
  refine cv_region_then rfl ?_
  simp -implicitDefEqProofs (disch := first | omega | decide) only [seval, -Int.reducePow, -Nat.reducePow, cC, pv, binv, sHkT2, undef]
  refine hK _ _ ?_
  clear hK K
  refine cv_seq_k fun K hK => ?_
  refine cv_seq_k fun K hK => ?_
  refine cv_region_then rfl ?_
  simp -implicitDefEqProofs (disch := first | omega | decide) only [seval, -Int.reducePow, -Nat.reducePow, cC, pv, binv, sHkT2, undef]
  refine hK _ _ ?_
  clear hK K
  refine cv_gen fun G4 hG => ?_
  have g4_0 := congrFun hG 0
  have g4_3 := congrFun hG 3
  have g4_4 := congrFun hG 4
  clear hG
  try simp -implicitDefEqProofs (disch := first | omega | decide) only [seval, -Int.reducePow, -Nat.reducePow, cC, pv, binv, sHkT2, undef] at g4_0 g4_3 g4_4
  have g4 := And.intro g4_0 (And.intro g4_3 g4_4)
  refine cv_block ?_
  refine cv_loop (fun F' L' => ∃ (i : Nat) (d : Nat), F' 0 = G4 0 ∧ F' 3 = .int .u64 (d : Int) ∧ F' 4 = .int .i64 (i : Int) ∧ L' = [] ∧ i ≤ n ∧ d < 18446744073709551616) (fun F' L' => 200000 - (intOf (F' 4)).toNat) ?_ ?_
  · refine ⟨0, 14695981039346656037, ?_⟩
    simp -implicitDefEqProofs (disch := first | omega | decide) only [seval, -Int.reducePow, -Nat.reducePow, cC, pv, binv, sHkT2, undef, g4]
    exact Nat.zero_le _
  intro G5 L' hI
  obtain ⟨i, d, q0, q3, q4, rfl, ⟨hi, hd⟩⟩ := hI
  have g5_0 := q0.trans g4_0
  have g5_3 := q3
  have g5_4 := q4
  clear q0 q3 q4
  have g5 := And.intro g5_0 (And.intro g5_3 g5_4)
  refine cv_seq_k fun K hK => ?_
  refine cv_seq_k fun K hK => ?_
  refine cv_region_then rfl ?_
  simp -implicitDefEqProofs (disch := first | omega | decide) only [seval, -Int.reducePow, -Nat.reducePow, cC, pv, binv, sHkT2, undef, g4, g5]
  refine hK _ _ ?_
  clear hK K
  refine cv_cond ?_
  simp -implicitDefEqProofs (disch := first | omega | decide) only [seval, -Int.reducePow, -Nat.reducePow, cC, pv, binv, sHkT2, undef, g4, g5]
  refine ⟨fun hc => ?_, fun hc => ?_⟩
  · refine cv_skip ?_
    try simp only [blockQ, thenQ]
    have hit : i < n := by have := of_decide_eq_true ‹decide ((i : Int) < (n : Int)) = true›; omega
    obtain ⟨e, he⟩ : ∃ e, l[i]? = some e := ⟨_, List.getElem?_eq_getElem (by omega)⟩
    obtain ⟨bA, oA, rfl, hbA, -⟩ := hE.cells (by omega)
    refine hK _ _ ?_
    clear hK K
    refine cv_seq_k fun K hK => ?_
    refine cv_block ?_
    refine cv_region_q rfl ?_
    simp -implicitDefEqProofs (disch := first | omega | decide) only [seval, -Int.reducePow, -Nat.reducePow, cC, pv, binv, sHkT2, undef, g4, g5]
    refine ⟨_, hE.ld1 (m := 1) (i := i) (v := .int .u8 (e : Int)) (by kernel_rfl) (by rw [List.getElem?_map, he]; rfl), fun tok htok => ?_⟩
    subst htok
    simp -implicitDefEqProofs (disch := first | omega | decide) only [seval, -Int.reducePow, -Nat.reducePow, cC, pv, binv, sHkT2, undef, g4, g5]
    refine hK _ _ ?_
    clear hK K
    refine cv_gen fun G6 hG => ?_
    have g6_0 := congrFun hG 0
    have g6_3 := congrFun hG 3
    have g6_4 := congrFun hG 4
    clear hG
    try simp -implicitDefEqProofs (disch := first | omega | decide) only [seval, -Int.reducePow, -Nat.reducePow, cC, pv, binv, sHkT2, undef, g4, g5] at g6_0 g6_3 g6_4
    have g6 := And.intro g6_0 (And.intro g6_3 g6_4)
    obtain ⟨V, hV, g6_3⟩ : ∃ V : Nat, V < 18446744073709551616 ∧ G6 3 = .int .u64 (V : Int) := by
      have hr : ∀ a : Int, ∃ V : Nat, V < 18446744073709551616 ∧ IntKind.u64.wrap a = V := fun a => ⟨(IntKind.u64.wrap a).toNat, by rw [IntKind.wrap_u64]; omega, by rw [IntKind.wrap_u64]; omega⟩
      obtain ⟨V, hV, hVe⟩ := hr _
      exact ⟨V, hV, g6_3.trans (congrArg (Value.int .u64) hVe)⟩
    rename_i gold
    clear gold
    have g6 := And.intro g6_0 (And.intro g6_3 g6_4)
    refine cv_region_then rfl ?_
    simp -implicitDefEqProofs (disch := first | omega | decide) only [seval, -Int.reducePow, -Nat.reducePow, cC, pv, binv, sHkT2, undef, g4, g5, g6]
    refine ⟨⟨i + 1, V, ?_⟩, ?_⟩
    · simp -implicitDefEqProofs (disch := first | omega | decide) only [seval, -Int.reducePow, -Nat.reducePow, cC, pv, binv, sHkT2, undef, Int.natCast_add, g4, g5, g6]
      exact ⟨by omega, hV⟩
    · simp only [intOf]; omega
  refine cv_exit ?_
  simp only [blockQ, thenQ, if_true, ite_true]
  clear hK K
  refine hK _ _ ?_
  clear hK K
  refine cv_seq_k fun K hK => ?_
  refine cv_region_then rfl ?_
  simp -implicitDefEqProofs (disch := first | omega | decide) only [seval, -Int.reducePow, -Nat.reducePow, cC, pv, binv, sHkT2, undef, g4, g5]
  refine hK _ _ ?_
  clear hK K
  refine cv_ret ⟨_, (by simp -implicitDefEqProofs (disch := first | omega | decide) only [seval, -Int.reducePow, -Nat.reducePow, cC, pv, binv, sHkT2, undef, g4, g5]; rfl), fun w hw => ?_⟩
  exact ⟨⟨d, rfl, hd⟩, hw.below⟩
set_option maxRecDepth 100000 in
theorem sHkT3 : type_of% (And.intro (And.intro @tape.eq_1 @tpBox.eq_1) (And.intro @Nat.mul_one (And.intro @cMv @cM))) := (And.intro (And.intro @tape.eq_1 @tpBox.eq_1) (And.intro @Nat.mul_one (And.intro @cMv @cM)))
set_option maxHeartbeats 8000000 in
theorem hEvent_any (b : Nat) (A : Option Addr) (n c : Nat) (l : List Nat) (i : Nat) (W : World) (hW : W.heap[b]? = some (.cells (tape A n c i).toArray 58 (0, 0))) (hE : Sl W W.heap.size 1 A n c (u16c l)) (ha : 0 < n → Apt A [b]) (hl : ∀ x ∈ l, x < 65536) (hi : i ≤ 800000) :
    Calls Try.prog 17 #[.pointer (some ⟨b, 0, none⟩)] W (fun e w' => ∃ p : EvR × Nat, e = .returned (evV p.1) ∧ (p.1.ok ∧ p.2 ≤ i + 30) ∧ w'.heap[b]? = some (.cells (tape A n c p.2).toArray 58 (0, 0)) ∧ Pres [b] W w') := by
  have hn3 := nextF_lt (l := l) (i := i) (m := 3) (by omega)
  have hn13 := nextF_lt (l := l) (i := i + 1) (m := 13) (by omega)
  have e1 : IntKind.i64.wrap (1 + ((nextF l i 3 : Nat) : Int)) = ((1 + nextF l i 3 : Nat) : Int) := by rw [wrap_in (by omega) (by omega)]; omega
  have e4 : ∀ j, IntKind.u64.wrap ((nextF l j 4 : Nat) : Int) = ((nextF l j 4 : Nat) : Int) := fun j => by
    have := nextF_lt (l := l) (i := j) (m := 4) (by omega)
    exact u64_in (by omega)
  have hn4 : ∀ j, nextF l j 4 < 18446744073709551616 := fun j => by
    have := nextF_lt (l := l) (i := j) (m := 4) (by omega)
    omega
  refine calls_cv2 (M := [b]) (n := 36) [.cell 2 37] rfl Try.func17 rfl rfl (Nat.le_of_ble_eq_true rfl)  (St.one hW) ?_
  refine cv_seq_k fun K hK => ?_
  refine cv_region_then rfl ?_
  simp -implicitDefEqProofs (disch := first | omega | decide) only [seval, -Int.reducePow, -Nat.reducePow, cC, pv, binv, sHkT3, undef]
  intro b2 hb2 hf2
  refine hK _ _ ?_
  clear hK K
  refine cv_seq_k fun K hK => ?_
  refine cv_region_then rfl ?_
  simp -implicitDefEqProofs (disch := first | omega | decide) only [seval, -Int.reducePow, -Nat.reducePow, cC, pv, binv, sHkT3, undef]
  intro b5 hb5 hf5
  refine hK _ _ ?_
  clear hK K
  refine cv_gen fun G7 hG => ?_
  have g7_0 := congrFun hG 0
  have g7_2 := congrFun hG 2
  have g7_3 := congrFun hG 3
  clear hG
  try simp -implicitDefEqProofs (disch := first | omega | decide) only [seval, -Int.reducePow, -Nat.reducePow, cC, pv, binv, sHkT3, undef] at g7_0 g7_2 g7_3
  have g7 := And.intro g7_0 (And.intro g7_2 g7_3)
  refine cv_seq_k fun K hK => ?_
  refine cv_cut (fun _ _ => True) (fun F' L' => ∃ (b4 : Nat) (pl op : Int) (h ar i2 : Nat), F' 0 = G7 0 ∧ F' 2 = G7 2 ∧ F' 4 = .pointer (some ⟨b4, 0, none⟩) ∧ L' = [.blk b4 37 [.int .i64 pl, .int .i64 op, .int .u64 (h : Int), .int .u64 (ar : Int), .int .i64 0], .blk b2 37 [.int .i64 0, .int .i64 0, .int .u64 0, .int .u64 0, .int .i64 0], tpBox b A n c i2] ∧ h < 18446744073709551616 ∧ ar < 18446744073709551616 ∧ i2 ≤ i + 20 ∧ b4 ≠ b2 ∧ b4 ≠ b ∧ b2 ≠ b) ?_ ?_
  · refine cv_more [0] (by decide) (by simp only [pickL, nth, suf_cons, suf_nil, List.mem_cons, true_or, or_true, and_true, eq_self]) (.rd 0 (.rd 3 (.rd 4 (.rd 8 (.rd 10 (.more 1 (.rd 2 (.more 5 (.rd 6 (.rd 7 (.more 9 (.more 11 (.rd 12 (.rd 13 (.act 14 (.act 15 (.done))))) (.act 14 (.act 11 (.rd 12 (.rd 13 (.act 15 (.done))))))) (.act 14 (.act 9 (.act 11 (.rd 12 (.rd 13 (.act 15 (.done)))))))))) (.act 14 (.act 5 (.rd 6 (.rd 7 (.act 9 (.act 11 (.rd 12 (.rd 13 (.act 15 (.done)))))))))))) (.act 14 (.act 1 (.rd 2 (.act 5 (.rd 6 (.rd 7 (.act 9 (.act 11 (.rd 12 (.rd 13 (.act 15 (.done)))))))))))))))))) [15] mixA rfl (by kernel_rfl) (by kernel_rfl) (by kernel_rfl) (by kernel_rfl) ?_
    simp only [pickL, nth]
    simp -implicitDefEqProofs (disch := first | omega | decide) only [seval, -Int.reducePow, -Nat.reducePow, cC, pv, binv, sHkT3, undef, g7]
    refine And.intro ?_ ?_
    · refine callV_mod1 2 (fun w hw => next_anyN b A n c l i 3 w (hw.hold 2 rfl) (hE.atM' hw ha) ha hl (by omega) (by omega)) rfl ?_
      try simp -implicitDefEqProofs (disch := first | omega | decide) only [seval, -Int.reducePow, -Nat.reducePow, cC, pv, binv, sHkT3, undef, g7]
      refine And.intro ?_ ?_
      · refine callV_mod1 2 (fun w hw => next_anyN b A n c l (i + 1) 13 w (hw.hold 2 rfl) (hE.atM' hw ha) ha hl (by omega) (by omega)) rfl ?_
        try simp -implicitDefEqProofs (disch := first | omega | decide) only [seval, -Int.reducePow, -Nat.reducePow, cC, pv, binv, sHkT3, undef, g7]
        obtain ⟨op, hop⟩ := ops_get (nextF_lt (l := l) (i := i + 1) (m := 13) (by omega))
        simp -implicitDefEqProofs (disch := first | omega | decide) only [seval, -Int.reducePow, -Nat.reducePow, cC, pv, binv, sHkT3, undef, hop, g7]
        refine And.intro ?_ ?_
        · refine callV_mod 2 (fun p : Nat × Nat => .int .u64 (p.1 : Int)) (fun p => tape A n c p.2) (fun p => p.1 < 18446744073709551616 ∧ p.2 ≤ (i + 1 + 1) + 10) rfl (fun w hw => hWord_any b A n c l (i + 1 + 1) 1 w (hw.hold 2 rfl) (hE.atM' hw ha) ha hl (by omega)) ?_
          rintro ⟨y, j⟩ ⟨hy, hj⟩
          dsimp only at hy hj
          simp -implicitDefEqProofs (disch := first | omega | decide) only [seval, -Int.reducePow, -Nat.reducePow, cC, pv, binv, sHkT3, undef, g7]
          refine And.intro ?_ ?_
          · refine callV_mod1 2 (fun w hw => next_anyN b A n c l j 4 w (hw.hold 2 rfl) (hE.atM' hw ha) ha hl (by omega) (by omega)) rfl ?_
            try simp -implicitDefEqProofs (disch := first | omega | decide) only [seval, -Int.reducePow, -Nat.reducePow, cC, pv, binv, sHkT3, undef, g7]
            intro b4 hb4 hf4
            simp -implicitDefEqProofs (disch := first | omega | decide) only [seval, -Int.reducePow, -Nat.reducePow, cC, pv, binv, sHkT3, undef, e1, e4, g7]
            refine ⟨[0, 2, 3], by decide, ?_⟩
            simp only [pickL, nth]
            exact ⟨b4, ((1 + nextF l i 3 : Nat) : Int), op, y, nextF l j 4, j + 1, rfl, rfl, hy, hn4 j, by omega, by omega, by omega, by omega⟩
          · intro b4 hb4 hf4
            refine callV_mod1 3 (fun w hw => next_anyN b A n c l j 4 w (hw.hold 3 rfl) (hE.atM' hw ha) ha hl (by omega) (by omega)) rfl ?_
            try simp -implicitDefEqProofs (disch := first | omega | decide) only [seval, -Int.reducePow, -Nat.reducePow, cC, pv, binv, sHkT3, undef, g7]
            simp -implicitDefEqProofs (disch := first | omega | decide) only [seval, -Int.reducePow, -Nat.reducePow, cC, pv, binv, sHkT3, undef, e1, e4, g7]
            refine ⟨[0, 2, 3], by decide, ?_⟩
            simp only [pickL, nth]
            exact ⟨b4, ((1 + nextF l i 3 : Nat) : Int), op, y, nextF l j 4, j + 1, rfl, rfl, hy, hn4 j, by omega, by omega, by omega, by omega⟩
        · intro b4 hb4 hf4
          refine callV_mod 3 (fun p : Nat × Nat => .int .u64 (p.1 : Int)) (fun p => tape A n c p.2) (fun p => p.1 < 18446744073709551616 ∧ p.2 ≤ (i + 1 + 1) + 10) rfl (fun w hw => hWord_any b A n c l (i + 1 + 1) 1 w (hw.hold 3 rfl) (hE.atM' hw ha) ha hl (by omega)) ?_
          rintro ⟨y, j⟩ ⟨hy, hj⟩
          dsimp only at hy hj
          simp -implicitDefEqProofs (disch := first | omega | decide) only [seval, -Int.reducePow, -Nat.reducePow, cC, pv, binv, sHkT3, undef, g7]
          refine callV_mod1 3 (fun w hw => next_anyN b A n c l j 4 w (hw.hold 3 rfl) (hE.atM' hw ha) ha hl (by omega) (by omega)) rfl ?_
          try simp -implicitDefEqProofs (disch := first | omega | decide) only [seval, -Int.reducePow, -Nat.reducePow, cC, pv, binv, sHkT3, undef, g7]
          simp -implicitDefEqProofs (disch := first | omega | decide) only [seval, -Int.reducePow, -Nat.reducePow, cC, pv, binv, sHkT3, undef, e1, e4, g7]
          refine ⟨[0, 2, 3], by decide, ?_⟩
          simp only [pickL, nth]
          exact ⟨b4, ((1 + nextF l i 3 : Nat) : Int), op, y, nextF l j 4, j + 1, rfl, rfl, hy, hn4 j, by omega, by omega, by omega, by omega⟩
      · intro b4 hb4 hf4
        refine callV_mod1 3 (fun w hw => next_anyN b A n c l (i + 1) 13 w (hw.hold 3 rfl) (hE.atM' hw ha) ha hl (by omega) (by omega)) rfl ?_
        try simp -implicitDefEqProofs (disch := first | omega | decide) only [seval, -Int.reducePow, -Nat.reducePow, cC, pv, binv, sHkT3, undef, g7]
        obtain ⟨op, hop⟩ := ops_get (nextF_lt (l := l) (i := i + 1) (m := 13) (by omega))
        simp -implicitDefEqProofs (disch := first | omega | decide) only [seval, -Int.reducePow, -Nat.reducePow, cC, pv, binv, sHkT3, undef, hop, g7]
        refine callV_mod 3 (fun p : Nat × Nat => .int .u64 (p.1 : Int)) (fun p => tape A n c p.2) (fun p => p.1 < 18446744073709551616 ∧ p.2 ≤ (i + 1 + 1) + 10) rfl (fun w hw => hWord_any b A n c l (i + 1 + 1) 1 w (hw.hold 3 rfl) (hE.atM' hw ha) ha hl (by omega)) ?_
        rintro ⟨y, j⟩ ⟨hy, hj⟩
        dsimp only at hy hj
        simp -implicitDefEqProofs (disch := first | omega | decide) only [seval, -Int.reducePow, -Nat.reducePow, cC, pv, binv, sHkT3, undef, g7]
        refine callV_mod1 3 (fun w hw => next_anyN b A n c l j 4 w (hw.hold 3 rfl) (hE.atM' hw ha) ha hl (by omega) (by omega)) rfl ?_
        try simp -implicitDefEqProofs (disch := first | omega | decide) only [seval, -Int.reducePow, -Nat.reducePow, cC, pv, binv, sHkT3, undef, g7]
        simp -implicitDefEqProofs (disch := first | omega | decide) only [seval, -Int.reducePow, -Nat.reducePow, cC, pv, binv, sHkT3, undef, e1, e4, g7]
        refine ⟨[0, 2, 3], by decide, ?_⟩
        simp only [pickL, nth]
        exact ⟨b4, ((1 + nextF l i 3 : Nat) : Int), op, y, nextF l j 4, j + 1, rfl, rfl, hy, hn4 j, by omega, by omega, by omega, by omega⟩
    · intro b4 hb4 hf4
      refine callV_mod1 3 (fun w hw => next_anyN b A n c l i 3 w (hw.hold 3 rfl) (hE.atM' hw ha) ha hl (by omega) (by omega)) rfl ?_
      try simp -implicitDefEqProofs (disch := first | omega | decide) only [seval, -Int.reducePow, -Nat.reducePow, cC, pv, binv, sHkT3, undef, g7]
      refine callV_mod1 3 (fun w hw => next_anyN b A n c l (i + 1) 13 w (hw.hold 3 rfl) (hE.atM' hw ha) ha hl (by omega) (by omega)) rfl ?_
      try simp -implicitDefEqProofs (disch := first | omega | decide) only [seval, -Int.reducePow, -Nat.reducePow, cC, pv, binv, sHkT3, undef, g7]
      obtain ⟨op, hop⟩ := ops_get (nextF_lt (l := l) (i := i + 1) (m := 13) (by omega))
      simp -implicitDefEqProofs (disch := first | omega | decide) only [seval, -Int.reducePow, -Nat.reducePow, cC, pv, binv, sHkT3, undef, hop, g7]
      refine callV_mod 3 (fun p : Nat × Nat => .int .u64 (p.1 : Int)) (fun p => tape A n c p.2) (fun p => p.1 < 18446744073709551616 ∧ p.2 ≤ (i + 1 + 1) + 10) rfl (fun w hw => hWord_any b A n c l (i + 1 + 1) 1 w (hw.hold 3 rfl) (hE.atM' hw ha) ha hl (by omega)) ?_
      rintro ⟨y, j⟩ ⟨hy, hj⟩
      dsimp only at hy hj
      simp -implicitDefEqProofs (disch := first | omega | decide) only [seval, -Int.reducePow, -Nat.reducePow, cC, pv, binv, sHkT3, undef, g7]
      refine callV_mod1 3 (fun w hw => next_anyN b A n c l j 4 w (hw.hold 3 rfl) (hE.atM' hw ha) ha hl (by omega) (by omega)) rfl ?_
      try simp -implicitDefEqProofs (disch := first | omega | decide) only [seval, -Int.reducePow, -Nat.reducePow, cC, pv, binv, sHkT3, undef, g7]
      simp -implicitDefEqProofs (disch := first | omega | decide) only [seval, -Int.reducePow, -Nat.reducePow, cC, pv, binv, sHkT3, undef, e1, e4, g7]
      refine ⟨[0, 2, 3], by decide, ?_⟩
      simp only [pickL, nth]
      exact ⟨b4, ((1 + nextF l i 3 : Nat) : Int), op, y, nextF l j 4, j + 1, rfl, rfl, hy, hn4 j, by omega, by omega, by omega, by omega⟩
  intro G8 L' _ hF
  obtain ⟨b4, pl, op, h, ar, i2, q0, q2, q4, rfl, ⟨hh, har, hi2, hn42, hn4b, hn2b⟩⟩ := hF
  have g8_0 := q0.trans g7_0
  have g8_2 := q2.trans g7_2
  have g8_4 := q4
  clear q0 q2 q4
  have g8 := And.intro g8_0 (And.intro g8_2 g8_4)
  refine hK _ _ ?_
  clear hK K
  refine cv_seq_k fun K hK => ?_
  refine cv_cut (fun _ _ => True) (fun F' L' => ∃ (er : Int) (i3 : Nat), F' 0 = G8 0 ∧ F' 2 = G8 2 ∧ F' 4 = G8 4 ∧ L' = [.blk b4 37 [.int .i64 pl, .int .i64 op, .int .u64 (h : Int), .int .u64 (ar : Int), .int .i64 er], .blk b2 37 [.int .i64 0, .int .i64 0, .int .u64 0, .int .u64 0, .int .i64 0], tpBox b A n c i3] ∧ i3 ≤ i2 + 2) ?_ ?_
  · refine cv_seq_k fun K hK => ?_
    refine cv_region_then rfl ?_
    simp -implicitDefEqProofs (disch := first | omega | decide) only [seval, -Int.reducePow, -Nat.reducePow, cC, pv, binv, sHkT3, undef, g8]
    refine callV_mod1 2 (fun w hw => next_anyN b A n c l i2 3 w (hw.hold 2 rfl) (hE.atM' hw ha) ha hl (by omega) (by omega)) rfl ?_
    try simp -implicitDefEqProofs (disch := first | omega | decide) only [seval, -Int.reducePow, -Nat.reducePow, cC, pv, binv, sHkT3, undef, g8]
    refine hK _ _ ?_
    clear hK K
    refine cv_cond ?_
    simp -implicitDefEqProofs (disch := first | omega | decide) only [seval, -Int.reducePow, -Nat.reducePow, cC, pv, binv, sHkT3, undef, g8]
    refine ⟨fun hc => ?_, fun hc => ?_⟩
    · refine cv_region_q rfl ?_
      simp -implicitDefEqProofs (disch := first | omega | decide) only [seval, -Int.reducePow, -Nat.reducePow, cC, pv, binv, sHkT3, undef, g8]
      refine callV_mod1 2 (fun w hw => next_anyN b A n c l (i2 + 1) 30 w (hw.hold 2 rfl) (hE.atM' hw ha) ha hl (by omega) (by omega)) rfl ?_
      try simp -implicitDefEqProofs (disch := first | omega | decide) only [seval, -Int.reducePow, -Nat.reducePow, cC, pv, binv, sHkT3, undef, g8]
      refine ⟨((nextF l (i2 + 1) 30 : Nat) : Int), i2 + 1 + 1, ?_⟩
      simp -implicitDefEqProofs (disch := first | omega | decide) only [seval, -Int.reducePow, -Nat.reducePow, cC, pv, binv, sHkT3, undef, g8]
    · refine cv_skip ?_
      try simp only [blockQ, thenQ]
      refine ⟨0, i2 + 1, ?_⟩
      simp -implicitDefEqProofs (disch := first | omega | decide) only [seval, -Int.reducePow, -Nat.reducePow, cC, pv, binv, sHkT3, undef, g8]
      omega
  intro G9 L' _ hF
  obtain ⟨er, i3, q0, q2, q4, rfl, hi3⟩ := hF
  have g9_0 := q0.trans g8_0
  have g9_2 := q2.trans g8_2
  have g9_4 := q4.trans g8_4
  clear q0 q2 q4
  have g9 := And.intro g9_0 (And.intro g9_2 g9_4)
  refine hK _ _ ?_
  clear hK K
  refine cv_seq_k fun K hK => ?_
  refine cv_cut (fun _ _ => True) (fun F' L' => ∃ (ar2 : Nat) (i4 : Nat), F' 2 = G9 2 ∧ F' 4 = G9 4 ∧ L' = [.blk b4 37 [.int .i64 pl, .int .i64 op, .int .u64 (h : Int), .int .u64 (ar2 : Int), .int .i64 er], .blk b2 37 [.int .i64 0, .int .i64 0, .int .u64 0, .int .u64 0, .int .i64 0], tpBox b A n c i4] ∧ ar2 < 18446744073709551616 ∧ i4 ≤ i3 + 2) ?_ ?_
  · refine cv_seq_k fun K hK => ?_
    refine cv_region_then rfl ?_
    simp -implicitDefEqProofs (disch := first | omega | decide) only [seval, -Int.reducePow, -Nat.reducePow, cC, pv, binv, sHkT3, undef, g9]
    refine callV_mod1 2 (fun w hw => next_anyN b A n c l i3 9 w (hw.hold 2 rfl) (hE.atM' hw ha) ha hl (by omega) (by omega)) rfl ?_
    try simp -implicitDefEqProofs (disch := first | omega | decide) only [seval, -Int.reducePow, -Nat.reducePow, cC, pv, binv, sHkT3, undef, g9]
    refine hK _ _ ?_
    clear hK K
    refine cv_cond ?_
    simp -implicitDefEqProofs (disch := first | omega | decide) only [seval, -Int.reducePow, -Nat.reducePow, cC, pv, binv, sHkT3, undef, g9]
    refine ⟨fun hc => ?_, fun hc => ?_⟩
    · refine cv_pick_post [1, 2, 3] (by decide) ?_
      refine cv_region_q rfl ?_
      simp -implicitDefEqProofs (disch := first | omega | decide) only [seval, -Int.reducePow, -Nat.reducePow, cC, pv, binv, sHkT3, undef, g9]
      refine callV_mod1 2 (fun w hw => next_anyN b A n c l (i3 + 1) 256 w (hw.hold 2 rfl) (hE.atM' hw ha) ha hl (by omega) (by omega)) rfl ?_
      try simp -implicitDefEqProofs (disch := first | omega | decide) only [seval, -Int.reducePow, -Nat.reducePow, cC, pv, binv, sHkT3, undef, g9]
      have h256 := nextF_lt (l := l) (i := i3 + 1) (m := 256) (by omega)
      have e8 : IntKind.u8.wrap ((nextF l (i3 + 1) 256 : Nat) : Int) = ((nextF l (i3 + 1) 256 : Nat) : Int) := by rw [IntKind.wrap_u8]; omega
      simp -implicitDefEqProofs (disch := first | omega | decide) only [seval, -Int.reducePow, -Nat.reducePow, cC, pv, binv, sHkT3, undef, e8, g9]
      intro b32 hb32 hf32
      refine callV_ex (fun d : Nat => .int .u64 (d : Int)) (fun d => d < 18446744073709551616) (fun w hw => hSum_any (l := [nextF l (i3 + 1) 256]) (Sl.cell1 (by rw [hw.blk_cell (nth_mem (k := 0) rfl)]; rfl) (hw.own _ (nth_mem (k := 0) rfl) b32 (by simp [Res.foot])).2) (by omega)) ?_
      intro d hd
      simp -implicitDefEqProofs (disch := first | omega | decide) only [seval, -Int.reducePow, -Nat.reducePow, cC, pv, binv, sHkT3, undef, g9]
      exact ⟨d, i3 + 1 + 1, rfl, hd, by omega⟩
    · refine cv_skip ?_
      try simp only [blockQ, thenQ]
      refine ⟨ar, i3 + 1, ?_⟩
      simp -implicitDefEqProofs (disch := first | omega | decide) only [seval, -Int.reducePow, -Nat.reducePow, cC, pv, binv, sHkT3, undef, g9]
      exact ⟨har, by omega⟩
  intro G10 L' _ hF
  obtain ⟨ar2, i4, q2, q4, rfl, ⟨har2, hi4⟩⟩ := hF
  have g10_2 := q2.trans g9_2
  have g10_4 := q4.trans g9_4
  clear q2 q4
  have g10 := And.intro g10_2 g10_4
  refine hK _ _ ?_
  clear hK K
  refine cv_seq_k fun K hK => ?_
  refine cv_region_then rfl ?_
  simp -implicitDefEqProofs (disch := first | omega | decide) only [seval, -Int.reducePow, -Nat.reducePow, cC, pv, binv, sHkT3, undef, g10]
  refine hK _ _ ?_
  clear hK K
  refine cv_ret ?_
  simp -implicitDefEqProofs (disch := first | omega | decide) only [seval, -Int.reducePow, -Nat.reducePow, cC, pv, binv, sHkT3, undef, retQ2, ressV, packV, g10]
  intro w hw
  exact ⟨(⟨pl, op, h, ar2, er⟩, i4), rfl, ⟨⟨hh, har2⟩, by omega⟩, hw.hold 2 rfl, hw.pres⟩
end Go.Proofs.Ytaifnipgefkemaa
