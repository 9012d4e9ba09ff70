/- SameModule. -/
import Derived.Test.YtehfnjaompkikaaMDec
import Derived.Test.YtehfnjaompkikaaSameT
namespace Go.Proofs.Ytehfnjaompkikaa
open Go.RowKit Go.Shelf
set_option linter.unusedVariables false
set_option linter.unusedSimpArgs false
set_option maxRecDepth 100000
theorem take_succ2 {α : Type} {xs ys : List α} {k : Nat} {x : α} (h : xs.take k = ys.take k) (hx : xs[k]? = some x) (hy : ys[k]? = some x) : xs.take (k + 1) = ys.take (k + 1) := by
  obtain ⟨h1, h2⟩ := List.getElem?_eq_some_iff.1 hx
  obtain ⟨h3, h4⟩ := List.getElem?_eq_some_iff.1 hy
  rw [List.take_succ_eq_append_getElem h1, List.take_succ_eq_append_getElem h3, h2, h4, h]
set_option maxHeartbeats 4000000 in
theorem sameFunc_any (f g : FnR) (W : World) (hE : Sl W W.heap.size 2 f.A f.n f.c (cl insc f.code)) (hF : Sl W W.heap.size 2 g.A g.n g.c (cl insc g.code)) :
    Calls Try.prog 40 #[fnV f, fnV g] W fun e w' => e = .returned (.bool (decide (fnD f = fnD g))) ∧ Below W.heap.size W w' := by
  obtain ⟨p, r, lo, A, n, c, fs⟩ := f
  obtain ⟨p2, r2, lo2, B, m, d, gs⟩ := g
  dsimp only at hE hF
  have hln : fs.length = n := cl_row insc_len (by omega) hE.len
  have hlm : gs.length = m := cl_row insc_len (by omega) hF.len
  have hmax := hE.max
  have hcap := hE.cap
  have hfn : fnD ⟨p, r, lo, A, n, c, fs⟩ = fnD ⟨p2, r2, lo2, B, m, d, gs⟩ ↔ p = p2 ∧ r = r2 ∧ lo = lo2 ∧ fs = gs := by simp [fnD]
  rw [decide_eq_decide.2 hfn]
  refine calls_cv (M := []) (n := 52) [.tmp 4] rfl Try.func40 rfl rfl (Nat.le_of_ble_eq_true rfl) (St.nil _ _) ?_
  refine cv_seq_k fun K hK => ?_
  refine cv_region_then rfl ?_
  simp -implicitDefEqProofs (disch := first | omega | decide) only [seval, -Int.reducePow, -Nat.reducePow, cA, cB, pv, binv, fresh, thenQ, blockQ, retQ, Value.oneCell', Value.cells, undef, Nat.mul_one, gBox, fnV, tBox, tyV, mBox, modV]
  intro b2 hb2 b3 hb3 h3
  refine hK _ _ ?_
  clear hK K
  refine cv_gen fun G1 hG => ?_
  have g1_2 := congrFun hG 2
  have g1_3 := congrFun hG 3
  clear hG
  try simp -implicitDefEqProofs (disch := first | omega | decide) only [seval, -Int.reducePow, -Nat.reducePow, cA, cB, pv, binv, fresh, thenQ, blockQ, retQ, Value.oneCell', Value.cells, undef, Nat.mul_one, gBox, fnV, tBox, tyV, mBox, modV] at g1_2 g1_3
  refine cv_seq_k fun K hK => ?_
  refine cv_seq_k fun K hK => ?_
  refine cv_cut (fun _ _ => True) (fun F' L' => F' 2 = G1 2 ∧ F' 3 = G1 3 ∧ F' 33 = .bool (decide (¬ p = p2 ∨ ¬ r = r2 ∨ ¬ lo = lo2 ∨ ¬ n = m)) ∧ L' = [.blk b3 43 [.int .i64 p2, .int .i64 r2, .int .i64 lo2, .slice B m d], .blk b2 43 [.int .i64 p, .int .i64 r, .int .i64 lo, .slice A n c]]) ?_ ?_
  · refine cv_region_then rfl ?_
    simp -implicitDefEqProofs (disch := first | omega | decide) only [seval, -Int.reducePow, -Nat.reducePow, cA, cB, pv, binv, fresh, thenQ, blockQ, retQ, Value.oneCell', Value.cells, undef, Nat.mul_one, gBox, fnV, tBox, tyV, mBox, modV, g1_2, g1_3]
    repeat' ((first | refine vcg_cases (fun hg => ?_) (fun hg => ?_) | refine vdg_cases (fun hg => ?_) (fun hg => ?_)) <;> ((try simp only [Bool.not_eq_true', Bool.not_eq_false', decide_eq_true_eq, decide_eq_false_iff_not] at hg); (try simp -implicitDefEqProofs (disch := first | omega | decide) only [seval, -Int.reducePow, -Nat.reducePow, cA, cB, pv, binv, fresh, thenQ, blockQ, retQ, Value.oneCell', Value.cells, undef, Nat.mul_one, gBox, fnV, tBox, tyV, mBox, modV, hg, g1_2, g1_3])))
    all_goals (repeat' refine And.intro ?_ ?_)
    all_goals (first | with_reducible rfl | (refine congrArg Value.bool ?_; rw [Bool.eq_iff_iff]; (try simp only [decide_eq_true_eq, eq_self, true_and, and_true, false_and, and_false, true_or, or_true, false_or, or_false, not_true_eq_false, not_false_eq_true, true_iff, iff_true, false_iff, iff_false, Bool.false_eq_true, Bool.not_eq_true', Bool.not_eq_true, decide_eq_false_iff_not, Bool.and_eq_true, Bool.or_eq_true]) <;> omega) | (refine congrArg (Value.int _) ?_; omega) | omega)
  intro G2 L' _ hF
  obtain ⟨q2, q3, q33, rfl⟩ := hF
  have g2_2 := q2.trans g1_2
  have g2_3 := q3.trans g1_3
  have g2_33 := q33
  clear q2 q3 q33
  refine hK _ _ ?_
  clear hK K
  refine cv_cond ?_
  simp -implicitDefEqProofs (disch := first | omega | decide) only [seval, -Int.reducePow, -Nat.reducePow, cA, cB, pv, binv, fresh, thenQ, blockQ, retQ, Value.oneCell', Value.cells, undef, Nat.mul_one, gBox, fnV, tBox, tyV, mBox, modV, g2_2, g2_3, g2_33]
  refine ⟨fun hc => ?_, fun hc => ?_⟩
  · have q1 := of_decide_eq_true hc
    refine cv_seq_k fun K hK => ?_
    refine cv_region_then rfl ?_
    simp -implicitDefEqProofs (disch := first | omega | decide) only [seval, -Int.reducePow, -Nat.reducePow, cA, cB, pv, binv, fresh, thenQ, blockQ, retQ, Value.oneCell', Value.cells, undef, Nat.mul_one, gBox, fnV, tBox, tyV, mBox, modV, g2_2, g2_3, g2_33]
    refine hK _ _ ?_
    clear hK K
    refine cv_ret ⟨_, (by simp -implicitDefEqProofs (disch := first | omega | decide) only [seval, -Int.reducePow, -Nat.reducePow, cA, cB, pv, binv, fresh, thenQ, blockQ, retQ, Value.oneCell', Value.cells, undef, Nat.mul_one, gBox, fnV, tBox, tyV, mBox, modV, g2_2, g2_3, g2_33]; rfl), fun w hw => ?_⟩
    refine ⟨?_, hw.below⟩
    rw [decide_eq_false]
    rintro ⟨h1, h2, h3, h4⟩
    subst h4
    omega
  have q1 := of_decide_eq_false hc
  obtain ⟨rfl, rfl, rfl, rfl⟩ : p = p2 ∧ r = r2 ∧ lo = lo2 ∧ n = m := by omega
  refine cv_skip ?_
  try simp only [blockQ, thenQ]
  refine hK _ _ ?_
  clear hK K
  refine cv_seq_k fun K hK => ?_
  refine cv_seq_k fun K hK => ?_
  refine cv_region_then rfl ?_
  simp -implicitDefEqProofs (disch := first | omega | decide) only [seval, -Int.reducePow, -Nat.reducePow, cA, cB, pv, binv, fresh, thenQ, blockQ, retQ, Value.oneCell', Value.cells, undef, Nat.mul_one, gBox, fnV, tBox, tyV, mBox, modV, g2_2, g2_3, g2_33]
  refine hK _ _ ?_
  clear hK K
  refine cv_gen fun G3 hG => ?_
  have g3_2 := congrFun hG 2
  have g3_3 := congrFun hG 3
  have g3_5 := congrFun hG 5
  clear hG
  try simp -implicitDefEqProofs (disch := first | omega | decide) only [seval, -Int.reducePow, -Nat.reducePow, cA, cB, pv, binv, fresh, thenQ, blockQ, retQ, Value.oneCell', Value.cells, undef, Nat.mul_one, gBox, fnV, tBox, tyV, mBox, modV, g2_2, g2_3, g2_33] at g3_2 g3_3 g3_5
  refine cv_block ?_
  refine cv_loop (fun F' L' => ∃ (k : Nat), F' 2 = G3 2 ∧ F' 3 = G3 3 ∧ F' 5 = .int .i64 (k : Int) ∧ L' = [.blk b3 43 [.int .i64 p, .int .i64 r, .int .i64 lo, .slice B n d], .blk b2 43 [.int .i64 p, .int .i64 r, .int .i64 lo, .slice A n c]] ∧ k ≤ n ∧ fs.take k = gs.take k) (fun F' L' => n - (intOf (F' 5)).toNat) ?_ ?_
  · refine ⟨0, ?_⟩
    simp -implicitDefEqProofs (disch := first | omega | decide) only [seval, -Int.reducePow, -Nat.reducePow, cA, cB, pv, binv, fresh, thenQ, blockQ, retQ, Value.oneCell', Value.cells, undef, Nat.mul_one, gBox, fnV, tBox, tyV, mBox, modV, g3_2, g3_3, g3_5]
    omega
  intro G4 L' hI
  obtain ⟨k, q2, q3, q5, rfl, ⟨hk, hq⟩⟩ := hI
  have g4_2 := q2.trans g3_2
  have g4_3 := q3.trans g3_3
  have g4_5 := q5
  clear q2 q3 q5
  refine cv_seq_k fun K hK => ?_
  refine cv_seq_k fun K hK => ?_
  refine cv_region_then rfl ?_
  simp -implicitDefEqProofs (disch := first | omega | decide) only [seval, -Int.reducePow, -Nat.reducePow, cA, cB, pv, binv, fresh, thenQ, blockQ, retQ, Value.oneCell', Value.cells, undef, Nat.mul_one, gBox, fnV, tBox, tyV, mBox, modV, g3_2, g3_3, g3_5, g4_2, g4_3, g4_5]
  refine hK _ _ ?_
  clear hK K
  refine cv_cond ?_
  simp -implicitDefEqProofs (disch := first | omega | decide) only [seval, -Int.reducePow, -Nat.reducePow, cA, cB, pv, binv, fresh, thenQ, blockQ, retQ, Value.oneCell', Value.cells, undef, Nat.mul_one, gBox, fnV, tBox, tyV, mBox, modV, g3_2, g3_3, g3_5, g4_2, g4_3, g4_5]
  refine ⟨fun hc => ?_, fun hc => ?_⟩
  · refine cv_skip ?_
    try simp only [blockQ, thenQ]
    have hlt : k < n := by have := of_decide_eq_true ‹_›; omega
    obtain ⟨b0, off, rfl, hb0, -⟩ := hE.cells (by omega)
    obtain ⟨b1, off1, rfl, hb1, -⟩ := hF.cells (by omega)
    obtain ⟨u, hu⟩ := some_of (l := fs) (i := k) (by omega)
    obtain ⟨v, hv⟩ := some_of (l := gs) (i := k) (by omega)
    refine hK _ _ ?_
    clear hK K
    refine cv_seq_k fun K hK => ?_
    refine cv_block ?_
    refine cv_seq_k fun K hK => ?_
    refine cv_draw [(true, 0), (true, 1), (true, 2), (true, 3), (true, 4), (true, 5), (true, 6), (true, 7), (true, 8), (true, 9), (true, 10)] [] mixA rfl (by kernel_rfl) (by kernel_rfl) rfl rfl ?_
    simp -implicitDefEqProofs (disch := first | omega | decide) only [seval, -Int.reducePow, -Nat.reducePow, cA, cB, pv, binv, fresh, thenQ, blockQ, retQ, Value.oneCell', Value.cells, undef, Nat.mul_one, gBox, fnV, tBox, tyV, mBox, modV, g3_2, g3_3, g3_5, g4_2, g4_3, g4_5]
    refine ⟨_, hE.ins hu, fun tok htok => ?_⟩
    subst htok
    simp -implicitDefEqProofs (disch := first | omega | decide) only [seval, -Int.reducePow, -Nat.reducePow, cA, cB, pv, binv, fresh, thenQ, blockQ, retQ, Value.oneCell', Value.cells, undef, Nat.mul_one, gBox, fnV, tBox, tyV, mBox, modV, g3_2, g3_3, g3_5, g4_2, g4_3, g4_5]
    refine ⟨_, hF.ins hv, fun tok htok => ?_⟩
    subst htok
    simp -implicitDefEqProofs (disch := first | omega | decide) only [seval, -Int.reducePow, -Nat.reducePow, cA, cB, pv, binv, fresh, thenQ, blockQ, retQ, Value.oneCell', Value.cells, undef, Nat.mul_one, gBox, fnV, tBox, tyV, mBox, modV, g3_2, g3_3, g3_5, g4_2, g4_3, g4_5]
    refine hK _ _ ?_
    clear hK K
    refine cv_cond ?_
    simp -implicitDefEqProofs (disch := first | omega | decide) only [seval, -Int.reducePow, -Nat.reducePow, cA, cB, pv, binv, fresh, thenQ, blockQ, retQ, Value.oneCell', Value.cells, undef, Nat.mul_one, gBox, fnV, tBox, tyV, mBox, modV, g3_2, g3_3, g3_5, g4_2, g4_3, g4_5]
    refine ⟨fun hc => ?_, fun hc => ?_⟩
    · have hne : ¬ u = v := by
        rintro rfl
        simp at hc
      refine cv_seq_k fun K hK => ?_
      refine cv_region_then rfl ?_
      simp -implicitDefEqProofs (disch := first | omega | decide) only [seval, -Int.reducePow, -Nat.reducePow, cA, cB, pv, binv, fresh, thenQ, blockQ, retQ, Value.oneCell', Value.cells, undef, Nat.mul_one, gBox, fnV, tBox, tyV, mBox, modV, g3_2, g3_3, g3_5, g4_2, g4_3, g4_5]
      refine hK _ _ ?_
      clear hK K
      refine cv_ret ⟨_, (by simp -implicitDefEqProofs (disch := first | omega | decide) only [seval, -Int.reducePow, -Nat.reducePow, cA, cB, pv, binv, fresh, thenQ, blockQ, retQ, Value.oneCell', Value.cells, undef, Nat.mul_one, gBox, fnV, tBox, tyV, mBox, modV, g3_2, g3_3, g3_5, g4_2, g4_3, g4_5]; rfl), fun w hw => ?_⟩
      refine ⟨?_, hw.below⟩
      rw [decide_eq_false]
      rintro ⟨-, -, -, rfl⟩
      rw [hu] at hv
      injection hv with hv
      exact hne hv
    have huv : u = v := by
      obtain ⟨u1, u2⟩ := u
      obtain ⟨v1, v2⟩ := v
      simp at hc
      simp
      omega
    subst huv
    refine cv_skip ?_
    try simp only [blockQ, thenQ]
    refine hK _ _ ?_
    clear hK K
    refine cv_region_then rfl ?_
    simp -implicitDefEqProofs (disch := first | omega | decide) only [seval, -Int.reducePow, -Nat.reducePow, cA, cB, pv, binv, fresh, thenQ, blockQ, retQ, Value.oneCell', Value.cells, undef, Nat.mul_one, gBox, fnV, tBox, tyV, mBox, modV, wrap_in, g3_2, g3_3, g3_5, g4_2, g4_3, g4_5]
    refine ⟨⟨k + 1, ?_⟩, ?_⟩
    · simp -implicitDefEqProofs (disch := first | omega | decide) only [seval, -Int.reducePow, -Nat.reducePow, cA, cB, pv, binv, fresh, thenQ, blockQ, retQ, Value.oneCell', Value.cells, undef, Nat.mul_one, gBox, fnV, tBox, tyV, mBox, modV, Int.natCast_add, g3_2, g3_3, g3_5, g4_2, g4_3, g4_5]
      exact ⟨by omega, take_succ2 hq hu hv⟩
    · simp only [intOf]; omega
  refine cv_exit ?_
  simp only [blockQ, thenQ, if_true, ite_true]
  clear hK K
  refine hK _ _ ?_
  clear hK K
  have hkn : k = n := by have := of_decide_eq_false ‹_›; omega
  subst hkn
  rw [List.take_of_length_le (by omega), List.take_of_length_le (by omega)] at hq
  refine cv_seq_k fun K hK => ?_
  refine cv_region_then rfl ?_
  simp -implicitDefEqProofs (disch := first | omega | decide) only [seval, -Int.reducePow, -Nat.reducePow, cA, cB, pv, binv, fresh, thenQ, blockQ, retQ, Value.oneCell', Value.cells, undef, Nat.mul_one, gBox, fnV, tBox, tyV, mBox, modV, g3_2, g3_3, g3_5, g4_2, g4_3, g4_5]
  refine hK _ _ ?_
  clear hK K
  refine cv_ret ⟨_, (by simp -implicitDefEqProofs (disch := first | omega | decide) only [seval, -Int.reducePow, -Nat.reducePow, cA, cB, pv, binv, fresh, thenQ, blockQ, retQ, Value.oneCell', Value.cells, undef, Nat.mul_one, gBox, fnV, tBox, tyV, mBox, modV, g3_2, g3_3, g3_5, g4_2, g4_3, g4_5]; rfl), fun w hw => ?_⟩
  exact ⟨by simp [hq], hw.below⟩
theorem map_snoc {α β : Type} {xs ys : List α} {k : Nat} {x y : α} (d : α → β) (h : (xs.take k).map d = (ys.take k).map d) (hx : xs[k]? = some x) (hy : ys[k]? = some y) (hd : d x = d y) : (xs.take (k + 1)).map d = (ys.take (k + 1)).map d := by
  obtain ⟨h1, h2⟩ := List.getElem?_eq_some_iff.1 hx
  obtain ⟨h3, h4⟩ := List.getElem?_eq_some_iff.1 hy
  rw [List.take_succ_eq_append_getElem h1, List.take_succ_eq_append_getElem h3, h2, h4, List.map_append, List.map_append, h, List.map_singleton, List.map_singleton, hd]
theorem map_at {α β : Type} {xs ys : List α} {k : Nat} {x y : α} (d : α → β) (h : xs.map d = ys.map d) (hx : xs[k]? = some x) (hy : ys[k]? = some y) : d x = d y := by
  have := congrArg (fun l => l[k]?) h
  simp only [List.getElem?_map, hx, hy, Option.map_some, Option.some.injEq] at this
  exact this
set_option maxHeartbeats 8000000 in
theorem sameModule_any (m k : ModR) (W : World) (hM : Mod W W.heap.size m) (kM : Mod W W.heap.size k) :
    Calls Try.prog 21 #[modV m, modV k] W fun e w' => e = .returned (.bool (decide (datM m = datM k))) ∧ Below W.heap.size W w' := by
  have hlt := hM.tlen
  have hlg := hM.glen
  have klt := kM.tlen
  have klg := kM.glen
  have hE := hM.ts
  have hG := hM.gs
  have kE := kM.ts
  have kG := kM.gs
  have hme := hE.max
  have hce := hE.cap
  have hmg := hG.max
  have hcg := hG.cap
  obtain ⟨TA, tn, tc, ts, FA, fn, fc, gs⟩ := m
  obtain ⟨TB, sn, sc, us, FB, hn, hc', hs⟩ := k
  dsimp only at hlt hlg klt klg hE hG kE kG hme hce hmg hcg
  have hdm : datM ⟨TA, tn, tc, ts, FA, fn, fc, gs⟩ = datM ⟨TB, sn, sc, us, FB, hn, hc', hs⟩ ↔ ts.map tyD = us.map tyD ∧ gs.map fnD = hs.map fnD := by
    show ((ts.map tyD, gs.map fnD) = (us.map tyD, hs.map fnD)) ↔ _
    simp
  rw [decide_eq_decide.2 hdm]
  refine calls_cv (M := []) (n := 61) [.tmp 4] rfl Try.func21 rfl rfl (Nat.le_of_ble_eq_true rfl) (St.nil _ _) ?_
  refine cv_seq_k fun K hK => ?_
  refine cv_region_then rfl ?_
  simp -implicitDefEqProofs (disch := first | omega | decide) only [seval, -Int.reducePow, -Nat.reducePow, cA, cB, pv, binv, fresh, thenQ, blockQ, retQ, Value.oneCell', Value.cells, undef, Nat.mul_one, gBox, fnV, tBox, tyV, mBox, modV]
  intro b2 hb2 b3 hb3 h3
  refine hK _ _ ?_
  clear hK K
  refine cv_gen fun G5 hG => ?_
  have g5_2 := congrFun hG 2
  have g5_3 := congrFun hG 3
  clear hG
  try simp -implicitDefEqProofs (disch := first | omega | decide) only [seval, -Int.reducePow, -Nat.reducePow, cA, cB, pv, binv, fresh, thenQ, blockQ, retQ, Value.oneCell', Value.cells, undef, Nat.mul_one, gBox, fnV, tBox, tyV, mBox, modV] at g5_2 g5_3
  refine cv_seq_k fun K hK => ?_
  refine cv_seq_k fun K hK => ?_
  refine cv_cut (fun _ _ => True) (fun F' L' => F' 2 = G5 2 ∧ F' 3 = G5 3 ∧ F' 22 = .bool (decide (¬ tn = sn ∨ ¬ fn = hn)) ∧ L' = [.blk b3 25 [.slice TB sn sc, .slice FB hn hc'], .blk b2 25 [.slice TA tn tc, .slice FA fn fc]]) ?_ ?_
  · refine cv_region_then rfl ?_
    simp -implicitDefEqProofs (disch := first | omega | decide) only [seval, -Int.reducePow, -Nat.reducePow, cA, cB, pv, binv, fresh, thenQ, blockQ, retQ, Value.oneCell', Value.cells, undef, Nat.mul_one, gBox, fnV, tBox, tyV, mBox, modV, g5_2, g5_3]
    repeat' ((first | refine vcg_cases (fun hg => ?_) (fun hg => ?_) | refine vdg_cases (fun hg => ?_) (fun hg => ?_)) <;> ((try simp only [Bool.not_eq_true', Bool.not_eq_false', decide_eq_true_eq, decide_eq_false_iff_not] at hg); (try simp -implicitDefEqProofs (disch := first | omega | decide) only [seval, -Int.reducePow, -Nat.reducePow, cA, cB, pv, binv, fresh, thenQ, blockQ, retQ, Value.oneCell', Value.cells, undef, Nat.mul_one, gBox, fnV, tBox, tyV, mBox, modV, hg, g5_2, g5_3])))
    all_goals (repeat' refine And.intro ?_ ?_)
    all_goals (first | with_reducible rfl | (refine congrArg Value.bool ?_; rw [Bool.eq_iff_iff]; (try simp only [decide_eq_true_eq, eq_self, true_and, and_true, false_and, and_false, true_or, or_true, false_or, or_false, not_true_eq_false, not_false_eq_true, true_iff, iff_true, false_iff, iff_false, Bool.false_eq_true, Bool.not_eq_true', Bool.not_eq_true, decide_eq_false_iff_not, Bool.and_eq_true, Bool.or_eq_true]) <;> omega) | (refine congrArg (Value.int _) ?_; omega) | omega)
  intro G6 L' _ hF
  obtain ⟨q2, q3, q22, rfl⟩ := hF
  have g6_2 := q2.trans g5_2
  have g6_3 := q3.trans g5_3
  have g6_22 := q22
  clear q2 q3 q22
  refine hK _ _ ?_
  clear hK K
  refine cv_cond ?_
  simp -implicitDefEqProofs (disch := first | omega | decide) only [seval, -Int.reducePow, -Nat.reducePow, cA, cB, pv, binv, fresh, thenQ, blockQ, retQ, Value.oneCell', Value.cells, undef, Nat.mul_one, gBox, fnV, tBox, tyV, mBox, modV, g6_2, g6_3, g6_22]
  refine ⟨fun hc => ?_, fun hc => ?_⟩
  · have q1 := of_decide_eq_true hc
    refine cv_seq_k fun K hK => ?_
    refine cv_region_then rfl ?_
    simp -implicitDefEqProofs (disch := first | omega | decide) only [seval, -Int.reducePow, -Nat.reducePow, cA, cB, pv, binv, fresh, thenQ, blockQ, retQ, Value.oneCell', Value.cells, undef, Nat.mul_one, gBox, fnV, tBox, tyV, mBox, modV, g6_2, g6_3, g6_22]
    refine hK _ _ ?_
    clear hK K
    refine cv_ret ⟨_, (by simp -implicitDefEqProofs (disch := first | omega | decide) only [seval, -Int.reducePow, -Nat.reducePow, cA, cB, pv, binv, fresh, thenQ, blockQ, retQ, Value.oneCell', Value.cells, undef, Nat.mul_one, gBox, fnV, tBox, tyV, mBox, modV, g6_2, g6_3, g6_22]; rfl), fun w hw => ?_⟩
    refine ⟨?_, hw.below⟩
    rw [decide_eq_false]
    rintro ⟨h1, h2⟩
    have := len_dat h1
    have := len_dat h2
    omega
  have q1 := of_decide_eq_false hc
  obtain ⟨rfl, rfl⟩ : tn = sn ∧ fn = hn := by omega
  refine cv_skip ?_
  try simp only [blockQ, thenQ]
  refine hK _ _ ?_
  clear hK K
  refine cv_seq_k fun K hK => ?_
  refine cv_seq_k fun K hK => ?_
  refine cv_region_then rfl ?_
  simp -implicitDefEqProofs (disch := first | omega | decide) only [seval, -Int.reducePow, -Nat.reducePow, cA, cB, pv, binv, fresh, thenQ, blockQ, retQ, Value.oneCell', Value.cells, undef, Nat.mul_one, gBox, fnV, tBox, tyV, mBox, modV, g6_2, g6_3, g6_22]
  refine hK _ _ ?_
  clear hK K
  refine cv_gen fun G7 hG => ?_
  have g7_2 := congrFun hG 2
  have g7_3 := congrFun hG 3
  have g7_5 := congrFun hG 5
  clear hG
  try simp -implicitDefEqProofs (disch := first | omega | decide) only [seval, -Int.reducePow, -Nat.reducePow, cA, cB, pv, binv, fresh, thenQ, blockQ, retQ, Value.oneCell', Value.cells, undef, Nat.mul_one, gBox, fnV, tBox, tyV, mBox, modV, g6_2, g6_3, g6_22] at g7_2 g7_3 g7_5
  refine cv_block ?_
  refine cv_loop (fun F' L' => ∃ (i : Nat), F' 2 = G7 2 ∧ F' 3 = G7 3 ∧ F' 5 = .int .i64 (i : Int) ∧ L' = [.blk b3 25 [.slice TB tn sc, .slice FB fn hc'], .blk b2 25 [.slice TA tn tc, .slice FA fn fc]] ∧ i ≤ tn ∧ (ts.take i).map tyD = (us.take i).map tyD) (fun F' L' => tn - (intOf (F' 5)).toNat) ?_ ?_
  · refine ⟨0, ?_⟩
    simp -implicitDefEqProofs (disch := first | omega | decide) only [seval, -Int.reducePow, -Nat.reducePow, cA, cB, pv, binv, fresh, thenQ, blockQ, retQ, Value.oneCell', Value.cells, undef, Nat.mul_one, gBox, fnV, tBox, tyV, mBox, modV, g7_2, g7_3, g7_5]
    omega
  intro G8 L' hI
  obtain ⟨i, q2, q3, q5, rfl, ⟨hk, hq⟩⟩ := hI
  have g8_2 := q2.trans g7_2
  have g8_3 := q3.trans g7_3
  have g8_5 := q5
  clear q2 q3 q5
  refine cv_seq_k fun K hK => ?_
  refine cv_seq_k fun K hK => ?_
  refine cv_region_then rfl ?_
  simp -implicitDefEqProofs (disch := first | omega | decide) only [seval, -Int.reducePow, -Nat.reducePow, cA, cB, pv, binv, fresh, thenQ, blockQ, retQ, Value.oneCell', Value.cells, undef, Nat.mul_one, gBox, fnV, tBox, tyV, mBox, modV, g7_2, g7_3, g7_5, g8_2, g8_3, g8_5]
  refine hK _ _ ?_
  clear hK K
  refine cv_cond ?_
  simp -implicitDefEqProofs (disch := first | omega | decide) only [seval, -Int.reducePow, -Nat.reducePow, cA, cB, pv, binv, fresh, thenQ, blockQ, retQ, Value.oneCell', Value.cells, undef, Nat.mul_one, gBox, fnV, tBox, tyV, mBox, modV, g7_2, g7_3, g7_5, g8_2, g8_3, g8_5]
  refine ⟨fun hc => ?_, fun hc => ?_⟩
  · refine cv_skip ?_
    try simp only [blockQ, thenQ]
    have hlt2 : i < tn := by have := of_decide_eq_true ‹_›; omega
    obtain ⟨u, hu⟩ := some_of (l := ts) (i := i) (by omega)
    obtain ⟨v, hv⟩ := some_of (l := us) (i := i) (by omega)
    have hut := hM.ty u (List.mem_of_getElem? hu)
    have hvt := kM.ty v (List.mem_of_getElem? hv)
    obtain ⟨b0, off, rfl, hb0, -⟩ := hE.cells (by omega)
    obtain ⟨b1, off1, rfl, hb1, -⟩ := kE.cells (by omega)
    refine hK _ _ ?_
    clear hK K
    refine cv_seq_k fun K hK => ?_
    refine cv_block ?_
    refine cv_seq_k fun K hK => ?_
    refine cv_draw [(true, 0), (true, 1), (true, 2), (true, 3), (true, 4), (true, 5), (true, 6), (true, 7), (true, 8), (true, 9), (false, 10), (true, 11)] [] mixA rfl (by kernel_rfl) (by kernel_rfl) rfl rfl ?_
    simp -implicitDefEqProofs (disch := first | omega | decide) only [seval, -Int.reducePow, -Nat.reducePow, cA, cB, pv, binv, fresh, thenQ, blockQ, retQ, Value.oneCell', Value.cells, undef, Nat.mul_one, gBox, fnV, tBox, tyV, mBox, modV, g7_2, g7_3, g7_5, g8_2, g8_3, g8_5]
    refine ⟨_, hE.tyl hu, fun tok htok => ?_⟩
    subst htok
    simp -implicitDefEqProofs (disch := first | omega | decide) only [seval, -Int.reducePow, -Nat.reducePow, cA, cB, pv, binv, fresh, thenQ, blockQ, retQ, Value.oneCell', Value.cells, undef, Nat.mul_one, gBox, fnV, tBox, tyV, mBox, modV, g7_2, g7_3, g7_5, g8_2, g8_3, g8_5]
    refine ⟨_, kE.tyl hv, fun tok htok => ?_⟩
    subst htok
    simp -implicitDefEqProofs (disch := first | omega | decide) only [seval, -Int.reducePow, -Nat.reducePow, cA, cB, pv, binv, fresh, thenQ, blockQ, retQ, Value.oneCell', Value.cells, undef, Nat.mul_one, gBox, fnV, tBox, tyV, mBox, modV, g7_2, g7_3, g7_5, g8_2, g8_3, g8_5]
    refine callV_ret (fun w hw => sameType_any u.A v.A u.n u.c v.n v.c u.fs v.fs u.len v.len w (hut.at hw) (hvt.at hw)) ?_
    try simp -implicitDefEqProofs (disch := first | omega | decide) only [seval, -Int.reducePow, -Nat.reducePow, cA, cB, pv, binv, fresh, thenQ, blockQ, retQ, Value.oneCell', Value.cells, undef, Nat.mul_one, gBox, fnV, tBox, tyV, mBox, modV, g7_2, g7_3, g7_5, g8_2, g8_3, g8_5]
    refine hK _ _ ?_
    clear hK K
    refine cv_cond ?_
    simp -implicitDefEqProofs (disch := first | omega | decide) only [seval, -Int.reducePow, -Nat.reducePow, cA, cB, pv, binv, fresh, thenQ, blockQ, retQ, Value.oneCell', Value.cells, undef, Nat.mul_one, gBox, fnV, tBox, tyV, mBox, modV, g7_2, g7_3, g7_5, g8_2, g8_3, g8_5]
    refine ⟨fun hc => ?_, fun hc => ?_⟩
    · have hne : ¬ (u.len = v.len ∧ u.fs = v.fs) := fun h => by simp [h] at hc
      refine cv_seq_k fun K hK => ?_
      refine cv_region_then rfl ?_
      simp -implicitDefEqProofs (disch := first | omega | decide) only [seval, -Int.reducePow, -Nat.reducePow, cA, cB, pv, binv, fresh, thenQ, blockQ, retQ, Value.oneCell', Value.cells, undef, Nat.mul_one, gBox, fnV, tBox, tyV, mBox, modV, g7_2, g7_3, g7_5, g8_2, g8_3, g8_5]
      refine hK _ _ ?_
      clear hK K
      refine cv_ret ⟨_, (by simp -implicitDefEqProofs (disch := first | omega | decide) only [seval, -Int.reducePow, -Nat.reducePow, cA, cB, pv, binv, fresh, thenQ, blockQ, retQ, Value.oneCell', Value.cells, undef, Nat.mul_one, gBox, fnV, tBox, tyV, mBox, modV, g7_2, g7_3, g7_5, g8_2, g8_3, g8_5]; rfl), fun w hw => ?_⟩
      refine ⟨?_, hw.below⟩
      rw [decide_eq_false]
      rintro ⟨h1, -⟩
      have := map_at tyD h1 hu hv
      unfold tyD at this
      simp only [Prod.mk.injEq] at this
      exact hne this
    have huv : u.len = v.len ∧ u.fs = v.fs := by simpa using hc
    refine cv_skip ?_
    try simp only [blockQ, thenQ]
    refine hK _ _ ?_
    clear hK K
    refine cv_region_then rfl ?_
    simp -implicitDefEqProofs (disch := first | omega | decide) only [seval, -Int.reducePow, -Nat.reducePow, cA, cB, pv, binv, fresh, thenQ, blockQ, retQ, Value.oneCell', Value.cells, undef, Nat.mul_one, gBox, fnV, tBox, tyV, mBox, modV, wrap_in, g7_2, g7_3, g7_5, g8_2, g8_3, g8_5]
    refine ⟨⟨i + 1, ?_⟩, ?_⟩
    · simp -implicitDefEqProofs (disch := first | omega | decide) only [seval, -Int.reducePow, -Nat.reducePow, cA, cB, pv, binv, fresh, thenQ, blockQ, retQ, Value.oneCell', Value.cells, undef, Nat.mul_one, gBox, fnV, tBox, tyV, mBox, modV, Int.natCast_add, g7_2, g7_3, g7_5, g8_2, g8_3, g8_5]
      exact ⟨by omega, map_snoc tyD hq hu hv (by unfold tyD; rw [huv.1, huv.2])⟩
    · simp only [intOf]; omega
  refine cv_exit ?_
  simp only [blockQ, thenQ, if_true, ite_true]
  clear hK K
  refine hK _ _ ?_
  clear hK K
  have hkn : i = tn := by have := of_decide_eq_false ‹_›; omega
  subst hkn
  rw [List.take_of_length_le (by omega), List.take_of_length_le (by omega)] at hq
  refine cv_seq_k fun K hK => ?_
  refine cv_seq_k fun K hK => ?_
  refine cv_region_then rfl ?_
  simp -implicitDefEqProofs (disch := first | omega | decide) only [seval, -Int.reducePow, -Nat.reducePow, cA, cB, pv, binv, fresh, thenQ, blockQ, retQ, Value.oneCell', Value.cells, undef, Nat.mul_one, gBox, fnV, tBox, tyV, mBox, modV, g7_2, g7_3, g7_5, g8_2, g8_3, g8_5]
  refine hK _ _ ?_
  clear hK K
  refine cv_gen fun G9 hG => ?_
  have g9_2 := congrFun hG 2
  have g9_3 := congrFun hG 3
  have g9_6 := congrFun hG 6
  clear hG
  try simp -implicitDefEqProofs (disch := first | omega | decide) only [seval, -Int.reducePow, -Nat.reducePow, cA, cB, pv, binv, fresh, thenQ, blockQ, retQ, Value.oneCell', Value.cells, undef, Nat.mul_one, gBox, fnV, tBox, tyV, mBox, modV, g7_2, g7_3, g7_5, g8_2, g8_3, g8_5] at g9_2 g9_3 g9_6
  refine cv_block ?_
  refine cv_loop (fun F' L' => ∃ (j : Nat), F' 2 = G9 2 ∧ F' 3 = G9 3 ∧ F' 6 = .int .i64 (j : Int) ∧ L' = [.blk b3 25 [.slice TB i sc, .slice FB fn hc'], .blk b2 25 [.slice TA i tc, .slice FA fn fc]] ∧ j ≤ fn ∧ (gs.take j).map fnD = (hs.take j).map fnD) (fun F' L' => fn - (intOf (F' 6)).toNat) ?_ ?_
  · refine ⟨0, ?_⟩
    simp -implicitDefEqProofs (disch := first | omega | decide) only [seval, -Int.reducePow, -Nat.reducePow, cA, cB, pv, binv, fresh, thenQ, blockQ, retQ, Value.oneCell', Value.cells, undef, Nat.mul_one, gBox, fnV, tBox, tyV, mBox, modV, g7_2, g7_3, g7_5, g8_2, g8_3, g8_5, g9_2, g9_3, g9_6]
    omega
  intro G10 L' hI
  obtain ⟨j, q2, q3, q6, rfl, ⟨hk2, hq2⟩⟩ := hI
  have g10_2 := q2.trans g9_2
  have g10_3 := q3.trans g9_3
  have g10_6 := q6
  clear q2 q3 q6
  refine cv_seq_k fun K hK => ?_
  refine cv_seq_k fun K hK => ?_
  refine cv_region_then rfl ?_
  simp -implicitDefEqProofs (disch := first | omega | decide) only [seval, -Int.reducePow, -Nat.reducePow, cA, cB, pv, binv, fresh, thenQ, blockQ, retQ, Value.oneCell', Value.cells, undef, Nat.mul_one, gBox, fnV, tBox, tyV, mBox, modV, g7_2, g7_3, g7_5, g8_2, g8_3, g8_5, g9_2, g9_3, g9_6, g10_2, g10_3, g10_6]
  refine hK _ _ ?_
  clear hK K
  refine cv_cond ?_
  simp -implicitDefEqProofs (disch := first | omega | decide) only [seval, -Int.reducePow, -Nat.reducePow, cA, cB, pv, binv, fresh, thenQ, blockQ, retQ, Value.oneCell', Value.cells, undef, Nat.mul_one, gBox, fnV, tBox, tyV, mBox, modV, g7_2, g7_3, g7_5, g8_2, g8_3, g8_5, g9_2, g9_3, g9_6, g10_2, g10_3, g10_6]
  refine ⟨fun hc => ?_, fun hc => ?_⟩
  · refine cv_skip ?_
    try simp only [blockQ, thenQ]
    have hlt2 : j < fn := by have := of_decide_eq_true ‹_›; omega
    obtain ⟨u, hu⟩ := some_of (l := gs) (i := j) (by omega)
    obtain ⟨v, hv⟩ := some_of (l := hs) (i := j) (by omega)
    have hut := hM.fn u (List.mem_of_getElem? hu)
    have hvt := kM.fn v (List.mem_of_getElem? hv)
    obtain ⟨b0, off, rfl, hb0, -⟩ := hG.cells (by omega)
    obtain ⟨b1, off1, rfl, hb1, -⟩ := kG.cells (by omega)
    refine hK _ _ ?_
    clear hK K
    refine cv_seq_k fun K hK => ?_
    refine cv_block ?_
    refine cv_seq_k fun K hK => ?_
    refine cv_draw [(true, 0), (true, 1), (true, 2), (true, 3), (true, 4), (true, 5), (true, 6), (true, 7), (true, 8), (true, 9), (false, 10), (true, 11)] [] mixA rfl (by kernel_rfl) (by kernel_rfl) rfl rfl ?_
    simp -implicitDefEqProofs (disch := first | omega | decide) only [seval, -Int.reducePow, -Nat.reducePow, cA, cB, pv, binv, fresh, thenQ, blockQ, retQ, Value.oneCell', Value.cells, undef, Nat.mul_one, gBox, fnV, tBox, tyV, mBox, modV, g7_2, g7_3, g7_5, g8_2, g8_3, g8_5, g9_2, g9_3, g9_6, g10_2, g10_3, g10_6]
    refine ⟨_, hG.fnl hu, fun tok htok => ?_⟩
    subst htok
    simp -implicitDefEqProofs (disch := first | omega | decide) only [seval, -Int.reducePow, -Nat.reducePow, cA, cB, pv, binv, fresh, thenQ, blockQ, retQ, Value.oneCell', Value.cells, undef, Nat.mul_one, gBox, fnV, tBox, tyV, mBox, modV, g7_2, g7_3, g7_5, g8_2, g8_3, g8_5, g9_2, g9_3, g9_6, g10_2, g10_3, g10_6]
    refine ⟨_, kG.fnl hv, fun tok htok => ?_⟩
    subst htok
    simp -implicitDefEqProofs (disch := first | omega | decide) only [seval, -Int.reducePow, -Nat.reducePow, cA, cB, pv, binv, fresh, thenQ, blockQ, retQ, Value.oneCell', Value.cells, undef, Nat.mul_one, gBox, fnV, tBox, tyV, mBox, modV, g7_2, g7_3, g7_5, g8_2, g8_3, g8_5, g9_2, g9_3, g9_6, g10_2, g10_3, g10_6]
    refine callV_ret (fun w hw => sameFunc_any u v w (hut.at hw) (hvt.at hw)) ?_
    try simp -implicitDefEqProofs (disch := first | omega | decide) only [seval, -Int.reducePow, -Nat.reducePow, cA, cB, pv, binv, fresh, thenQ, blockQ, retQ, Value.oneCell', Value.cells, undef, Nat.mul_one, gBox, fnV, tBox, tyV, mBox, modV, g7_2, g7_3, g7_5, g8_2, g8_3, g8_5, g9_2, g9_3, g9_6, g10_2, g10_3, g10_6]
    refine hK _ _ ?_
    clear hK K
    refine cv_cond ?_
    simp -implicitDefEqProofs (disch := first | omega | decide) only [seval, -Int.reducePow, -Nat.reducePow, cA, cB, pv, binv, fresh, thenQ, blockQ, retQ, Value.oneCell', Value.cells, undef, Nat.mul_one, gBox, fnV, tBox, tyV, mBox, modV, g7_2, g7_3, g7_5, g8_2, g8_3, g8_5, g9_2, g9_3, g9_6, g10_2, g10_3, g10_6]
    refine ⟨fun hc => ?_, fun hc => ?_⟩
    · have hne : ¬ fnD u = fnD v := by simpa using hc
      refine cv_seq_k fun K hK => ?_
      refine cv_region_then rfl ?_
      simp -implicitDefEqProofs (disch := first | omega | decide) only [seval, -Int.reducePow, -Nat.reducePow, cA, cB, pv, binv, fresh, thenQ, blockQ, retQ, Value.oneCell', Value.cells, undef, Nat.mul_one, gBox, fnV, tBox, tyV, mBox, modV, g7_2, g7_3, g7_5, g8_2, g8_3, g8_5, g9_2, g9_3, g9_6, g10_2, g10_3, g10_6]
      refine hK _ _ ?_
      clear hK K
      refine cv_ret ⟨_, (by simp -implicitDefEqProofs (disch := first | omega | decide) only [seval, -Int.reducePow, -Nat.reducePow, cA, cB, pv, binv, fresh, thenQ, blockQ, retQ, Value.oneCell', Value.cells, undef, Nat.mul_one, gBox, fnV, tBox, tyV, mBox, modV, g7_2, g7_3, g7_5, g8_2, g8_3, g8_5, g9_2, g9_3, g9_6, g10_2, g10_3, g10_6]; rfl), fun w hw => ?_⟩
      refine ⟨?_, hw.below⟩
      rw [decide_eq_false]
      rintro ⟨-, h1⟩
      exact hne (map_at fnD h1 hu hv)
    have huv : fnD u = fnD v := by simpa using hc
    refine cv_skip ?_
    try simp only [blockQ, thenQ]
    refine hK _ _ ?_
    clear hK K
    refine cv_region_then rfl ?_
    simp -implicitDefEqProofs (disch := first | omega | decide) only [seval, -Int.reducePow, -Nat.reducePow, cA, cB, pv, binv, fresh, thenQ, blockQ, retQ, Value.oneCell', Value.cells, undef, Nat.mul_one, gBox, fnV, tBox, tyV, mBox, modV, wrap_in, g7_2, g7_3, g7_5, g8_2, g8_3, g8_5, g9_2, g9_3, g9_6, g10_2, g10_3, g10_6]
    refine ⟨⟨j + 1, ?_⟩, ?_⟩
    · simp -implicitDefEqProofs (disch := first | omega | decide) only [seval, -Int.reducePow, -Nat.reducePow, cA, cB, pv, binv, fresh, thenQ, blockQ, retQ, Value.oneCell', Value.cells, undef, Nat.mul_one, gBox, fnV, tBox, tyV, mBox, modV, Int.natCast_add, g7_2, g7_3, g7_5, g8_2, g8_3, g8_5, g9_2, g9_3, g9_6, g10_2, g10_3, g10_6]
      exact ⟨by omega, map_snoc fnD hq2 hu hv huv⟩
    · simp only [intOf]; omega
  refine cv_exit ?_
  simp only [blockQ, thenQ, if_true, ite_true]
  clear hK K
  refine hK _ _ ?_
  clear hK K
  have hkn : j = fn := by have := of_decide_eq_false ‹_›; omega
  subst hkn
  rw [List.take_of_length_le (by omega), List.take_of_length_le (by omega)] at hq2
  refine cv_seq_k fun K hK => ?_
  refine cv_region_then rfl ?_
  simp -implicitDefEqProofs (disch := first | omega | decide) only [seval, -Int.reducePow, -Nat.reducePow, cA, cB, pv, binv, fresh, thenQ, blockQ, retQ, Value.oneCell', Value.cells, undef, Nat.mul_one, gBox, fnV, tBox, tyV, mBox, modV, g7_2, g7_3, g7_5, g8_2, g8_3, g8_5, g9_2, g9_3, g9_6, g10_2, g10_3, g10_6]
  refine hK _ _ ?_
  clear hK K
  refine cv_ret ⟨_, (by simp -implicitDefEqProofs (disch := first | omega | decide) only [seval, -Int.reducePow, -Nat.reducePow, cA, cB, pv, binv, fresh, thenQ, blockQ, retQ, Value.oneCell', Value.cells, undef, Nat.mul_one, gBox, fnV, tBox, tyV, mBox, modV, g7_2, g7_3, g7_5, g8_2, g8_3, g8_5, g9_2, g9_3, g9_6, g10_2, g10_3, g10_6]; rfl), fun w hw => ?_⟩
  exact ⟨by simp [hq, hq2], hw.below⟩
end Go.Proofs.Ytehfnjaompkikaa
