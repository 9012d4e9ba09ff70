/- flow's process: it writes into the block of the heights. -/
import Derived.Test.YtlbmnioibiomfaaFlRun
import Derived.Test.YtlbmnioibiomfaaFlNext
namespace Go.Proofs.Ytlbmnioibiomfaa
open Go.RowKit Go.Shelf
set_option linter.unusedVariables false
set_option linter.unusedSimpArgs false
set_option maxRecDepth 100000
section
variable {W w : World} {L : List Res} {M : List Nat} {B size n c : Nat} {A : Option Addr} {xs : List Value} {m : ModR}
theorem Sl.keepB (h : Sl W B size A n c xs) (hw : St M W L w) (hB : B ≤ W.heap.size) (hM : ∀ m ∈ M, B ≤ m) : Sl w B size A n c xs :=
  ⟨h.len, h.cap, h.max, fun hn => by
    obtain ⟨b, off, e, hb, hc⟩ := h.cells hn
    exact ⟨b, off, e, hb, fun i v hv => (hw.base_cell (a := ⟨b, off + i, none⟩) (Nat.lt_of_lt_of_le hb hB) (fun hm => by have := hM _ hm; dsimp only at this; omega)).trans (hc i v hv)⟩⟩
theorem Mod.more {B' : Nat} (h : Mod W B m) (hB : B ≤ B') : Mod W B' m := ⟨h.ts.more hB, fun t ht => (h.ty t ht).more hB, h.gs.more hB, fun g hg => (h.fn g hg).more hB, h.arg⟩
theorem Mod.keepB (h : Mod W B m) (hw : St M W L w) (hB : B ≤ W.heap.size) (hM : ∀ m ∈ M, B ≤ m) : Mod w B m := ⟨h.ts.keepB hw hB hM, fun t ht => (h.ty t ht).keepB hw hB hM, h.gs.keepB hw hB hM, fun g hg => (h.fn g hg).keepB hw hB hM, h.arg⟩
end
def i64z (l : List Int) : List Value := l.map (Value.int .i64)
theorem z_len (l : List Int) : (i64z l).length = l.length := by simp [i64z]
theorem z_get {h : List Int} {k : Nat} (hk : k < h.length) : (i64z h)[k]? = some (.int .i64 (hAt h k)) := by
  unfold i64z
  rw [List.getElem?_map, hAt_get hk]
  rfl
theorem z_set {h : List Int} {k : Nat} (v : Int) (hk : k < h.length) : List.take k (i64z h) ++ [Value.int .i64 v] ++ List.drop (k + 1) (i64z h) = i64z (h.set k v) := by
  unfold i64z
  rw [← List.map_take, ← List.map_drop, List.set_eq_take_append_cons_drop, if_pos hk]
  simp
theorem updF_no {k : Nat} {l : List Nat} {v : Int} {h : List Int} (hc : hAt h k ≠ -1 ∧ hAt h k ≠ v) : updF (k :: l) v h = none := by rw [updF, if_pos hc]
theorem updF_yes {k : Nat} {l : List Nat} {v : Int} {h : List Int} (hc : ¬ (hAt h k ≠ -1 ∧ hAt h k ≠ v)) : updF (k :: l) v h = updF l v (h.set k v) := by rw [updF, if_neg hc]
theorem stepF_eq {gs : List FnR} {x : FnR} {h : List Int} {k : Nat} {i : Ins} {v : Int} (hv : hAt h k + ((fxP gs i).2 - (fxP gs i).1) = v) : stepF gs x h k i = if (i.op = 22 ∧ hAt h k ≠ x.r) ∨ hAt h k < (fxP gs i).1 ∨ 64 < v then none else updF (nxP i k) v h := by
  unfold stepF
  rw [show hAt h k + (fxP gs i).2 - (fxP gs i).1 = v by omega]
theorem nx_arg {i : Ins} {k N : Nat} (h : ∀ j ∈ nxP i k, j < N) (ho : i.op = 19 ∨ i.op = 20) : i.arg < N := by
  by_cases h1 : i.op = 19
  · exact h _ (by unfold nxP; rw [if_pos h1]; simp)
  · have h2 : i.op = 20 := by omega
    by_cases c1 : i.arg < k + 1
    · exact h _ (by unfold nxP; rw [if_neg h1, if_pos h2, if_pos c1]; simp)
    by_cases c2 : k + 1 < i.arg
    · exact h _ (by unfold nxP; rw [if_neg h1, if_pos h2, if_neg c1, if_pos c2]; simp)
    · have := h (k + 1) (by unfold nxP; rw [if_neg h1, if_pos h2, if_neg c1, if_neg c2]; simp)
      omega
set_option maxRecDepth 100000 in
theorem sFlProc1 : type_of% (And.intro (And.intro (And.intro @fBox.eq_1 (And.intro @tBox.eq_1 @iBox.eq_1)) (And.intro (And.intro @mBox.eq_1 @gBox.eq_1) (And.intro @flBox.eq_1 @fdV.eq_1))) (And.intro (And.intro (And.intro @tyV.eq_1 @insV.eq_1) (And.intro @fnV.eq_1 @modV.eq_1)) (And.intro (And.intro @fltV.eq_1 @fineF.eq_1) (And.intro @Nat.mul_one @wrap_in)))) := (And.intro (And.intro (And.intro @fBox.eq_1 (And.intro @tBox.eq_1 @iBox.eq_1)) (And.intro (And.intro @mBox.eq_1 @gBox.eq_1) (And.intro @flBox.eq_1 @fdV.eq_1))) (And.intro (And.intro (And.intro @tyV.eq_1 @insV.eq_1) (And.intro @fnV.eq_1 @modV.eq_1)) (And.intro (And.intro @fltV.eq_1 @fineF.eq_1) (And.intro @Nat.mul_one @wrap_in))))
set_option maxHeartbeats 2000000 in
theorem process_any (m : ModR) (x : FnR) (b k : Nat) (i : Ins) (h : List Int) (B : Nat) (W : World) (hW : W.heap[b]? = some (.cells (i64z h).toArray 3 (0, 0))) (hM : Mod W B m) (hB : B ≤ b)
    (hX : Sl W B 2 x.A x.n x.c (cl insc x.code)) (hi : x.code[k]? = some i) (hl : h.length = x.code.length) (h1024 : x.code.length ≤ 1024) (hc : i.op = 21 → i.arg < m.gs.length) (hnx : ∀ j ∈ nxP i k, j < x.code.length)
    (hr : -1 ≤ hAt h k ∧ hAt h k ≤ 64) (hp : 0 ≤ (fxP m.gs i).1 ∧ (fxP m.gs i).1 ≤ 64 ∧ 0 ≤ (fxP m.gs i).2 ∧ (fxP m.gs i).2 ≤ 64) :
    Calls Try.prog 57 #[modV m, fnV x, .slice (some ⟨b, 0, none⟩) x.n x.n, .int .i64 (k : Int)] W fun e w' => ∃ h' : List Int, e = .returned (.bool (stepF m.gs x h k i).isSome) ∧ (∀ h'', stepF m.gs x h k i = some h'' → h' = h'') ∧ w'.heap[b]? = some (.cells (i64z h').toArray 3 (0, 0)) ∧ Pres [b] W w' := by
  have hbs : b < W.heap.size := (Array.getElem?_eq_some_iff.1 hW).1
  have hBW : B ≤ W.heap.size := by omega
  have hMB : ∀ m ∈ [b], B ≤ m := fun m hm => by simp at hm; omega
  have hMat := fun {L : List Res} {w : World} (hw : St [b] W L w) => (hM.keepB hw hBW hMB).more (show B ≤ w.heap.size from Nat.le_trans hBW hw.pres.size)
  have hXat := fun {L : List Res} {w : World} (hw : St [b] W L w) => (hX.keepB hw hBW hMB).more (show B ≤ w.heap.size from Nat.le_trans hBW hw.pres.size)
  have hxl : x.code.length = x.n := cl_row insc_len (by omega) hX.len
  have hk : k < x.n := by have := (List.getElem?_eq_some_iff.1 hi).1; omega
  have hia : i.op = 19 ∨ i.op = 20 → i.arg ≤ 1024 := fun ho => by have := nx_arg hnx ho; omega
  have hzk := z_get (h := h) (k := k) (by omega)
  obtain ⟨H, hH⟩ : ∃ H, hAt h k = H := ⟨_, rfl⟩
  obtain ⟨v, hv⟩ : ∃ v, hAt h k + ((fxP m.gs i).2 - (fxP m.gs i).1) = v := ⟨_, rfl⟩
  have hS := stepF_eq (x := x) hv
  obtain ⟨pq, hpq⟩ : ∃ pq, fxP m.gs i = pq := ⟨_, rfl⟩
  rw [hpq] at hp hS hv
  rw [hH] at hzk hr hS hv
  obtain ⟨TA, tn, tc, ts, FA, fn, fc, gs⟩ := m
  obtain ⟨xp, xr, xl, xA, xn, xc, code⟩ := x
  obtain ⟨p, q⟩ := pq
  dsimp only at *
  obtain ⟨b0, off, rfl, hb0, -⟩ := hX.cells (by omega)
  refine calls_cv (M := [b]) (n := 77) [.tmp 8] rfl Try.func57 rfl rfl (Nat.le_of_ble_eq_true rfl)  (St.one (cs := i64z h) hW) ?_
  refine cv_seq_k fun K hK => ?_
  refine cv_region_then rfl ?_
  simp -implicitDefEqProofs (disch := first | omega | decide) only [seval, -Int.reducePow, -Nat.reducePow, cC, pv, binv, sFlProc1, undef]
  intro b4 hb4 hf4 b5 hb5 hf5
  refine hK _ _ ?_
  clear hK K
  refine cv_seq_k fun K hK => ?_
  refine cv_region_then rfl ?_
  simp -implicitDefEqProofs (disch := first | omega | decide) only [seval, -Int.reducePow, -Nat.reducePow, cC, pv, binv, sFlProc1, undef]
  refine ⟨_, (fun w hw => Sl.ins (W := w) (L := []) (hXat hw) hi w (St.nil [] w)), fun tok htok => ?_⟩
  subst htok
  simp -implicitDefEqProofs (disch := first | omega | decide) only [seval, -Int.reducePow, -Nat.reducePow, cC, pv, binv, sFlProc1, undef]
  intro b9 hb9 hf9
  refine hK _ _ ?_
  clear hK K
  refine cv_seq_k fun K hK => ?_
  refine cv_region_then rfl ?_
  simp -implicitDefEqProofs (disch := first | omega | decide) only [seval, -Int.reducePow, -Nat.reducePow, cC, pv, binv, sFlProc1, undef]
  refine callV_ret (fun w hw => effect_any ⟨TA, tn, tc, ts, FA, fn, fc, gs⟩ i w (hMat hw) hc) ?_
  try simp -implicitDefEqProofs (disch := first | omega | decide) only [seval, -Int.reducePow, -Nat.reducePow, cC, pv, binv, sFlProc1, undef, hpq]
  refine hK _ _ ?_
  clear hK K
  refine cv_seq_k fun K hK => ?_
  refine cv_region_then rfl ?_
  simp -implicitDefEqProofs (disch := first | omega | decide) only [seval, -Int.reducePow, -Nat.reducePow, cC, pv, binv, sFlProc1, undef, hzk]
  refine hK _ _ ?_
  clear hK K
  refine cv_gen fun G1 hG => ?_
  have g1_2 := congrFun hG 2
  have g1_3 := congrFun hG 3
  have g1_5 := congrFun hG 5
  have g1_9 := congrFun hG 9
  have g1_10 := congrFun hG 10
  have g1_11 := congrFun hG 11
  have g1_12 := congrFun hG 12
  clear hG
  try simp -implicitDefEqProofs (disch := first | omega | decide) only [seval, -Int.reducePow, -Nat.reducePow, cC, pv, binv, sFlProc1, undef] at g1_2 g1_3 g1_5 g1_9 g1_10 g1_11 g1_12
  have g1 := And.intro g1_2 (And.intro g1_3 (And.intro g1_5 (And.intro g1_9 (And.intro g1_10 (And.intro g1_11 g1_12)))))
  refine cv_seq_k fun K hK => ?_
  refine cv_seq_k fun K hK => ?_
  refine cv_cut (fun _ _ => True) (fun F' L' => F' 2 = G1 2 ∧ F' 3 = G1 3 ∧ F' 9 = G1 9 ∧ F' 10 = G1 10 ∧ F' 11 = G1 11 ∧ F' 12 = G1 12 ∧ F' 43 = .bool (decide ((i.op = 22 ∧ ¬ H = xr) ∨ H < p)) ∧ L' = [iBox b9 i, gBox b5 ⟨xp, xr, xl, some ⟨b0, off, none⟩, xn, xc, code⟩, mBox b4 ⟨TA, tn, tc, ts, FA, fn, fc, gs⟩, .blk b 3 (i64z h)]) ?_ ?_
  · refine cv_region_then rfl ?_
    simp -implicitDefEqProofs (disch := first | omega | decide) only [seval, -Int.reducePow, -Nat.reducePow, cC, pv, binv, sFlProc1, undef, g1]
    repeat' ((first | refine vcg_cases (fun hg => ?_) (fun hg => ?_) | refine vdg_cases (fun hg => ?_) (fun hg => ?_)) <;> ((try simp only [Bool.not_eq_true', Bool.not_eq_false', decide_eq_true_eq, decide_eq_false_iff_not] at hg); (try simp -implicitDefEqProofs (disch := first | omega | decide) only [seval, -Int.reducePow, -Nat.reducePow, cC, pv, binv, sFlProc1, undef, hg, g1])))
    all_goals (repeat' refine And.intro ?_ ?_)
    all_goals (first | with_reducible rfl | (refine congrArg Value.bool ?_; rw [Bool.eq_iff_iff]; (try simp only [decide_eq_true_eq, eq_self, true_and, and_true, false_and, and_false, true_or, or_true, false_or, or_false, not_true_eq_false, not_false_eq_true, true_iff, iff_true, false_iff, iff_false, Bool.false_eq_true, Bool.not_eq_true', Bool.not_eq_true, decide_eq_false_iff_not, Bool.and_eq_true, Bool.or_eq_true]) <;> omega) | (refine congrArg (Value.int _) ?_; omega) | omega)
  intro G2 L' _ hF
  obtain ⟨q2, q3, q9, q10, q11, q12, q43, rfl⟩ := hF
  have g2_2 := q2.trans g1_2
  have g2_3 := q3.trans g1_3
  have g2_9 := q9.trans g1_9
  have g2_10 := q10.trans g1_10
  have g2_11 := q11.trans g1_11
  have g2_12 := q12.trans g1_12
  have g2_43 := q43
  clear q2 q3 q9 q10 q11 q12 q43
  have g2 := And.intro g2_2 (And.intro g2_3 (And.intro g2_9 (And.intro g2_10 (And.intro g2_11 (And.intro g2_12 g2_43)))))
  refine hK _ _ ?_
  clear hK K
  refine cv_cond ?_
  simp -implicitDefEqProofs (disch := first | omega | decide) only [seval, -Int.reducePow, -Nat.reducePow, cC, pv, binv, sFlProc1, undef, g2]
  refine ⟨fun hc => ?_, fun hc => ?_⟩
  · have q1 := of_decide_eq_true ‹_›
    have hN : stepF gs ⟨xp, xr, xl, some ⟨b0, off, none⟩, xn, xc, code⟩ h k i = none := by rw [hS, if_pos (q1.elim .inl (fun h => .inr (.inl h)))]
    refine cv_seq_k fun K hK => ?_
    refine cv_region_then rfl ?_
    simp -implicitDefEqProofs (disch := first | omega | decide) only [seval, -Int.reducePow, -Nat.reducePow, cC, pv, binv, sFlProc1, undef, g2]
    refine hK _ _ ?_
    clear hK K
    refine cv_ret ⟨_, (by simp -implicitDefEqProofs (disch := first | omega | decide) only [seval, -Int.reducePow, -Nat.reducePow, cC, pv, binv, sFlProc1, undef, g2]; rfl), fun w hw => ?_⟩
    rw [hN]
    exact ⟨h, rfl, (fun h'' he => by cases he), hw.hold 3 rfl, hw.pres⟩
  have q1 := of_decide_eq_false ‹_›
  refine cv_skip ?_
  try simp only [blockQ, thenQ]
  refine hK _ _ ?_
  clear hK K
  refine cv_seq_k fun K hK => ?_
  refine cv_region_then rfl ?_
  simp -implicitDefEqProofs (disch := first | omega | decide) only [seval, -Int.reducePow, -Nat.reducePow, cC, pv, binv, sFlProc1, undef, hv, g2]
  refine hK _ _ ?_
  clear hK K
  refine cv_seq_k fun K hK => ?_
  refine cv_seq_k fun K hK => ?_
  refine cv_region_then rfl ?_
  simp -implicitDefEqProofs (disch := first | omega | decide) only [seval, -Int.reducePow, -Nat.reducePow, cC, pv, binv, sFlProc1, undef, g2]
  refine hK _ _ ?_
  clear hK K
  refine cv_cond ?_
  simp -implicitDefEqProofs (disch := first | omega | decide) only [seval, -Int.reducePow, -Nat.reducePow, cC, pv, binv, sFlProc1, undef, g2]
  refine ⟨fun hc => ?_, fun hc => ?_⟩
  · have q2 := of_decide_eq_true ‹_›
    have hN : stepF gs ⟨xp, xr, xl, some ⟨b0, off, none⟩, xn, xc, code⟩ h k i = none := by rw [hS, if_pos (.inr (.inr q2))]
    refine cv_seq_k fun K hK => ?_
    refine cv_region_then rfl ?_
    simp -implicitDefEqProofs (disch := first | omega | decide) only [seval, -Int.reducePow, -Nat.reducePow, cC, pv, binv, sFlProc1, undef, g2]
    refine hK _ _ ?_
    clear hK K
    refine cv_ret ⟨_, (by simp -implicitDefEqProofs (disch := first | omega | decide) only [seval, -Int.reducePow, -Nat.reducePow, cC, pv, binv, sFlProc1, undef, g2]; rfl), fun w hw => ?_⟩
    rw [hN]
    exact ⟨h, rfl, (fun h'' he => by cases he), hw.hold 3 rfl, hw.pres⟩
  have q2 := of_decide_eq_false ‹_›
  rw [if_neg (fun hh => hh.elim (fun h => q1 (.inl h)) (fun hh => hh.elim (fun h => q1 (.inr h)) q2))] at hS
  refine cv_skip ?_
  try simp only [blockQ, thenQ]
  refine hK _ _ ?_
  clear hK K
  refine cv_seq_k fun K hK => ?_
  refine cv_seq_k fun K hK => ?_
  refine cv_region_then rfl ?_
  simp -implicitDefEqProofs (disch := first | omega | decide) only [seval, -Int.reducePow, -Nat.reducePow, cC, pv, binv, sFlProc1, undef, g2]
  refine callV_row (fun A n c => .slice A n c) (fun w hw => fnext_any i k w (by omega) hia) ?_
  intro A6 n6 c6 hl6 hr6
  simp -implicitDefEqProofs (disch := first | omega | decide) only [seval, -Int.reducePow, -Nat.reducePow, cC, pv, binv, sFlProc1, undef, g2]
  refine hK _ _ ?_
  clear hK K
  have hn6 : (nxP i k).length = n6 := by rw [i64c_len] at hl6; omega
  have hn62 : n6 ≤ 2 := by
    rw [← hn6]
    unfold nxP
    repeat' split
    all_goals simp
  refine cv_gen fun G3 hG => ?_
  have g3_2 := congrFun hG 2
  have g3_12 := congrFun hG 12
  have g3_53 := congrFun hG 53
  have g3_54 := congrFun hG 54
  have g3_55 := congrFun hG 55
  clear hG
  try simp -implicitDefEqProofs (disch := first | omega | decide) only [seval, -Int.reducePow, -Nat.reducePow, cC, pv, binv, sFlProc1, undef, g2] at g3_2 g3_12 g3_53 g3_54 g3_55
  have g3 := And.intro g3_2 (And.intro g3_12 (And.intro g3_53 (And.intro g3_54 g3_55)))
  refine cv_block ?_
  refine cv_loop (fun F' L' => ∃ (j : Nat) (h1 : List Int), F' 2 = G3 2 ∧ F' 12 = G3 12 ∧ F' 53 = G3 53 ∧ F' 54 = G3 54 ∧ F' 55 = .int .i64 (j : Int) ∧ L' = [.row (.slice A6 n6 c6) 3 1 n6 (i64c (nxP i k)), iBox b9 i, gBox b5 ⟨xp, xr, xl, some ⟨b0, off, none⟩, xn, xc, code⟩, mBox b4 ⟨TA, tn, tc, ts, FA, fn, fc, gs⟩, .blk b 3 (i64z h1)] ∧ j ≤ n6 ∧ h1.length = h.length ∧ updF (nxP i k) v h = updF ((nxP i k).drop j) v h1) (fun F' L' => 1100 - (intOf (F' 55)).toNat) ?_ ?_
  · refine ⟨0, h, ?_⟩
    simp -implicitDefEqProofs (disch := first | omega | decide) only [seval, -Int.reducePow, -Nat.reducePow, cC, pv, binv, sFlProc1, undef, g3]
    omega
  intro G4 L' hI
  obtain ⟨j, h1, q2, q12, q53, q54, q55, rfl, ⟨hj, hl1, hu⟩⟩ := hI
  have g4_2 := q2.trans g3_2
  have g4_12 := q12.trans g3_12
  have g4_53 := q53.trans g3_53
  have g4_54 := q54.trans g3_54
  have g4_55 := q55
  clear q2 q12 q53 q54 q55
  have g4 := And.intro g4_2 (And.intro g4_12 (And.intro g4_53 (And.intro g4_54 g4_55)))
  refine cv_seq_k fun K hK => ?_
  refine cv_region_then rfl ?_
  simp -implicitDefEqProofs (disch := first | omega | decide) only [seval, -Int.reducePow, -Nat.reducePow, cC, pv, binv, sFlProc1, undef, g3, g4]
  refine hK _ _ ?_
  clear hK K
  refine cv_seq_k fun K hK => ?_
  refine cv_cond ?_
  simp -implicitDefEqProofs (disch := first | omega | decide) only [seval, -Int.reducePow, -Nat.reducePow, cC, pv, binv, sFlProc1, undef, g3, g4]
  refine ⟨fun hc => ?_, fun hc => ?_⟩
  · refine cv_skip ?_
    try simp only [blockQ, thenQ]
    have hjt : j < n6 := by have := of_decide_eq_true ‹decide ((j : Int) < (n6 : Int)) = true›; omega
    obtain ⟨y, hy⟩ := some_of (l := nxP i k) (i := j) (by omega)
    rw [drop_at' hy] at hu
    have hyc := hnx y (List.mem_of_getElem? hy)
    have hzy := z_get (h := h1) (k := y) (by omega)
    have hst := z_set (h := h1) (k := y) v (by omega)
    obtain ⟨H1, hH1⟩ : ∃ H1, hAt h1 y = H1 := ⟨_, rfl⟩
    rw [hH1] at hzy
    refine hK _ _ ?_
    clear hK K
    refine cv_seq_k fun K hK => ?_
    refine cv_rowA 0 rfl (by omega) fun g hAA hg hNN => ?_
    subst hAA
    simp only [List.eraseIdx_cons_zero, List.eraseIdx_cons_succ, neB_nil, neB_blk, neB_row, neB_snap, and_true, List.not_mem_nil, or_false] at hNN hg
    replace hg := And.intro hg hNN
    clear hNN
    refine cv_block ?_
    refine cv_seq_k fun K hK => ?_
    refine cv_region_then rfl ?_
    simp -implicitDefEqProofs (disch := first | omega | decide) only [seval, -Int.reducePow, -Nat.reducePow, cC, pv, binv, sFlProc1, undef, g3, g4]
    refine ⟨_, ld_row1 (v := .int .i64 (y : Int)) (.head _) rfl (i64c_get hy), fun tok htok => ?_⟩
    subst htok
    simp -implicitDefEqProofs (disch := first | omega | decide) only [seval, -Int.reducePow, -Nat.reducePow, cC, pv, binv, sFlProc1, undef, g3, g4]
    refine hK _ _ ?_
    clear hK K
    refine cv_gen fun G5 hG => ?_
    have g5_2 := congrFun hG 2
    have g5_12 := congrFun hG 12
    have g5_14 := congrFun hG 14
    have g5_53 := congrFun hG 53
    have g5_54 := congrFun hG 54
    have g5_55 := congrFun hG 55
    clear hG
    try simp -implicitDefEqProofs (disch := first | omega | decide) only [seval, -Int.reducePow, -Nat.reducePow, cC, pv, binv, sFlProc1, undef, g3, g4] at g5_2 g5_12 g5_14 g5_53 g5_54 g5_55
    have g5 := And.intro g5_2 (And.intro g5_12 (And.intro g5_14 (And.intro g5_53 (And.intro g5_54 g5_55))))
    refine cv_seq_k fun K hK => ?_
    refine cv_seq_k fun K hK => ?_
    refine cv_cut (fun _ _ => True) (fun F' L' => F' 2 = G5 2 ∧ F' 12 = G5 12 ∧ F' 14 = G5 14 ∧ F' 53 = G5 53 ∧ F' 54 = G5 54 ∧ F' 55 = G5 55 ∧ F' 71 = .bool (decide (¬ H1 = -1 ∧ ¬ H1 = v)) ∧ L' = [.row (.slice (some ⟨g, 0, none⟩) n6 c6) 3 1 n6 (i64c (nxP i k)), iBox b9 i, gBox b5 ⟨xp, xr, xl, some ⟨b0, off, none⟩, xn, xc, code⟩, mBox b4 ⟨TA, tn, tc, ts, FA, fn, fc, gs⟩, .blk b 3 (i64z h1)]) ?_ ?_
    · refine cv_region_then rfl ?_
      simp -implicitDefEqProofs (disch := first | omega | decide) only [seval, -Int.reducePow, -Nat.reducePow, cC, pv, binv, sFlProc1, undef, hzy, g3, g4, g5]
      repeat' ((first | refine vcg_cases (fun hg => ?_) (fun hg => ?_) | refine vdg_cases (fun hg => ?_) (fun hg => ?_)) <;> ((try simp only [Bool.not_eq_true', Bool.not_eq_false', decide_eq_true_eq, decide_eq_false_iff_not] at hg); (try simp -implicitDefEqProofs (disch := first | omega | decide) only [seval, -Int.reducePow, -Nat.reducePow, cC, pv, binv, sFlProc1, undef, hg, hzy, g3, g4, g5])))
      all_goals (repeat' refine And.intro ?_ ?_)
      all_goals (first | with_reducible rfl | (refine congrArg Value.bool ?_; rw [Bool.eq_iff_iff]; (try simp only [decide_eq_true_eq, eq_self, true_and, and_true, false_and, and_false, true_or, or_true, false_or, or_false, not_true_eq_false, not_false_eq_true, true_iff, iff_true, false_iff, iff_false, Bool.false_eq_true, Bool.not_eq_true', Bool.not_eq_true, decide_eq_false_iff_not, Bool.and_eq_true, Bool.or_eq_true]) <;> omega) | (refine congrArg (Value.int _) ?_; omega) | omega)
    intro G6 L' _ hF
    obtain ⟨q2, q12, q14, q53, q54, q55, q71, rfl⟩ := hF
    have g6_2 := q2.trans g5_2
    have g6_12 := q12.trans g5_12
    have g6_14 := q14.trans g5_14
    have g6_53 := q53.trans g5_53
    have g6_54 := q54.trans g5_54
    have g6_55 := q55.trans g5_55
    have g6_71 := q71
    clear q2 q12 q14 q53 q54 q55 q71
    have g6 := And.intro g6_2 (And.intro g6_12 (And.intro g6_14 (And.intro g6_53 (And.intro g6_54 (And.intro g6_55 g6_71)))))
    refine hK _ _ ?_
    clear hK K
    refine cv_cond ?_
    simp -implicitDefEqProofs (disch := first | omega | decide) only [seval, -Int.reducePow, -Nat.reducePow, cC, pv, binv, sFlProc1, undef, g3, g4, g6]
    refine ⟨fun hc => ?_, fun hc => ?_⟩
    · have q3 := of_decide_eq_true ‹_›
      rw [updF_no (by rw [hH1]; exact q3)] at hu
      refine cv_seq_k fun K hK => ?_
      refine cv_region_then rfl ?_
      simp -implicitDefEqProofs (disch := first | omega | decide) only [seval, -Int.reducePow, -Nat.reducePow, cC, pv, binv, sFlProc1, undef, g3, g4, g6]
      refine hK _ _ ?_
      clear hK K
      refine cv_ret ⟨_, (by simp -implicitDefEqProofs (disch := first | omega | decide) only [seval, -Int.reducePow, -Nat.reducePow, cC, pv, binv, sFlProc1, undef, g3, g4, g6]; rfl), fun w hw => ?_⟩
      rw [hS, hu]
      exact ⟨h1, rfl, (fun h'' he => by cases he), hw.hold 4 rfl, hw.pres⟩
    have q3 := of_decide_eq_false ‹_›
    rw [updF_yes (by rw [hH1]; exact q3)] at hu
    refine cv_skip ?_
    try simp only [blockQ, thenQ]
    refine hK _ _ ?_
    clear hK K
    refine cv_q ?_
    refine cv_region_then rfl ?_
    simp -implicitDefEqProofs (disch := first | omega | decide) only [seval, -Int.reducePow, -Nat.reducePow, cC, pv, binv, sFlProc1, undef, hst, z_len, g3, g4, g6]
    refine ⟨by omega, ?_⟩
    refine hK _ _ ?_
    clear hK K
    refine cv_region_then rfl ?_
    simp -implicitDefEqProofs (disch := first | omega | decide) only [seval, -Int.reducePow, -Nat.reducePow, cC, pv, binv, sFlProc1, undef, g3, g4, g6]
    refine ⟨⟨j + 1, h1.set y v, ?_⟩, ?_⟩
    · simp -implicitDefEqProofs (disch := first | omega | decide) only [seval, -Int.reducePow, -Nat.reducePow, cC, pv, binv, sFlProc1, undef, Int.natCast_add, g3, g4, g6]
      exact ⟨by omega, by rw [List.length_set]; exact hl1, hu⟩
    · simp only [intOf]; omega
  refine cv_exit ?_
  simp only [blockQ, thenQ, if_true, ite_true]
  clear hK K
  refine hK _ _ ?_
  clear hK K
  have hje : j = n6 := by have := of_decide_eq_false ‹decide ((j : Int) < (n6 : Int)) = false›; omega
  rw [List.drop_of_length_le (by omega), updF] at hu
  refine cv_seq_k fun K hK => ?_
  refine cv_region_then rfl ?_
  simp -implicitDefEqProofs (disch := first | omega | decide) only [seval, -Int.reducePow, -Nat.reducePow, cC, pv, binv, sFlProc1, undef, g3, g4]
  refine hK _ _ ?_
  clear hK K
  refine cv_ret ⟨_, (by simp -implicitDefEqProofs (disch := first | omega | decide) only [seval, -Int.reducePow, -Nat.reducePow, cC, pv, binv, sFlProc1, undef, g3, g4]; rfl), fun w hw => ?_⟩
  rw [hS, hu]
  exact ⟨h1, rfl, (fun h'' he => by cases he; rfl), hw.hold 4 rfl, hw.pres⟩
end Go.Proofs.Ytlbmnioibiomfaa
