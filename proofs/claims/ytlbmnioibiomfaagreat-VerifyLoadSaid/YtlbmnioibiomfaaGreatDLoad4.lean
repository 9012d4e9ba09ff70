/- flow's process: it writes into the block of the heights. -/
import Derived.Test.YtlbmnioibiomfaaGreatDLoad3
import Derived.Test.YtlbmnioibiomfaaGreatDLoad2
import Derived.Test.YtlbmnioibiomfaaGreatDLoad1
import Derived.Test.YtlbmnioibiomfaaGreatDLoad0
namespace Go.Proofs.YtlbmnioibiomfaaGreat
open Go.RowKit Go.Shelf
set_option linter.unusedVariables false
set_option linter.unusedSimpArgs false
set_option maxRecDepth 100000
section
variable {W w : World} {L : List Res} {M : List Nat} {B size n c : Nat} {A : Option Addr} {xs : List Value} {m : ModR}
theorem Sl.keepB (h : Sl W B size A n c xs) (hw : St M W L w) (hB : B ≤ W.heap.size) (hM : ∀ m ∈ M, B ≤ m) : Sl w B size A n c xs :=
  ⟨h.len, h.cap, h.max, fun hn => by
    obtain ⟨b, off, e, hb, hc⟩ := h.cells hn
    exact ⟨b, off, e, hb, fun i v hv => (hw.base_cell (a := ⟨b, off + i, none⟩) (Nat.lt_of_lt_of_le hb hB) (fun hm => by have := hM _ hm; dsimp only at this; omega)).trans (hc i v hv)⟩⟩
theorem Mod.more {B' : Nat} (h : Mod W B m) (hB : B ≤ B') : Mod W B' m := ⟨h.ts.more hB, fun t ht => (h.ty t ht).more hB, h.gs.more hB, fun g hg => (h.fn g hg).more hB, h.arg⟩
theorem Mod.keepB (h : Mod W B m) (hw : St M W L w) (hB : B ≤ W.heap.size) (hM : ∀ m ∈ M, B ≤ m) : Mod w B m := ⟨h.ts.keepB hw hB hM, fun t ht => (h.ty t ht).keepB hw hB hM, h.gs.keepB hw hB hM, fun g hg => (h.fn g hg).keepB hw hB hM, h.arg⟩
end
def i64z (l : List Int) : List Value := l.map (Value.int .i64)
theorem z_len (l : List Int) : (i64z l).length = l.length := by simp [i64z]
theorem z_get {h : List Int} {k : Nat} (hk : k < h.length) : (i64z h)[k]? = some (.int .i64 (hAt h k)) := by
  unfold i64z
  rw [List.getElem?_map, hAt_get hk]
  rfl
theorem z_set {h : List Int} {k : Nat} (v : Int) (hk : k < h.length) : List.take k (i64z h) ++ [Value.int .i64 v] ++ List.drop (k + 1) (i64z h) = i64z (h.set k v) := by
  unfold i64z
  rw [← List.map_take, ← List.map_drop, List.set_eq_take_append_cons_drop, if_pos hk]
  simp
theorem updF_no {k : Nat} {l : List Nat} {v : Int} {h : List Int} (hc : hAt h k ≠ -1 ∧ hAt h k ≠ v) : updF (k :: l) v h = none := by rw [updF, if_pos hc]
theorem updF_yes {k : Nat} {l : List Nat} {v : Int} {h : List Int} (hc : ¬ (hAt h k ≠ -1 ∧ hAt h k ≠ v)) : updF (k :: l) v h = updF l v (h.set k v) := by rw [updF, if_neg hc]
theorem stepF_eq {gs : List FnR} {x : FnR} {h : List Int} {k : Nat} {i : Ins} {v : Int} (hv : hAt h k + ((fxP gs i).2 - (fxP gs i).1) = v) : stepF gs x h k i = if (i.op = 22 ∧ hAt h k ≠ x.r) ∨ hAt h k < (fxP gs i).1 ∨ 64 < v then none else updF (nxP i k) v h := by
  unfold stepF
  rw [show hAt h k + (fxP gs i).2 - (fxP gs i).1 = v by omega]
theorem nx_arg {i : Ins} {k N : Nat} (h : ∀ j ∈ nxP i k, j < N) (ho : i.op = 19 ∨ i.op = 20) : i.arg < N := by
  by_cases h1 : i.op = 19
  · exact h _ (by unfold nxP; rw [if_pos h1]; simp)
  · have h2 : i.op = 20 := by omega
    by_cases c1 : i.arg < k + 1
    · exact h _ (by unfold nxP; rw [if_neg h1, if_pos h2, if_pos c1]; simp)
    by_cases c2 : k + 1 < i.arg
    · exact h _ (by unfold nxP; rw [if_neg h1, if_pos h2, if_neg c1, if_pos c2]; simp)
    · have := h (k + 1) (by unfold nxP; rw [if_neg h1, if_pos h2, if_neg c1, if_neg c2]; simp)
      omega
set_option maxRecDepth 100000 in
theorem sFlProc1 : type_of% (And.intro (And.intro (And.intro @fBox.eq_1 (And.intro @tBox.eq_1 @iBox.eq_1)) (And.intro (And.intro @mBox.eq_1 @gBox.eq_1) (And.intro @flBox.eq_1 @fdV.eq_1))) (And.intro (And.intro (And.intro @tyV.eq_1 @insV.eq_1) (And.intro @fnV.eq_1 @modV.eq_1)) (And.intro (And.intro @fltV.eq_1 @fineF.eq_1) (And.intro @Nat.mul_one @wrap_in)))) := (And.intro (And.intro (And.intro @fBox.eq_1 (And.intro @tBox.eq_1 @iBox.eq_1)) (And.intro (And.intro @mBox.eq_1 @gBox.eq_1) (And.intro @flBox.eq_1 @fdV.eq_1))) (And.intro (And.intro (And.intro @tyV.eq_1 @insV.eq_1) (And.intro @fnV.eq_1 @modV.eq_1)) (And.intro (And.intro @fltV.eq_1 @fineF.eq_1) (And.intro @Nat.mul_one @wrap_in))))
set_option maxHeartbeats 2000000 in
theorem process_any (m : ModR) (x : FnR) (b k : Nat) (i : Ins) (h : List Int) (B : Nat) (W : World) (hW : W.heap[b]? = some (.cells (i64z h).toArray 3 (0, 0))) (hM : Mod W B m) (hB : B ≤ b)
    (hX : Sl W B 2 x.A x.n x.c (cl insc x.code)) (hi : x.code[k]? = some i) (hl : h.length = x.code.length) (h1024 : x.code.length ≤ 1024) (hc : i.op = 21 → i.arg < m.gs.length) (hnx : ∀ j ∈ nxP i k, j < x.code.length)
    (hr : -1 ≤ hAt h k ∧ hAt h k ≤ 64) (hp : 0 ≤ (fxP m.gs i).1 ∧ (fxP m.gs i).1 ≤ 64 ∧ 0 ≤ (fxP m.gs i).2 ∧ (fxP m.gs i).2 ≤ 64) :
    Calls Tryz.prog 41 #[modV m, fnV x, .slice (some ⟨b, 0, none⟩) x.n x.n, .int .i64 (k : Int)] W fun e w' => ∃ h' : List Int, e = .returned (.bool (stepF m.gs x h k i).isSome) ∧ (∀ h'', stepF m.gs x h k i = some h'' → h' = h'') ∧ w'.heap[b]? = some (.cells (i64z h').toArray 3 (0, 0)) ∧ Pres [b] W w' := by
  have hbs : b < W.heap.size := (Array.getElem?_eq_some_iff.1 hW).1
  have hBW : B ≤ W.heap.size := by omega
  have hMB : ∀ m ∈ [b], B ≤ m := fun m hm => by simp at hm; omega
  have hMat := fun {L : List Res} {w : World} (hw : St [b] W L w) => (hM.keepB hw hBW hMB).more (show B ≤ w.heap.size from Nat.le_trans hBW hw.pres.size)
  have hXat := fun {L : List Res} {w : World} (hw : St [b] W L w) => (hX.keepB hw hBW hMB).more (show B ≤ w.heap.size from Nat.le_trans hBW hw.pres.size)
  have hxl : x.code.length = x.n := cl_row insc_len (by omega) hX.len
  have hk : k < x.n := by have := (List.getElem?_eq_some_iff.1 hi).1; omega
  have hia : i.op = 19 ∨ i.op = 20 → i.arg ≤ 1024 := fun ho => by have := nx_arg hnx ho; omega
  have hzk := z_get (h := h) (k := k) (by omega)
  obtain ⟨H, hH⟩ : ∃ H, hAt h k = H := ⟨_, rfl⟩
  obtain ⟨v, hv⟩ : ∃ v, hAt h k + ((fxP m.gs i).2 - (fxP m.gs i).1) = v := ⟨_, rfl⟩
  have hS := stepF_eq (x := x) hv
  obtain ⟨pq, hpq⟩ : ∃ pq, fxP m.gs i = pq := ⟨_, rfl⟩
  rw [hpq] at hp hS hv
  rw [hH] at hzk hr hS hv
  obtain ⟨TA, tn, tc, ts, FA, fn, fc, gs⟩ := m
  obtain ⟨xp, xr, xl, xA, xn, xc, code⟩ := x
  obtain ⟨p, q⟩ := pq
  dsimp only at *
  obtain ⟨b0, off, rfl, hb0, -⟩ := hX.cells (by omega)
  refine calls_cv (M := [b]) (n := 77) [.tmp 8] rfl Tryz.func41 rfl rfl (Nat.le_of_ble_eq_true rfl)  (St.one (cs := i64z h) hW) ?_
  refine cv_seq_k fun K hK => ?_
  refine cv_region_then rfl ?_
  simp -implicitDefEqProofs (disch := first | omega | decide) only [seval, -Int.reducePow, -Nat.reducePow, cC, pv, binv, sFlProc1, undef]
  intro b4 hb4 hf4 b5 hb5 hf5
  refine hK _ _ ?_
  clear hK K
  refine cv_seq_k fun K hK => ?_
  refine cv_region_then rfl ?_
  simp -implicitDefEqProofs (disch := first | omega | decide) only [seval, -Int.reducePow, -Nat.reducePow, cC, pv, binv, sFlProc1, undef]
  refine ⟨_, (fun w hw => Sl.ins (W := w) (L := []) (hXat hw) hi w (St.nil [] w)), fun tok htok => ?_⟩
  subst htok
  simp -implicitDefEqProofs (disch := first | omega | decide) only [seval, -Int.reducePow, -Nat.reducePow, cC, pv, binv, sFlProc1, undef]
  intro b9 hb9 hf9
  refine hK _ _ ?_
  clear hK K
  refine cv_seq_k fun K hK => ?_
  refine cv_region_then rfl ?_
  simp -implicitDefEqProofs (disch := first | omega | decide) only [seval, -Int.reducePow, -Nat.reducePow, cC, pv, binv, sFlProc1, undef]
  refine callV_ret (fun w hw => effect_any ⟨TA, tn, tc, ts, FA, fn, fc, gs⟩ i w (hMat hw) hc) ?_
  try simp -implicitDefEqProofs (disch := first | omega | decide) only [seval, -Int.reducePow, -Nat.reducePow, cC, pv, binv, sFlProc1, undef, hpq]
  refine hK _ _ ?_
  clear hK K
  refine cv_seq_k fun K hK => ?_
  refine cv_region_then rfl ?_
  simp -implicitDefEqProofs (disch := first | omega | decide) only [seval, -Int.reducePow, -Nat.reducePow, cC, pv, binv, sFlProc1, undef, hzk]
  refine hK _ _ ?_
  clear hK K
  refine cv_gen fun G1 hG => ?_
  have g1_2 := congrFun hG 2
  have g1_3 := congrFun hG 3
  have g1_5 := congrFun hG 5
  have g1_9 := congrFun hG 9
  have g1_10 := congrFun hG 10
  have g1_11 := congrFun hG 11
  have g1_12 := congrFun hG 12
  clear hG
  try simp -implicitDefEqProofs (disch := first | omega | decide) only [seval, -Int.reducePow, -Nat.reducePow, cC, pv, binv, sFlProc1, undef] at g1_2 g1_3 g1_5 g1_9 g1_10 g1_11 g1_12
  have g1 := And.intro g1_2 (And.intro g1_3 (And.intro g1_5 (And.intro g1_9 (And.intro g1_10 (And.intro g1_11 g1_12)))))
  refine cv_seq_k fun K hK => ?_
  refine cv_seq_k fun K hK => ?_
  refine cv_cut (fun _ _ => True) (fun F' L' => F' 2 = G1 2 ∧ F' 3 = G1 3 ∧ F' 9 = G1 9 ∧ F' 10 = G1 10 ∧ F' 11 = G1 11 ∧ F' 12 = G1 12 ∧ F' 43 = .bool (decide ((i.op = 22 ∧ ¬ H = xr) ∨ H < p)) ∧ L' = [iBox b9 i, gBox b5 ⟨xp, xr, xl, some ⟨b0, off, none⟩, xn, xc, code⟩, mBox b4 ⟨TA, tn, tc, ts, FA, fn, fc, gs⟩, .blk b 3 (i64z h)]) ?_ ?_
  · refine cv_region_then rfl ?_
    simp -implicitDefEqProofs (disch := first | omega | decide) only [seval, -Int.reducePow, -Nat.reducePow, cC, pv, binv, sFlProc1, undef, g1]
    repeat' ((first | refine vcg_cases (fun hg => ?_) (fun hg => ?_) | refine vdg_cases (fun hg => ?_) (fun hg => ?_)) <;> ((try simp only [Bool.not_eq_true', Bool.not_eq_false', decide_eq_true_eq, decide_eq_false_iff_not] at hg); (try simp -implicitDefEqProofs (disch := first | omega | decide) only [seval, -Int.reducePow, -Nat.reducePow, cC, pv, binv, sFlProc1, undef, hg, g1])))
    all_goals (repeat' refine And.intro ?_ ?_)
    all_goals (first | with_reducible rfl | (refine congrArg Value.bool ?_; rw [Bool.eq_iff_iff]; (try simp only [decide_eq_true_eq, eq_self, true_and, and_true, false_and, and_false, true_or, or_true, false_or, or_false, not_true_eq_false, not_false_eq_true, true_iff, iff_true, false_iff, iff_false, Bool.false_eq_true, Bool.not_eq_true', Bool.not_eq_true, decide_eq_false_iff_not, Bool.and_eq_true, Bool.or_eq_true]) <;> omega) | (refine congrArg (Value.int _) ?_; omega) | omega)
  intro G2 L' _ hF
  obtain ⟨q2, q3, q9, q10, q11, q12, q43, rfl⟩ := hF
  have g2_2 := q2.trans g1_2
  have g2_3 := q3.trans g1_3
  have g2_9 := q9.trans g1_9
  have g2_10 := q10.trans g1_10
  have g2_11 := q11.trans g1_11
  have g2_12 := q12.trans g1_12
  have g2_43 := q43
  clear q2 q3 q9 q10 q11 q12 q43
  have g2 := And.intro g2_2 (And.intro g2_3 (And.intro g2_9 (And.intro g2_10 (And.intro g2_11 (And.intro g2_12 g2_43)))))
  refine hK _ _ ?_
  clear hK K
  refine cv_cond ?_
  simp -implicitDefEqProofs (disch := first | omega | decide) only [seval, -Int.reducePow, -Nat.reducePow, cC, pv, binv, sFlProc1, undef, g2]
  refine ⟨fun hc => ?_, fun hc => ?_⟩
  · have q1 := of_decide_eq_true ‹_›
    have hN : stepF gs ⟨xp, xr, xl, some ⟨b0, off, none⟩, xn, xc, code⟩ h k i = none := by rw [hS, if_pos (q1.elim .inl (fun h => .inr (.inl h)))]
    refine cv_seq_k fun K hK => ?_
    refine cv_region_then rfl ?_
    simp -implicitDefEqProofs (disch := first | omega | decide) only [seval, -Int.reducePow, -Nat.reducePow, cC, pv, binv, sFlProc1, undef, g2]
    refine hK _ _ ?_
    clear hK K
    refine cv_ret ⟨_, (by simp -implicitDefEqProofs (disch := first | omega | decide) only [seval, -Int.reducePow, -Nat.reducePow, cC, pv, binv, sFlProc1, undef, g2]; rfl), fun w hw => ?_⟩
    rw [hN]
    exact ⟨h, rfl, (fun h'' he => by cases he), hw.hold 3 rfl, hw.pres⟩
  have q1 := of_decide_eq_false ‹_›
  refine cv_skip ?_
  try simp only [blockQ, thenQ]
  refine hK _ _ ?_
  clear hK K
  refine cv_seq_k fun K hK => ?_
  refine cv_region_then rfl ?_
  simp -implicitDefEqProofs (disch := first | omega | decide) only [seval, -Int.reducePow, -Nat.reducePow, cC, pv, binv, sFlProc1, undef, hv, g2]
  refine hK _ _ ?_
  clear hK K
  refine cv_seq_k fun K hK => ?_
  refine cv_seq_k fun K hK => ?_
  refine cv_region_then rfl ?_
  simp -implicitDefEqProofs (disch := first | omega | decide) only [seval, -Int.reducePow, -Nat.reducePow, cC, pv, binv, sFlProc1, undef, g2]
  refine hK _ _ ?_
  clear hK K
  refine cv_cond ?_
  simp -implicitDefEqProofs (disch := first | omega | decide) only [seval, -Int.reducePow, -Nat.reducePow, cC, pv, binv, sFlProc1, undef, g2]
  refine ⟨fun hc => ?_, fun hc => ?_⟩
  · have q2 := of_decide_eq_true ‹_›
    have hN : stepF gs ⟨xp, xr, xl, some ⟨b0, off, none⟩, xn, xc, code⟩ h k i = none := by rw [hS, if_pos (.inr (.inr q2))]
    refine cv_seq_k fun K hK => ?_
    refine cv_region_then rfl ?_
    simp -implicitDefEqProofs (disch := first | omega | decide) only [seval, -Int.reducePow, -Nat.reducePow, cC, pv, binv, sFlProc1, undef, g2]
    refine hK _ _ ?_
    clear hK K
    refine cv_ret ⟨_, (by simp -implicitDefEqProofs (disch := first | omega | decide) only [seval, -Int.reducePow, -Nat.reducePow, cC, pv, binv, sFlProc1, undef, g2]; rfl), fun w hw => ?_⟩
    rw [hN]
    exact ⟨h, rfl, (fun h'' he => by cases he), hw.hold 3 rfl, hw.pres⟩
  have q2 := of_decide_eq_false ‹_›
  rw [if_neg (fun hh => hh.elim (fun h => q1 (.inl h)) (fun hh => hh.elim (fun h => q1 (.inr h)) q2))] at hS
  refine cv_skip ?_
  try simp only [blockQ, thenQ]
  refine hK _ _ ?_
  clear hK K
  refine cv_seq_k fun K hK => ?_
  refine cv_seq_k fun K hK => ?_
  refine cv_region_then rfl ?_
  simp -implicitDefEqProofs (disch := first | omega | decide) only [seval, -Int.reducePow, -Nat.reducePow, cC, pv, binv, sFlProc1, undef, g2]
  refine callV_row (fun A n c => .slice A n c) (fun w hw => fnext_any i k w (by omega) hia) ?_
  intro A6 n6 c6 hl6 hr6
  simp -implicitDefEqProofs (disch := first | omega | decide) only [seval, -Int.reducePow, -Nat.reducePow, cC, pv, binv, sFlProc1, undef, g2]
  refine hK _ _ ?_
  clear hK K
  have hn6 : (nxP i k).length = n6 := by rw [i64c_len] at hl6; omega
  have hn62 : n6 ≤ 2 := by
    rw [← hn6]
    unfold nxP
    repeat' split
    all_goals simp
  refine cv_gen fun G3 hG => ?_
  have g3_2 := congrFun hG 2
  have g3_12 := congrFun hG 12
  have g3_53 := congrFun hG 53
  have g3_54 := congrFun hG 54
  have g3_55 := congrFun hG 55
  clear hG
  try simp -implicitDefEqProofs (disch := first | omega | decide) only [seval, -Int.reducePow, -Nat.reducePow, cC, pv, binv, sFlProc1, undef, g2] at g3_2 g3_12 g3_53 g3_54 g3_55
  have g3 := And.intro g3_2 (And.intro g3_12 (And.intro g3_53 (And.intro g3_54 g3_55)))
  refine cv_block ?_
  refine cv_loop (fun F' L' => ∃ (j : Nat) (h1 : List Int), F' 2 = G3 2 ∧ F' 12 = G3 12 ∧ F' 53 = G3 53 ∧ F' 54 = G3 54 ∧ F' 55 = .int .i64 (j : Int) ∧ L' = [.row (.slice A6 n6 c6) 3 1 n6 (i64c (nxP i k)), iBox b9 i, gBox b5 ⟨xp, xr, xl, some ⟨b0, off, none⟩, xn, xc, code⟩, mBox b4 ⟨TA, tn, tc, ts, FA, fn, fc, gs⟩, .blk b 3 (i64z h1)] ∧ j ≤ n6 ∧ h1.length = h.length ∧ updF (nxP i k) v h = updF ((nxP i k).drop j) v h1) (fun F' L' => 1100 - (intOf (F' 55)).toNat) ?_ ?_
  · refine ⟨0, h, ?_⟩
    simp -implicitDefEqProofs (disch := first | omega | decide) only [seval, -Int.reducePow, -Nat.reducePow, cC, pv, binv, sFlProc1, undef, g3]
    omega
  intro G4 L' hI
  obtain ⟨j, h1, q2, q12, q53, q54, q55, rfl, ⟨hj, hl1, hu⟩⟩ := hI
  have g4_2 := q2.trans g3_2
  have g4_12 := q12.trans g3_12
  have g4_53 := q53.trans g3_53
  have g4_54 := q54.trans g3_54
  have g4_55 := q55
  clear q2 q12 q53 q54 q55
  have g4 := And.intro g4_2 (And.intro g4_12 (And.intro g4_53 (And.intro g4_54 g4_55)))
  refine cv_seq_k fun K hK => ?_
  refine cv_region_then rfl ?_
  simp -implicitDefEqProofs (disch := first | omega | decide) only [seval, -Int.reducePow, -Nat.reducePow, cC, pv, binv, sFlProc1, undef, g3, g4]
  refine hK _ _ ?_
  clear hK K
  refine cv_seq_k fun K hK => ?_
  refine cv_cond ?_
  simp -implicitDefEqProofs (disch := first | omega | decide) only [seval, -Int.reducePow, -Nat.reducePow, cC, pv, binv, sFlProc1, undef, g3, g4]
  refine ⟨fun hc => ?_, fun hc => ?_⟩
  · refine cv_skip ?_
    try simp only [blockQ, thenQ]
    have hjt : j < n6 := by have := of_decide_eq_true ‹decide ((j : Int) < (n6 : Int)) = true›; omega
    obtain ⟨y, hy⟩ := some_of (l := nxP i k) (i := j) (by omega)
    rw [drop_at' hy] at hu
    have hyc := hnx y (List.mem_of_getElem? hy)
    have hzy := z_get (h := h1) (k := y) (by omega)
    have hst := z_set (h := h1) (k := y) v (by omega)
    obtain ⟨H1, hH1⟩ : ∃ H1, hAt h1 y = H1 := ⟨_, rfl⟩
    rw [hH1] at hzy
    refine hK _ _ ?_
    clear hK K
    refine cv_seq_k fun K hK => ?_
    refine cv_rowA 0 rfl (by omega) fun g hAA hg hNN => ?_
    subst hAA
    simp only [List.eraseIdx_cons_zero, List.eraseIdx_cons_succ, neB_nil, neB_blk, neB_row, neB_snap, and_true, List.not_mem_nil, or_false] at hNN hg
    replace hg := And.intro hg hNN
    clear hNN
    refine cv_block ?_
    refine cv_seq_k fun K hK => ?_
    refine cv_region_then rfl ?_
    simp -implicitDefEqProofs (disch := first | omega | decide) only [seval, -Int.reducePow, -Nat.reducePow, cC, pv, binv, sFlProc1, undef, g3, g4]
    refine ⟨_, ld_row1 (v := .int .i64 (y : Int)) (.head _) rfl (i64c_get hy), fun tok htok => ?_⟩
    subst htok
    simp -implicitDefEqProofs (disch := first | omega | decide) only [seval, -Int.reducePow, -Nat.reducePow, cC, pv, binv, sFlProc1, undef, g3, g4]
    refine hK _ _ ?_
    clear hK K
    refine cv_gen fun G5 hG => ?_
    have g5_2 := congrFun hG 2
    have g5_12 := congrFun hG 12
    have g5_14 := congrFun hG 14
    have g5_53 := congrFun hG 53
    have g5_54 := congrFun hG 54
    have g5_55 := congrFun hG 55
    clear hG
    try simp -implicitDefEqProofs (disch := first | omega | decide) only [seval, -Int.reducePow, -Nat.reducePow, cC, pv, binv, sFlProc1, undef, g3, g4] at g5_2 g5_12 g5_14 g5_53 g5_54 g5_55
    have g5 := And.intro g5_2 (And.intro g5_12 (And.intro g5_14 (And.intro g5_53 (And.intro g5_54 g5_55))))
    refine cv_seq_k fun K hK => ?_
    refine cv_seq_k fun K hK => ?_
    refine cv_cut (fun _ _ => True) (fun F' L' => F' 2 = G5 2 ∧ F' 12 = G5 12 ∧ F' 14 = G5 14 ∧ F' 53 = G5 53 ∧ F' 54 = G5 54 ∧ F' 55 = G5 55 ∧ F' 71 = .bool (decide (¬ H1 = -1 ∧ ¬ H1 = v)) ∧ L' = [.row (.slice (some ⟨g, 0, none⟩) n6 c6) 3 1 n6 (i64c (nxP i k)), iBox b9 i, gBox b5 ⟨xp, xr, xl, some ⟨b0, off, none⟩, xn, xc, code⟩, mBox b4 ⟨TA, tn, tc, ts, FA, fn, fc, gs⟩, .blk b 3 (i64z h1)]) ?_ ?_
    · refine cv_region_then rfl ?_
      simp -implicitDefEqProofs (disch := first | omega | decide) only [seval, -Int.reducePow, -Nat.reducePow, cC, pv, binv, sFlProc1, undef, hzy, g3, g4, g5]
      repeat' ((first | refine vcg_cases (fun hg => ?_) (fun hg => ?_) | refine vdg_cases (fun hg => ?_) (fun hg => ?_)) <;> ((try simp only [Bool.not_eq_true', Bool.not_eq_false', decide_eq_true_eq, decide_eq_false_iff_not] at hg); (try simp -implicitDefEqProofs (disch := first | omega | decide) only [seval, -Int.reducePow, -Nat.reducePow, cC, pv, binv, sFlProc1, undef, hg, hzy, g3, g4, g5])))
      all_goals (repeat' refine And.intro ?_ ?_)
      all_goals (first | with_reducible rfl | (refine congrArg Value.bool ?_; rw [Bool.eq_iff_iff]; (try simp only [decide_eq_true_eq, eq_self, true_and, and_true, false_and, and_false, true_or, or_true, false_or, or_false, not_true_eq_false, not_false_eq_true, true_iff, iff_true, false_iff, iff_false, Bool.false_eq_true, Bool.not_eq_true', Bool.not_eq_true, decide_eq_false_iff_not, Bool.and_eq_true, Bool.or_eq_true]) <;> omega) | (refine congrArg (Value.int _) ?_; omega) | omega)
    intro G6 L' _ hF
    obtain ⟨q2, q12, q14, q53, q54, q55, q71, rfl⟩ := hF
    have g6_2 := q2.trans g5_2
    have g6_12 := q12.trans g5_12
    have g6_14 := q14.trans g5_14
    have g6_53 := q53.trans g5_53
    have g6_54 := q54.trans g5_54
    have g6_55 := q55.trans g5_55
    have g6_71 := q71
    clear q2 q12 q14 q53 q54 q55 q71
    have g6 := And.intro g6_2 (And.intro g6_12 (And.intro g6_14 (And.intro g6_53 (And.intro g6_54 (And.intro g6_55 g6_71)))))
    refine hK _ _ ?_
    clear hK K
    refine cv_cond ?_
    simp -implicitDefEqProofs (disch := first | omega | decide) only [seval, -Int.reducePow, -Nat.reducePow, cC, pv, binv, sFlProc1, undef, g3, g4, g6]
    refine ⟨fun hc => ?_, fun hc => ?_⟩
    · have q3 := of_decide_eq_true ‹_›
      rw [updF_no (by rw [hH1]; exact q3)] at hu
      refine cv_seq_k fun K hK => ?_
      refine cv_region_then rfl ?_
      simp -implicitDefEqProofs (disch := first | omega | decide) only [seval, -Int.reducePow, -Nat.reducePow, cC, pv, binv, sFlProc1, undef, g3, g4, g6]
      refine hK _ _ ?_
      clear hK K
      refine cv_ret ⟨_, (by simp -implicitDefEqProofs (disch := first | omega | decide) only [seval, -Int.reducePow, -Nat.reducePow, cC, pv, binv, sFlProc1, undef, g3, g4, g6]; rfl), fun w hw => ?_⟩
      rw [hS, hu]
      exact ⟨h1, rfl, (fun h'' he => by cases he), hw.hold 4 rfl, hw.pres⟩
    have q3 := of_decide_eq_false ‹_›
    rw [updF_yes (by rw [hH1]; exact q3)] at hu
    refine cv_skip ?_
    try simp only [blockQ, thenQ]
    refine hK _ _ ?_
    clear hK K
    refine cv_q ?_
    refine cv_region_then rfl ?_
    simp -implicitDefEqProofs (disch := first | omega | decide) only [seval, -Int.reducePow, -Nat.reducePow, cC, pv, binv, sFlProc1, undef, hst, z_len, g3, g4, g6]
    refine ⟨by omega, ?_⟩
    refine hK _ _ ?_
    clear hK K
    refine cv_region_then rfl ?_
    simp -implicitDefEqProofs (disch := first | omega | decide) only [seval, -Int.reducePow, -Nat.reducePow, cC, pv, binv, sFlProc1, undef, g3, g4, g6]
    refine ⟨⟨j + 1, h1.set y v, ?_⟩, ?_⟩
    · simp -implicitDefEqProofs (disch := first | omega | decide) only [seval, -Int.reducePow, -Nat.reducePow, cC, pv, binv, sFlProc1, undef, Int.natCast_add, g3, g4, g6]
      exact ⟨by omega, by rw [List.length_set]; exact hl1, hu⟩
    · simp only [intOf]; omega
  refine cv_exit ?_
  simp only [blockQ, thenQ, if_true, ite_true]
  clear hK K
  refine hK _ _ ?_
  clear hK K
  have hje : j = n6 := by have := of_decide_eq_false ‹decide ((j : Int) < (n6 : Int)) = false›; omega
  rw [List.drop_of_length_le (by omega), updF] at hu
  refine cv_seq_k fun K hK => ?_
  refine cv_region_then rfl ?_
  simp -implicitDefEqProofs (disch := first | omega | decide) only [seval, -Int.reducePow, -Nat.reducePow, cC, pv, binv, sFlProc1, undef, g3, g4]
  refine hK _ _ ?_
  clear hK K
  refine cv_ret ⟨_, (by simp -implicitDefEqProofs (disch := first | omega | decide) only [seval, -Int.reducePow, -Nat.reducePow, cC, pv, binv, sFlProc1, undef, g3, g4]; rfl), fun w hw => ?_⟩
  rw [hS, hu]
  exact ⟨h1, rfl, (fun h'' he => by cases he; rfl), hw.hold 4 rfl, hw.pres⟩
end Go.Proofs.YtlbmnioibiomfaaGreat
/- flow.Heights. -/
namespace Go.Proofs.YtlbmnioibiomfaaGreat
open Go.RowKit Go.Shelf
set_option linter.unusedVariables false
set_option linter.unusedSimpArgs false
set_option maxRecDepth 100000
def boz (l : List Bool) : List Value := l.map Value.bool
theorem bz_len (l : List Bool) : (boz l).length = l.length := by simp [boz]
theorem bz_get {d : List Bool} {k : Nat} {b : Bool} (h : d[k]? = some b) : (boz d)[k]? = some (.bool b) := by simp [boz, h]
theorem bz_set {d : List Bool} {k : Nat} (v : Bool) (hk : k < d.length) : List.take k (boz d) ++ [Value.bool v] ++ List.drop (k + 1) (boz d) = boz (d.set k v) := by
  unfold boz
  rw [← List.map_take, ← List.map_drop, List.set_eq_take_append_cons_drop, if_pos hk]
  simp
def isF : Value → Bool
  | .bool false => true
  | _ => false
def undoneV : List Res → Nat
  | .blk _ _ cs :: _ => (cs.filter isF).length
  | _ => 0
theorem undoneV_boz (b : Nat) (t : TypeId) (d : List Bool) (L : List Res) : undoneV (.blk b t (boz d) :: L) = undone d := by
  simp only [undoneV, undone, boz, List.filter_map, List.length_map]
  congr 1
  apply List.filter_congr
  intro x _
  cases x <;> rfl
theorem fx_bd {gs : List FnR} (h : ∀ g ∈ gs, 0 ≤ g.p ∧ g.p ≤ 64 ∧ 0 ≤ g.r ∧ g.r ≤ 64) (i : Ins) : 0 ≤ (fxP gs i).1 ∧ (fxP gs i).1 ≤ 64 ∧ 0 ≤ (fxP gs i).2 ∧ (fxP gs i).2 ≤ 64 := by
  unfold fxP
  split
  · dsimp only
    cases hg : gs[i.arg]? with
    | none => simp
    | some g => simpa using h g (List.mem_of_getElem? hg)
  split
  · have := arP_le i.arg
    dsimp only
    omega
  · dsimp only
    have h1 : popP i.op ≤ 2 := by
      unfold popP
      repeat' split
      all_goals omega
    have h2 : pushP i.op ≤ 2 := by
      unfold pushP
      repeat' split
      all_goals omega
    omega
theorem stE_call {gl : Nat} {x : FnR} {k : Nat} {i : Ins} (h : stE gl x k i = 0) (ho : i.op = 21) : i.arg < gl := by
  unfold stE at h
  split at h
  · cases h
  split at h
  · cases h
  split at h
  · cases h
  · omega
theorem runF_end {gs : List FnR} {x : FnR} {q : Nat} {h : List Int} {d : List Bool} (hl : leastB h d = none) : runF gs x q h d = .inl h := by
  cases q with
  | zero => rfl
  | succ q => rw [runF, hl]
theorem runF_bad {gs : List FnR} {x : FnR} {q k : Nat} {h : List Int} {d : List Bool} (hl : leastB h d = some k) (hs : stepF gs x h k (insAt x k) = none) : runF gs x (q + 1) h d = .inr k := by rw [runF, hl]; dsimp only; rw [hs]
theorem runF_go {gs : List FnR} {x : FnR} {q k : Nat} {h h' : List Int} {d : List Bool} (hl : leastB h d = some k) (hs : stepF gs x h k (insAt x k) = some h') : runF gs x (q + 1) h d = runF gs x q h' (d.set k true) := by rw [runF, hl]; dsimp only; rw [hs]
/-- A block of the call's own, handed back whole. -/
theorem rowP_all {W w : World} {L : List Res} {b n : Nat} {cs : List Value} {u : Value} (hw : St [] W (.blk b 3 cs :: L) w) (hl : cs.length = n) (hn : n ≤ 9223372036854775807) :
    rowP 3 1 (fun v => .tuple #[v, u]) cs W (.returned (.tuple #[.slice (some ⟨b, 0, none⟩) n n, u])) w := by
  have hr := hw.blk_row (size := 1) (n := n) (by omega) hn
  exact ⟨_, _, _, rfl, hr.rowNew (by simp), hw.below⟩
theorem rowP_nil {W w : World} {L : List Res} {u : Value} (hw : St [] W L w) : rowP 3 1 (fun v => .tuple #[v, u]) [] W (.returned (.tuple #[.slice none 0 0, u])) w := ⟨none, 0, 0, rfl, ⟨rfl, .inl ⟨rfl, rfl⟩⟩, hw.below⟩
theorem h0_rep {n : Nat} (h : 0 < n) : Value.int .i64 0 :: List.drop 1 (List.replicate n (Value.int .i64 (-1))) = i64z (h0F n) := by
  have := z_set (h := List.replicate n (-1)) (k := 0) 0 (by simpa using h)
  unfold i64z at this ⊢
  rw [List.map_replicate] at this
  exact this
theorem tapB : tap Tryz.prog 84 = some (4, 1, 1) := by kernel_rfl
set_option maxRecDepth 100000 in
theorem sFlHgt1 : type_of% (And.intro (And.intro (And.intro @fBox.eq_1 (And.intro @tBox.eq_1 @iBox.eq_1)) (And.intro (And.intro @mBox.eq_1 @gBox.eq_1) (And.intro @flBox.eq_1 @fdV.eq_1))) (And.intro (And.intro (And.intro @tyV.eq_1 @insV.eq_1) (And.intro @fnV.eq_1 @modV.eq_1)) (And.intro (And.intro @fltV.eq_1 @fineF.eq_1) (And.intro @Nat.mul_one @wrap_in)))) := (And.intro (And.intro (And.intro @fBox.eq_1 (And.intro @tBox.eq_1 @iBox.eq_1)) (And.intro (And.intro @mBox.eq_1 @gBox.eq_1) (And.intro @flBox.eq_1 @fdV.eq_1))) (And.intro (And.intro (And.intro @tyV.eq_1 @insV.eq_1) (And.intro @fnV.eq_1 @modV.eq_1)) (And.intro (And.intro @fltV.eq_1 @fineF.eq_1) (And.intro @Nat.mul_one @wrap_in))))
set_option maxHeartbeats 2000000 in
theorem Heights_any (m : ModR) (f : Int) (W : World) (hM : Mod W W.heap.size m) : Calls Tryz.prog 20 #[modV m, .int .i64 f] W (rowP 3 1 (fun v => .tuple #[v, fltV (hgtF m f).2]) (i64z (hgtF m f).1) W) := by
  have hMat := fun {L : List Res} {w : World} (hw : St [] W L w) => hM.at hw
  have hfn := hM.fn
  have hG := hM.gs
  have hlg := hM.glen
  obtain ⟨q, hq⟩ : ∃ q, stF m f = q := ⟨_, rfl⟩
  have hno := fun h => hgtF_no (m := m) (f := f) h
  obtain ⟨TA, tn, tc, ts, FA, fn, fc, gs⟩ := m
  dsimp only at *
  rw [hq] at hno
  refine calls_cv2 (M := []) (n := 84) [.tmp 4, .cell 5 45] rfl Tryz.func20 rfl rfl (Nat.le_of_ble_eq_true rfl) (St.nil _ _) ?_
  refine cv_seq_k fun K hK => ?_
  refine cv_region_then rfl ?_
  simp -implicitDefEqProofs (disch := first | omega | decide) only [seval, -Int.reducePow, -Nat.reducePow, cC, pv, binv, sFlHgt1, undef]
  intro b2 hb2 b5 hb5 hf5
  refine hK _ _ ?_
  clear hK K
  refine cv_seq_k fun K hK => ?_
  refine cv_seq_k fun K hK => ?_
  refine cv_region_then rfl ?_
  simp -implicitDefEqProofs (disch := first | omega | decide) only [seval, -Int.reducePow, -Nat.reducePow, cC, pv, binv, sFlHgt1, undef]
  refine callV_ret (fun w hw => Static_any ⟨TA, tn, tc, ts, FA, fn, fc, gs⟩ f w (hMat hw)) ?_
  try simp -implicitDefEqProofs (disch := first | omega | decide) only [seval, -Int.reducePow, -Nat.reducePow, cC, pv, binv, sFlHgt1, undef, hq]
  intro b6 hb6 hf6
  refine hK _ _ ?_
  clear hK K
  refine cv_gen fun G1 hG => ?_
  have g1_1 := congrFun hG 1
  have g1_2 := congrFun hG 2
  have g1_5 := congrFun hG 5
  have g1_6 := congrFun hG 6
  clear hG
  try simp -implicitDefEqProofs (disch := first | omega | decide) only [seval, -Int.reducePow, -Nat.reducePow, cC, pv, binv, sFlHgt1, undef] at g1_1 g1_2 g1_5 g1_6
  have g1 := And.intro g1_1 (And.intro g1_2 (And.intro g1_5 g1_6))
  refine cv_seq_k fun K hK => ?_
  refine cv_region_then rfl ?_
  simp -implicitDefEqProofs (disch := first | omega | decide) only [seval, -Int.reducePow, -Nat.reducePow, cC, pv, binv, sFlHgt1, undef, g1]
  refine hK _ _ ?_
  clear hK K
  refine cv_cond ?_
  simp -implicitDefEqProofs (disch := first | omega | decide) only [seval, -Int.reducePow, -Nat.reducePow, cC, pv, binv, sFlHgt1, undef, g1]
  refine ⟨fun hc => ?_, fun hc => ?_⟩
  · have hz : ¬ q.1 = 0 := nd_true ‹(!decide (q.1 = 0)) = true›
    refine cv_seq_k fun K hK => ?_
    refine cv_draw [(true, 0), (true, 1), (false, 2)] [2] mixA rfl (by kernel_rfl) (by kernel_rfl) rfl rfl ?_
    simp -implicitDefEqProofs (disch := first | omega | decide) only [seval, -Int.reducePow, -Nat.reducePow, cC, pv, binv, sFlHgt1, undef, g1]
    refine hK _ _ ?_
    clear hK K
    refine cv_ret ?_
    simp -implicitDefEqProofs (disch := first | omega | decide) only [seval, -Int.reducePow, -Nat.reducePow, cC, pv, binv, sFlHgt1, undef, retQ2, ressV, packV, g1]
    intro w hw
    rw [hno hz]
    exact rowP_nil hw
  have hz : q.1 = 0 := Decidable.not_not.1 (nd_false ‹(!decide (q.1 = 0)) = false›)
  obtain ⟨h0, k, x, rfl, hk, hst⟩ := stF_ok (by rw [hq]; exact hz)
  have hyes := hgtF_yes (by rw [hq]; exact hz) hk
  dsimp only at hk hst hyes
  obtain ⟨-, -, -, hg32, hck⟩ := chkM_ok h0
  obtain ⟨-, -, -, -, -, -, hc1, h1024, -⟩ := fnErr_ok (hck k x hk).1
  have hX := hfn x (List.mem_of_getElem? hk)
  have hxl : x.code.length = x.n := cl_row insc_len (by omega) hX.len
  have hkf : k < fn := by have := (List.getElem?_eq_some_iff.1 hk).1; omega
  have hnx := nx_in hst
  have hfx := fx_bd (gs := gs) (fun g hg => by
    obtain ⟨i, hi⟩ := List.getElem?_of_mem hg
    obtain ⟨g1, g2, g3, g4, g5, g6, -⟩ := fnErr_ok (hck i g hi).1
    omega)
  obtain ⟨b9, of9, rfl, hb9, -⟩ := hG.cells (by omega)
  refine cv_skip ?_
  try simp only [blockQ, thenQ]
  refine hK _ _ ?_
  clear hK K
  refine cv_seq_k fun K hK => ?_
  refine cv_region_then rfl ?_
  simp -implicitDefEqProofs (disch := first | omega | decide) only [seval, -Int.reducePow, -Nat.reducePow, cC, pv, binv, sFlHgt1, undef, g1]
  refine ⟨_, hG.fnl hk, fun tok htok => ?_⟩
  subst htok
  simp -implicitDefEqProofs (disch := first | omega | decide) only [seval, -Int.reducePow, -Nat.reducePow, cC, pv, binv, sFlHgt1, undef, g1]
  intro b7 hb7 hf7
  refine hK _ _ ?_
  clear hK K
  refine cv_seq_k fun K hK => ?_
  refine cv_region_then rfl ?_
  simp -implicitDefEqProofs (disch := first | omega | decide) only [seval, -Int.reducePow, -Nat.reducePow, cC, pv, binv, sFlHgt1, undef, g1]
  intro b25 hb25 hf25
  simp -implicitDefEqProofs (disch := first | omega | decide) only [seval, -Int.reducePow, -Nat.reducePow, cC, pv, binv, sFlHgt1, undef, g1]
  refine callV_blk (us := List.replicate x.n (.int .i64 (-1))) (fun b => .slice (some ⟨b, 0, none⟩) x.n x.n) (fun w hw => repeat_any b25 x.n w ?_ (by omega) (by omega)) ?_
  · exact Sl.of_blk hw (.head _) rfl (by omega)
  intro b8 hb8 hf8
  simp -implicitDefEqProofs (disch := first | omega | decide) only [seval, -Int.reducePow, -Nat.reducePow, cC, pv, binv, sFlHgt1, undef, g1]
  refine hK _ _ ?_
  clear hK K
  refine cv_seq_k fun K hK => ?_
  refine cv_region_then rfl ?_
  simp -implicitDefEqProofs (disch := first | omega | decide) only [seval, -Int.reducePow, -Nat.reducePow, cC, pv, binv, sFlHgt1, undef, g1]
  simp -implicitDefEqProofs (disch := first | omega | decide) only [seval, -Int.reducePow, -Nat.reducePow, cC, pv, binv, sFlHgt1, undef, g1] at hf8
  rw [h0_rep (by omega)]
  refine ⟨by rw [List.length_replicate]; omega, ?_⟩
  refine hK _ _ ?_
  clear hK K
  refine cv_gen fun G2 hG => ?_
  have g2_1 := congrFun hG 1
  have g2_2 := congrFun hG 2
  have g2_5 := congrFun hG 5
  have g2_7 := congrFun hG 7
  have g2_8 := congrFun hG 8
  clear hG
  try simp -implicitDefEqProofs (disch := first | omega | decide) only [seval, -Int.reducePow, -Nat.reducePow, cC, pv, binv, sFlHgt1, undef, g1] at g2_1 g2_2 g2_5 g2_7 g2_8
  have g2 := And.intro g2_1 (And.intro g2_2 (And.intro g2_5 (And.intro g2_7 g2_8)))
  refine cv_seq_k fun K hK => ?_
  refine cv_region_then rfl ?_
  simp -implicitDefEqProofs (disch := first | omega | decide) only [seval, -Int.reducePow, -Nat.reducePow, cC, pv, binv, sFlHgt1, undef, g2]
  refine xv_make (u := .bool false) tapB rfl rfl rfl (by omega) (by omega) ?_
  intro b10 hb10 hf10
  simp -implicitDefEqProofs (disch := first | omega | decide) only [seval, -Int.reducePow, -Nat.reducePow, cC, pv, binv, sFlHgt1, undef, g2]
  simp -implicitDefEqProofs (disch := first | omega | decide) only [seval, -Int.reducePow, -Nat.reducePow, cC, pv, binv, sFlHgt1, undef, g2] at hf10
  rw [show List.replicate x.n (Value.bool false) = boz (List.replicate x.n false) by unfold boz; rw [List.map_replicate]]
  refine hK _ _ ?_
  clear hK K
  refine cv_seq_k fun K hK => ?_
  refine cv_seq_k fun K hK => ?_
  refine cv_region_then rfl ?_
  simp -implicitDefEqProofs (disch := first | omega | decide) only [seval, -Int.reducePow, -Nat.reducePow, cC, pv, binv, sFlHgt1, undef, g2]
  refine hK _ _ ?_
  clear hK K
  refine cv_gen fun G3 hG => ?_
  have g3_1 := congrFun hG 1
  have g3_2 := congrFun hG 2
  have g3_5 := congrFun hG 5
  have g3_7 := congrFun hG 7
  have g3_8 := congrFun hG 8
  have g3_9 := congrFun hG 9
  have g3_10 := congrFun hG 10
  clear hG
  try simp -implicitDefEqProofs (disch := first | omega | decide) only [seval, -Int.reducePow, -Nat.reducePow, cC, pv, binv, sFlHgt1, undef, g2] at g3_1 g3_2 g3_5 g3_7 g3_8 g3_9 g3_10
  have g3 := And.intro g3_1 (And.intro g3_2 (And.intro g3_5 (And.intro g3_7 (And.intro g3_8 (And.intro g3_9 g3_10)))))
  refine cv_block ?_
  refine cv_loop (fun F' L' => ∃ (at' : Nat) (h : List Int) (d : List Bool) (fu : Nat), F' 1 = G3 1 ∧ F' 2 = G3 2 ∧ F' 5 = G3 5 ∧ F' 7 = G3 7 ∧ F' 8 = G3 8 ∧ F' 9 = G3 9 ∧ F' 10 = .int .i64 (at' : Int) ∧ L' = [.blk b10 4 (boz d), .blk b8 3 (i64z h), .blk b25 3 [.int .i64 (-1)], gBox b7 x, flBox b6 q.1 q.2.1 q.2.2, flBox b5 0 0 0, mBox b2 ⟨TA, tn, tc, ts, some ⟨b9, of9, none⟩, fn, fc, gs⟩] ∧ at' ≤ x.n ∧ RunOk gs x h d ∧ undone d ≤ fu ∧ hgtR gs x = runF gs x fu h d ∧ ∀ j, j < at' → openB h d j = false) (fun F' L' => undoneV L' * 1100 + (1050 - (intOf (F' 10)).toNat)) ?_ ?_
  · refine ⟨0, h0F x.n, List.replicate x.n false, x.n, ?_⟩
    simp -implicitDefEqProofs (disch := first | omega | decide) only [seval, -Int.reducePow, -Nat.reducePow, cC, pv, binv, sFlHgt1, undef, g3]
    rw [← hxl]
    exact ⟨by omega, run_zero (by omega), Nat.le_of_eq (undone_new _), rfl, fun j hj => by omega⟩
  intro G4 L' hI
  obtain ⟨at', h, d, fu, q1, q2, q5, q7, q8, q9, q10, rfl, ⟨hat, hrun, hfu, hrr, hop⟩⟩ := hI
  have g4_1 := q1.trans g3_1
  have g4_2 := q2.trans g3_2
  have g4_5 := q5.trans g3_5
  have g4_7 := q7.trans g3_7
  have g4_8 := q8.trans g3_8
  have g4_9 := q9.trans g3_9
  have g4_10 := q10
  clear q1 q2 q5 q7 q8 q9 q10
  have g4 := And.intro g4_1 (And.intro g4_2 (And.intro g4_5 (And.intro g4_7 (And.intro g4_8 (And.intro g4_9 g4_10)))))
  have hhl := hrun.hlen
  have hdl := hrun.dlen
  refine cv_seq_k fun K hK => ?_
  refine cv_seq_k fun K hK => ?_
  refine cv_region_then rfl ?_
  simp -implicitDefEqProofs (disch := first | omega | decide) only [seval, -Int.reducePow, -Nat.reducePow, cC, pv, binv, sFlHgt1, undef, g3, g4]
  refine hK _ _ ?_
  clear hK K
  refine cv_cond ?_
  simp -implicitDefEqProofs (disch := first | omega | decide) only [seval, -Int.reducePow, -Nat.reducePow, cC, pv, binv, sFlHgt1, undef, g3, g4]
  refine ⟨fun hc => ?_, fun hc => ?_⟩
  · refine cv_skip ?_
    try simp only [blockQ, thenQ]
    have hlt : at' < x.n := by have := of_decide_eq_true ‹decide ((at' : Int) < (x.n : Int)) = true›; omega
    obtain ⟨i, hi⟩ := some_of (l := x.code) (i := at') (by omega)
    obtain ⟨db, hdb⟩ := some_of (l := d) (i := at') (by omega)
    have hii : insAt x at' = i := insAt_of hi
    have hzk := z_get (h := h) (k := at') (by omega)
    have hdk := bz_get hdb
    obtain ⟨H, hH⟩ : ∃ H, hAt h at' = H := ⟨_, rfl⟩
    rw [hH] at hzk
    have hob : openB h d at' = (decide (¬ H = -1) && !db) := by unfold openB; rw [hH, hdb] <;> rfl
    refine hK _ _ ?_
    clear hK K
    refine cv_block ?_
    refine cv_seq_k fun K hK => ?_
    refine cv_seq_k fun K hK => ?_
    refine cv_cut (fun _ _ => True) (fun F' L' => F' 1 = G4 1 ∧ F' 2 = G4 2 ∧ F' 5 = G4 5 ∧ F' 7 = G4 7 ∧ F' 8 = G4 8 ∧ F' 9 = G4 9 ∧ F' 10 = G4 10 ∧ F' 51 = .bool (db || decide (H = -1)) ∧ L' = [.blk b10 4 (boz d), .blk b8 3 (i64z h), .blk b25 3 [.int .i64 (-1)], gBox b7 x, flBox b6 q.1 q.2.1 q.2.2, flBox b5 0 0 0, mBox b2 ⟨TA, tn, tc, ts, some ⟨b9, of9, none⟩, fn, fc, gs⟩]) ?_ ?_
    · cases db
      · refine cv_region_then rfl ?_
        simp -implicitDefEqProofs (disch := first | omega | decide) only [seval, -Int.reducePow, -Nat.reducePow, cC, pv, binv, sFlHgt1, undef, hzk, hdk, g3, g4]
        all_goals (repeat' refine And.intro ?_ ?_)
        all_goals (first | with_reducible rfl | (refine congrArg Value.bool ?_; rw [Bool.eq_iff_iff]; (try simp only [decide_eq_true_eq, eq_self, true_and, and_true, false_and, and_false, true_or, or_true, false_or, or_false, not_true_eq_false, not_false_eq_true, true_iff, iff_true, false_iff, iff_false, Bool.false_eq_true, Bool.not_eq_true', Bool.not_eq_true, decide_eq_false_iff_not, Bool.and_eq_true, Bool.or_eq_true]) <;> omega) | (refine congrArg (Value.int _) ?_; omega) | omega)
      · refine cv_region_then rfl ?_
        simp -implicitDefEqProofs (disch := first | omega | decide) only [seval, -Int.reducePow, -Nat.reducePow, cC, pv, binv, sFlHgt1, undef, hzk, hdk, g3, g4]
        all_goals (repeat' refine And.intro ?_ ?_)
        all_goals (first | with_reducible rfl | (refine congrArg Value.bool ?_; rw [Bool.eq_iff_iff]; (try simp only [decide_eq_true_eq, eq_self, true_and, and_true, false_and, and_false, true_or, or_true, false_or, or_false, not_true_eq_false, not_false_eq_true, true_iff, iff_true, false_iff, iff_false, Bool.false_eq_true, Bool.not_eq_true', Bool.not_eq_true, decide_eq_false_iff_not, Bool.and_eq_true, Bool.or_eq_true]) <;> omega) | (refine congrArg (Value.int _) ?_; omega) | omega)
    intro G5 L' _ hF
    obtain ⟨q1, q2, q5, q7, q8, q9, q10, q51, rfl⟩ := hF
    have g5_1 := q1.trans g4_1
    have g5_2 := q2.trans g4_2
    have g5_5 := q5.trans g4_5
    have g5_7 := q7.trans g4_7
    have g5_8 := q8.trans g4_8
    have g5_9 := q9.trans g4_9
    have g5_10 := q10.trans g4_10
    have g5_51 := q51
    clear q1 q2 q5 q7 q8 q9 q10 q51
    have g5 := And.intro g5_1 (And.intro g5_2 (And.intro g5_5 (And.intro g5_7 (And.intro g5_8 (And.intro g5_9 (And.intro g5_10 g5_51))))))
    refine hK _ _ ?_
    clear hK K
    refine cv_cond ?_
    simp -implicitDefEqProofs (disch := first | omega | decide) only [seval, -Int.reducePow, -Nat.reducePow, cC, pv, binv, sFlHgt1, undef, g3, g4, g5]
    refine ⟨fun hc => ?_, fun hc => ?_⟩
    · have hof : openB h d at' = false := by
        rw [hob]
        cases db
        · simpa using hc
        · simp
      refine cv_seq_k fun K hK => ?_
      refine cv_region_then rfl ?_
      simp -implicitDefEqProofs (disch := first | omega | decide) only [seval, -Int.reducePow, -Nat.reducePow, cC, pv, binv, sFlHgt1, undef, wrap_in, g3, g4, g5]
      refine hK _ _ ?_
      clear hK K
      refine cv_exit ?_
      simp only [blockQ, thenQ, if_true, ite_true]
      refine ⟨⟨at' + 1, h, d, fu, ?_⟩, ?_⟩
      · simp -implicitDefEqProofs (disch := first | omega | decide) only [seval, -Int.reducePow, -Nat.reducePow, cC, pv, binv, sFlHgt1, undef, Int.natCast_add, g3, g4, g5]
        refine ⟨by omega, hrun, hfu, hrr, fun j hj => ?_⟩
        rcases Nat.lt_or_ge j at' with h1 | h1
        · exact hop j h1
        · rw [show j = at' by omega]; exact hof
      · simp -implicitDefEqProofs (disch := first | omega | decide) only [seval, -Int.reducePow, -Nat.reducePow, cC, pv, binv, sFlHgt1, undef, undoneV_boz, intOf, g3, g4, g5]
        omega
    obtain ⟨rfl, hHn⟩ : db = false ∧ ¬ H = -1 := by
      cases db
      · exact ⟨rfl, by simpa using hc⟩
      · simp at hc
    have hlb : leastB h d = some at' := leastB_some (by omega) (by rw [hob]; simpa using hHn) hop
    have hrk := hrun.rng at'
    rw [hH] at hrk
    have hds := bz_set (d := d) (k := at') true (by omega)
    have hun := undone_set hdb
    obtain ⟨fu, rfl⟩ : ∃ fu', fu = fu' + 1 := ⟨fu - 1, by omega⟩
    have hci := fun ho => stE_call (hst at' i hi) ho
    have hnj : ∀ j ∈ nxP i at', j < x.code.length := fun j hj => hnx at' (by omega) j (by rwa [hii])
    obtain ⟨b0, off, hA, hb0, -⟩ := hX.cells (by omega)
    have hX' : Sl W W.heap.size 2 (some ⟨b0, off, none⟩) x.n x.c (cl insc x.code) := hA ▸ hX
    obtain ⟨o, ho⟩ : ∃ o, stepF gs x h at' i = o := ⟨_, rfl⟩
    refine cv_skip ?_
    try simp only [blockQ, thenQ]
    refine hK _ _ ?_
    clear hK K
    refine cv_seq_k fun K hK => ?_
    refine cv_region_then rfl ?_
    simp -implicitDefEqProofs (disch := first | omega | decide) only [seval, -Int.reducePow, -Nat.reducePow, cC, pv, binv, sFlHgt1, undef, hds, bz_len, g3, g4, g5]
    refine ⟨by omega, ?_⟩
    refine hK _ _ ?_
    clear hK K
    refine cv_seq_k fun K hK => ?_
    refine cv_seq_k fun K hK => ?_
    refine cv_region_then rfl ?_
    simp -implicitDefEqProofs (disch := first | omega | decide) only [seval, -Int.reducePow, -Nat.reducePow, cC, pv, binv, sFlHgt1, undef, g3, g4, g5]
    refine callV_mod 1 (fun _ : List Int => .bool o.isSome) (fun h' => i64z h') (fun h' => ∀ h'', o = some h'' → h' = h'') rfl (fun w hw => by
      have := process_any ⟨TA, tn, tc, ts, some ⟨b9, of9, none⟩, fn, fc, gs⟩ x b8 at' i h W.heap.size w (hw.hold 1 rfl) (hM.keepB hw (Nat.le_refl _) (by simp)) hb8 (hX.keepB hw (Nat.le_refl _) (by simp)) hi (by omega) (by omega) hci hnj (by rw [hH]; omega) (hfx i)
      rw [ho] at this
      exact this) ?_
    intro h' hh'
    simp -implicitDefEqProofs (disch := first | omega | decide) only [seval, -Int.reducePow, -Nat.reducePow, cC, pv, binv, sFlHgt1, undef, g3, g4, g5]
    refine hK _ _ ?_
    clear hK K
    cases o with
    | none =>
      refine cv_cond ?_
      simp -implicitDefEqProofs (disch := first | omega | decide) only [seval, -Int.reducePow, -Nat.reducePow, cC, pv, binv, sFlHgt1, undef, Option.isSome_none, Bool.not_false, g3, g4, g5]
      refine cv_seq_k fun K hK => ?_
      refine cv_region_then rfl ?_
      simp -implicitDefEqProofs (disch := first | omega | decide) only [seval, -Int.reducePow, -Nat.reducePow, cC, pv, binv, sFlHgt1, undef, g3, g4, g5]
      refine hK _ _ ?_
      clear hK K
      refine cv_ret ?_
      simp -implicitDefEqProofs (disch := first | omega | decide) only [seval, -Int.reducePow, -Nat.reducePow, cC, pv, binv, sFlHgt1, undef, retQ2, ressV, packV, g3, g4, g5]
      intro w hw
      rw [hyes, hrr, runF_bad hlb (by rw [hii]; exact ho)]
      exact rowP_nil hw
    | some h2 =>
      obtain rfl : h' = h2 := hh' h2 rfl
      rw [runF_go hlb (by rw [hii]; exact ho)] at hrr
      obtain ⟨r1, r2, r3, r4, r5, r6⟩ := run_step hrun (fun k _ => (hfx _).2.2.1) hnx hlb (by rw [hii]; exact ho)
      refine cv_cond ?_
      simp -implicitDefEqProofs (disch := first | omega | decide) only [seval, -Int.reducePow, -Nat.reducePow, cC, pv, binv, sFlHgt1, undef, Option.isSome_some, Bool.not_true, g3, g4, g5]
      refine cv_skip ?_
      try simp only [blockQ, thenQ]
      refine hK _ _ ?_
      clear hK K
      refine cv_pick_post [1, 2, 3, 4, 5, 6, 7] (by decide) ?_
      refine cv_seq_k fun K hK => ?_
      refine cv_region_then rfl ?_
      simp -implicitDefEqProofs (disch := first | omega | decide) only [seval, -Int.reducePow, -Nat.reducePow, cC, pv, binv, sFlHgt1, undef, hA, g3, g4, g5]
      refine ⟨_, hX'.ins hi, fun tok htok => ?_⟩
      subst htok
      simp -implicitDefEqProofs (disch := first | omega | decide) only [seval, -Int.reducePow, -Nat.reducePow, cC, pv, binv, sFlHgt1, undef, hA, g3, g4, g5]
      refine callV_row (fun A n c => .slice A n c) (fun w hw => fnext_any i at' w (by omega) (fun ho => by have := nx_arg hnj ho; omega)) ?_
      intro A6 n6 c6 hl6 hr6
      simp -implicitDefEqProofs (disch := first | omega | decide) only [seval, -Int.reducePow, -Nat.reducePow, cC, pv, binv, sFlHgt1, undef, g3, g4, g5]
      refine hK _ _ ?_
      clear hK K
      have hn6 : (nxP i at').length = n6 := by rw [i64c_len] at hl6; omega
      have hn62 : n6 ≤ 2 := by
        rw [← hn6]
        unfold nxP
        repeat' split
        all_goals simp
      refine cv_gen fun G6 hG => ?_
      have g6_1 := congrFun hG 1
      have g6_2 := congrFun hG 2
      have g6_5 := congrFun hG 5
      have g6_7 := congrFun hG 7
      have g6_8 := congrFun hG 8
      have g6_9 := congrFun hG 9
      have g6_10 := congrFun hG 10
      have g6_72 := congrFun hG 72
      have g6_73 := congrFun hG 73
      have g6_74 := congrFun hG 74
      clear hG
      try simp -implicitDefEqProofs (disch := first | omega | decide) only [seval, -Int.reducePow, -Nat.reducePow, cC, pv, binv, sFlHgt1, undef, g3, g4, g5] at g6_1 g6_2 g6_5 g6_7 g6_8 g6_9 g6_10 g6_72 g6_73 g6_74
      have g6 := And.intro g6_1 (And.intro g6_2 (And.intro g6_5 (And.intro g6_7 (And.intro g6_8 (And.intro g6_9 (And.intro g6_10 (And.intro g6_72 (And.intro g6_73 g6_74))))))))
      refine cv_block ?_
      refine cv_loop (fun F' L' => ∃ (j a2 : Nat), F' 1 = G6 1 ∧ F' 2 = G6 2 ∧ F' 5 = G6 5 ∧ F' 7 = G6 7 ∧ F' 8 = G6 8 ∧ F' 9 = G6 9 ∧ F' 10 = .int .i64 (a2 : Int) ∧ F' 72 = G6 72 ∧ F' 73 = G6 73 ∧ F' 74 = .int .i64 (j : Int) ∧ L' = [.row (.slice A6 n6 c6) 3 1 n6 (i64c (nxP i at')), .blk b10 4 (boz (d.set at' true)), .blk b8 3 (i64z h'), .blk b25 3 [.int .i64 (-1)], gBox b7 x, flBox b6 q.1 q.2.1 q.2.2, flBox b5 0 0 0, mBox b2 ⟨TA, tn, tc, ts, some ⟨b9, of9, none⟩, fn, fc, gs⟩] ∧ j ≤ n6 ∧ a2 ≤ at' ∧ ∀ y ∈ (nxP i at').take j, a2 ≤ y) (fun F' L' => 1100 - (intOf (F' 74)).toNat) ?_ ?_
      · refine ⟨0, at', ?_⟩
        simp -implicitDefEqProofs (disch := first | omega | decide) only [seval, -Int.reducePow, -Nat.reducePow, cC, pv, binv, sFlHgt1, undef, hA, g3, g4, g6]
        exact ⟨by omega, by simp⟩
      intro G7 L' hI
      obtain ⟨j, a2, q1, q2, q5, q7, q8, q9, q10, q72, q73, q74, rfl, ⟨hj, ha2, hmn⟩⟩ := hI
      have g7_1 := q1.trans g6_1
      have g7_2 := q2.trans g6_2
      have g7_5 := q5.trans g6_5
      have g7_7 := q7.trans g6_7
      have g7_8 := q8.trans g6_8
      have g7_9 := q9.trans g6_9
      have g7_10 := q10
      have g7_72 := q72.trans g6_72
      have g7_73 := q73.trans g6_73
      have g7_74 := q74
      clear q1 q2 q5 q7 q8 q9 q10 q72 q73 q74
      have g7 := And.intro g7_1 (And.intro g7_2 (And.intro g7_5 (And.intro g7_7 (And.intro g7_8 (And.intro g7_9 (And.intro g7_10 (And.intro g7_72 (And.intro g7_73 g7_74))))))))
      refine cv_seq_k fun K hK => ?_
      refine cv_region_then rfl ?_
      simp -implicitDefEqProofs (disch := first | omega | decide) only [seval, -Int.reducePow, -Nat.reducePow, cC, pv, binv, sFlHgt1, undef, g3, g4, g6, g7]
      refine hK _ _ ?_
      clear hK K
      refine cv_seq_k fun K hK => ?_
      refine cv_cond ?_
      simp -implicitDefEqProofs (disch := first | omega | decide) only [seval, -Int.reducePow, -Nat.reducePow, cC, pv, binv, sFlHgt1, undef, g3, g4, g6, g7]
      refine ⟨fun hc => ?_, fun hc => ?_⟩
      · refine cv_skip ?_
        try simp only [blockQ, thenQ]
        have hjt : j < n6 := by have := of_decide_eq_true ‹decide ((j : Int) < (n6 : Int)) = true›; omega
        obtain ⟨y, hy⟩ := some_of (l := nxP i at') (i := j) (by omega)
        have hyc := hnj y (List.mem_of_getElem? hy)
        refine hK _ _ ?_
        clear hK K
        refine cv_seq_k fun K hK => ?_
        refine cv_rowA 0 rfl (by omega) fun g hAA hg hNN => ?_
        subst hAA
        simp only [List.eraseIdx_cons_zero, List.eraseIdx_cons_succ, neB_nil, neB_blk, neB_row, neB_snap, and_true, List.not_mem_nil, or_false] at hNN hg
        replace hg := And.intro hg hNN
        clear hNN
        refine cv_block ?_
        refine cv_seq_k fun K hK => ?_
        refine cv_region_then rfl ?_
        simp -implicitDefEqProofs (disch := first | omega | decide) only [seval, -Int.reducePow, -Nat.reducePow, cC, pv, binv, sFlHgt1, undef, g3, g4, g6, g7]
        refine ⟨_, ld_row1 (v := .int .i64 (y : Int)) (.head _) rfl (i64c_get hy), fun tok htok => ?_⟩
        subst htok
        simp -implicitDefEqProofs (disch := first | omega | decide) only [seval, -Int.reducePow, -Nat.reducePow, cC, pv, binv, sFlHgt1, undef, g3, g4, g6, g7]
        refine hK _ _ ?_
        clear hK K
        refine cv_q ?_
        refine cv_region_then rfl ?_
        simp -implicitDefEqProofs (disch := first | omega | decide) only [seval, -Int.reducePow, -Nat.reducePow, cC, pv, binv, sFlHgt1, undef, g3, g4, g6, g7]
        refine hK _ _ ?_
        clear hK K
        refine cv_region_then rfl ?_
        simp -implicitDefEqProofs (disch := first | omega | decide) only [seval, -Int.reducePow, -Nat.reducePow, cC, pv, binv, sFlHgt1, undef, g3, g4, g6, g7]
        refine ⟨⟨j + 1, min a2 y, ?_, ?_, by omega, by omega, fun z hz => ?_⟩, ?_⟩
        · refine congrArg (Value.int _) ?_
          omega
        · rw [Int.natCast_add]
          rfl
        · rw [List.take_add_one, hy] at hz
          rcases List.mem_append.1 hz with hz | hz
          · have := hmn z hz
            omega
          · simp at hz
            omega
        · simp only [intOf]; omega
      refine cv_exit ?_
      simp only [blockQ, thenQ, if_true, ite_true]
      have hje : j = n6 := by have := of_decide_eq_false ‹decide ((j : Int) < (n6 : Int)) = false›; omega
      have hmn' : ∀ y ∈ nxP i at', a2 ≤ y := by rwa [List.take_of_length_le (by omega)] at hmn
      refine ⟨⟨a2, h', d.set at' true, fu, ?_⟩, ?_⟩
      · simp -implicitDefEqProofs (disch := first | omega | decide) only [seval, -Int.reducePow, -Nat.reducePow, cC, pv, binv, sFlHgt1, undef, g3, g4, g6, g7]
        refine ⟨by omega, r1, by omega, hrr, fun z hz => ?_⟩
        have hz0 := hop z (by omega)
        have hze : hAt h' z = hAt h z := by
          rcases r3 z with e | e
          · exact e
          · have := hmn' z (by rwa [hii] at e)
            omega
        unfold openB at hz0 ⊢
        rw [hze, List.getElem?_set_ne (by omega)]
        exact hz0
      · simp -implicitDefEqProofs (disch := first | omega | decide) only [seval, -Int.reducePow, -Nat.reducePow, cC, pv, binv, sFlHgt1, undef, undoneV_boz, intOf, g3, g4, g6, g7]
        omega
  refine cv_exit ?_
  simp only [blockQ, thenQ, if_true, ite_true]
  clear hK K
  refine hK _ _ ?_
  clear hK K
  have hje : at' = x.n := by have := of_decide_eq_false ‹decide ((at' : Int) < (x.n : Int)) = false›; omega
  have hln : leastB h d = none := leastB_none (fun j hj => hop j (by omega))
  rw [runF_end hln] at hrr
  refine cv_pick [1, 5, 0] (by decide) ?_
  simp only [pickL, nth]
  refine cv_seq_k fun K hK => ?_
  refine cv_region_then rfl ?_
  simp -implicitDefEqProofs (disch := first | omega | decide) only [seval, -Int.reducePow, -Nat.reducePow, cC, pv, binv, sFlHgt1, undef, g3, g4]
  refine callV_ret (fun w hw => f_fine_any w) ?_
  try simp -implicitDefEqProofs (disch := first | omega | decide) only [seval, -Int.reducePow, -Nat.reducePow, cC, pv, binv, sFlHgt1, undef, g3, g4]
  refine hK _ _ ?_
  clear hK K
  refine cv_ret ?_
  simp -implicitDefEqProofs (disch := first | omega | decide) only [seval, -Int.reducePow, -Nat.reducePow, cC, pv, binv, sFlHgt1, undef, retQ2, ressV, packV, g3, g4]
  intro w hw
  rw [hyes, hrr]
  exact rowP_all hw (by rw [z_len]; show h.length = _; omega) (by omega)
end Go.Proofs.YtlbmnioibiomfaaGreat
/- A search along arrows: what has been seen, and what is still to be looked at. Plain. -/
namespace Go.Proofs.YtlbmnioibiomfaaGreat
open Go.RowKit Go.Shelf
set_option linter.unusedVariables false
set_option linter.unusedSimpArgs false
def bAt (s : List Bool) (j : Nat) : Bool := s.getD j false
theorem bAt_set {s : List Bool} {k j : Nat} (h : bAt s j = true) : bAt (s.set k true) j = true := by
  unfold bAt at *
  rw [List.getD_eq_getElem?_getD, List.getElem?_set]
  split
  · split
    · rfl
    · rename_i h1 h2
      subst h1
      simp [List.getElem?_eq_none (Nat.le_of_not_lt h2)] at h
  · simpa using h
theorem bAt_new {s : List Bool} {k : Nat} (h : k < s.length) : bAt (s.set k true) k = true := by simp [bAt, h]
theorem bAt_old {s : List Bool} {k j : Nat} (h : bAt (s.set k true) j = true) : j = k ∨ bAt s j = true := by
  unfold bAt at *
  rw [List.getD_eq_getElem?_getD, List.getElem?_set] at h
  split at h
  · rename_i h1
    exact .inl h1.symm
  · exact .inr (by simpa using h)
structure RI (N : Nat) (K : Nat → Prop) (D : Nat → List Nat) (s : List Bool) (l : List Nat) : Prop where
  len : s.length = N
  zero : bAt s 0 = true
  kn : ∀ i, bAt s i = true → K i
  cl : ∀ i, bAt s i = true → i ∈ l ∨ ∀ j ∈ D i, bAt s j = true
  qu : ∀ i ∈ l, bAt s i = true
def cutD (nx : Nat → List Nat) (at' q : Nat) (i : Nat) : List Nat := if i = at' then (nx i).take q else nx i
theorem RI.start {N : Nat} {K : Nat → Prop} {D : Nat → List Nat} (hN : 0 < N) (h0 : K 0) : RI N K D ((List.replicate N false).set 0 true) [0] := by
  refine ⟨by simp, bAt_new (by simpa), fun i hi => ?_, fun i hi => ?_, fun i hi => ?_⟩
  · rcases bAt_old hi with rfl | h
    · exact h0
    · unfold bAt at h
      rw [List.getD_eq_getElem?_getD, List.getElem?_replicate] at h
      split at h <;> simp at h
  · rcases bAt_old hi with rfl | h
    · exact .inl (by simp)
    · unfold bAt at h
      rw [List.getD_eq_getElem?_getD, List.getElem?_replicate] at h
      split at h <;> simp at h
  · obtain rfl : i = 0 := by simpa using hi
    exact bAt_new (by simpa)
theorem RI.old {N : Nat} {K : Nat → Prop} {nx : Nat → List Nat} {s : List Bool} {at' q y : Nat} {l : List Nat} (h : RI N K (cutD nx at' q) s l) (hy : (nx at')[q]? = some y) (hs : bAt s y = true) : RI N K (cutD nx at' (q + 1)) s l := by
  refine ⟨h.len, h.zero, h.kn, fun i hi => ?_, h.qu⟩
  rcases h.cl i hi with h1 | h1
  · exact .inl h1
  refine .inr fun j hj => ?_
  by_cases hia : i = at'
  · subst hia
    simp only [cutD, if_true] at hj h1
    rw [List.take_add_one, hy] at hj
    rcases List.mem_append.1 hj with hj | hj
    · exact h1 j hj
    · obtain rfl : j = y := by simpa using hj
      exact hs
  · simp only [cutD, if_neg hia] at hj h1
    exact h1 j hj
theorem RI.new {N : Nat} {K : Nat → Prop} {nx : Nat → List Nat} {s : List Bool} {at' q y : Nat} {l : List Nat} (h : RI N K (cutD nx at' q) s l) (hy : (nx at')[q]? = some y) (hyN : y < N) (hK : K y) : RI N K (cutD nx at' (q + 1)) (s.set y true) (l ++ [y]) := by
  refine RI.old (y := y) ⟨by rw [List.length_set]; exact h.len, bAt_set h.zero, fun i hi => ?_, fun i hi => ?_, fun i hi => ?_⟩ hy (bAt_new (by rw [h.len]; exact hyN))
  · rcases bAt_old hi with rfl | h1
    · exact hK
    · exact h.kn i h1
  · rcases bAt_old hi with rfl | h1
    · exact .inl (by simp)
    · rcases h.cl i h1 with h2 | h2
      · exact .inl (by simp [h2])
      · exact .inr fun j hj => bAt_set (h2 j hj)
  · rcases List.mem_append.1 hi with h1 | h1
    · exact bAt_set (h.qu i h1)
    · obtain rfl : i = y := by simpa using h1
      exact bAt_new (by rw [h.len]; exact hyN)
theorem RI.done {N : Nat} {K : Nat → Prop} {nx : Nat → List Nat} {s : List Bool} {at' q : Nat} {l : List Nat} (h : RI N K (cutD nx at' q) s l) (hq : (nx at').length ≤ q) : RI N K nx s l := by
  refine ⟨h.len, h.zero, h.kn, fun i hi => ?_, h.qu⟩
  rcases h.cl i hi with h1 | h1
  · exact .inl h1
  refine .inr fun j hj => h1 j ?_
  unfold cutD
  split
  · rename_i h2
    subst h2
    rwa [List.take_of_length_le hq]
  · exact hj
end Go.Proofs.YtlbmnioibiomfaaGreat
/- What verify computes, plainly. -/
namespace Go.Proofs.YtlbmnioibiomfaaGreat
open Go.RowKit Go.Shelf
set_option linter.unusedVariables false
set_option linter.unusedSimpArgs false
def verG (m : ModR) : Nat → Nat → Flt
  | 0, _ => fineF
  | q + 1, f => if (hgtF m (f : Int)).2.1 = 0 then verG m q (f + 1) else (hgtF m (f : Int)).2
def verM (m : ModR) : Flt := if (chkM m).1 = 0 then verG m m.gs.length 0 else chkM m
theorem verG_yes {m : ModR} {q f : Nat} (h : (hgtF m (f : Int)).2.1 = 0) : verG m (q + 1) f = verG m q (f + 1) := by rw [verG, if_pos h]
theorem verG_no {m : ModR} {q f : Nat} (h : ¬ (hgtF m (f : Int)).2.1 = 0) : verG m (q + 1) f = (hgtF m (f : Int)).2 := by rw [verG, if_neg h]
/-! ## The greatest height -/
/-! ## What can be called -/
/-- An arrow: the instruction at p of function f, where control comes, calls j. -/
def Arr (m : ModR) (f p j : Nat) : Prop := ∃ (x : FnR) (i : Ins), m.gs[f]? = some x ∧ x.code[p]? = some i ∧ ¬ hAt (hgtF m (f : Int)).1 p = -1 ∧ i.op = 21 ∧ i.arg = j
def Rch (m : ModR) (j : Nat) : Prop := ∀ S : Nat → Prop, S 0 → (∀ f p j, S f → Arr m f p j → S j) → S j
open Classical in
noncomputable def rchL (m : ModR) : List Bool := (List.range m.gs.length).map fun j => decide (Rch m j)
theorem rch_zero (m : ModR) : Rch m 0 := fun S h0 _ => h0
theorem rch_step {m : ModR} {f p j : Nat} (h : Rch m f) (ha : Arr m f p j) : Rch m j := fun S h0 hc => hc f p j (h S h0 hc) ha
/-- The state of a search: what is seen is reached, and either waits or is done. -/
structure SI (m : ModR) (s : List Bool) : Prop where
  len : s.length = m.gs.length
  zero : bAt s 0 = true
  kn : ∀ i, bAt s i = true → Rch m i
theorem SI.start {m : ModR} (h : 0 < m.gs.length) : SI m ((List.replicate m.gs.length false).set 0 true) := by
  refine ⟨by simp, bAt_new (by simpa), fun i hi => ?_⟩
  rcases bAt_old hi with rfl | h
  · exact rch_zero m
  · unfold bAt at h
    rw [List.getD_eq_getElem?_getD, List.getElem?_replicate] at h
    split at h <;> simp at h
theorem SI.new {m : ModR} {s : List Bool} {f p j : Nat} (h : SI m s) (hf : bAt s f = true) (ha : Arr m f p j) : SI m (s.set j true) := by
  refine ⟨by rw [List.length_set]; exact h.len, bAt_set h.zero, fun i hi => ?_⟩
  rcases bAt_old hi with rfl | h1
  · exact rch_step (h.kn f hf) ha
  · exact h.kn i h1
/-- All arrows from f ahead of position q lead to what is seen. -/
def Done (m : ModR) (s : List Bool) (f q : Nat) : Prop := ∀ p j, p < q → Arr m f p j → bAt s j = true
theorem Done.set {m : ModR} {s : List Bool} {f q k : Nat} (h : Done m s f q) : Done m (s.set k true) f q := fun p j hp ha => bAt_set (h p j hp ha)
theorem Done.succ {m : ModR} {s : List Bool} {f q : Nat} (h : Done m s f q) (hq : ∀ j, Arr m f q j → bAt s j = true) : Done m s f (q + 1) := fun p j hp ha => by
  rcases Nat.lt_or_ge p q with h1 | h1
  · exact h p j h1 ha
  · obtain rfl : p = q := by omega
    exact hq j ha
end Go.Proofs.YtlbmnioibiomfaaGreat
/- Types made of numbers: plain. -/
namespace Go.Proofs.YtlbmnioibiomfaaGreat
open Go.RowKit Go.Shelf
set_option linter.unusedVariables false
set_option linter.unusedSimpArgs false
def nextF (l : List Nat) (i m : Nat) : Nat := l.getD i 0 % m
theorem nextF_lt {l : List Nat} {i m : Nat} (h : 0 < m) : nextF l i m < m := Nat.mod_lt _ h
def fieldF (l : List Nat) (i : Nat) : Fd × Nat := if 1 + nextF l i 6 = 6 then (⟨6, ((1 + nextF l (i + 1) 9 : Nat) : Int)⟩, i + 2) else (⟨((1 + nextF l i 6 : Nat) : Int), 0⟩, i + 1)
def fieldsF (l : List Nat) : Nat → Nat → List Fd × Nat
  | 0, i => ([], i)
  | n + 1, i => ((fieldF l i).1 :: (fieldsF l n (fieldF l i).2).1, (fieldsF l n (fieldF l i).2).2)
def typeF (l : List Nat) (i : Nat) : Int × List Fd × Nat :=
  if nextF l i 4 = 0 then (((1 + nextF l (i + 1) 5 : Nat) : Int), [(fieldF l (i + 2)).1], (fieldF l (i + 2)).2)
  else (0, (fieldsF l (1 + nextF l (i + 1) 4) (i + 2)).1, (fieldsF l (1 + nextF l (i + 1) 4) (i + 2)).2)
theorem fieldF_ok (l : List Nat) (i : Nat) : (fieldF l i).1.err = 0 ∧ (fieldF l i).1.wid ≤ 9 ∧ i < (fieldF l i).2 ∧ (fieldF l i).2 ≤ i + 2 := by
  have h1 := nextF_lt (l := l) (i := i) (m := 6) (by omega)
  have h2 := nextF_lt (l := l) (i := i + 1) (m := 9) (by omega)
  unfold fieldF
  split
  · refine ⟨?_, ?_, by dsimp only; omega, by dsimp only; omega⟩
    · unfold Fd.err
      dsimp only
      repeat' split
      all_goals omega
    · unfold Fd.wid
      dsimp only
      repeat' split
      all_goals omega
  · refine ⟨?_, ?_, by dsimp only; omega, by dsimp only; omega⟩
    · unfold Fd.err
      dsimp only
      repeat' split
      all_goals omega
    · unfold Fd.wid
      dsimp only
      repeat' split
      all_goals omega
theorem fieldsF_ok (l : List Nat) : ∀ (n i : Nat), (∀ f ∈ (fieldsF l n i).1, f.err = 0 ∧ f.wid ≤ 9) ∧ (fieldsF l n i).1.length = n ∧ i ≤ (fieldsF l n i).2 ∧ (fieldsF l n i).2 ≤ i + 2 * n
  | 0, i => ⟨by simp [fieldsF], rfl, Nat.le_refl _, Nat.le_refl _⟩
  | n + 1, i => by
    have h1 := fieldF_ok l i
    have h2 := fieldsF_ok l n (fieldF l i).2
    simp only [fieldsF]
    refine ⟨fun f hf => ?_, by simp [h2.2.1], by omega, by omega⟩
    rcases List.mem_cons.1 hf with rfl | hf
    · exact ⟨h1.1, h1.2.1⟩
    · exact h2.1 f hf
theorem lay_small {fs : List Fd} (h : ∀ f ∈ fs, f.err = 0 ∧ f.wid ≤ 9) : 0 ≤ (lay fs).1 ∧ (lay fs).1 ≤ 17 * fs.length ∧ 1 ≤ (lay fs).2 ∧ (lay fs).2 ≤ 8 := by
  have key : ∀ (fs : List Fd) (s : Int × Int) (k : Nat), (∀ f ∈ fs, f.err = 0 ∧ f.wid ≤ 9) → 0 ≤ s.1 → s.1 ≤ 17 * k → 1 ≤ s.2 → s.2 ≤ 8 →
      0 ≤ (fs.foldl layS s).1 ∧ (fs.foldl layS s).1 ≤ 17 * (k + fs.length : Nat) ∧ 1 ≤ (fs.foldl layS s).2 ∧ (fs.foldl layS s).2 ≤ 8 := by
    intro fs
    induction fs with
    | nil => intro s k _ h1 h2 h3 h4; exact ⟨h1, by simpa using h2, h3, h4⟩
    | cons f fs ih =>
      intro s k h h1 h2 h3 h4
      have hf := h f (by simp)
      have hw := Fd.wid_rng hf.1
      have ha := Fd.ali_rng hf.1
      have hu := upI_rng h1 ha.1
      have := ih (layS s f) (k + 1) (fun x hx => h x (by simp [hx])) (by unfold layS; dsimp only; omega) (by unfold layS; dsimp only; omega) (by unfold layS; dsimp only; omega) (by unfold layS; dsimp only; omega)
      rw [List.foldl_cons, List.length_cons, show k + (fs.length + 1) = k + 1 + fs.length by omega]
      exact this
  have := key fs (0, 1) 0 h (by decide) (by decide) (by decide) (by decide)
  rwa [Nat.zero_add] at this
theorem typeF_ok (l : List Nat) (i : Nat) : chk (typeF l i).1 (typeF l i).2.1 = 0 ∧ i + 2 ≤ (typeF l i).2.2 ∧ (typeF l i).2.2 ≤ i + 12 ∧ 0 ≤ (typeF l i).1 ∧ (typeF l i).1 ≤ 5 ∧ (typeF l i).2.1.length ≤ 4 ∧ sizeT (typeF l i).1 (typeF l i).2.1 ≤ 120 ∧ (∀ f ∈ (typeF l i).2.1, f.err = 0 ∧ f.wid ≤ 9) := by
  have h1 := nextF_lt (l := l) (i := i + 1) (m := 5) (by omega)
  have h2 := nextF_lt (l := l) (i := i + 1) (m := 4) (by omega)
  unfold typeF
  split
  · have hf := fieldF_ok l (i + 2)
    have hw := Fd.wid_rng hf.1
    have hs : sizeT ((1 + nextF l (i + 1) 5 : Nat) : Int) [(fieldF l (i + 2)).1] ≤ 45 := by
      unfold sizeT
      rw [if_pos (by omega)]
      simp only [List.headD_cons]
      exact Int.le_trans (Int.mul_le_mul (show (_ : Int) ≤ 5 by omega) hf.2.1 (by omega) (by omega)) (by decide)
    refine ⟨chk_of (by dsimp only; omega) (by dsimp only; omega) (by simp) (by simp) (by simp) ?_ ?_, by dsimp only; omega, by dsimp only; omega, by dsimp only; omega, by dsimp only; omega, by simp, by dsimp only; omega, ?_⟩
    · intro f h
      obtain rfl : f = (fieldF l (i + 2)).1 := by simpa using h
      exact hf.1
    · dsimp only
      omega
    · intro f h
      obtain rfl : f = (fieldF l (i + 2)).1 := by simpa using h
      exact ⟨hf.1, hf.2.1⟩
  · obtain ⟨ha, hl, hi1, hi2⟩ := fieldsF_ok l (1 + nextF l (i + 1) 4) (i + 2)
    have hy := lay_small ha
    have hu := upI_rng hy.1 hy.2.2.1
    have hs : sizeT 0 (fieldsF l (1 + nextF l (i + 1) 4) (i + 2)).1 ≤ 100 := by
      unfold sizeT sizeF
      rw [if_neg (by omega)]
      omega
    refine ⟨chk_of (by dsimp only; omega) (by dsimp only; omega) (by dsimp only; omega) (by dsimp only; omega) (by dsimp only; omega) (fun f h => (ha f h).1) (by dsimp only; omega), by dsimp only; omega, by dsimp only; omega, by dsimp only; omega, by dsimp only; omega, by dsimp only; omega, by dsimp only; omega, ha⟩
theorem fieldsF_snoc (l : List Nat) (y i : Nat) (gs : List Fd) : (gs ++ (fieldsF l (y + 1) i).1, (fieldsF l (y + 1) i).2) = ((gs ++ [(fieldF l i).1]) ++ (fieldsF l y (fieldF l i).2).1, (fieldsF l y (fieldF l i).2).2) := by simp [fieldsF]
end Go.Proofs.YtlbmnioibiomfaaGreat
/- pluginhostmake: Next, Field, Type, Of. -/
namespace Go.Proofs.YtlbmnioibiomfaaGreat
open Go.RowKit Go.Shelf
set_option linter.unusedVariables false
set_option linter.unusedSimpArgs false
set_option maxRecDepth 100000

def tape (A : Option Addr) (n c i : Nat) : List Value := [.slice A n c, .int .i64 (i : Int)]
def tpBox (b : Nat) (A : Option Addr) (n c i : Nat) : Res := .blk b 57 [.slice A n c, .int .i64 (i : Int)]
set_option maxRecDepth 100000 in
theorem sMake1 : type_of% (And.intro (And.intro (And.intro @fBox.eq_1 @tBox.eq_1) (And.intro @pBox.eq_1 @fdV.eq_1)) (And.intro (And.intro @tyV.eq_1 @tpBox.eq_1) (And.intro @tape.eq_1 @Nat.mul_one))) := (And.intro (And.intro (And.intro @fBox.eq_1 @tBox.eq_1) (And.intro @pBox.eq_1 @fdV.eq_1)) (And.intro (And.intro @tyV.eq_1 @tpBox.eq_1) (And.intro @tape.eq_1 @Nat.mul_one)))
set_option maxHeartbeats 1000000 in
theorem next_anyN (b : Nat) (A : Option Addr) (n c : Nat) (l : List Nat) (i m : Nat) (W : World) (hW : W.heap[b]? = some (.cells (tape A n c i).toArray 57 (0, 0))) (hE : Sl W W.heap.size 1 A n c (u16c l)) (ha : 0 < n → Apt A [b]) (hl : ∀ x ∈ l, x < 65536) (hi : i ≤ 1000000) (hm : 0 < m ∧ m ≤ 100000) :
    Calls Tryz.prog 12 #[.pointer (some ⟨b, 0, none⟩), .int .i64 (m : Int)] W (modP b 57 (.int .i64 (nextF l i m : Int)) (tape A n c (i + 1)) W) := by
  have hln : l.length = n := u16_row hE.len
  have hx16 : ∀ j, l.getD j 0 < 65536 := fun j => by
    rw [List.getD_eq_getElem?_getD]
    cases hq : l[j]? with
    | none => simp
    | some z => exact hl z (List.mem_of_getElem? hq)
  refine calls_cv (M := [b]) (n := 37) [.tmp 4] rfl Tryz.func12 rfl rfl (Nat.le_of_ble_eq_true rfl)  (St.one hW) ?_
  refine cv_seq_k fun K hK => ?_
  refine cv_region_then rfl ?_
  simp -implicitDefEqProofs (disch := first | omega | decide) only [seval, -Int.reducePow, -Nat.reducePow, cC, pv, binv, sMake1, undef]
  refine hK _ _ ?_
  clear hK K
  refine cv_seq_k fun K hK => ?_
  refine cv_region_then rfl ?_
  simp -implicitDefEqProofs (disch := first | omega | decide) only [seval, -Int.reducePow, -Nat.reducePow, cC, pv, binv, sMake1, undef]
  refine hK _ _ ?_
  clear hK K
  refine cv_gen fun G1 hG => ?_
  have g1_0 := congrFun hG 0
  have g1_1 := congrFun hG 1
  have g1_5 := congrFun hG 5
  clear hG
  try simp -implicitDefEqProofs (disch := first | omega | decide) only [seval, -Int.reducePow, -Nat.reducePow, cC, pv, binv, sMake1, undef] at g1_0 g1_1 g1_5
  have g1 := And.intro g1_0 (And.intro g1_1 g1_5)
  refine cv_seq_k fun K hK => ?_
  refine cv_seq_k fun K hK => ?_
  refine cv_draw [(true, 0), (true, 1), (true, 2), (true, 3), (true, 4), (true, 5), (true, 6), (true, 7), (true, 8), (true, 9)] [] mixA rfl (by kernel_rfl) (by kernel_rfl) rfl rfl ?_
  simp -implicitDefEqProofs (disch := first | omega | decide) only [seval, -Int.reducePow, -Nat.reducePow, cC, pv, binv, sMake1, undef, g1]
  refine hK _ _ ?_
  clear hK K
  refine cv_cut (fun _ _ => True) (fun F' L' => F' 0 = G1 0 ∧ F' 1 = G1 1 ∧ F' 5 = .int .i64 ((l.getD i 0 : Nat) : Int) ∧ L' = [tpBox b A n c i]) ?_ ?_
  · refine cv_cond ?_
    simp -implicitDefEqProofs (disch := first | omega | decide) only [seval, -Int.reducePow, -Nat.reducePow, cC, pv, binv, sMake1, undef, g1]
    refine ⟨fun hc => ?_, fun hc => ?_⟩
    · have hlt : i < n := by have := of_decide_eq_true hc; omega
      obtain ⟨b0, off, rfl, hb0, -⟩ := hE.cells (by omega)
      obtain ⟨x, hx⟩ := some_of (l := l) (i := i) (by omega)
      have hxb := hl x (List.mem_of_getElem? hx)
      have hbb : b ≠ b0 := fun e => ha (by omega) b0 off rfl (by simp [e])
      rw [getD_of hx]
      refine cv_q ?_
      refine cv_draw [(true, 0), (true, 1), (true, 2), (true, 3), (true, 4), (true, 5), (true, 6), (true, 7), (true, 8), (true, 9), (true, 10), (true, 11)] [] mixA rfl (by kernel_rfl) (by kernel_rfl) rfl rfl ?_
      simp -implicitDefEqProofs (disch := first | omega | decide) only [seval, -Int.reducePow, -Nat.reducePow, cC, pv, binv, sMake1, undef, g1]
      refine ⟨_, hE.ld1M (m := 1) (ha (by omega)) (by kernel_rfl) (u16_get hx), fun tok htok => ?_⟩
      subst htok
      simp -implicitDefEqProofs (disch := first | omega | decide) only [seval, -Int.reducePow, -Nat.reducePow, cC, pv, binv, sMake1, undef, wrap_in, g1]
    · have hge : ¬ i < n := by have := of_decide_eq_false hc; omega
      rw [List.getD_eq_getElem?_getD, List.getElem?_eq_none (by omega)]
      refine cv_skip ?_
      try simp only [blockQ, thenQ]
      simp -implicitDefEqProofs (disch := first | omega | decide) only [seval, -Int.reducePow, -Nat.reducePow, cC, pv, binv, sMake1, undef, g1]
      all_goals (first | (simp; done) | (simp; omega))
  · intro G2 L' _ hF
    obtain ⟨q0, q1, q5, rfl⟩ := hF
    have g2_0 := q0.trans g1_0
    have g2_1 := q1.trans g1_1
    have g2_5 := q5
    clear q0 q1 q5
    have g2 := And.intro g2_0 (And.intro g2_1 g2_5)
    refine hK _ _ ?_
    clear hK K
    have hv : ((l.getD i 0 : Nat) : Int) % (m : Int) = (nextF l i m : Int) := by unfold nextF; rw [Int.natCast_emod]
    have h16 := hx16 i
    refine cv_seq_k fun K hK => ?_
    refine cv_region_then rfl ?_
    simp -implicitDefEqProofs (disch := first | omega | decide) only [seval, -Int.reducePow, -Nat.reducePow, cC, pv, binv, sMake1, undef, wrap_in, g2]
    refine hK _ _ ?_
    clear hK K
    refine cv_seq_k fun K hK => ?_
    refine cv_region_then rfl ?_
    simp -implicitDefEqProofs (disch := first | omega | decide) only [seval, -Int.reducePow, -Nat.reducePow, cC, pv, binv, sMake1, undef, hv, g2]
    refine hK _ _ ?_
    clear hK K
    refine cv_ret ⟨_, (by simp -implicitDefEqProofs (disch := first | omega | decide) only [seval, -Int.reducePow, -Nat.reducePow, cC, pv, binv, sMake1, undef, g2]; rfl), fun w hw => ?_⟩
    exact ⟨rfl, hw.holds _ (.head _), hw.pres⟩
set_option maxHeartbeats 1000000 in
theorem field_anyN (b : Nat) (A : Option Addr) (n c : Nat) (l : List Nat) (i : Nat) (W : World) (hW : W.heap[b]? = some (.cells (tape A n c i).toArray 57 (0, 0))) (hE : Sl W W.heap.size 1 A n c (u16c l)) (ha : 0 < n → Apt A [b]) (hl : ∀ x ∈ l, x < 65536) (hi : i ≤ 900000) :
    Calls Tryz.prog 48 #[.pointer (some ⟨b, 0, none⟩)] W (modP b 57 (fdV (fieldF l i).1) (tape A n c (fieldF l i).2) W) := by
  have h6 := nextF_lt (l := l) (i := i) (m := 6) (by omega)
  have h9 := nextF_lt (l := l) (i := i + 1) (m := 9) (by omega)
  have e6 : (1 : Int) + ((nextF l i 6 : Nat) : Int) = ((1 + nextF l i 6 : Nat) : Int) := by omega
  have e9 : (1 : Int) + ((nextF l (i + 1) 9 : Nat) : Int) = ((1 + nextF l (i + 1) 9 : Nat) : Int) := by omega
  refine calls_cv2 (M := [b]) (n := 16) [.cell 2 89] rfl Tryz.func48 rfl rfl (Nat.le_of_ble_eq_true rfl)  (St.one hW) ?_
  refine cv_seq_k fun K hK => ?_
  refine cv_region_then rfl ?_
  simp -implicitDefEqProofs (disch := first | omega | decide) only [seval, -Int.reducePow, -Nat.reducePow, cC, pv, binv, sMake1, undef]
  intro b2 hb2 h2
  refine hK _ _ ?_
  clear hK K
  refine cv_seq_k fun K hK => ?_
  refine cv_region_then rfl ?_
  simp -implicitDefEqProofs (disch := first | omega | decide) only [seval, -Int.reducePow, -Nat.reducePow, cC, pv, binv, sMake1, undef]
  refine callV_mod1 1 (fun w hw => next_anyN b A n c l i 6 w (hw.hold 1 rfl) (hE.atM' hw ha) ha hl (by omega) (by omega)) rfl ?_
  try simp -implicitDefEqProofs (disch := first | omega | decide) only [seval, -Int.reducePow, -Nat.reducePow, cC, pv, binv, sMake1, undef]
  simp -implicitDefEqProofs (disch := first | omega | decide) only [seval, -Int.reducePow, -Nat.reducePow, cC, pv, binv, sMake1, undef, e6, wrap_in]
  intro b3 hb3 h3
  refine hK _ _ ?_
  clear hK K
  refine cv_gen fun G3 hG => ?_
  have g3_0 := congrFun hG 0
  have g3_2 := congrFun hG 2
  have g3_3 := congrFun hG 3
  clear hG
  try simp -implicitDefEqProofs (disch := first | omega | decide) only [seval, -Int.reducePow, -Nat.reducePow, cC, pv, binv, sMake1, undef] at g3_0 g3_2 g3_3
  have g3 := And.intro g3_0 (And.intro g3_2 g3_3)
  refine cv_seq_k fun K hK => ?_
  refine cv_seq_k fun K hK => ?_
  refine cv_region_then rfl ?_
  simp -implicitDefEqProofs (disch := first | omega | decide) only [seval, -Int.reducePow, -Nat.reducePow, cC, pv, binv, sMake1, undef, g3]
  refine hK _ _ ?_
  clear hK K
  refine cv_cut (fun _ _ => True) (fun F' L' => F' 2 = G3 2 ∧ F' 3 = G3 3 ∧ L' = [fBox b3 (fieldF l i).1, fBox b2 ⟨0, 0⟩, tpBox b A n c (fieldF l i).2]) ?_ ?_
  · refine cv_cond ?_
    simp -implicitDefEqProofs (disch := first | omega | decide) only [seval, -Int.reducePow, -Nat.reducePow, cC, pv, binv, sMake1, undef, g3]
    refine ⟨fun hc => ?_, fun hc => ?_⟩
    · have hk : 1 + nextF l i 6 = 6 := by have := of_decide_eq_true hc; omega
      have hF : fieldF l i = (⟨6, ((1 + nextF l (i + 1) 9 : Nat) : Int)⟩, i + 2) := by unfold fieldF; rw [if_pos hk]
      rw [hF, hk]
      refine cv_region_q rfl ?_
      simp -implicitDefEqProofs (disch := first | omega | decide) only [seval, -Int.reducePow, -Nat.reducePow, cC, pv, binv, sMake1, undef, g3]
      refine callV_mod1 2 (fun w hw => next_anyN b A n c l (i + 1) 9 w (hw.hold 2 rfl) (hE.atM' hw ha) ha hl (by omega) (by omega)) rfl ?_
      try simp -implicitDefEqProofs (disch := first | omega | decide) only [seval, -Int.reducePow, -Nat.reducePow, cC, pv, binv, sMake1, undef, g3]
      simp -implicitDefEqProofs (disch := first | omega | decide) only [seval, -Int.reducePow, -Nat.reducePow, cC, pv, binv, sMake1, undef, e9, wrap_in, g3]
      all_goals (first | (simp; done) | (simp; omega))
    · have hk : ¬ 1 + nextF l i 6 = 6 := by have := of_decide_eq_false hc; omega
      have hF : fieldF l i = (⟨((1 + nextF l i 6 : Nat) : Int), 0⟩, i + 1) := by unfold fieldF; rw [if_neg hk]
      rw [hF]
      refine cv_skip ?_
      try simp only [blockQ, thenQ]
      simp -implicitDefEqProofs (disch := first | omega | decide) only [seval, -Int.reducePow, -Nat.reducePow, cC, pv, binv, sMake1, undef, g3]
      all_goals (first | (simp; done) | (simp; omega))
  · intro G4 L' _ hF
    obtain ⟨q2, q3, rfl⟩ := hF
    have g4_2 := q2.trans g3_2
    have g4_3 := q3.trans g3_3
    clear q2 q3
    have g4 := And.intro g4_2 g4_3
    refine hK _ _ ?_
    clear hK K
    refine cv_seq_k fun K hK => ?_
    refine cv_region_then rfl ?_
    simp -implicitDefEqProofs (disch := first | omega | decide) only [seval, -Int.reducePow, -Nat.reducePow, cC, pv, binv, sMake1, undef, g4]
    refine hK _ _ ?_
    clear hK K
    refine cv_ret ?_
    simp -implicitDefEqProofs (disch := first | omega | decide) only [seval, -Int.reducePow, -Nat.reducePow, cC, pv, binv, sMake1, undef, retQ2, ressV, packV, g4]
    intro w hw
    exact ⟨rfl, hw.hold 2 rfl, hw.pres⟩
set_option maxHeartbeats 2000000 in
theorem type_anyN (b : Nat) (A : Option Addr) (n c : Nat) (l : List Nat) (i : Nat) (W : World) (hW : W.heap[b]? = some (.cells (tape A n c i).toArray 57 (0, 0))) (hE : Sl W W.heap.size 1 A n c (u16c l)) (ha : 0 < n → Apt A [b]) (hl : ∀ x ∈ l, x < 65536) (hi : i ≤ 800000) :
    Calls Tryz.prog 25 #[.pointer (some ⟨b, 0, none⟩)] W (modRowP b 57 (tape A n c (typeF l i).2.2) 89 2 (fun v => .agg #[.int .i64 (typeF l i).1, v]) (cl fdc (typeF l i).2.1) W) := by
  have h5 := nextF_lt (l := l) (i := i + 1) (m := 5) (by omega)
  have h4 := nextF_lt (l := l) (i := i + 1) (m := 4) (by omega)
  have e5 : (1 : Int) + ((nextF l (i + 1) 5 : Nat) : Int) = ((1 + nextF l (i + 1) 5 : Nat) : Int) := by omega
  have e4 : (1 : Int) + ((nextF l (i + 1) 4 : Nat) : Int) = ((1 + nextF l (i + 1) 4 : Nat) : Int) := by omega
  refine calls_cv2 (M := [b]) (n := 31) [.cell 2 67] rfl Tryz.func25 rfl rfl (Nat.le_of_ble_eq_true rfl)  (St.one hW) ?_
  refine cv_seq_k fun K hK => ?_
  refine cv_region_then rfl ?_
  simp -implicitDefEqProofs (disch := first | omega | decide) only [seval, -Int.reducePow, -Nat.reducePow, cC, pv, binv, sMake1, undef]
  intro b2 hb2 h2
  refine hK _ _ ?_
  clear hK K
  refine cv_gen fun G5 hG => ?_
  have g5_0 := congrFun hG 0
  have g5_2 := congrFun hG 2
  clear hG
  try simp -implicitDefEqProofs (disch := first | omega | decide) only [seval, -Int.reducePow, -Nat.reducePow, cC, pv, binv, sMake1, undef] at g5_0 g5_2
  have g5 := And.intro g5_0 g5_2
  refine cv_seq_k fun K hK => ?_
  refine cv_seq_k fun K hK => ?_
  refine cv_region_then rfl ?_
  simp -implicitDefEqProofs (disch := first | omega | decide) only [seval, -Int.reducePow, -Nat.reducePow, cC, pv, binv, sMake1, undef, g5]
  refine callV_mod1 1 (fun w hw => next_anyN b A n c l i 4 w (hw.hold 1 rfl) (hE.atM' hw ha) ha hl (by omega) (by omega)) rfl ?_
  try simp -implicitDefEqProofs (disch := first | omega | decide) only [seval, -Int.reducePow, -Nat.reducePow, cC, pv, binv, sMake1, undef, g5]
  refine hK _ _ ?_
  clear hK K
  refine cv_cond ?_
  simp -implicitDefEqProofs (disch := first | omega | decide) only [seval, -Int.reducePow, -Nat.reducePow, cC, pv, binv, sMake1, undef, g5]
  refine ⟨fun hc => ?_, fun hc => ?_⟩
  · have hk : nextF l i 4 = 0 := by have := of_decide_eq_true hc; omega
    have hT : typeF l i = (((1 + nextF l (i + 1) 5 : Nat) : Int), [(fieldF l (i + 2)).1], (fieldF l (i + 2)).2) := by unfold typeF; rw [if_pos hk]
    rw [hT]
    refine cv_seq_k fun K hK => ?_
    refine cv_region_then rfl ?_
    simp -implicitDefEqProofs (disch := first | omega | decide) only [seval, -Int.reducePow, -Nat.reducePow, cC, pv, binv, sMake1, undef, g5]
    refine callV_mod1 1 (fun w hw => next_anyN b A n c l (i + 1) 5 w (hw.hold 1 rfl) (hE.atM' hw ha) ha hl (by omega) (by omega)) rfl ?_
    try simp -implicitDefEqProofs (disch := first | omega | decide) only [seval, -Int.reducePow, -Nat.reducePow, cC, pv, binv, sMake1, undef, g5]
    simp -implicitDefEqProofs (disch := first | omega | decide) only [seval, -Int.reducePow, -Nat.reducePow, cC, pv, binv, sMake1, undef, e5, wrap_in, g5]
    refine callV_mod1 1 (fun w hw => field_anyN b A n c l (i + 2) w (hw.hold 1 rfl) (hE.atM' hw ha) ha hl (by omega)) rfl ?_
    try simp -implicitDefEqProofs (disch := first | omega | decide) only [seval, -Int.reducePow, -Nat.reducePow, cC, pv, binv, sMake1, undef, g5]
    intro b5 hb5 h5
    simp -implicitDefEqProofs (disch := first | omega | decide) only [seval, -Int.reducePow, -Nat.reducePow, cC, pv, binv, sMake1, undef, g5]
    refine hK _ _ ?_
    clear hK K
    refine cv_ret ?_
    simp -implicitDefEqProofs (disch := first | omega | decide) only [seval, -Int.reducePow, -Nat.reducePow, cC, pv, binv, sMake1, undef, retQ2, ressV, packV, g5]
    intro w hw
    have hr := hw.blk_row (size := 2) (n := 1) rfl (by omega)
    exact ⟨some ⟨b5, 0, none⟩, 1, 1, rfl, hr.rowNew (by simp [Res.foot]), hw.hold 2 rfl, hw.pres⟩
  · have hk : ¬ nextF l i 4 = 0 := by have := of_decide_eq_false hc; omega
    have hT : typeF l i = (0, (fieldsF l (1 + nextF l (i + 1) 4) (i + 2)).1, (fieldsF l (1 + nextF l (i + 1) 4) (i + 2)).2) := by unfold typeF; rw [if_neg hk]
    rw [hT]
    refine cv_skip ?_
    try simp only [blockQ, thenQ]
    refine hK _ _ ?_
    clear hK K
    refine cv_seq_k fun K hK => ?_
    refine cv_region_then rfl ?_
    simp -implicitDefEqProofs (disch := first | omega | decide) only [seval, -Int.reducePow, -Nat.reducePow, cC, pv, binv, sMake1, undef, g5]
    intro b3 hb3 h3
    refine hK _ _ ?_
    clear hK K
    refine cv_seq_k fun K hK => ?_
    refine cv_seq_k fun K hK => ?_
    refine cv_region_then rfl ?_
    simp -implicitDefEqProofs (disch := first | omega | decide) only [seval, -Int.reducePow, -Nat.reducePow, cC, pv, binv, sMake1, undef, g5]
    refine callV_mod1 2 (fun w hw => next_anyN b A n c l (i + 1) 4 w (hw.hold 2 rfl) (hE.atM' hw ha) ha hl (by omega) (by omega)) rfl ?_
    try simp -implicitDefEqProofs (disch := first | omega | decide) only [seval, -Int.reducePow, -Nat.reducePow, cC, pv, binv, sMake1, undef, g5]
    simp -implicitDefEqProofs (disch := first | omega | decide) only [seval, -Int.reducePow, -Nat.reducePow, cC, pv, binv, sMake1, undef, e4, wrap_in, g5]
    refine hK _ _ ?_
    clear hK K
    refine cv_gen fun G6 hG => ?_
    have g6_0 := congrFun hG 0
    have g6_2 := congrFun hG 2
    have g6_3 := congrFun hG 3
    have g6_4 := congrFun hG 4
    clear hG
    try simp -implicitDefEqProofs (disch := first | omega | decide) only [seval, -Int.reducePow, -Nat.reducePow, cC, pv, binv, sMake1, undef, g5] at g6_0 g6_2 g6_3 g6_4
    have g6 := And.intro g6_0 (And.intro g6_2 (And.intro g6_3 g6_4))
    refine cv_block ?_
    refine cv_nil 89 2 ?_
    refine cv_loop (fun F' L' => ∃ (y j : Nat) (A6 : Option Addr) (n6 c6 : Nat) (gs : List Fd), F' 0 = G6 0 ∧ F' 2 = G6 2 ∧ F' 3 = G6 3 ∧ F' 4 = .int .i64 (y : Int) ∧ L' = [.row (.slice A6 n6 c6) 89 2 n6 (cl fdc gs), tBox b3 0 A6 n6 c6, tBox b2 0 none 0 0, tpBox b A n c j] ∧ y ≤ 4 ∧ n6 + y ≤ 4 ∧ j + 2 * y ≤ i + 10 ∧ (gs ++ (fieldsF l y j).1, (fieldsF l y j).2) = fieldsF l (1 + nextF l (i + 1) 4) (i + 2)) (fun F' L' => (intOf (F' 4)).toNat) ?_ ?_
    · refine ⟨1 + nextF l (i + 1) 4, i + 2, none, 0, 0, [], ?_⟩
      simp -implicitDefEqProofs (disch := first | omega | decide) only [seval, -Int.reducePow, -Nat.reducePow, cC, pv, binv, sMake1, undef, g6]
      exact ⟨rfl, by omega, by omega, by omega⟩
    · intro G7 L' hI
      obtain ⟨y, j, A6, n6, c6, gs, q0, q2, q3, q4, rfl, ⟨hy, h6, hj, hF⟩⟩ := hI
      have g7_0 := q0.trans g6_0
      have g7_2 := q2.trans g6_2
      have g7_3 := q3.trans g6_3
      have g7_4 := q4
      clear q0 q2 q3 q4
      have g7 := And.intro g7_0 (And.intro g7_2 (And.intro g7_3 g7_4))
      refine cv_seq_k fun K hK => ?_
      refine cv_seq_k fun K hK => ?_
      refine cv_region_then rfl ?_
      simp -implicitDefEqProofs (disch := first | omega | decide) only [seval, -Int.reducePow, -Nat.reducePow, cC, pv, binv, sMake1, undef, g6, g7]
      refine hK _ _ ?_
      clear hK K
      refine cv_cond ?_
      simp -implicitDefEqProofs (disch := first | omega | decide) only [seval, -Int.reducePow, -Nat.reducePow, cC, pv, binv, sMake1, undef, g6, g7]
      refine ⟨fun hc => ?_, fun hc => ?_⟩
      · refine cv_skip ?_
        try simp only [blockQ, thenQ]
        obtain ⟨z, rfl⟩ : ∃ z, y = z + 1 := ⟨y - 1, by have := of_decide_eq_true hc; omega⟩
        rw [fieldsF_snoc] at hF
        have hfo := fieldF_ok l j
        refine hK _ _ ?_
        clear hK K
        refine cv_seq_k fun K hK => ?_
        refine cv_block ?_
        refine cv_q ?_
        refine cv_draw_of (pickL [1] _) (fun w hw => hw.pick (by decide)) (by simp only [pickL, nth, suf_cons, suf_nil, List.mem_cons, true_or, or_true, and_true, eq_self]) [(true, 0), (true, 1), (true, 2), (false, 3), (false, 4), (false, 5), (true, 6), (false, 7)] [7] mixA rfl (by kernel_rfl) (by kernel_rfl) rfl rfl ?_
        simp -implicitDefEqProofs (disch := first | omega | decide) only [seval, -Int.reducePow, -Nat.reducePow, cC, pv, binv, sMake1, undef, g6, g7]
        refine callV_mod1 3 (fun w hw => field_anyN b A n c l j w (hw.hold 3 rfl) (hE.atM' hw ha) ha hl (by omega)) rfl ?_
        try simp -implicitDefEqProofs (disch := first | omega | decide) only [seval, -Int.reducePow, -Nat.reducePow, cC, pv, binv, sMake1, undef, g6, g7]
        intro b5 hb5 h5
        refine appV_at 1 tap65 rfl (fun w hw => src_blk (size := 2) (.head _) rfl hw) rfl (by omega) (by omega) ?_
        intro A' c' hl' hr'
        simp -implicitDefEqProofs (disch := first | omega | decide) only [seval, -Int.reducePow, -Nat.reducePow, cC, pv, binv, sMake1, undef, g6, g7]
        refine hK _ _ ?_
        clear hK K
        refine cv_pick [0, 2, 3, 4] (by decide) ?_
        simp only [pickL, nth]
        refine cv_region_then rfl ?_
        simp -implicitDefEqProofs (disch := first | omega | decide) only [seval, -Int.reducePow, -Nat.reducePow, cC, pv, binv, sMake1, undef, wrap_in, g6, g7]
        refine ⟨⟨z, (fieldF l j).2, A', n6 + 1, c', gs ++ [(fieldF l j).1], ?_⟩, ?_⟩
        · simp -implicitDefEqProofs (disch := first | omega | decide) only [seval, -Int.reducePow, -Nat.reducePow, cC, pv, binv, sMake1, undef, Int.natCast_add, cl_snoc, fdc, g6, g7]
          exact ⟨congrArg _ (by omega), by omega, by omega, by omega, hF⟩
        · simp only [intOf]; omega
      · refine cv_exit ?_
        simp only [blockQ, thenQ, if_true, ite_true]
        clear hK K
        refine hK _ _ ?_
        clear hK K
        obtain rfl : y = 0 := by have := of_decide_eq_false hc; omega
        simp only [fieldsF, List.append_nil] at hF
        rw [hT, ← hF]
        refine cv_seq_k fun K hK => ?_
        refine cv_region_then rfl ?_
        simp -implicitDefEqProofs (disch := first | omega | decide) only [seval, -Int.reducePow, -Nat.reducePow, cC, pv, binv, sMake1, undef, g6, g7]
        refine hK _ _ ?_
        clear hK K
        refine cv_ret ?_
        simp -implicitDefEqProofs (disch := first | omega | decide) only [seval, -Int.reducePow, -Nat.reducePow, cC, pv, binv, sMake1, undef, retQ2, ressV, packV, g6, g7]
        intro w hw
        exact ⟨A6, n6, c6, rfl, hw.rowNew (by simp [Res.foot]), hw.hold 3 rfl, hw.pres⟩
set_option maxHeartbeats 1000000 in
theorem of_any (A : Option Addr) (n c : Nat) (l : List Nat) (m : Nat) (W : World) (hE : Sl W W.heap.size 1 A n c (u16c l)) (hm : m ≤ 100000) :
    Calls Tryz.prog 7 #[.slice A n c, .int .i64 (m : Int)] W (boxRowP 57 (fun v => [v, .int .i64 0]) 24 1 (u16c (l.take m)) W) := by
  have hln : l.length = n := u16_row hE.len
  have hcap := hE.cap
  have hmax := hE.max
  refine calls_cv (M := []) (n := 17) [.tmp 4] rfl Tryz.func7 rfl rfl (Nat.le_of_ble_eq_true rfl) (St.nil _ _) ?_
  refine cv_seq_k fun K hK => ?_
  refine cv_region_then rfl ?_
  simp -implicitDefEqProofs (disch := first | omega | decide) only [seval, -Int.reducePow, -Nat.reducePow, cC, pv, binv, sMake1, undef]
  refine hK _ _ ?_
  clear hK K
  refine cv_gen fun G8 hG => ?_
  have g8_0 := congrFun hG 0
  have g8_1 := congrFun hG 1
  clear hG
  try simp -implicitDefEqProofs (disch := first | omega | decide) only [seval, -Int.reducePow, -Nat.reducePow, cC, pv, binv, sMake1, undef] at g8_0 g8_1
  have g8 := And.intro g8_0 g8_1
  refine cv_seq_k fun K hK => ?_
  refine cv_seq_k fun K hK => ?_
  refine cv_region_then rfl ?_
  simp -implicitDefEqProofs (disch := first | omega | decide) only [seval, -Int.reducePow, -Nat.reducePow, cC, pv, binv, sMake1, undef, g8]
  refine hK _ _ ?_
  clear hK K
  refine cv_cut (fun _ _ => True) (fun F' L' => F' 0 = .slice A (min n m) c ∧ L' = []) ?_ ?_
  · refine cv_cond ?_
    simp -implicitDefEqProofs (disch := first | omega | decide) only [seval, -Int.reducePow, -Nat.reducePow, cC, pv, binv, sMake1, undef, g8]
    refine ⟨fun hc => ?_, fun hc => ?_⟩
    · have hlt : m < n := by have := of_decide_eq_true hc; omega
      rw [Nat.min_eq_right (by omega)]
      refine cv_region_q rfl ?_
      simp -implicitDefEqProofs (disch := first | omega | decide) only [seval, -Int.reducePow, -Nat.reducePow, cC, pv, binv, sMake1, undef, g8]
    · have hge : ¬ m < n := by have := of_decide_eq_false hc; omega
      rw [Nat.min_eq_left (by omega)]
      refine cv_skip ?_
      try simp only [blockQ, thenQ]
      simp -implicitDefEqProofs (disch := first | omega | decide) only [seval, -Int.reducePow, -Nat.reducePow, cC, pv, binv, sMake1, undef, g8]
  · intro G9 L' _ hF
    obtain ⟨q0, rfl⟩ := hF
    have g9_0 := q0
    clear q0
    have g9 := g9_0
    refine hK _ _ ?_
    clear hK K
    have hE2 : Sl W W.heap.size 1 A (min n m) c (u16c (l.take m)) := by
      have := hE.utake (k := min n m) (by omega)
      rwa [show l.take (min n m) = l.take m by rw [← hln, Nat.min_comm, ← List.take_take, List.take_length]] at this
    refine cv_seq_k fun K hK => ?_
    refine cv_region_then rfl ?_
    simp -implicitDefEqProofs (disch := first | omega | decide) only [seval, -Int.reducePow, -Nat.reducePow, cC, pv, binv, sMake1, undef, g9]
    intro b5 hb5
    refine appV_lit 0 tap23 rfl rfl (fun w hw => (hE2.at hw).reads) (ones_u16 _) (by omega) (by omega) ?_
    intro A' c' hl' _
    simp -implicitDefEqProofs (disch := first | omega | decide) only [seval, -Int.reducePow, -Nat.reducePow, cC, pv, binv, sMake1, undef, g9]
    intro b6 hb6
    refine hK _ _ ?_
    clear hK K
    refine cv_ret ⟨_, (by simp -implicitDefEqProofs (disch := first | omega | decide) only [seval, -Int.reducePow, -Nat.reducePow, cC, pv, binv, sMake1, undef, g9]; rfl), fun w hw => ?_⟩
    exact hw.boxRow (us := fun v => [v, .int .i64 0])
end Go.Proofs.YtlbmnioibiomfaaGreat
/- Encodings of types: plain. -/
namespace Go.Proofs.YtlbmnioibiomfaaGreat
open Go.RowKit Go.Shelf
set_option linter.unusedVariables false
set_option linter.unusedSimpArgs false
def encFd (f : Fd) : List Nat := putU f.kind.toNat ++ putU f.count.toNat
def encB (len : Int) (fs : List Fd) : List Nat := putU len.toNat ++ putU fs.length ++ fs.flatMap encFd
def encT (len : Int) (fs : List Fd) : List Nat := if chk len fs = 0 then encB len fs else []
theorem putU_le3 {n : Nat} (h : n ≤ 65536) : (putU n).length ≤ 3 := putU_len 2 n (by rw [show (128 : Nat) ^ (2 + 1) = 2097152 by decide]; omega)
theorem encFd_len {f : Fd} (h : f.err = 0) : (encFd f).length ≤ 6 := by
  have := Fd.err_zero h
  have h1 := putU_le3 (n := f.kind.toNat) (by omega)
  have h2 := putU_le3 (n := f.count.toNat) (by omega)
  unfold encFd
  rw [List.length_append]
  omega
theorem flat_len : ∀ {fs : List Fd}, okFs fs → (fs.flatMap encFd).length ≤ 6 * fs.length
  | [], _ => by simp
  | f :: r, h => by
    have h1 := encFd_len (h f (by simp))
    have h2 := flat_len (fs := r) fun x hx => h x (by simp [hx])
    rw [List.flatMap_cons, List.length_append, List.length_cons]
    omega
theorem encB_len {len : Int} {fs : List Fd} (h : chk len fs = 0) : (encB len fs).length ≤ 198 ∧ 2 ≤ (encB len fs).length := by
  obtain ⟨h1, h2, h3, h4, h5, h6, h7⟩ := chk_zero h
  have q1 := putU_le3 (n := len.toNat) (by omega)
  have q2 := putU_le3 (n := fs.length) (by omega)
  have q3 := flat_len h6
  have q4 := putU_pos len.toNat
  have q5 := putU_pos fs.length
  unfold encB
  rw [List.length_append, List.length_append]
  omega
theorem encFd_byte (f : Fd) : ∀ x ∈ encFd f, x < 256 := fun x hx => by
  rcases List.mem_append.1 hx with h | h
  · exact putU_byte _ x h
  · exact putU_byte _ x h
theorem encB_byte (len : Int) (fs : List Fd) : ∀ x ∈ encB len fs, x < 256 := fun x hx => by
  unfold encB at hx
  rcases List.mem_append.1 hx with h | h
  · rcases List.mem_append.1 h with h | h
    · exact putU_byte _ x h
    · exact putU_byte _ x h
  · obtain ⟨f, _, hf⟩ := List.mem_flatMap.1 h
    exact encFd_byte f x hf
theorem flat_take {fs : List Fd} {k : Nat} {x : Fd} (h : fs[k]? = some x) : (fs.take (k + 1)).flatMap encFd = (fs.take k).flatMap encFd ++ putU x.kind.toNat ++ putU x.count.toNat := by
  obtain ⟨hk, hf⟩ := List.getElem?_eq_some_iff.1 h
  rw [List.take_succ_eq_append_getElem hk, hf, List.flatMap_append]
  simp [encFd]
theorem u64_toNat {x : Int} (h0 : 0 ≤ x) (h1 : x ≤ 9223372036854775807) : IntKind.u64.wrap x = (x.toNat : Int) := by rw [IntKind.wrap_u64]; omega
end Go.Proofs.YtlbmnioibiomfaaGreat
/- Encode and EncodeType; the sanity check. -/
namespace Go.Proofs.YtlbmnioibiomfaaGreat
open Go.RowKit Go.Shelf
set_option linter.unusedVariables false
set_option linter.unusedSimpArgs false
set_option maxRecDepth 100000
end Go.Proofs.YtlbmnioibiomfaaGreat
/- wire's numbers: PutUint, in both packages. -/
namespace Go.Proofs.YtlbmnioibiomfaaGreat
open Go.RowKit Go.Shelf
set_option linter.unusedVariables false
set_option linter.unusedSimpArgs false
set_option maxRecDepth 100000

end Go.Proofs.YtlbmnioibiomfaaGreat
/- wire's numbers: Uint, in both packages. -/
namespace Go.Proofs.YtlbmnioibiomfaaGreat
open Go.RowKit Go.Shelf
set_option linter.unusedVariables false
set_option linter.unusedSimpArgs false
set_option maxRecDepth 100000

set_option maxHeartbeats 2000000 in
theorem uint_any (A : Option Addr) (n c : Nat) (l : List Nat) (W : World) (hE : Sl W W.heap.size 1 A n c (byt l)) (hb : ∀ x ∈ l, x < 256) :
    Calls Tryz.prog 93 #[.slice A n c] W fun e w' => e = .returned (uV (uD 0 l)) ∧ Below W.heap.size W w' := by
  have hln : l.length = n := byt_row hE.len
  have hcap := hE.cap
  have hmax := hE.max
  refine calls_cv (M := []) (n := 47) [.tmp 2, .tmp 3, .tmp 4] rfl Tryz.func93 rfl rfl (Nat.le_of_ble_eq_true rfl) (St.nil _ _) ?_
  refine cv_seq_k fun K hK => ?_
  refine cv_region_then rfl ?_
  simp -implicitDefEqProofs (disch := first | omega | decide) only [seval, -Int.reducePow, -Nat.reducePow, cC, pv, binv, Nat.mul_one, undef]
  refine hK _ _ ?_
  clear hK K
  refine cv_seq_k fun K hK => ?_
  refine cv_region_then rfl ?_
  simp -implicitDefEqProofs (disch := first | omega | decide) only [seval, -Int.reducePow, -Nat.reducePow, cC, pv, binv, Nat.mul_one, undef]
  refine hK _ _ ?_
  clear hK K
  have hm : min (n : Int) 10 = ((min n 10 : Nat) : Int) := by omega
  refine cv_seq_k fun K hK => ?_
  refine cv_seq_k fun K hK => ?_
  refine cv_region_then rfl ?_
  simp -implicitDefEqProofs (disch := first | omega | decide) only [seval, -Int.reducePow, -Nat.reducePow, cC, pv, binv, Nat.mul_one, undef, hm]
  refine hK _ _ ?_
  clear hK K
  refine cv_gen fun G1 hG => ?_
  have g1_5 := congrFun hG 5
  have g1_12 := congrFun hG 12
  have g1_13 := congrFun hG 13
  have g1_14 := congrFun hG 14
  clear hG
  try simp -implicitDefEqProofs (disch := first | omega | decide) only [seval, -Int.reducePow, -Nat.reducePow, cC, pv, binv, Nat.mul_one, undef] at g1_5 g1_12 g1_13 g1_14
  have g1 := And.intro g1_5 (And.intro g1_12 (And.intro g1_13 g1_14))
  refine cv_block ?_
  refine cv_loop (fun F' L' => ∃ (i v : Nat), F' 5 = .int .u64 (v : Int) ∧ F' 12 = G1 12 ∧ F' 13 = G1 13 ∧ F' 14 = .int .i64 (i : Int) ∧ L' = [] ∧ i ≤ 9 ∧ v < 128 ^ i ∧ fin i v (uD i (l.drop i)) = uD 0 l) (fun F' L' => 10 - (intOf (F' 14)).toNat) ?_ ?_
  · refine ⟨0, 0, ?_⟩
    simp -implicitDefEqProofs (disch := first | omega | decide) only [seval, -Int.reducePow, -Nat.reducePow, cC, pv, binv, Nat.mul_one, undef, g1]
    exact ⟨by decide, fin_zero hb⟩
  · intro G2 L' hI
    obtain ⟨i, v, q5, q12, q13, q14, rfl, ⟨hi, hv, hU⟩⟩ := hI
    have g2_5 := q5
    have g2_12 := q12.trans g1_12
    have g2_13 := q13.trans g1_13
    have g2_14 := q14
    clear q5 q12 q13 q14
    have g2 := And.intro g2_5 (And.intro g2_12 (And.intro g2_13 g2_14))
    refine cv_seq_k fun K hK => ?_
    refine cv_region_then rfl ?_
    simp -implicitDefEqProofs (disch := first | omega | decide) only [seval, -Int.reducePow, -Nat.reducePow, cC, pv, binv, Nat.mul_one, undef, g1, g2]
    refine hK _ _ ?_
    clear hK K
    refine cv_seq_k fun K hK => ?_
    refine cv_cond ?_
    simp -implicitDefEqProofs (disch := first | omega | decide) only [seval, -Int.reducePow, -Nat.reducePow, cC, pv, binv, Nat.mul_one, undef, g1, g2]
    refine ⟨fun hc => ?_, fun hc => ?_⟩
    · refine cv_skip ?_
      try simp only [blockQ, thenQ]
      have hlt : i < n := by simp at hc; omega
      obtain ⟨b0, off, rfl, hb0, -⟩ := hE.cells (by omega)
      obtain ⟨x, hx⟩ := some_at (l := l) (i := i) (by omega)
      have hxb := hb x (List.mem_of_getElem? hx)
      rw [drop_at hx] at hU
      refine hK _ _ ?_
      clear hK K
      refine cv_seq_k fun K hK => ?_
      refine cv_block ?_
      refine cv_seq_k fun K hK => ?_
      refine cv_region_then rfl ?_
      simp -implicitDefEqProofs (disch := first | omega | decide) only [seval, -Int.reducePow, -Nat.reducePow, cC, pv, binv, Nat.mul_one, undef, g1, g2]
      refine ⟨_, hE.ld1 (m := 1) (by kernel_rfl) (byt_get hx), fun tok htok => ?_⟩
      subst htok
      simp -implicitDefEqProofs (disch := first | omega | decide) only [seval, -Int.reducePow, -Nat.reducePow, cC, pv, binv, Nat.mul_one, undef, g1, g2]
      refine hK _ _ ?_
      clear hK K
      refine cv_gen fun G3 hG => ?_
      have g3_5 := congrFun hG 5
      have g3_6 := congrFun hG 6
      have g3_7 := congrFun hG 7
      have g3_12 := congrFun hG 12
      have g3_13 := congrFun hG 13
      have g3_14 := congrFun hG 14
      clear hG
      try simp -implicitDefEqProofs (disch := first | omega | decide) only [seval, -Int.reducePow, -Nat.reducePow, cC, pv, binv, Nat.mul_one, undef, g1, g2] at g3_5 g3_6 g3_7 g3_12 g3_13 g3_14
      have g3 := And.intro g3_5 (And.intro g3_6 (And.intro g3_7 (And.intro g3_12 (And.intro g3_13 g3_14))))
      refine cv_seq_k fun K hK => ?_
      refine cv_seq_k fun K hK => ?_
      refine cv_cut (fun _ _ => True) (fun F' L' => F' 5 = G3 5 ∧ F' 6 = G3 6 ∧ F' 7 = G3 7 ∧ F' 12 = G3 12 ∧ F' 13 = G3 13 ∧ F' 14 = G3 14 ∧ F' 32 = .bool (decide ((i = 9 ∧ 1 < x) ∨ (0 < i ∧ x = 0))) ∧ L' = []) ?_ ?_
      · refine cv_region_then rfl ?_
        simp -implicitDefEqProofs (disch := first | omega | decide) only [seval, -Int.reducePow, -Nat.reducePow, cC, pv, binv, Nat.mul_one, undef, g1, g2, g3]
        repeat' ((first | refine vcg_cases (fun hg => ?_) (fun hg => ?_) | refine vdg_cases (fun hg => ?_) (fun hg => ?_)) <;> ((try simp only [Bool.not_eq_true', Bool.not_eq_false', decide_eq_true_eq, decide_eq_false_iff_not] at hg); (try simp -implicitDefEqProofs (disch := first | omega | decide) only [seval, -Int.reducePow, -Nat.reducePow, cC, pv, binv, Nat.mul_one, undef, hg, g1, g2, g3])))
        all_goals (repeat' refine And.intro ?_ ?_)
        all_goals (first | with_reducible rfl | (refine congrArg Value.bool ?_; rw [Bool.eq_iff_iff]; (try simp only [decide_eq_true_eq, eq_self, true_and, and_true, false_and, and_false, true_or, or_true, false_or, or_false, not_true_eq_false, not_false_eq_true, true_iff, iff_true, false_iff, iff_false, Bool.false_eq_true, Bool.not_eq_true', Bool.not_eq_true, decide_eq_false_iff_not, Bool.and_eq_true, Bool.or_eq_true]) <;> omega) | (refine congrArg (Value.int _) ?_; omega) | omega)
      · intro G4 L' _ hF
        obtain ⟨q5, q6, q7, q12, q13, q14, q32, rfl⟩ := hF
        have g4_5 := q5.trans g3_5
        have g4_6 := q6.trans g3_6
        have g4_7 := q7.trans g3_7
        have g4_12 := q12.trans g3_12
        have g4_13 := q13.trans g3_13
        have g4_14 := q14.trans g3_14
        have g4_32 := q32
        clear q5 q6 q7 q12 q13 q14 q32
        have g4 := And.intro g4_5 (And.intro g4_6 (And.intro g4_7 (And.intro g4_12 (And.intro g4_13 (And.intro g4_14 g4_32)))))
        refine hK _ _ ?_
        clear hK K
        refine cv_cond ?_
        simp -implicitDefEqProofs (disch := first | omega | decide) only [seval, -Int.reducePow, -Nat.reducePow, cC, pv, binv, Nat.mul_one, undef, g1, g2, g4]
        refine ⟨fun hc => ?_, fun hc => ?_⟩
        · have hc := of_decide_eq_true hc
          refine cv_seq_k fun K hK => ?_
          refine cv_region_then rfl ?_
          simp -implicitDefEqProofs (disch := first | omega | decide) only [seval, -Int.reducePow, -Nat.reducePow, cC, pv, binv, Nat.mul_one, undef, g1, g2, g4]
          refine hK _ _ ?_
          clear hK K
          refine cv_ret ⟨_, (by simp -implicitDefEqProofs (disch := first | omega | decide) only [seval, -Int.reducePow, -Nat.reducePow, cC, pv, binv, Nat.mul_one, undef, g1, g2, g4]; rfl), fun w hw => ?_⟩
          rw [uD_form _ hc] at hU
          exact ⟨by rw [← hU]; rfl, hw.below⟩
        · have hq := of_decide_eq_false hc
          refine cv_skip ?_
          try simp only [blockQ, thenQ]
          refine hK _ _ ?_
          clear hK K
          have h1 := and127 hxb
          have h2 : IntKind.u64.wrap ((x % 128 : Nat) : Int) = ((x % 128 : Nat) : Int) := u64_in (by omega)
          have h3 : IntKind.i64.wrap (7 * (i : Int)) = ((7 * i : Nat) : Int) := by rw [wrap_in (by omega) (by omega)]; omega
          obtain ⟨h4, h5, h6⟩ := or_high (c := x % 128) hv (by omega) hi (by omega)
          refine cv_seq_k fun K hK => ?_
          refine cv_region_then rfl ?_
          simp -implicitDefEqProofs (disch := first | omega | decide) only [seval, -Int.reducePow, -Nat.reducePow, cC, pv, binv, Nat.mul_one, undef, h1, h2, h3, h4, h5, IntKind.bits, g1, g2, g4]
          refine hK _ _ ?_
          clear hK K
          refine cv_seq_k fun K hK => ?_
          refine cv_region_then rfl ?_
          simp -implicitDefEqProofs (disch := first | omega | decide) only [seval, -Int.reducePow, -Nat.reducePow, cC, pv, binv, Nat.mul_one, undef, g1, g2, g4]
          refine hK _ _ ?_
          clear hK K
          refine cv_cond ?_
          simp -implicitDefEqProofs (disch := first | omega | decide) only [seval, -Int.reducePow, -Nat.reducePow, cC, pv, binv, Nat.mul_one, undef, g1, g2, g4]
          refine ⟨fun hc => ?_, fun hc => ?_⟩
          · have hx1 : x < 128 := by simp at hc; omega
            refine cv_seq_k fun K hK => ?_
            refine cv_region_then rfl ?_
            simp -implicitDefEqProofs (disch := first | omega | decide) only [seval, -Int.reducePow, -Nat.reducePow, cC, pv, binv, Nat.mul_one, undef, wrap_in, g1, g2, g4]
            refine hK _ _ ?_
            clear hK K
            refine cv_ret ⟨_, (by simp -implicitDefEqProofs (disch := first | omega | decide) only [seval, -Int.reducePow, -Nat.reducePow, cC, pv, binv, Nat.mul_one, undef, g1, g2, g4]; rfl), fun w hw => ?_⟩
            rw [uD_last _ hq hx1] at hU
            refine ⟨?_, hw.below⟩
            rw [← hU, Nat.mod_eq_of_lt hx1, Nat.mul_comm]
            unfold fin uV
            simp
          · have hx1 : ¬ x < 128 := by simp at hc; omega
            refine cv_skip ?_
            try simp only [blockQ, thenQ]
            rw [fin_more _ hq hx1] at hU
            refine hK _ _ ?_
            clear hK K
            refine cv_region_then rfl ?_
            simp -implicitDefEqProofs (disch := first | omega | decide) only [seval, -Int.reducePow, -Nat.reducePow, cC, pv, binv, Nat.mul_one, undef, wrap_in, g1, g2, g4]
            refine ⟨⟨i + 1, v + x % 128 * 128 ^ i, ?_⟩, ?_⟩
            · simp -implicitDefEqProofs (disch := first | omega | decide) only [seval, -Int.reducePow, -Nat.reducePow, cC, pv, binv, Nat.mul_one, undef, Int.natCast_add, g1, g2, g4]
              refine ⟨by omega, ?_, hU⟩
              rw [Nat.pow_succ]
              have : x % 128 * 128 ^ i ≤ 127 * 128 ^ i := Nat.mul_le_mul_right _ (by omega)
              omega
            · simp only [intOf]; omega
    · refine cv_exit ?_
      simp only [blockQ, thenQ, if_true, ite_true]
      clear hK K
      refine hK _ _ ?_
      clear hK K
      have hge : l.length ≤ i := by simp at hc; omega
      rw [List.drop_of_length_le hge, uD_nil] at hU
      refine cv_seq_k fun K hK => ?_
      refine cv_region_then rfl ?_
      simp -implicitDefEqProofs (disch := first | omega | decide) only [seval, -Int.reducePow, -Nat.reducePow, cC, pv, binv, Nat.mul_one, undef, g1, g2]
      refine hK _ _ ?_
      clear hK K
      refine cv_ret ⟨_, (by simp -implicitDefEqProofs (disch := first | omega | decide) only [seval, -Int.reducePow, -Nat.reducePow, cC, pv, binv, Nat.mul_one, undef, g1, g2]; rfl), fun w hw => ?_⟩
      exact ⟨by rw [← hU]; rfl, hw.below⟩

end Go.Proofs.YtlbmnioibiomfaaGreat
/- Instructions: Encode, Decode. -/
namespace Go.Proofs.YtlbmnioibiomfaaGreat
open Go.RowKit Go.Shelf
set_option linter.unusedVariables false
set_option linter.unusedSimpArgs false
set_option maxRecDepth 100000
/-- The values of an instruction that was read. -/
def diV (r : Ins × Nat × Int) : Value := .tuple #[.agg #[.int .i64 r.1.op, .int .u64 (r.1.arg : Int)], .int .i64 (r.2.1 : Int), .int .i64 r.2.2]
set_option maxRecDepth 100000 in
theorem sInsE2 : type_of% (And.intro (And.intro @iBox.eq_1 @insV.eq_1) (And.intro @uV.eq_1 (And.intro @Nat.mul_one @diV.eq_1))) := (And.intro (And.intro @iBox.eq_1 @insV.eq_1) (And.intro @uV.eq_1 (And.intro @Nat.mul_one @diV.eq_1)))
set_option maxHeartbeats 1000000 in
theorem i_dec_any (A : Option Addr) (n c : Nat) (l : List Nat) (W : World) (hE : Sl W W.heap.size 1 A n c (byt l)) (hb : ∀ x ∈ l, x < 256) :
    Calls Tryz.prog 95 #[.slice A n c] W fun e w' => e = .returned (diV (decI l)) ∧ Below W.heap.size W w' := by
  have hln : l.length = n := byt_row hE.len
  have hcap := hE.cap
  have hmax := hE.max
  refine calls_cv2 (M := []) (n := 44) [.cell 2 39, .tmp 3, .tmp 4] rfl Tryz.func95 rfl rfl (Nat.le_of_ble_eq_true rfl) (St.nil _ _) ?_
  refine cv_seq_k fun K hK => ?_
  refine cv_region_then rfl ?_
  simp -implicitDefEqProofs (disch := first | omega | decide) only [seval, -Int.reducePow, -Nat.reducePow, cC, pv, binv, sInsE2, undef]
  intro b2 hb2
  refine hK _ _ ?_
  clear hK K
  refine cv_gen fun G1 hG => ?_
  have g1_0 := congrFun hG 0
  have g1_2 := congrFun hG 2
  clear hG
  try simp -implicitDefEqProofs (disch := first | omega | decide) only [seval, -Int.reducePow, -Nat.reducePow, cC, pv, binv, sInsE2, undef] at g1_0 g1_2
  have g1 := And.intro g1_0 g1_2
  refine cv_seq_k fun K hK => ?_
  refine cv_seq_k fun K hK => ?_
  refine cv_region_then rfl ?_
  simp -implicitDefEqProofs (disch := first | omega | decide) only [seval, -Int.reducePow, -Nat.reducePow, cC, pv, binv, sInsE2, undef, g1]
  refine hK _ _ ?_
  clear hK K
  refine cv_cond ?_
  simp -implicitDefEqProofs (disch := first | omega | decide) only [seval, -Int.reducePow, -Nat.reducePow, cC, pv, binv, sInsE2, undef, g1]
  refine ⟨fun hc => ?_, fun hc => ?_⟩
  · have hn : n = 0 := by have := of_decide_eq_true hc; omega
    have hl : l = [] := List.eq_nil_of_length_eq_zero (by omega)
    refine cv_seq_k fun K hK => ?_
    refine cv_region_then rfl ?_
    simp -implicitDefEqProofs (disch := first | omega | decide) only [seval, -Int.reducePow, -Nat.reducePow, cC, pv, binv, sInsE2, undef, g1]
    refine hK _ _ ?_
    clear hK K
    refine cv_ret ?_
    simp -implicitDefEqProofs (disch := first | omega | decide) only [seval, -Int.reducePow, -Nat.reducePow, cC, pv, binv, sInsE2, undef, retQ2, ressV, packV, g1]
    intro w hw
    rw [hl]
    exact ⟨rfl, hw.below⟩
  have hn : 0 < n := by have := of_decide_eq_false hc; omega
  obtain ⟨b0, off, rfl, hb0, -⟩ := hE.cells hn
  obtain ⟨x, r, rfl⟩ : ∃ x r, l = x :: r := by
    cases l with
    | nil => simp at hln; omega
    | cons x r => exact ⟨x, r, rfl⟩
  have hxb := hb x (by simp)
  have hbr : ∀ y ∈ r, y < 256 := fun y hy => hb y (by simp [hy])
  have hl0 := hE.ld1 (L := [.blk b2 39 [.int .i64 0, .int .u64 0]]) (P := Tryz.prog) (T := 5) (i := 0) (m := 1) (by kernel_rfl) (byt_get (x := x) rfl)
  rw [Nat.add_zero] at hl0
  refine cv_skip ?_
  try simp only [blockQ, thenQ]
  refine hK _ _ ?_
  clear hK K
  refine cv_seq_k fun K hK => ?_
  refine cv_region_then rfl ?_
  simp -implicitDefEqProofs (disch := first | omega | decide) only [seval, -Int.reducePow, -Nat.reducePow, cC, pv, binv, sInsE2, undef, Nat.zero_mul, g1]
  refine ⟨_, hl0, fun tok htok => ?_⟩
  subst htok
  simp -implicitDefEqProofs (disch := first | omega | decide) only [seval, -Int.reducePow, -Nat.reducePow, cC, pv, binv, sInsE2, undef, wrap_in, g1]
  intro b5 hb5 h5
  refine hK _ _ ?_
  clear hK K
  refine cv_gen fun G2 hG => ?_
  have g2_0 := congrFun hG 0
  have g2_2 := congrFun hG 2
  have g2_5 := congrFun hG 5
  clear hG
  try simp -implicitDefEqProofs (disch := first | omega | decide) only [seval, -Int.reducePow, -Nat.reducePow, cC, pv, binv, sInsE2, undef, g1] at g2_0 g2_2 g2_5
  have g2 := And.intro g2_0 (And.intro g2_2 g2_5)
  refine cv_seq_k fun K hK => ?_
  refine cv_seq_k fun K hK => ?_
  refine cv_region_then rfl ?_
  simp -implicitDefEqProofs (disch := first | omega | decide) only [seval, -Int.reducePow, -Nat.reducePow, cC, pv, binv, sInsE2, undef, g2]
  refine callV_ret (fun w hw => i_known_any (x : Int) w) ?_
  try simp -implicitDefEqProofs (disch := first | omega | decide) only [seval, -Int.reducePow, -Nat.reducePow, cC, pv, binv, sInsE2, undef, g2]
  refine hK _ _ ?_
  clear hK K
  refine cv_cond ?_
  simp -implicitDefEqProofs (disch := first | omega | decide) only [seval, -Int.reducePow, -Nat.reducePow, cC, pv, binv, sInsE2, undef, g2]
  refine ⟨fun hc => ?_, fun hc => ?_⟩
  · have h : ¬ knownP (x : Int) := nd_true hc
    refine cv_seq_k fun K hK => ?_
    refine cv_region_then rfl ?_
    simp -implicitDefEqProofs (disch := first | omega | decide) only [seval, -Int.reducePow, -Nat.reducePow, cC, pv, binv, sInsE2, undef, g2]
    refine hK _ _ ?_
    clear hK K
    refine cv_ret ?_
    simp -implicitDefEqProofs (disch := first | omega | decide) only [seval, -Int.reducePow, -Nat.reducePow, cC, pv, binv, sInsE2, undef, retQ2, ressV, packV, g2]
    intro w hw
    rw [decI_cons, if_pos h]
    exact ⟨rfl, hw.below⟩
  have h : ¬ ¬ knownP (x : Int) := nd_false hc
  refine cv_skip ?_
  try simp only [blockQ, thenQ]
  refine hK _ _ ?_
  clear hK K
  refine cv_seq_k fun K hK => ?_
  refine cv_seq_k fun K hK => ?_
  refine cv_region_then rfl ?_
  simp -implicitDefEqProofs (disch := first | omega | decide) only [seval, -Int.reducePow, -Nat.reducePow, cC, pv, binv, sInsE2, undef, g2]
  refine callV_ret (fun w hw => i_hasArg_any (x : Int) w) ?_
  try simp -implicitDefEqProofs (disch := first | omega | decide) only [seval, -Int.reducePow, -Nat.reducePow, cC, pv, binv, sInsE2, undef, g2]
  refine hK _ _ ?_
  clear hK K
  refine cv_cond ?_
  simp -implicitDefEqProofs (disch := first | omega | decide) only [seval, -Int.reducePow, -Nat.reducePow, cC, pv, binv, sInsE2, undef, g2]
  refine ⟨fun hc => ?_, fun hc => ?_⟩
  · have ha : ¬ argP (x : Int) := nd_true ‹(!decide (argP (x : Int))) = true›
    refine cv_seq_k fun K hK => ?_
    refine cv_region_then rfl ?_
    simp -implicitDefEqProofs (disch := first | omega | decide) only [seval, -Int.reducePow, -Nat.reducePow, cC, pv, binv, sInsE2, undef, g2]
    refine hK _ _ ?_
    clear hK K
    refine cv_ret ?_
    simp -implicitDefEqProofs (disch := first | omega | decide) only [seval, -Int.reducePow, -Nat.reducePow, cC, pv, binv, sInsE2, undef, retQ2, ressV, packV, g2]
    intro w hw
    rw [decI_cons, if_neg h, if_pos ha]
    exact ⟨rfl, hw.below⟩
  have ha : ¬ ¬ argP (x : Int) := nd_false ‹(!decide (argP (x : Int))) = false›
  have hD := hE.bdrop (k := 1) (by omega)
  rw [List.drop_succ_cons, List.drop_zero] at hD
  have hqc := uD_lt hbr
  obtain ⟨q, hq⟩ : ∃ q, uD 0 r = q := ⟨_, rfl⟩
  rw [hq] at hqc
  refine cv_skip ?_
  try simp only [blockQ, thenQ]
  refine hK _ _ ?_
  clear hK K
  refine cv_seq_k fun K hK => ?_
  refine cv_region_then rfl ?_
  simp -implicitDefEqProofs (disch := first | omega | decide) only [seval, -Int.reducePow, -Nat.reducePow, cC, pv, binv, sInsE2, undef, g2]
  refine callV_ret (fun w hw => uint_any (sbase c 1 1 (some ⟨b0, off, none⟩)) (n - 1) (c - 1) r w (hD.at hw) hbr) ?_
  try simp -implicitDefEqProofs (disch := first | omega | decide) only [seval, -Int.reducePow, -Nat.reducePow, cC, pv, binv, sInsE2, undef, hq, g2]
  refine hK _ _ ?_
  clear hK K
  refine cv_gen fun G3 hG => ?_
  have g3_2 := congrFun hG 2
  have g3_5 := congrFun hG 5
  have g3_6 := congrFun hG 6
  have g3_7 := congrFun hG 7
  have g3_8 := congrFun hG 8
  clear hG
  try simp -implicitDefEqProofs (disch := first | omega | decide) only [seval, -Int.reducePow, -Nat.reducePow, cC, pv, binv, sInsE2, undef, g2] at g3_2 g3_5 g3_6 g3_7 g3_8
  have g3 := And.intro g3_2 (And.intro g3_5 (And.intro g3_6 (And.intro g3_7 g3_8)))
  refine cv_seq_k fun K hK => ?_
  refine cv_seq_k fun K hK => ?_
  refine cv_region_then rfl ?_
  simp -implicitDefEqProofs (disch := first | omega | decide) only [seval, -Int.reducePow, -Nat.reducePow, cC, pv, binv, sInsE2, undef, g3]
  refine hK _ _ ?_
  clear hK K
  refine cv_cond ?_
  simp -implicitDefEqProofs (disch := first | omega | decide) only [seval, -Int.reducePow, -Nat.reducePow, cC, pv, binv, sInsE2, undef, g3]
  refine ⟨fun hc => ?_, fun hc => ?_⟩
  · have hz : ¬ q.2.2 = 0 := by simpa using ‹(!decide (q.2.2 = 0)) = true›
    refine cv_seq_k fun K hK => ?_
    refine cv_region_then rfl ?_
    simp -implicitDefEqProofs (disch := first | omega | decide) only [seval, -Int.reducePow, -Nat.reducePow, cC, pv, binv, sInsE2, undef, g3]
    refine hK _ _ ?_
    clear hK K
    refine cv_ret ?_
    simp -implicitDefEqProofs (disch := first | omega | decide) only [seval, -Int.reducePow, -Nat.reducePow, cC, pv, binv, sInsE2, undef, retQ2, ressV, packV, g3]
    intro w hw
    rw [decI_cons, if_neg h, if_neg ha, hq, if_neg hz]
    exact ⟨rfl, hw.below⟩
  have hz : q.2.2 = 0 := by simpa using ‹(!decide (q.2.2 = 0)) = false›
  have e1 : (1 : Int) + (q.2.1 : Int) = ((1 + q.2.1 : Nat) : Int) := by omega
  refine cv_skip ?_
  try simp only [blockQ, thenQ]
  refine hK _ _ ?_
  clear hK K
  refine cv_seq_k fun K hK => ?_
  refine cv_region_then rfl ?_
  simp -implicitDefEqProofs (disch := first | omega | decide) only [seval, -Int.reducePow, -Nat.reducePow, cC, pv, binv, sInsE2, undef, g3]
  refine hK _ _ ?_
  clear hK K
  refine cv_seq_k fun K hK => ?_
  refine cv_region_then rfl ?_
  simp -implicitDefEqProofs (disch := first | omega | decide) only [seval, -Int.reducePow, -Nat.reducePow, cC, pv, binv, sInsE2, undef, e1, wrap_in, g3]
  refine hK _ _ ?_
  clear hK K
  refine cv_ret ?_
  simp -implicitDefEqProofs (disch := first | omega | decide) only [seval, -Int.reducePow, -Nat.reducePow, cC, pv, binv, sInsE2, undef, retQ2, ressV, packV, g3]
  intro w hw
  rw [decI_cons, if_neg h, if_neg ha, hq, if_pos hz]
  exact ⟨rfl, hw.below⟩
end Go.Proofs.YtlbmnioibiomfaaGreat
/- Encodings of modules: plain. -/
namespace Go.Proofs.YtlbmnioibiomfaaGreat
open Go.RowKit Go.Shelf
set_option linter.unusedVariables false
set_option linter.unusedSimpArgs false
set_option maxRecDepth 100000
def encTy (t : TyR) : List Nat := encB t.len t.fs
def encFn (f : FnR) : List Nat := [f.p.toNat, f.r.toNat, f.l.toNat, f.code.length].flatMap putU ++ f.code.flatMap encI
def magicB : List Nat := [80, 72, 77, 49]
def encM (m : ModR) : List Nat := magicB ++ putU m.ts.length ++ m.ts.flatMap encTy ++ putU m.gs.length ++ m.gs.flatMap encFn
def errM (m : ModR) : Int := if (chkM m).1 = 0 then (if 65536 < (encM m).length then 4 else 0) else (chkM m).1
def encMod (m : ModR) : List Nat := if errM m = 0 then encM m else []
theorem flat_snoc {α β : Type} {l : List α} {k : Nat} {x : α} (f : α → List β) (h : l[k]? = some x) : (l.take (k + 1)).flatMap f = (l.take k).flatMap f ++ f x := by
  obtain ⟨hk, hf⟩ := List.getElem?_eq_some_iff.1 h
  rw [List.take_succ_eq_append_getElem hk, hf, List.flatMap_append]
  simp
theorem byt_append (l m : List Nat) : byt (l ++ m) = byt l ++ byt m := by simp [byt]
theorem encI_len {i : Ins} (h : i.arg < 18446744073709551616) : (encI i).length ≤ 11 := by
  have := putU_len10 h
  unfold encI
  split <;> simp <;> omega
theorem errM_no {m : ModR} (h : ¬ (chkM m).1 = 0) : errM m = (chkM m).1 ∧ encMod m = [] := by
  have h1 : errM m = (chkM m).1 := by unfold errM; rw [if_neg h]
  exact ⟨h1, by unfold encMod; rw [h1, if_neg h]⟩
theorem errM_big {m : ModR} (h : (chkM m).1 = 0) (h2 : 65536 < (encM m).length) : errM m = 4 ∧ encMod m = [] := by
  have h1 : errM m = 4 := by unfold errM; rw [if_pos h, if_pos h2]
  exact ⟨h1, by unfold encMod; rw [h1, if_neg (by decide)]⟩
theorem errM_ok {m : ModR} (h : (chkM m).1 = 0) (h2 : ¬ 65536 < (encM m).length) : errM m = 0 ∧ encMod m = encM m := by
  have h1 : errM m = 0 := by unfold errM; rw [if_pos h, if_neg h2]
  exact ⟨h1, by unfold encMod; rw [h1, if_pos rfl]⟩
theorem encT_eq {t : TyR} (h : chk t.len t.fs = 0) : encT t.len t.fs = encTy t := by unfold encT encTy; rw [if_pos h]
theorem encIE_eq {i : Ins} (h : i.err = 0) : encIE i = encI i := by unfold encIE; rw [if_pos h]
theorem i64v (n : Nat) (h : n ≤ 9223372036854775807) : IntKind.u64.wrap (n : Int) = (n : Int) := u64_in (by omega)
end Go.Proofs.YtlbmnioibiomfaaGreat
/- module.Encode and EncodeModule. -/
namespace Go.Proofs.YtlbmnioibiomfaaGreat
open Go.RowKit Go.Shelf
set_option linter.unusedVariables false
set_option linter.unusedSimpArgs false
set_option maxRecDepth 100000
theorem mgOk (b : Nat) {W w : World} {L : List Res} {M : List Nat} (hw : St M W (rdR b 5 [.int .u8 80, .int .u8 72, .int .u8 77, .int .u8 49] :: L) w) : Sl w w.heap.size 1 (some ⟨b, 0, none⟩) 4 4 (byt magicB) :=
  show Sl w w.heap.size 1 (some ⟨b, 0, none⟩) 4 4 [.int .u8 80, .int .u8 72, .int .u8 77, .int .u8 49] from Sl.of_rd hw 0 rfl rfl (by omega)
end Go.Proofs.YtlbmnioibiomfaaGreat
/- Decoding types: plain. -/
namespace Go.Proofs.YtlbmnioibiomfaaGreat
open Go.RowKit Go.Shelf
set_option linter.unusedVariables false
set_option linter.unusedSimpArgs false
/-- A number that is at most most. -/
def smF (l : List Nat) (at' most : Nat) : Nat × Nat × Int :=
  if (uD 0 (l.drop at')).2.2 = 0 then (if most < (uD 0 (l.drop at')).1 then (0, 0, 4) else ((uD 0 (l.drop at')).1, at' + (uD 0 (l.drop at')).2.1, 0)) else (0, 0, (uD 0 (l.drop at')).2.2)
/-- The reader's: the first error stays. -/
def numF (l : List Nat) (used : Nat) (err : Int) (most : Nat) : Nat × Nat × Int :=
  if err = 0 then (if (smF l used most).2.2 = 0 then smF l used most else (0, used, (smF l used most).2.2)) else (0, used, err)
abbrev RD := List Fd × Nat × Int
def rdC (gs : List Fd) (r : RD) : RD := if r.2.2 = 0 then (gs ++ r.1, r.2.1, 0) else ([], 0, r.2.2)
/-- j fields. -/
def rdE (l : List Nat) : Nat → Nat → RD
  | 0, p => ([], p, 0)
  | j + 1, p =>
    if (smF l p 65536).2.2 = 0 then
      (if (smF l (smF l p 65536).2.1 65536).2.2 = 0 then rdC [⟨((smF l p 65536).1 : Int), ((smF l (smF l p 65536).2.1 65536).1 : Int)⟩] (rdE l j (smF l (smF l p 65536).2.1 65536).2.1)
      else ([], 0, (smF l (smF l p 65536).2.1 65536).2.2))
    else ([], 0, (smF l p 65536).2.2)
def decF (l : List Nat) : Int × List Fd × Nat × Int :=
  if (smF l 0 65536).2.2 = 0 then
    (if (smF l (smF l 0 65536).2.1 32).2.2 = 0 then
      (if (rdE l (smF l (smF l 0 65536).2.1 32).1 (smF l (smF l 0 65536).2.1 32).2.1).2.2 = 0 then
        (if chk ((smF l 0 65536).1 : Int) (rdE l (smF l (smF l 0 65536).2.1 32).1 (smF l (smF l 0 65536).2.1 32).2.1).1 = 0 then
          (((smF l 0 65536).1 : Int), (rdE l (smF l (smF l 0 65536).2.1 32).1 (smF l (smF l 0 65536).2.1 32).2.1).1, (rdE l (smF l (smF l 0 65536).2.1 32).1 (smF l (smF l 0 65536).2.1 32).2.1).2.1, 0)
        else (0, [], 0, chk ((smF l 0 65536).1 : Int) (rdE l (smF l (smF l 0 65536).2.1 32).1 (smF l (smF l 0 65536).2.1 32).2.1).1))
      else (0, [], 0, (rdE l (smF l (smF l 0 65536).2.1 32).1 (smF l (smF l 0 65536).2.1 32).2.1).2.2))
    else (0, [], 0, (smF l (smF l 0 65536).2.1 32).2.2))
  else (0, [], 0, (smF l 0 65536).2.2)
section
variable {l : List Nat}
theorem drop_byte (hb : ∀ x ∈ l, x < 256) (k : Nat) : ∀ x ∈ l.drop k, x < 256 := fun x hx => hb x (List.mem_of_mem_drop hx)
theorem smF_cases (hb : ∀ x ∈ l, x < 256) {p most : Nat} (hp : p ≤ l.length) :
    (¬ (smF l p most).2.2 = 0 ∧ (smF l p most).1 = 0 ∧ (smF l p most).2.1 = 0) ∨
    ((smF l p most).2.2 = 0 ∧ (smF l p most).1 ≤ most ∧ p < (smF l p most).2.1 ∧ (smF l p most).2.1 ≤ l.length ∧ putU (smF l p most).1 = (l.drop p).take ((smF l p most).2.1 - p) ∧ (smF l p most).1 < 18446744073709551616) := by
  have hlt := (uD_lt (drop_byte hb p)).1
  unfold smF
  rcases uD_cases (l.drop p) 0 (by omega) (drop_byte hb p) with ⟨h1, h2, h3⟩ | ⟨h1, h2, h3, h4, h5, h6, h7⟩
  · rw [if_neg (by omega)]
    exact .inl ⟨by dsimp only; omega, rfl, rfl⟩
  · rw [if_pos h1]
    rw [List.length_drop] at h5
    split
    · exact .inl ⟨by simp, rfl, rfl⟩
    · refine .inr ⟨rfl, by dsimp only; omega, by dsimp only; omega, by dsimp only; omega, ?_, hlt⟩
      dsimp only
      rw [h7, Nat.add_sub_cancel_left]
theorem numF_le (hb : ∀ x ∈ l, x < 256) {used most : Nat} {err : Int} (hu : used ≤ l.length) : (numF l used err most).1 ≤ most ∧ (numF l used err most).2.1 ≤ l.length := by
  unfold numF
  split
  · rcases smF_cases hb hu (most := most) with h | h
    · rw [if_neg h.1]; exact ⟨by simp, hu⟩
    · rw [if_pos h.1]; exact ⟨h.2.1, h.2.2.2.1⟩
  · exact ⟨by simp, hu⟩
theorem rdC_rdC (gs hs : List Fd) (r : RD) : rdC gs (rdC hs r) = rdC (gs ++ hs) r := by
  unfold rdC
  by_cases h : r.2.2 = 0
  · simp [h]
  · simp [h]
theorem rdE_norm : ∀ (j p : Nat), ¬ (rdE l j p).2.2 = 0 → rdE l j p = ([], 0, (rdE l j p).2.2)
  | 0, p, h => absurd rfl h
  | j + 1, p, h => by
    unfold rdE
    split
    · split
      · unfold rdC
        by_cases h2 : (rdE l j (smF l (smF l p 65536).2.1 65536).2.1).2.2 = 0
        · exfalso
          apply h
          unfold rdE rdC
          rw [if_pos ‹_›, if_pos ‹_›, if_pos h2]
        · rw [if_neg h2]
      · rfl
    · rfl
theorem rdC_nil (j p : Nat) : rdC [] (rdE l j p) = rdE l j p := by
  by_cases h : (rdE l j p).2.2 = 0
  · unfold rdC
    rw [if_pos h]
    exact Prod.ext rfl (Prod.ext rfl h.symm)
  · have := rdE_norm j p h
    unfold rdC
    rw [if_neg h]
    exact this.symm
/-- What the reader's loop keeps. -/
def rInv (l : List Nat) (m p0 j : Nat) (gs : List Fd) (used : Nat) (err : Int) : Prop :=
  j ≤ m ∧ gs.length = j ∧ used ≤ l.length ∧ ((err = 0 ∧ rdC gs (rdE l (m - j) used) = rdE l m p0) ∨ (¬ err = 0 ∧ rdE l m p0 = ([], 0, err)))
theorem rInv_start {m p0 : Nat} (h : p0 ≤ l.length) : rInv l m p0 0 [] p0 0 := ⟨by omega, rfl, h, .inl ⟨rfl, rdC_nil _ _⟩⟩
theorem rInv_step (hb : ∀ x ∈ l, x < 256) {m p0 j used : Nat} {gs : List Fd} {err : Int} (h : rInv l m p0 j gs used err) (hj : j < m) {q1 q2 : Nat × Nat × Int} (h1 : q1 = numF l used err 65536) (h2 : q2 = numF l q1.2.1 q1.2.2 65536) :
    rInv l m p0 (j + 1) (gs ++ [⟨(q1.1 : Int), (q2.1 : Int)⟩]) q2.2.1 q2.2.2 := by
  obtain ⟨ha, hg, hu, hI⟩ := h
  have k1 := numF_le hb (most := 65536) (err := err) hu
  rw [← h1] at k1
  have k2 := numF_le hb (most := 65536) (err := q1.2.2) k1.2
  rw [← h2] at k2
  refine ⟨by omega, by simp [hg], k2.2, ?_⟩
  rcases hI with ⟨he, hI⟩ | ⟨he, hI⟩
  · obtain ⟨d, rfl⟩ : ∃ d, m = j + 1 + d := ⟨m - (j + 1), by omega⟩
    rw [show j + 1 + d - j = d + 1 by omega] at hI
    rw [show j + 1 + d - (j + 1) = d by omega]
    unfold numF at h1
    rw [if_pos he] at h1
    rw [rdE] at hI
    by_cases e1 : (smF l used 65536).2.2 = 0
    · rw [if_pos e1] at hI h1
      subst h1
      unfold numF at h2
      rw [if_pos e1] at h2
      by_cases e2 : (smF l (smF l used 65536).2.1 65536).2.2 = 0
      · rw [if_pos e2] at hI h2
        subst h2
        rw [rdC_rdC] at hI
        exact .inl ⟨e2, hI⟩
      · rw [if_neg e2] at hI h2
        subst h2
        refine .inr ⟨e2, ?_⟩
        rw [← hI]
        unfold rdC
        rw [if_neg e2]
    · rw [if_neg e1] at hI h1
      subst h1
      unfold numF at h2
      rw [if_neg e1] at h2
      subst h2
      refine .inr ⟨e1, ?_⟩
      rw [← hI]
      unfold rdC
      rw [if_neg e1]
  · unfold numF at h1
    rw [if_neg he] at h1
    subst h1
    unfold numF at h2
    rw [if_neg he] at h2
    subst h2
    exact .inr ⟨he, hI⟩
/-- What the reference's loop keeps. -/
def dInv (l : List Nat) (m p0 j : Nat) (gs : List Fd) (p : Nat) : Prop := j ≤ m ∧ gs.length = j ∧ p ≤ l.length ∧ rdC gs (rdE l (m - j) p) = rdE l m p0
theorem dInv_start {m p0 : Nat} (h : p0 ≤ l.length) : dInv l m p0 0 [] p0 := ⟨by omega, rfl, h, rdC_nil _ _⟩
theorem dInv_err1 {m p0 j p : Nat} {gs : List Fd} (h : dInv l m p0 j gs p) (hj : j < m) (e1 : ¬ (smF l p 65536).2.2 = 0) : rdE l m p0 = ([], 0, (smF l p 65536).2.2) := by
  obtain ⟨ha, hg, hu, hI⟩ := h
  obtain ⟨d, rfl⟩ : ∃ d, m = j + 1 + d := ⟨m - (j + 1), by omega⟩
  rw [show j + 1 + d - j = d + 1 by omega, rdE, if_neg e1] at hI
  rw [← hI]
  unfold rdC
  rw [if_neg e1]
theorem dInv_err2 {m p0 j p : Nat} {gs : List Fd} (h : dInv l m p0 j gs p) (hj : j < m) (e1 : (smF l p 65536).2.2 = 0) (e2 : ¬ (smF l (smF l p 65536).2.1 65536).2.2 = 0) : rdE l m p0 = ([], 0, (smF l (smF l p 65536).2.1 65536).2.2) := by
  obtain ⟨ha, hg, hu, hI⟩ := h
  obtain ⟨d, rfl⟩ : ∃ d, m = j + 1 + d := ⟨m - (j + 1), by omega⟩
  rw [show j + 1 + d - j = d + 1 by omega, rdE, if_pos e1, if_neg e2] at hI
  rw [← hI]
  unfold rdC
  rw [if_neg e2]
theorem dInv_step (hb : ∀ x ∈ l, x < 256) {m p0 j p : Nat} {gs : List Fd} (h : dInv l m p0 j gs p) (hj : j < m) (e1 : (smF l p 65536).2.2 = 0) (e2 : (smF l (smF l p 65536).2.1 65536).2.2 = 0) :
    dInv l m p0 (j + 1) (gs ++ [⟨((smF l p 65536).1 : Int), ((smF l (smF l p 65536).2.1 65536).1 : Int)⟩]) (smF l (smF l p 65536).2.1 65536).2.1 := by
  obtain ⟨ha, hg, hu, hI⟩ := h
  obtain ⟨d, rfl⟩ : ∃ d, m = j + 1 + d := ⟨m - (j + 1), by omega⟩
  rw [show j + 1 + d - j = d + 1 by omega, rdE, if_pos e1, if_pos e2, rdC_rdC] at hI
  rcases smF_cases hb hu (most := 65536) with h1 | h1
  · exact absurd e1 h1.1
  rcases smF_cases hb h1.2.2.2.1 (most := 65536) with h2 | h2
  · exact absurd e2 h2.1
  refine ⟨by omega, by simp [hg], h2.2.2.2.1, ?_⟩
  rw [show j + 1 + d - (j + 1) = d by omega]
  exact hI
theorem inv_end {m p0 p : Nat} {gs : List Fd} (h : rdC gs (rdE l (m - m) p) = rdE l m p0) : rdE l m p0 = (gs, p, 0) := by
  rw [← h, Nat.sub_self]
  simp [rdE, rdC]
theorem numF_err {used most : Nat} {err : Int} (hb : ∀ x ∈ l, x < 256) (hu : used ≤ l.length) (h : ¬ (numF l used err most).2.2 = 0) : (numF l used err most).1 = 0 := by
  unfold numF at *
  split
  · rename_i h0
    rw [if_pos h0] at h
    split
    · rename_i h1
      rw [if_pos h1] at h
      exact absurd h1 h
    · rfl
  · rfl
theorem dec_end (hb : ∀ x ∈ l, x < 256) {q1 q2 : Nat × Nat × Int} {j used : Nat} {gs : List Fd} {err : Int} (h1 : numF l 0 0 65536 = q1) (h2 : numF l q1.2.1 q1.2.2 32 = q2)
    (hI : (¬ q2.2.2 = 0 ∧ j = 0 ∧ gs = [] ∧ err = q2.2.2 ∧ used = q2.2.1 ∧ q2.1 = 0) ∨ (q2.2.2 = 0 ∧ rInv l q2.1 q2.2.1 j gs used err)) (hj : ¬ j < q2.1) :
    (¬ err = 0 → decF l = (0, [], 0, err)) ∧ (err = 0 → decF l = if chk (q1.1 : Int) gs = 0 then ((q1.1 : Int), gs, used, 0) else (0, [], 0, chk (q1.1 : Int) gs)) := by
  have h1' := h1
  unfold numF at h1
  rw [if_pos rfl] at h1
  by_cases e1 : (smF l 0 65536).2.2 = 0
  · rw [if_pos e1] at h1
    subst h1
    unfold numF at h2
    rw [if_pos e1] at h2
    by_cases e2 : (smF l (smF l 0 65536).2.1 32).2.2 = 0
    · rw [if_pos e2] at h2
      subst h2
      rcases hI with ⟨h, _⟩ | ⟨_, ha, hg, hu, hI⟩
      · exact absurd e2 h
      · obtain rfl : j = (smF l (smF l 0 65536).2.1 32).1 := by omega
        rcases hI with ⟨he, hI⟩ | ⟨he, hI⟩
        · have hr := inv_end hI
          refine ⟨fun h => absurd he h, fun _ => ?_⟩
          unfold decF
          rw [if_pos e1, if_pos e2, hr, if_pos rfl]
        · refine ⟨fun _ => ?_, fun h => absurd h he⟩
          unfold decF
          rw [if_pos e1, if_pos e2, hI, if_neg he]
    · rw [if_neg e2] at h2
      subst h2
      rcases hI with ⟨_, _, _, he, _, _⟩ | ⟨h, _⟩
      · refine ⟨fun _ => ?_, fun h => absurd (he ▸ h) e2⟩
        unfold decF
        rw [if_pos e1, if_neg e2, he]
      · exact absurd h e2
  · rw [if_neg e1] at h1
    subst h1
    unfold numF at h2
    rw [if_neg e1] at h2
    subst h2
    rcases hI with ⟨_, _, _, he, _, _⟩ | ⟨h, _⟩
    · refine ⟨fun _ => ?_, fun h => absurd (he ▸ h) e1⟩
      unfold decF
      rw [if_neg e1, he]
    · exact absurd h e1
end
end Go.Proofs.YtlbmnioibiomfaaGreat
/- Encodings of types read back: plain. -/
namespace Go.Proofs.YtlbmnioibiomfaaGreat
open Go.RowKit Go.Shelf
set_option linter.unusedVariables false
set_option linter.unusedSimpArgs false
section
variable {l : List Nat}
theorem rdE_inv (hb : ∀ x ∈ l, x < 256) : ∀ (j p : Nat), p ≤ l.length → (rdE l j p).2.2 = 0 → p ≤ (rdE l j p).2.1 ∧ (rdE l j p).2.1 ≤ l.length ∧ (rdE l j p).1.length = j ∧ (l.drop p).take ((rdE l j p).2.1 - p) = (rdE l j p).1.flatMap encFd
  | 0, p, hp, h => by simp [rdE, hp]
  | j + 1, p, hp, h => by
    rw [rdE] at h ⊢
    by_cases e1 : (smF l p 65536).2.2 = 0
    · rw [if_pos e1] at h ⊢
      by_cases e2 : (smF l (smF l p 65536).2.1 65536).2.2 = 0
      · rw [if_pos e2] at h ⊢
        rcases smF_cases hb hp (most := 65536) with h1 | h1
        · exact absurd e1 h1.1
        rcases smF_cases hb h1.2.2.2.1 (most := 65536) with h2 | h2
        · exact absurd e2 h2.1
        have h3 : (rdE l j (smF l (smF l p 65536).2.1 65536).2.1).2.2 = 0 := by
          unfold rdC at h
          by_cases e3 : (rdE l j (smF l (smF l p 65536).2.1 65536).2.1).2.2 = 0
          · exact e3
          · rw [if_neg e3] at h; exact absurd h e3
        obtain ⟨i1, i2, i3, i4⟩ := rdE_inv hb j _ h2.2.2.2.1 h3
        unfold rdC
        rw [if_pos h3]
        dsimp only
        refine ⟨by omega, i2, by simp [i3], ?_⟩
        rw [List.singleton_append, List.flatMap_cons, ← i4]
        unfold encFd
        dsimp only
        rw [Int.toNat_natCast, Int.toNat_natCast, h1.2.2.2.2.1, h2.2.2.2.2.1]
        generalize (smF l p 65536).2.1 = a at *
        generalize (smF l a 65536).2.1 = b at *
        generalize (rdE l j b).2.1 = c at *
        have e5 : (l.drop p).take (c - p) = (l.drop p).take (a - p) ++ ((l.drop p).drop (a - p)).take (c - a) := by
          rw [show c - p = (a - p) + (c - a) by omega, List.take_add]
        have e6 : (l.drop p).drop (a - p) = l.drop a := by rw [List.drop_drop]; congr 1; omega
        have e7 : (l.drop a).take (c - a) = (l.drop a).take (b - a) ++ ((l.drop a).drop (b - a)).take (c - b) := by
          rw [show c - a = (b - a) + (c - b) by omega, List.take_add]
        have e8 : (l.drop a).drop (b - a) = l.drop b := by rw [List.drop_drop]; congr 1; omega
        rw [e5, e6, e7, e8, List.append_assoc]
      · rw [if_neg e2] at h; exact absurd h e2
    · rw [if_neg e1] at h; exact absurd h e1
/-- What was read has its bytes as its encoding. -/
theorem decF_only (hb : ∀ x ∈ l, x < 256) (h : (decF l).2.2.2 = 0) : chk (decF l).1 (decF l).2.1 = 0 ∧ encB (decF l).1 (decF l).2.1 = l.take (decF l).2.2.1 ∧ (decF l).2.2.1 ≤ l.length := by
  unfold decF at *
  by_cases e1 : (smF l 0 65536).2.2 = 0
  · rw [if_pos e1] at h ⊢
    by_cases e2 : (smF l (smF l 0 65536).2.1 32).2.2 = 0
    · rw [if_pos e2] at h ⊢
      by_cases e3 : (rdE l (smF l (smF l 0 65536).2.1 32).1 (smF l (smF l 0 65536).2.1 32).2.1).2.2 = 0
      · rw [if_pos e3] at h ⊢
        by_cases e4 : chk ((smF l 0 65536).1 : Int) (rdE l (smF l (smF l 0 65536).2.1 32).1 (smF l (smF l 0 65536).2.1 32).2.1).1 = 0
        · rw [if_pos e4]
          dsimp only
          rcases smF_cases hb (Nat.zero_le _) (most := 65536) with h1 | h1
          · exact absurd e1 h1.1
          rcases smF_cases hb h1.2.2.2.1 (most := 32) with h2 | h2
          · exact absurd e2 h2.1
          obtain ⟨i1, i2, i3, i4⟩ := rdE_inv hb _ _ h2.2.2.2.1 e3
          refine ⟨e4, ?_, i2⟩
          unfold encB
          rw [Int.toNat_natCast, i3, h1.2.2.2.2.1, h2.2.2.2.2.1, ← i4]
          generalize (smF l 0 65536).2.1 = a at *
          generalize (smF l a 32).2.1 = b at *
          generalize (smF l a 32).1 = j at *
          generalize (rdE l j b).2.1 = c at *
          rw [List.drop_zero, Nat.sub_zero]
          have e5 : l.take c = l.take a ++ (l.drop a).take (c - a) := by
            conv => lhs; rw [show c = a + (c - a) by omega, List.take_add]
          have e7 : (l.drop a).take (c - a) = (l.drop a).take (b - a) ++ ((l.drop a).drop (b - a)).take (c - b) := by
            rw [show c - a = (b - a) + (c - b) by omega, List.take_add]
          have e8 : (l.drop a).drop (b - a) = l.drop b := by rw [List.drop_drop]; congr 1; omega
          rw [e5, e7, e8, List.append_assoc]
        · rw [if_neg e4] at h; exact absurd h e4
      · rw [if_neg e3] at h; exact absurd h e3
    · rw [if_neg e2] at h; exact absurd h e2
  · rw [if_neg e1] at h; exact absurd h e1
end
end Go.Proofs.YtlbmnioibiomfaaGreat
/- Decoding modules: plain. -/
namespace Go.Proofs.YtlbmnioibiomfaaGreat
open Go.RowKit Go.Shelf
set_option linter.unusedVariables false
set_option linter.unusedSimpArgs false
/-- What is read, and the bytes that follow; or an error. -/
abbrev Rs (α : Type) := Except Int (α × List Nat)
def numX (most : Nat) (l : List Nat) : Rs Nat := if (smF l 0 most).2.2 = 0 then .ok ((smF l 0 most).1, l.drop (smF l 0 most).2.1) else .error (smF l 0 most).2.2
def tyX (l : List Nat) : Rs (Int × List Fd) := if (decF l).2.2.2 = 0 then .ok (((decF l).1, (decF l).2.1), l.drop (decF l).2.2.1) else .error (decF l).2.2.2
def inX (l : List Nat) : Rs Ins := if (decI l).2.2 = 0 then .ok ((decI l).1, l.drop (decI l).2.1) else .error (decI l).2.2
def thenX {α β : Type} (r : Rs α) (g : List Nat → Rs β) : Rs (α × β) :=
  match r with
  | .error e => .error e
  | .ok (a, l) => match g l with
    | .error e => .error e
    | .ok (b, l') => .ok ((a, b), l')
def manyX {α : Type} (g : List Nat → Rs α) : Nat → List Nat → Rs (List α)
  | 0, l => .ok ([], l)
  | k + 1, l => match g l with
    | .error e => .error e
    | .ok (x, l') => match manyX g k l' with
      | .error e => .error e
      | .ok (xs, l'') => .ok (x :: xs, l'')
def cntX {α : Type} (g : List Nat → Rs α) (most : Nat) (l : List Nat) : Rs (List α) :=
  match numX most l with
  | .error e => .error e
  | .ok (n, l') => manyX g n l'
def accX {α β : Type} (a : α) (xs : List β) (r : Rs (List β)) : Rs (α × List β) :=
  match r with
  | .error e => .error e
  | .ok (ys, l) => .ok ((a, xs ++ ys), l)
abbrev FnQ := (((Unit × Nat) × Nat) × Nat) × List Ins
def fnX (l : List Nat) : Rs FnQ := thenX (thenX (thenX (thenX (.ok ((), l)) (numX 1024)) (numX 1024)) (numX 1024)) (cntX inX 1024)
abbrev ModQ := (Unit × List (Int × List Fd)) × List FnQ
def decX (l : List Nat) : Rs ModQ := thenX (thenX (.ok ((), l)) (cntX tyX 32)) (cntX fnX 32)
/-- The state of a reader. -/
def Out {α : Type} (r : Rs α) (a : α) (l : List Nat) (e : Int) : Prop := (e = 0 ∧ r = .ok (a, l)) ∨ (¬ e = 0 ∧ r = .error e)
def numE (e : Int) (l : List Nat) (most : Nat) : Nat × Nat × Int := if e = 0 then smF l 0 most else (0, 0, e)
section
variable {α β : Type} {l l' : List Nat} {e e' : Int} {a : α} {b : β} {r : Rs α} {g : List Nat → Rs β}
theorem numE_le (hb : ∀ x ∈ l, x < 256) (most : Nat) : (numE e l most).1 ≤ most ∧ (numE e l most).2.1 ≤ l.length ∧ (¬ (numE e l most).2.2 = 0 → (numE e l most).1 = 0 ∧ (numE e l most).2.1 = 0) := by
  unfold numE
  split
  · rcases smF_cases hb (Nat.zero_le _) (most := most) with h | h
    · exact ⟨by omega, by omega, fun _ => h.2⟩
    · exact ⟨h.2.1, h.2.2.2.1, fun h2 => absurd h.1 h2⟩
  · exact ⟨by simp, by simp, fun _ => ⟨rfl, rfl⟩⟩
theorem Out.start (a : α) (l : List Nat) : Out (.ok (a, l)) a l 0 := .inl ⟨rfl, rfl⟩
theorem Out.seq (h : Out r a l e) (h1 : e = 0 → Out (g l) b l' e') (h2 : ¬ e = 0 → e' = e) : Out (thenX r g) (a, b) l' e' := by
  rcases h with ⟨he, rfl⟩ | ⟨he, rfl⟩
  · rcases h1 he with ⟨k1, k2⟩ | ⟨k1, k2⟩
    · exact .inl ⟨k1, by unfold thenX; simp only [k2]⟩
    · exact .inr ⟨k1, by unfold thenX; simp only [k2]⟩
  · have := h2 he
    subst this
    exact .inr ⟨he, rfl⟩
theorem numX_out {most : Nat} {q : Nat × Nat × Int} (hq : numE 0 l most = q) : Out (numX most l) q.1 (l.drop q.2.1) q.2.2 := by
  unfold numE at hq
  rw [if_pos rfl] at hq
  subst hq
  unfold numX
  by_cases h : (smF l 0 most).2.2 = 0
  · exact .inl ⟨h, by rw [if_pos h]⟩
  · exact .inr ⟨h, by rw [if_neg h]⟩
theorem Out.num {most : Nat} {q : Nat × Nat × Int} (h : Out r a l e) (hq : numE e l most = q) : Out (thenX r (numX most)) (a, q.1) (l.drop q.2.1) q.2.2 := by
  refine h.seq (fun he => ?_) (fun he => ?_)
  · subst he; exact numX_out hq
  · unfold numE at hq
    rw [if_neg he] at hq
    rw [← hq]
theorem accX_cons (xs : List β) (y : β) (r : Rs (List β)) : accX a (xs ++ [y]) r = accX a xs (match r with | .error e => .error e | .ok (ys, l) => .ok (y :: ys, l)) := by
  cases r with
  | error e => rfl
  | ok p => obtain ⟨ys, l⟩ := p; simp [accX]
/-- What a loop that reads keeps. -/
def Lc (g : List Nat → Rs β) (T : Rs (α × List β)) (a : α) (m j : Nat) (xs : List β) (l : List Nat) (e : Int) : Prop :=
  j ≤ m ∧ xs.length = j ∧ ((e = 0 ∧ T = accX a xs (manyX g (m - j) l)) ∨ (¬ e = 0 ∧ T = .error e))
variable {T : Rs (α × List β)} {m j : Nat} {xs : List β} {x : β}
theorem Lc.start {most : Nat} {q : Nat × Nat × Int} (h : Out r a l e) (hq : numE e l most = q) : Lc g (thenX r (cntX g most)) a q.1 0 [] (l.drop q.2.1) q.2.2 := by
  refine ⟨by omega, rfl, ?_⟩
  rcases h with ⟨he, rfl⟩ | ⟨he, rfl⟩
  · subst he
    rcases numX_out hq with ⟨k1, k2⟩ | ⟨k1, k2⟩
    · refine .inl ⟨k1, ?_⟩
      unfold thenX cntX
      simp only [k2, Nat.sub_zero]
      cases manyX g q.1 (l.drop q.2.1) with
      | error e => rfl
      | ok p => rfl
    · refine .inr ⟨k1, ?_⟩
      unfold thenX cntX
      simp only [k2]
  · unfold numE at hq
    rw [if_neg he] at hq
    subst hq
    exact .inr ⟨he, rfl⟩
theorem Lc.step (h : Lc g T a m j xs l 0) (hj : j < m) (hx : Out (g l) x l' e') : Lc g T a m (j + 1) (xs ++ [x]) l' e' := by
  obtain ⟨h1, h2, h3⟩ := h
  refine ⟨by omega, by simp [h2], ?_⟩
  rcases h3 with ⟨-, h3⟩ | ⟨h3, -⟩
  · obtain ⟨d, rfl⟩ : ∃ d, m = j + 1 + d := ⟨m - (j + 1), by omega⟩
    rw [show j + 1 + d - j = d + 1 by omega, manyX] at h3
    rw [show j + 1 + d - (j + 1) = d by omega]
    rcases hx with ⟨k1, k2⟩ | ⟨k1, k2⟩
    · simp only [k2] at h3
      exact .inl ⟨k1, by rw [h3, accX_cons]⟩
    · simp only [k2] at h3
      exact .inr ⟨k1, h3⟩
  · exact absurd rfl h3
theorem Lc.fin (h : Lc g T a m j xs l e) (hj : ¬ j < m ∨ ¬ e = 0) : Out T (a, xs) l e := by
  obtain ⟨h1, h2, h3⟩ := h
  rcases h3 with ⟨k1, k2⟩ | ⟨k1, k2⟩
  · obtain rfl : j = m := by
      rcases hj with h | h
      · omega
      · exact absurd k1 h
    rw [Nat.sub_self] at k2
    exact .inl ⟨k1, by rw [k2]; simp [accX, manyX]⟩
  · exact .inr ⟨k1, k2⟩
theorem Lc.err (h : Lc g T a m j xs l e) (he : ¬ e = 0) : T = .error e := by
  rcases h.2.2 with h | h
  · exact absurd h.1 he
  · exact h.2
theorem Lc.zero (h : Lc g T a m j xs l e) (he : e = 0) : Lc g T a m j xs l 0 := he ▸ h
theorem tyX_out (l : List Nat) : Out (tyX l) ((decF l).1, (decF l).2.1) (l.drop (decF l).2.2.1) (decF l).2.2.2 := by
  unfold tyX
  by_cases h : (decF l).2.2.2 = 0
  · exact .inl ⟨h, by rw [if_pos h]⟩
  · exact .inr ⟨h, by rw [if_neg h]⟩
theorem inX_out (l : List Nat) : Out (inX l) (decI l).1 (l.drop (decI l).2.1) (decI l).2.2 := by
  unfold inX
  by_cases h : (decI l).2.2 = 0
  · exact .inl ⟨h, by rw [if_pos h]⟩
  · exact .inr ⟨h, by rw [if_neg h]⟩
end
/-! ## The data of a module -/
def fnD (g : FnR) : Int × Int × Int × List Ins := (g.p, g.r, g.l, g.code)
def datM (m : ModR) : List (Int × List Fd) × List (Int × Int × Int × List Ins) := (m.ts.map fun t => (t.len, t.fs), m.gs.map fnD)
def qD (q : FnQ) : Int × Int × Int × List Ins := ((q.1.1.1.2 : Int), (q.1.1.2 : Int), (q.1.2 : Int), q.2)
def datQ (q : ModQ) : List (Int × List Fd) × List (Int × Int × Int × List Ins) := (q.1.2, q.2.map qD)
theorem firstT_dat : ∀ {ts us : List TyR}, (ts.map fun t => (t.len, t.fs)) = (us.map fun t => (t.len, t.fs)) → firstT ts = firstT us
  | [], [], _ => rfl
  | [], _ :: _, h => by simp at h
  | _ :: _, [], h => by simp at h
  | t :: ts, u :: us, h => by
    simp only [List.map_cons, List.cons.injEq, Prod.mk.injEq] at h
    obtain ⟨⟨h1, h2⟩, h3⟩ := h
    rw [firstT, firstT, h1, h2, firstT_dat h3]
theorem fnD_eq {f g : FnR} (h : fnD f = fnD g) : f.p = g.p ∧ f.r = g.r ∧ f.l = g.l ∧ f.code = g.code := by
  unfold fnD at h
  simpa using h
theorem fltF_dat {i : Nat} {f g : FnR} (h : fnD f = fnD g) : fltF i f = fltF i g := by
  obtain ⟨h1, h2, h3, h4⟩ := fnD_eq h
  unfold fltF fnErr
  rw [h1, h2, h3, h4]
theorem firstF_dat : ∀ {i : Nat} {fs gs : List FnR}, fs.map fnD = gs.map fnD → firstF i fs = firstF i gs
  | _, [], [], _ => rfl
  | _, [], _ :: _, h => by simp at h
  | _, _ :: _, [], h => by simp at h
  | i, f :: fs, g :: gs, h => by
    simp only [List.map_cons, List.cons.injEq] at h
    rw [firstF, firstF, fltF_dat h.1, firstF_dat h.2]
theorem len_dat {α β : Type} {f : α → β} {xs ys : List α} (h : xs.map f = ys.map f) : xs.length = ys.length := by
  have := congrArg List.length h
  simpa using this
theorem chkM_dat {m k : ModR} (h : datM m = datM k) : chkM m = chkM k := by
  unfold datM at h
  simp only [Prod.mk.injEq] at h
  have h1 := len_dat h.1
  have h2 := len_dat h.2
  unfold chkM chkP
  rw [firstT_dat h.1, firstF_dat h.2, h1, h2]
/-- A module with these data. -/
def ofD (d : List (Int × List Fd) × List (Int × Int × Int × List Ins)) : ModR := ⟨none, 0, 0, d.1.map fun t => ⟨t.1, none, 0, 0, t.2⟩, none, 0, 0, d.2.map fun f => ⟨f.1, f.2.1, f.2.2.1, none, 0, 0, f.2.2.2⟩⟩
theorem datM_ofD (d : List (Int × List Fd) × List (Int × Int × Int × List Ins)) : datM (ofD d) = d := by
  obtain ⟨a, b⟩ := d
  unfold ofD datM
  simp only [List.map_map]
  congr 1
  · exact (List.map_congr_left fun x _ => rfl).trans (List.map_id _)
  · exact (List.map_congr_left fun x _ => rfl).trans (List.map_id _)
/-- .. and nothing may follow. -/
def decL (l : List Nat) : Except Int ModQ :=
  match decX l with
  | .error e => .error e
  | .ok (q, r) => if r = [] then .ok q else .error 3
theorem decL_err {l : List Nat} {e : Int} (h : decX l = .error e) : decL l = .error e := by unfold decL; rw [h]
theorem decF_err {l : List Nat} (h : ¬ (decF l).2.2.2 = 0) : (decF l).2.2.1 = 0 := by
  unfold decF at *
  by_cases h1 : (smF l 0 65536).2.2 = 0
  · rw [if_pos h1] at h ⊢
    by_cases h2 : (smF l (smF l 0 65536).2.1 32).2.2 = 0
    · rw [if_pos h2] at h ⊢
      by_cases h3 : (rdE l (smF l (smF l 0 65536).2.1 32).1 (smF l (smF l 0 65536).2.1 32).2.1).2.2 = 0
      · rw [if_pos h3] at h ⊢
        split
        · rename_i h4
          rw [if_pos h4] at h
          exact absurd rfl h
        · rfl
      · rw [if_neg h3]
    · rw [if_neg h2]
  · rw [if_neg h1]
def decK (r : Except Int ModQ) : Except Int (List (Int × List Fd) × List (Int × Int × Int × List Ins)) :=
  match r with
  | .error e => .error e
  | .ok q => if (chkM (ofD (datQ q))).1 = 0 then .ok (datQ q) else .error (chkM (ofD (datQ q))).1
/-- The module that bytes are, or the error. -/
def decM (b : List Nat) : Except Int (List (Int × List Fd) × List (Int × Int × Int × List Ins)) :=
  if 65536 < b.length then .error 4 else if ¬ b.take 4 = magicB then .error 3 else decK (decL (b.drop 4))
theorem decK_ok {r : Except Int ModQ} {q : ModQ} {m : ModR} (h : r = .ok q) (hm : datM m = datQ q) : decK r = if (chkM m).1 = 0 then .ok (datM m) else .error (chkM m).1 := by
  subst h
  unfold decK
  dsimp only
  rw [chkM_dat (m := ofD (datQ q)) (k := m) (by rw [datM_ofD, hm]), hm]
end Go.Proofs.YtlbmnioibiomfaaGreat
