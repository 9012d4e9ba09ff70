/- EncodeModule. -/
import Derived.Test.YtehfnjaompkikaaMEnc
import Derived.Test.YtehfnjaompkikaaRTEnc
import Derived.Test.YtehfnjaompkikaaRIns
import Derived.Test.YtehfnjaompkikaaMRChk
namespace Go.Proofs.Ytehfnjaompkikaa
open Go.RowKit Go.Shelf
set_option linter.unusedVariables false
set_option linter.unusedSimpArgs false
set_option maxRecDepth 100000
set_option maxHeartbeats 8000000 in
theorem rmenc_any (m : ModR) (W : World) (hM : Mod W W.heap.size m) : Calls Try.prog 17 #[modV m] W (rowP 5 1 (fun v => .tuple #[v, .int .i64 (errM m)]) (byt (encMod m)) W) := by
  have hlt := hM.tlen
  have hlg := hM.glen
  have hE := hM.ts
  have hty := hM.ty
  have hG := hM.gs
  have hfn := hM.fn
  have harg := hM.arg
  have hno := errM_no (m := m)
  have hbig := errM_big (m := m)
  have hok := errM_ok (m := m)
  have hMat := fun {L : List Res} {w : World} (hw : St [] W L w) => hM.at hw
  have hchk := chkM_ok (m := m)
  have henc : encM m = magicB ++ putU m.ts.length ++ m.ts.flatMap encTy ++ putU m.gs.length ++ m.gs.flatMap encFn := rfl
  obtain ⟨q, hq⟩ : ∃ q, chkM m = q := ⟨_, rfl⟩
  rw [hq] at hno hbig hok hchk
  generalize hem : encM m = em at *
  generalize hme : encMod m = me at *
  generalize her : errM m = er at *
  obtain ⟨TA, tn, tc, ts, FA, fn, fc, gs⟩ := m
  dsimp only at *
  refine calls_cv (M := []) (n := 109) [.tmp 2, .tmp 3] rfl Try.func17 rfl rfl (Nat.le_of_ble_eq_true rfl) (St.nil _ _) ?_
  refine cv_seq_k fun K hK => ?_
  refine cv_region_then rfl ?_
  simp -implicitDefEqProofs (disch := first | omega | decide) only [seval, -Int.reducePow, -Nat.reducePow, cA, cB, pv, binv, fresh, thenQ, blockQ, retQ, Value.oneCell', Value.cells, fBox, tBox, iBox, mBox, gBox, flBox, fdV, tyV, insV, fnV, modV, fltV, fineF, undef, cS, Nat.mul_one]
  intro b1 hb1
  refine hK _ _ ?_
  clear hK K
  refine cv_seq_k fun K hK => ?_
  refine cv_region_then rfl ?_
  simp -implicitDefEqProofs (disch := first | omega | decide) only [seval, -Int.reducePow, -Nat.reducePow, cA, cB, pv, binv, fresh, thenQ, blockQ, retQ, Value.oneCell', Value.cells, fBox, tBox, iBox, mBox, gBox, flBox, fdV, tyV, insV, fnV, modV, fltV, fineF, undef, cS, Nat.mul_one]
  refine callV_ret (fun w hw => rmcheck_any ⟨TA, tn, tc, ts, FA, fn, fc, gs⟩ w (hMat hw)) ?_
  try simp -implicitDefEqProofs (disch := first | omega | decide) only [seval, -Int.reducePow, -Nat.reducePow, cA, cB, pv, binv, fresh, thenQ, blockQ, retQ, Value.oneCell', Value.cells, fBox, tBox, iBox, mBox, gBox, flBox, fdV, tyV, insV, fnV, modV, fltV, fineF, undef, cS, Nat.mul_one, hq]
  intro b4 hb4 h4
  refine hK _ _ ?_
  clear hK K
  refine cv_seq_k fun K hK => ?_
  refine cv_seq_k fun K hK => ?_
  refine cv_region_then rfl ?_
  simp -implicitDefEqProofs (disch := first | omega | decide) only [seval, -Int.reducePow, -Nat.reducePow, cA, cB, pv, binv, fresh, thenQ, blockQ, retQ, Value.oneCell', Value.cells, fBox, tBox, iBox, mBox, gBox, flBox, fdV, tyV, insV, fnV, modV, fltV, fineF, undef, cS, Nat.mul_one]
  refine hK _ _ ?_
  clear hK K
  refine cv_cond ?_
  simp -implicitDefEqProofs (disch := first | omega | decide) only [seval, -Int.reducePow, -Nat.reducePow, cA, cB, pv, binv, fresh, thenQ, blockQ, retQ, Value.oneCell', Value.cells, fBox, tBox, iBox, mBox, gBox, flBox, fdV, tyV, insV, fnV, modV, fltV, fineF, undef, cS, Nat.mul_one]
  refine ⟨fun hc => ?_, fun hc => ?_⟩
  · have hz : ¬ q.1 = 0 := nd_true ‹(!decide (q.1 = 0)) = true›
    refine cv_seq_k fun K hK => ?_
    refine cv_draw [(true, 0), (true, 1), (true, 2), (true, 3)] [] mixA rfl (by kernel_rfl) (by kernel_rfl) rfl rfl ?_
    simp -implicitDefEqProofs (disch := first | omega | decide) only [seval, -Int.reducePow, -Nat.reducePow, cA, cB, pv, binv, fresh, thenQ, blockQ, retQ, Value.oneCell', Value.cells, fBox, tBox, iBox, mBox, gBox, flBox, fdV, tyV, insV, fnV, modV, fltV, fineF, undef, cS, Nat.mul_one]
    refine hK _ _ ?_
    clear hK K
    refine cv_ret ⟨_, (by simp -implicitDefEqProofs (disch := first | omega | decide) only [seval, -Int.reducePow, -Nat.reducePow, cA, cB, pv, binv, fresh, thenQ, blockQ, retQ, Value.oneCell', Value.cells, fBox, tBox, iBox, mBox, gBox, flBox, fdV, tyV, insV, fnV, modV, fltV, fineF, undef, cS, Nat.mul_one]; rfl), fun w hw => ?_⟩
    exact ⟨none, 0, 0, by rw [(hno hz).1], by rw [(hno hz).2]; exact World.ownsRow_nil _ _ _ _, hw.below⟩
  have hz : q.1 = 0 := Decidable.not_not.1 (nd_false ‹(!decide (q.1 = 0)) = false›)
  obtain ⟨k1, k2, k3, k4, k5⟩ := hchk hz
  have e1 := i64v tn (by omega)
  have e2 := i64v fn (by omega)
  refine cv_skip ?_
  try simp only [blockQ, thenQ]
  refine hK _ _ ?_
  clear hK K
  refine cv_seq_k fun K hK => ?_
  refine cv_region_then rfl ?_
  simp -implicitDefEqProofs (disch := first | omega | decide) only [seval, -Int.reducePow, -Nat.reducePow, cA, cB, pv, binv, fresh, thenQ, blockQ, retQ, Value.oneCell', Value.cells, fBox, tBox, iBox, mBox, gBox, flBox, fdV, tyV, insV, fnV, modV, fltV, fineF, undef, cS, Nat.mul_one]
  intro b5 hb5 h5
  refine xv_mark 0 rfl Try.underlying36 Try.underlying5 rfl ?_
  simp -implicitDefEqProofs (disch := first | omega | decide) only [seval, -Int.reducePow, -Nat.reducePow, cA, cB, pv, binv, fresh, thenQ, blockQ, retQ, Value.oneCell', Value.cells, fBox, tBox, iBox, mBox, gBox, flBox, fdV, tyV, insV, fnV, modV, fltV, fineF, undef, cS, Nat.mul_one, e1]
  refine callV_row (fun A' n' c' => .slice A' n' c') (fun w hw => rput_any (some ⟨b5, 0, none⟩) 4 4 magicB tn w (mgOk b5 hw) (by omega) (by omega)) ?_
  intro A1 n1 c1 hl1 _
  simp -implicitDefEqProofs (disch := first | omega | decide) only [seval, -Int.reducePow, -Nat.reducePow, cA, cB, pv, binv, fresh, thenQ, blockQ, retQ, Value.oneCell', Value.cells, fBox, tBox, iBox, mBox, gBox, flBox, fdV, tyV, insV, fnV, modV, fltV, fineF, undef, cS, Nat.mul_one]
  refine hK _ _ ?_
  clear hK K
  have hn1 : n1 ≤ 20 := by have := byt_row hl1; have := putU_len10 (n := tn) (by omega); simp [magicB] at *; omega
  refine cv_pick [0, 3] (by decide) ?_
  simp only [pickL, nth]
  refine cv_seq_k fun K hK => ?_
  refine cv_seq_k fun K hK => ?_
  refine cv_region_then rfl ?_
  simp -implicitDefEqProofs (disch := first | omega | decide) only [seval, -Int.reducePow, -Nat.reducePow, cA, cB, pv, binv, fresh, thenQ, blockQ, retQ, Value.oneCell', Value.cells, fBox, tBox, iBox, mBox, gBox, flBox, fdV, tyV, insV, fnV, modV, fltV, fineF, undef, cS, Nat.mul_one]
  refine hK _ _ ?_
  clear hK K
  refine cv_gen fun G1 hG => ?_
  have g1_1 := congrFun hG 1
  have g1_5 := congrFun hG 5
  have g1_6 := congrFun hG 6
  clear hG
  try simp -implicitDefEqProofs (disch := first | omega | decide) only [seval, -Int.reducePow, -Nat.reducePow, cA, cB, pv, binv, fresh, thenQ, blockQ, retQ, Value.oneCell', Value.cells, fBox, tBox, iBox, mBox, gBox, flBox, fdV, tyV, insV, fnV, modV, fltV, fineF, undef, cS, Nat.mul_one] at g1_1 g1_5 g1_6
  refine cv_block ?_
  refine cv_loop (fun F' L' => ∃ (k : Nat) (A6 : Option Addr) (n6 c6 : Nat), F' 1 = G1 1 ∧ F' 5 = .slice A6 n6 c6 ∧ F' 6 = .int .i64 (k : Int) ∧ L' = [.row (.slice A6 n6 c6) 5 1 n6 (byt (magicB ++ putU tn ++ (ts.take k).flatMap encTy)), mBox b1 ⟨TA, tn, tc, ts, FA, fn, fc, gs⟩] ∧ k ≤ tn ∧ n6 ≤ 20 + 200 * k) (fun F' L' => 40 - (intOf (F' 6)).toNat) ?_ ?_
  · refine ⟨0, A1, n1, c1, ?_⟩
    simp -implicitDefEqProofs (disch := first | omega | decide) only [seval, -Int.reducePow, -Nat.reducePow, cA, cB, pv, binv, fresh, thenQ, blockQ, retQ, Value.oneCell', Value.cells, fBox, tBox, iBox, mBox, gBox, flBox, fdV, tyV, insV, fnV, modV, fltV, fineF, undef, cS, Nat.mul_one, g1_1, g1_5, g1_6]
    simp only [List.flatMap_nil, List.append_nil]
    repeat' (first | with_reducible exact trivial | with_reducible rfl | omega | refine And.intro ?_ ?_)
  intro G2 L' hI
  obtain ⟨k, A6, n6, c6, q1, q5, q6, rfl, ⟨hk, h6⟩⟩ := hI
  have g2_1 := q1.trans g1_1
  have g2_5 := q5
  have g2_6 := q6
  clear q1 q5 q6
  refine cv_seq_k fun K hK => ?_
  refine cv_seq_k fun K hK => ?_
  refine cv_region_then rfl ?_
  simp -implicitDefEqProofs (disch := first | omega | decide) only [seval, -Int.reducePow, -Nat.reducePow, cA, cB, pv, binv, fresh, thenQ, blockQ, retQ, Value.oneCell', Value.cells, fBox, tBox, iBox, mBox, gBox, flBox, fdV, tyV, insV, fnV, modV, fltV, fineF, undef, cS, Nat.mul_one, g1_1, g1_5, g1_6, g2_1, g2_5, g2_6]
  refine hK _ _ ?_
  clear hK K
  refine cv_cond ?_
  simp -implicitDefEqProofs (disch := first | omega | decide) only [seval, -Int.reducePow, -Nat.reducePow, cA, cB, pv, binv, fresh, thenQ, blockQ, retQ, Value.oneCell', Value.cells, fBox, tBox, iBox, mBox, gBox, flBox, fdV, tyV, insV, fnV, modV, fltV, fineF, undef, cS, Nat.mul_one, g1_1, g1_5, g1_6, g2_1, g2_5, g2_6]
  refine ⟨fun hc => ?_, fun hc => ?_⟩
  · refine cv_skip ?_
    try simp only [blockQ, thenQ]
    have hlt2 : k < tn := by have := of_decide_eq_true ‹_›; omega
    obtain ⟨b0, off, rfl, hb0, -⟩ := hE.cells (by omega)
    obtain ⟨x, hx⟩ := some_of (l := ts) (i := k) (by omega)
    have hxm := List.mem_of_getElem? hx
    have hX := hty x hxm
    have hxz := k2 x hxm
    have hxl := (encB_len hxz).1
    refine hK _ _ ?_
    clear hK K
    refine cv_seq_k fun K hK => ?_
    refine cv_block ?_
    refine cv_seq_k fun K hK => ?_
    refine cv_region_then rfl ?_
    simp -implicitDefEqProofs (disch := first | omega | decide) only [seval, -Int.reducePow, -Nat.reducePow, cA, cB, pv, binv, fresh, thenQ, blockQ, retQ, Value.oneCell', Value.cells, fBox, tBox, iBox, mBox, gBox, flBox, fdV, tyV, insV, fnV, modV, fltV, fineF, undef, cS, Nat.mul_one, g1_1, g1_5, g1_6, g2_1, g2_5, g2_6]
    refine ⟨_, hE.tyl hx, fun tok htok => ?_⟩
    subst htok
    simp -implicitDefEqProofs (disch := first | omega | decide) only [seval, -Int.reducePow, -Nat.reducePow, cA, cB, pv, binv, fresh, thenQ, blockQ, retQ, Value.oneCell', Value.cells, fBox, tBox, iBox, mBox, gBox, flBox, fdV, tyV, insV, fnV, modV, fltV, fineF, undef, cS, Nat.mul_one, g1_1, g1_5, g1_6, g2_1, g2_5, g2_6]
    refine callV_row (fun A' n' c' => .tuple #[.slice A' n' c', .int .i64 (chk x.len x.fs)]) (fun w hw => renc_any x.A x.n x.c x.fs x.len w (hX.at hw)) ?_
    intro A8 n8 c8 hl8 _
    rw [encT_eq hxz] at *
    have hn8 : n8 ≤ 198 := by have := byt_row hl8; unfold encTy at this; omega
    simp -implicitDefEqProofs (disch := first | omega | decide) only [seval, -Int.reducePow, -Nat.reducePow, cA, cB, pv, binv, fresh, thenQ, blockQ, retQ, Value.oneCell', Value.cells, fBox, tBox, iBox, mBox, gBox, flBox, fdV, tyV, insV, fnV, modV, fltV, fineF, undef, cS, Nat.mul_one, g1_1, g1_5, g1_6, g2_1, g2_5, g2_6]
    refine hK _ _ ?_
    clear hK K
    refine cv_region_q rfl ?_
    simp -implicitDefEqProofs (disch := first | omega | decide) only [seval, -Int.reducePow, -Nat.reducePow, cA, cB, pv, binv, fresh, thenQ, blockQ, retQ, Value.oneCell', Value.cells, fBox, tBox, iBox, mBox, gBox, flBox, fdV, tyV, insV, fnV, modV, fltV, fineF, undef, cS, Nat.mul_one, g1_1, g1_5, g1_6, g2_1, g2_5, g2_6]
    refine appV_at 1 tap36 rfl (fun w hw => src_row (.head _) hw) (ones_byt _) (by omega) (by omega) ?_
    intro A9 c9 hl9 _
    simp -implicitDefEqProofs (disch := first | omega | decide) only [seval, -Int.reducePow, -Nat.reducePow, cA, cB, pv, binv, fresh, thenQ, blockQ, retQ, Value.oneCell', Value.cells, fBox, tBox, iBox, mBox, gBox, flBox, fdV, tyV, insV, fnV, modV, fltV, fineF, undef, cS, Nat.mul_one, g1_1, g1_5, g1_6, g2_1, g2_5, g2_6]
    refine hK _ _ ?_
    clear hK K
    refine cv_pick [0, 2] (by decide) ?_
    simp only [pickL, nth]
    refine cv_region_then rfl ?_
    simp -implicitDefEqProofs (disch := first | omega | decide) only [seval, -Int.reducePow, -Nat.reducePow, cA, cB, pv, binv, fresh, thenQ, blockQ, retQ, Value.oneCell', Value.cells, fBox, tBox, iBox, mBox, gBox, flBox, fdV, tyV, insV, fnV, modV, fltV, fineF, undef, cS, Nat.mul_one, wrap_in, g1_1, g1_5, g1_6, g2_1, g2_5, g2_6]
    refine ⟨⟨k + 1, A9, n6 + n8, c9, ?_⟩, ?_⟩
    · simp -implicitDefEqProofs (disch := first | omega | decide) only [seval, -Int.reducePow, -Nat.reducePow, cA, cB, pv, binv, fresh, thenQ, blockQ, retQ, Value.oneCell', Value.cells, fBox, tBox, iBox, mBox, gBox, flBox, fdV, tyV, insV, fnV, modV, fltV, fineF, undef, cS, Nat.mul_one, Int.natCast_add, g1_1, g1_5, g1_6, g2_1, g2_5, g2_6]
      rw [flat_snoc encTy hx, ← List.append_assoc (magicB ++ putU tn), byt_append _ (encTy x)]
      exact ⟨rfl, by omega, by omega⟩
    · simp only [intOf]; omega
  refine cv_exit ?_
  simp only [blockQ, thenQ, if_true, ite_true]
  clear hK K
  refine hK _ _ ?_
  clear hK K
  obtain rfl : tn = k := by have := of_decide_eq_false ‹_›; omega
  rw [List.take_of_length_le (by omega)]
  refine cv_len 0 rfl fun hl6 => ?_
  refine cv_seq_k fun K hK => ?_
  refine cv_region_then rfl ?_
  simp -implicitDefEqProofs (disch := first | omega | decide) only [seval, -Int.reducePow, -Nat.reducePow, cA, cB, pv, binv, fresh, thenQ, blockQ, retQ, Value.oneCell', Value.cells, fBox, tBox, iBox, mBox, gBox, flBox, fdV, tyV, insV, fnV, modV, fltV, fineF, undef, cS, Nat.mul_one, e2, g1_1, g1_5, g1_6, g2_1, g2_5, g2_6]
  refine callV_row (fun A' n' c' => .slice A' n' c') (fun w hw => rput_any A6 n6 c6 _ fn w (hw.slb 0 rfl) (by omega) (by omega)) ?_
  intro A9 n9 c9 hl9 _
  simp -implicitDefEqProofs (disch := first | omega | decide) only [seval, -Int.reducePow, -Nat.reducePow, cA, cB, pv, binv, fresh, thenQ, blockQ, retQ, Value.oneCell', Value.cells, fBox, tBox, iBox, mBox, gBox, flBox, fdV, tyV, insV, fnV, modV, fltV, fineF, undef, cS, Nat.mul_one, g1_1, g1_5, g1_6, g2_1, g2_5, g2_6]
  refine hK _ _ ?_
  clear hK K
  have hn9 : n9 ≤ 7000 := by have q1 := byt_row hl9; have q2 := byt_row hl6; have q3 := putU_len10 (n := fn) (by omega); rw [List.length_append] at q1; omega
  refine cv_pick [0, 2] (by decide) ?_
  simp only [pickL, nth]
  generalize hpre : magicB ++ putU tn ++ ts.flatMap encTy ++ putU fn = pre at *
  refine cv_seq_k fun K hK => ?_
  refine cv_seq_k fun K hK => ?_
  refine cv_region_then rfl ?_
  simp -implicitDefEqProofs (disch := first | omega | decide) only [seval, -Int.reducePow, -Nat.reducePow, cA, cB, pv, binv, fresh, thenQ, blockQ, retQ, Value.oneCell', Value.cells, fBox, tBox, iBox, mBox, gBox, flBox, fdV, tyV, insV, fnV, modV, fltV, fineF, undef, cS, Nat.mul_one, g1_1, g1_5, g1_6, g2_1, g2_5, g2_6]
  refine hK _ _ ?_
  clear hK K
  refine cv_gen fun G3 hG => ?_
  have g3_1 := congrFun hG 1
  have g3_5 := congrFun hG 5
  have g3_9 := congrFun hG 9
  clear hG
  try simp -implicitDefEqProofs (disch := first | omega | decide) only [seval, -Int.reducePow, -Nat.reducePow, cA, cB, pv, binv, fresh, thenQ, blockQ, retQ, Value.oneCell', Value.cells, fBox, tBox, iBox, mBox, gBox, flBox, fdV, tyV, insV, fnV, modV, fltV, fineF, undef, cS, Nat.mul_one, g1_1, g1_5, g1_6, g2_1, g2_5, g2_6] at g3_1 g3_5 g3_9
  refine cv_block ?_
  refine cv_loop (fun F' L' => ∃ (k : Nat) (A6 : Option Addr) (n6 c6 : Nat), F' 1 = G3 1 ∧ F' 5 = .slice A6 n6 c6 ∧ F' 9 = .int .i64 (k : Int) ∧ L' = [.row (.slice A6 n6 c6) 5 1 n6 (byt (pre ++ (gs.take k).flatMap encFn)), mBox b1 ⟨TA, tn, tc, ts, FA, fn, fc, gs⟩] ∧ k ≤ fn ∧ n6 ≤ 7000 + 12000 * k) (fun F' L' => 40 - (intOf (F' 9)).toNat) ?_ ?_
  · refine ⟨0, A9, n9, c9, ?_⟩
    simp -implicitDefEqProofs (disch := first | omega | decide) only [seval, -Int.reducePow, -Nat.reducePow, cA, cB, pv, binv, fresh, thenQ, blockQ, retQ, Value.oneCell', Value.cells, fBox, tBox, iBox, mBox, gBox, flBox, fdV, tyV, insV, fnV, modV, fltV, fineF, undef, cS, Nat.mul_one, g1_1, g1_5, g1_6, g2_1, g2_5, g2_6, g3_1, g3_5, g3_9]
    simp only [List.flatMap_nil, List.append_nil]
    repeat' (first | with_reducible exact trivial | with_reducible rfl | omega | refine And.intro ?_ ?_)
  intro G4 L' hI
  obtain ⟨k, A6, n6, c6, q1, q5, q9, rfl, ⟨hk, h6⟩⟩ := hI
  have g4_1 := q1.trans g3_1
  have g4_5 := q5
  have g4_9 := q9
  clear q1 q5 q9
  refine cv_seq_k fun K hK => ?_
  refine cv_seq_k fun K hK => ?_
  refine cv_region_then rfl ?_
  simp -implicitDefEqProofs (disch := first | omega | decide) only [seval, -Int.reducePow, -Nat.reducePow, cA, cB, pv, binv, fresh, thenQ, blockQ, retQ, Value.oneCell', Value.cells, fBox, tBox, iBox, mBox, gBox, flBox, fdV, tyV, insV, fnV, modV, fltV, fineF, undef, cS, Nat.mul_one, g1_1, g1_5, g1_6, g2_1, g2_5, g2_6, g3_1, g3_5, g3_9, g4_1, g4_5, g4_9]
  refine hK _ _ ?_
  clear hK K
  refine cv_cond ?_
  simp -implicitDefEqProofs (disch := first | omega | decide) only [seval, -Int.reducePow, -Nat.reducePow, cA, cB, pv, binv, fresh, thenQ, blockQ, retQ, Value.oneCell', Value.cells, fBox, tBox, iBox, mBox, gBox, flBox, fdV, tyV, insV, fnV, modV, fltV, fineF, undef, cS, Nat.mul_one, g1_1, g1_5, g1_6, g2_1, g2_5, g2_6, g3_1, g3_5, g3_9, g4_1, g4_5, g4_9]
  refine ⟨fun hc => ?_, fun hc => ?_⟩
  · refine cv_skip ?_
    try simp only [blockQ, thenQ]
    have hlt2 : k < fn := by have := of_decide_eq_true ‹decide ((k : Int) < (fn : Int)) = true›; omega
    obtain ⟨b0, off, rfl, hb0, -⟩ := hG.cells (by omega)
    obtain ⟨x, hx⟩ := some_of (l := gs) (i := k) (by omega)
    have hxm := List.mem_of_getElem? hx
    have hX := hfn x hxm
    have hxi := k5 k x hx
    have hxa := harg x hxm
    have hxl : x.code.length = x.n := cl_row insc_len (by omega) hX.len
    have hsn := flat_snoc encFn hx
    have henx : encFn x = [x.p.toNat, x.r.toNat, x.l.toNat, x.code.length].flatMap putU ++ x.code.flatMap encI := rfl
    generalize hex : encFn x = ex at *
    have hxf := fnErr_ok hxi.1
    have hld := hG.fnl (L := [.row (.slice A6 n6 c6) 5 1 n6 (byt (pre ++ (gs.take k).flatMap encFn)), mBox b1 ⟨TA, tn, tc, ts, some ⟨b0, off, none⟩, fn, fc, gs⟩]) hx
    have hxi2 := hxi.2
    clear hx hxm hxi
    obtain ⟨xp, xr, xl, xA, xn, xc, code⟩ := x
    dsimp only at *
    obtain ⟨p, rfl⟩ := Int.eq_ofNat_of_zero_le hxf.1
    obtain ⟨r, rfl⟩ := Int.eq_ofNat_of_zero_le hxf.2.1
    obtain ⟨l, rfl⟩ := Int.eq_ofNat_of_zero_le hxf.2.2.1
    simp only [Int.toNat_natCast] at henx
    rw [hxl] at henx
    generalize hpg : pre ++ (gs.take k).flatMap encFn = pg at *
    have ep := i64v p (by omega)
    have er := i64v r (by omega)
    have el := i64v l (by omega)
    have en := i64v xn (by omega)
    have bp := putU_len10 (n := p) (by omega)
    have br := putU_len10 (n := r) (by omega)
    have bl := putU_len10 (n := l) (by omega)
    have bn := putU_len10 (n := xn) (by omega)
    refine hK _ _ ?_
    clear hK K
    refine cv_len 0 rfl fun hl0 => ?_
    refine cv_seq_k fun K hK => ?_
    refine cv_block ?_
    refine cv_seq_k fun K hK => ?_
    refine cv_region_then rfl ?_
    simp -implicitDefEqProofs (disch := first | omega | decide) only [seval, -Int.reducePow, -Nat.reducePow, cA, cB, pv, binv, fresh, thenQ, blockQ, retQ, Value.oneCell', Value.cells, fBox, tBox, iBox, mBox, gBox, flBox, fdV, tyV, insV, fnV, modV, fltV, fineF, undef, cS, Nat.mul_one, g1_1, g1_5, g1_6, g2_1, g2_5, g2_6, g3_1, g3_5, g3_9, g4_1, g4_5, g4_9]
    refine ⟨_, hld, fun tok htok => ?_⟩
    subst htok
    simp -implicitDefEqProofs (disch := first | omega | decide) only [seval, -Int.reducePow, -Nat.reducePow, cA, cB, pv, binv, fresh, thenQ, blockQ, retQ, Value.oneCell', Value.cells, fBox, tBox, iBox, mBox, gBox, flBox, fdV, tyV, insV, fnV, modV, fltV, fineF, undef, cS, Nat.mul_one, g1_1, g1_5, g1_6, g2_1, g2_5, g2_6, g3_1, g3_5, g3_9, g4_1, g4_5, g4_9]
    intro b11 hb11 h11
    refine hK _ _ ?_
    clear hK K
    refine cv_seq_k fun K hK => ?_
    refine cv_region_then rfl ?_
    simp -implicitDefEqProofs (disch := first | omega | decide) only [seval, -Int.reducePow, -Nat.reducePow, cA, cB, pv, binv, fresh, thenQ, blockQ, retQ, Value.oneCell', Value.cells, fBox, tBox, iBox, mBox, gBox, flBox, fdV, tyV, insV, fnV, modV, fltV, fineF, undef, cS, Nat.mul_one, ep, g1_1, g1_5, g1_6, g2_1, g2_5, g2_6, g3_1, g3_5, g3_9, g4_1, g4_5, g4_9]
    refine callV_row (fun A' n' c' => .slice A' n' c') (fun w hw => rput_any A6 n6 c6 _ p w (hw.slb 1 rfl) (by omega) (by omega)) ?_
    intro A7 n7 c7 hl7 _
    have hn7 : n7 ≤ n6 + 10 := by have q1 := byt_row hl7; have q2 := byt_row hl0; rw [List.length_append] at q1; omega
    simp -implicitDefEqProofs (disch := first | omega | decide) only [seval, -Int.reducePow, -Nat.reducePow, cA, cB, pv, binv, fresh, thenQ, blockQ, retQ, Value.oneCell', Value.cells, fBox, tBox, iBox, mBox, gBox, flBox, fdV, tyV, insV, fnV, modV, fltV, fineF, undef, cS, Nat.mul_one, g1_1, g1_5, g1_6, g2_1, g2_5, g2_6, g3_1, g3_5, g3_9, g4_1, g4_5, g4_9]
    refine hK _ _ ?_
    clear hK K
    refine cv_pick [0, 1, 3] (by decide) ?_
    simp only [pickL, nth]
    refine cv_seq_k fun K hK => ?_
    refine cv_region_then rfl ?_
    simp -implicitDefEqProofs (disch := first | omega | decide) only [seval, -Int.reducePow, -Nat.reducePow, cA, cB, pv, binv, fresh, thenQ, blockQ, retQ, Value.oneCell', Value.cells, fBox, tBox, iBox, mBox, gBox, flBox, fdV, tyV, insV, fnV, modV, fltV, fineF, undef, cS, Nat.mul_one, er, g1_1, g1_5, g1_6, g2_1, g2_5, g2_6, g3_1, g3_5, g3_9, g4_1, g4_5, g4_9]
    refine callV_row (fun A' n' c' => .slice A' n' c') (fun w hw => rput_any A7 n7 c7 _ r w (hw.slb 0 rfl) (by omega) (by omega)) ?_
    intro A8 n8 c8 hl8 _
    have hn8 : n8 ≤ n7 + 10 := by have q1 := byt_row hl8; have q2 := byt_row hl7; rw [List.length_append] at q1; omega
    simp -implicitDefEqProofs (disch := first | omega | decide) only [seval, -Int.reducePow, -Nat.reducePow, cA, cB, pv, binv, fresh, thenQ, blockQ, retQ, Value.oneCell', Value.cells, fBox, tBox, iBox, mBox, gBox, flBox, fdV, tyV, insV, fnV, modV, fltV, fineF, undef, cS, Nat.mul_one, g1_1, g1_5, g1_6, g2_1, g2_5, g2_6, g3_1, g3_5, g3_9, g4_1, g4_5, g4_9]
    refine hK _ _ ?_
    clear hK K
    refine cv_pick [0, 2, 3] (by decide) ?_
    simp only [pickL, nth]
    refine cv_seq_k fun K hK => ?_
    refine cv_region_then rfl ?_
    simp -implicitDefEqProofs (disch := first | omega | decide) only [seval, -Int.reducePow, -Nat.reducePow, cA, cB, pv, binv, fresh, thenQ, blockQ, retQ, Value.oneCell', Value.cells, fBox, tBox, iBox, mBox, gBox, flBox, fdV, tyV, insV, fnV, modV, fltV, fineF, undef, cS, Nat.mul_one, el, g1_1, g1_5, g1_6, g2_1, g2_5, g2_6, g3_1, g3_5, g3_9, g4_1, g4_5, g4_9]
    refine callV_row (fun A' n' c' => .slice A' n' c') (fun w hw => rput_any A8 n8 c8 _ l w (hw.slb 0 rfl) (by omega) (by omega)) ?_
    intro A10 n10 c10 hl10 _
    have hn10 : n10 ≤ n8 + 10 := by have q1 := byt_row hl10; have q2 := byt_row hl8; rw [List.length_append] at q1; omega
    simp -implicitDefEqProofs (disch := first | omega | decide) only [seval, -Int.reducePow, -Nat.reducePow, cA, cB, pv, binv, fresh, thenQ, blockQ, retQ, Value.oneCell', Value.cells, fBox, tBox, iBox, mBox, gBox, flBox, fdV, tyV, insV, fnV, modV, fltV, fineF, undef, cS, Nat.mul_one, g1_1, g1_5, g1_6, g2_1, g2_5, g2_6, g3_1, g3_5, g3_9, g4_1, g4_5, g4_9]
    refine hK _ _ ?_
    clear hK K
    refine cv_pick [0, 2, 3] (by decide) ?_
    simp only [pickL, nth]
    refine cv_seq_k fun K hK => ?_
    refine cv_region_then rfl ?_
    simp -implicitDefEqProofs (disch := first | omega | decide) only [seval, -Int.reducePow, -Nat.reducePow, cA, cB, pv, binv, fresh, thenQ, blockQ, retQ, Value.oneCell', Value.cells, fBox, tBox, iBox, mBox, gBox, flBox, fdV, tyV, insV, fnV, modV, fltV, fineF, undef, cS, Nat.mul_one, en, g1_1, g1_5, g1_6, g2_1, g2_5, g2_6, g3_1, g3_5, g3_9, g4_1, g4_5, g4_9]
    refine callV_row (fun A' n' c' => .slice A' n' c') (fun w hw => rput_any A10 n10 c10 _ xn w (hw.slb 0 rfl) (by omega) (by omega)) ?_
    intro A11 n11 c11 hl11 _
    have hn11 : n11 ≤ n10 + 10 := by have q1 := byt_row hl11; have q2 := byt_row hl10; rw [List.length_append] at q1; omega
    simp -implicitDefEqProofs (disch := first | omega | decide) only [seval, -Int.reducePow, -Nat.reducePow, cA, cB, pv, binv, fresh, thenQ, blockQ, retQ, Value.oneCell', Value.cells, fBox, tBox, iBox, mBox, gBox, flBox, fdV, tyV, insV, fnV, modV, fltV, fineF, undef, cS, Nat.mul_one, g1_1, g1_5, g1_6, g2_1, g2_5, g2_6, g3_1, g3_5, g3_9, g4_1, g4_5, g4_9]
    refine hK _ _ ?_
    clear hK K
    refine cv_pick [0, 2, 3] (by decide) ?_
    simp only [pickL, nth]
    have hpe : pg ++ putU p ++ putU r ++ putU l ++ putU xn = pg ++ [p, r, l, xn].flatMap putU := by simp
    rw [hpe]
    refine cv_seq_k fun K hK => ?_
    refine cv_region_then rfl ?_
    simp -implicitDefEqProofs (disch := first | omega | decide) only [seval, -Int.reducePow, -Nat.reducePow, cA, cB, pv, binv, fresh, thenQ, blockQ, retQ, Value.oneCell', Value.cells, fBox, tBox, iBox, mBox, gBox, flBox, fdV, tyV, insV, fnV, modV, fltV, fineF, undef, cS, Nat.mul_one, g1_1, g1_5, g1_6, g2_1, g2_5, g2_6, g3_1, g3_5, g3_9, g4_1, g4_5, g4_9]
    refine hK _ _ ?_
    clear hK K
    refine cv_gen fun G5 hG => ?_
    have g5_1 := congrFun hG 1
    have g5_5 := congrFun hG 5
    have g5_9 := congrFun hG 9
    have g5_10 := congrFun hG 10
    have g5_11 := congrFun hG 11
    clear hG
    try simp -implicitDefEqProofs (disch := first | omega | decide) only [seval, -Int.reducePow, -Nat.reducePow, cA, cB, pv, binv, fresh, thenQ, blockQ, retQ, Value.oneCell', Value.cells, fBox, tBox, iBox, mBox, gBox, flBox, fdV, tyV, insV, fnV, modV, fltV, fineF, undef, cS, Nat.mul_one, g1_1, g1_5, g1_6, g2_1, g2_5, g2_6, g3_1, g3_5, g3_9, g4_1, g4_5, g4_9] at g5_1 g5_5 g5_9 g5_10 g5_11
    refine cv_block ?_
    refine cv_loop (fun F' L' => ∃ (j : Nat) (A7 : Option Addr) (n7 c7 : Nat), F' 1 = G5 1 ∧ F' 5 = .slice A7 n7 c7 ∧ F' 9 = G5 9 ∧ F' 10 = G5 10 ∧ F' 11 = .int .i64 (j : Int) ∧ L' = [.row (.slice A7 n7 c7) 5 1 n7 (byt (pg ++ [p, r, l, xn].flatMap putU ++ (code.take j).flatMap encI)), .blk b11 43 [.int .i64 (p : Int), .int .i64 (r : Int), .int .i64 (l : Int), .slice xA xn xc], mBox b1 ⟨TA, tn, tc, ts, some ⟨b0, off, none⟩, fn, fc, gs⟩] ∧ j ≤ xn ∧ n7 ≤ 7000 + 12000 * k + 40 + 11 * j) (fun F' L' => 1100 - (intOf (F' 11)).toNat) ?_ ?_
    · refine ⟨0, A11, n11, c11, ?_⟩
      simp -implicitDefEqProofs (disch := first | omega | decide) only [seval, -Int.reducePow, -Nat.reducePow, cA, cB, pv, binv, fresh, thenQ, blockQ, retQ, Value.oneCell', Value.cells, fBox, tBox, iBox, mBox, gBox, flBox, fdV, tyV, insV, fnV, modV, fltV, fineF, undef, cS, Nat.mul_one, g1_1, g1_5, g1_6, g2_1, g2_5, g2_6, g3_1, g3_5, g3_9, g4_1, g4_5, g4_9, g5_1, g5_5, g5_9, g5_10, g5_11]
      simp only [List.flatMap_nil, List.append_nil]
      repeat' (first | with_reducible exact trivial | with_reducible rfl | omega | refine And.intro ?_ ?_)
    intro G6 L' hI
    obtain ⟨j, A7, n7, c7, q1, q5, q9, q10, q11, rfl, ⟨hj, h7⟩⟩ := hI
    have g6_1 := q1.trans g5_1
    have g6_5 := q5
    have g6_9 := q9.trans g5_9
    have g6_10 := q10.trans g5_10
    have g6_11 := q11
    clear q1 q5 q9 q10 q11
    refine cv_seq_k fun K hK => ?_
    refine cv_seq_k fun K hK => ?_
    refine cv_region_then rfl ?_
    simp -implicitDefEqProofs (disch := first | omega | decide) only [seval, -Int.reducePow, -Nat.reducePow, cA, cB, pv, binv, fresh, thenQ, blockQ, retQ, Value.oneCell', Value.cells, fBox, tBox, iBox, mBox, gBox, flBox, fdV, tyV, insV, fnV, modV, fltV, fineF, undef, cS, Nat.mul_one, g1_1, g1_5, g1_6, g2_1, g2_5, g2_6, g3_1, g3_5, g3_9, g4_1, g4_5, g4_9, g5_1, g5_5, g5_9, g5_10, g5_11, g6_1, g6_5, g6_9, g6_10, g6_11]
    refine hK _ _ ?_
    clear hK K
    refine cv_cond ?_
    simp -implicitDefEqProofs (disch := first | omega | decide) only [seval, -Int.reducePow, -Nat.reducePow, cA, cB, pv, binv, fresh, thenQ, blockQ, retQ, Value.oneCell', Value.cells, fBox, tBox, iBox, mBox, gBox, flBox, fdV, tyV, insV, fnV, modV, fltV, fineF, undef, cS, Nat.mul_one, g1_1, g1_5, g1_6, g2_1, g2_5, g2_6, g3_1, g3_5, g3_9, g4_1, g4_5, g4_9, g5_1, g5_5, g5_9, g5_10, g5_11, g6_1, g6_5, g6_9, g6_10, g6_11]
    refine ⟨fun hc => ?_, fun hc => ?_⟩
    · refine cv_skip ?_
      try simp only [blockQ, thenQ]
      have hjt : j < xn := by have := of_decide_eq_true ‹decide ((j : Int) < (xn : Int)) = true›; omega
      obtain ⟨xb, xo, hxA, hxb, -⟩ := hX.cells (by omega)
      subst hxA
      obtain ⟨y, hy⟩ := some_of (l := code) (i := j) (by omega)
      have hym := List.mem_of_getElem? hy
      have hyz := hxi2 y hym
      have hya := hxa y hym
      refine hK _ _ ?_
      clear hK K
      refine cv_seq_k fun K hK => ?_
      refine cv_block ?_
      refine cv_seq_k fun K hK => ?_
      refine cv_region_then rfl ?_
      simp -implicitDefEqProofs (disch := first | omega | decide) only [seval, -Int.reducePow, -Nat.reducePow, cA, cB, pv, binv, fresh, thenQ, blockQ, retQ, Value.oneCell', Value.cells, fBox, tBox, iBox, mBox, gBox, flBox, fdV, tyV, insV, fnV, modV, fltV, fineF, undef, cS, Nat.mul_one, g1_1, g1_5, g1_6, g2_1, g2_5, g2_6, g3_1, g3_5, g3_9, g4_1, g4_5, g4_9, g5_1, g5_5, g5_9, g5_10, g5_11, g6_1, g6_5, g6_9, g6_10, g6_11]
      refine ⟨_, hX.ins hy, fun tok htok => ?_⟩
      subst htok
      simp -implicitDefEqProofs (disch := first | omega | decide) only [seval, -Int.reducePow, -Nat.reducePow, cA, cB, pv, binv, fresh, thenQ, blockQ, retQ, Value.oneCell', Value.cells, fBox, tBox, iBox, mBox, gBox, flBox, fdV, tyV, insV, fnV, modV, fltV, fineF, undef, cS, Nat.mul_one, g1_1, g1_5, g1_6, g2_1, g2_5, g2_6, g3_1, g3_5, g3_9, g4_1, g4_5, g4_9, g5_1, g5_5, g5_9, g5_10, g5_11, g6_1, g6_5, g6_9, g6_10, g6_11]
      refine callV_row (fun A' n' c' => .tuple #[.slice A' n' c', .int .i64 y.err]) (fun w hw => r_ienc_any y w hya) ?_
      intro A8 n8 c8 hl8 _
      rw [encIE_eq hyz] at *
      have hn8 : n8 ≤ 11 := by have := byt_row hl8; have := encI_len hya; omega
      simp -implicitDefEqProofs (disch := first | omega | decide) only [seval, -Int.reducePow, -Nat.reducePow, cA, cB, pv, binv, fresh, thenQ, blockQ, retQ, Value.oneCell', Value.cells, fBox, tBox, iBox, mBox, gBox, flBox, fdV, tyV, insV, fnV, modV, fltV, fineF, undef, cS, Nat.mul_one, g1_1, g1_5, g1_6, g2_1, g2_5, g2_6, g3_1, g3_5, g3_9, g4_1, g4_5, g4_9, g5_1, g5_5, g5_9, g5_10, g5_11, g6_1, g6_5, g6_9, g6_10, g6_11]
      refine hK _ _ ?_
      clear hK K
      refine cv_region_q rfl ?_
      simp -implicitDefEqProofs (disch := first | omega | decide) only [seval, -Int.reducePow, -Nat.reducePow, cA, cB, pv, binv, fresh, thenQ, blockQ, retQ, Value.oneCell', Value.cells, fBox, tBox, iBox, mBox, gBox, flBox, fdV, tyV, insV, fnV, modV, fltV, fineF, undef, cS, Nat.mul_one, g1_1, g1_5, g1_6, g2_1, g2_5, g2_6, g3_1, g3_5, g3_9, g4_1, g4_5, g4_9, g5_1, g5_5, g5_9, g5_10, g5_11, g6_1, g6_5, g6_9, g6_10, g6_11]
      refine appV_at 1 tap36 rfl (fun w hw => src_row (.head _) hw) (ones_byt _) (by omega) (by omega) ?_
      intro A9 c9 hl9 _
      simp -implicitDefEqProofs (disch := first | omega | decide) only [seval, -Int.reducePow, -Nat.reducePow, cA, cB, pv, binv, fresh, thenQ, blockQ, retQ, Value.oneCell', Value.cells, fBox, tBox, iBox, mBox, gBox, flBox, fdV, tyV, insV, fnV, modV, fltV, fineF, undef, cS, Nat.mul_one, g1_1, g1_5, g1_6, g2_1, g2_5, g2_6, g3_1, g3_5, g3_9, g4_1, g4_5, g4_9, g5_1, g5_5, g5_9, g5_10, g5_11, g6_1, g6_5, g6_9, g6_10, g6_11]
      refine hK _ _ ?_
      clear hK K
      refine cv_pick [0, 2, 3] (by decide) ?_
      simp only [pickL, nth]
      refine cv_region_then rfl ?_
      simp -implicitDefEqProofs (disch := first | omega | decide) only [seval, -Int.reducePow, -Nat.reducePow, cA, cB, pv, binv, fresh, thenQ, blockQ, retQ, Value.oneCell', Value.cells, fBox, tBox, iBox, mBox, gBox, flBox, fdV, tyV, insV, fnV, modV, fltV, fineF, undef, cS, Nat.mul_one, wrap_in, g1_1, g1_5, g1_6, g2_1, g2_5, g2_6, g3_1, g3_5, g3_9, g4_1, g4_5, g4_9, g5_1, g5_5, g5_9, g5_10, g5_11, g6_1, g6_5, g6_9, g6_10, g6_11]
      refine ⟨⟨j + 1, A9, n7 + n8, c9, ?_⟩, ?_⟩
      · simp -implicitDefEqProofs (disch := first | omega | decide) only [seval, -Int.reducePow, -Nat.reducePow, cA, cB, pv, binv, fresh, thenQ, blockQ, retQ, Value.oneCell', Value.cells, fBox, tBox, iBox, mBox, gBox, flBox, fdV, tyV, insV, fnV, modV, fltV, fineF, undef, cS, Nat.mul_one, Int.natCast_add, g1_1, g1_5, g1_6, g2_1, g2_5, g2_6, g3_1, g3_5, g3_9, g4_1, g4_5, g4_9, g5_1, g5_5, g5_9, g5_10, g5_11, g6_1, g6_5, g6_9, g6_10, g6_11]
        rw [flat_snoc encI hy, ← List.append_assoc (pg ++ _), byt_append _ (encI y)]
        exact ⟨rfl, by omega, by omega⟩
      · simp only [intOf]; omega
    refine cv_exit ?_
    simp only [blockQ, thenQ, if_true, ite_true]
    clear hK K
    refine hK _ _ ?_
    clear hK K
    obtain rfl : j = xn := by have := of_decide_eq_false ‹decide ((j : Int) < (xn : Int)) = false›; omega
    rw [List.take_of_length_le (by omega), List.append_assoc, ← henx, ← hpg, List.append_assoc, ← hsn]
    refine cv_pick [0, 2] (by decide) ?_
    simp only [pickL, nth]
    refine cv_region_then rfl ?_
    simp -implicitDefEqProofs (disch := first | omega | decide) only [seval, -Int.reducePow, -Nat.reducePow, cA, cB, pv, binv, fresh, thenQ, blockQ, retQ, Value.oneCell', Value.cells, fBox, tBox, iBox, mBox, gBox, flBox, fdV, tyV, insV, fnV, modV, fltV, fineF, undef, cS, Nat.mul_one, wrap_in, g1_1, g1_5, g1_6, g2_1, g2_5, g2_6, g3_1, g3_5, g3_9, g4_1, g4_5, g4_9, g5_1, g5_5, g5_9, g5_10, g5_11, g6_1, g6_5, g6_9, g6_10, g6_11]
    refine ⟨⟨k + 1, A7, n7, c7, ?_⟩, ?_⟩
    · simp -implicitDefEqProofs (disch := first | omega | decide) only [seval, -Int.reducePow, -Nat.reducePow, cA, cB, pv, binv, fresh, thenQ, blockQ, retQ, Value.oneCell', Value.cells, fBox, tBox, iBox, mBox, gBox, flBox, fdV, tyV, insV, fnV, modV, fltV, fineF, undef, cS, Nat.mul_one, Int.natCast_add, g1_1, g1_5, g1_6, g2_1, g2_5, g2_6, g3_1, g3_5, g3_9, g4_1, g4_5, g4_9, g5_1, g5_5, g5_9, g5_10, g5_11, g6_1, g6_5, g6_9, g6_10, g6_11]
      repeat' (first | with_reducible exact trivial | with_reducible rfl | omega | refine And.intro ?_ ?_)
    · simp only [intOf]; omega
  refine cv_exit ?_
  simp only [blockQ, thenQ, if_true, ite_true]
  clear hK K
  refine hK _ _ ?_
  clear hK K
  obtain rfl : fn = k := by have := of_decide_eq_false ‹decide ((k : Int) < (fn : Int)) = false›; omega
  rw [List.take_of_length_le (by omega)]
  rw [hlt, hlg, hpre] at henc
  rw [← henc]
  refine cv_len 0 rfl fun hl => ?_
  have hl := byt_row hl
  refine cv_seq_k fun K hK => ?_
  refine cv_seq_k fun K hK => ?_
  refine cv_region_then rfl ?_
  simp -implicitDefEqProofs (disch := first | omega | decide) only [seval, -Int.reducePow, -Nat.reducePow, cA, cB, pv, binv, fresh, thenQ, blockQ, retQ, Value.oneCell', Value.cells, fBox, tBox, iBox, mBox, gBox, flBox, fdV, tyV, insV, fnV, modV, fltV, fineF, undef, cS, Nat.mul_one, g1_1, g1_5, g1_6, g2_1, g2_5, g2_6, g3_1, g3_5, g3_9, g4_1, g4_5, g4_9]
  refine hK _ _ ?_
  clear hK K
  refine cv_cond ?_
  simp -implicitDefEqProofs (disch := first | omega | decide) only [seval, -Int.reducePow, -Nat.reducePow, cA, cB, pv, binv, fresh, thenQ, blockQ, retQ, Value.oneCell', Value.cells, fBox, tBox, iBox, mBox, gBox, flBox, fdV, tyV, insV, fnV, modV, fltV, fineF, undef, cS, Nat.mul_one, g1_1, g1_5, g1_6, g2_1, g2_5, g2_6, g3_1, g3_5, g3_9, g4_1, g4_5, g4_9]
  refine ⟨fun hc => ?_, fun hc => ?_⟩
  · have h2 : 65536 < em.length := by have := of_decide_eq_true ‹decide ((65536 : Int) < (n6 : Int)) = true›; omega
    refine cv_seq_k fun K hK => ?_
    refine cv_region_then rfl ?_
    simp -implicitDefEqProofs (disch := first | omega | decide) only [seval, -Int.reducePow, -Nat.reducePow, cA, cB, pv, binv, fresh, thenQ, blockQ, retQ, Value.oneCell', Value.cells, fBox, tBox, iBox, mBox, gBox, flBox, fdV, tyV, insV, fnV, modV, fltV, fineF, undef, cS, Nat.mul_one, g1_1, g1_5, g1_6, g2_1, g2_5, g2_6, g3_1, g3_5, g3_9, g4_1, g4_5, g4_9]
    refine hK _ _ ?_
    clear hK K
    refine cv_ret ⟨_, (by simp -implicitDefEqProofs (disch := first | omega | decide) only [seval, -Int.reducePow, -Nat.reducePow, cA, cB, pv, binv, fresh, thenQ, blockQ, retQ, Value.oneCell', Value.cells, fBox, tBox, iBox, mBox, gBox, flBox, fdV, tyV, insV, fnV, modV, fltV, fineF, undef, cS, Nat.mul_one, g1_1, g1_5, g1_6, g2_1, g2_5, g2_6, g3_1, g3_5, g3_9, g4_1, g4_5, g4_9]; rfl), fun w hw => ?_⟩
    exact ⟨none, 0, 0, by rw [(hbig hz h2).1], by rw [(hbig hz h2).2]; exact World.ownsRow_nil _ _ _ _, hw.below⟩
  have h2 : ¬ 65536 < em.length := by have := of_decide_eq_false ‹decide ((65536 : Int) < (n6 : Int)) = false›; omega
  refine cv_skip ?_
  try simp only [blockQ, thenQ]
  refine hK _ _ ?_
  clear hK K
  refine cv_seq_k fun K hK => ?_
  refine cv_region_then rfl ?_
  simp -implicitDefEqProofs (disch := first | omega | decide) only [seval, -Int.reducePow, -Nat.reducePow, cA, cB, pv, binv, fresh, thenQ, blockQ, retQ, Value.oneCell', Value.cells, fBox, tBox, iBox, mBox, gBox, flBox, fdV, tyV, insV, fnV, modV, fltV, fineF, undef, cS, Nat.mul_one, g1_1, g1_5, g1_6, g2_1, g2_5, g2_6, g3_1, g3_5, g3_9, g4_1, g4_5, g4_9]
  refine hK _ _ ?_
  clear hK K
  refine cv_ret ⟨_, (by simp -implicitDefEqProofs (disch := first | omega | decide) only [seval, -Int.reducePow, -Nat.reducePow, cA, cB, pv, binv, fresh, thenQ, blockQ, retQ, Value.oneCell', Value.cells, fBox, tBox, iBox, mBox, gBox, flBox, fdV, tyV, insV, fnV, modV, fltV, fineF, undef, cS, Nat.mul_one, g1_1, g1_5, g1_6, g2_1, g2_5, g2_6, g3_1, g3_5, g3_9, g4_1, g4_5, g4_9]; rfl), fun w hw => ?_⟩
  exact ⟨A6, n6, c6, by rw [(hok hz h2).1], by rw [(hok hz h2).2]; exact hw.rowNew (by simp), hw.below⟩
end Go.Proofs.Ytehfnjaompkikaa
