/- module.Encode and EncodeModule. -/
import Derived.Test.YtehfnjaompkikaaMChk
import Derived.Test.YtehfnjaompkikaaTEnc
import Derived.Test.YtehfnjaompkikaaEng10
namespace Go.Proofs.Ytehfnjaompkikaa
open Go.RowKit Go.Shelf
set_option linter.unusedVariables false
set_option linter.unusedSimpArgs false
set_option maxRecDepth 100000
def encTy (t : TyR) : List Nat := encB t.len t.fs
def encFn (f : FnR) : List Nat := [f.p.toNat, f.r.toNat, f.l.toNat, f.code.length].flatMap putU ++ f.code.flatMap encI
def magicB : List Nat := [80, 72, 77, 49]
def encM (m : ModR) : List Nat := magicB ++ putU m.ts.length ++ m.ts.flatMap encTy ++ putU m.gs.length ++ m.gs.flatMap encFn
def errM (m : ModR) : Int := if (chkM m).1 = 0 then (if 65536 < (encM m).length then 4 else 0) else (chkM m).1
def encMod (m : ModR) : List Nat := if errM m = 0 then encM m else []
theorem flat_snoc {α β : Type} {l : List α} {k : Nat} {x : α} (f : α → List β) (h : l[k]? = some x) : (l.take (k + 1)).flatMap f = (l.take k).flatMap f ++ f x := by
  obtain ⟨hk, hf⟩ := List.getElem?_eq_some_iff.1 h
  rw [List.take_succ_eq_append_getElem hk, hf, List.flatMap_append]
  simp
theorem byt_append (l m : List Nat) : byt (l ++ m) = byt l ++ byt m := by simp [byt]
theorem encI_len {i : Ins} (h : i.arg < 18446744073709551616) : (encI i).length ≤ 11 := by
  have := putU_len10 h
  unfold encI
  split <;> simp <;> omega
theorem errM_no {m : ModR} (h : ¬ (chkM m).1 = 0) : errM m = (chkM m).1 ∧ encMod m = [] := by
  have h1 : errM m = (chkM m).1 := by unfold errM; rw [if_neg h]
  exact ⟨h1, by unfold encMod; rw [h1, if_neg h]⟩
theorem errM_big {m : ModR} (h : (chkM m).1 = 0) (h2 : 65536 < (encM m).length) : errM m = 4 ∧ encMod m = [] := by
  have h1 : errM m = 4 := by unfold errM; rw [if_pos h, if_pos h2]
  exact ⟨h1, by unfold encMod; rw [h1, if_neg (by decide)]⟩
theorem errM_ok {m : ModR} (h : (chkM m).1 = 0) (h2 : ¬ 65536 < (encM m).length) : errM m = 0 ∧ encMod m = encM m := by
  have h1 : errM m = 0 := by unfold errM; rw [if_pos h, if_neg h2]
  exact ⟨h1, by unfold encMod; rw [h1, if_pos rfl]⟩
theorem encT_eq {t : TyR} (h : chk t.len t.fs = 0) : encT t.len t.fs = encTy t := by unfold encT encTy; rw [if_pos h]
theorem encIE_eq {i : Ins} (h : i.err = 0) : encIE i = encI i := by unfold encIE; rw [if_pos h]
theorem mgOk (b : Nat) {W w : World} {L : List Res} {M : List Nat} (hw : St M W (rdR b 5 [.int .u8 80, .int .u8 72, .int .u8 77, .int .u8 49] :: L) w) : Sl w w.heap.size 1 (some ⟨b, 0, none⟩) 4 4 (byt magicB) :=
  show Sl w w.heap.size 1 (some ⟨b, 0, none⟩) 4 4 [.int .u8 80, .int .u8 72, .int .u8 77, .int .u8 49] from Sl.of_rd hw 0 rfl rfl (by omega)
theorem i64v (n : Nat) (h : n ≤ 9223372036854775807) : IntKind.u64.wrap (n : Int) = (n : Int) := u64_in (by omega)
set_option maxHeartbeats 8000000 in
theorem menc_any (m : ModR) (W : World) (hM : Mod W W.heap.size m) : Calls Try.prog 16 #[modV m] W (rowP 5 1 (fun v => .tuple #[v, .int .i64 (errM m)]) (byt (encMod m)) W) := by
  have hlt := hM.tlen
  have hlg := hM.glen
  have hE := hM.ts
  have hty := hM.ty
  have hG := hM.gs
  have hfn := hM.fn
  have harg := hM.arg
  have hno := errM_no (m := m)
  have hbig := errM_big (m := m)
  have hok := errM_ok (m := m)
  have hMat := fun {L : List Res} {w : World} (hw : St [] W L w) => hM.at hw
  have hchk := chkM_ok (m := m)
  have henc : encM m = magicB ++ putU m.ts.length ++ m.ts.flatMap encTy ++ putU m.gs.length ++ m.gs.flatMap encFn := rfl
  obtain ⟨q, hq⟩ : ∃ q, chkM m = q := ⟨_, rfl⟩
  rw [hq] at hno hbig hok hchk
  generalize hem : encM m = em at *
  generalize hme : encMod m = me at *
  generalize her : errM m = er at *
  obtain ⟨TA, tn, tc, ts, FA, fn, fc, gs⟩ := m
  dsimp only at *
  refine calls_cv (M := []) (n := 100) [.tmp 2, .tmp 3] rfl Try.func16 rfl rfl (Nat.le_of_ble_eq_true rfl) (St.nil _ _) ?_
  refine cv_seq_k fun K hK => ?_
  refine cv_region_then rfl ?_
  simp -implicitDefEqProofs (disch := first | omega | decide) only [seval, -Int.reducePow, -Nat.reducePow, cA, cB, pv, binv, fresh, thenQ, blockQ, retQ, Value.oneCell', Value.cells, fBox, tBox, iBox, mBox, gBox, flBox, fdV, tyV, insV, fnV, modV, fltV, fineF, undef, cS, Nat.mul_one]
  intro b1 hb1
  refine hK _ _ ?_
  clear hK K
  refine cv_gen fun G1 hG => ?_
  have g1_1 := congrFun hG 1
  clear hG
  try simp -implicitDefEqProofs (disch := first | omega | decide) only [seval, -Int.reducePow, -Nat.reducePow, cA, cB, pv, binv, fresh, thenQ, blockQ, retQ, Value.oneCell', Value.cells, fBox, tBox, iBox, mBox, gBox, flBox, fdV, tyV, insV, fnV, modV, fltV, fineF, undef, cS, Nat.mul_one] at g1_1
  refine cv_seq_k fun K hK => ?_
  refine cv_seq_k fun K hK => ?_
  refine cv_region_then rfl ?_
  simp -implicitDefEqProofs (disch := first | omega | decide) only [seval, -Int.reducePow, -Nat.reducePow, cA, cB, pv, binv, fresh, thenQ, blockQ, retQ, Value.oneCell', Value.cells, fBox, tBox, iBox, mBox, gBox, flBox, fdV, tyV, insV, fnV, modV, fltV, fineF, undef, cS, Nat.mul_one, g1_1]
  refine callV_ret (fun w hw => mcheck_any ⟨TA, tn, tc, ts, FA, fn, fc, gs⟩ w (hMat hw)) ?_
  try simp -implicitDefEqProofs (disch := first | omega | decide) only [seval, -Int.reducePow, -Nat.reducePow, cA, cB, pv, binv, fresh, thenQ, blockQ, retQ, Value.oneCell', Value.cells, fBox, tBox, iBox, mBox, gBox, flBox, fdV, tyV, insV, fnV, modV, fltV, fineF, undef, cS, Nat.mul_one, hq, g1_1]
  intro b4 hb4 h4
  refine hK _ _ ?_
  clear hK K
  refine cv_seq_k fun K hK => ?_
  refine cv_region_then rfl ?_
  simp -implicitDefEqProofs (disch := first | omega | decide) only [seval, -Int.reducePow, -Nat.reducePow, cA, cB, pv, binv, fresh, thenQ, blockQ, retQ, Value.oneCell', Value.cells, fBox, tBox, iBox, mBox, gBox, flBox, fdV, tyV, insV, fnV, modV, fltV, fineF, undef, cS, Nat.mul_one, g1_1]
  refine hK _ _ ?_
  clear hK K
  refine cv_cond ?_
  simp -implicitDefEqProofs (disch := first | omega | decide) only [seval, -Int.reducePow, -Nat.reducePow, cA, cB, pv, binv, fresh, thenQ, blockQ, retQ, Value.oneCell', Value.cells, fBox, tBox, iBox, mBox, gBox, flBox, fdV, tyV, insV, fnV, modV, fltV, fineF, undef, cS, Nat.mul_one, g1_1]
  refine ⟨fun hc => ?_, fun hc => ?_⟩
  · have hz : ¬ q.1 = 0 := nd_true ‹(!decide (q.1 = 0)) = true›
    refine cv_seq_k fun K hK => ?_
    refine cv_draw [(true, 0), (true, 1), (true, 2), (true, 3)] [] mixA rfl (by kernel_rfl) (by kernel_rfl) rfl rfl ?_
    simp -implicitDefEqProofs (disch := first | omega | decide) only [seval, -Int.reducePow, -Nat.reducePow, cA, cB, pv, binv, fresh, thenQ, blockQ, retQ, Value.oneCell', Value.cells, fBox, tBox, iBox, mBox, gBox, flBox, fdV, tyV, insV, fnV, modV, fltV, fineF, undef, cS, Nat.mul_one, g1_1]
    refine hK _ _ ?_
    clear hK K
    refine cv_ret ⟨_, (by simp -implicitDefEqProofs (disch := first | omega | decide) only [seval, -Int.reducePow, -Nat.reducePow, cA, cB, pv, binv, fresh, thenQ, blockQ, retQ, Value.oneCell', Value.cells, fBox, tBox, iBox, mBox, gBox, flBox, fdV, tyV, insV, fnV, modV, fltV, fineF, undef, cS, Nat.mul_one, g1_1]; rfl), fun w hw => ?_⟩
    exact ⟨none, 0, 0, by rw [(hno hz).1], by rw [(hno hz).2]; exact World.ownsRow_nil _ _ _ _, hw.below⟩
  have hz : q.1 = 0 := Decidable.not_not.1 (nd_false ‹(!decide (q.1 = 0)) = false›)
  obtain ⟨k1, k2, k3, k4, k5⟩ := hchk hz
  have e1 := i64v tn (by omega)
  have e2 := i64v fn (by omega)
  refine cv_skip ?_
  try simp only [blockQ, thenQ]
  refine hK _ _ ?_
  clear hK K
  refine cv_seq_k fun K hK => ?_
  refine cv_region_then rfl ?_
  simp -implicitDefEqProofs (disch := first | omega | decide) only [seval, -Int.reducePow, -Nat.reducePow, cA, cB, pv, binv, fresh, thenQ, blockQ, retQ, Value.oneCell', Value.cells, fBox, tBox, iBox, mBox, gBox, flBox, fdV, tyV, insV, fnV, modV, fltV, fineF, undef, cS, Nat.mul_one, g1_1]
  intro b5 hb5 h5
  refine xv_mark 0 rfl Try.underlying36 Try.underlying5 rfl ?_
  simp -implicitDefEqProofs (disch := first | omega | decide) only [seval, -Int.reducePow, -Nat.reducePow, cA, cB, pv, binv, fresh, thenQ, blockQ, retQ, Value.oneCell', Value.cells, fBox, tBox, iBox, mBox, gBox, flBox, fdV, tyV, insV, fnV, modV, fltV, fineF, undef, cS, Nat.mul_one, e1, g1_1]
  refine callV_row (fun A' n' c' => .slice A' n' c') (fun w hw => put_any (some ⟨b5, 0, none⟩) 4 4 magicB tn w (mgOk b5 hw) (by omega) (by omega)) ?_
  intro A1 n1 c1 hl1 _
  simp -implicitDefEqProofs (disch := first | omega | decide) only [seval, -Int.reducePow, -Nat.reducePow, cA, cB, pv, binv, fresh, thenQ, blockQ, retQ, Value.oneCell', Value.cells, fBox, tBox, iBox, mBox, gBox, flBox, fdV, tyV, insV, fnV, modV, fltV, fineF, undef, cS, Nat.mul_one, g1_1]
  refine hK _ _ ?_
  clear hK K
  have hn1 : n1 ≤ 20 := by have := byt_row hl1; have := putU_len10 (n := tn) (by omega); simp [magicB] at *; omega
  refine cv_pick [0, 3] (by decide) ?_
  simp only [pickL, nth]
  refine cv_seq_k fun K hK => ?_
  refine cv_seq_k fun K hK => ?_
  refine cv_region_then rfl ?_
  simp -implicitDefEqProofs (disch := first | omega | decide) only [seval, -Int.reducePow, -Nat.reducePow, cA, cB, pv, binv, fresh, thenQ, blockQ, retQ, Value.oneCell', Value.cells, fBox, tBox, iBox, mBox, gBox, flBox, fdV, tyV, insV, fnV, modV, fltV, fineF, undef, cS, Nat.mul_one, g1_1]
  refine hK _ _ ?_
  clear hK K
  refine cv_gen fun G2 hG => ?_
  have g2_1 := congrFun hG 1
  have g2_5 := congrFun hG 5
  have g2_33 := congrFun hG 33
  have g2_34 := congrFun hG 34
  have g2_35 := congrFun hG 35
  clear hG
  try simp -implicitDefEqProofs (disch := first | omega | decide) only [seval, -Int.reducePow, -Nat.reducePow, cA, cB, pv, binv, fresh, thenQ, blockQ, retQ, Value.oneCell', Value.cells, fBox, tBox, iBox, mBox, gBox, flBox, fdV, tyV, insV, fnV, modV, fltV, fineF, undef, cS, Nat.mul_one, g1_1] at g2_1 g2_5 g2_33 g2_34 g2_35
  refine cv_block ?_
  refine cv_loop (fun F' L' => ∃ (k : Nat) (A6 : Option Addr) (n6 c6 : Nat), F' 1 = G2 1 ∧ F' 5 = .slice A6 n6 c6 ∧ F' 33 = G2 33 ∧ F' 34 = G2 34 ∧ F' 35 = .int .i64 (k : Int) ∧ L' = [.row (.slice A6 n6 c6) 5 1 n6 (byt (magicB ++ putU tn ++ (ts.take k).flatMap encTy)), mBox b1 ⟨TA, tn, tc, ts, FA, fn, fc, gs⟩] ∧ k ≤ tn ∧ n6 ≤ 20 + 200 * k) (fun F' L' => 40 - (intOf (F' 35)).toNat) ?_ ?_
  · refine ⟨0, A1, n1, c1, ?_⟩
    simp -implicitDefEqProofs (disch := first | omega | decide) only [seval, -Int.reducePow, -Nat.reducePow, cA, cB, pv, binv, fresh, thenQ, blockQ, retQ, Value.oneCell', Value.cells, fBox, tBox, iBox, mBox, gBox, flBox, fdV, tyV, insV, fnV, modV, fltV, fineF, undef, cS, Nat.mul_one, g2_1, g2_5, g2_33, g2_34, g2_35]
    simp only [List.flatMap_nil, List.append_nil]
    repeat' (first | with_reducible exact trivial | with_reducible rfl | omega | refine And.intro ?_ ?_)
  intro G3 L' hI
  obtain ⟨k, A6, n6, c6, q1, q5, q33, q34, q35, rfl, ⟨hk, h6⟩⟩ := hI
  have g3_1 := q1.trans g2_1
  have g3_5 := q5
  have g3_33 := q33.trans g2_33
  have g3_34 := q34.trans g2_34
  have g3_35 := q35
  clear q1 q5 q33 q34 q35
  refine cv_seq_k fun K hK => ?_
  refine cv_region_then rfl ?_
  simp -implicitDefEqProofs (disch := first | omega | decide) only [seval, -Int.reducePow, -Nat.reducePow, cA, cB, pv, binv, fresh, thenQ, blockQ, retQ, Value.oneCell', Value.cells, fBox, tBox, iBox, mBox, gBox, flBox, fdV, tyV, insV, fnV, modV, fltV, fineF, undef, cS, Nat.mul_one, g2_1, g2_5, g2_33, g2_34, g2_35, g3_1, g3_5, g3_33, g3_34, g3_35]
  refine hK _ _ ?_
  clear hK K
  refine cv_seq_k fun K hK => ?_
  refine cv_cond ?_
  simp -implicitDefEqProofs (disch := first | omega | decide) only [seval, -Int.reducePow, -Nat.reducePow, cA, cB, pv, binv, fresh, thenQ, blockQ, retQ, Value.oneCell', Value.cells, fBox, tBox, iBox, mBox, gBox, flBox, fdV, tyV, insV, fnV, modV, fltV, fineF, undef, cS, Nat.mul_one, g2_1, g2_5, g2_33, g2_34, g2_35, g3_1, g3_5, g3_33, g3_34, g3_35]
  refine ⟨fun hc => ?_, fun hc => ?_⟩
  · refine cv_skip ?_
    try simp only [blockQ, thenQ]
    have hlt2 : k < tn := by have := of_decide_eq_true ‹_›; omega
    obtain ⟨b0, off, rfl, hb0, -⟩ := hE.cells (by omega)
    obtain ⟨x, hx⟩ := some_of (l := ts) (i := k) (by omega)
    have hxm := List.mem_of_getElem? hx
    have hX := hty x hxm
    have hxz := k2 x hxm
    have hxl := (encB_len hxz).1
    refine hK _ _ ?_
    clear hK K
    refine cv_seq_k fun K hK => ?_
    refine cv_block ?_
    refine cv_seq_k fun K hK => ?_
    refine cv_region_then rfl ?_
    simp -implicitDefEqProofs (disch := first | omega | decide) only [seval, -Int.reducePow, -Nat.reducePow, cA, cB, pv, binv, fresh, thenQ, blockQ, retQ, Value.oneCell', Value.cells, fBox, tBox, iBox, mBox, gBox, flBox, fdV, tyV, insV, fnV, modV, fltV, fineF, undef, cS, Nat.mul_one, g2_1, g2_5, g2_33, g2_34, g2_35, g3_1, g3_5, g3_33, g3_34, g3_35]
    refine ⟨_, hE.tyl hx, fun tok htok => ?_⟩
    subst htok
    simp -implicitDefEqProofs (disch := first | omega | decide) only [seval, -Int.reducePow, -Nat.reducePow, cA, cB, pv, binv, fresh, thenQ, blockQ, retQ, Value.oneCell', Value.cells, fBox, tBox, iBox, mBox, gBox, flBox, fdV, tyV, insV, fnV, modV, fltV, fineF, undef, cS, Nat.mul_one, g2_1, g2_5, g2_33, g2_34, g2_35, g3_1, g3_5, g3_33, g3_34, g3_35]
    intro b7 hb7 h7
    refine hK _ _ ?_
    clear hK K
    refine cv_seq_k fun K hK => ?_
    refine cv_region_then rfl ?_
    simp -implicitDefEqProofs (disch := first | omega | decide) only [seval, -Int.reducePow, -Nat.reducePow, cA, cB, pv, binv, fresh, thenQ, blockQ, retQ, Value.oneCell', Value.cells, fBox, tBox, iBox, mBox, gBox, flBox, fdV, tyV, insV, fnV, modV, fltV, fineF, undef, cS, Nat.mul_one, g2_1, g2_5, g2_33, g2_34, g2_35, g3_1, g3_5, g3_33, g3_34, g3_35]
    refine callV_row (fun A' n' c' => .tuple #[.slice A' n' c', .int .i64 (chk x.len x.fs)]) (fun w hw => enc_any x.A x.n x.c x.fs x.len w (hX.at hw)) ?_
    intro A8 n8 c8 hl8 _
    rw [encT_eq hxz] at *
    have hn8 : n8 ≤ 198 := by have := byt_row hl8; unfold encTy at this; omega
    simp -implicitDefEqProofs (disch := first | omega | decide) only [seval, -Int.reducePow, -Nat.reducePow, cA, cB, pv, binv, fresh, thenQ, blockQ, retQ, Value.oneCell', Value.cells, fBox, tBox, iBox, mBox, gBox, flBox, fdV, tyV, insV, fnV, modV, fltV, fineF, undef, cS, Nat.mul_one, g2_1, g2_5, g2_33, g2_34, g2_35, g3_1, g3_5, g3_33, g3_34, g3_35]
    refine hK _ _ ?_
    clear hK K
    refine cv_region_q rfl ?_
    simp -implicitDefEqProofs (disch := first | omega | decide) only [seval, -Int.reducePow, -Nat.reducePow, cA, cB, pv, binv, fresh, thenQ, blockQ, retQ, Value.oneCell', Value.cells, fBox, tBox, iBox, mBox, gBox, flBox, fdV, tyV, insV, fnV, modV, fltV, fineF, undef, cS, Nat.mul_one, g2_1, g2_5, g2_33, g2_34, g2_35, g3_1, g3_5, g3_33, g3_34, g3_35]
    refine appV_at 2 tap36 rfl (fun w hw => src_row (.head _) hw) (ones_byt _) (by omega) (by omega) ?_
    intro A9 c9 hl9 _
    simp -implicitDefEqProofs (disch := first | omega | decide) only [seval, -Int.reducePow, -Nat.reducePow, cA, cB, pv, binv, fresh, thenQ, blockQ, retQ, Value.oneCell', Value.cells, fBox, tBox, iBox, mBox, gBox, flBox, fdV, tyV, insV, fnV, modV, fltV, fineF, undef, cS, Nat.mul_one, g2_1, g2_5, g2_33, g2_34, g2_35, g3_1, g3_5, g3_33, g3_34, g3_35]
    refine hK _ _ ?_
    clear hK K
    refine cv_pick [0, 3] (by decide) ?_
    simp only [pickL, nth]
    refine cv_region_then rfl ?_
    simp -implicitDefEqProofs (disch := first | omega | decide) only [seval, -Int.reducePow, -Nat.reducePow, cA, cB, pv, binv, fresh, thenQ, blockQ, retQ, Value.oneCell', Value.cells, fBox, tBox, iBox, mBox, gBox, flBox, fdV, tyV, insV, fnV, modV, fltV, fineF, undef, cS, Nat.mul_one, wrap_in, g2_1, g2_5, g2_33, g2_34, g2_35, g3_1, g3_5, g3_33, g3_34, g3_35]
    refine ⟨⟨k + 1, A9, n6 + n8, c9, ?_⟩, ?_⟩
    · simp -implicitDefEqProofs (disch := first | omega | decide) only [seval, -Int.reducePow, -Nat.reducePow, cA, cB, pv, binv, fresh, thenQ, blockQ, retQ, Value.oneCell', Value.cells, fBox, tBox, iBox, mBox, gBox, flBox, fdV, tyV, insV, fnV, modV, fltV, fineF, undef, cS, Nat.mul_one, Int.natCast_add, g2_1, g2_5, g2_33, g2_34, g2_35, g3_1, g3_5, g3_33, g3_34, g3_35]
      rw [flat_snoc encTy hx, ← List.append_assoc (magicB ++ putU tn), byt_append _ (encTy x)]
      exact ⟨rfl, by omega, by omega⟩
    · simp only [intOf]; omega
  refine cv_exit ?_
  simp only [blockQ, thenQ, if_true, ite_true]
  clear hK K
  refine hK _ _ ?_
  clear hK K
  obtain rfl : tn = k := by have := of_decide_eq_false ‹_›; omega
  rw [List.take_of_length_le (by omega)]
  refine cv_len 0 rfl fun hl6 => ?_
  refine cv_seq_k fun K hK => ?_
  refine cv_region_then rfl ?_
  simp -implicitDefEqProofs (disch := first | omega | decide) only [seval, -Int.reducePow, -Nat.reducePow, cA, cB, pv, binv, fresh, thenQ, blockQ, retQ, Value.oneCell', Value.cells, fBox, tBox, iBox, mBox, gBox, flBox, fdV, tyV, insV, fnV, modV, fltV, fineF, undef, cS, Nat.mul_one, e2, g2_1, g2_5, g2_33, g2_34, g2_35, g3_1, g3_5, g3_33, g3_34, g3_35]
  refine callV_row (fun A' n' c' => .slice A' n' c') (fun w hw => put_any A6 n6 c6 _ fn w (hw.slb 0 rfl) (by omega) (by omega)) ?_
  intro A9 n9 c9 hl9 _
  simp -implicitDefEqProofs (disch := first | omega | decide) only [seval, -Int.reducePow, -Nat.reducePow, cA, cB, pv, binv, fresh, thenQ, blockQ, retQ, Value.oneCell', Value.cells, fBox, tBox, iBox, mBox, gBox, flBox, fdV, tyV, insV, fnV, modV, fltV, fineF, undef, cS, Nat.mul_one, g2_1, g2_5, g2_33, g2_34, g2_35, g3_1, g3_5, g3_33, g3_34, g3_35]
  refine hK _ _ ?_
  clear hK K
  have hn9 : n9 ≤ 7000 := by have q1 := byt_row hl9; have q2 := byt_row hl6; have q3 := putU_len10 (n := fn) (by omega); rw [List.length_append] at q1; omega
  refine cv_pick [0, 2] (by decide) ?_
  simp only [pickL, nth]
  generalize hpre : magicB ++ putU tn ++ ts.flatMap encTy ++ putU fn = pre at *
  refine cv_seq_k fun K hK => ?_
  refine cv_seq_k fun K hK => ?_
  refine cv_region_then rfl ?_
  simp -implicitDefEqProofs (disch := first | omega | decide) only [seval, -Int.reducePow, -Nat.reducePow, cA, cB, pv, binv, fresh, thenQ, blockQ, retQ, Value.oneCell', Value.cells, fBox, tBox, iBox, mBox, gBox, flBox, fdV, tyV, insV, fnV, modV, fltV, fineF, undef, cS, Nat.mul_one, g2_1, g2_5, g2_33, g2_34, g2_35, g3_1, g3_5, g3_33, g3_34, g3_35]
  refine hK _ _ ?_
  clear hK K
  refine cv_gen fun G4 hG => ?_
  have g4_5 := congrFun hG 5
  have g4_55 := congrFun hG 55
  have g4_56 := congrFun hG 56
  have g4_57 := congrFun hG 57
  clear hG
  try simp -implicitDefEqProofs (disch := first | omega | decide) only [seval, -Int.reducePow, -Nat.reducePow, cA, cB, pv, binv, fresh, thenQ, blockQ, retQ, Value.oneCell', Value.cells, fBox, tBox, iBox, mBox, gBox, flBox, fdV, tyV, insV, fnV, modV, fltV, fineF, undef, cS, Nat.mul_one, g2_1, g2_5, g2_33, g2_34, g2_35, g3_1, g3_5, g3_33, g3_34, g3_35] at g4_5 g4_55 g4_56 g4_57
  refine cv_block ?_
  refine cv_loop (fun F' L' => ∃ (k : Nat) (A6 : Option Addr) (n6 c6 : Nat), F' 5 = .slice A6 n6 c6 ∧ F' 55 = G4 55 ∧ F' 56 = G4 56 ∧ F' 57 = .int .i64 (k : Int) ∧ L' = [.row (.slice A6 n6 c6) 5 1 n6 (byt (pre ++ (gs.take k).flatMap encFn)), mBox b1 ⟨TA, tn, tc, ts, FA, fn, fc, gs⟩] ∧ k ≤ fn ∧ n6 ≤ 7000 + 12000 * k) (fun F' L' => 40 - (intOf (F' 57)).toNat) ?_ ?_
  · refine ⟨0, A9, n9, c9, ?_⟩
    simp -implicitDefEqProofs (disch := first | omega | decide) only [seval, -Int.reducePow, -Nat.reducePow, cA, cB, pv, binv, fresh, thenQ, blockQ, retQ, Value.oneCell', Value.cells, fBox, tBox, iBox, mBox, gBox, flBox, fdV, tyV, insV, fnV, modV, fltV, fineF, undef, cS, Nat.mul_one, g2_1, g2_5, g2_33, g2_34, g2_35, g3_1, g3_5, g3_33, g3_34, g3_35, g4_5, g4_55, g4_56, g4_57]
    simp only [List.flatMap_nil, List.append_nil]
    repeat' (first | with_reducible exact trivial | with_reducible rfl | omega | refine And.intro ?_ ?_)
  intro G5 L' hI
  obtain ⟨k, A6, n6, c6, q5, q55, q56, q57, rfl, ⟨hk, h6⟩⟩ := hI
  have g5_5 := q5
  have g5_55 := q55.trans g4_55
  have g5_56 := q56.trans g4_56
  have g5_57 := q57
  clear q5 q55 q56 q57
  refine cv_seq_k fun K hK => ?_
  refine cv_region_then rfl ?_
  simp -implicitDefEqProofs (disch := first | omega | decide) only [seval, -Int.reducePow, -Nat.reducePow, cA, cB, pv, binv, fresh, thenQ, blockQ, retQ, Value.oneCell', Value.cells, fBox, tBox, iBox, mBox, gBox, flBox, fdV, tyV, insV, fnV, modV, fltV, fineF, undef, cS, Nat.mul_one, g2_1, g2_5, g2_33, g2_34, g2_35, g3_1, g3_5, g3_33, g3_34, g3_35, g4_5, g4_55, g4_56, g4_57, g5_5, g5_55, g5_56, g5_57]
  refine hK _ _ ?_
  clear hK K
  refine cv_seq_k fun K hK => ?_
  refine cv_cond ?_
  simp -implicitDefEqProofs (disch := first | omega | decide) only [seval, -Int.reducePow, -Nat.reducePow, cA, cB, pv, binv, fresh, thenQ, blockQ, retQ, Value.oneCell', Value.cells, fBox, tBox, iBox, mBox, gBox, flBox, fdV, tyV, insV, fnV, modV, fltV, fineF, undef, cS, Nat.mul_one, g2_1, g2_5, g2_33, g2_34, g2_35, g3_1, g3_5, g3_33, g3_34, g3_35, g4_5, g4_55, g4_56, g4_57, g5_5, g5_55, g5_56, g5_57]
  refine ⟨fun hc => ?_, fun hc => ?_⟩
  · refine cv_skip ?_
    try simp only [blockQ, thenQ]
    have hlt2 : k < fn := by have := of_decide_eq_true ‹decide ((k : Int) < (fn : Int)) = true›; omega
    obtain ⟨b0, off, rfl, hb0, -⟩ := hG.cells (by omega)
    obtain ⟨x, hx⟩ := some_of (l := gs) (i := k) (by omega)
    have hxm := List.mem_of_getElem? hx
    have hX := hfn x hxm
    have hxi := k5 k x hx
    have hxa := harg x hxm
    have hxl : x.code.length = x.n := cl_row insc_len (by omega) hX.len
    have hsn := flat_snoc encFn hx
    have henx : encFn x = [x.p.toNat, x.r.toNat, x.l.toNat, x.code.length].flatMap putU ++ x.code.flatMap encI := rfl
    generalize hex : encFn x = ex at *
    have hxf := fnErr_ok hxi.1
    have hld := hG.fnl (L := [.row (.slice A6 n6 c6) 5 1 n6 (byt (pre ++ (gs.take k).flatMap encFn)), mBox b1 ⟨TA, tn, tc, ts, some ⟨b0, off, none⟩, fn, fc, gs⟩]) hx
    have hxi2 := hxi.2
    clear hx hxm hxi
    obtain ⟨xp, xr, xl, xA, xn, xc, code⟩ := x
    dsimp only at *
    obtain ⟨p, rfl⟩ := Int.eq_ofNat_of_zero_le hxf.1
    obtain ⟨r, rfl⟩ := Int.eq_ofNat_of_zero_le hxf.2.1
    obtain ⟨l, rfl⟩ := Int.eq_ofNat_of_zero_le hxf.2.2.1
    simp only [Int.toNat_natCast] at henx
    rw [hxl] at henx
    generalize hpg : pre ++ (gs.take k).flatMap encFn = pg at *
    refine hK _ _ ?_
    clear hK K
    refine cv_seq_k fun K hK => ?_
    refine cv_block ?_
    refine cv_seq_k fun K hK => ?_
    refine cv_region_then rfl ?_
    simp -implicitDefEqProofs (disch := first | omega | decide) only [seval, -Int.reducePow, -Nat.reducePow, cA, cB, pv, binv, fresh, thenQ, blockQ, retQ, Value.oneCell', Value.cells, fBox, tBox, iBox, mBox, gBox, flBox, fdV, tyV, insV, fnV, modV, fltV, fineF, undef, cS, Nat.mul_one, g2_1, g2_5, g2_33, g2_34, g2_35, g3_1, g3_5, g3_33, g3_34, g3_35, g4_5, g4_55, g4_56, g4_57, g5_5, g5_55, g5_56, g5_57]
    refine ⟨_, hld, fun tok htok => ?_⟩
    subst htok
    simp -implicitDefEqProofs (disch := first | omega | decide) only [seval, -Int.reducePow, -Nat.reducePow, cA, cB, pv, binv, fresh, thenQ, blockQ, retQ, Value.oneCell', Value.cells, fBox, tBox, iBox, mBox, gBox, flBox, fdV, tyV, insV, fnV, modV, fltV, fineF, undef, cS, Nat.mul_one, g2_1, g2_5, g2_33, g2_34, g2_35, g3_1, g3_5, g3_33, g3_34, g3_35, g4_5, g4_55, g4_56, g4_57, g5_5, g5_55, g5_56, g5_57]
    intro b11 hb11 h11
    refine hK _ _ ?_
    clear hK K
    obtain ⟨nums, hnums⟩ : ∃ nums, nums = [p, r, l, xn] := ⟨_, rfl⟩
    refine cv_seq_k fun K hK => ?_
    refine cv_seq_k fun K hK => ?_
    refine cv_region_then rfl ?_
    simp -implicitDefEqProofs (disch := first | omega | decide) only [seval, -Int.reducePow, -Nat.reducePow, cA, cB, pv, binv, fresh, thenQ, blockQ, retQ, Value.oneCell', Value.cells, fBox, tBox, iBox, mBox, gBox, flBox, fdV, tyV, insV, fnV, modV, fltV, fineF, undef, cS, Nat.mul_one, g2_1, g2_5, g2_33, g2_34, g2_35, g3_1, g3_5, g3_33, g3_34, g3_35, g4_5, g4_55, g4_56, g4_57, g5_5, g5_55, g5_56, g5_57]
    refine hK _ _ ?_
    clear hK K
    refine cv_gen fun G6 hG => ?_
    have g6_5 := congrFun hG 5
    have g6_11 := congrFun hG 11
    have g6_55 := congrFun hG 55
    have g6_56 := congrFun hG 56
    have g6_57 := congrFun hG 57
    have g6_70 := congrFun hG 70
    have g6_71 := congrFun hG 71
    clear hG
    try simp -implicitDefEqProofs (disch := first | omega | decide) only [seval, -Int.reducePow, -Nat.reducePow, cA, cB, pv, binv, fresh, thenQ, blockQ, retQ, Value.oneCell', Value.cells, fBox, tBox, iBox, mBox, gBox, flBox, fdV, tyV, insV, fnV, modV, fltV, fineF, undef, cS, Nat.mul_one, g2_1, g2_5, g2_33, g2_34, g2_35, g3_1, g3_5, g3_33, g3_34, g3_35, g4_5, g4_55, g4_56, g4_57, g5_5, g5_55, g5_56, g5_57] at g6_5 g6_11 g6_55 g6_56 g6_57 g6_70 g6_71
    refine cv_block ?_
    refine cv_loop (fun F' L' => ∃ (j : Nat) (A7 : Option Addr) (n7 c7 : Nat), F' 5 = .slice A7 n7 c7 ∧ F' 11 = G6 11 ∧ F' 55 = G6 55 ∧ F' 56 = G6 56 ∧ F' 57 = G6 57 ∧ F' 70 = G6 70 ∧ F' 71 = .int .i64 (j : Int) ∧ L' = [.blk b11 43 [.int .i64 (p : Int), .int .i64 (r : Int), .int .i64 (l : Int), .slice xA xn xc], .row (.slice A7 n7 c7) 5 1 n7 (byt (pg ++ (nums.take j).flatMap putU)), mBox b1 ⟨TA, tn, tc, ts, some ⟨b0, off, none⟩, fn, fc, gs⟩] ∧ j ≤ 4 ∧ n7 ≤ 7000 + 12000 * k + 10 * j) (fun F' L' => 5 - (intOf (F' 71)).toNat) ?_ ?_
    · refine ⟨0, A6, n6, c6, ?_⟩
      simp -implicitDefEqProofs (disch := first | omega | decide) only [seval, -Int.reducePow, -Nat.reducePow, cA, cB, pv, binv, fresh, thenQ, blockQ, retQ, Value.oneCell', Value.cells, fBox, tBox, iBox, mBox, gBox, flBox, fdV, tyV, insV, fnV, modV, fltV, fineF, undef, cS, Nat.mul_one, g2_1, g2_5, g2_33, g2_34, g2_35, g3_1, g3_5, g3_33, g3_34, g3_35, g4_5, g4_55, g4_56, g4_57, g5_5, g5_55, g5_56, g5_57, g6_5, g6_11, g6_55, g6_56, g6_57, g6_70, g6_71]
      simp only [List.flatMap_nil, List.append_nil]
      repeat' (first | with_reducible exact trivial | with_reducible rfl | omega | refine And.intro ?_ ?_)
    intro G7 L' hI
    obtain ⟨j, A7, n7, c7, q5, q11, q55, q56, q57, q70, q71, rfl, ⟨hj, h7⟩⟩ := hI
    have g7_5 := q5
    have g7_11 := q11.trans g6_11
    have g7_55 := q55.trans g6_55
    have g7_56 := q56.trans g6_56
    have g7_57 := q57.trans g6_57
    have g7_70 := q70.trans g6_70
    have g7_71 := q71
    clear q5 q11 q55 q56 q57 q70 q71
    refine cv_seq_k fun K hK => ?_
    refine cv_region_then rfl ?_
    simp -implicitDefEqProofs (disch := first | omega | decide) only [seval, -Int.reducePow, -Nat.reducePow, cA, cB, pv, binv, fresh, thenQ, blockQ, retQ, Value.oneCell', Value.cells, fBox, tBox, iBox, mBox, gBox, flBox, fdV, tyV, insV, fnV, modV, fltV, fineF, undef, cS, Nat.mul_one, g2_1, g2_5, g2_33, g2_34, g2_35, g3_1, g3_5, g3_33, g3_34, g3_35, g4_5, g4_55, g4_56, g4_57, g5_5, g5_55, g5_56, g5_57, g6_5, g6_11, g6_55, g6_56, g6_57, g6_70, g6_71, g7_5, g7_11, g7_55, g7_56, g7_57, g7_70, g7_71]
    refine hK _ _ ?_
    clear hK K
    refine cv_seq_k fun K hK => ?_
    refine cv_cond ?_
    simp -implicitDefEqProofs (disch := first | omega | decide) only [seval, -Int.reducePow, -Nat.reducePow, cA, cB, pv, binv, fresh, thenQ, blockQ, retQ, Value.oneCell', Value.cells, fBox, tBox, iBox, mBox, gBox, flBox, fdV, tyV, insV, fnV, modV, fltV, fineF, undef, cS, Nat.mul_one, g2_1, g2_5, g2_33, g2_34, g2_35, g3_1, g3_5, g3_33, g3_34, g3_35, g4_5, g4_55, g4_56, g4_57, g5_5, g5_55, g5_56, g5_57, g6_5, g6_11, g6_55, g6_56, g6_57, g6_70, g6_71, g7_5, g7_11, g7_55, g7_56, g7_57, g7_70, g7_71]
    refine ⟨fun hc => ?_, fun hc => ?_⟩
    · refine cv_skip ?_
      try simp only [blockQ, thenQ]
      have hjt : j < 4 := by have := of_decide_eq_true ‹decide ((j : Int) < 4) = true›; omega
      obtain ⟨y, hy⟩ := some_of (l := nums) (i := j) (by rw [hnums]; simpa using hjt)
      have hyc : ([.int .i64 (p : Int), .int .i64 (r : Int), .int .i64 (l : Int), .int .i64 (xn : Int)] : List Value)[j]? = some (.int .i64 (y : Int)) := by
        have := congrArg (Option.map fun y : Nat => Value.int .i64 (y : Int)) hy
        rw [hnums] at this
        rw [← List.getElem?_map] at this
        exact this
      have hyb : y ≤ 1024 := by
        have := List.mem_of_getElem? hy
        rw [hnums] at this
        simp only [List.mem_cons, List.not_mem_nil, or_false] at this
        rcases this with h | h | h | h <;> omega
      have ey := i64v y (by omega)
      refine hK _ _ ?_
      clear hK K
      refine cv_seq_k fun K hK => ?_
      refine cv_block ?_
      refine cv_seq_k fun K hK => ?_
      refine cv_region_then rfl ?_
      simp -implicitDefEqProofs (disch := first | omega | decide) only [seval, -Int.reducePow, -Nat.reducePow, cA, cB, pv, binv, fresh, thenQ, blockQ, retQ, Value.oneCell', Value.cells, fBox, tBox, iBox, mBox, gBox, flBox, fdV, tyV, insV, fnV, modV, fltV, fineF, undef, cS, Nat.mul_one, g2_1, g2_5, g2_33, g2_34, g2_35, g3_1, g3_5, g3_33, g3_34, g3_35, g4_5, g4_55, g4_56, g4_57, g5_5, g5_55, g5_56, g5_57, g6_5, g6_11, g6_55, g6_56, g6_57, g6_70, g6_71, g7_5, g7_11, g7_55, g7_56, g7_57, g7_70, g7_71]
      refine xv_arr (kk := .i64) (u := .int .i64 (y : Int)) (cs := [.int .i64 (p : Int), .int .i64 (r : Int), .int .i64 (l : Int), .int .i64 (xn : Int)]) (j := j) (m := 4) (by simp -implicitDefEqProofs (disch := first | omega | decide) only [seval, -Int.reducePow, -Nat.reducePow, cA, cB, pv, binv, fresh, thenQ, blockQ, retQ, Value.oneCell', Value.cells, fBox, tBox, iBox, mBox, gBox, flBox, fdV, tyV, insV, fnV, modV, fltV, fineF, undef, cS, Nat.mul_one, g2_1, g2_5, g2_33, g2_34, g2_35, g3_1, g3_5, g3_33, g3_34, g3_35, g4_5, g4_55, g4_56, g4_57, g5_5, g5_55, g5_56, g5_57, g6_5, g6_11, g6_55, g6_56, g6_57, g6_70, g6_71, g7_5, g7_11, g7_55, g7_56, g7_57, g7_70, g7_71]) (by simp -implicitDefEqProofs (disch := first | omega | decide) only [seval, -Int.reducePow, -Nat.reducePow, cA, cB, pv, binv, fresh, thenQ, blockQ, retQ, Value.oneCell', Value.cells, fBox, tBox, iBox, mBox, gBox, flBox, fdV, tyV, insV, fnV, modV, fltV, fineF, undef, cS, Nat.mul_one, g2_1, g2_5, g2_33, g2_34, g2_35, g3_1, g3_5, g3_33, g3_34, g3_35, g4_5, g4_55, g4_56, g4_57, g5_5, g5_55, g5_56, g5_57, g6_5, g6_11, g6_55, g6_56, g6_57, g6_70, g6_71, g7_5, g7_11, g7_55, g7_56, g7_57, g7_70, g7_71]) Try.underlying76 (by kernel_rfl) hjt hyc ?_
      simp -implicitDefEqProofs (disch := first | omega | decide) only [seval, -Int.reducePow, -Nat.reducePow, cA, cB, pv, binv, fresh, thenQ, blockQ, retQ, Value.oneCell', Value.cells, fBox, tBox, iBox, mBox, gBox, flBox, fdV, tyV, insV, fnV, modV, fltV, fineF, undef, cS, Nat.mul_one, g2_1, g2_5, g2_33, g2_34, g2_35, g3_1, g3_5, g3_33, g3_34, g3_35, g4_5, g4_55, g4_56, g4_57, g5_5, g5_55, g5_56, g5_57, g6_5, g6_11, g6_55, g6_56, g6_57, g6_70, g6_71, g7_5, g7_11, g7_55, g7_56, g7_57, g7_70, g7_71]
      refine hK _ _ ?_
      clear hK K
      refine cv_len 1 rfl fun hl7 => ?_
      refine cv_region_q rfl ?_
      simp -implicitDefEqProofs (disch := first | omega | decide) only [seval, -Int.reducePow, -Nat.reducePow, cA, cB, pv, binv, fresh, thenQ, blockQ, retQ, Value.oneCell', Value.cells, fBox, tBox, iBox, mBox, gBox, flBox, fdV, tyV, insV, fnV, modV, fltV, fineF, undef, cS, Nat.mul_one, ey, g2_1, g2_5, g2_33, g2_34, g2_35, g3_1, g3_5, g3_33, g3_34, g3_35, g4_5, g4_55, g4_56, g4_57, g5_5, g5_55, g5_56, g5_57, g6_5, g6_11, g6_55, g6_56, g6_57, g6_70, g6_71, g7_5, g7_11, g7_55, g7_56, g7_57, g7_70, g7_71]
      refine callV_row (fun A' n' c' => .slice A' n' c') (fun w hw => put_any A7 n7 c7 _ y w (hw.slb 1 rfl) (by omega) (by omega)) ?_
      intro A8 n8 c8 hl8 _
      simp -implicitDefEqProofs (disch := first | omega | decide) only [seval, -Int.reducePow, -Nat.reducePow, cA, cB, pv, binv, fresh, thenQ, blockQ, retQ, Value.oneCell', Value.cells, fBox, tBox, iBox, mBox, gBox, flBox, fdV, tyV, insV, fnV, modV, fltV, fineF, undef, cS, Nat.mul_one, g2_1, g2_5, g2_33, g2_34, g2_35, g3_1, g3_5, g3_33, g3_34, g3_35, g4_5, g4_55, g4_56, g4_57, g5_5, g5_55, g5_56, g5_57, g6_5, g6_11, g6_55, g6_56, g6_57, g6_70, g6_71, g7_5, g7_11, g7_55, g7_56, g7_57, g7_70, g7_71]
      refine hK _ _ ?_
      clear hK K
      have hn8 : n8 ≤ n7 + 10 := by have q1 := byt_row hl8; have q2 := byt_row hl7; have q3 := putU_len10 (n := y) (by omega); rw [List.length_append] at q1; omega
      refine cv_pick [1, 0, 3] (by decide) ?_
      simp only [pickL, nth]
      refine cv_region_then rfl ?_
      simp -implicitDefEqProofs (disch := first | omega | decide) only [seval, -Int.reducePow, -Nat.reducePow, cA, cB, pv, binv, fresh, thenQ, blockQ, retQ, Value.oneCell', Value.cells, fBox, tBox, iBox, mBox, gBox, flBox, fdV, tyV, insV, fnV, modV, fltV, fineF, undef, cS, Nat.mul_one, wrap_in, g2_1, g2_5, g2_33, g2_34, g2_35, g3_1, g3_5, g3_33, g3_34, g3_35, g4_5, g4_55, g4_56, g4_57, g5_5, g5_55, g5_56, g5_57, g6_5, g6_11, g6_55, g6_56, g6_57, g6_70, g6_71, g7_5, g7_11, g7_55, g7_56, g7_57, g7_70, g7_71]
      refine ⟨⟨j + 1, A8, n8, c8, ?_⟩, ?_⟩
      · simp -implicitDefEqProofs (disch := first | omega | decide) only [seval, -Int.reducePow, -Nat.reducePow, cA, cB, pv, binv, fresh, thenQ, blockQ, retQ, Value.oneCell', Value.cells, fBox, tBox, iBox, mBox, gBox, flBox, fdV, tyV, insV, fnV, modV, fltV, fineF, undef, cS, Nat.mul_one, Int.natCast_add, g2_1, g2_5, g2_33, g2_34, g2_35, g3_1, g3_5, g3_33, g3_34, g3_35, g4_5, g4_55, g4_56, g4_57, g5_5, g5_55, g5_56, g5_57, g6_5, g6_11, g6_55, g6_56, g6_57, g6_70, g6_71, g7_5, g7_11, g7_55, g7_56, g7_57, g7_70, g7_71]
        rw [flat_snoc putU hy, ← List.append_assoc pg]
        exact ⟨rfl, by omega, by omega⟩
      · simp only [intOf]; omega
    refine cv_exit ?_
    simp only [blockQ, thenQ, if_true, ite_true]
    clear hK K
    refine hK _ _ ?_
    clear hK K
    obtain rfl : j = 4 := by have := of_decide_eq_false ‹decide ((j : Int) < 4) = false›; omega
    rw [show nums.take 4 = [p, r, l, xn] by rw [hnums]; rfl]
    refine cv_seq_k fun K hK => ?_
    refine cv_region_then rfl ?_
    simp -implicitDefEqProofs (disch := first | omega | decide) only [seval, -Int.reducePow, -Nat.reducePow, cA, cB, pv, binv, fresh, thenQ, blockQ, retQ, Value.oneCell', Value.cells, fBox, tBox, iBox, mBox, gBox, flBox, fdV, tyV, insV, fnV, modV, fltV, fineF, undef, cS, Nat.mul_one, g2_1, g2_5, g2_33, g2_34, g2_35, g3_1, g3_5, g3_33, g3_34, g3_35, g4_5, g4_55, g4_56, g4_57, g5_5, g5_55, g5_56, g5_57, g6_5, g6_11, g6_55, g6_56, g6_57, g6_70, g6_71, g7_5, g7_11, g7_55, g7_56, g7_57, g7_70, g7_71]
    refine hK _ _ ?_
    clear hK K
    refine cv_gen fun G8 hG => ?_
    have g8_5 := congrFun hG 5
    have g8_55 := congrFun hG 55
    have g8_56 := congrFun hG 56
    have g8_57 := congrFun hG 57
    have g8_80 := congrFun hG 80
    have g8_81 := congrFun hG 81
    have g8_82 := congrFun hG 82
    clear hG
    try simp -implicitDefEqProofs (disch := first | omega | decide) only [seval, -Int.reducePow, -Nat.reducePow, cA, cB, pv, binv, fresh, thenQ, blockQ, retQ, Value.oneCell', Value.cells, fBox, tBox, iBox, mBox, gBox, flBox, fdV, tyV, insV, fnV, modV, fltV, fineF, undef, cS, Nat.mul_one, g2_1, g2_5, g2_33, g2_34, g2_35, g3_1, g3_5, g3_33, g3_34, g3_35, g4_5, g4_55, g4_56, g4_57, g5_5, g5_55, g5_56, g5_57, g6_5, g6_11, g6_55, g6_56, g6_57, g6_70, g6_71, g7_5, g7_11, g7_55, g7_56, g7_57, g7_70, g7_71] at g8_5 g8_55 g8_56 g8_57 g8_80 g8_81 g8_82
    refine cv_block ?_
    refine cv_loop (fun F' L' => ∃ (j : Nat) (A7 : Option Addr) (n7 c7 : Nat), F' 5 = .slice A7 n7 c7 ∧ F' 55 = G8 55 ∧ F' 56 = G8 56 ∧ F' 57 = G8 57 ∧ F' 80 = G8 80 ∧ F' 81 = G8 81 ∧ F' 82 = .int .i64 (j : Int) ∧ L' = [.blk b11 43 [.int .i64 (p : Int), .int .i64 (r : Int), .int .i64 (l : Int), .slice xA xn xc], .row (.slice A7 n7 c7) 5 1 n7 (byt (pg ++ [p, r, l, xn].flatMap putU ++ (code.take j).flatMap encI)), mBox b1 ⟨TA, tn, tc, ts, some ⟨b0, off, none⟩, fn, fc, gs⟩] ∧ j ≤ xn ∧ n7 ≤ 7000 + 12000 * k + 40 + 11 * j) (fun F' L' => 1100 - (intOf (F' 82)).toNat) ?_ ?_
    · refine ⟨0, A7, n7, c7, ?_⟩
      simp -implicitDefEqProofs (disch := first | omega | decide) only [seval, -Int.reducePow, -Nat.reducePow, cA, cB, pv, binv, fresh, thenQ, blockQ, retQ, Value.oneCell', Value.cells, fBox, tBox, iBox, mBox, gBox, flBox, fdV, tyV, insV, fnV, modV, fltV, fineF, undef, cS, Nat.mul_one, g2_1, g2_5, g2_33, g2_34, g2_35, g3_1, g3_5, g3_33, g3_34, g3_35, g4_5, g4_55, g4_56, g4_57, g5_5, g5_55, g5_56, g5_57, g6_5, g6_11, g6_55, g6_56, g6_57, g6_70, g6_71, g7_5, g7_11, g7_55, g7_56, g7_57, g7_70, g7_71, g8_5, g8_55, g8_56, g8_57, g8_80, g8_81, g8_82]
      simp only [List.flatMap_nil, List.append_nil]
      repeat' (first | with_reducible exact trivial | with_reducible rfl | omega | refine And.intro ?_ ?_)
    intro G9 L' hI
    obtain ⟨j, A7, n7, c7, q5, q55, q56, q57, q80, q81, q82, rfl, ⟨hj, h7⟩⟩ := hI
    have g9_5 := q5
    have g9_55 := q55.trans g8_55
    have g9_56 := q56.trans g8_56
    have g9_57 := q57.trans g8_57
    have g9_80 := q80.trans g8_80
    have g9_81 := q81.trans g8_81
    have g9_82 := q82
    clear q5 q55 q56 q57 q80 q81 q82
    refine cv_seq_k fun K hK => ?_
    refine cv_region_then rfl ?_
    simp -implicitDefEqProofs (disch := first | omega | decide) only [seval, -Int.reducePow, -Nat.reducePow, cA, cB, pv, binv, fresh, thenQ, blockQ, retQ, Value.oneCell', Value.cells, fBox, tBox, iBox, mBox, gBox, flBox, fdV, tyV, insV, fnV, modV, fltV, fineF, undef, cS, Nat.mul_one, g2_1, g2_5, g2_33, g2_34, g2_35, g3_1, g3_5, g3_33, g3_34, g3_35, g4_5, g4_55, g4_56, g4_57, g5_5, g5_55, g5_56, g5_57, g6_5, g6_11, g6_55, g6_56, g6_57, g6_70, g6_71, g7_5, g7_11, g7_55, g7_56, g7_57, g7_70, g7_71, g8_5, g8_55, g8_56, g8_57, g8_80, g8_81, g8_82, g9_5, g9_55, g9_56, g9_57, g9_80, g9_81, g9_82]
    refine hK _ _ ?_
    clear hK K
    refine cv_seq_k fun K hK => ?_
    refine cv_cond ?_
    simp -implicitDefEqProofs (disch := first | omega | decide) only [seval, -Int.reducePow, -Nat.reducePow, cA, cB, pv, binv, fresh, thenQ, blockQ, retQ, Value.oneCell', Value.cells, fBox, tBox, iBox, mBox, gBox, flBox, fdV, tyV, insV, fnV, modV, fltV, fineF, undef, cS, Nat.mul_one, g2_1, g2_5, g2_33, g2_34, g2_35, g3_1, g3_5, g3_33, g3_34, g3_35, g4_5, g4_55, g4_56, g4_57, g5_5, g5_55, g5_56, g5_57, g6_5, g6_11, g6_55, g6_56, g6_57, g6_70, g6_71, g7_5, g7_11, g7_55, g7_56, g7_57, g7_70, g7_71, g8_5, g8_55, g8_56, g8_57, g8_80, g8_81, g8_82, g9_5, g9_55, g9_56, g9_57, g9_80, g9_81, g9_82]
    refine ⟨fun hc => ?_, fun hc => ?_⟩
    · refine cv_skip ?_
      try simp only [blockQ, thenQ]
      have hjt : j < xn := by have := of_decide_eq_true ‹decide ((j : Int) < (xn : Int)) = true›; omega
      obtain ⟨xb, xo, hxA, hxb, -⟩ := hX.cells (by omega)
      subst hxA
      obtain ⟨y, hy⟩ := some_of (l := code) (i := j) (by omega)
      have hym := List.mem_of_getElem? hy
      have hyz := hxi2 y hym
      have hya := hxa y hym
      refine hK _ _ ?_
      clear hK K
      refine cv_seq_k fun K hK => ?_
      refine cv_block ?_
      refine cv_seq_k fun K hK => ?_
      refine cv_region_then rfl ?_
      simp -implicitDefEqProofs (disch := first | omega | decide) only [seval, -Int.reducePow, -Nat.reducePow, cA, cB, pv, binv, fresh, thenQ, blockQ, retQ, Value.oneCell', Value.cells, fBox, tBox, iBox, mBox, gBox, flBox, fdV, tyV, insV, fnV, modV, fltV, fineF, undef, cS, Nat.mul_one, g2_1, g2_5, g2_33, g2_34, g2_35, g3_1, g3_5, g3_33, g3_34, g3_35, g4_5, g4_55, g4_56, g4_57, g5_5, g5_55, g5_56, g5_57, g6_5, g6_11, g6_55, g6_56, g6_57, g6_70, g6_71, g7_5, g7_11, g7_55, g7_56, g7_57, g7_70, g7_71, g8_5, g8_55, g8_56, g8_57, g8_80, g8_81, g8_82, g9_5, g9_55, g9_56, g9_57, g9_80, g9_81, g9_82]
      refine ⟨_, hX.ins hy, fun tok htok => ?_⟩
      subst htok
      simp -implicitDefEqProofs (disch := first | omega | decide) only [seval, -Int.reducePow, -Nat.reducePow, cA, cB, pv, binv, fresh, thenQ, blockQ, retQ, Value.oneCell', Value.cells, fBox, tBox, iBox, mBox, gBox, flBox, fdV, tyV, insV, fnV, modV, fltV, fineF, undef, cS, Nat.mul_one, g2_1, g2_5, g2_33, g2_34, g2_35, g3_1, g3_5, g3_33, g3_34, g3_35, g4_5, g4_55, g4_56, g4_57, g5_5, g5_55, g5_56, g5_57, g6_5, g6_11, g6_55, g6_56, g6_57, g6_70, g6_71, g7_5, g7_11, g7_55, g7_56, g7_57, g7_70, g7_71, g8_5, g8_55, g8_56, g8_57, g8_80, g8_81, g8_82, g9_5, g9_55, g9_56, g9_57, g9_80, g9_81, g9_82]
      intro b15 hb15 h15
      refine hK _ _ ?_
      clear hK K
      refine cv_seq_k fun K hK => ?_
      refine cv_region_then rfl ?_
      simp -implicitDefEqProofs (disch := first | omega | decide) only [seval, -Int.reducePow, -Nat.reducePow, cA, cB, pv, binv, fresh, thenQ, blockQ, retQ, Value.oneCell', Value.cells, fBox, tBox, iBox, mBox, gBox, flBox, fdV, tyV, insV, fnV, modV, fltV, fineF, undef, cS, Nat.mul_one, g2_1, g2_5, g2_33, g2_34, g2_35, g3_1, g3_5, g3_33, g3_34, g3_35, g4_5, g4_55, g4_56, g4_57, g5_5, g5_55, g5_56, g5_57, g6_5, g6_11, g6_55, g6_56, g6_57, g6_70, g6_71, g7_5, g7_11, g7_55, g7_56, g7_57, g7_70, g7_71, g8_5, g8_55, g8_56, g8_57, g8_80, g8_81, g8_82, g9_5, g9_55, g9_56, g9_57, g9_80, g9_81, g9_82]
      refine callV_row (fun A' n' c' => .tuple #[.slice A' n' c', .int .i64 y.err]) (fun w hw => i_ienc_any y w hya) ?_
      intro A8 n8 c8 hl8 _
      rw [encIE_eq hyz] at *
      have hn8 : n8 ≤ 11 := by have := byt_row hl8; have := encI_len hya; omega
      simp -implicitDefEqProofs (disch := first | omega | decide) only [seval, -Int.reducePow, -Nat.reducePow, cA, cB, pv, binv, fresh, thenQ, blockQ, retQ, Value.oneCell', Value.cells, fBox, tBox, iBox, mBox, gBox, flBox, fdV, tyV, insV, fnV, modV, fltV, fineF, undef, cS, Nat.mul_one, g2_1, g2_5, g2_33, g2_34, g2_35, g3_1, g3_5, g3_33, g3_34, g3_35, g4_5, g4_55, g4_56, g4_57, g5_5, g5_55, g5_56, g5_57, g6_5, g6_11, g6_55, g6_56, g6_57, g6_70, g6_71, g7_5, g7_11, g7_55, g7_56, g7_57, g7_70, g7_71, g8_5, g8_55, g8_56, g8_57, g8_80, g8_81, g8_82, g9_5, g9_55, g9_56, g9_57, g9_80, g9_81, g9_82]
      refine hK _ _ ?_
      clear hK K
      refine cv_region_q rfl ?_
      simp -implicitDefEqProofs (disch := first | omega | decide) only [seval, -Int.reducePow, -Nat.reducePow, cA, cB, pv, binv, fresh, thenQ, blockQ, retQ, Value.oneCell', Value.cells, fBox, tBox, iBox, mBox, gBox, flBox, fdV, tyV, insV, fnV, modV, fltV, fineF, undef, cS, Nat.mul_one, g2_1, g2_5, g2_33, g2_34, g2_35, g3_1, g3_5, g3_33, g3_34, g3_35, g4_5, g4_55, g4_56, g4_57, g5_5, g5_55, g5_56, g5_57, g6_5, g6_11, g6_55, g6_56, g6_57, g6_70, g6_71, g7_5, g7_11, g7_55, g7_56, g7_57, g7_70, g7_71, g8_5, g8_55, g8_56, g8_57, g8_80, g8_81, g8_82, g9_5, g9_55, g9_56, g9_57, g9_80, g9_81, g9_82]
      refine appV_at 3 tap36 rfl (fun w hw => src_row (.head _) hw) (ones_byt _) (by omega) (by omega) ?_
      intro A9 c9 hl9 _
      simp -implicitDefEqProofs (disch := first | omega | decide) only [seval, -Int.reducePow, -Nat.reducePow, cA, cB, pv, binv, fresh, thenQ, blockQ, retQ, Value.oneCell', Value.cells, fBox, tBox, iBox, mBox, gBox, flBox, fdV, tyV, insV, fnV, modV, fltV, fineF, undef, cS, Nat.mul_one, g2_1, g2_5, g2_33, g2_34, g2_35, g3_1, g3_5, g3_33, g3_34, g3_35, g4_5, g4_55, g4_56, g4_57, g5_5, g5_55, g5_56, g5_57, g6_5, g6_11, g6_55, g6_56, g6_57, g6_70, g6_71, g7_5, g7_11, g7_55, g7_56, g7_57, g7_70, g7_71, g8_5, g8_55, g8_56, g8_57, g8_80, g8_81, g8_82, g9_5, g9_55, g9_56, g9_57, g9_80, g9_81, g9_82]
      refine hK _ _ ?_
      clear hK K
      refine cv_pick [3, 0, 4] (by decide) ?_
      simp only [pickL, nth]
      refine cv_region_then rfl ?_
      simp -implicitDefEqProofs (disch := first | omega | decide) only [seval, -Int.reducePow, -Nat.reducePow, cA, cB, pv, binv, fresh, thenQ, blockQ, retQ, Value.oneCell', Value.cells, fBox, tBox, iBox, mBox, gBox, flBox, fdV, tyV, insV, fnV, modV, fltV, fineF, undef, cS, Nat.mul_one, wrap_in, g2_1, g2_5, g2_33, g2_34, g2_35, g3_1, g3_5, g3_33, g3_34, g3_35, g4_5, g4_55, g4_56, g4_57, g5_5, g5_55, g5_56, g5_57, g6_5, g6_11, g6_55, g6_56, g6_57, g6_70, g6_71, g7_5, g7_11, g7_55, g7_56, g7_57, g7_70, g7_71, g8_5, g8_55, g8_56, g8_57, g8_80, g8_81, g8_82, g9_5, g9_55, g9_56, g9_57, g9_80, g9_81, g9_82]
      refine ⟨⟨j + 1, A9, n7 + n8, c9, ?_⟩, ?_⟩
      · simp -implicitDefEqProofs (disch := first | omega | decide) only [seval, -Int.reducePow, -Nat.reducePow, cA, cB, pv, binv, fresh, thenQ, blockQ, retQ, Value.oneCell', Value.cells, fBox, tBox, iBox, mBox, gBox, flBox, fdV, tyV, insV, fnV, modV, fltV, fineF, undef, cS, Nat.mul_one, Int.natCast_add, g2_1, g2_5, g2_33, g2_34, g2_35, g3_1, g3_5, g3_33, g3_34, g3_35, g4_5, g4_55, g4_56, g4_57, g5_5, g5_55, g5_56, g5_57, g6_5, g6_11, g6_55, g6_56, g6_57, g6_70, g6_71, g7_5, g7_11, g7_55, g7_56, g7_57, g7_70, g7_71, g8_5, g8_55, g8_56, g8_57, g8_80, g8_81, g8_82, g9_5, g9_55, g9_56, g9_57, g9_80, g9_81, g9_82]
        rw [flat_snoc encI hy, ← List.append_assoc (pg ++ _), byt_append _ (encI y)]
        exact ⟨rfl, by omega, by omega⟩
      · simp only [intOf]; omega
    refine cv_exit ?_
    simp only [blockQ, thenQ, if_true, ite_true]
    clear hK K
    refine hK _ _ ?_
    clear hK K
    obtain rfl : j = xn := by have := of_decide_eq_false ‹decide ((j : Int) < (xn : Int)) = false›; omega
    rw [List.take_of_length_le (by omega), List.append_assoc, ← henx, ← hpg, List.append_assoc, ← hsn]
    refine cv_pick [1, 2] (by decide) ?_
    simp only [pickL, nth]
    refine cv_region_then rfl ?_
    simp -implicitDefEqProofs (disch := first | omega | decide) only [seval, -Int.reducePow, -Nat.reducePow, cA, cB, pv, binv, fresh, thenQ, blockQ, retQ, Value.oneCell', Value.cells, fBox, tBox, iBox, mBox, gBox, flBox, fdV, tyV, insV, fnV, modV, fltV, fineF, undef, cS, Nat.mul_one, wrap_in, g2_1, g2_5, g2_33, g2_34, g2_35, g3_1, g3_5, g3_33, g3_34, g3_35, g4_5, g4_55, g4_56, g4_57, g5_5, g5_55, g5_56, g5_57, g6_5, g6_11, g6_55, g6_56, g6_57, g6_70, g6_71, g7_5, g7_11, g7_55, g7_56, g7_57, g7_70, g7_71, g8_5, g8_55, g8_56, g8_57, g8_80, g8_81, g8_82, g9_5, g9_55, g9_56, g9_57, g9_80, g9_81, g9_82]
    refine ⟨⟨k + 1, A7, n7, c7, ?_⟩, ?_⟩
    · simp -implicitDefEqProofs (disch := first | omega | decide) only [seval, -Int.reducePow, -Nat.reducePow, cA, cB, pv, binv, fresh, thenQ, blockQ, retQ, Value.oneCell', Value.cells, fBox, tBox, iBox, mBox, gBox, flBox, fdV, tyV, insV, fnV, modV, fltV, fineF, undef, cS, Nat.mul_one, Int.natCast_add, g2_1, g2_5, g2_33, g2_34, g2_35, g3_1, g3_5, g3_33, g3_34, g3_35, g4_5, g4_55, g4_56, g4_57, g5_5, g5_55, g5_56, g5_57, g6_5, g6_11, g6_55, g6_56, g6_57, g6_70, g6_71, g7_5, g7_11, g7_55, g7_56, g7_57, g7_70, g7_71, g8_5, g8_55, g8_56, g8_57, g8_80, g8_81, g8_82, g9_5, g9_55, g9_56, g9_57, g9_80, g9_81, g9_82]
      repeat' (first | with_reducible exact trivial | with_reducible rfl | omega | refine And.intro ?_ ?_)
    · simp only [intOf]; omega
  refine cv_exit ?_
  simp only [blockQ, thenQ, if_true, ite_true]
  clear hK K
  refine hK _ _ ?_
  clear hK K
  obtain rfl : fn = k := by have := of_decide_eq_false ‹decide ((k : Int) < (fn : Int)) = false›; omega
  rw [List.take_of_length_le (by omega)]
  rw [hlt, hlg, hpre] at henc
  rw [← henc]
  refine cv_len 0 rfl fun hl => ?_
  have hl := byt_row hl
  refine cv_seq_k fun K hK => ?_
  refine cv_seq_k fun K hK => ?_
  refine cv_region_then rfl ?_
  simp -implicitDefEqProofs (disch := first | omega | decide) only [seval, -Int.reducePow, -Nat.reducePow, cA, cB, pv, binv, fresh, thenQ, blockQ, retQ, Value.oneCell', Value.cells, fBox, tBox, iBox, mBox, gBox, flBox, fdV, tyV, insV, fnV, modV, fltV, fineF, undef, cS, Nat.mul_one, g2_1, g2_5, g2_33, g2_34, g2_35, g3_1, g3_5, g3_33, g3_34, g3_35, g4_5, g4_55, g4_56, g4_57, g5_5, g5_55, g5_56, g5_57]
  refine hK _ _ ?_
  clear hK K
  refine cv_cond ?_
  simp -implicitDefEqProofs (disch := first | omega | decide) only [seval, -Int.reducePow, -Nat.reducePow, cA, cB, pv, binv, fresh, thenQ, blockQ, retQ, Value.oneCell', Value.cells, fBox, tBox, iBox, mBox, gBox, flBox, fdV, tyV, insV, fnV, modV, fltV, fineF, undef, cS, Nat.mul_one, g2_1, g2_5, g2_33, g2_34, g2_35, g3_1, g3_5, g3_33, g3_34, g3_35, g4_5, g4_55, g4_56, g4_57, g5_5, g5_55, g5_56, g5_57]
  refine ⟨fun hc => ?_, fun hc => ?_⟩
  · have h2 : 65536 < em.length := by have := of_decide_eq_true ‹decide ((65536 : Int) < (n6 : Int)) = true›; omega
    refine cv_seq_k fun K hK => ?_
    refine cv_region_then rfl ?_
    simp -implicitDefEqProofs (disch := first | omega | decide) only [seval, -Int.reducePow, -Nat.reducePow, cA, cB, pv, binv, fresh, thenQ, blockQ, retQ, Value.oneCell', Value.cells, fBox, tBox, iBox, mBox, gBox, flBox, fdV, tyV, insV, fnV, modV, fltV, fineF, undef, cS, Nat.mul_one, g2_1, g2_5, g2_33, g2_34, g2_35, g3_1, g3_5, g3_33, g3_34, g3_35, g4_5, g4_55, g4_56, g4_57, g5_5, g5_55, g5_56, g5_57]
    refine hK _ _ ?_
    clear hK K
    refine cv_ret ⟨_, (by simp -implicitDefEqProofs (disch := first | omega | decide) only [seval, -Int.reducePow, -Nat.reducePow, cA, cB, pv, binv, fresh, thenQ, blockQ, retQ, Value.oneCell', Value.cells, fBox, tBox, iBox, mBox, gBox, flBox, fdV, tyV, insV, fnV, modV, fltV, fineF, undef, cS, Nat.mul_one, g2_1, g2_5, g2_33, g2_34, g2_35, g3_1, g3_5, g3_33, g3_34, g3_35, g4_5, g4_55, g4_56, g4_57, g5_5, g5_55, g5_56, g5_57]; rfl), fun w hw => ?_⟩
    exact ⟨none, 0, 0, by rw [(hbig hz h2).1], by rw [(hbig hz h2).2]; exact World.ownsRow_nil _ _ _ _, hw.below⟩
  have h2 : ¬ 65536 < em.length := by have := of_decide_eq_false ‹decide ((65536 : Int) < (n6 : Int)) = false›; omega
  refine cv_skip ?_
  try simp only [blockQ, thenQ]
  refine hK _ _ ?_
  clear hK K
  refine cv_seq_k fun K hK => ?_
  refine cv_region_then rfl ?_
  simp -implicitDefEqProofs (disch := first | omega | decide) only [seval, -Int.reducePow, -Nat.reducePow, cA, cB, pv, binv, fresh, thenQ, blockQ, retQ, Value.oneCell', Value.cells, fBox, tBox, iBox, mBox, gBox, flBox, fdV, tyV, insV, fnV, modV, fltV, fineF, undef, cS, Nat.mul_one, g2_1, g2_5, g2_33, g2_34, g2_35, g3_1, g3_5, g3_33, g3_34, g3_35, g4_5, g4_55, g4_56, g4_57, g5_5, g5_55, g5_56, g5_57]
  refine hK _ _ ?_
  clear hK K
  refine cv_ret ⟨_, (by simp -implicitDefEqProofs (disch := first | omega | decide) only [seval, -Int.reducePow, -Nat.reducePow, cA, cB, pv, binv, fresh, thenQ, blockQ, retQ, Value.oneCell', Value.cells, fBox, tBox, iBox, mBox, gBox, flBox, fdV, tyV, insV, fnV, modV, fltV, fineF, undef, cS, Nat.mul_one, g2_1, g2_5, g2_33, g2_34, g2_35, g3_1, g3_5, g3_33, g3_34, g3_35, g4_5, g4_55, g4_56, g4_57, g5_5, g5_55, g5_56, g5_57]; rfl), fun w hw => ?_⟩
  exact ⟨A6, n6, c6, by rw [(hok hz h2).1], by rw [(hok hz h2).2]; exact hw.rowNew (by simp), hw.below⟩
end Go.Proofs.Ytehfnjaompkikaa
