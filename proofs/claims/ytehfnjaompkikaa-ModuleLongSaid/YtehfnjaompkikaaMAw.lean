/- The sanity check of the module laws; few. -/
import Derived.Test.YtehfnjaompkikaaMEnc
namespace Go.Proofs.Ytehfnjaompkikaa
open Go.RowKit Go.Shelf
set_option linter.unusedVariables false
set_option linter.unusedSimpArgs false
set_option maxRecDepth 100000
section
variable {W w : World} {L : List Res} {n c : Nat} {A : Option Addr} {ts : List TyR} {gs : List FnR}
theorem Sl.tyf {b off k : Nat} {x : TyR} (h : Sl W W.heap.size 2 (some ⟨b, off, none⟩) n c (cl tyc ts)) (hx : ts[k]? = some x) : LD Try.prog [] W L 61 ⟨b, off + k * 2 + 1, none⟩ (.slice x.A x.n x.c) := by
  have := h.ld1 (L := L) (P := Try.prog) (T := 61) (m := 1) (by kernel_rfl) (cl_get (j := 1) tyc_len hx rfl)
  rwa [← Nat.add_assoc] at this
theorem Sl.fnf {b off k : Nat} {x : FnR} (h : Sl W W.heap.size 4 (some ⟨b, off, none⟩) n c (cl fnc gs)) (hx : gs[k]? = some x) : LD Try.prog [] W L 41 ⟨b, off + k * 4 + 3, none⟩ (.slice x.A x.n x.c) := by
  have := h.ld1 (L := L) (P := Try.prog) (T := 41) (m := 1) (by kernel_rfl) (cl_get (j := 3) fnc_len hx rfl)
  rwa [← Nat.add_assoc] at this
end
def awM (b5 b7 : Nat) : ModR := ⟨none, 0, 0, [], some ⟨b7, 0, none⟩, 1, 1, [⟨0, 0, 0, some ⟨b5, 0, none⟩, 1, 1, [⟨25, 0⟩]⟩]⟩
def awE : List Nat := [80, 72, 77, 49, 0, 1, 0, 0, 0, 1, 25]
theorem aw_chk (b5 b7 : Nat) : chkM (awM b5 b7) = fineF := by
  simp [chkM, chkP, awM, firstT, firstF, fltF, fnErr, firstI, Ins.err, knownP, argP, fineF]
theorem aw_enc (b5 b7 : Nat) : encM (awM b5 b7) = awE := by
  simp [encM, awM, magicB, encFn, encI, argP, putU_small, awE]
theorem aw_err (b5 b7 : Nat) : errM (awM b5 b7) = 0 ∧ encMod (awM b5 b7) = awE := by
  have h := errM_ok (m := awM b5 b7) (by rw [aw_chk]; rfl) (by rw [aw_enc]; decide)
  rw [aw_enc] at h
  exact h
theorem awake_mstr : bstr awE = ⟨#[80, 72, 77, 49, 0, 1, 0, 0, 0, 1, 25]⟩ := by rw [bstr_eq]; rfl
theorem aw_mod {w : World} {b5 b7 : Nat} (h5 : Sl w w.heap.size 2 (some ⟨b5, 0, none⟩) 1 1 (cl insc [⟨25, 0⟩])) (h7 : Sl w w.heap.size 4 (some ⟨b7, 0, none⟩) 1 1 (cl fnc (awM b5 b7).gs)) : Mod w w.heap.size (awM b5 b7) := by
  refine ⟨Sl.nil 2, fun t ht => (by simp [awM] at ht), h7, fun g hg => ?_, fun g hg i hi => ?_⟩
  · obtain rfl : g = ⟨0, 0, 0, some ⟨b5, 0, none⟩, 1, 1, [⟨25, 0⟩]⟩ := by simpa [awM] using hg
    exact h5
  · obtain rfl : g = ⟨0, 0, 0, some ⟨b5, 0, none⟩, 1, 1, [⟨25, 0⟩]⟩ := by simpa [awM] using hg
    obtain rfl : i = ⟨25, 0⟩ := by simpa using hi
    decide
theorem aw_call {w : World} {b5 b7 : Nat} (h5 : Sl w w.heap.size 2 (some ⟨b5, 0, none⟩) 1 1 (cl insc [⟨25, 0⟩])) (h7 : Sl w w.heap.size 4 (some ⟨b7, 0, none⟩) 1 1 (cl fnc (awM b5 b7).gs)) :
    Calls Try.prog 16 #[modV (awM b5 b7)] w (rowP 5 1 (fun v => .tuple #[v, .int .i64 0]) (byt awE) w) := by
  have := menc_any (awM b5 b7) w (aw_mod h5 h7)
  rwa [(aw_err b5 b7).1, (aw_err b5 b7).2] at this
theorem awake_any (W : World) : Calls Try.prog 11 #[] W fun e w' => e = .returned (.bool true) ∧ Below W.heap.size W w' := by
  refine calls_cv (M := []) (n := 19) [.tmp 0] rfl Try.func11 rfl rfl (Nat.le_of_ble_eq_true rfl) (St.nil _ _) ?_
  refine cv_seq_k fun K hK => ?_
  refine cv_region_then rfl ?_
  simp -implicitDefEqProofs (disch := first | omega | decide) only [seval, -Int.reducePow, -Nat.reducePow, cA, cB, pv, binv, fresh, thenQ, blockQ, retQ, Value.oneCell', Value.cells, fBox, tBox, iBox, mBox, gBox, flBox, fdV, tyV, insV, fnV, modV, fltV, fineF, undef, cS, Nat.mul_one]
  refine hK _ _ ?_
  clear hK K
  refine cv_seq_k fun K hK => ?_
  refine cv_region_then rfl ?_
  simp -implicitDefEqProofs (disch := first | omega | decide) only [seval, -Int.reducePow, -Nat.reducePow, cA, cB, pv, binv, fresh, thenQ, blockQ, retQ, Value.oneCell', Value.cells, fBox, tBox, iBox, mBox, gBox, flBox, fdV, tyV, insV, fnV, modV, fltV, fineF, undef, cS, Nat.mul_one]
  intro b5 hb5 b7 hb7 h7
  refine callV_row (fun A' n' c' => .tuple #[.slice A' n' c', .int .i64 0]) (fun w hw => aw_call (b5 := b5) (b7 := b7) (Sl.of_blk hw (.tail _ (.head _)) rfl (by omega)) (Sl.of_blk hw (.head _) rfl (by omega))) ?_
  intro A1 n1 c1 hl1 _
  simp -implicitDefEqProofs (disch := first | omega | decide) only [seval, -Int.reducePow, -Nat.reducePow, cA, cB, pv, binv, fresh, thenQ, blockQ, retQ, Value.oneCell', Value.cells, fBox, tBox, iBox, mBox, gBox, flBox, fdV, tyV, insV, fnV, modV, fltV, fineF, undef, cS, Nat.mul_one]
  refine hK _ _ ?_
  clear hK K
  refine cv_seq_k fun K hK => ?_
  refine cv_region_then rfl ?_
  simp -implicitDefEqProofs (disch := first | omega | decide) only [seval, -Int.reducePow, -Nat.reducePow, cA, cB, pv, binv, fresh, thenQ, blockQ, retQ, Value.oneCell', Value.cells, fBox, tBox, iBox, mBox, gBox, flBox, fdV, tyV, insV, fnV, modV, fltV, fineF, undef, cS, Nat.mul_one]
  refine ⟨_, fun w hw => hw.strk 0 rfl, fun tok htok => ?_⟩
  subst htok
  simp -implicitDefEqProofs (disch := first | omega | decide) only [seval, -Int.reducePow, -Nat.reducePow, cA, cB, pv, binv, fresh, thenQ, blockQ, retQ, Value.oneCell', Value.cells, fBox, tBox, iBox, mBox, gBox, flBox, fdV, tyV, insV, fnV, modV, fltV, fineF, undef, cS, Nat.mul_one]
  rw [awake_mstr]
  simp -implicitDefEqProofs (disch := first | omega | decide) only [seval, -Int.reducePow, -Nat.reducePow, cA, cB, pv, binv, fresh, thenQ, blockQ, retQ, Value.oneCell', Value.cells, fBox, tBox, iBox, mBox, gBox, flBox, fdV, tyV, insV, fnV, modV, fltV, fineF, undef, cS, Nat.mul_one]
  refine hK _ _ ?_
  clear hK K
  refine cv_ret ⟨_, (by simp -implicitDefEqProofs (disch := first | omega | decide) only [seval, -Int.reducePow, -Nat.reducePow, cA, cB, pv, binv, fresh, thenQ, blockQ, retQ, Value.oneCell', Value.cells, fBox, tBox, iBox, mBox, gBox, flBox, fdV, tyV, insV, fnV, modV, fltV, fineF, undef, cS, Nat.mul_one]; rfl), fun w hw => ?_⟩
  exact ⟨rfl, hw.below⟩
set_option maxHeartbeats 1000000 in
theorem few_any (m : ModR) (W : World) (hM : Mod W W.heap.size m) : Calls Try.prog 10 #[modV m] W fun e w' => ∃ r : Bool, e = .returned (.bool r) ∧ True ∧ Below W.heap.size W w' := by
  have hlt := hM.tlen
  have hlg := hM.glen
  have hE := hM.ts
  have hG := hM.gs
  obtain ⟨TA, tn, tc, ts, FA, fn, fc, gs⟩ := m
  dsimp only at *
  refine calls_cv (M := []) (n := 45) [.tmp 2] rfl Try.func10 rfl rfl (Nat.le_of_ble_eq_true rfl) (St.nil _ _) ?_
  refine cv_seq_k fun K hK => ?_
  refine cv_region_then rfl ?_
  simp -implicitDefEqProofs (disch := first | omega | decide) only [seval, -Int.reducePow, -Nat.reducePow, cA, cB, pv, binv, fresh, thenQ, blockQ, retQ, Value.oneCell', Value.cells, fBox, tBox, iBox, mBox, gBox, flBox, fdV, tyV, insV, fnV, modV, fltV, fineF, undef, cS, Nat.mul_one]
  intro b1 hb1
  refine hK _ _ ?_
  clear hK K
  refine cv_gen fun G1 hG => ?_
  have g1_1 := congrFun hG 1
  clear hG
  try simp -implicitDefEqProofs (disch := first | omega | decide) only [seval, -Int.reducePow, -Nat.reducePow, cA, cB, pv, binv, fresh, thenQ, blockQ, retQ, Value.oneCell', Value.cells, fBox, tBox, iBox, mBox, gBox, flBox, fdV, tyV, insV, fnV, modV, fltV, fineF, undef, cS, Nat.mul_one] at g1_1
  refine cv_seq_k fun K hK => ?_
  refine cv_seq_k fun K hK => ?_
  refine cv_cut (fun _ _ => True) (fun F' L' => F' 1 = G1 1 ∧ F' 14 = .bool (decide (40 < tn ∨ 40 < fn)) ∧ L' = [mBox b1 ⟨TA, tn, tc, ts, FA, fn, fc, gs⟩]) ?_ ?_
  · refine cv_region_then rfl ?_
    simp -implicitDefEqProofs (disch := first | omega | decide) only [seval, -Int.reducePow, -Nat.reducePow, cA, cB, pv, binv, fresh, thenQ, blockQ, retQ, Value.oneCell', Value.cells, fBox, tBox, iBox, mBox, gBox, flBox, fdV, tyV, insV, fnV, modV, fltV, fineF, undef, cS, Nat.mul_one, g1_1]
    repeat' ((first | refine vcg_cases (fun hg => ?_) (fun hg => ?_) | refine vdg_cases (fun hg => ?_) (fun hg => ?_)) <;> ((try simp only [Bool.not_eq_true', Bool.not_eq_false', decide_eq_true_eq, decide_eq_false_iff_not] at hg); (try simp -implicitDefEqProofs (disch := first | omega | decide) only [seval, -Int.reducePow, -Nat.reducePow, cA, cB, pv, binv, fresh, thenQ, blockQ, retQ, Value.oneCell', Value.cells, fBox, tBox, iBox, mBox, gBox, flBox, fdV, tyV, insV, fnV, modV, fltV, fineF, undef, cS, Nat.mul_one, hg, g1_1])))
    all_goals (repeat' refine And.intro ?_ ?_)
    all_goals (first | with_reducible rfl | (refine congrArg Value.bool ?_; rw [Bool.eq_iff_iff]; (try simp only [decide_eq_true_eq, eq_self, true_and, and_true, false_and, and_false, true_or, or_true, false_or, or_false, not_true_eq_false, not_false_eq_true, true_iff, iff_true, false_iff, iff_false, Bool.false_eq_true, Bool.not_eq_true', Bool.not_eq_true, decide_eq_false_iff_not, Bool.and_eq_true, Bool.or_eq_true]) <;> omega) | (refine congrArg (Value.int _) ?_; omega) | omega)
  intro G2 L' _ hF
  obtain ⟨q1, q14, rfl⟩ := hF
  have g2_1 := q1.trans g1_1
  have g2_14 := q14
  clear q1 q14
  refine hK _ _ ?_
  clear hK K
  refine cv_cond ?_
  simp -implicitDefEqProofs (disch := first | omega | decide) only [seval, -Int.reducePow, -Nat.reducePow, cA, cB, pv, binv, fresh, thenQ, blockQ, retQ, Value.oneCell', Value.cells, fBox, tBox, iBox, mBox, gBox, flBox, fdV, tyV, insV, fnV, modV, fltV, fineF, undef, cS, Nat.mul_one, g2_1, g2_14]
  refine ⟨fun hc => ?_, fun hc => ?_⟩
  · refine cv_seq_k fun K hK => ?_
    refine cv_region_then rfl ?_
    simp -implicitDefEqProofs (disch := first | omega | decide) only [seval, -Int.reducePow, -Nat.reducePow, cA, cB, pv, binv, fresh, thenQ, blockQ, retQ, Value.oneCell', Value.cells, fBox, tBox, iBox, mBox, gBox, flBox, fdV, tyV, insV, fnV, modV, fltV, fineF, undef, cS, Nat.mul_one, g2_1, g2_14]
    refine hK _ _ ?_
    clear hK K
    refine cv_ret ⟨_, (by simp -implicitDefEqProofs (disch := first | omega | decide) only [seval, -Int.reducePow, -Nat.reducePow, cA, cB, pv, binv, fresh, thenQ, blockQ, retQ, Value.oneCell', Value.cells, fBox, tBox, iBox, mBox, gBox, flBox, fdV, tyV, insV, fnV, modV, fltV, fineF, undef, cS, Nat.mul_one, g2_1, g2_14]; rfl), fun w hw => ?_⟩
    first | exact ⟨_, rfl, trivial, hw.below⟩ | exact ⟨_, rfl, hw.below⟩
  have q1 := of_decide_eq_false hc
  refine cv_skip ?_
  try simp only [blockQ, thenQ]
  refine hK _ _ ?_
  clear hK K
  refine cv_seq_k fun K hK => ?_
  refine cv_seq_k fun K hK => ?_
  refine cv_region_then rfl ?_
  simp -implicitDefEqProofs (disch := first | omega | decide) only [seval, -Int.reducePow, -Nat.reducePow, cA, cB, pv, binv, fresh, thenQ, blockQ, retQ, Value.oneCell', Value.cells, fBox, tBox, iBox, mBox, gBox, flBox, fdV, tyV, insV, fnV, modV, fltV, fineF, undef, cS, Nat.mul_one, g2_1, g2_14]
  refine hK _ _ ?_
  clear hK K
  refine cv_gen fun G3 hG => ?_
  have g3_1 := congrFun hG 1
  have g3_17 := congrFun hG 17
  have g3_18 := congrFun hG 18
  clear hG
  try simp -implicitDefEqProofs (disch := first | omega | decide) only [seval, -Int.reducePow, -Nat.reducePow, cA, cB, pv, binv, fresh, thenQ, blockQ, retQ, Value.oneCell', Value.cells, fBox, tBox, iBox, mBox, gBox, flBox, fdV, tyV, insV, fnV, modV, fltV, fineF, undef, cS, Nat.mul_one, g2_1, g2_14] at g3_1 g3_17 g3_18
  refine cv_block ?_
  refine cv_loop (fun F' L' => ∃ (k : Nat), F' 1 = G3 1 ∧ F' 17 = G3 17 ∧ F' 18 = .int .i64 (k : Int) ∧ L' = [mBox b1 ⟨TA, tn, tc, ts, FA, fn, fc, gs⟩] ∧ k ≤ tn) (fun F' L' => 50 - (intOf (F' 18)).toNat) ?_ ?_
  · refine ⟨0, ?_⟩
    simp -implicitDefEqProofs (disch := first | omega | decide) only [seval, -Int.reducePow, -Nat.reducePow, cA, cB, pv, binv, fresh, thenQ, blockQ, retQ, Value.oneCell', Value.cells, fBox, tBox, iBox, mBox, gBox, flBox, fdV, tyV, insV, fnV, modV, fltV, fineF, undef, cS, Nat.mul_one, g3_1, g3_17, g3_18]
    omega
  intro G4 L' hI
  obtain ⟨k, q1, q17, q18, rfl, hk⟩ := hI
  have g4_1 := q1.trans g3_1
  have g4_17 := q17.trans g3_17
  have g4_18 := q18
  clear q1 q17 q18
  refine cv_seq_k fun K hK => ?_
  refine cv_region_then rfl ?_
  simp -implicitDefEqProofs (disch := first | omega | decide) only [seval, -Int.reducePow, -Nat.reducePow, cA, cB, pv, binv, fresh, thenQ, blockQ, retQ, Value.oneCell', Value.cells, fBox, tBox, iBox, mBox, gBox, flBox, fdV, tyV, insV, fnV, modV, fltV, fineF, undef, cS, Nat.mul_one, g3_1, g3_17, g3_18, g4_1, g4_17, g4_18]
  refine hK _ _ ?_
  clear hK K
  refine cv_seq_k fun K hK => ?_
  refine cv_cond ?_
  simp -implicitDefEqProofs (disch := first | omega | decide) only [seval, -Int.reducePow, -Nat.reducePow, cA, cB, pv, binv, fresh, thenQ, blockQ, retQ, Value.oneCell', Value.cells, fBox, tBox, iBox, mBox, gBox, flBox, fdV, tyV, insV, fnV, modV, fltV, fineF, undef, cS, Nat.mul_one, g3_1, g3_17, g3_18, g4_1, g4_17, g4_18]
  refine ⟨fun hc => ?_, fun hc => ?_⟩
  · refine cv_skip ?_
    try simp only [blockQ, thenQ]
    have hlt2 : k < tn := by have := of_decide_eq_true ‹decide ((k : Int) < (tn : Int)) = true›; omega
    obtain ⟨b0, off, rfl, hb0, -⟩ := hE.cells (by omega)
    obtain ⟨x, hx⟩ := some_of (l := ts) (i := k) (by omega)
    refine hK _ _ ?_
    clear hK K
    refine cv_seq_k fun K hK => ?_
    refine cv_block ?_
    refine cv_seq_k fun K hK => ?_
    refine cv_region_then rfl ?_
    simp -implicitDefEqProofs (disch := first | omega | decide) only [seval, -Int.reducePow, -Nat.reducePow, cA, cB, pv, binv, fresh, thenQ, blockQ, retQ, Value.oneCell', Value.cells, fBox, tBox, iBox, mBox, gBox, flBox, fdV, tyV, insV, fnV, modV, fltV, fineF, undef, cS, Nat.mul_one, g3_1, g3_17, g3_18, g4_1, g4_17, g4_18]
    refine hK _ _ ?_
    clear hK K
    refine cv_seq_k fun K hK => ?_
    refine cv_region_then rfl ?_
    simp -implicitDefEqProofs (disch := first | omega | decide) only [seval, -Int.reducePow, -Nat.reducePow, cA, cB, pv, binv, fresh, thenQ, blockQ, retQ, Value.oneCell', Value.cells, fBox, tBox, iBox, mBox, gBox, flBox, fdV, tyV, insV, fnV, modV, fltV, fineF, undef, cS, Nat.mul_one, g3_1, g3_17, g3_18, g4_1, g4_17, g4_18]
    refine ⟨_, hE.tyf hx, fun tok htok => ?_⟩
    subst htok
    simp -implicitDefEqProofs (disch := first | omega | decide) only [seval, -Int.reducePow, -Nat.reducePow, cA, cB, pv, binv, fresh, thenQ, blockQ, retQ, Value.oneCell', Value.cells, fBox, tBox, iBox, mBox, gBox, flBox, fdV, tyV, insV, fnV, modV, fltV, fineF, undef, cS, Nat.mul_one, g3_1, g3_17, g3_18, g4_1, g4_17, g4_18]
    refine hK _ _ ?_
    clear hK K
    refine cv_cond ?_
    simp -implicitDefEqProofs (disch := first | omega | decide) only [seval, -Int.reducePow, -Nat.reducePow, cA, cB, pv, binv, fresh, thenQ, blockQ, retQ, Value.oneCell', Value.cells, fBox, tBox, iBox, mBox, gBox, flBox, fdV, tyV, insV, fnV, modV, fltV, fineF, undef, cS, Nat.mul_one, g3_1, g3_17, g3_18, g4_1, g4_17, g4_18]
    refine ⟨fun hc => ?_, fun hc => ?_⟩
    · refine cv_seq_k fun K hK => ?_
      refine cv_region_then rfl ?_
      simp -implicitDefEqProofs (disch := first | omega | decide) only [seval, -Int.reducePow, -Nat.reducePow, cA, cB, pv, binv, fresh, thenQ, blockQ, retQ, Value.oneCell', Value.cells, fBox, tBox, iBox, mBox, gBox, flBox, fdV, tyV, insV, fnV, modV, fltV, fineF, undef, cS, Nat.mul_one, g3_1, g3_17, g3_18, g4_1, g4_17, g4_18]
      refine hK _ _ ?_
      clear hK K
      refine cv_ret ⟨_, (by simp -implicitDefEqProofs (disch := first | omega | decide) only [seval, -Int.reducePow, -Nat.reducePow, cA, cB, pv, binv, fresh, thenQ, blockQ, retQ, Value.oneCell', Value.cells, fBox, tBox, iBox, mBox, gBox, flBox, fdV, tyV, insV, fnV, modV, fltV, fineF, undef, cS, Nat.mul_one, g3_1, g3_17, g3_18, g4_1, g4_17, g4_18]; rfl), fun w hw => ?_⟩
      first | exact ⟨_, rfl, trivial, hw.below⟩ | exact ⟨_, rfl, hw.below⟩
    refine cv_skip ?_
    try simp only [blockQ, thenQ]
    refine hK _ _ ?_
    clear hK K
    refine cv_region_then rfl ?_
    simp -implicitDefEqProofs (disch := first | omega | decide) only [seval, -Int.reducePow, -Nat.reducePow, cA, cB, pv, binv, fresh, thenQ, blockQ, retQ, Value.oneCell', Value.cells, fBox, tBox, iBox, mBox, gBox, flBox, fdV, tyV, insV, fnV, modV, fltV, fineF, undef, cS, Nat.mul_one, wrap_in, g3_1, g3_17, g3_18, g4_1, g4_17, g4_18]
    refine ⟨⟨k + 1, ?_⟩, ?_⟩
    · simp -implicitDefEqProofs (disch := first | omega | decide) only [seval, -Int.reducePow, -Nat.reducePow, cA, cB, pv, binv, fresh, thenQ, blockQ, retQ, Value.oneCell', Value.cells, fBox, tBox, iBox, mBox, gBox, flBox, fdV, tyV, insV, fnV, modV, fltV, fineF, undef, cS, Nat.mul_one, Int.natCast_add, g3_1, g3_17, g3_18, g4_1, g4_17, g4_18]
      repeat' (first | with_reducible exact trivial | with_reducible rfl | omega | refine And.intro ?_ ?_)
    · simp only [intOf]; omega
  refine cv_exit ?_
  simp only [blockQ, thenQ, if_true, ite_true]
  clear hK K
  refine hK _ _ ?_
  clear hK K
  refine cv_seq_k fun K hK => ?_
  refine cv_seq_k fun K hK => ?_
  refine cv_region_then rfl ?_
  simp -implicitDefEqProofs (disch := first | omega | decide) only [seval, -Int.reducePow, -Nat.reducePow, cA, cB, pv, binv, fresh, thenQ, blockQ, retQ, Value.oneCell', Value.cells, fBox, tBox, iBox, mBox, gBox, flBox, fdV, tyV, insV, fnV, modV, fltV, fineF, undef, cS, Nat.mul_one, g3_1, g3_17, g3_18, g4_1, g4_17, g4_18]
  refine hK _ _ ?_
  clear hK K
  refine cv_gen fun G5 hG => ?_
  have g5_1 := congrFun hG 1
  have g5_32 := congrFun hG 32
  have g5_33 := congrFun hG 33
  clear hG
  try simp -implicitDefEqProofs (disch := first | omega | decide) only [seval, -Int.reducePow, -Nat.reducePow, cA, cB, pv, binv, fresh, thenQ, blockQ, retQ, Value.oneCell', Value.cells, fBox, tBox, iBox, mBox, gBox, flBox, fdV, tyV, insV, fnV, modV, fltV, fineF, undef, cS, Nat.mul_one, g3_1, g3_17, g3_18, g4_1, g4_17, g4_18] at g5_1 g5_32 g5_33
  refine cv_block ?_
  refine cv_loop (fun F' L' => ∃ (k : Nat), F' 1 = G5 1 ∧ F' 32 = G5 32 ∧ F' 33 = .int .i64 (k : Int) ∧ L' = [mBox b1 ⟨TA, tn, tc, ts, FA, fn, fc, gs⟩] ∧ k ≤ fn) (fun F' L' => 50 - (intOf (F' 33)).toNat) ?_ ?_
  · refine ⟨0, ?_⟩
    simp -implicitDefEqProofs (disch := first | omega | decide) only [seval, -Int.reducePow, -Nat.reducePow, cA, cB, pv, binv, fresh, thenQ, blockQ, retQ, Value.oneCell', Value.cells, fBox, tBox, iBox, mBox, gBox, flBox, fdV, tyV, insV, fnV, modV, fltV, fineF, undef, cS, Nat.mul_one, g3_1, g3_17, g3_18, g4_1, g4_17, g4_18, g5_1, g5_32, g5_33]
    omega
  intro G6 L' hI
  obtain ⟨k, q1, q32, q33, rfl, hk⟩ := hI
  have g6_1 := q1.trans g5_1
  have g6_32 := q32.trans g5_32
  have g6_33 := q33
  clear q1 q32 q33
  refine cv_seq_k fun K hK => ?_
  refine cv_region_then rfl ?_
  simp -implicitDefEqProofs (disch := first | omega | decide) only [seval, -Int.reducePow, -Nat.reducePow, cA, cB, pv, binv, fresh, thenQ, blockQ, retQ, Value.oneCell', Value.cells, fBox, tBox, iBox, mBox, gBox, flBox, fdV, tyV, insV, fnV, modV, fltV, fineF, undef, cS, Nat.mul_one, g3_1, g3_17, g3_18, g4_1, g4_17, g4_18, g5_1, g5_32, g5_33, g6_1, g6_32, g6_33]
  refine hK _ _ ?_
  clear hK K
  refine cv_seq_k fun K hK => ?_
  refine cv_cond ?_
  simp -implicitDefEqProofs (disch := first | omega | decide) only [seval, -Int.reducePow, -Nat.reducePow, cA, cB, pv, binv, fresh, thenQ, blockQ, retQ, Value.oneCell', Value.cells, fBox, tBox, iBox, mBox, gBox, flBox, fdV, tyV, insV, fnV, modV, fltV, fineF, undef, cS, Nat.mul_one, g3_1, g3_17, g3_18, g4_1, g4_17, g4_18, g5_1, g5_32, g5_33, g6_1, g6_32, g6_33]
  refine ⟨fun hc => ?_, fun hc => ?_⟩
  · refine cv_skip ?_
    try simp only [blockQ, thenQ]
    have hlt2 : k < fn := by have := of_decide_eq_true ‹decide ((k : Int) < (fn : Int)) = true›; omega
    obtain ⟨b0, off, rfl, hb0, -⟩ := hG.cells (by omega)
    obtain ⟨x, hx⟩ := some_of (l := gs) (i := k) (by omega)
    refine hK _ _ ?_
    clear hK K
    refine cv_seq_k fun K hK => ?_
    refine cv_block ?_
    refine cv_seq_k fun K hK => ?_
    refine cv_region_then rfl ?_
    simp -implicitDefEqProofs (disch := first | omega | decide) only [seval, -Int.reducePow, -Nat.reducePow, cA, cB, pv, binv, fresh, thenQ, blockQ, retQ, Value.oneCell', Value.cells, fBox, tBox, iBox, mBox, gBox, flBox, fdV, tyV, insV, fnV, modV, fltV, fineF, undef, cS, Nat.mul_one, g3_1, g3_17, g3_18, g4_1, g4_17, g4_18, g5_1, g5_32, g5_33, g6_1, g6_32, g6_33]
    refine hK _ _ ?_
    clear hK K
    refine cv_seq_k fun K hK => ?_
    refine cv_region_then rfl ?_
    simp -implicitDefEqProofs (disch := first | omega | decide) only [seval, -Int.reducePow, -Nat.reducePow, cA, cB, pv, binv, fresh, thenQ, blockQ, retQ, Value.oneCell', Value.cells, fBox, tBox, iBox, mBox, gBox, flBox, fdV, tyV, insV, fnV, modV, fltV, fineF, undef, cS, Nat.mul_one, g3_1, g3_17, g3_18, g4_1, g4_17, g4_18, g5_1, g5_32, g5_33, g6_1, g6_32, g6_33]
    refine ⟨_, hG.fnf hx, fun tok htok => ?_⟩
    subst htok
    simp -implicitDefEqProofs (disch := first | omega | decide) only [seval, -Int.reducePow, -Nat.reducePow, cA, cB, pv, binv, fresh, thenQ, blockQ, retQ, Value.oneCell', Value.cells, fBox, tBox, iBox, mBox, gBox, flBox, fdV, tyV, insV, fnV, modV, fltV, fineF, undef, cS, Nat.mul_one, g3_1, g3_17, g3_18, g4_1, g4_17, g4_18, g5_1, g5_32, g5_33, g6_1, g6_32, g6_33]
    refine hK _ _ ?_
    clear hK K
    refine cv_cond ?_
    simp -implicitDefEqProofs (disch := first | omega | decide) only [seval, -Int.reducePow, -Nat.reducePow, cA, cB, pv, binv, fresh, thenQ, blockQ, retQ, Value.oneCell', Value.cells, fBox, tBox, iBox, mBox, gBox, flBox, fdV, tyV, insV, fnV, modV, fltV, fineF, undef, cS, Nat.mul_one, g3_1, g3_17, g3_18, g4_1, g4_17, g4_18, g5_1, g5_32, g5_33, g6_1, g6_32, g6_33]
    refine ⟨fun hc => ?_, fun hc => ?_⟩
    · refine cv_seq_k fun K hK => ?_
      refine cv_region_then rfl ?_
      simp -implicitDefEqProofs (disch := first | omega | decide) only [seval, -Int.reducePow, -Nat.reducePow, cA, cB, pv, binv, fresh, thenQ, blockQ, retQ, Value.oneCell', Value.cells, fBox, tBox, iBox, mBox, gBox, flBox, fdV, tyV, insV, fnV, modV, fltV, fineF, undef, cS, Nat.mul_one, g3_1, g3_17, g3_18, g4_1, g4_17, g4_18, g5_1, g5_32, g5_33, g6_1, g6_32, g6_33]
      refine hK _ _ ?_
      clear hK K
      refine cv_ret ⟨_, (by simp -implicitDefEqProofs (disch := first | omega | decide) only [seval, -Int.reducePow, -Nat.reducePow, cA, cB, pv, binv, fresh, thenQ, blockQ, retQ, Value.oneCell', Value.cells, fBox, tBox, iBox, mBox, gBox, flBox, fdV, tyV, insV, fnV, modV, fltV, fineF, undef, cS, Nat.mul_one, g3_1, g3_17, g3_18, g4_1, g4_17, g4_18, g5_1, g5_32, g5_33, g6_1, g6_32, g6_33]; rfl), fun w hw => ?_⟩
      first | exact ⟨_, rfl, trivial, hw.below⟩ | exact ⟨_, rfl, hw.below⟩
    refine cv_skip ?_
    try simp only [blockQ, thenQ]
    refine hK _ _ ?_
    clear hK K
    refine cv_region_then rfl ?_
    simp -implicitDefEqProofs (disch := first | omega | decide) only [seval, -Int.reducePow, -Nat.reducePow, cA, cB, pv, binv, fresh, thenQ, blockQ, retQ, Value.oneCell', Value.cells, fBox, tBox, iBox, mBox, gBox, flBox, fdV, tyV, insV, fnV, modV, fltV, fineF, undef, cS, Nat.mul_one, wrap_in, g3_1, g3_17, g3_18, g4_1, g4_17, g4_18, g5_1, g5_32, g5_33, g6_1, g6_32, g6_33]
    refine ⟨⟨k + 1, ?_⟩, ?_⟩
    · simp -implicitDefEqProofs (disch := first | omega | decide) only [seval, -Int.reducePow, -Nat.reducePow, cA, cB, pv, binv, fresh, thenQ, blockQ, retQ, Value.oneCell', Value.cells, fBox, tBox, iBox, mBox, gBox, flBox, fdV, tyV, insV, fnV, modV, fltV, fineF, undef, cS, Nat.mul_one, Int.natCast_add, g3_1, g3_17, g3_18, g4_1, g4_17, g4_18, g5_1, g5_32, g5_33, g6_1, g6_32, g6_33]
      repeat' (first | with_reducible exact trivial | with_reducible rfl | omega | refine And.intro ?_ ?_)
    · simp only [intOf]; omega
  refine cv_exit ?_
  simp only [blockQ, thenQ, if_true, ite_true]
  clear hK K
  refine hK _ _ ?_
  clear hK K
  refine cv_seq_k fun K hK => ?_
  refine cv_region_then rfl ?_
  simp -implicitDefEqProofs (disch := first | omega | decide) only [seval, -Int.reducePow, -Nat.reducePow, cA, cB, pv, binv, fresh, thenQ, blockQ, retQ, Value.oneCell', Value.cells, fBox, tBox, iBox, mBox, gBox, flBox, fdV, tyV, insV, fnV, modV, fltV, fineF, undef, cS, Nat.mul_one, g3_1, g3_17, g3_18, g4_1, g4_17, g4_18, g5_1, g5_32, g5_33, g6_1, g6_32, g6_33]
  refine hK _ _ ?_
  clear hK K
  refine cv_ret ⟨_, (by simp -implicitDefEqProofs (disch := first | omega | decide) only [seval, -Int.reducePow, -Nat.reducePow, cA, cB, pv, binv, fresh, thenQ, blockQ, retQ, Value.oneCell', Value.cells, fBox, tBox, iBox, mBox, gBox, flBox, fdV, tyV, insV, fnV, modV, fltV, fineF, undef, cS, Nat.mul_one, g3_1, g3_17, g3_18, g4_1, g4_17, g4_18, g5_1, g5_32, g5_33, g6_1, g6_32, g6_33]; rfl), fun w hw => ?_⟩
  first | exact ⟨_, rfl, trivial, hw.below⟩ | exact ⟨_, rfl, hw.below⟩
end Go.Proofs.Ytehfnjaompkikaa
