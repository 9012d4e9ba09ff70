/- flow.Heights. -/
import Derived.Test.YtlbmnioibiomfaaFlRep
import Derived.Test.YtlbmnioibiomfaaFlProc
namespace Go.Proofs.Ytlbmnioibiomfaa
open Go.RowKit Go.Shelf
set_option linter.unusedVariables false
set_option linter.unusedSimpArgs false
set_option maxRecDepth 100000
def boz (l : List Bool) : List Value := l.map Value.bool
theorem bz_len (l : List Bool) : (boz l).length = l.length := by simp [boz]
theorem bz_get {d : List Bool} {k : Nat} {b : Bool} (h : d[k]? = some b) : (boz d)[k]? = some (.bool b) := by simp [boz, h]
theorem bz_set {d : List Bool} {k : Nat} (v : Bool) (hk : k < d.length) : List.take k (boz d) ++ [Value.bool v] ++ List.drop (k + 1) (boz d) = boz (d.set k v) := by
  unfold boz
  rw [← List.map_take, ← List.map_drop, List.set_eq_take_append_cons_drop, if_pos hk]
  simp
def isF : Value → Bool
  | .bool false => true
  | _ => false
def undoneV : List Res → Nat
  | .blk _ _ cs :: _ => (cs.filter isF).length
  | _ => 0
theorem undoneV_boz (b : Nat) (t : TypeId) (d : List Bool) (L : List Res) : undoneV (.blk b t (boz d) :: L) = undone d := by
  simp only [undoneV, undone, boz, List.filter_map, List.length_map]
  congr 1
  apply List.filter_congr
  intro x _
  cases x <;> rfl
theorem fx_bd {gs : List FnR} (h : ∀ g ∈ gs, 0 ≤ g.p ∧ g.p ≤ 64 ∧ 0 ≤ g.r ∧ g.r ≤ 64) (i : Ins) : 0 ≤ (fxP gs i).1 ∧ (fxP gs i).1 ≤ 64 ∧ 0 ≤ (fxP gs i).2 ∧ (fxP gs i).2 ≤ 64 := by
  unfold fxP
  split
  · dsimp only
    cases hg : gs[i.arg]? with
    | none => simp
    | some g => simpa using h g (List.mem_of_getElem? hg)
  split
  · have := arP_le i.arg
    dsimp only
    omega
  · dsimp only
    have h1 : popP i.op ≤ 2 := by
      unfold popP
      repeat' split
      all_goals omega
    have h2 : pushP i.op ≤ 2 := by
      unfold pushP
      repeat' split
      all_goals omega
    omega
theorem stE_call {gl : Nat} {x : FnR} {k : Nat} {i : Ins} (h : stE gl x k i = 0) (ho : i.op = 21) : i.arg < gl := by
  unfold stE at h
  split at h
  · cases h
  split at h
  · cases h
  split at h
  · cases h
  · omega
theorem runF_end {gs : List FnR} {x : FnR} {q : Nat} {h : List Int} {d : List Bool} (hl : leastB h d = none) : runF gs x q h d = .inl h := by
  cases q with
  | zero => rfl
  | succ q => rw [runF, hl]
theorem runF_bad {gs : List FnR} {x : FnR} {q k : Nat} {h : List Int} {d : List Bool} (hl : leastB h d = some k) (hs : stepF gs x h k (insAt x k) = none) : runF gs x (q + 1) h d = .inr k := by rw [runF, hl]; dsimp only; rw [hs]
theorem runF_go {gs : List FnR} {x : FnR} {q k : Nat} {h h' : List Int} {d : List Bool} (hl : leastB h d = some k) (hs : stepF gs x h k (insAt x k) = some h') : runF gs x (q + 1) h d = runF gs x q h' (d.set k true) := by rw [runF, hl]; dsimp only; rw [hs]
/-- A block of the call's own, handed back whole. -/
theorem rowP_all {W w : World} {L : List Res} {b n : Nat} {cs : List Value} {u : Value} (hw : St [] W (.blk b 3 cs :: L) w) (hl : cs.length = n) (hn : n ≤ 9223372036854775807) :
    rowP 3 1 (fun v => .tuple #[v, u]) cs W (.returned (.tuple #[.slice (some ⟨b, 0, none⟩) n n, u])) w := by
  have hr := hw.blk_row (size := 1) (n := n) (by omega) hn
  exact ⟨_, _, _, rfl, hr.rowNew (by simp), hw.below⟩
theorem rowP_nil {W w : World} {L : List Res} {u : Value} (hw : St [] W L w) : rowP 3 1 (fun v => .tuple #[v, u]) [] W (.returned (.tuple #[.slice none 0 0, u])) w := ⟨none, 0, 0, rfl, ⟨rfl, .inl ⟨rfl, rfl⟩⟩, hw.below⟩
theorem h0_rep {n : Nat} (h : 0 < n) : Value.int .i64 0 :: List.drop 1 (List.replicate n (Value.int .i64 (-1))) = i64z (h0F n) := by
  have := z_set (h := List.replicate n (-1)) (k := 0) 0 (by simpa using h)
  unfold i64z at this ⊢
  rw [List.map_replicate] at this
  exact this
theorem tapB : tap Try.prog 81 = some (4, 1, 1) := by kernel_rfl
set_option maxRecDepth 100000 in
theorem sFlHgt1 : type_of% (And.intro (And.intro (And.intro @fBox.eq_1 (And.intro @tBox.eq_1 @iBox.eq_1)) (And.intro (And.intro @mBox.eq_1 @gBox.eq_1) (And.intro @flBox.eq_1 @fdV.eq_1))) (And.intro (And.intro (And.intro @tyV.eq_1 @insV.eq_1) (And.intro @fnV.eq_1 @modV.eq_1)) (And.intro (And.intro @fltV.eq_1 @fineF.eq_1) (And.intro @Nat.mul_one @wrap_in)))) := (And.intro (And.intro (And.intro @fBox.eq_1 (And.intro @tBox.eq_1 @iBox.eq_1)) (And.intro (And.intro @mBox.eq_1 @gBox.eq_1) (And.intro @flBox.eq_1 @fdV.eq_1))) (And.intro (And.intro (And.intro @tyV.eq_1 @insV.eq_1) (And.intro @fnV.eq_1 @modV.eq_1)) (And.intro (And.intro @fltV.eq_1 @fineF.eq_1) (And.intro @Nat.mul_one @wrap_in))))
set_option maxHeartbeats 2000000 in
theorem Heights_any (m : ModR) (f : Int) (W : World) (hM : Mod W W.heap.size m) : Calls Try.prog 30 #[modV m, .int .i64 f] W (rowP 3 1 (fun v => .tuple #[v, fltV (hgtF m f).2]) (i64z (hgtF m f).1) W) := by
  have hMat := fun {L : List Res} {w : World} (hw : St [] W L w) => hM.at hw
  have hfn := hM.fn
  have hG := hM.gs
  have hlg := hM.glen
  obtain ⟨q, hq⟩ : ∃ q, stF m f = q := ⟨_, rfl⟩
  have hno := fun h => hgtF_no (m := m) (f := f) h
  obtain ⟨TA, tn, tc, ts, FA, fn, fc, gs⟩ := m
  dsimp only at *
  rw [hq] at hno
  refine calls_cv2 (M := []) (n := 84) [.tmp 4, .cell 5 36] rfl Try.func30 rfl rfl (Nat.le_of_ble_eq_true rfl) (St.nil _ _) ?_
  refine cv_seq_k fun K hK => ?_
  refine cv_region_then rfl ?_
  simp -implicitDefEqProofs (disch := first | omega | decide) only [seval, -Int.reducePow, -Nat.reducePow, cC, pv, binv, sFlHgt1, undef]
  intro b2 hb2 b5 hb5 hf5
  refine hK _ _ ?_
  clear hK K
  refine cv_seq_k fun K hK => ?_
  refine cv_seq_k fun K hK => ?_
  refine cv_region_then rfl ?_
  simp -implicitDefEqProofs (disch := first | omega | decide) only [seval, -Int.reducePow, -Nat.reducePow, cC, pv, binv, sFlHgt1, undef]
  refine callV_ret (fun w hw => Static_any ⟨TA, tn, tc, ts, FA, fn, fc, gs⟩ f w (hMat hw)) ?_
  try simp -implicitDefEqProofs (disch := first | omega | decide) only [seval, -Int.reducePow, -Nat.reducePow, cC, pv, binv, sFlHgt1, undef, hq]
  intro b6 hb6 hf6
  refine hK _ _ ?_
  clear hK K
  refine cv_gen fun G1 hG => ?_
  have g1_1 := congrFun hG 1
  have g1_2 := congrFun hG 2
  have g1_5 := congrFun hG 5
  have g1_6 := congrFun hG 6
  clear hG
  try simp -implicitDefEqProofs (disch := first | omega | decide) only [seval, -Int.reducePow, -Nat.reducePow, cC, pv, binv, sFlHgt1, undef] at g1_1 g1_2 g1_5 g1_6
  have g1 := And.intro g1_1 (And.intro g1_2 (And.intro g1_5 g1_6))
  refine cv_seq_k fun K hK => ?_
  refine cv_region_then rfl ?_
  simp -implicitDefEqProofs (disch := first | omega | decide) only [seval, -Int.reducePow, -Nat.reducePow, cC, pv, binv, sFlHgt1, undef, g1]
  refine hK _ _ ?_
  clear hK K
  refine cv_cond ?_
  simp -implicitDefEqProofs (disch := first | omega | decide) only [seval, -Int.reducePow, -Nat.reducePow, cC, pv, binv, sFlHgt1, undef, g1]
  refine ⟨fun hc => ?_, fun hc => ?_⟩
  · have hz : ¬ q.1 = 0 := nd_true ‹(!decide (q.1 = 0)) = true›
    refine cv_seq_k fun K hK => ?_
    refine cv_draw [(true, 0), (true, 1), (false, 2)] [2] mixA rfl (by kernel_rfl) (by kernel_rfl) rfl rfl ?_
    simp -implicitDefEqProofs (disch := first | omega | decide) only [seval, -Int.reducePow, -Nat.reducePow, cC, pv, binv, sFlHgt1, undef, g1]
    refine hK _ _ ?_
    clear hK K
    refine cv_ret ?_
    simp -implicitDefEqProofs (disch := first | omega | decide) only [seval, -Int.reducePow, -Nat.reducePow, cC, pv, binv, sFlHgt1, undef, retQ2, ressV, packV, g1]
    intro w hw
    rw [hno hz]
    exact rowP_nil hw
  have hz : q.1 = 0 := Decidable.not_not.1 (nd_false ‹(!decide (q.1 = 0)) = false›)
  obtain ⟨h0, k, x, rfl, hk, hst⟩ := stF_ok (by rw [hq]; exact hz)
  have hyes := hgtF_yes (by rw [hq]; exact hz) hk
  dsimp only at hk hst hyes
  obtain ⟨-, -, -, hg32, hck⟩ := chkM_ok h0
  obtain ⟨-, -, -, -, -, -, hc1, h1024, -⟩ := fnErr_ok (hck k x hk).1
  have hX := hfn x (List.mem_of_getElem? hk)
  have hxl : x.code.length = x.n := cl_row insc_len (by omega) hX.len
  have hkf : k < fn := by have := (List.getElem?_eq_some_iff.1 hk).1; omega
  have hnx := nx_in hst
  have hfx := fx_bd (gs := gs) (fun g hg => by
    obtain ⟨i, hi⟩ := List.getElem?_of_mem hg
    obtain ⟨g1, g2, g3, g4, g5, g6, -⟩ := fnErr_ok (hck i g hi).1
    omega)
  obtain ⟨b9, of9, rfl, hb9, -⟩ := hG.cells (by omega)
  refine cv_skip ?_
  try simp only [blockQ, thenQ]
  refine hK _ _ ?_
  clear hK K
  refine cv_seq_k fun K hK => ?_
  refine cv_region_then rfl ?_
  simp -implicitDefEqProofs (disch := first | omega | decide) only [seval, -Int.reducePow, -Nat.reducePow, cC, pv, binv, sFlHgt1, undef, g1]
  refine ⟨_, hG.fnl hk, fun tok htok => ?_⟩
  subst htok
  simp -implicitDefEqProofs (disch := first | omega | decide) only [seval, -Int.reducePow, -Nat.reducePow, cC, pv, binv, sFlHgt1, undef, g1]
  intro b7 hb7 hf7
  refine hK _ _ ?_
  clear hK K
  refine cv_seq_k fun K hK => ?_
  refine cv_region_then rfl ?_
  simp -implicitDefEqProofs (disch := first | omega | decide) only [seval, -Int.reducePow, -Nat.reducePow, cC, pv, binv, sFlHgt1, undef, g1]
  intro b25 hb25 hf25
  simp -implicitDefEqProofs (disch := first | omega | decide) only [seval, -Int.reducePow, -Nat.reducePow, cC, pv, binv, sFlHgt1, undef, g1]
  refine callV_blk (us := List.replicate x.n (.int .i64 (-1))) (fun b => .slice (some ⟨b, 0, none⟩) x.n x.n) (fun w hw => repeat_any b25 x.n w ?_ (by omega) (by omega)) ?_
  · exact Sl.of_blk hw (.head _) rfl (by omega)
  intro b8 hb8 hf8
  simp -implicitDefEqProofs (disch := first | omega | decide) only [seval, -Int.reducePow, -Nat.reducePow, cC, pv, binv, sFlHgt1, undef, g1]
  refine hK _ _ ?_
  clear hK K
  refine cv_seq_k fun K hK => ?_
  refine cv_region_then rfl ?_
  simp -implicitDefEqProofs (disch := first | omega | decide) only [seval, -Int.reducePow, -Nat.reducePow, cC, pv, binv, sFlHgt1, undef, g1]
  simp -implicitDefEqProofs (disch := first | omega | decide) only [seval, -Int.reducePow, -Nat.reducePow, cC, pv, binv, sFlHgt1, undef, g1] at hf8
  rw [h0_rep (by omega)]
  refine ⟨by rw [List.length_replicate]; omega, ?_⟩
  refine hK _ _ ?_
  clear hK K
  refine cv_gen fun G2 hG => ?_
  have g2_1 := congrFun hG 1
  have g2_2 := congrFun hG 2
  have g2_5 := congrFun hG 5
  have g2_7 := congrFun hG 7
  have g2_8 := congrFun hG 8
  clear hG
  try simp -implicitDefEqProofs (disch := first | omega | decide) only [seval, -Int.reducePow, -Nat.reducePow, cC, pv, binv, sFlHgt1, undef, g1] at g2_1 g2_2 g2_5 g2_7 g2_8
  have g2 := And.intro g2_1 (And.intro g2_2 (And.intro g2_5 (And.intro g2_7 g2_8)))
  refine cv_seq_k fun K hK => ?_
  refine cv_region_then rfl ?_
  simp -implicitDefEqProofs (disch := first | omega | decide) only [seval, -Int.reducePow, -Nat.reducePow, cC, pv, binv, sFlHgt1, undef, g2]
  refine xv_make (u := .bool false) tapB rfl rfl rfl (by omega) (by omega) ?_
  intro b10 hb10 hf10
  simp -implicitDefEqProofs (disch := first | omega | decide) only [seval, -Int.reducePow, -Nat.reducePow, cC, pv, binv, sFlHgt1, undef, g2]
  simp -implicitDefEqProofs (disch := first | omega | decide) only [seval, -Int.reducePow, -Nat.reducePow, cC, pv, binv, sFlHgt1, undef, g2] at hf10
  rw [show List.replicate x.n (Value.bool false) = boz (List.replicate x.n false) by unfold boz; rw [List.map_replicate]]
  refine hK _ _ ?_
  clear hK K
  refine cv_seq_k fun K hK => ?_
  refine cv_seq_k fun K hK => ?_
  refine cv_region_then rfl ?_
  simp -implicitDefEqProofs (disch := first | omega | decide) only [seval, -Int.reducePow, -Nat.reducePow, cC, pv, binv, sFlHgt1, undef, g2]
  refine hK _ _ ?_
  clear hK K
  refine cv_gen fun G3 hG => ?_
  have g3_1 := congrFun hG 1
  have g3_2 := congrFun hG 2
  have g3_5 := congrFun hG 5
  have g3_7 := congrFun hG 7
  have g3_8 := congrFun hG 8
  have g3_9 := congrFun hG 9
  have g3_10 := congrFun hG 10
  clear hG
  try simp -implicitDefEqProofs (disch := first | omega | decide) only [seval, -Int.reducePow, -Nat.reducePow, cC, pv, binv, sFlHgt1, undef, g2] at g3_1 g3_2 g3_5 g3_7 g3_8 g3_9 g3_10
  have g3 := And.intro g3_1 (And.intro g3_2 (And.intro g3_5 (And.intro g3_7 (And.intro g3_8 (And.intro g3_9 g3_10)))))
  refine cv_block ?_
  refine cv_loop (fun F' L' => ∃ (at' : Nat) (h : List Int) (d : List Bool) (fu : Nat), F' 1 = G3 1 ∧ F' 2 = G3 2 ∧ F' 5 = G3 5 ∧ F' 7 = G3 7 ∧ F' 8 = G3 8 ∧ F' 9 = G3 9 ∧ F' 10 = .int .i64 (at' : Int) ∧ L' = [.blk b10 4 (boz d), .blk b8 3 (i64z h), .blk b25 3 [.int .i64 (-1)], gBox b7 x, flBox b6 q.1 q.2.1 q.2.2, flBox b5 0 0 0, mBox b2 ⟨TA, tn, tc, ts, some ⟨b9, of9, none⟩, fn, fc, gs⟩] ∧ at' ≤ x.n ∧ RunOk gs x h d ∧ undone d ≤ fu ∧ hgtR gs x = runF gs x fu h d ∧ ∀ j, j < at' → openB h d j = false) (fun F' L' => undoneV L' * 1100 + (1050 - (intOf (F' 10)).toNat)) ?_ ?_
  · refine ⟨0, h0F x.n, List.replicate x.n false, x.n, ?_⟩
    simp -implicitDefEqProofs (disch := first | omega | decide) only [seval, -Int.reducePow, -Nat.reducePow, cC, pv, binv, sFlHgt1, undef, g3]
    rw [← hxl]
    exact ⟨by omega, run_zero (by omega), Nat.le_of_eq (undone_new _), rfl, fun j hj => by omega⟩
  intro G4 L' hI
  obtain ⟨at', h, d, fu, q1, q2, q5, q7, q8, q9, q10, rfl, ⟨hat, hrun, hfu, hrr, hop⟩⟩ := hI
  have g4_1 := q1.trans g3_1
  have g4_2 := q2.trans g3_2
  have g4_5 := q5.trans g3_5
  have g4_7 := q7.trans g3_7
  have g4_8 := q8.trans g3_8
  have g4_9 := q9.trans g3_9
  have g4_10 := q10
  clear q1 q2 q5 q7 q8 q9 q10
  have g4 := And.intro g4_1 (And.intro g4_2 (And.intro g4_5 (And.intro g4_7 (And.intro g4_8 (And.intro g4_9 g4_10)))))
  have hhl := hrun.hlen
  have hdl := hrun.dlen
  refine cv_seq_k fun K hK => ?_
  refine cv_seq_k fun K hK => ?_
  refine cv_region_then rfl ?_
  simp -implicitDefEqProofs (disch := first | omega | decide) only [seval, -Int.reducePow, -Nat.reducePow, cC, pv, binv, sFlHgt1, undef, g3, g4]
  refine hK _ _ ?_
  clear hK K
  refine cv_cond ?_
  simp -implicitDefEqProofs (disch := first | omega | decide) only [seval, -Int.reducePow, -Nat.reducePow, cC, pv, binv, sFlHgt1, undef, g3, g4]
  refine ⟨fun hc => ?_, fun hc => ?_⟩
  · refine cv_skip ?_
    try simp only [blockQ, thenQ]
    have hlt : at' < x.n := by have := of_decide_eq_true ‹decide ((at' : Int) < (x.n : Int)) = true›; omega
    obtain ⟨i, hi⟩ := some_of (l := x.code) (i := at') (by omega)
    obtain ⟨db, hdb⟩ := some_of (l := d) (i := at') (by omega)
    have hii : insAt x at' = i := insAt_of hi
    have hzk := z_get (h := h) (k := at') (by omega)
    have hdk := bz_get hdb
    obtain ⟨H, hH⟩ : ∃ H, hAt h at' = H := ⟨_, rfl⟩
    rw [hH] at hzk
    have hob : openB h d at' = (decide (¬ H = -1) && !db) := by unfold openB; rw [hH, hdb] <;> rfl
    refine hK _ _ ?_
    clear hK K
    refine cv_block ?_
    refine cv_seq_k fun K hK => ?_
    refine cv_seq_k fun K hK => ?_
    refine cv_cut (fun _ _ => True) (fun F' L' => F' 1 = G4 1 ∧ F' 2 = G4 2 ∧ F' 5 = G4 5 ∧ F' 7 = G4 7 ∧ F' 8 = G4 8 ∧ F' 9 = G4 9 ∧ F' 10 = G4 10 ∧ F' 51 = .bool (db || decide (H = -1)) ∧ L' = [.blk b10 4 (boz d), .blk b8 3 (i64z h), .blk b25 3 [.int .i64 (-1)], gBox b7 x, flBox b6 q.1 q.2.1 q.2.2, flBox b5 0 0 0, mBox b2 ⟨TA, tn, tc, ts, some ⟨b9, of9, none⟩, fn, fc, gs⟩]) ?_ ?_
    · cases db
      · refine cv_region_then rfl ?_
        simp -implicitDefEqProofs (disch := first | omega | decide) only [seval, -Int.reducePow, -Nat.reducePow, cC, pv, binv, sFlHgt1, undef, hzk, hdk, g3, g4]
        all_goals (repeat' refine And.intro ?_ ?_)
        all_goals (first | with_reducible rfl | (refine congrArg Value.bool ?_; rw [Bool.eq_iff_iff]; (try simp only [decide_eq_true_eq, eq_self, true_and, and_true, false_and, and_false, true_or, or_true, false_or, or_false, not_true_eq_false, not_false_eq_true, true_iff, iff_true, false_iff, iff_false, Bool.false_eq_true, Bool.not_eq_true', Bool.not_eq_true, decide_eq_false_iff_not, Bool.and_eq_true, Bool.or_eq_true]) <;> omega) | (refine congrArg (Value.int _) ?_; omega) | omega)
      · refine cv_region_then rfl ?_
        simp -implicitDefEqProofs (disch := first | omega | decide) only [seval, -Int.reducePow, -Nat.reducePow, cC, pv, binv, sFlHgt1, undef, hzk, hdk, g3, g4]
        all_goals (repeat' refine And.intro ?_ ?_)
        all_goals (first | with_reducible rfl | (refine congrArg Value.bool ?_; rw [Bool.eq_iff_iff]; (try simp only [decide_eq_true_eq, eq_self, true_and, and_true, false_and, and_false, true_or, or_true, false_or, or_false, not_true_eq_false, not_false_eq_true, true_iff, iff_true, false_iff, iff_false, Bool.false_eq_true, Bool.not_eq_true', Bool.not_eq_true, decide_eq_false_iff_not, Bool.and_eq_true, Bool.or_eq_true]) <;> omega) | (refine congrArg (Value.int _) ?_; omega) | omega)
    intro G5 L' _ hF
    obtain ⟨q1, q2, q5, q7, q8, q9, q10, q51, rfl⟩ := hF
    have g5_1 := q1.trans g4_1
    have g5_2 := q2.trans g4_2
    have g5_5 := q5.trans g4_5
    have g5_7 := q7.trans g4_7
    have g5_8 := q8.trans g4_8
    have g5_9 := q9.trans g4_9
    have g5_10 := q10.trans g4_10
    have g5_51 := q51
    clear q1 q2 q5 q7 q8 q9 q10 q51
    have g5 := And.intro g5_1 (And.intro g5_2 (And.intro g5_5 (And.intro g5_7 (And.intro g5_8 (And.intro g5_9 (And.intro g5_10 g5_51))))))
    refine hK _ _ ?_
    clear hK K
    refine cv_cond ?_
    simp -implicitDefEqProofs (disch := first | omega | decide) only [seval, -Int.reducePow, -Nat.reducePow, cC, pv, binv, sFlHgt1, undef, g3, g4, g5]
    refine ⟨fun hc => ?_, fun hc => ?_⟩
    · have hof : openB h d at' = false := by
        rw [hob]
        cases db
        · simpa using hc
        · simp
      refine cv_seq_k fun K hK => ?_
      refine cv_region_then rfl ?_
      simp -implicitDefEqProofs (disch := first | omega | decide) only [seval, -Int.reducePow, -Nat.reducePow, cC, pv, binv, sFlHgt1, undef, wrap_in, g3, g4, g5]
      refine hK _ _ ?_
      clear hK K
      refine cv_exit ?_
      simp only [blockQ, thenQ, if_true, ite_true]
      refine ⟨⟨at' + 1, h, d, fu, ?_⟩, ?_⟩
      · simp -implicitDefEqProofs (disch := first | omega | decide) only [seval, -Int.reducePow, -Nat.reducePow, cC, pv, binv, sFlHgt1, undef, Int.natCast_add, g3, g4, g5]
        refine ⟨by omega, hrun, hfu, hrr, fun j hj => ?_⟩
        rcases Nat.lt_or_ge j at' with h1 | h1
        · exact hop j h1
        · rw [show j = at' by omega]; exact hof
      · simp -implicitDefEqProofs (disch := first | omega | decide) only [seval, -Int.reducePow, -Nat.reducePow, cC, pv, binv, sFlHgt1, undef, undoneV_boz, intOf, g3, g4, g5]
        omega
    obtain ⟨rfl, hHn⟩ : db = false ∧ ¬ H = -1 := by
      cases db
      · exact ⟨rfl, by simpa using hc⟩
      · simp at hc
    have hlb : leastB h d = some at' := leastB_some (by omega) (by rw [hob]; simpa using hHn) hop
    have hrk := hrun.rng at'
    rw [hH] at hrk
    have hds := bz_set (d := d) (k := at') true (by omega)
    have hun := undone_set hdb
    obtain ⟨fu, rfl⟩ : ∃ fu', fu = fu' + 1 := ⟨fu - 1, by omega⟩
    have hci := fun ho => stE_call (hst at' i hi) ho
    have hnj : ∀ j ∈ nxP i at', j < x.code.length := fun j hj => hnx at' (by omega) j (by rwa [hii])
    obtain ⟨b0, off, hA, hb0, -⟩ := hX.cells (by omega)
    have hX' : Sl W W.heap.size 2 (some ⟨b0, off, none⟩) x.n x.c (cl insc x.code) := hA ▸ hX
    obtain ⟨o, ho⟩ : ∃ o, stepF gs x h at' i = o := ⟨_, rfl⟩
    refine cv_skip ?_
    try simp only [blockQ, thenQ]
    refine hK _ _ ?_
    clear hK K
    refine cv_seq_k fun K hK => ?_
    refine cv_region_then rfl ?_
    simp -implicitDefEqProofs (disch := first | omega | decide) only [seval, -Int.reducePow, -Nat.reducePow, cC, pv, binv, sFlHgt1, undef, hds, bz_len, g3, g4, g5]
    refine ⟨by omega, ?_⟩
    refine hK _ _ ?_
    clear hK K
    refine cv_seq_k fun K hK => ?_
    refine cv_seq_k fun K hK => ?_
    refine cv_region_then rfl ?_
    simp -implicitDefEqProofs (disch := first | omega | decide) only [seval, -Int.reducePow, -Nat.reducePow, cC, pv, binv, sFlHgt1, undef, g3, g4, g5]
    refine callV_mod 1 (fun _ : List Int => .bool o.isSome) (fun h' => i64z h') (fun h' => ∀ h'', o = some h'' → h' = h'') rfl (fun w hw => by
      have := process_any ⟨TA, tn, tc, ts, some ⟨b9, of9, none⟩, fn, fc, gs⟩ x b8 at' i h W.heap.size w (hw.hold 1 rfl) (hM.keepB hw (Nat.le_refl _) (by simp)) hb8 (hX.keepB hw (Nat.le_refl _) (by simp)) hi (by omega) (by omega) hci hnj (by rw [hH]; omega) (hfx i)
      rw [ho] at this
      exact this) ?_
    intro h' hh'
    simp -implicitDefEqProofs (disch := first | omega | decide) only [seval, -Int.reducePow, -Nat.reducePow, cC, pv, binv, sFlHgt1, undef, g3, g4, g5]
    refine hK _ _ ?_
    clear hK K
    cases o with
    | none =>
      refine cv_cond ?_
      simp -implicitDefEqProofs (disch := first | omega | decide) only [seval, -Int.reducePow, -Nat.reducePow, cC, pv, binv, sFlHgt1, undef, Option.isSome_none, Bool.not_false, g3, g4, g5]
      refine cv_seq_k fun K hK => ?_
      refine cv_region_then rfl ?_
      simp -implicitDefEqProofs (disch := first | omega | decide) only [seval, -Int.reducePow, -Nat.reducePow, cC, pv, binv, sFlHgt1, undef, g3, g4, g5]
      refine hK _ _ ?_
      clear hK K
      refine cv_ret ?_
      simp -implicitDefEqProofs (disch := first | omega | decide) only [seval, -Int.reducePow, -Nat.reducePow, cC, pv, binv, sFlHgt1, undef, retQ2, ressV, packV, g3, g4, g5]
      intro w hw
      rw [hyes, hrr, runF_bad hlb (by rw [hii]; exact ho)]
      exact rowP_nil hw
    | some h2 =>
      obtain rfl : h' = h2 := hh' h2 rfl
      rw [runF_go hlb (by rw [hii]; exact ho)] at hrr
      obtain ⟨r1, r2, r3, r4, r5, r6⟩ := run_step hrun (fun k _ => (hfx _).2.2.1) hnx hlb (by rw [hii]; exact ho)
      refine cv_cond ?_
      simp -implicitDefEqProofs (disch := first | omega | decide) only [seval, -Int.reducePow, -Nat.reducePow, cC, pv, binv, sFlHgt1, undef, Option.isSome_some, Bool.not_true, g3, g4, g5]
      refine cv_skip ?_
      try simp only [blockQ, thenQ]
      refine hK _ _ ?_
      clear hK K
      refine cv_pick_post [1, 2, 3, 4, 5, 6, 7] (by decide) ?_
      refine cv_seq_k fun K hK => ?_
      refine cv_region_then rfl ?_
      simp -implicitDefEqProofs (disch := first | omega | decide) only [seval, -Int.reducePow, -Nat.reducePow, cC, pv, binv, sFlHgt1, undef, hA, g3, g4, g5]
      refine ⟨_, hX'.ins hi, fun tok htok => ?_⟩
      subst htok
      simp -implicitDefEqProofs (disch := first | omega | decide) only [seval, -Int.reducePow, -Nat.reducePow, cC, pv, binv, sFlHgt1, undef, hA, g3, g4, g5]
      refine callV_row (fun A n c => .slice A n c) (fun w hw => fnext_any i at' w (by omega) (fun ho => by have := nx_arg hnj ho; omega)) ?_
      intro A6 n6 c6 hl6 hr6
      simp -implicitDefEqProofs (disch := first | omega | decide) only [seval, -Int.reducePow, -Nat.reducePow, cC, pv, binv, sFlHgt1, undef, g3, g4, g5]
      refine hK _ _ ?_
      clear hK K
      have hn6 : (nxP i at').length = n6 := by rw [i64c_len] at hl6; omega
      have hn62 : n6 ≤ 2 := by
        rw [← hn6]
        unfold nxP
        repeat' split
        all_goals simp
      refine cv_gen fun G6 hG => ?_
      have g6_1 := congrFun hG 1
      have g6_2 := congrFun hG 2
      have g6_5 := congrFun hG 5
      have g6_7 := congrFun hG 7
      have g6_8 := congrFun hG 8
      have g6_9 := congrFun hG 9
      have g6_10 := congrFun hG 10
      have g6_72 := congrFun hG 72
      have g6_73 := congrFun hG 73
      have g6_74 := congrFun hG 74
      clear hG
      try simp -implicitDefEqProofs (disch := first | omega | decide) only [seval, -Int.reducePow, -Nat.reducePow, cC, pv, binv, sFlHgt1, undef, g3, g4, g5] at g6_1 g6_2 g6_5 g6_7 g6_8 g6_9 g6_10 g6_72 g6_73 g6_74
      have g6 := And.intro g6_1 (And.intro g6_2 (And.intro g6_5 (And.intro g6_7 (And.intro g6_8 (And.intro g6_9 (And.intro g6_10 (And.intro g6_72 (And.intro g6_73 g6_74))))))))
      refine cv_block ?_
      refine cv_loop (fun F' L' => ∃ (j a2 : Nat), F' 1 = G6 1 ∧ F' 2 = G6 2 ∧ F' 5 = G6 5 ∧ F' 7 = G6 7 ∧ F' 8 = G6 8 ∧ F' 9 = G6 9 ∧ F' 10 = .int .i64 (a2 : Int) ∧ F' 72 = G6 72 ∧ F' 73 = G6 73 ∧ F' 74 = .int .i64 (j : Int) ∧ L' = [.row (.slice A6 n6 c6) 3 1 n6 (i64c (nxP i at')), .blk b10 4 (boz (d.set at' true)), .blk b8 3 (i64z h'), .blk b25 3 [.int .i64 (-1)], gBox b7 x, flBox b6 q.1 q.2.1 q.2.2, flBox b5 0 0 0, mBox b2 ⟨TA, tn, tc, ts, some ⟨b9, of9, none⟩, fn, fc, gs⟩] ∧ j ≤ n6 ∧ a2 ≤ at' ∧ ∀ y ∈ (nxP i at').take j, a2 ≤ y) (fun F' L' => 1100 - (intOf (F' 74)).toNat) ?_ ?_
      · refine ⟨0, at', ?_⟩
        simp -implicitDefEqProofs (disch := first | omega | decide) only [seval, -Int.reducePow, -Nat.reducePow, cC, pv, binv, sFlHgt1, undef, hA, g3, g4, g6]
        exact ⟨by omega, by simp⟩
      intro G7 L' hI
      obtain ⟨j, a2, q1, q2, q5, q7, q8, q9, q10, q72, q73, q74, rfl, ⟨hj, ha2, hmn⟩⟩ := hI
      have g7_1 := q1.trans g6_1
      have g7_2 := q2.trans g6_2
      have g7_5 := q5.trans g6_5
      have g7_7 := q7.trans g6_7
      have g7_8 := q8.trans g6_8
      have g7_9 := q9.trans g6_9
      have g7_10 := q10
      have g7_72 := q72.trans g6_72
      have g7_73 := q73.trans g6_73
      have g7_74 := q74
      clear q1 q2 q5 q7 q8 q9 q10 q72 q73 q74
      have g7 := And.intro g7_1 (And.intro g7_2 (And.intro g7_5 (And.intro g7_7 (And.intro g7_8 (And.intro g7_9 (And.intro g7_10 (And.intro g7_72 (And.intro g7_73 g7_74))))))))
      refine cv_seq_k fun K hK => ?_
      refine cv_region_then rfl ?_
      simp -implicitDefEqProofs (disch := first | omega | decide) only [seval, -Int.reducePow, -Nat.reducePow, cC, pv, binv, sFlHgt1, undef, g3, g4, g6, g7]
      refine hK _ _ ?_
      clear hK K
      refine cv_seq_k fun K hK => ?_
      refine cv_cond ?_
      simp -implicitDefEqProofs (disch := first | omega | decide) only [seval, -Int.reducePow, -Nat.reducePow, cC, pv, binv, sFlHgt1, undef, g3, g4, g6, g7]
      refine ⟨fun hc => ?_, fun hc => ?_⟩
      · refine cv_skip ?_
        try simp only [blockQ, thenQ]
        have hjt : j < n6 := by have := of_decide_eq_true ‹decide ((j : Int) < (n6 : Int)) = true›; omega
        obtain ⟨y, hy⟩ := some_of (l := nxP i at') (i := j) (by omega)
        have hyc := hnj y (List.mem_of_getElem? hy)
        refine hK _ _ ?_
        clear hK K
        refine cv_seq_k fun K hK => ?_
        refine cv_rowA 0 rfl (by omega) fun g hAA hg hNN => ?_
        subst hAA
        simp only [List.eraseIdx_cons_zero, List.eraseIdx_cons_succ, neB_nil, neB_blk, neB_row, neB_snap, and_true, List.not_mem_nil, or_false] at hNN hg
        replace hg := And.intro hg hNN
        clear hNN
        refine cv_block ?_
        refine cv_seq_k fun K hK => ?_
        refine cv_region_then rfl ?_
        simp -implicitDefEqProofs (disch := first | omega | decide) only [seval, -Int.reducePow, -Nat.reducePow, cC, pv, binv, sFlHgt1, undef, g3, g4, g6, g7]
        refine ⟨_, ld_row1 (v := .int .i64 (y : Int)) (.head _) rfl (i64c_get hy), fun tok htok => ?_⟩
        subst htok
        simp -implicitDefEqProofs (disch := first | omega | decide) only [seval, -Int.reducePow, -Nat.reducePow, cC, pv, binv, sFlHgt1, undef, g3, g4, g6, g7]
        refine hK _ _ ?_
        clear hK K
        refine cv_q ?_
        refine cv_region_then rfl ?_
        simp -implicitDefEqProofs (disch := first | omega | decide) only [seval, -Int.reducePow, -Nat.reducePow, cC, pv, binv, sFlHgt1, undef, g3, g4, g6, g7]
        refine hK _ _ ?_
        clear hK K
        refine cv_region_then rfl ?_
        simp -implicitDefEqProofs (disch := first | omega | decide) only [seval, -Int.reducePow, -Nat.reducePow, cC, pv, binv, sFlHgt1, undef, g3, g4, g6, g7]
        refine ⟨⟨j + 1, min a2 y, ?_, ?_, by omega, by omega, fun z hz => ?_⟩, ?_⟩
        · refine congrArg (Value.int _) ?_
          omega
        · rw [Int.natCast_add]
          rfl
        · rw [List.take_add_one, hy] at hz
          rcases List.mem_append.1 hz with hz | hz
          · have := hmn z hz
            omega
          · simp at hz
            omega
        · simp only [intOf]; omega
      refine cv_exit ?_
      simp only [blockQ, thenQ, if_true, ite_true]
      have hje : j = n6 := by have := of_decide_eq_false ‹decide ((j : Int) < (n6 : Int)) = false›; omega
      have hmn' : ∀ y ∈ nxP i at', a2 ≤ y := by rwa [List.take_of_length_le (by omega)] at hmn
      refine ⟨⟨a2, h', d.set at' true, fu, ?_⟩, ?_⟩
      · simp -implicitDefEqProofs (disch := first | omega | decide) only [seval, -Int.reducePow, -Nat.reducePow, cC, pv, binv, sFlHgt1, undef, g3, g4, g6, g7]
        refine ⟨by omega, r1, by omega, hrr, fun z hz => ?_⟩
        have hz0 := hop z (by omega)
        have hze : hAt h' z = hAt h z := by
          rcases r3 z with e | e
          · exact e
          · have := hmn' z (by rwa [hii] at e)
            omega
        unfold openB at hz0 ⊢
        rw [hze, List.getElem?_set_ne (by omega)]
        exact hz0
      · simp -implicitDefEqProofs (disch := first | omega | decide) only [seval, -Int.reducePow, -Nat.reducePow, cC, pv, binv, sFlHgt1, undef, undoneV_boz, intOf, g3, g4, g6, g7]
        omega
  refine cv_exit ?_
  simp only [blockQ, thenQ, if_true, ite_true]
  clear hK K
  refine hK _ _ ?_
  clear hK K
  have hje : at' = x.n := by have := of_decide_eq_false ‹decide ((at' : Int) < (x.n : Int)) = false›; omega
  have hln : leastB h d = none := leastB_none (fun j hj => hop j (by omega))
  rw [runF_end hln] at hrr
  refine cv_pick [1, 5, 0] (by decide) ?_
  simp only [pickL, nth]
  refine cv_seq_k fun K hK => ?_
  refine cv_region_then rfl ?_
  simp -implicitDefEqProofs (disch := first | omega | decide) only [seval, -Int.reducePow, -Nat.reducePow, cC, pv, binv, sFlHgt1, undef, g3, g4]
  refine callV_ret (fun w hw => f_fine_any w) ?_
  try simp -implicitDefEqProofs (disch := first | omega | decide) only [seval, -Int.reducePow, -Nat.reducePow, cC, pv, binv, sFlHgt1, undef, g3, g4]
  refine hK _ _ ?_
  clear hK K
  refine cv_ret ?_
  simp -implicitDefEqProofs (disch := first | omega | decide) only [seval, -Int.reducePow, -Nat.reducePow, cC, pv, binv, sFlHgt1, undef, retQ2, ressV, packV, g3, g4]
  intro w hw
  rw [hyes, hrr]
  exact rowP_all hw (by rw [z_len]; show h.length = _; omega) (by omega)
end Go.Proofs.Ytlbmnioibiomfaa
