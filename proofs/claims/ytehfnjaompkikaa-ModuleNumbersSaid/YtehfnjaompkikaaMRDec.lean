/- pluginhostref19.DecodeModule. -/
import Derived.Test.YtehfnjaompkikaaMDec
import Derived.Test.YtehfnjaompkikaaMEye
import Derived.Test.YtehfnjaompkikaaMRChk
namespace Go.Proofs.Ytehfnjaompkikaa
open Go.RowKit Go.Shelf
set_option linter.unusedVariables false
set_option linter.unusedSimpArgs false
set_option maxRecDepth 100000
theorem magic_str : bstr magicB = ⟨#[80, 72, 77, 49]⟩ := by rw [bstr_eq]; rfl
set_option maxHeartbeats 8000000 in
theorem rmdec_any (A : Option Addr) (n c : Nat) (l : List Nat) (W : World) (hE : Sl W W.heap.size 1 A n c (byt l)) (hb : ∀ x ∈ l, x < 256) :
    Calls Try.prog 38 #[.slice A n c] W fun e w' => ∃ i, e = .returned (mdV i) ∧ mdΦ l i W w' ∧ Below W.heap.size W w' := by
  have hln : l.length = n := byt_row hE.len
  have hcap := hE.cap
  have hmax := hE.max
  refine calls_cv2 (M := []) (n := 139) [.cell 2 25, .tmp 3] rfl Try.func38 rfl rfl (Nat.le_of_ble_eq_true rfl) (St.nil _ _) ?_
  refine cv_seq_k fun K hK => ?_
  refine cv_region_then rfl ?_
  simp -implicitDefEqProofs (disch := first | omega | decide) only [seval, -Int.reducePow, -Nat.reducePow, cA, cB, pv, binv, fresh, thenQ, blockQ, retQ, Value.oneCell', Value.cells, undef, Nat.mul_one, mrC, eyB, mBox, modV, cS, fltV]
  intro b2 hb2
  refine hK _ _ ?_
  clear hK K
  refine cv_seq_k fun K hK => ?_
  refine cv_seq_k fun K hK => ?_
  refine cv_region_then rfl ?_
  simp -implicitDefEqProofs (disch := first | omega | decide) only [seval, -Int.reducePow, -Nat.reducePow, cA, cB, pv, binv, fresh, thenQ, blockQ, retQ, Value.oneCell', Value.cells, undef, Nat.mul_one, mrC, eyB, mBox, modV, cS, fltV]
  refine hK _ _ ?_
  clear hK K
  refine cv_cond ?_
  simp -implicitDefEqProofs (disch := first | omega | decide) only [seval, -Int.reducePow, -Nat.reducePow, cA, cB, pv, binv, fresh, thenQ, blockQ, retQ, Value.oneCell', Value.cells, undef, Nat.mul_one, mrC, eyB, mBox, modV, cS, fltV]
  refine ⟨fun hc => ?_, fun hc => ?_⟩
  · have h := of_decide_eq_true hc
    refine cv_seq_k fun K hK => ?_
    refine cv_region_then rfl ?_
    simp -implicitDefEqProofs (disch := first | omega | decide) only [seval, -Int.reducePow, -Nat.reducePow, cA, cB, pv, binv, fresh, thenQ, blockQ, retQ, Value.oneCell', Value.cells, undef, Nat.mul_one, mrC, eyB, mBox, modV, cS, fltV]
    refine hK _ _ ?_
    clear hK K
    refine cv_ret ?_
    simp -implicitDefEqProofs (disch := first | omega | decide) only [seval, -Int.reducePow, -Nat.reducePow, cA, cB, pv, binv, fresh, thenQ, blockQ, retQ, Value.oneCell', Value.cells, undef, Nat.mul_one, mrC, eyB, mBox, modV, cS, fltV, retQ2, ressV, packV]
    intro w hw
    refine ⟨(zMod, 4), rfl, mdΦ_no _ _ (by omega) ?_, hw.below⟩
    unfold decM
    rw [if_pos (by omega)]
  have hn : n ≤ 65536 := by have := of_decide_eq_false hc; omega
  refine cv_skip ?_
  try simp only [blockQ, thenQ]
  refine hK _ _ ?_
  clear hK K
  refine cv_gen fun G1 hG => ?_
  have g1_0 := congrFun hG 0
  have g1_2 := congrFun hG 2
  clear hG
  try simp -implicitDefEqProofs (disch := first | omega | decide) only [seval, -Int.reducePow, -Nat.reducePow, cA, cB, pv, binv, fresh, thenQ, blockQ, retQ, Value.oneCell', Value.cells, undef, Nat.mul_one, mrC, eyB, mBox, modV, cS, fltV] at g1_0 g1_2
  refine cv_seq_k fun K hK => ?_
  refine cv_seq_k fun K hK => ?_
  refine cv_cut (fun _ _ => True) (fun F' L' => F' 0 = G1 0 ∧ F' 2 = G1 2 ∧ F' 24 = .bool (decide (¬ l.take 4 = magicB)) ∧ L' = [.blk b2 25 [.slice none 0 0, .slice none 0 0]]) ?_ ?_
  · by_cases h4 : n < 4
    · have hd : decide ((n : Int) < 4) = true := decide_eq_true (by omega)
      refine cv_region_then rfl ?_
      simp -implicitDefEqProofs (disch := first | omega | decide) only [seval, -Int.reducePow, -Nat.reducePow, cA, cB, pv, binv, fresh, thenQ, blockQ, retQ, Value.oneCell', Value.cells, undef, Nat.mul_one, mrC, eyB, mBox, modV, cS, fltV, hd, g1_0, g1_2]
      have h5 : ¬ l.take 4 = magicB := fun h => by
        have := congrArg List.length h
        rw [List.length_take] at this
        simp [magicB] at this
        omega
      simp [h5]
    · have hd : decide ((n : Int) < 4) = false := decide_eq_false (by omega)
      refine cv_region_then rfl ?_
      simp -implicitDefEqProofs (disch := first | omega | decide) only [seval, -Int.reducePow, -Nat.reducePow, cA, cB, pv, binv, fresh, thenQ, blockQ, retQ, Value.oneCell', Value.cells, undef, Nat.mul_one, mrC, eyB, mBox, modV, cS, fltV, hd, g1_0, g1_2]
      refine ⟨_, fun w hw => ((hE.at hw).btake (k := 4) (by omega)).reads, fun tok htok => ?_⟩
      subst htok
      simp -implicitDefEqProofs (disch := first | omega | decide) only [seval, -Int.reducePow, -Nat.reducePow, cA, cB, pv, binv, fresh, thenQ, blockQ, retQ, Value.oneCell', Value.cells, undef, Nat.mul_one, mrC, eyB, mBox, modV, cS, fltV, g1_0, g1_2]
      rw [← magic_str, bstr_beq (fun x hx => hb x (List.mem_of_mem_take hx)) (by decide), decide_not]
  intro G2 L' _ hF
  obtain ⟨q0, q2, q24, rfl⟩ := hF
  have g2_0 := q0.trans g1_0
  have g2_2 := q2.trans g1_2
  have g2_24 := q24
  clear q0 q2 q24
  refine hK _ _ ?_
  clear hK K
  refine cv_cond ?_
  simp -implicitDefEqProofs (disch := first | omega | decide) only [seval, -Int.reducePow, -Nat.reducePow, cA, cB, pv, binv, fresh, thenQ, blockQ, retQ, Value.oneCell', Value.cells, undef, Nat.mul_one, mrC, eyB, mBox, modV, cS, fltV, g2_0, g2_2, g2_24]
  refine ⟨fun hc => ?_, fun hc => ?_⟩
  · have hp := of_decide_eq_true hc
    refine cv_seq_k fun K hK => ?_
    refine cv_region_then rfl ?_
    simp -implicitDefEqProofs (disch := first | omega | decide) only [seval, -Int.reducePow, -Nat.reducePow, cA, cB, pv, binv, fresh, thenQ, blockQ, retQ, Value.oneCell', Value.cells, undef, Nat.mul_one, mrC, eyB, mBox, modV, cS, fltV, g2_0, g2_2, g2_24]
    refine hK _ _ ?_
    clear hK K
    refine cv_ret ?_
    simp -implicitDefEqProofs (disch := first | omega | decide) only [seval, -Int.reducePow, -Nat.reducePow, cA, cB, pv, binv, fresh, thenQ, blockQ, retQ, Value.oneCell', Value.cells, undef, Nat.mul_one, mrC, eyB, mBox, modV, cS, fltV, retQ2, ressV, packV, g2_0, g2_2, g2_24]
    intro w hw
    refine ⟨(zMod, 3), rfl, mdΦ_no _ _ (by omega) ?_, hw.below⟩
    unfold decM
    rw [if_neg (by omega), if_pos hp]
  have hp := of_decide_eq_false hc
  refine cv_skip ?_
  try simp only [blockQ, thenQ]
  refine hK _ _ ?_
  clear hK K
  have hm4 : 4 ≤ n := by
    have := congrArg List.length (Classical.not_not.1 hp)
    rw [List.length_take] at this
    simp [magicB] at this
    omega
  obtain ⟨A0, hA0⟩ : ∃ X, sbase c 4 1 A = X := ⟨_, rfl⟩
  have hE0 := hE.bdrop hm4
  rw [hA0] at hE0
  have hdec : decM l = decK (decL (l.drop 4)) := by
    unfold decM
    rw [if_neg (by omega), if_neg hp]
  refine cv_seq_k fun K hK => ?_
  refine cv_region_then rfl ?_
  simp -implicitDefEqProofs (disch := first | omega | decide) only [seval, -Int.reducePow, -Nat.reducePow, cA, cB, pv, binv, fresh, thenQ, blockQ, retQ, Value.oneCell', Value.cells, undef, Nat.mul_one, mrC, eyB, mBox, modV, cS, fltV, hA0, g2_0, g2_2, g2_24]
  intro r hb4 h4
  refine hK _ _ ?_
  clear hK K
  refine cv_seq_k fun K hK => ?_
  refine cv_region_then rfl ?_
  simp -implicitDefEqProofs (disch := first | omega | decide) only [seval, -Int.reducePow, -Nat.reducePow, cA, cB, pv, binv, fresh, thenQ, blockQ, retQ, Value.oneCell', Value.cells, undef, Nat.mul_one, mrC, eyB, mBox, modV, cS, fltV, g2_0, g2_2, g2_24]
  intro b5 hb5 h5
  refine hK _ _ ?_
  clear hK K
  refine cv_pick [0, 2, 1] (by decide) ?_
  simp only [pickL, nth]
  have hL : Lt W r A0 (n - 4) (c - 4) (l.drop 4) := ⟨hE0, fun h0 => Apt.of_below hE0 h0 (by simp; omega), drop_byte hb 4, by omega⟩
  generalize hl4 : l.drop 4 = k at *
  generalize n - 4 = n0 at *
  generalize c - 4 = c0 at *
  have hLw : ∀ {L w}, St [] W L w → Lt w r A0 n0 c0 k := fun hw => ⟨hE0.at hw, hL.ap, hL.bt, hL.sz⟩
  obtain ⟨v1, A1, n1, c1, l1, e1, s1, L1⟩ := hL.num 0 32 (by omega)
  have hS : Lc tyX (thenX (.ok ((), k)) (cntX tyX 32)) () v1 0 [] l1 e1 := s1.start (.start () k)
  have hv1 := s1.le
  refine cv_seq_k fun K hK => ?_
  refine cv_region_then rfl ?_
  simp -implicitDefEqProofs (disch := first | omega | decide) only [seval, -Int.reducePow, -Nat.reducePow, cA, cB, pv, binv, fresh, thenQ, blockQ, retQ, Value.oneCell', Value.cells, undef, Nat.mul_one, mrC, eyB, mBox, modV, cS, fltV, g2_0, g2_2, g2_24]
  refine callV_mod1 2 (fun w hw => enum_any (most := 32) s1 (hw.hold 2 rfl) (hLw hw) (by omega)) rfl ?_
  try simp -implicitDefEqProofs (disch := first | omega | decide) only [seval, -Int.reducePow, -Nat.reducePow, cA, cB, pv, binv, fresh, thenQ, blockQ, retQ, Value.oneCell', Value.cells, undef, Nat.mul_one, mrC, eyB, mBox, modV, cS, fltV, g2_0, g2_2, g2_24]
  refine hK _ _ ?_
  clear hK K
  refine cv_gen fun G3 hG => ?_
  have g3_2 := congrFun hG 2
  have g3_4 := congrFun hG 4
  have g3_5 := congrFun hG 5
  have g3_6 := congrFun hG 6
  clear hG
  try simp -implicitDefEqProofs (disch := first | omega | decide) only [seval, -Int.reducePow, -Nat.reducePow, cA, cB, pv, binv, fresh, thenQ, blockQ, retQ, Value.oneCell', Value.cells, undef, Nat.mul_one, mrC, eyB, mBox, modV, cS, fltV, g2_0, g2_2, g2_24] at g3_2 g3_4 g3_5 g3_6
  refine cv_seq_k fun K hK => ?_
  refine cv_seq_k fun K hK => ?_
  refine cv_region_then rfl ?_
  simp -implicitDefEqProofs (disch := first | omega | decide) only [seval, -Int.reducePow, -Nat.reducePow, cA, cB, pv, binv, fresh, thenQ, blockQ, retQ, Value.oneCell', Value.cells, undef, Nat.mul_one, mrC, eyB, mBox, modV, cS, fltV, g3_2, g3_4, g3_5, g3_6]
  refine hK _ _ ?_
  clear hK K
  refine cv_gen fun G4 hG => ?_
  have g4_2 := congrFun hG 2
  have g4_4 := congrFun hG 4
  have g4_5 := congrFun hG 5
  have g4_6 := congrFun hG 6
  have g4_7 := congrFun hG 7
  clear hG
  try simp -implicitDefEqProofs (disch := first | omega | decide) only [seval, -Int.reducePow, -Nat.reducePow, cA, cB, pv, binv, fresh, thenQ, blockQ, retQ, Value.oneCell', Value.cells, undef, Nat.mul_one, mrC, eyB, mBox, modV, cS, fltV, g3_2, g3_4, g3_5, g3_6] at g4_2 g4_4 g4_5 g4_6 g4_7
  refine cv_block ?_
  refine cv_nil 63 2 ?_
  refine cv_snap [0, 1, 2, 3] (by decide) fun v0 f0 hv0 hf0 => ?_
  simp only [pickL, nth]
  refine cv_loop (fun F' L' => ∃ (j : Nat) (A6 : Option Addr) (c6 : Nat) (ts : List TyR) (A' : Option Addr) (n' c' : Nat) (l' : List Nat) (e' : Int) (v : World) (f : List Nat), F' 2 = G4 2 ∧ F' 4 = G4 4 ∧ F' 5 = G4 5 ∧ F' 6 = G4 6 ∧ F' 7 = .int .i64 (j : Int) ∧ L' = [snap [] W v f, .row (.slice A6 j c6) 63 2 j (cl tyc ts), .blk b5 25 [.slice A6 j c6, .slice none 0 0], .blk b2 25 [.slice none 0 0, .slice none 0 0], eyB r A' n' c' e'] ∧ Sub r A0 n0 c0 k A' n' c' l' ∧ Lc tyX (thenX (.ok ((), k)) (cntX tyX 32)) () v1 j (ts.map tyD) l' e' ∧ (∀ t ∈ ts, Sd v (fun y => y ∈ f) 2 t.A t.n t.c (cl fdc t.fs))) (fun F' L' => 100 - (intOf (F' 7)).toNat) ?_ ?_
  · refine ⟨0, none, 0, [], A1, n1, c1, l1, e1, v0, f0, ?_⟩
    simp -implicitDefEqProofs (disch := first | omega | decide) only [seval, -Int.reducePow, -Nat.reducePow, cA, cB, pv, binv, fresh, thenQ, blockQ, retQ, Value.oneCell', Value.cells, undef, Nat.mul_one, mrC, eyB, mBox, modV, cS, fltV, g4_2, g4_4, g4_5, g4_6, g4_7]
    exact ⟨rfl, s1.sub .refl, hS, by simp⟩
  intro G5 L' hI
  obtain ⟨j, A6, c6, ts, A', n', c', l', e', v, f, q2, q4, q5, q6, q7, rfl, ⟨hsub, hS', hty⟩⟩ := hI
  have g5_2 := q2.trans g4_2
  have g5_4 := q4.trans g4_4
  have g5_5 := q5.trans g4_5
  have g5_6 := q6.trans g4_6
  have g5_7 := q7
  clear q2 q4 q5 q6 q7
  refine cv_seq_k fun K hK => ?_
  refine cv_seq_k fun K hK => ?_
  refine cv_cut (fun _ _ => True) (fun F' L' => F' 2 = G5 2 ∧ F' 4 = G5 4 ∧ F' 5 = G5 5 ∧ F' 6 = G5 6 ∧ F' 7 = G5 7 ∧ F' 41 = .bool (decide (j < v1 ∧ e' = 0)) ∧ L' = [snap [] W v f, .row (.slice A6 j c6) 63 2 j (cl tyc ts), .blk b5 25 [.slice A6 j c6, .slice none 0 0], .blk b2 25 [.slice none 0 0, .slice none 0 0], eyB r A' n' c' e']) ?_ ?_
  · refine cv_region_then rfl ?_
    simp -implicitDefEqProofs (disch := first | omega | decide) only [seval, -Int.reducePow, -Nat.reducePow, cA, cB, pv, binv, fresh, thenQ, blockQ, retQ, Value.oneCell', Value.cells, undef, Nat.mul_one, mrC, eyB, mBox, modV, cS, fltV, g4_2, g4_4, g4_5, g4_6, g4_7, g5_2, g5_4, g5_5, g5_6, g5_7]
    repeat' ((first | refine vcg_cases (fun hg => ?_) (fun hg => ?_) | refine vdg_cases (fun hg => ?_) (fun hg => ?_)) <;> ((try simp only [Bool.not_eq_true', Bool.not_eq_false', decide_eq_true_eq, decide_eq_false_iff_not] at hg); (try simp -implicitDefEqProofs (disch := first | omega | decide) only [seval, -Int.reducePow, -Nat.reducePow, cA, cB, pv, binv, fresh, thenQ, blockQ, retQ, Value.oneCell', Value.cells, undef, Nat.mul_one, mrC, eyB, mBox, modV, cS, fltV, hg, g4_2, g4_4, g4_5, g4_6, g4_7, g5_2, g5_4, g5_5, g5_6, g5_7])))
    all_goals (repeat' refine And.intro ?_ ?_)
    all_goals (first | with_reducible rfl | (refine congrArg Value.bool ?_; rw [Bool.eq_iff_iff]; (try simp only [decide_eq_true_eq, eq_self, true_and, and_true, false_and, and_false, true_or, or_true, false_or, or_false, not_true_eq_false, not_false_eq_true, true_iff, iff_true, false_iff, iff_false, Bool.false_eq_true, Bool.not_eq_true', Bool.not_eq_true, decide_eq_false_iff_not, Bool.and_eq_true, Bool.or_eq_true]) <;> omega) | (refine congrArg (Value.int _) ?_; omega) | omega)
  intro G6 L' _ hF
  obtain ⟨q2, q4, q5, q6, q7, q41, rfl⟩ := hF
  have g6_2 := q2.trans g5_2
  have g6_4 := q4.trans g5_4
  have g6_5 := q5.trans g5_5
  have g6_6 := q6.trans g5_6
  have g6_7 := q7.trans g5_7
  have g6_41 := q41
  clear q2 q4 q5 q6 q7 q41
  refine hK _ _ ?_
  clear hK K
  refine cv_cond ?_
  simp -implicitDefEqProofs (disch := first | omega | decide) only [seval, -Int.reducePow, -Nat.reducePow, cA, cB, pv, binv, fresh, thenQ, blockQ, retQ, Value.oneCell', Value.cells, undef, Nat.mul_one, mrC, eyB, mBox, modV, cS, fltV, g4_2, g4_4, g4_5, g4_6, g4_7, g5_2, g5_4, g5_5, g5_6, g5_7, g6_2, g6_4, g6_5, g6_6, g6_7, g6_41]
  refine ⟨fun hc => ?_, fun hc => ?_⟩
  · obtain ⟨hj, h0⟩ := of_decide_eq_true hc
    subst h0
    have hL' := hsub W hL
    have hLw' : ∀ {L w}, St [] W L w → Lt w r A' n' c' l' := fun hw => hsub _ (hLw hw)
    obtain ⟨d, hd⟩ : ∃ d, decF l' = d := ⟨_, rfl⟩
    have ho := tyX_out l'
    have hdl := decF_le hL'.bt
    rw [hL'.len] at hdl
    rw [hd] at ho hdl
    have hst := hS'.step hj ho
    have hk := fun w h1 h2 => kind_any r A' n' c' l' w h1 h2
    rw [hd] at hk
    refine cv_skip ?_
    try simp only [blockQ, thenQ]
    refine hK _ _ ?_
    clear hK K
    refine cv_seq_k fun K hK => ?_
    refine cv_block ?_
    refine cv_q ?_
    refine cv_draw_of (pickL [2] _) (fun w hw => hw.pick (by decide)) (by simp only [pickL, nth, suf_cons, suf_nil, List.mem_cons, true_or, or_true, and_true, eq_self]) [(true, 0), (true, 1), (true, 2), (false, 3), (false, 4), (false, 5), (true, 6), (false, 7)] [7] mixA rfl (by kernel_rfl) (by kernel_rfl) rfl rfl ?_
    simp -implicitDefEqProofs (disch := first | omega | decide) only [seval, -Int.reducePow, -Nat.reducePow, cA, cB, pv, binv, fresh, thenQ, blockQ, retQ, Value.oneCell', Value.cells, undef, Nat.mul_one, mrC, eyB, mBox, modV, cS, fltV, g4_2, g4_4, g4_5, g4_6, g4_7, g5_2, g5_4, g5_5, g5_6, g5_7, g6_2, g6_4, g6_5, g6_6, g6_7, g6_41]
    refine callV_modRow 4 (fun w hw => hk w (hw.hold 4 rfl) (hLw' hw)) rfl ?_
    intro A5 n5 c5 hl5 hr5
    simp -implicitDefEqProofs (disch := first | omega | decide) only [seval, -Int.reducePow, -Nat.reducePow, cA, cB, pv, binv, fresh, thenQ, blockQ, retQ, Value.oneCell', Value.cells, undef, Nat.mul_one, mrC, eyB, mBox, modV, cS, fltV, g4_2, g4_4, g4_5, g4_6, g4_7, g5_2, g5_4, g5_5, g5_6, g5_7, g6_2, g6_4, g6_5, g6_6, g6_7, g6_41]
    intro b48 hb48 h48
    refine appV_at 3 tap22 rfl (fun w hw => src_blk (size := 2) (.head _) rfl hw) rfl (by omega) (by omega) ?_
    intro A7 c7 hl7 hr7
    simp -implicitDefEqProofs (disch := first | omega | decide) only [seval, -Int.reducePow, -Nat.reducePow, cA, cB, pv, binv, fresh, thenQ, blockQ, retQ, Value.oneCell', Value.cells, undef, Nat.mul_one, mrC, eyB, mBox, modV, cS, fltV, g4_2, g4_4, g4_5, g4_6, g4_7, g5_2, g5_4, g5_5, g5_6, g5_7, g6_2, g6_4, g6_5, g6_6, g6_7, g6_41]
    refine hK _ _ ?_
    clear hK K
    refine cv_gen fun G7 hG => ?_
    have g7_2 := congrFun hG 2
    have g7_4 := congrFun hG 4
    have g7_5 := congrFun hG 5
    have g7_6 := congrFun hG 6
    have g7_7 := congrFun hG 7
    clear hG
    try simp -implicitDefEqProofs (disch := first | omega | decide) only [seval, -Int.reducePow, -Nat.reducePow, cA, cB, pv, binv, fresh, thenQ, blockQ, retQ, Value.oneCell', Value.cells, undef, Nat.mul_one, mrC, eyB, mBox, modV, cS, fltV, g4_2, g4_4, g4_5, g4_6, g4_7, g5_2, g5_4, g5_5, g5_6, g5_7, g6_2, g6_4, g6_5, g6_6, g6_7, g6_41] at g7_2 g7_4 g7_5 g7_6 g7_7
    refine cv_snap [0, 4, 5, 6] (by decide) fun v' f' hv' hf' => ?_
    simp only [pickL, nth]
    have k4 := hv'.footK hf' (k := 2) rfl (by decide) (by simp [pickL, nth, Res.foot])
    obtain ⟨k1, -⟩ := hv'.snapK hf' 3 rfl (by decide) (by simp [pickL, nth, Res.foot])
    have k3 := hv'.footK hf' (k := 3) rfl (by decide) (by simp [pickL, nth, Res.foot])
    simp only [snap_foot] at k3
    have hty' : ∀ t ∈ ts ++ [⟨d.1, A5, n5, c5, d.2.1⟩], Sd v' (fun y => y ∈ f') 2 t.A t.n t.c (cl fdc t.fs) := by
      intro t ht
      rcases List.mem_append.1 ht with ht | ht
      · exact (hty t ht).same (fun y hy => k1 y (.inl hy)) k3
      · obtain rfl : t = ⟨d.1, A5, n5, c5, d.2.1⟩ := by simpa using ht
        exact Sd.of_own (hv'.holds _ (.tail _ (.tail _ (.head _)))) fun g hg => k4 g (by simpa [Res.foot] using hg)
    clear k4 k1 k3 hv' hf'
    refine cv_region_then rfl ?_
    simp -implicitDefEqProofs (disch := first | omega | decide) only [seval, -Int.reducePow, -Nat.reducePow, cA, cB, pv, binv, fresh, thenQ, blockQ, retQ, Value.oneCell', Value.cells, undef, Nat.mul_one, mrC, eyB, mBox, modV, cS, fltV, wrap_in, g4_2, g4_4, g4_5, g4_6, g4_7, g5_2, g5_4, g5_5, g5_6, g5_7, g7_2, g7_4, g7_5, g7_6, g7_7]
    refine ⟨⟨j + 1, A7, c7, ts ++ [⟨d.1, A5, n5, c5, d.2.1⟩], sbase c' d.2.2.1 1 A', n' - d.2.2.1, c' - d.2.2.1, l'.drop d.2.2.1, d.2.2.2, v', f', ?_⟩, ?_⟩
    · simp -implicitDefEqProofs (disch := first | omega | decide) only [seval, -Int.reducePow, -Nat.reducePow, cA, cB, pv, binv, fresh, thenQ, blockQ, retQ, Value.oneCell', Value.cells, undef, Nat.mul_one, mrC, eyB, mBox, modV, cS, fltV, Int.natCast_add, cl_snoc, tyc, g4_2, g4_4, g4_5, g4_6, g4_7, g5_2, g5_4, g5_5, g5_6, g5_7, g7_2, g7_4, g7_5, g7_6, g7_7]
      refine ⟨hsub.drop hdl, ?_, hty'⟩
      rw [List.map_append]
      exact hst
    · simp only [intOf]; omega
  refine cv_exit ?_
  simp only [blockQ, thenQ, if_true, ite_true]
  clear hK K
  refine hK _ _ ?_
  clear hK K
  have hj : ¬ j < v1 ∨ ¬ e' = 0 := by
    by_cases h : j < v1
    · exact .inr fun h0 => of_decide_eq_false hc ⟨h, h0⟩
    · exact .inl h
  have ho := hS'.fin hj
  have hj32 := hS'.1
  have hL' := hsub W hL
  obtain ⟨v2, A2, n2, c2, l2, e2, s2, L2⟩ := hL'.num e' 32 (by omega)
  have hS2 : Lc fnX (decX k) ((), ts.map tyD) v2 0 [] l2 e2 := s2.start ho
  have hsub2 := s2.sub hsub
  have hv2 := s2.le
  have hLw' : ∀ {L w}, St [] W L w → Lt w r A' n' c' l' := fun hw => hsub _ (hLw hw)
  refine cv_gen fun G8 hG => ?_
  have g8_2 := congrFun hG 2
  have g8_4 := congrFun hG 4
  have g8_5 := congrFun hG 5
  clear hG
  try simp -implicitDefEqProofs (disch := first | omega | decide) only [seval, -Int.reducePow, -Nat.reducePow, cA, cB, pv, binv, fresh, thenQ, blockQ, retQ, Value.oneCell', Value.cells, undef, Nat.mul_one, mrC, eyB, mBox, modV, cS, fltV, g4_2, g4_4, g4_5, g4_6, g4_7, g5_2, g5_4, g5_5, g5_6, g5_7, g6_2, g6_4, g6_5, g6_6, g6_7, g6_41] at g8_2 g8_4 g8_5
  refine cv_len 1 rfl fun hl6 => ?_
  refine cv_seq_k fun K hK => ?_
  refine cv_region_then rfl ?_
  simp -implicitDefEqProofs (disch := first | omega | decide) only [seval, -Int.reducePow, -Nat.reducePow, cA, cB, pv, binv, fresh, thenQ, blockQ, retQ, Value.oneCell', Value.cells, undef, Nat.mul_one, mrC, eyB, mBox, modV, cS, fltV, g4_2, g4_4, g4_5, g4_6, g4_7, g5_2, g5_4, g5_5, g5_6, g5_7, g8_2, g8_4, g8_5]
  refine callV_mod1 4 (fun w hw => enum_any (most := 32) s2 (hw.hold 4 rfl) (hLw' hw) (by omega)) rfl ?_
  try simp -implicitDefEqProofs (disch := first | omega | decide) only [seval, -Int.reducePow, -Nat.reducePow, cA, cB, pv, binv, fresh, thenQ, blockQ, retQ, Value.oneCell', Value.cells, undef, Nat.mul_one, mrC, eyB, mBox, modV, cS, fltV, g4_2, g4_4, g4_5, g4_6, g4_7, g5_2, g5_4, g5_5, g5_6, g5_7, g8_2, g8_4, g8_5]
  refine hK _ _ ?_
  clear hK K
  refine cv_seq_k fun K hK => ?_
  refine cv_seq_k fun K hK => ?_
  refine cv_region_then rfl ?_
  simp -implicitDefEqProofs (disch := first | omega | decide) only [seval, -Int.reducePow, -Nat.reducePow, cA, cB, pv, binv, fresh, thenQ, blockQ, retQ, Value.oneCell', Value.cells, undef, Nat.mul_one, mrC, eyB, mBox, modV, cS, fltV, g4_2, g4_4, g4_5, g4_6, g4_7, g5_2, g5_4, g5_5, g5_6, g5_7, g8_2, g8_4, g8_5]
  refine hK _ _ ?_
  clear hK K
  refine cv_gen fun G9 hG => ?_
  have g9_2 := congrFun hG 2
  have g9_4 := congrFun hG 4
  have g9_5 := congrFun hG 5
  have g9_6 := congrFun hG 6
  have g9_8 := congrFun hG 8
  clear hG
  try simp -implicitDefEqProofs (disch := first | omega | decide) only [seval, -Int.reducePow, -Nat.reducePow, cA, cB, pv, binv, fresh, thenQ, blockQ, retQ, Value.oneCell', Value.cells, undef, Nat.mul_one, mrC, eyB, mBox, modV, cS, fltV, g4_2, g4_4, g4_5, g4_6, g4_7, g5_2, g5_4, g5_5, g5_6, g5_7, g8_2, g8_4, g8_5] at g9_2 g9_4 g9_5 g9_6 g9_8
  refine cv_block ?_
  refine cv_snap [2, 3, 4] (by decide) fun v5 f5 hv5 hf5 => ?_
  simp only [pickL, nth]
  have k4 := hv5.footK hf5 (k := 1) rfl (by decide) (by simp [pickL, nth, Res.foot])
  obtain ⟨k1, -⟩ := hv5.snapK hf5 0 rfl (by decide) (by simp [pickL, nth, Res.foot])
  have k3 := hv5.footK hf5 (k := 0) rfl (by decide) (by simp [pickL, nth, Res.foot])
  simp only [snap_foot] at k3
  have hT5 : Sd v5 (fun y => y ∈ f5) 2 A6 j c6 (cl tyc ts) := Sd.of_own (hv5.holds _ (.tail _ (.head _))) fun g hg => k4 g (by simpa [Res.foot] using hg)
  have hty5 : ∀ t ∈ ts, Sd v5 (fun y => y ∈ f5) 2 t.A t.n t.c (cl fdc t.fs) := fun t ht => (hty t ht).same (fun y hy => k1 y (.inl hy)) k3
  clear k4 k1 k3 hv5 hf5 hty
  refine cv_nil 43 4 ?_
  refine cv_pick [1, 0, 2, 3, 4] (by decide) ?_
  simp only [pickL, nth]
  refine cv_loop (fun F' L' => ∃ (i : Nat) (A7 : Option Addr) (c7 : Nat) (gs : List FnR) (A' : Option Addr) (n' c' : Nat) (l' : List Nat) (e' : Int) (v : World) (f : List Nat), F' 2 = G9 2 ∧ F' 4 = G9 4 ∧ F' 5 = G9 5 ∧ F' 6 = G9 6 ∧ F' 8 = .int .i64 (i : Int) ∧ L' = [snap [] W v f, .row (.slice A7 i c7) 43 4 i (cl fnc gs), .blk b5 25 [.slice A6 j c6, .slice A7 i c7], .blk b2 25 [.slice none 0 0, .slice none 0 0], eyB r A' n' c' e'] ∧ Sub r A0 n0 c0 k A' n' c' l' ∧ (∃ qs, Lc fnX (decX k) ((), ts.map tyD) v2 i qs l' e' ∧ gs.map fnD = qs.map qD) ∧ Sd v (fun y => y ∈ f) 2 A6 j c6 (cl tyc ts) ∧ (∀ t ∈ ts, Sd v (fun y => y ∈ f) 2 t.A t.n t.c (cl fdc t.fs)) ∧ (∀ g ∈ gs, Sd v (fun y => y ∈ f) 2 g.A g.n g.c (cl insc g.code) ∧ ∀ x ∈ g.code, x.arg < 18446744073709551616)) (fun F' L' => 100 - (intOf (F' 8)).toNat) ?_ ?_
  · refine ⟨0, none, 0, [], A2, n2, c2, l2, e2, v5, f5, ?_⟩
    simp -implicitDefEqProofs (disch := first | omega | decide) only [seval, -Int.reducePow, -Nat.reducePow, cA, cB, pv, binv, fresh, thenQ, blockQ, retQ, Value.oneCell', Value.cells, undef, Nat.mul_one, mrC, eyB, mBox, modV, cS, fltV, g4_2, g4_4, g4_5, g4_6, g4_7, g5_2, g5_4, g5_5, g5_6, g5_7, g9_2, g9_4, g9_5, g9_6, g9_8]
    exact ⟨rfl, hsub2, ⟨[], hS2, rfl⟩, hT5, hty5, by simp⟩
  clear hT5 hty5 hS2 ho hL' hS' hLw' hsub hsub2
  intro G10 L' hI
  obtain ⟨i, A7, c7, gs, A', n', c', l', e', v, f, q2, q4, q5, q6, q8, rfl, ⟨hsub, ⟨qs, hS', hqs⟩, hT, hty, hfn⟩⟩ := hI
  have g10_2 := q2.trans g9_2
  have g10_4 := q4.trans g9_4
  have g10_5 := q5.trans g9_5
  have g10_6 := q6.trans g9_6
  have g10_8 := q8
  clear q2 q4 q5 q6 q8
  refine cv_seq_k fun K hK => ?_
  refine cv_seq_k fun K hK => ?_
  refine cv_cut (fun _ _ => True) (fun F' L' => F' 2 = G10 2 ∧ F' 4 = G10 4 ∧ F' 5 = G10 5 ∧ F' 6 = G10 6 ∧ F' 8 = G10 8 ∧ F' 62 = .bool (decide (i < v2 ∧ e' = 0)) ∧ L' = [snap [] W v f, .row (.slice A7 i c7) 43 4 i (cl fnc gs), .blk b5 25 [.slice A6 j c6, .slice A7 i c7], .blk b2 25 [.slice none 0 0, .slice none 0 0], eyB r A' n' c' e']) ?_ ?_
  · refine cv_region_then rfl ?_
    simp -implicitDefEqProofs (disch := first | omega | decide) only [seval, -Int.reducePow, -Nat.reducePow, cA, cB, pv, binv, fresh, thenQ, blockQ, retQ, Value.oneCell', Value.cells, undef, Nat.mul_one, mrC, eyB, mBox, modV, cS, fltV, g4_2, g4_4, g4_5, g4_6, g4_7, g5_2, g5_4, g5_5, g5_6, g5_7, g9_2, g9_4, g9_5, g9_6, g9_8, g10_2, g10_4, g10_5, g10_6, g10_8]
    repeat' ((first | refine vcg_cases (fun hg => ?_) (fun hg => ?_) | refine vdg_cases (fun hg => ?_) (fun hg => ?_)) <;> ((try simp only [Bool.not_eq_true', Bool.not_eq_false', decide_eq_true_eq, decide_eq_false_iff_not] at hg); (try simp -implicitDefEqProofs (disch := first | omega | decide) only [seval, -Int.reducePow, -Nat.reducePow, cA, cB, pv, binv, fresh, thenQ, blockQ, retQ, Value.oneCell', Value.cells, undef, Nat.mul_one, mrC, eyB, mBox, modV, cS, fltV, hg, g4_2, g4_4, g4_5, g4_6, g4_7, g5_2, g5_4, g5_5, g5_6, g5_7, g9_2, g9_4, g9_5, g9_6, g9_8, g10_2, g10_4, g10_5, g10_6, g10_8])))
    all_goals (repeat' refine And.intro ?_ ?_)
    all_goals (first | with_reducible rfl | (refine congrArg Value.bool ?_; rw [Bool.eq_iff_iff]; (try simp only [decide_eq_true_eq, eq_self, true_and, and_true, false_and, and_false, true_or, or_true, false_or, or_false, not_true_eq_false, not_false_eq_true, true_iff, iff_true, false_iff, iff_false, Bool.false_eq_true, Bool.not_eq_true', Bool.not_eq_true, decide_eq_false_iff_not, Bool.and_eq_true, Bool.or_eq_true]) <;> omega) | (refine congrArg (Value.int _) ?_; omega) | omega)
  intro G11 L' _ hF
  obtain ⟨q2, q4, q5, q6, q8, q62, rfl⟩ := hF
  have g11_2 := q2.trans g10_2
  have g11_4 := q4.trans g10_4
  have g11_5 := q5.trans g10_5
  have g11_6 := q6.trans g10_6
  have g11_8 := q8.trans g10_8
  have g11_62 := q62
  clear q2 q4 q5 q6 q8 q62
  refine hK _ _ ?_
  clear hK K
  refine cv_cond ?_
  simp -implicitDefEqProofs (disch := first | omega | decide) only [seval, -Int.reducePow, -Nat.reducePow, cA, cB, pv, binv, fresh, thenQ, blockQ, retQ, Value.oneCell', Value.cells, undef, Nat.mul_one, mrC, eyB, mBox, modV, cS, fltV, g4_2, g4_4, g4_5, g4_6, g4_7, g5_2, g5_4, g5_5, g5_6, g5_7, g9_2, g9_4, g9_5, g9_6, g9_8, g10_2, g10_4, g10_5, g10_6, g10_8, g11_2, g11_4, g11_5, g11_6, g11_8, g11_62]
  refine ⟨fun hc => ?_, fun hc => ?_⟩
  · obtain ⟨hj, h0⟩ := of_decide_eq_true hc
    subst h0
    have hL' := hsub W hL
    have hLw' : ∀ {L w}, St [] W L w → Lt w r A' n' c' l' := fun hw => hsub _ (hLw hw)
    obtain ⟨v3, A3, n3, c3, l3, e3, s3, L3⟩ := hL'.num 0 1024 (by omega)
    obtain ⟨v4, A4, n4, c4, l4, e4, s4, L4⟩ := L3.num e3 1024 (by omega)
    obtain ⟨v5, A5, n5, c5, l5, e5, s5, L5⟩ := L4.num e4 1024 (by omega)
    obtain ⟨v6, A8, n8, c8, l8, e8, s6, L6⟩ := L5.num e5 1024 (by omega)
    have u3 := s3.sub hsub
    have u4 := s4.sub u3
    have u5 := s5.sub u4
    have u6 := s6.sub u5
    have hS6 : Lc inX (fnX l') ((((), v3), v4), v5) v6 0 [] l8 e8 := s6.start (s5.out (s4.out (s3.out (.start () l'))))
    have hv6 := s6.le
    refine cv_skip ?_
    try simp only [blockQ, thenQ]
    refine hK _ _ ?_
    clear hK K
    refine cv_seq_k fun K hK => ?_
    refine cv_block ?_
    refine cv_seq_k fun K hK => ?_
    refine cv_region_then rfl ?_
    simp -implicitDefEqProofs (disch := first | omega | decide) only [seval, -Int.reducePow, -Nat.reducePow, cA, cB, pv, binv, fresh, thenQ, blockQ, retQ, Value.oneCell', Value.cells, undef, Nat.mul_one, mrC, eyB, mBox, modV, cS, fltV, g4_2, g4_4, g4_5, g4_6, g4_7, g5_2, g5_4, g5_5, g5_6, g5_7, g9_2, g9_4, g9_5, g9_6, g9_8, g10_2, g10_4, g10_5, g10_6, g10_8, g11_2, g11_4, g11_5, g11_6, g11_8, g11_62]
    intro b9 hb9 h9
    refine hK _ _ ?_
    clear hK K
    refine cv_seq_k fun K hK => ?_
    refine cv_region_then rfl ?_
    simp -implicitDefEqProofs (disch := first | omega | decide) only [seval, -Int.reducePow, -Nat.reducePow, cA, cB, pv, binv, fresh, thenQ, blockQ, retQ, Value.oneCell', Value.cells, undef, Nat.mul_one, mrC, eyB, mBox, modV, cS, fltV, g4_2, g4_4, g4_5, g4_6, g4_7, g5_2, g5_4, g5_5, g5_6, g5_7, g9_2, g9_4, g9_5, g9_6, g9_8, g10_2, g10_4, g10_5, g10_6, g10_8, g11_2, g11_4, g11_5, g11_6, g11_8, g11_62]
    refine callV_mod1 5 (fun w hw => enum_any (most := 1024) s3 (hw.hold 5 rfl) (hLw' hw) (by omega)) rfl ?_
    try simp -implicitDefEqProofs (disch := first | omega | decide) only [seval, -Int.reducePow, -Nat.reducePow, cA, cB, pv, binv, fresh, thenQ, blockQ, retQ, Value.oneCell', Value.cells, undef, Nat.mul_one, mrC, eyB, mBox, modV, cS, fltV, g4_2, g4_4, g4_5, g4_6, g4_7, g5_2, g5_4, g5_5, g5_6, g5_7, g9_2, g9_4, g9_5, g9_6, g9_8, g10_2, g10_4, g10_5, g10_6, g10_8, g11_2, g11_4, g11_5, g11_6, g11_8, g11_62]
    refine hK _ _ ?_
    clear hK K
    refine cv_seq_k fun K hK => ?_
    refine cv_region_then rfl ?_
    simp -implicitDefEqProofs (disch := first | omega | decide) only [seval, -Int.reducePow, -Nat.reducePow, cA, cB, pv, binv, fresh, thenQ, blockQ, retQ, Value.oneCell', Value.cells, undef, Nat.mul_one, mrC, eyB, mBox, modV, cS, fltV, g4_2, g4_4, g4_5, g4_6, g4_7, g5_2, g5_4, g5_5, g5_6, g5_7, g9_2, g9_4, g9_5, g9_6, g9_8, g10_2, g10_4, g10_5, g10_6, g10_8, g11_2, g11_4, g11_5, g11_6, g11_8, g11_62]
    refine callV_mod1 5 (fun w hw => enum_any (most := 1024) s4 (hw.hold 5 rfl) (u3 _ (hLw hw)) (by omega)) rfl ?_
    try simp -implicitDefEqProofs (disch := first | omega | decide) only [seval, -Int.reducePow, -Nat.reducePow, cA, cB, pv, binv, fresh, thenQ, blockQ, retQ, Value.oneCell', Value.cells, undef, Nat.mul_one, mrC, eyB, mBox, modV, cS, fltV, g4_2, g4_4, g4_5, g4_6, g4_7, g5_2, g5_4, g5_5, g5_6, g5_7, g9_2, g9_4, g9_5, g9_6, g9_8, g10_2, g10_4, g10_5, g10_6, g10_8, g11_2, g11_4, g11_5, g11_6, g11_8, g11_62]
    refine hK _ _ ?_
    clear hK K
    refine cv_seq_k fun K hK => ?_
    refine cv_region_then rfl ?_
    simp -implicitDefEqProofs (disch := first | omega | decide) only [seval, -Int.reducePow, -Nat.reducePow, cA, cB, pv, binv, fresh, thenQ, blockQ, retQ, Value.oneCell', Value.cells, undef, Nat.mul_one, mrC, eyB, mBox, modV, cS, fltV, g4_2, g4_4, g4_5, g4_6, g4_7, g5_2, g5_4, g5_5, g5_6, g5_7, g9_2, g9_4, g9_5, g9_6, g9_8, g10_2, g10_4, g10_5, g10_6, g10_8, g11_2, g11_4, g11_5, g11_6, g11_8, g11_62]
    refine callV_mod1 5 (fun w hw => enum_any (most := 1024) s5 (hw.hold 5 rfl) (u4 _ (hLw hw)) (by omega)) rfl ?_
    try simp -implicitDefEqProofs (disch := first | omega | decide) only [seval, -Int.reducePow, -Nat.reducePow, cA, cB, pv, binv, fresh, thenQ, blockQ, retQ, Value.oneCell', Value.cells, undef, Nat.mul_one, mrC, eyB, mBox, modV, cS, fltV, g4_2, g4_4, g4_5, g4_6, g4_7, g5_2, g5_4, g5_5, g5_6, g5_7, g9_2, g9_4, g9_5, g9_6, g9_8, g10_2, g10_4, g10_5, g10_6, g10_8, g11_2, g11_4, g11_5, g11_6, g11_8, g11_62]
    refine hK _ _ ?_
    clear hK K
    refine cv_seq_k fun K hK => ?_
    refine cv_region_then rfl ?_
    simp -implicitDefEqProofs (disch := first | omega | decide) only [seval, -Int.reducePow, -Nat.reducePow, cA, cB, pv, binv, fresh, thenQ, blockQ, retQ, Value.oneCell', Value.cells, undef, Nat.mul_one, mrC, eyB, mBox, modV, cS, fltV, g4_2, g4_4, g4_5, g4_6, g4_7, g5_2, g5_4, g5_5, g5_6, g5_7, g9_2, g9_4, g9_5, g9_6, g9_8, g10_2, g10_4, g10_5, g10_6, g10_8, g11_2, g11_4, g11_5, g11_6, g11_8, g11_62]
    refine callV_mod1 5 (fun w hw => enum_any (most := 1024) s6 (hw.hold 5 rfl) (u5 _ (hLw hw)) (by omega)) rfl ?_
    try simp -implicitDefEqProofs (disch := first | omega | decide) only [seval, -Int.reducePow, -Nat.reducePow, cA, cB, pv, binv, fresh, thenQ, blockQ, retQ, Value.oneCell', Value.cells, undef, Nat.mul_one, mrC, eyB, mBox, modV, cS, fltV, g4_2, g4_4, g4_5, g4_6, g4_7, g5_2, g5_4, g5_5, g5_6, g5_7, g9_2, g9_4, g9_5, g9_6, g9_8, g10_2, g10_4, g10_5, g10_6, g10_8, g11_2, g11_4, g11_5, g11_6, g11_8, g11_62]
    refine hK _ _ ?_
    clear hK K
    refine cv_seq_k fun K hK => ?_
    refine cv_seq_k fun K hK => ?_
    refine cv_region_then rfl ?_
    simp -implicitDefEqProofs (disch := first | omega | decide) only [seval, -Int.reducePow, -Nat.reducePow, cA, cB, pv, binv, fresh, thenQ, blockQ, retQ, Value.oneCell', Value.cells, undef, Nat.mul_one, mrC, eyB, mBox, modV, cS, fltV, g4_2, g4_4, g4_5, g4_6, g4_7, g5_2, g5_4, g5_5, g5_6, g5_7, g9_2, g9_4, g9_5, g9_6, g9_8, g10_2, g10_4, g10_5, g10_6, g10_8, g11_2, g11_4, g11_5, g11_6, g11_8, g11_62]
    refine hK _ _ ?_
    clear hK K
    refine cv_gen fun G12 hG => ?_
    have g12_2 := congrFun hG 2
    have g12_4 := congrFun hG 4
    have g12_5 := congrFun hG 5
    have g12_6 := congrFun hG 6
    have g12_8 := congrFun hG 8
    have g12_9 := congrFun hG 9
    have g12_10 := congrFun hG 10
    have g12_11 := congrFun hG 11
    clear hG
    try simp -implicitDefEqProofs (disch := first | omega | decide) only [seval, -Int.reducePow, -Nat.reducePow, cA, cB, pv, binv, fresh, thenQ, blockQ, retQ, Value.oneCell', Value.cells, undef, Nat.mul_one, mrC, eyB, mBox, modV, cS, fltV, g4_2, g4_4, g4_5, g4_6, g4_7, g5_2, g5_4, g5_5, g5_6, g5_7, g9_2, g9_4, g9_5, g9_6, g9_8, g10_2, g10_4, g10_5, g10_6, g10_8, g11_2, g11_4, g11_5, g11_6, g11_8, g11_62] at g12_2 g12_4 g12_5 g12_6 g12_8 g12_9 g12_10 g12_11
    refine cv_block ?_
    refine cv_nil 46 2 ?_
    refine cv_loop (fun F' L' => ∃ (q : Nat) (A9 : Option Addr) (c9 : Nat) (cs : List Ins) (A' : Option Addr) (n' c' : Nat) (y' : List Nat) (e' : Int), F' 2 = G12 2 ∧ F' 4 = G12 4 ∧ F' 5 = G12 5 ∧ F' 6 = G12 6 ∧ F' 8 = G12 8 ∧ F' 9 = G12 9 ∧ F' 10 = G12 10 ∧ F' 11 = .int .i64 (q : Int) ∧ L' = [.row (.slice A9 q c9) 46 2 q (cl insc cs), .blk b9 43 [.int .i64 (v3 : Int), .int .i64 (v4 : Int), .int .i64 (v5 : Int), .slice A9 q c9], snap [] W v f, .row (.slice A7 i c7) 43 4 i (cl fnc gs), .blk b5 25 [.slice A6 j c6, .slice A7 i c7], .blk b2 25 [.slice none 0 0, .slice none 0 0], eyB r A' n' c' e'] ∧ Sub r A0 n0 c0 k A' n' c' y' ∧ Lc inX (fnX l') ((((), v3), v4), v5) v6 q cs y' e' ∧ (∀ x ∈ cs, x.arg < 18446744073709551616)) (fun F' L' => 2000 - (intOf (F' 11)).toNat) ?_ ?_
    · refine ⟨0, none, 0, [], A8, n8, c8, l8, e8, ?_⟩
      simp -implicitDefEqProofs (disch := first | omega | decide) only [seval, -Int.reducePow, -Nat.reducePow, cA, cB, pv, binv, fresh, thenQ, blockQ, retQ, Value.oneCell', Value.cells, undef, Nat.mul_one, mrC, eyB, mBox, modV, cS, fltV, g4_2, g4_4, g4_5, g4_6, g4_7, g5_2, g5_4, g5_5, g5_6, g5_7, g9_2, g9_4, g9_5, g9_6, g9_8, g10_2, g10_4, g10_5, g10_6, g10_8, g12_2, g12_4, g12_5, g12_6, g12_8, g12_9, g12_10, g12_11]
      exact ⟨rfl, u6, hS6, by simp⟩
    clear hS6 u6 u5 u4 u3 L6 L5 L4 L3 s6 s5 s4 s3 hLw' hL'
    intro G13 L' hI
    obtain ⟨q, A9, c9, cs, A', n', c', y', e', q2, q4, q5, q6, q8, q9, q10, q11, rfl, ⟨hsq, hSq, harg⟩⟩ := hI
    have g13_2 := q2.trans g12_2
    have g13_4 := q4.trans g12_4
    have g13_5 := q5.trans g12_5
    have g13_6 := q6.trans g12_6
    have g13_8 := q8.trans g12_8
    have g13_9 := q9.trans g12_9
    have g13_10 := q10.trans g12_10
    have g13_11 := q11
    clear q2 q4 q5 q6 q8 q9 q10 q11
    refine cv_seq_k fun K hK => ?_
    refine cv_seq_k fun K hK => ?_
    refine cv_cut (fun _ _ => True) (fun F' L' => F' 2 = G13 2 ∧ F' 4 = G13 4 ∧ F' 5 = G13 5 ∧ F' 6 = G13 6 ∧ F' 8 = G13 8 ∧ F' 9 = G13 9 ∧ F' 10 = G13 10 ∧ F' 11 = G13 11 ∧ F' 85 = .bool (decide (q < v6 ∧ e' = 0)) ∧ L' = [.row (.slice A9 q c9) 46 2 q (cl insc cs), .blk b9 43 [.int .i64 (v3 : Int), .int .i64 (v4 : Int), .int .i64 (v5 : Int), .slice A9 q c9], snap [] W v f, .row (.slice A7 i c7) 43 4 i (cl fnc gs), .blk b5 25 [.slice A6 j c6, .slice A7 i c7], .blk b2 25 [.slice none 0 0, .slice none 0 0], eyB r A' n' c' e']) ?_ ?_
    · refine cv_region_then rfl ?_
      simp -implicitDefEqProofs (disch := first | omega | decide) only [seval, -Int.reducePow, -Nat.reducePow, cA, cB, pv, binv, fresh, thenQ, blockQ, retQ, Value.oneCell', Value.cells, undef, Nat.mul_one, mrC, eyB, mBox, modV, cS, fltV, g4_2, g4_4, g4_5, g4_6, g4_7, g5_2, g5_4, g5_5, g5_6, g5_7, g9_2, g9_4, g9_5, g9_6, g9_8, g10_2, g10_4, g10_5, g10_6, g10_8, g12_2, g12_4, g12_5, g12_6, g12_8, g12_9, g12_10, g12_11, g13_2, g13_4, g13_5, g13_6, g13_8, g13_9, g13_10, g13_11]
      repeat' ((first | refine vcg_cases (fun hg => ?_) (fun hg => ?_) | refine vdg_cases (fun hg => ?_) (fun hg => ?_)) <;> ((try simp only [Bool.not_eq_true', Bool.not_eq_false', decide_eq_true_eq, decide_eq_false_iff_not] at hg); (try simp -implicitDefEqProofs (disch := first | omega | decide) only [seval, -Int.reducePow, -Nat.reducePow, cA, cB, pv, binv, fresh, thenQ, blockQ, retQ, Value.oneCell', Value.cells, undef, Nat.mul_one, mrC, eyB, mBox, modV, cS, fltV, hg, g4_2, g4_4, g4_5, g4_6, g4_7, g5_2, g5_4, g5_5, g5_6, g5_7, g9_2, g9_4, g9_5, g9_6, g9_8, g10_2, g10_4, g10_5, g10_6, g10_8, g12_2, g12_4, g12_5, g12_6, g12_8, g12_9, g12_10, g12_11, g13_2, g13_4, g13_5, g13_6, g13_8, g13_9, g13_10, g13_11])))
      all_goals (repeat' refine And.intro ?_ ?_)
      all_goals (first | with_reducible rfl | (refine congrArg Value.bool ?_; rw [Bool.eq_iff_iff]; (try simp only [decide_eq_true_eq, eq_self, true_and, and_true, false_and, and_false, true_or, or_true, false_or, or_false, not_true_eq_false, not_false_eq_true, true_iff, iff_true, false_iff, iff_false, Bool.false_eq_true, Bool.not_eq_true', Bool.not_eq_true, decide_eq_false_iff_not, Bool.and_eq_true, Bool.or_eq_true]) <;> omega) | (refine congrArg (Value.int _) ?_; omega) | omega)
    intro G14 L' _ hF
    obtain ⟨q2, q4, q5, q6, q8, q9, q10, q11, q85, rfl⟩ := hF
    have g14_2 := q2.trans g13_2
    have g14_4 := q4.trans g13_4
    have g14_5 := q5.trans g13_5
    have g14_6 := q6.trans g13_6
    have g14_8 := q8.trans g13_8
    have g14_9 := q9.trans g13_9
    have g14_10 := q10.trans g13_10
    have g14_11 := q11.trans g13_11
    have g14_85 := q85
    clear q2 q4 q5 q6 q8 q9 q10 q11 q85
    refine hK _ _ ?_
    clear hK K
    refine cv_cond ?_
    simp -implicitDefEqProofs (disch := first | omega | decide) only [seval, -Int.reducePow, -Nat.reducePow, cA, cB, pv, binv, fresh, thenQ, blockQ, retQ, Value.oneCell', Value.cells, undef, Nat.mul_one, mrC, eyB, mBox, modV, cS, fltV, g4_2, g4_4, g4_5, g4_6, g4_7, g5_2, g5_4, g5_5, g5_6, g5_7, g9_2, g9_4, g9_5, g9_6, g9_8, g10_2, g10_4, g10_5, g10_6, g10_8, g12_2, g12_4, g12_5, g12_6, g12_8, g12_9, g12_10, g12_11, g13_2, g13_4, g13_5, g13_6, g13_8, g13_9, g13_10, g13_11, g14_2, g14_4, g14_5, g14_6, g14_8, g14_9, g14_10, g14_11, g14_85]
    refine ⟨fun hc => ?_, fun hc => ?_⟩
    · obtain ⟨hq, h0⟩ := of_decide_eq_true hc
      subst h0
      have hLq := hsq W hL
      have hLwq : ∀ {L w}, St [] W L w → Lt w r A' n' c' y' := fun hw => hsq _ (hLw hw)
      obtain ⟨d, hd⟩ : ∃ d, decI y' = d := ⟨_, rfl⟩
      have ho := inX_out y'
      have hdl := decI_le hLq.bt
      rw [hLq.len] at hdl
      rw [hd] at ho hdl
      have hst := hSq.step hq ho
      have hk := fun w h1 h2 => einstr_any r A' n' c' y' w h1 h2
      rw [hd] at hk
      refine cv_skip ?_
      try simp only [blockQ, thenQ]
      refine hK _ _ ?_
      clear hK K
      refine cv_seq_k fun K hK => ?_
      refine cv_block ?_
      refine cv_q ?_
      refine cv_draw_of (pickL [1] _) (fun w hw => hw.pick (by decide)) (by simp only [pickL, nth, suf_cons, suf_nil, List.mem_cons, true_or, or_true, and_true, eq_self]) [(true, 0), (true, 1), (true, 2), (false, 3), (false, 4), (false, 5), (true, 6), (false, 7)] [7] mixA rfl (by kernel_rfl) (by kernel_rfl) rfl rfl ?_
      simp -implicitDefEqProofs (disch := first | omega | decide) only [seval, -Int.reducePow, -Nat.reducePow, cA, cB, pv, binv, fresh, thenQ, blockQ, retQ, Value.oneCell', Value.cells, undef, Nat.mul_one, mrC, eyB, mBox, modV, cS, fltV, g4_2, g4_4, g4_5, g4_6, g4_7, g5_2, g5_4, g5_5, g5_6, g5_7, g9_2, g9_4, g9_5, g9_6, g9_8, g10_2, g10_4, g10_5, g10_6, g10_8, g12_2, g12_4, g12_5, g12_6, g12_8, g12_9, g12_10, g12_11, g13_2, g13_4, g13_5, g13_6, g13_8, g13_9, g13_10, g13_11, g14_2, g14_4, g14_5, g14_6, g14_8, g14_9, g14_10, g14_11, g14_85]
      refine callV_mod1 6 (fun w hw => hk w (hw.hold 6 rfl) (hLwq hw)) rfl ?_
      try simp -implicitDefEqProofs (disch := first | omega | decide) only [seval, -Int.reducePow, -Nat.reducePow, cA, cB, pv, binv, fresh, thenQ, blockQ, retQ, Value.oneCell', Value.cells, undef, Nat.mul_one, mrC, eyB, mBox, modV, cS, fltV, insV, g4_2, g4_4, g4_5, g4_6, g4_7, g5_2, g5_4, g5_5, g5_6, g5_7, g9_2, g9_4, g9_5, g9_6, g9_8, g10_2, g10_4, g10_5, g10_6, g10_8, g12_2, g12_4, g12_5, g12_6, g12_8, g12_9, g12_10, g12_11, g13_2, g13_4, g13_5, g13_6, g13_8, g13_9, g13_10, g13_11, g14_2, g14_4, g14_5, g14_6, g14_8, g14_9, g14_10, g14_11, g14_85]
      intro b92 hb92 h92
      refine appV_at 1 tap41 rfl (fun w hw => src_blk (size := 2) (.head _) rfl hw) rfl (by omega) (by omega) ?_
      intro A5 c5 hl5 hr5
      simp -implicitDefEqProofs (disch := first | omega | decide) only [seval, -Int.reducePow, -Nat.reducePow, cA, cB, pv, binv, fresh, thenQ, blockQ, retQ, Value.oneCell', Value.cells, undef, Nat.mul_one, mrC, eyB, mBox, modV, cS, fltV, g4_2, g4_4, g4_5, g4_6, g4_7, g5_2, g5_4, g5_5, g5_6, g5_7, g9_2, g9_4, g9_5, g9_6, g9_8, g10_2, g10_4, g10_5, g10_6, g10_8, g12_2, g12_4, g12_5, g12_6, g12_8, g12_9, g12_10, g12_11, g13_2, g13_4, g13_5, g13_6, g13_8, g13_9, g13_10, g13_11, g14_2, g14_4, g14_5, g14_6, g14_8, g14_9, g14_10, g14_11, g14_85]
      refine hK _ _ ?_
      clear hK K
      refine cv_gen fun G15 hG => ?_
      have g15_2 := congrFun hG 2
      have g15_4 := congrFun hG 4
      have g15_5 := congrFun hG 5
      have g15_6 := congrFun hG 6
      have g15_8 := congrFun hG 8
      have g15_9 := congrFun hG 9
      have g15_10 := congrFun hG 10
      have g15_11 := congrFun hG 11
      clear hG
      try simp -implicitDefEqProofs (disch := first | omega | decide) only [seval, -Int.reducePow, -Nat.reducePow, cA, cB, pv, binv, fresh, thenQ, blockQ, retQ, Value.oneCell', Value.cells, undef, Nat.mul_one, mrC, eyB, mBox, modV, cS, fltV, g4_2, g4_4, g4_5, g4_6, g4_7, g5_2, g5_4, g5_5, g5_6, g5_7, g9_2, g9_4, g9_5, g9_6, g9_8, g10_2, g10_4, g10_5, g10_6, g10_8, g12_2, g12_4, g12_5, g12_6, g12_8, g12_9, g12_10, g12_11, g13_2, g13_4, g13_5, g13_6, g13_8, g13_9, g13_10, g13_11, g14_2, g14_4, g14_5, g14_6, g14_8, g14_9, g14_10, g14_11, g14_85] at g15_2 g15_4 g15_5 g15_6 g15_8 g15_9 g15_10 g15_11
      refine cv_pick [0, 2, 3, 4, 5, 6, 7] (by decide) ?_
      simp only [pickL, nth]
      refine cv_region_then rfl ?_
      simp -implicitDefEqProofs (disch := first | omega | decide) only [seval, -Int.reducePow, -Nat.reducePow, cA, cB, pv, binv, fresh, thenQ, blockQ, retQ, Value.oneCell', Value.cells, undef, Nat.mul_one, mrC, eyB, mBox, modV, cS, fltV, wrap_in, g4_2, g4_4, g4_5, g4_6, g4_7, g5_2, g5_4, g5_5, g5_6, g5_7, g9_2, g9_4, g9_5, g9_6, g9_8, g10_2, g10_4, g10_5, g10_6, g10_8, g12_2, g12_4, g12_5, g12_6, g12_8, g12_9, g12_10, g12_11, g13_2, g13_4, g13_5, g13_6, g13_8, g13_9, g13_10, g13_11, g15_2, g15_4, g15_5, g15_6, g15_8, g15_9, g15_10, g15_11]
      refine ⟨⟨q + 1, A5, c5, cs ++ [d.1], sbase c' d.2.1 1 A', n' - d.2.1, c' - d.2.1, y'.drop d.2.1, d.2.2, ?_⟩, ?_⟩
      · simp -implicitDefEqProofs (disch := first | omega | decide) only [seval, -Int.reducePow, -Nat.reducePow, cA, cB, pv, binv, fresh, thenQ, blockQ, retQ, Value.oneCell', Value.cells, undef, Nat.mul_one, mrC, eyB, mBox, modV, cS, fltV, Int.natCast_add, cl_snoc, insc, g4_2, g4_4, g4_5, g4_6, g4_7, g5_2, g5_4, g5_5, g5_6, g5_7, g9_2, g9_4, g9_5, g9_6, g9_8, g10_2, g10_4, g10_5, g10_6, g10_8, g12_2, g12_4, g12_5, g12_6, g12_8, g12_9, g12_10, g12_11, g13_2, g13_4, g13_5, g13_6, g13_8, g13_9, g13_10, g13_11, g15_2, g15_4, g15_5, g15_6, g15_8, g15_9, g15_10, g15_11]
        repeat' (first | with_reducible exact trivial | with_reducible rfl | omega | refine And.intro ?_ ?_)
        · exact hsq.drop hdl.2.1
        · intro x hx
          rcases List.mem_append.1 hx with hx | hx
          · exact harg x hx
          · obtain rfl : x = d.1 := by simpa using hx
            exact hdl.1
      · simp only [intOf]; omega
    refine cv_exit ?_
    simp only [blockQ, thenQ, if_true, ite_true]
    clear hK K
    refine hK _ _ ?_
    clear hK K
    have hq : ¬ q < v6 ∨ ¬ e' = 0 := by
      by_cases h : q < v6
      · exact .inr fun h0 => of_decide_eq_false hc ⟨h, h0⟩
      · exact .inl h
    have ho := hSq.fin hq
    have hst := hS'.step hj ho
    refine cv_region_q rfl ?_
    simp -implicitDefEqProofs (disch := first | omega | decide) only [seval, -Int.reducePow, -Nat.reducePow, cA, cB, pv, binv, fresh, thenQ, blockQ, retQ, Value.oneCell', Value.cells, undef, Nat.mul_one, mrC, eyB, mBox, modV, cS, fltV, g4_2, g4_4, g4_5, g4_6, g4_7, g5_2, g5_4, g5_5, g5_6, g5_7, g9_2, g9_4, g9_5, g9_6, g9_8, g10_2, g10_4, g10_5, g10_6, g10_8, g12_2, g12_4, g12_5, g12_6, g12_8, g12_9, g12_10, g12_11, g13_2, g13_4, g13_5, g13_6, g13_8, g13_9, g13_10, g13_11, g14_2, g14_4, g14_5, g14_6, g14_8, g14_9, g14_10, g14_11, g14_85]
    intro b98 hb98 h98
    refine appV_at 4 tap23 rfl (fun w hw => src_blk (size := 4) (.head _) rfl hw) rfl (by omega) (by omega) ?_
    intro A5 c5 hl5 hr5
    simp -implicitDefEqProofs (disch := first | omega | decide) only [seval, -Int.reducePow, -Nat.reducePow, cA, cB, pv, binv, fresh, thenQ, blockQ, retQ, Value.oneCell', Value.cells, undef, Nat.mul_one, mrC, eyB, mBox, modV, cS, fltV, g4_2, g4_4, g4_5, g4_6, g4_7, g5_2, g5_4, g5_5, g5_6, g5_7, g9_2, g9_4, g9_5, g9_6, g9_8, g10_2, g10_4, g10_5, g10_6, g10_8, g12_2, g12_4, g12_5, g12_6, g12_8, g12_9, g12_10, g12_11, g13_2, g13_4, g13_5, g13_6, g13_8, g13_9, g13_10, g13_11, g14_2, g14_4, g14_5, g14_6, g14_8, g14_9, g14_10, g14_11, g14_85]
    refine hK _ _ ?_
    clear hK K
    refine cv_gen fun G16 hG => ?_
    have g16_2 := congrFun hG 2
    have g16_4 := congrFun hG 4
    have g16_5 := congrFun hG 5
    have g16_6 := congrFun hG 6
    have g16_8 := congrFun hG 8
    clear hG
    try simp -implicitDefEqProofs (disch := first | omega | decide) only [seval, -Int.reducePow, -Nat.reducePow, cA, cB, pv, binv, fresh, thenQ, blockQ, retQ, Value.oneCell', Value.cells, undef, Nat.mul_one, mrC, eyB, mBox, modV, cS, fltV, g4_2, g4_4, g4_5, g4_6, g4_7, g5_2, g5_4, g5_5, g5_6, g5_7, g9_2, g9_4, g9_5, g9_6, g9_8, g10_2, g10_4, g10_5, g10_6, g10_8, g12_2, g12_4, g12_5, g12_6, g12_8, g12_9, g12_10, g12_11, g13_2, g13_4, g13_5, g13_6, g13_8, g13_9, g13_10, g13_11, g14_2, g14_4, g14_5, g14_6, g14_8, g14_9, g14_10, g14_11, g14_85] at g16_2 g16_4 g16_5 g16_6 g16_8
    refine cv_snap [0, 5, 6, 7] (by decide) fun v' f' hv' hf' => ?_
    simp only [pickL, nth]
    obtain ⟨k1, -⟩ := hv'.snapK hf' 4 rfl (by decide) (by simp [pickL, nth, Res.foot])
    have k3 := hv'.footK hf' (k := 4) rfl (by decide) (by simp [pickL, nth, Res.foot])
    have k4 := hv'.footK hf' (k := 2) rfl (by decide) (by simp [pickL, nth, Res.foot])
    simp only [snap_foot] at k3
    have hT' : Sd v' (fun y => y ∈ f') 2 A6 j c6 (cl tyc ts) := hT.same (fun y hy => k1 y (.inl hy)) k3
    have hty' : ∀ t ∈ ts, Sd v' (fun y => y ∈ f') 2 t.A t.n t.c (cl fdc t.fs) := fun t ht => (hty t ht).same (fun y hy => k1 y (.inl hy)) k3
    have hfn' : ∀ h ∈ gs ++ [⟨(v3 : Int), (v4 : Int), (v5 : Int), A9, q, c9, cs⟩], Sd v' (fun y => y ∈ f') 2 h.A h.n h.c (cl insc h.code) ∧ ∀ x ∈ h.code, x.arg < 18446744073709551616 := by
      intro h hh
      rcases List.mem_append.1 hh with hh | hh
      · exact ⟨(hfn h hh).1.same (fun y hy => k1 y (.inl hy)) k3, (hfn h hh).2⟩
      · obtain rfl : h = ⟨(v3 : Int), (v4 : Int), (v5 : Int), A9, q, c9, cs⟩ := by simpa using hh
        exact ⟨Sd.of_own (hv'.holds _ (.tail _ (.tail _ (.head _)))) fun g hg => k4 g (by simpa [Res.foot] using hg), harg⟩
    clear k1 k3 k4 hv' hf' hT hty hfn
    refine cv_region_then rfl ?_
    simp -implicitDefEqProofs (disch := first | omega | decide) only [seval, -Int.reducePow, -Nat.reducePow, cA, cB, pv, binv, fresh, thenQ, blockQ, retQ, Value.oneCell', Value.cells, undef, Nat.mul_one, mrC, eyB, mBox, modV, cS, fltV, wrap_in, g4_2, g4_4, g4_5, g4_6, g4_7, g5_2, g5_4, g5_5, g5_6, g5_7, g9_2, g9_4, g9_5, g9_6, g9_8, g10_2, g10_4, g10_5, g10_6, g10_8, g12_2, g12_4, g12_5, g12_6, g12_8, g12_9, g12_10, g12_11, g13_2, g13_4, g13_5, g13_6, g13_8, g13_9, g13_10, g13_11, g16_2, g16_4, g16_5, g16_6, g16_8]
    refine ⟨⟨i + 1, A5, c5, gs ++ [⟨(v3 : Int), (v4 : Int), (v5 : Int), A9, q, c9, cs⟩], A', n', c', y', e', v', f', ?_⟩, ?_⟩
    · simp -implicitDefEqProofs (disch := first | omega | decide) only [seval, -Int.reducePow, -Nat.reducePow, cA, cB, pv, binv, fresh, thenQ, blockQ, retQ, Value.oneCell', Value.cells, undef, Nat.mul_one, mrC, eyB, mBox, modV, cS, fltV, Int.natCast_add, cl_snoc, fnc, g4_2, g4_4, g4_5, g4_6, g4_7, g5_2, g5_4, g5_5, g5_6, g5_7, g9_2, g9_4, g9_5, g9_6, g9_8, g10_2, g10_4, g10_5, g10_6, g10_8, g12_2, g12_4, g12_5, g12_6, g12_8, g12_9, g12_10, g12_11, g13_2, g13_4, g13_5, g13_6, g13_8, g13_9, g13_10, g13_11, g16_2, g16_4, g16_5, g16_6, g16_8]
      refine ⟨hsq, ⟨_, hst, by rw [List.map_append, List.map_append, hqs, List.map_singleton, List.map_singleton]; rfl⟩, hT', hty', hfn'⟩
    · simp only [intOf]; omega
  refine cv_exit ?_
  simp only [blockQ, thenQ, if_true, ite_true]
  clear hK K
  refine hK _ _ ?_
  clear hK K
  have hj : ¬ i < v2 ∨ ¬ e' = 0 := by
    by_cases h : i < v2
    · exact .inr fun h0 => of_decide_eq_false hc ⟨h, h0⟩
    · exact .inl h
  have ho := hS'.fin hj
  have hi32 := hS'.1
  have hln' := (hsub W hL).len
  refine cv_gen fun G17 hG => ?_
  have g17_2 := congrFun hG 2
  have g17_4 := congrFun hG 4
  have g17_5 := congrFun hG 5
  clear hG
  try simp -implicitDefEqProofs (disch := first | omega | decide) only [seval, -Int.reducePow, -Nat.reducePow, cA, cB, pv, binv, fresh, thenQ, blockQ, retQ, Value.oneCell', Value.cells, undef, Nat.mul_one, mrC, eyB, mBox, modV, cS, fltV, g4_2, g4_4, g4_5, g4_6, g4_7, g5_2, g5_4, g5_5, g5_6, g5_7, g9_2, g9_4, g9_5, g9_6, g9_8, g10_2, g10_4, g10_5, g10_6, g10_8, g11_2, g11_4, g11_5, g11_6, g11_8, g11_62] at g17_2 g17_4 g17_5
  refine cv_snap [2, 3, 4] (by decide) fun v6 f6 hv6 hf6 => ?_
  simp only [pickL, nth]
  have k4 := hv6.footK hf6 (k := 1) rfl (by decide) (by simp [pickL, nth, Res.foot])
  obtain ⟨k1, -⟩ := hv6.snapK hf6 0 rfl (by decide) (by simp [pickL, nth, Res.foot])
  have k3 := hv6.footK hf6 (k := 0) rfl (by decide) (by simp [pickL, nth, Res.foot])
  simp only [snap_foot] at k3
  obtain ⟨m, hm⟩ : ∃ m : ModR, m = ⟨A6, j, c6, ts, A7, i, c7, gs⟩ := ⟨_, rfl⟩
  have hk6 : ModD v6 (fun y => y ∈ f6) m := by
    subst hm
    exact ⟨hT.same (fun y hy => k1 y (.inl hy)) k3, fun t ht => (hty t ht).same (fun y hy => k1 y (.inl hy)) k3, Sd.of_own (hv6.holds _ (.tail _ (.head _))) fun g hg => k4 g (by simpa [Res.foot] using hg), fun g hg => (hfn g hg).1.same (fun y hy => k1 y (.inl hy)) k3, fun g hg => (hfn g hg).2⟩
  have hkD : ModD v6 (Dm [] W f6) m := hk6.mono fun y hy => .inl hy
  clear k4 k1 k3 hv6 hf6 hT hty hfn
  refine cv_seq_k fun K hK => ?_
  refine cv_cut (fun _ _ => True) (fun F' L' => ∃ (e9 : Int), F' 2 = G17 2 ∧ F' 4 = G17 4 ∧ F' 5 = G17 5 ∧ L' = [snap [] W v6 f6, .blk b5 25 [.slice A6 j c6, .slice A7 i c7], .blk b2 25 [.slice none 0 0, .slice none 0 0], eyB r A' n' c' e9] ∧ e9 = if e' = 0 ∧ 0 < n' then 3 else e') ?_ ?_
  · refine cv_seq_k fun K hK => ?_
    refine cv_cut (fun _ _ => True) (fun F' L' => F' 2 = G17 2 ∧ F' 4 = G17 4 ∧ F' 5 = G17 5 ∧ F' 113 = .bool (decide (e' = 0 ∧ 0 < n')) ∧ L' = [snap [] W v6 f6, .blk b5 25 [.slice A6 j c6, .slice A7 i c7], .blk b2 25 [.slice none 0 0, .slice none 0 0], eyB r A' n' c' e']) ?_ ?_
    · refine cv_region_then rfl ?_
      simp -implicitDefEqProofs (disch := first | omega | decide) only [seval, -Int.reducePow, -Nat.reducePow, cA, cB, pv, binv, fresh, thenQ, blockQ, retQ, Value.oneCell', Value.cells, undef, Nat.mul_one, mrC, eyB, mBox, modV, cS, fltV, g4_2, g4_4, g4_5, g4_6, g4_7, g5_2, g5_4, g5_5, g5_6, g5_7, g9_2, g9_4, g9_5, g9_6, g9_8, g10_2, g10_4, g10_5, g10_6, g10_8, g17_2, g17_4, g17_5]
      repeat' ((first | refine vcg_cases (fun hg => ?_) (fun hg => ?_) | refine vdg_cases (fun hg => ?_) (fun hg => ?_)) <;> ((try simp only [Bool.not_eq_true', Bool.not_eq_false', decide_eq_true_eq, decide_eq_false_iff_not] at hg); (try simp -implicitDefEqProofs (disch := first | omega | decide) only [seval, -Int.reducePow, -Nat.reducePow, cA, cB, pv, binv, fresh, thenQ, blockQ, retQ, Value.oneCell', Value.cells, undef, Nat.mul_one, mrC, eyB, mBox, modV, cS, fltV, hg, g4_2, g4_4, g4_5, g4_6, g4_7, g5_2, g5_4, g5_5, g5_6, g5_7, g9_2, g9_4, g9_5, g9_6, g9_8, g10_2, g10_4, g10_5, g10_6, g10_8, g17_2, g17_4, g17_5])))
      all_goals (repeat' refine And.intro ?_ ?_)
      all_goals (first | with_reducible rfl | (refine congrArg Value.bool ?_; rw [Bool.eq_iff_iff]; (try simp only [decide_eq_true_eq, eq_self, true_and, and_true, false_and, and_false, true_or, or_true, false_or, or_false, not_true_eq_false, not_false_eq_true, true_iff, iff_true, false_iff, iff_false, Bool.false_eq_true, Bool.not_eq_true', Bool.not_eq_true, decide_eq_false_iff_not, Bool.and_eq_true, Bool.or_eq_true]) <;> omega) | (refine congrArg (Value.int _) ?_; omega) | omega)
    intro G18 L' _ hF
    obtain ⟨q2, q4, q5, q113, rfl⟩ := hF
    have g18_2 := q2.trans g17_2
    have g18_4 := q4.trans g17_4
    have g18_5 := q5.trans g17_5
    have g18_113 := q113
    clear q2 q4 q5 q113
    refine hK _ _ ?_
    clear hK K
    refine cv_cond ?_
    simp -implicitDefEqProofs (disch := first | omega | decide) only [seval, -Int.reducePow, -Nat.reducePow, cA, cB, pv, binv, fresh, thenQ, blockQ, retQ, Value.oneCell', Value.cells, undef, Nat.mul_one, mrC, eyB, mBox, modV, cS, fltV, g4_2, g4_4, g4_5, g4_6, g4_7, g5_2, g5_4, g5_5, g5_6, g5_7, g9_2, g9_4, g9_5, g9_6, g9_8, g10_2, g10_4, g10_5, g10_6, g10_8, g17_2, g17_4, g17_5, g18_2, g18_4, g18_5, g18_113]
    refine ⟨fun hc => ?_, fun hc => ?_⟩
    · have h9 := of_decide_eq_true ‹_›
      refine cv_region_q rfl ?_
      simp -implicitDefEqProofs (disch := first | omega | decide) only [seval, -Int.reducePow, -Nat.reducePow, cA, cB, pv, binv, fresh, thenQ, blockQ, retQ, Value.oneCell', Value.cells, undef, Nat.mul_one, mrC, eyB, mBox, modV, cS, fltV, g4_2, g4_4, g4_5, g4_6, g4_7, g5_2, g5_4, g5_5, g5_6, g5_7, g9_2, g9_4, g9_5, g9_6, g9_8, g10_2, g10_4, g10_5, g10_6, g10_8, g17_2, g17_4, g17_5, g18_2, g18_4, g18_5, g18_113]
      exact ⟨_, rfl, by rw [if_pos h9]⟩
    · have h9 := of_decide_eq_false ‹_›
      refine cv_skip ?_
      try simp only [blockQ, thenQ]
      simp -implicitDefEqProofs (disch := first | omega | decide) only [seval, -Int.reducePow, -Nat.reducePow, cA, cB, pv, binv, fresh, thenQ, blockQ, retQ, Value.oneCell', Value.cells, undef, Nat.mul_one, mrC, eyB, mBox, modV, cS, fltV, g4_2, g4_4, g4_5, g4_6, g4_7, g5_2, g5_4, g5_5, g5_6, g5_7, g9_2, g9_4, g9_5, g9_6, g9_8, g10_2, g10_4, g10_5, g10_6, g10_8, g17_2, g17_4, g17_5, g18_2, g18_4, g18_5, g18_113]
      exact ⟨_, rfl, by rw [if_neg h9]⟩
  intro G19 L' _ hF
  obtain ⟨e9, q2, q4, q5, rfl, he9⟩ := hF
  have g19_2 := q2.trans g17_2
  have g19_4 := q4.trans g17_4
  have g19_5 := q5.trans g17_5
  clear q2 q4 q5
  refine hK _ _ ?_
  clear hK K
  have hres : (e9 = 0 → decM l = if (chkM m).1 = 0 then .ok (datM m) else .error (chkM m).1) ∧ (¬ e9 = 0 → decM l = .error e9) := by
    rw [hdec]
    rcases ho with ⟨h0, ho⟩ | ⟨h0, ho⟩
    · by_cases h1 : 0 < n'
      · rw [if_pos ⟨h0, h1⟩] at he9
        refine ⟨fun h => by omega, fun _ => ?_⟩
        have : decL k = .error 3 := by
          unfold decL
          rw [ho]
          dsimp only
          rw [if_neg (fun h => by rw [h] at hln'; simp at hln'; omega)]
        rw [this, he9]
        rfl
      · rw [if_neg (fun h => h1 h.2)] at he9
        have hl0 : l' = [] := List.length_eq_zero_iff.1 (by omega)
        refine ⟨fun _ => decK_ok (q := (((), ts.map tyD), qs)) ?_ ?_, fun h => absurd (he9.trans h0) h⟩
        · unfold decL
          rw [ho]
          dsimp only
          rw [if_pos hl0]
        · subst hm
          unfold datM datQ
          rw [hqs]
          rfl
    · rw [if_neg (fun h => h0 h.1)] at he9
      refine ⟨fun h => absurd (he9.symm.trans h) h0, fun _ => ?_⟩
      rw [decL_err ho, he9]
      rfl
  clear he9 ho hS' hqs
  have hmV : modV m = .agg #[.slice A6 j c6, .slice A7 i c7] := by rw [hm]; rfl
  clear hm
  refine cv_seq_k fun K hK => ?_
  refine cv_cut (fun _ _ => True) (fun F' L' => ∃ (e3 : Int), F' 2 = G19 2 ∧ F' 4 = G19 4 ∧ F' 5 = G19 5 ∧ L' = [snap [] W v6 f6, .blk b5 25 [.slice A6 j c6, .slice A7 i c7], .blk b2 25 [.slice none 0 0, .slice none 0 0], eyB r A' n' c' e3] ∧ e3 = if e9 = 0 then (chkM m).1 else e9) ?_ ?_
  · refine cv_seq_k fun K hK => ?_
    refine cv_region_then rfl ?_
    simp -implicitDefEqProofs (disch := first | omega | decide) only [seval, -Int.reducePow, -Nat.reducePow, cA, cB, pv, binv, fresh, thenQ, blockQ, retQ, Value.oneCell', Value.cells, undef, Nat.mul_one, mrC, eyB, mBox, modV, cS, fltV, g4_2, g4_4, g4_5, g4_6, g4_7, g5_2, g5_4, g5_5, g5_6, g5_7, g9_2, g9_4, g9_5, g9_6, g9_8, g10_2, g10_4, g10_5, g10_6, g10_8, g19_2, g19_4, g19_5]
    refine hK _ _ ?_
    clear hK K
    refine cv_cond ?_
    simp -implicitDefEqProofs (disch := first | omega | decide) only [seval, -Int.reducePow, -Nat.reducePow, cA, cB, pv, binv, fresh, thenQ, blockQ, retQ, Value.oneCell', Value.cells, undef, Nat.mul_one, mrC, eyB, mBox, modV, cS, fltV, g4_2, g4_4, g4_5, g4_6, g4_7, g5_2, g5_4, g5_5, g5_6, g5_7, g9_2, g9_4, g9_5, g9_6, g9_8, g10_2, g10_4, g10_5, g10_6, g10_8, g19_2, g19_4, g19_5]
    refine ⟨fun hc => ?_, fun hc => ?_⟩
    · have he : e9 = 0 := of_decide_eq_true ‹_›
      refine cv_region_q rfl ?_
      simp -implicitDefEqProofs (disch := first | omega | decide) only [seval, -Int.reducePow, -Nat.reducePow, cA, cB, pv, binv, fresh, thenQ, blockQ, retQ, Value.oneCell', Value.cells, undef, Nat.mul_one, mrC, eyB, mBox, modV, cS, fltV, g4_2, g4_4, g4_5, g4_6, g4_7, g5_2, g5_4, g5_5, g5_6, g5_7, g9_2, g9_4, g9_5, g9_6, g9_8, g10_2, g10_4, g10_5, g10_6, g10_8, g19_2, g19_4, g19_5]
      rw [← hmV]
      refine callV_ret (fun w hw => rmcheck_any m w (hkD.at hw 0 rfl)) ?_
      try simp -implicitDefEqProofs (disch := first | omega | decide) only [seval, -Int.reducePow, -Nat.reducePow, cA, cB, pv, binv, fresh, thenQ, blockQ, retQ, Value.oneCell', Value.cells, undef, Nat.mul_one, mrC, eyB, mBox, modV, cS, fltV, g4_2, g4_4, g4_5, g4_6, g4_7, g5_2, g5_4, g5_5, g5_6, g5_7, g9_2, g9_4, g9_5, g9_6, g9_8, g10_2, g10_4, g10_5, g10_6, g10_8, g19_2, g19_4, g19_5]
      exact ⟨_, rfl, by rw [if_pos he]⟩
    · have he : ¬ e9 = 0 := of_decide_eq_false ‹_›
      refine cv_skip ?_
      try simp only [blockQ, thenQ]
      simp -implicitDefEqProofs (disch := first | omega | decide) only [seval, -Int.reducePow, -Nat.reducePow, cA, cB, pv, binv, fresh, thenQ, blockQ, retQ, Value.oneCell', Value.cells, undef, Nat.mul_one, mrC, eyB, mBox, modV, cS, fltV, g4_2, g4_4, g4_5, g4_6, g4_7, g5_2, g5_4, g5_5, g5_6, g5_7, g9_2, g9_4, g9_5, g9_6, g9_8, g10_2, g10_4, g10_5, g10_6, g10_8, g19_2, g19_4, g19_5]
      exact ⟨_, rfl, by rw [if_neg he]⟩
  intro G20 L' _ hF
  obtain ⟨e3, q2, q4, q5, rfl, he3⟩ := hF
  have g20_2 := q2.trans g19_2
  have g20_4 := q4.trans g19_4
  have g20_5 := q5.trans g19_5
  clear q2 q4 q5
  refine hK _ _ ?_
  clear hK K
  refine cv_seq_k fun K hK => ?_
  refine cv_seq_k fun K hK => ?_
  refine cv_region_then rfl ?_
  simp -implicitDefEqProofs (disch := first | omega | decide) only [seval, -Int.reducePow, -Nat.reducePow, cA, cB, pv, binv, fresh, thenQ, blockQ, retQ, Value.oneCell', Value.cells, undef, Nat.mul_one, mrC, eyB, mBox, modV, cS, fltV, g4_2, g4_4, g4_5, g4_6, g4_7, g5_2, g5_4, g5_5, g5_6, g5_7, g9_2, g9_4, g9_5, g9_6, g9_8, g10_2, g10_4, g10_5, g10_6, g10_8, g20_2, g20_4, g20_5]
  refine hK _ _ ?_
  clear hK K
  refine cv_cond ?_
  simp -implicitDefEqProofs (disch := first | omega | decide) only [seval, -Int.reducePow, -Nat.reducePow, cA, cB, pv, binv, fresh, thenQ, blockQ, retQ, Value.oneCell', Value.cells, undef, Nat.mul_one, mrC, eyB, mBox, modV, cS, fltV, g4_2, g4_4, g4_5, g4_6, g4_7, g5_2, g5_4, g5_5, g5_6, g5_7, g9_2, g9_4, g9_5, g9_6, g9_8, g10_2, g10_4, g10_5, g10_6, g10_8, g20_2, g20_4, g20_5]
  refine ⟨fun hc => ?_, fun hc => ?_⟩
  · have hz : ¬ e3 = 0 := by simpa using ‹(!decide (e3 = 0)) = true›
    have hD : decM l = .error e3 := by
      by_cases he : e9 = 0
      · rw [if_pos he] at he3
        rw [hres.1 he, if_neg (by rw [← he3]; exact hz), he3]
      · rw [if_neg he] at he3
        rw [hres.2 he, he3]
    refine cv_seq_k fun K hK => ?_
    refine cv_draw_of (pickL [3] _) (fun w hw => hw.pick (by decide)) (by simp only [pickL, nth, suf_cons, suf_nil, List.mem_cons, true_or, or_true, and_true, eq_self]) [(true, 0), (true, 1), (true, 2), (true, 3), (true, 4), (false, 5), (true, 6)] [] mixA rfl (by kernel_rfl) (by kernel_rfl) rfl rfl ?_
    simp -implicitDefEqProofs (disch := first | omega | decide) only [seval, -Int.reducePow, -Nat.reducePow, cA, cB, pv, binv, fresh, thenQ, blockQ, retQ, Value.oneCell', Value.cells, undef, Nat.mul_one, mrC, eyB, mBox, modV, cS, fltV, g4_2, g4_4, g4_5, g4_6, g4_7, g5_2, g5_4, g5_5, g5_6, g5_7, g9_2, g9_4, g9_5, g9_6, g9_8, g10_2, g10_4, g10_5, g10_6, g10_8, g20_2, g20_4, g20_5]
    refine hK _ _ ?_
    clear hK K
    refine cv_ret ?_
    simp -implicitDefEqProofs (disch := first | omega | decide) only [seval, -Int.reducePow, -Nat.reducePow, cA, cB, pv, binv, fresh, thenQ, blockQ, retQ, Value.oneCell', Value.cells, undef, Nat.mul_one, mrC, eyB, mBox, modV, cS, fltV, retQ2, ressV, packV, g4_2, g4_4, g4_5, g4_6, g4_7, g5_2, g5_4, g5_5, g5_6, g5_7, g9_2, g9_4, g9_5, g9_6, g9_8, g10_2, g10_4, g10_5, g10_6, g10_8, g20_2, g20_4, g20_5]
    intro w hw
    exact ⟨(zMod, e3), rfl, mdΦ_no _ _ hz hD, hw.below⟩
  have hz : e3 = 0 := by simpa using ‹(!decide (e3 = 0)) = false›
  have he : e9 = 0 := by
    by_cases he : e9 = 0
    · exact he
    · rw [if_neg he] at he3; omega
  have hD : decM l = .ok (datM m) := by
    rw [if_pos he] at he3
    rw [hres.1 he, if_pos (by rw [← he3]; exact hz)]
  refine cv_skip ?_
  try simp only [blockQ, thenQ]
  refine hK _ _ ?_
  clear hK K
  refine cv_seq_k fun K hK => ?_
  refine cv_region_then rfl ?_
  simp -implicitDefEqProofs (disch := first | omega | decide) only [seval, -Int.reducePow, -Nat.reducePow, cA, cB, pv, binv, fresh, thenQ, blockQ, retQ, Value.oneCell', Value.cells, undef, Nat.mul_one, mrC, eyB, mBox, modV, cS, fltV, g4_2, g4_4, g4_5, g4_6, g4_7, g5_2, g5_4, g5_5, g5_6, g5_7, g9_2, g9_4, g9_5, g9_6, g9_8, g10_2, g10_4, g10_5, g10_6, g10_8, g20_2, g20_4, g20_5]
  refine hK _ _ ?_
  clear hK K
  refine cv_ret ?_
  simp -implicitDefEqProofs (disch := first | omega | decide) only [seval, -Int.reducePow, -Nat.reducePow, cA, cB, pv, binv, fresh, thenQ, blockQ, retQ, Value.oneCell', Value.cells, undef, Nat.mul_one, mrC, eyB, mBox, modV, cS, fltV, retQ2, ressV, packV, g4_2, g4_4, g4_5, g4_6, g4_7, g5_2, g5_4, g5_5, g5_6, g5_7, g9_2, g9_4, g9_5, g9_6, g9_8, g10_2, g10_4, g10_5, g10_6, g10_8, g20_2, g20_4, g20_5]
  intro w hw
  exact ⟨(m, 0), by rw [mdV, hmV], ⟨hk6.same (fun y hy => hw.snap_same (.head _) y (.inl hy)) (hw.snapNew 0 rfl (by simp)), .inl ⟨rfl, hD⟩⟩, hw.below⟩
end Go.Proofs.Ytehfnjaompkikaa
