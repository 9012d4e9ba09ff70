/- module.Decode. -/
import Derived.Test.YtehfnjaompkikaaMRm
namespace Go.Proofs.Ytehfnjaompkikaa
open Go.RowKit Go.Shelf
set_option linter.unusedVariables false
set_option linter.unusedSimpArgs false
set_option maxRecDepth 100000
/-- What a decoding hands back. -/
def mdΦ (l : List Nat) (i : ModR × Int) (w w' : World) : Prop :=
  ModD w' (Nw w w') i.1 ∧ ((i.2 = 0 ∧ decM l = .ok (datM i.1)) ∨ (¬ i.2 = 0 ∧ decM l = .error i.2 ∧ i.1 = zMod))
def mdV (i : ModR × Int) : Value := .tuple #[modV i.1, .int .i64 i.2]
theorem zMod_D (w : World) (D : Nat → Prop) : ModD w D zMod := ⟨Sd.nil, by simp [zMod], Sd.nil, by simp [zMod], by simp [zMod]⟩
theorem mdΦ_no {l : List Nat} {e : Int} (w w' : World) (he : ¬ e = 0) (h : decM l = .error e) : mdΦ l (zMod, e) w w' := ⟨zMod_D _ _, .inr ⟨he, h, rfl⟩⟩
set_option maxHeartbeats 4000000 in
theorem mdec_any (A : Option Addr) (n c : Nat) (l : List Nat) (W : World) (hE : Sl W W.heap.size 1 A n c (byt l)) (hb : ∀ x ∈ l, x < 256) :
    Calls Try.prog 18 #[.slice A n c] W fun e w' => ∃ i, e = .returned (mdV i) ∧ mdΦ l i W w' ∧ Below W.heap.size W w' := by
  have hln : l.length = n := byt_row hE.len
  have hcap := hE.cap
  have hmax := hE.max
  refine calls_cv2 (M := []) (n := 49) [.cell 2 25, .tmp 3] rfl Try.func18 rfl rfl (Nat.le_of_ble_eq_true rfl) (St.nil _ _) ?_
  refine cv_seq_k fun K hK => ?_
  refine cv_region_then rfl ?_
  simp -implicitDefEqProofs (disch := first | omega | decide) only [seval, -Int.reducePow, -Nat.reducePow, cA, cB, pv, binv, fresh, thenQ, blockQ, retQ, Value.oneCell', Value.cells, undef, Nat.mul_one, mrC, mrB, mBox, modV, cS, fltV]
  intro b2 hb2
  refine hK _ _ ?_
  clear hK K
  refine cv_seq_k fun K hK => ?_
  refine cv_seq_k fun K hK => ?_
  refine cv_region_then rfl ?_
  simp -implicitDefEqProofs (disch := first | omega | decide) only [seval, -Int.reducePow, -Nat.reducePow, cA, cB, pv, binv, fresh, thenQ, blockQ, retQ, Value.oneCell', Value.cells, undef, Nat.mul_one, mrC, mrB, mBox, modV, cS, fltV]
  refine hK _ _ ?_
  clear hK K
  refine cv_cond ?_
  simp -implicitDefEqProofs (disch := first | omega | decide) only [seval, -Int.reducePow, -Nat.reducePow, cA, cB, pv, binv, fresh, thenQ, blockQ, retQ, Value.oneCell', Value.cells, undef, Nat.mul_one, mrC, mrB, mBox, modV, cS, fltV]
  refine ⟨fun hc => ?_, fun hc => ?_⟩
  · have h := of_decide_eq_true hc
    refine cv_seq_k fun K hK => ?_
    refine cv_region_then rfl ?_
    simp -implicitDefEqProofs (disch := first | omega | decide) only [seval, -Int.reducePow, -Nat.reducePow, cA, cB, pv, binv, fresh, thenQ, blockQ, retQ, Value.oneCell', Value.cells, undef, Nat.mul_one, mrC, mrB, mBox, modV, cS, fltV]
    refine hK _ _ ?_
    clear hK K
    refine cv_ret ?_
    simp -implicitDefEqProofs (disch := first | omega | decide) only [seval, -Int.reducePow, -Nat.reducePow, cA, cB, pv, binv, fresh, thenQ, blockQ, retQ, Value.oneCell', Value.cells, undef, Nat.mul_one, mrC, mrB, mBox, modV, cS, fltV, retQ2, ressV, packV]
    intro w hw
    refine ⟨(zMod, 4), rfl, mdΦ_no _ _ (by omega) ?_, hw.below⟩
    unfold decM
    rw [if_pos (by omega)]
  have hn : n ≤ 65536 := by have := of_decide_eq_false hc; omega
  refine cv_skip ?_
  try simp only [blockQ, thenQ]
  refine hK _ _ ?_
  clear hK K
  by_cases hp : List.take magicB.length l = magicB
  case neg =>
    refine cv_seq_k fun K hK => ?_
    refine cv_region_then rfl ?_
    simp -implicitDefEqProofs (disch := first | omega | decide) only [seval, -Int.reducePow, -Nat.reducePow, cA, cB, pv, binv, fresh, thenQ, blockQ, retQ, Value.oneCell', Value.cells, undef, Nat.mul_one, mrC, mrB, mBox, modV, cS, fltV]
    intro b14 hb14 h14
    refine xv_mark 0 rfl Try.underlying36 Try.underlying5 rfl ?_
    simp -implicitDefEqProofs (disch := first | omega | decide) only [seval, -Int.reducePow, -Nat.reducePow, cA, cB, pv, binv, fresh, thenQ, blockQ, retQ, Value.oneCell', Value.cells, undef, Nat.mul_one, mrC, mrB, mBox, modV, cS, fltV]
    refine callV_ret (fun w hw => cutPrefix_any A (some ⟨b14, 0, none⟩) n c 4 4 l magicB w (hE.at hw) (mgOk b14 hw) hb (by decide)) ?_
    try simp -implicitDefEqProofs (disch := first | omega | decide) only [seval, -Int.reducePow, -Nat.reducePow, cA, cB, pv, binv, fresh, thenQ, blockQ, retQ, Value.oneCell', Value.cells, undef, Nat.mul_one, mrC, mrB, mBox, modV, cS, fltV, hp]
    refine hK _ _ ?_
    clear hK K
    refine cv_seq_k fun K hK => ?_
    refine cv_seq_k fun K hK => ?_
    refine cv_region_then rfl ?_
    simp -implicitDefEqProofs (disch := first | omega | decide) only [seval, -Int.reducePow, -Nat.reducePow, cA, cB, pv, binv, fresh, thenQ, blockQ, retQ, Value.oneCell', Value.cells, undef, Nat.mul_one, mrC, mrB, mBox, modV, cS, fltV]
    refine hK _ _ ?_
    clear hK K
    refine cv_cond ?_
    simp -implicitDefEqProofs (disch := first | omega | decide) only [seval, -Int.reducePow, -Nat.reducePow, cA, cB, pv, binv, fresh, thenQ, blockQ, retQ, Value.oneCell', Value.cells, undef, Nat.mul_one, mrC, mrB, mBox, modV, cS, fltV]
    refine cv_seq_k fun K hK => ?_
    refine cv_region_then rfl ?_
    simp -implicitDefEqProofs (disch := first | omega | decide) only [seval, -Int.reducePow, -Nat.reducePow, cA, cB, pv, binv, fresh, thenQ, blockQ, retQ, Value.oneCell', Value.cells, undef, Nat.mul_one, mrC, mrB, mBox, modV, cS, fltV]
    refine hK _ _ ?_
    clear hK K
    refine cv_ret ?_
    simp -implicitDefEqProofs (disch := first | omega | decide) only [seval, -Int.reducePow, -Nat.reducePow, cA, cB, pv, binv, fresh, thenQ, blockQ, retQ, Value.oneCell', Value.cells, undef, Nat.mul_one, mrC, mrB, mBox, modV, cS, fltV, retQ2, ressV, packV]
    intro w hw
    refine ⟨(zMod, 3), rfl, mdΦ_no _ _ (by omega) ?_, hw.below⟩
    unfold decM
    have hp4 : ¬ l.take 4 = magicB := hp
    rw [if_neg (by omega), if_pos hp4]
  have hm4 : 4 ≤ n := by
    have := congrArg List.length hp
    rw [List.length_take] at this
    simp [magicB] at this
    omega
  obtain ⟨A1, hA1⟩ : ∃ X, sbase c 4 1 A = X := ⟨_, rfl⟩
  have hE1 := hE.bdrop hm4
  rw [hA1] at hE1
  have hdec : decM l = decK (decL (l.drop 4)) := by
    have hp4 : l.take 4 = magicB := hp
    unfold decM
    rw [if_neg (by omega), if_neg (fun h => h hp4)]
  refine cv_seq_k fun K hK => ?_
  refine cv_region_then rfl ?_
  simp -implicitDefEqProofs (disch := first | omega | decide) only [seval, -Int.reducePow, -Nat.reducePow, cA, cB, pv, binv, fresh, thenQ, blockQ, retQ, Value.oneCell', Value.cells, undef, Nat.mul_one, mrC, mrB, mBox, modV, cS, fltV]
  intro b14 hb14 h14
  refine xv_mark 0 rfl Try.underlying36 Try.underlying5 rfl ?_
  simp -implicitDefEqProofs (disch := first | omega | decide) only [seval, -Int.reducePow, -Nat.reducePow, cA, cB, pv, binv, fresh, thenQ, blockQ, retQ, Value.oneCell', Value.cells, undef, Nat.mul_one, mrC, mrB, mBox, modV, cS, fltV]
  refine callV_ret (fun w hw => cutPrefix_any A (some ⟨b14, 0, none⟩) n c 4 4 l magicB w (hE.at hw) (mgOk b14 hw) hb (by decide)) ?_
  try simp -implicitDefEqProofs (disch := first | omega | decide) only [seval, -Int.reducePow, -Nat.reducePow, cA, cB, pv, binv, fresh, thenQ, blockQ, retQ, Value.oneCell', Value.cells, undef, Nat.mul_one, mrC, mrB, mBox, modV, cS, fltV, hp, hA1]
  refine hK _ _ ?_
  clear hK K
  refine cv_gen fun G1 hG => ?_
  have g1_2 := congrFun hG 2
  have g1_4 := congrFun hG 4
  have g1_5 := congrFun hG 5
  clear hG
  try simp -implicitDefEqProofs (disch := first | omega | decide) only [seval, -Int.reducePow, -Nat.reducePow, cA, cB, pv, binv, fresh, thenQ, blockQ, retQ, Value.oneCell', Value.cells, undef, Nat.mul_one, mrC, mrB, mBox, modV, cS, fltV] at g1_2 g1_4 g1_5
  refine cv_pick [1] (by decide) ?_
  simp only [pickL, nth]
  refine cv_seq_k fun K hK => ?_
  refine cv_seq_k fun K hK => ?_
  refine cv_region_then rfl ?_
  simp -implicitDefEqProofs (disch := first | omega | decide) only [seval, -Int.reducePow, -Nat.reducePow, cA, cB, pv, binv, fresh, thenQ, blockQ, retQ, Value.oneCell', Value.cells, undef, Nat.mul_one, mrC, mrB, mBox, modV, cS, fltV, g1_2, g1_4, g1_5]
  refine hK _ _ ?_
  clear hK K
  refine cv_cond ?_
  simp -implicitDefEqProofs (disch := first | omega | decide) only [seval, -Int.reducePow, -Nat.reducePow, cA, cB, pv, binv, fresh, thenQ, blockQ, retQ, Value.oneCell', Value.cells, undef, Nat.mul_one, mrC, mrB, mBox, modV, cS, fltV, g1_2, g1_4, g1_5]
  refine cv_skip ?_
  try simp only [blockQ, thenQ]
  refine hK _ _ ?_
  clear hK K
  refine cv_seq_k fun K hK => ?_
  refine cv_region_then rfl ?_
  simp -implicitDefEqProofs (disch := first | omega | decide) only [seval, -Int.reducePow, -Nat.reducePow, cA, cB, pv, binv, fresh, thenQ, blockQ, retQ, Value.oneCell', Value.cells, undef, Nat.mul_one, mrC, mrB, mBox, modV, cS, fltV, g1_2, g1_4, g1_5]
  intro b24 hb24 h24
  refine hK _ _ ?_
  clear hK K
  refine cv_gen fun G2 hG => ?_
  have g2_2 := congrFun hG 2
  have g2_6 := congrFun hG 6
  clear hG
  try simp -implicitDefEqProofs (disch := first | omega | decide) only [seval, -Int.reducePow, -Nat.reducePow, cA, cB, pv, binv, fresh, thenQ, blockQ, retQ, Value.oneCell', Value.cells, undef, Nat.mul_one, mrC, mrB, mBox, modV, cS, fltV, g1_2, g1_4, g1_5] at g2_2 g2_6
  have hL : Lt W b24 A1 (n - 4) (c - 4) (l.drop 4) := ⟨hE1, fun h0 => Apt.of_below hE1 h0 (by simp; omega), drop_byte hb 4, by omega⟩
  refine cv_seq_k fun K hK => ?_
  refine cv_region_then rfl ?_
  simp -implicitDefEqProofs (disch := first | omega | decide) only [seval, -Int.reducePow, -Nat.reducePow, cA, cB, pv, binv, fresh, thenQ, blockQ, retQ, Value.oneCell', Value.cells, undef, Nat.mul_one, mrC, mrB, mBox, modV, cS, fltV, g2_2, g2_6]
  refine callV_nestM 0 (fun i : ModR × Option Addr × Nat × Nat × Int => modV i.1) (modΦ (l.drop 4)) (fun i => mrC i.2.1 i.2.2.1 i.2.2.2.1 i.2.2.2.2) rfl (fun w hw => mmod_any b24 A1 (n - 4) (c - 4) (l.drop 4) w (hw.hold 0 rfl) ⟨hE1.at hw, hL.ap, hL.bt, hL.sz⟩) ?_
  rintro ⟨m, A2, n2, c2, e2⟩ w0 w1 f1 hw0 hw1 hΦ hNw
  unfold modΦ at hΦ
  simp only at hΦ
  simp -implicitDefEqProofs (disch := first | omega | decide) only [seval, -Int.reducePow, -Nat.reducePow, cA, cB, pv, binv, fresh, thenQ, blockQ, retQ, Value.oneCell', Value.cells, undef, Nat.mul_one, mrC, mrB, mBox, modV, cS, fltV, g2_2, g2_6]
  intro b7 hb7 h7
  refine hK _ _ ?_
  clear hK K
  have hres : (e2 = 0 → decM l = if (chkM m).1 = 0 then .ok (datM m) else .error (chkM m).1) ∧ (¬ e2 = 0 → decM l = .error e2) := by
    rw [hdec]
    rcases hΦ with ⟨h0, ⟨q, h1, h2⟩, h3⟩ | ⟨h0, h1⟩
    · exact ⟨fun _ => decK_ok h1 h2, fun h => absurd h0 h⟩
    · exact ⟨fun h => absurd h h0, fun _ => by rw [h1]; rfl⟩
  have hk : e2 = 0 → ModD w1 (Dm [] W f1) m := fun h0 => by
    rcases hΦ with h | h
    · exact h.2.2.mono fun y hy => .inl (hNw y hy)
    · exact absurd h0 h.1
  have hkn : e2 = 0 → ModD w1 (fun y => y ∈ f1) m := fun h0 => by
    rcases hΦ with h | h
    · exact h.2.2.mono hNw
    · exact absurd h0 h.1
  clear hΦ hNw hw0 hw1
  refine cv_gen fun G3 hG => ?_
  have g3_2 := congrFun hG 2
  have g3_6 := congrFun hG 6
  have g3_7 := congrFun hG 7
  clear hG
  try simp -implicitDefEqProofs (disch := first | omega | decide) only [seval, -Int.reducePow, -Nat.reducePow, cA, cB, pv, binv, fresh, thenQ, blockQ, retQ, Value.oneCell', Value.cells, undef, Nat.mul_one, mrC, mrB, mBox, modV, cS, fltV, g2_2, g2_6] at g3_2 g3_6 g3_7
  refine cv_seq_k fun K hK => ?_
  refine cv_cut (fun _ _ => True) (fun F' L' => ∃ (e3 : Int), F' 2 = G3 2 ∧ F' 6 = G3 6 ∧ F' 7 = G3 7 ∧ L' = [.blk b7 25 [.slice m.TA m.tn m.tc, .slice m.FA m.fn m.fc], snap [] W w1 f1, mrB b24 A2 n2 c2 e3, .blk b2 25 [.slice none 0 0, .slice none 0 0]] ∧ e3 = if e2 = 0 then (chkM m).1 else e2) ?_ ?_
  · refine cv_seq_k fun K hK => ?_
    refine cv_region_then rfl ?_
    simp -implicitDefEqProofs (disch := first | omega | decide) only [seval, -Int.reducePow, -Nat.reducePow, cA, cB, pv, binv, fresh, thenQ, blockQ, retQ, Value.oneCell', Value.cells, undef, Nat.mul_one, mrC, mrB, mBox, modV, cS, fltV, g3_2, g3_6, g3_7]
    refine hK _ _ ?_
    clear hK K
    refine cv_cond ?_
    simp -implicitDefEqProofs (disch := first | omega | decide) only [seval, -Int.reducePow, -Nat.reducePow, cA, cB, pv, binv, fresh, thenQ, blockQ, retQ, Value.oneCell', Value.cells, undef, Nat.mul_one, mrC, mrB, mBox, modV, cS, fltV, g3_2, g3_6, g3_7]
    refine ⟨fun hc => ?_, fun hc => ?_⟩
    · have he : e2 = 0 := of_decide_eq_true ‹_›
      refine cv_region_q rfl ?_
      simp -implicitDefEqProofs (disch := first | omega | decide) only [seval, -Int.reducePow, -Nat.reducePow, cA, cB, pv, binv, fresh, thenQ, blockQ, retQ, Value.oneCell', Value.cells, undef, Nat.mul_one, mrC, mrB, mBox, modV, cS, fltV, g3_2, g3_6, g3_7]
      refine callV_ret (fun w hw => mcheck_any m w ((hk he).at hw 1 rfl)) ?_
      try simp -implicitDefEqProofs (disch := first | omega | decide) only [seval, -Int.reducePow, -Nat.reducePow, cA, cB, pv, binv, fresh, thenQ, blockQ, retQ, Value.oneCell', Value.cells, undef, Nat.mul_one, mrC, mrB, mBox, modV, cS, fltV, g3_2, g3_6, g3_7]
      exact ⟨_, rfl, by rw [if_pos he]⟩
    · have he : ¬ e2 = 0 := of_decide_eq_false ‹_›
      refine cv_skip ?_
      try simp only [blockQ, thenQ]
      simp -implicitDefEqProofs (disch := first | omega | decide) only [seval, -Int.reducePow, -Nat.reducePow, cA, cB, pv, binv, fresh, thenQ, blockQ, retQ, Value.oneCell', Value.cells, undef, Nat.mul_one, mrC, mrB, mBox, modV, cS, fltV, g3_2, g3_6, g3_7]
      exact ⟨_, rfl, by rw [if_neg he]⟩
  intro G4 L' _ hF
  obtain ⟨e3, q2, q6, q7, rfl, he3⟩ := hF
  have g4_2 := q2.trans g3_2
  have g4_6 := q6.trans g3_6
  have g4_7 := q7.trans g3_7
  clear q2 q6 q7
  refine hK _ _ ?_
  clear hK K
  refine cv_seq_k fun K hK => ?_
  refine cv_seq_k fun K hK => ?_
  refine cv_region_then rfl ?_
  simp -implicitDefEqProofs (disch := first | omega | decide) only [seval, -Int.reducePow, -Nat.reducePow, cA, cB, pv, binv, fresh, thenQ, blockQ, retQ, Value.oneCell', Value.cells, undef, Nat.mul_one, mrC, mrB, mBox, modV, cS, fltV, g4_2, g4_6, g4_7]
  refine hK _ _ ?_
  clear hK K
  refine cv_cond ?_
  simp -implicitDefEqProofs (disch := first | omega | decide) only [seval, -Int.reducePow, -Nat.reducePow, cA, cB, pv, binv, fresh, thenQ, blockQ, retQ, Value.oneCell', Value.cells, undef, Nat.mul_one, mrC, mrB, mBox, modV, cS, fltV, g4_2, g4_6, g4_7]
  refine ⟨fun hc => ?_, fun hc => ?_⟩
  · have hz : ¬ e3 = 0 := by simpa using ‹(!decide (e3 = 0)) = true›
    have hD : decM l = .error e3 := by
      by_cases he : e2 = 0
      · rw [if_pos he] at he3
        rw [hres.1 he, if_neg (by rw [← he3]; exact hz), he3]
      · rw [if_neg he] at he3
        rw [hres.2 he, he3]
    refine cv_seq_k fun K hK => ?_
    refine cv_draw_of (pickL [2] _) (fun w hw => hw.pick (by decide)) (by simp only [pickL, nth, suf_cons, suf_nil, List.mem_cons, true_or, or_true, and_true, eq_self]) [(true, 0), (true, 1), (true, 2), (true, 3), (true, 4), (false, 5), (true, 6)] [] mixA rfl (by kernel_rfl) (by kernel_rfl) rfl rfl ?_
    simp -implicitDefEqProofs (disch := first | omega | decide) only [seval, -Int.reducePow, -Nat.reducePow, cA, cB, pv, binv, fresh, thenQ, blockQ, retQ, Value.oneCell', Value.cells, undef, Nat.mul_one, mrC, mrB, mBox, modV, cS, fltV, g4_2, g4_6, g4_7]
    refine hK _ _ ?_
    clear hK K
    refine cv_ret ?_
    simp -implicitDefEqProofs (disch := first | omega | decide) only [seval, -Int.reducePow, -Nat.reducePow, cA, cB, pv, binv, fresh, thenQ, blockQ, retQ, Value.oneCell', Value.cells, undef, Nat.mul_one, mrC, mrB, mBox, modV, cS, fltV, retQ2, ressV, packV, g4_2, g4_6, g4_7]
    intro w hw
    exact ⟨(zMod, e3), rfl, mdΦ_no _ _ hz hD, hw.below⟩
  have hz : e3 = 0 := by simpa using ‹(!decide (e3 = 0)) = false›
  have he : e2 = 0 := by
    by_cases he : e2 = 0
    · exact he
    · rw [if_neg he] at he3; omega
  have hD : decM l = .ok (datM m) := by
    rw [if_pos he] at he3
    rw [hres.1 he, if_pos (by rw [← he3]; exact hz)]
  refine cv_skip ?_
  try simp only [blockQ, thenQ]
  refine hK _ _ ?_
  clear hK K
  refine cv_pick [1, 0, 2, 3] (by decide) ?_
  simp only [pickL, nth]
  refine cv_seq_k fun K hK => ?_
  refine cv_region_then rfl ?_
  simp -implicitDefEqProofs (disch := first | omega | decide) only [seval, -Int.reducePow, -Nat.reducePow, cA, cB, pv, binv, fresh, thenQ, blockQ, retQ, Value.oneCell', Value.cells, undef, Nat.mul_one, mrC, mrB, mBox, modV, cS, fltV, g4_2, g4_6, g4_7]
  refine hK _ _ ?_
  clear hK K
  refine cv_ret ?_
  simp -implicitDefEqProofs (disch := first | omega | decide) only [seval, -Int.reducePow, -Nat.reducePow, cA, cB, pv, binv, fresh, thenQ, blockQ, retQ, Value.oneCell', Value.cells, undef, Nat.mul_one, mrC, mrB, mBox, modV, cS, fltV, retQ2, ressV, packV, g4_2, g4_6, g4_7]
  intro w hw
  exact ⟨(m, 0), rfl, ⟨(hkn he).same (fun y hy => hw.snap_same (.head _) y (.inl hy)) (hw.snapNew 0 rfl (by simp)), .inl ⟨rfl, hD⟩⟩, hw.below⟩
end Go.Proofs.Ytehfnjaompkikaa
