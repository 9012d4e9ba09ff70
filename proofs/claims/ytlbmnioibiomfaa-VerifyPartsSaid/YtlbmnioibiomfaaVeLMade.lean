/- The laws VerifyMade and VerifyParts, walked. -/
import Derived.Test.YtlbmnioibiomfaaVeChg
namespace Go.Proofs.Ytlbmnioibiomfaa
open Go.RowKit Go.Shelf
set_option linter.unusedVariables false
set_option linter.unusedSimpArgs false
set_option maxRecDepth 100000
theorem wf_i8 {n : Int} (h : (Lit.int .i8 n).wf = true) : -128 ≤ n ∧ n ≤ 127 := by
  simp only [Lit.wf, Bool.and_eq_true, decide_eq_true_eq] at h
  exact h
structure PartsI (m : ModR) (f : Nat) (q Z V : Flt) : Prop where
  fine : q.1 = 0 → q = fineF ∧ Z.1 = 0 ∧ V = verG m (m.fn - f) f
  bad : ¬ q.1 = 0 → V = q
set_option maxRecDepth 100000 in
theorem sVeLMade1 : type_of% (And.intro (And.intro (And.intro @mBox.eq_1 @modV.eq_1) (And.intro @flBox.eq_1 (And.intro @fltV.eq_1 @fineF.eq_1))) (And.intro (And.intro @tape.eq_1 @tpBox.eq_1) (And.intro @Nat.mul_one (And.intro @cS @wrap_in)))) := (And.intro (And.intro (And.intro @mBox.eq_1 @modV.eq_1) (And.intro @flBox.eq_1 (And.intro @fltV.eq_1 @fineF.eq_1))) (And.intro (And.intro @tape.eq_1 @tpBox.eq_1) (And.intro @Nat.mul_one (And.intro @cS @wrap_in))))
set_option maxHeartbeats 4000000 in
theorem vMade_walk (W : World) (B : Option Addr) (m d : Nat) (l : List Nat) (hU : Sl W W.heap.size 1 B m d (u16c l)) (hl : ∀ x ∈ l, x < 65536) (at' : Int) (hat : 0 ≤ at' ∧ at' ≤ 255) (op : Int) (hop : 0 ≤ op ∧ op ≤ 255) (arg : Int) (harg : 0 ≤ arg ∧ arg ≤ 65535)
    (f : Int) (hf : -128 ≤ f ∧ f ≤ 127) :
    Calls Try.prog 5 #[.slice B m d, .int .u8 at', .int .u8 op, .int .u16 arg, .int .i8 f] W fun e w' => e = .returned (.bool true) ∧ Below W.heap.size W w' := by
  have hl60 : ∀ x ∈ l.take 60, x < 65536 := fun x hx => hl x (List.mem_of_mem_take hx)
  obtain ⟨an, rfl⟩ : ∃ x : Nat, at' = (x : Int) := ⟨at'.toNat, by omega⟩
  obtain ⟨on, rfl⟩ : ∃ x : Nat, op = (x : Int) := ⟨op.toNat, by omega⟩
  obtain ⟨rn, rfl⟩ : ∃ x : Nat, arg = (x : Int) := ⟨arg.toNat, by omega⟩
  have hmV : ∀ m : ModR, (Value.agg #[.slice m.TA m.tn m.tc, .slice m.FA m.fn m.fc]) = modV m := fun _ => rfl
  refine calls_cv (M := []) (n := 44) [.tmp 10] rfl Try.func5 rfl rfl (Nat.le_of_ble_eq_true rfl) (St.nil _ _) ?_
  refine cv_seq_k fun K hK => ?_
  refine cv_region_then rfl ?_
  simp -implicitDefEqProofs (disch := first | omega | decide) only [seval, -Int.reducePow, -Nat.reducePow, cC, pv, binv, sVeLMade1, undef]
  refine hK _ _ ?_
  clear hK K
  refine cv_seq_k fun K hK => ?_
  refine cv_region_then rfl ?_
  simp -implicitDefEqProofs (disch := first | omega | decide) only [seval, -Int.reducePow, -Nat.reducePow, cC, pv, binv, sVeLMade1, undef]
  refine callV_boxRow (fun w hw => of_any B m d l 60 w (hU.at hw) (by omega)) ?_
  intro b4 A2 n2 c2 hl2 hb4 hf4 hr2
  simp -implicitDefEqProofs (disch := first | omega | decide) only [seval, -Int.reducePow, -Nat.reducePow, cC, pv, binv, sVeLMade1, undef] at hf4
  simp -implicitDefEqProofs (disch := first | omega | decide) only [seval, -Int.reducePow, -Nat.reducePow, cC, pv, binv, sVeLMade1, undef]
  refine callV_nestM 1 (fun p : ModR × Nat => modV p.1) (fun p w w' => ModD w' (Nw w w') p.1 ∧ Good p.1) (fun p => tape A2 n2 c2 p.2) rfl (fun w hw => module_any b4 A2 n2 c2 (l.take 60) 0 10 w (hw.hold 1 rfl) (hw.slr 0 rfl) (fun _ => hr2.apt) hl60 (by omega) (by omega)) ?_
  rintro ⟨k1, j⟩ w0 w1 f1 hw0 hw1 ⟨hk, hg⟩ hNw
  dsimp only at *
  simp -implicitDefEqProofs (disch := first | omega | decide) only [seval, -Int.reducePow, -Nat.reducePow, cC, pv, binv, sVeLMade1, undef]
  have hk1 : ModD w1 (fun y => y ∈ f1) k1 := hk.mono hNw
  intro b11 hb11 hf11
  refine hK _ _ ?_
  clear hK K
  refine cv_pick [0, 1] (by decide) ?_
  simp only [pickL, nth]
  refine cv_gen fun G1 hG => ?_
  have g1_1 := congrFun hG 1
  have g1_2 := congrFun hG 2
  have g1_3 := congrFun hG 3
  have g1_4 := congrFun hG 4
  have g1_11 := congrFun hG 11
  clear hG
  try simp -implicitDefEqProofs (disch := first | omega | decide) only [seval, -Int.reducePow, -Nat.reducePow, cC, pv, binv, sVeLMade1, undef] at g1_1 g1_2 g1_3 g1_4 g1_11
  have g1 := And.intro g1_1 (And.intro g1_2 (And.intro g1_3 (And.intro g1_4 g1_11)))
  refine cv_seq_k fun K hK => ?_
  refine cv_region_then rfl ?_
  simp -implicitDefEqProofs (disch := first | omega | decide) only [seval, -Int.reducePow, -Nat.reducePow, cC, pv, binv, sVeLMade1, undef, g1]
  rw [hmV k1]
  refine callV_nest modV (fun k w w' => ModD w' (fun y => y ∈ f1 ∨ Nw w w' y) k) (fun w hw => changed_any k1 (fun y => y ∈ f1) an on rn w (hk1.same (fun y hy => hw.snap_same (.tail _ (.head _)) y (.inl hy)) fun _ h => h) (fun y hy => hw.snap_lt (.tail _ (.head _)) y (.inl hy)) hg (by omega) (by omega) (by omega)) ?_
  intro k2 w2 w3 f2 hw2 hw3 hk2 hNw2
  have hold : ∀ y, y ∈ f1 → w3.heap[y]? = w1.heap[y]? := fun y hy => hw3.snap_same (.tail _ (.tail _ (.head _))) y (.inl hy)
  simp -implicitDefEqProofs (disch := first | omega | decide) only [seval, -Int.reducePow, -Nat.reducePow, cC, pv, binv, sVeLMade1, undef, g1]
  intro b12 hb12 hf12

  refine hK _ _ ?_
  clear hK K
  refine cv_gen fun G2 hG => ?_
  have g2_4 := congrFun hG 4
  have g2_11 := congrFun hG 11
  have g2_12 := congrFun hG 12
  clear hG
  try simp -implicitDefEqProofs (disch := first | omega | decide) only [seval, -Int.reducePow, -Nat.reducePow, cC, pv, binv, sVeLMade1, undef, g1] at g2_4 g2_11 g2_12
  have g2 := And.intro g2_4 (And.intro g2_11 g2_12)
  refine cv_snap [0, 2] (by decide) fun v fo hv hfo => ?_
  simp only [pickL, nth]
  obtain ⟨m1, -⟩ := hv.snapK hfo 1 rfl (by decide) (by simp)
  have m3 := hv.footK hfo (k := 1) rfl (by decide) (by simp)
  obtain ⟨n1, -⟩ := hv.snapK hfo 3 rfl (by decide) (by simp)
  have n3 := hv.footK hfo (k := 3) rfl (by decide) (by simp)
  simp only [snap_foot] at m3 n3
  have hkv : ModD v (Dm [] W fo) k2 := hk2.same (fun y hy => by
    rcases hy with hy | hy
    · exact (n1 y (.inl hy)).trans (hold y hy).symm
    · exact m1 y (.inl (hNw2 y hy))) fun y hy => .inl (hy.elim (n3 y) fun h => m3 y (hNw2 y h))
  have hk1v : ModD v (Dm [] W fo) k1 := hk1.same (fun y hy => n1 y (.inl hy)) fun y hy => .inl (n3 y hy)
  refine cv_seq_k fun K hK => ?_
  refine cv_region_then rfl ?_
  simp -implicitDefEqProofs (disch := first | omega | decide) only [seval, -Int.reducePow, -Nat.reducePow, cC, pv, binv, sVeLMade1, undef, g2]
  refine callV_ret (fun w hw => vAwake_any w) ?_
  try simp -implicitDefEqProofs (disch := first | omega | decide) only [seval, -Int.reducePow, -Nat.reducePow, cC, pv, binv, sVeLMade1, undef, g2]
  rw [hmV k1]
  refine callV_ret (fun w hw => vSame_any k1 0 w (hk1v.at hw 0 rfl)) ?_
  try simp -implicitDefEqProofs (disch := first | omega | decide) only [seval, -Int.reducePow, -Nat.reducePow, cC, pv, binv, sVeLMade1, undef, g2]
  rw [hmV k1]
  refine callV_ret (fun w hw => vSame_any k1 _ w (hk1v.at hw 0 rfl)) ?_
  try simp -implicitDefEqProofs (disch := first | omega | decide) only [seval, -Int.reducePow, -Nat.reducePow, cC, pv, binv, sVeLMade1, undef, g2]
  rw [hmV k2]
  refine callV_ret (fun w hw => vSame_any k2 0 w (hkv.at hw 0 rfl)) ?_
  try simp -implicitDefEqProofs (disch := first | omega | decide) only [seval, -Int.reducePow, -Nat.reducePow, cC, pv, binv, sVeLMade1, undef, g2]
  rw [hmV k2]
  refine callV_ret (fun w hw => vSame_any k2 _ w (hkv.at hw 0 rfl)) ?_
  try simp -implicitDefEqProofs (disch := first | omega | decide) only [seval, -Int.reducePow, -Nat.reducePow, cC, pv, binv, sVeLMade1, undef, g2]
  refine hK _ _ ?_
  clear hK K
  refine cv_ret ⟨_, (by simp -implicitDefEqProofs (disch := first | omega | decide) only [seval, -Int.reducePow, -Nat.reducePow, cC, pv, binv, sVeLMade1, undef, g2]; rfl), fun w hw => ?_⟩
  exact ⟨rfl, hw.below⟩
set_option maxHeartbeats 4000000 in
theorem vParts_walk (W : World) (B : Option Addr) (m d : Nat) (l : List Nat) (hU : Sl W W.heap.size 1 B m d (u16c l)) (hl : ∀ x ∈ l, x < 65536) (at' : Int) (hat : 0 ≤ at' ∧ at' ≤ 255) (op : Int) (hop : 0 ≤ op ∧ op ≤ 255) (arg : Int) (harg : 0 ≤ arg ∧ arg ≤ 65535) :
    Calls Try.prog 4 #[.slice B m d, .int .u8 at', .int .u8 op, .int .u16 arg] W fun e w' => e = .returned (.bool true) ∧ Below W.heap.size W w' := by
  have hl60 : ∀ x ∈ l.take 60, x < 65536 := fun x hx => hl x (List.mem_of_mem_take hx)
  obtain ⟨an, rfl⟩ : ∃ x : Nat, at' = (x : Int) := ⟨at'.toNat, by omega⟩
  obtain ⟨on, rfl⟩ : ∃ x : Nat, op = (x : Int) := ⟨op.toNat, by omega⟩
  obtain ⟨rn, rfl⟩ : ∃ x : Nat, arg = (x : Int) := ⟨arg.toNat, by omega⟩
  have hmV : ∀ m : ModR, (Value.agg #[.slice m.TA m.tn m.tc, .slice m.FA m.fn m.fc]) = modV m := fun _ => rfl
  refine calls_cv (M := []) (n := 48) [.tmp 8] rfl Try.func4 rfl rfl (Nat.le_of_ble_eq_true rfl) (St.nil _ _) ?_
  refine cv_seq_k fun K hK => ?_
  refine cv_region_then rfl ?_
  simp -implicitDefEqProofs (disch := first | omega | decide) only [seval, -Int.reducePow, -Nat.reducePow, cC, pv, binv, sVeLMade1, undef]
  refine hK _ _ ?_
  clear hK K
  refine cv_seq_k fun K hK => ?_
  refine cv_region_then rfl ?_
  simp -implicitDefEqProofs (disch := first | omega | decide) only [seval, -Int.reducePow, -Nat.reducePow, cC, pv, binv, sVeLMade1, undef]
  refine callV_boxRow (fun w hw => of_any B m d l 60 w (hU.at hw) (by omega)) ?_
  intro b4 A2 n2 c2 hl2 hb4 hf4 hr2
  simp -implicitDefEqProofs (disch := first | omega | decide) only [seval, -Int.reducePow, -Nat.reducePow, cC, pv, binv, sVeLMade1, undef] at hf4
  simp -implicitDefEqProofs (disch := first | omega | decide) only [seval, -Int.reducePow, -Nat.reducePow, cC, pv, binv, sVeLMade1, undef]
  refine callV_nestM 1 (fun p : ModR × Nat => modV p.1) (fun p w w' => ModD w' (Nw w w') p.1 ∧ Good p.1) (fun p => tape A2 n2 c2 p.2) rfl (fun w hw => module_any b4 A2 n2 c2 (l.take 60) 0 10 w (hw.hold 1 rfl) (hw.slr 0 rfl) (fun _ => hr2.apt) hl60 (by omega) (by omega)) ?_
  rintro ⟨k1, j⟩ w0 w1 f1 hw0 hw1 ⟨hk, hg⟩ hNw
  dsimp only at *
  simp -implicitDefEqProofs (disch := first | omega | decide) only [seval, -Int.reducePow, -Nat.reducePow, cC, pv, binv, sVeLMade1, undef]
  have hk1 : ModD w1 (fun y => y ∈ f1) k1 := hk.mono hNw
  rw [hmV k1]
  refine callV_nest modV (fun k w w' => ModD w' (fun y => y ∈ f1 ∨ Nw w w' y) k) (fun w hw => changed_any k1 (fun y => y ∈ f1) an on rn w (hk1.same (fun y hy => hw.snap_same (.head _) y (.inl hy)) fun _ h => h) (fun y hy => hw.snap_lt (.head _) y (.inl hy)) hg (by omega) (by omega) (by omega)) ?_
  intro k2 w2 w3 f2 hw2 hw3 hk2 hNw2
  have hold : ∀ y, y ∈ f1 → w3.heap[y]? = w1.heap[y]? := fun y hy => hw3.snap_same (.tail _ (.head _)) y (.inl hy)
  simp -implicitDefEqProofs (disch := first | omega | decide) only [seval, -Int.reducePow, -Nat.reducePow, cC, pv, binv, sVeLMade1, undef]
  intro b9 hb9 hf9
  refine hK _ _ ?_
  clear hK K
  refine cv_pick [0, 1, 2] (by decide) ?_
  simp only [pickL, nth]
  refine cv_gen fun G3 hG => ?_
  have g3_9 := congrFun hG 9
  clear hG
  try simp -implicitDefEqProofs (disch := first | omega | decide) only [seval, -Int.reducePow, -Nat.reducePow, cC, pv, binv, sVeLMade1, undef] at g3_9
  have g3 := g3_9
  refine cv_snap [0] (by decide) fun v fo hv hfo => ?_
  simp only [pickL, nth]
  obtain ⟨m1, -⟩ := hv.snapK hfo 1 rfl (by decide) (by simp)
  have m3 := hv.footK hfo (k := 1) rfl (by decide) (by simp)
  obtain ⟨n1, -⟩ := hv.snapK hfo 2 rfl (by decide) (by simp)
  have n3 := hv.footK hfo (k := 2) rfl (by decide) (by simp)
  simp only [snap_foot] at m3 n3
  have hkv : ModD v (Dm [] W fo) k2 := hk2.same (fun y hy => by
    rcases hy with hy | hy
    · exact (n1 y (.inl hy)).trans (hold y hy).symm
    · exact m1 y (.inl (hNw2 y hy))) fun y hy => .inl (hy.elim (n3 y) fun h => m3 y (hNw2 y h))
  clear hold hk1 hk hg hk2 hw0 hw1 hw2 hw3 hNw hNw2 hv hfo m1 m3 n1 n3
  obtain ⟨Z, hZ⟩ : ∃ Z, chkM k2 = Z := ⟨_, rfl⟩
  obtain ⟨V, hV⟩ : ∃ V, verM k2 = V := ⟨_, rfl⟩
  have hver : V = if Z.1 = 0 then verG k2 k2.gs.length 0 else Z := by rw [← hV, ← hZ]; rfl
  have hok := fun h => chkM_ok (m := k2) h
  have hfin := fun h => chkM_fine (m := k2) h
  rw [hZ] at hok hfin
  have hlg := (hkv.mod (B := v.heap.size + W.heap.size + fo.foldl max 0 + 1) (fun y hy => by
    rcases hy with hy | hy
    · have : ∀ (l : List Nat) (a : Nat), y ∈ l ∨ y ≤ a → y ≤ l.foldl max a := fun l => by
        induction l with
        | nil => intro a h; simpa using h
        | cons b l ih =>
          intro a h
          rw [List.foldl_cons]
          refine ih _ ?_
          rcases h with h | h
          · rcases List.mem_cons.1 h with rfl | h
            · exact .inr (Nat.le_max_right _ _)
            · exact .inl h
          · exact .inr (Nat.le_trans h (Nat.le_max_left _ _))
      have := this fo 0 (.inl hy)
      omega
    · omega)).glen
  refine cv_seq_k fun K hK => ?_
  refine cv_region_then rfl ?_
  simp -implicitDefEqProofs (disch := first | omega | decide) only [seval, -Int.reducePow, -Nat.reducePow, cC, pv, binv, sVeLMade1, undef, g3]
  rw [hmV k2]
  refine callV_ret (fun w hw => Verify_any k2 w (hkv.at hw 0 rfl)) ?_
  try simp -implicitDefEqProofs (disch := first | omega | decide) only [seval, -Int.reducePow, -Nat.reducePow, cC, pv, binv, sVeLMade1, undef, hV, g3]
  intro b10 hb10 hf10
  refine hK _ _ ?_
  clear hK K
  refine cv_seq_k fun K hK => ?_
  refine cv_region_then rfl ?_
  simp -implicitDefEqProofs (disch := first | omega | decide) only [seval, -Int.reducePow, -Nat.reducePow, cC, pv, binv, sVeLMade1, undef, g3]
  rw [hmV k2]
  refine callV_ret (fun w hw => rmcheck_any k2 w (hkv.at hw 1 rfl)) ?_
  try simp -implicitDefEqProofs (disch := first | omega | decide) only [seval, -Int.reducePow, -Nat.reducePow, cC, pv, binv, sVeLMade1, undef, hZ, g3]
  intro b11 hb11 hf11
  refine hK _ _ ?_
  clear hK K
  refine cv_seq_k fun K hK => ?_
  refine cv_seq_k fun K hK => ?_
  refine cv_region_then rfl ?_
  simp -implicitDefEqProofs (disch := first | omega | decide) only [seval, -Int.reducePow, -Nat.reducePow, cC, pv, binv, sVeLMade1, undef, g3]
  refine hK _ _ ?_
  clear hK K
  refine cv_gen fun G4 hG => ?_
  have g4_9 := congrFun hG 9
  have g4_10 := congrFun hG 10
  have g4_11 := congrFun hG 11
  have g4_12 := congrFun hG 12
  clear hG
  try simp -implicitDefEqProofs (disch := first | omega | decide) only [seval, -Int.reducePow, -Nat.reducePow, cC, pv, binv, sVeLMade1, undef, g3] at g4_9 g4_10 g4_11 g4_12
  have g4 := And.intro g4_9 (And.intro g4_10 (And.intro g4_11 g4_12))
  refine cv_block ?_
  refine cv_loop (fun F' L' => ∃ (f : Nat) (q : Flt), F' 9 = G4 9 ∧ F' 10 = G4 10 ∧ F' 11 = G4 11 ∧ F' 12 = .int .i64 (f : Int) ∧ L' = [flBox b11 q.1 q.2.1 q.2.2, flBox b10 V.1 V.2.1 V.2.2, snap [] W v fo, mBox b9 k2] ∧ f ≤ k2.fn ∧ PartsI k2 f q Z V) (fun F' L' => 50 - (intOf (F' 12)).toNat) ?_ ?_
  · refine ⟨0, Z, ?_⟩
    simp -implicitDefEqProofs (disch := first | omega | decide) only [seval, -Int.reducePow, -Nat.reducePow, cC, pv, binv, sVeLMade1, undef, g4]
    refine ⟨by omega, ⟨fun h => ⟨hfin h, h, ?_⟩, fun h => ?_⟩⟩
    · rw [hver, if_pos h, hlg, Nat.sub_zero]
    · rw [hver, if_neg h]
  intro G5 L' hI
  obtain ⟨f, q, q9, q10, q11, q12, rfl, ⟨hf, ⟨hq0, hq1⟩⟩⟩ := hI
  have g5_9 := q9.trans g4_9
  have g5_10 := q10.trans g4_10
  have g5_11 := q11.trans g4_11
  have g5_12 := q12
  clear q9 q10 q11 q12
  have g5 := And.intro g5_9 (And.intro g5_10 (And.intro g5_11 g5_12))
  refine cv_seq_k fun K hK => ?_
  refine cv_seq_k fun K hK => ?_
  refine cv_cut (fun _ _ => True) (fun F' L' => F' 9 = G5 9 ∧ F' 10 = G5 10 ∧ F' 11 = G5 11 ∧ F' 12 = G5 12 ∧ F' 33 = .bool (decide (f < k2.fn ∧ q.1 = 0)) ∧ L' = [flBox b11 q.1 q.2.1 q.2.2, flBox b10 V.1 V.2.1 V.2.2, snap [] W v fo, mBox b9 k2]) ?_ ?_
  · refine cv_region_then rfl ?_
    simp -implicitDefEqProofs (disch := first | omega | decide) only [seval, -Int.reducePow, -Nat.reducePow, cC, pv, binv, sVeLMade1, undef, g4, g5]
    repeat' ((first | refine vcg_cases (fun hg => ?_) (fun hg => ?_) | refine vdg_cases (fun hg => ?_) (fun hg => ?_)) <;> ((try simp only [Bool.not_eq_true', Bool.not_eq_false', decide_eq_true_eq, decide_eq_false_iff_not] at hg); (try simp -implicitDefEqProofs (disch := first | omega | decide) only [seval, -Int.reducePow, -Nat.reducePow, cC, pv, binv, sVeLMade1, undef, hg, g4, g5])))
    all_goals (repeat' refine And.intro ?_ ?_)
    all_goals (first | with_reducible rfl | (refine congrArg Value.bool ?_; rw [Bool.eq_iff_iff]; (try simp only [decide_eq_true_eq, eq_self, true_and, and_true, false_and, and_false, true_or, or_true, false_or, or_false, not_true_eq_false, not_false_eq_true, true_iff, iff_true, false_iff, iff_false, Bool.false_eq_true, Bool.not_eq_true', Bool.not_eq_true, decide_eq_false_iff_not, Bool.and_eq_true, Bool.or_eq_true]) <;> omega) | (refine congrArg (Value.int _) ?_; omega) | omega)
  intro G6 L' _ hF
  obtain ⟨q9, q10, q11, q12, q33, rfl⟩ := hF
  have g6_9 := q9.trans g5_9
  have g6_10 := q10.trans g5_10
  have g6_11 := q11.trans g5_11
  have g6_12 := q12.trans g5_12
  have g6_33 := q33
  clear q9 q10 q11 q12 q33
  have g6 := And.intro g6_9 (And.intro g6_10 (And.intro g6_11 (And.intro g6_12 g6_33)))
  refine hK _ _ ?_
  clear hK K
  refine cv_cond ?_
  simp -implicitDefEqProofs (disch := first | omega | decide) only [seval, -Int.reducePow, -Nat.reducePow, cC, pv, binv, sVeLMade1, undef, g4, g5, g6]
  refine ⟨fun hc => ?_, fun hc => ?_⟩
  · refine cv_skip ?_
    try simp only [blockQ, thenQ]
    obtain ⟨hft, hq2⟩ := of_decide_eq_true hc
    obtain ⟨h1, h2, h3⟩ := hq0 hq2
    obtain ⟨-, -, -, hg32, -⟩ := hok h2
    obtain ⟨u, hu⟩ : ∃ u, hgtF k2 (f : Int) = u := ⟨_, rfl⟩
    refine hK _ _ ?_
    clear hK K
    refine cv_seq_k fun K hK => ?_
    refine cv_block ?_
    refine cv_region_q rfl ?_
    simp -implicitDefEqProofs (disch := first | omega | decide) only [seval, -Int.reducePow, -Nat.reducePow, cC, pv, binv, sVeLMade1, undef, g4, g5, g6]
    rw [hmV k2]
    refine callV_row (fun A n c => .tuple #[.slice A n c, fltV u.2]) (fun w hw => (by have := rHeights_any k2 (f : Int) w (hkv.at hw 2 rfl); rw [hu] at this; exact this)) ?_
    intro A n c hl hr
    simp -implicitDefEqProofs (disch := first | omega | decide) only [seval, -Int.reducePow, -Nat.reducePow, cC, pv, binv, sVeLMade1, undef, g4, g5, g6]
    refine hK _ _ ?_
    clear hK K
    refine cv_pick [1, 2, 3, 4] (by decide) ?_
    simp only [pickL, nth]
    refine cv_region_then rfl ?_
    simp -implicitDefEqProofs (disch := first | omega | decide) only [seval, -Int.reducePow, -Nat.reducePow, cC, pv, binv, sVeLMade1, undef, wrap_in, g4, g5, g6]
    refine ⟨⟨f + 1, u.2, ?_⟩, ?_⟩
    · simp -implicitDefEqProofs (disch := first | omega | decide) only [seval, -Int.reducePow, -Nat.reducePow, cC, pv, binv, sVeLMade1, undef, Int.natCast_add, g4, g5, g6]
      refine ⟨by omega, ⟨fun h => ?_, fun h => ?_⟩⟩
      · have hu2 : (hgtF k2 (f : Int)).2.1 = 0 := by rw [hu]; exact h
        refine ⟨by rw [← hu]; exact hgtF_fin hu2, h2, ?_⟩
        rw [h3, show k2.fn - f = (k2.fn - (f + 1)) + 1 by omega, verG_yes hu2]
      · have hu2 : ¬ (hgtF k2 (f : Int)).2.1 = 0 := by rw [hu]; exact h
        rw [h3, show k2.fn - f = (k2.fn - (f + 1)) + 1 by omega, verG_no hu2, hu]
    · simp only [intOf]; omega
  refine cv_exit ?_
  simp only [blockQ, thenQ, if_true, ite_true]
  clear hK K
  refine hK _ _ ?_
  clear hK K
  have hne := of_decide_eq_false hc
  have hVq : V = q := by
    by_cases h : q.1 = 0
    · obtain ⟨h1, h2, h3⟩ := hq0 h
      rw [h3, h1, show k2.fn - f = 0 by omega]
      rfl
    · exact hq1 h
  subst hVq
  refine cv_seq_k fun K hK => ?_
  refine cv_region_then rfl ?_
  simp -implicitDefEqProofs (disch := first | omega | decide) only [seval, -Int.reducePow, -Nat.reducePow, cC, pv, binv, sVeLMade1, undef, g4, g5, g6]
  refine callV_ret (fun w hw => vAwake_any w) ?_
  try simp -implicitDefEqProofs (disch := first | omega | decide) only [seval, -Int.reducePow, -Nat.reducePow, cC, pv, binv, sVeLMade1, undef, g4, g5, g6]
  refine hK _ _ ?_
  clear hK K
  refine cv_ret ⟨_, (by simp -implicitDefEqProofs (disch := first | omega | decide) only [seval, -Int.reducePow, -Nat.reducePow, cC, pv, binv, sVeLMade1, undef, g4, g5, g6]; rfl), fun w hw => ?_⟩
  exact ⟨rfl, hw.below⟩
end Go.Proofs.Ytlbmnioibiomfaa
