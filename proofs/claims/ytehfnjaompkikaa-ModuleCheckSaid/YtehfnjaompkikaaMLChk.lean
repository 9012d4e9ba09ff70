/- The laws ModuleCheck and ModuleEncode, walked. -/
import Derived.Test.YtehfnjaompkikaaSp
import Derived.Test.YtehfnjaompkikaaMMd
import Derived.Test.YtehfnjaompkikaaMRChk
import Derived.Test.YtehfnjaompkikaaMREnc
namespace Go.Proofs.Ytehfnjaompkikaa
open Go.RowKit Go.Shelf
set_option linter.unusedVariables false
set_option linter.unusedSimpArgs false
set_option maxRecDepth 100000
theorem few_ex (m : ModR) (W : World) (hM : Mod W W.heap.size m) : Calls Try.prog 10 #[modV m] W fun e w' => (∃ r : Bool, e = .returned (.bool r) ∧ True) ∧ Below W.heap.size W w' :=
  (few_any m W hM).mono (by rintro e w' ⟨r, h1, -, h2⟩; exact ⟨⟨r, h1, trivial⟩, h2⟩)
set_option maxHeartbeats 8000000 in
theorem mCheck_walk (W : World) (m : ModR) (hM : Mod W W.heap.size m) (B : Option Addr) (k d : Nat) (l : List Nat) (hU : Sl W W.heap.size 1 B k d (u16c l)) (hl : ∀ x ∈ l, x < 65536)
    (what : Int) (hwh : 0 ≤ what ∧ what ≤ 255) (pos : Int) (hpos : 0 ≤ pos ∧ pos ≤ 255) (nn : Int) (hnn : -9223372036854775808 ≤ nn ∧ nn ≤ 9223372036854775807) :
    Calls Try.prog 3 #[modV m, .slice B k d, .int .u8 what, .int .u8 pos, .int .i64 nn] W fun e w' => e = .returned (.bool true) ∧ Below W.heap.size W w' := by
  obtain ⟨wh, rfl⟩ : ∃ x : Nat, what = (x : Int) := ⟨what.toNat, by omega⟩
  obtain ⟨p, rfl⟩ : ∃ x : Nat, pos = (x : Int) := ⟨pos.toNat, by omega⟩
  have hmV : (Value.agg #[.slice m.TA m.tn m.tc, .slice m.FA m.fn m.fc]) = modV m := rfl
  refine calls_cv (M := []) (n := 37) [.tmp 10] rfl Try.func3 rfl rfl (Nat.le_of_ble_eq_true rfl) (St.nil _ _) ?_
  refine cv_seq_k fun K hK => ?_
  refine cv_region_then rfl ?_
  simp -implicitDefEqProofs (disch := first | omega | decide) only [seval, -Int.reducePow, -Nat.reducePow, cA, cB, pv, binv, fresh, thenQ, blockQ, retQ, Value.oneCell', Value.cells, undef, Nat.mul_one, mBox, modV, cS, fltV]
  intro b5 hb5
  refine hK _ _ ?_
  clear hK K
  refine cv_seq_k fun K hK => ?_
  refine cv_seq_k fun K hK => ?_
  refine cv_region_then rfl ?_
  simp -implicitDefEqProofs (disch := first | omega | decide) only [seval, -Int.reducePow, -Nat.reducePow, cA, cB, pv, binv, fresh, thenQ, blockQ, retQ, Value.oneCell', Value.cells, undef, Nat.mul_one, mBox, modV, cS, fltV]
  rw [hmV]
  refine callV_ex (fun r : Bool => .bool r) (fun _ => True) (fun w hw => few_ex m w (hM.at hw)) ?_
  intro r _
  cases r
  · simp -implicitDefEqProofs (disch := first | omega | decide) only [seval, -Int.reducePow, -Nat.reducePow, cA, cB, pv, binv, fresh, thenQ, blockQ, retQ, Value.oneCell', Value.cells, undef, Nat.mul_one, mBox, modV, cS, fltV]
    refine hK _ _ ?_
    clear hK K
    refine cv_cond ?_
    simp -implicitDefEqProofs (disch := first | omega | decide) only [seval, -Int.reducePow, -Nat.reducePow, cA, cB, pv, binv, fresh, thenQ, blockQ, retQ, Value.oneCell', Value.cells, undef, Nat.mul_one, mBox, modV, cS, fltV]
    refine cv_seq_k fun K hK => ?_
    refine cv_region_then rfl ?_
    simp -implicitDefEqProofs (disch := first | omega | decide) only [seval, -Int.reducePow, -Nat.reducePow, cA, cB, pv, binv, fresh, thenQ, blockQ, retQ, Value.oneCell', Value.cells, undef, Nat.mul_one, mBox, modV, cS, fltV]
    refine callV_ret (fun w hw => awake_any w) ?_
    try simp -implicitDefEqProofs (disch := first | omega | decide) only [seval, -Int.reducePow, -Nat.reducePow, cA, cB, pv, binv, fresh, thenQ, blockQ, retQ, Value.oneCell', Value.cells, undef, Nat.mul_one, mBox, modV, cS, fltV]
    refine hK _ _ ?_
    clear hK K
    refine cv_ret ⟨_, (by simp -implicitDefEqProofs (disch := first | omega | decide) only [seval, -Int.reducePow, -Nat.reducePow, cA, cB, pv, binv, fresh, thenQ, blockQ, retQ, Value.oneCell', Value.cells, undef, Nat.mul_one, mBox, modV, cS, fltV]; rfl), fun w hw => ?_⟩
    exact ⟨rfl, hw.below⟩
  simp -implicitDefEqProofs (disch := first | omega | decide) only [seval, -Int.reducePow, -Nat.reducePow, cA, cB, pv, binv, fresh, thenQ, blockQ, retQ, Value.oneCell', Value.cells, undef, Nat.mul_one, mBox, modV, cS, fltV]
  refine hK _ _ ?_
  clear hK K
  refine cv_cond ?_
  simp -implicitDefEqProofs (disch := first | omega | decide) only [seval, -Int.reducePow, -Nat.reducePow, cA, cB, pv, binv, fresh, thenQ, blockQ, retQ, Value.oneCell', Value.cells, undef, Nat.mul_one, mBox, modV, cS, fltV]
  refine cv_skip ?_
  try simp only [blockQ, thenQ]
  refine hK _ _ ?_
  clear hK K
  refine cv_gen fun G1 hG => ?_
  have g1_1 := congrFun hG 1
  have g1_2 := congrFun hG 2
  have g1_3 := congrFun hG 3
  have g1_4 := congrFun hG 4
  have g1_5 := congrFun hG 5
  clear hG
  try simp -implicitDefEqProofs (disch := first | omega | decide) only [seval, -Int.reducePow, -Nat.reducePow, cA, cB, pv, binv, fresh, thenQ, blockQ, retQ, Value.oneCell', Value.cells, undef, Nat.mul_one, mBox, modV, cS, fltV] at g1_1 g1_2 g1_3 g1_4 g1_5
  refine cv_seq_k fun K hK => ?_
  refine cv_region_then rfl ?_
  simp -implicitDefEqProofs (disch := first | omega | decide) only [seval, -Int.reducePow, -Nat.reducePow, cA, cB, pv, binv, fresh, thenQ, blockQ, retQ, Value.oneCell', Value.cells, undef, Nat.mul_one, mBox, modV, cS, fltV, g1_1, g1_2, g1_3, g1_4, g1_5]
  refine callV_nest modV (fun k w w' => ModD w' (Nw w w') k ∧ Good k) (fun w hw => made_any B k d l w (hU.at hw) hl) ?_
  intro k1 w0 w1 f1 hw0 hw1 ⟨hk, hg⟩ hNw
  have hk1 : ModD w1 (fun y => y ∈ f1) k1 := hk.mono hNw
  simp -implicitDefEqProofs (disch := first | omega | decide) only [seval, -Int.reducePow, -Nat.reducePow, cA, cB, pv, binv, fresh, thenQ, blockQ, retQ, Value.oneCell', Value.cells, undef, Nat.mul_one, mBox, modV, cS, fltV, g1_1, g1_2, g1_3, g1_4, g1_5]
  rw [show (Value.agg #[.slice k1.TA k1.tn k1.tc, .slice k1.FA k1.fn k1.fc]) = modV k1 from rfl]
  refine callV_nest modV (fun k w w' => ModD w' (fun y => y ∈ f1 ∨ Nw w w' y) k) (fun w hw => spoil_any k1 (fun y => y ∈ f1) wh p nn w (hk1.same (fun y hy => hw.snap_same (.head _) y (.inl hy)) fun _ h => h) (fun y hy => hw.snap_lt (.head _) y (.inl hy)) hg (by omega) (by omega) hnn) ?_
  intro k2 w2 w3 f2 hw2 hw3 hk2 hNw2
  have hold : ∀ y, y ∈ f1 → w3.heap[y]? = w1.heap[y]? := fun y hy => hw3.snap_same (.tail _ (.head _)) y (.inl hy)
  simp -implicitDefEqProofs (disch := first | omega | decide) only [seval, -Int.reducePow, -Nat.reducePow, cA, cB, pv, binv, fresh, thenQ, blockQ, retQ, Value.oneCell', Value.cells, undef, Nat.mul_one, mBox, modV, cS, fltV, g1_1, g1_2, g1_3, g1_4, g1_5]
  intro b11 hb11 h11
  refine hK _ _ ?_
  clear hK K
  refine cv_gen fun G2 hG => ?_
  have g2_5 := congrFun hG 5
  have g2_11 := congrFun hG 11
  clear hG
  try simp -implicitDefEqProofs (disch := first | omega | decide) only [seval, -Int.reducePow, -Nat.reducePow, cA, cB, pv, binv, fresh, thenQ, blockQ, retQ, Value.oneCell', Value.cells, undef, Nat.mul_one, mBox, modV, cS, fltV, g1_1, g1_2, g1_3, g1_4, g1_5] at g2_5 g2_11
  refine cv_snap [0, 3] (by decide) fun v f hv hf => ?_
  simp only [pickL, nth]
  obtain ⟨m1, -⟩ := hv.snapK hf 1 rfl (by decide) (by simp)
  have m3 := hv.footK hf (k := 1) rfl (by decide) (by simp)
  obtain ⟨n1, -⟩ := hv.snapK hf 2 rfl (by decide) (by simp)
  have n3 := hv.footK hf (k := 2) rfl (by decide) (by simp)
  simp only [snap_foot] at m3 n3
  have hkv : ModD v (Dm [] W f) k2 := hk2.same (fun y hy => by
    rcases hy with hy | hy
    · exact (n1 y (.inl hy)).trans (hold y hy).symm
    · exact m1 y (.inl (hNw2 y hy))) fun y hy => .inl (hy.elim (n3 y) fun h => m3 y (hNw2 y h))
  refine cv_seq_k fun K hK => ?_
  refine cv_draw_of (pickL [1, 2] _) (fun w hw => hw.pick (by decide)) (by simp only [pickL, nth, suf_cons, suf_nil, List.mem_cons, true_or, or_true, and_true, eq_self]) [(false, 0), (true, 1), (true, 2), (true, 4), (false, 3), (false, 5), (true, 6), (true, 7), (true, 8), (true, 9), (true, 11), (false, 10), (false, 12), (true, 13), (true, 14), (true, 15)] [] mixA rfl (by kernel_rfl) (by kernel_rfl) rfl rfl ?_
  simp -implicitDefEqProofs (disch := first | omega | decide) only [seval, -Int.reducePow, -Nat.reducePow, cA, cB, pv, binv, fresh, thenQ, blockQ, retQ, Value.oneCell', Value.cells, undef, Nat.mul_one, mBox, modV, cS, fltV, g2_5, g2_11]
  refine callV_ret (fun w hw => awake_any w) ?_
  try simp -implicitDefEqProofs (disch := first | omega | decide) only [seval, -Int.reducePow, -Nat.reducePow, cA, cB, pv, binv, fresh, thenQ, blockQ, retQ, Value.oneCell', Value.cells, undef, Nat.mul_one, mBox, modV, cS, fltV, g2_5, g2_11]
  rw [hmV]
  refine callV_ret (fun w hw => mcheck_any m w (hM.at hw)) ?_
  try simp -implicitDefEqProofs (disch := first | omega | decide) only [seval, -Int.reducePow, -Nat.reducePow, cA, cB, pv, binv, fresh, thenQ, blockQ, retQ, Value.oneCell', Value.cells, undef, Nat.mul_one, mBox, modV, cS, fltV, g2_5, g2_11]
  refine callV_ret (fun w hw => rmcheck_any m w (hM.at hw)) ?_
  try simp -implicitDefEqProofs (disch := first | omega | decide) only [seval, -Int.reducePow, -Nat.reducePow, cA, cB, pv, binv, fresh, thenQ, blockQ, retQ, Value.oneCell', Value.cells, undef, Nat.mul_one, mBox, modV, cS, fltV, g2_5, g2_11]
  rw [show (Value.agg #[.slice k2.TA k2.tn k2.tc, .slice k2.FA k2.fn k2.fc]) = modV k2 from rfl]
  refine callV_ret (fun w hw => mcheck_any k2 w (hkv.at hw 0 rfl)) ?_
  try simp -implicitDefEqProofs (disch := first | omega | decide) only [seval, -Int.reducePow, -Nat.reducePow, cA, cB, pv, binv, fresh, thenQ, blockQ, retQ, Value.oneCell', Value.cells, undef, Nat.mul_one, mBox, modV, cS, fltV, g2_5, g2_11]
  refine callV_ret (fun w hw => rmcheck_any k2 w (hkv.at hw 0 rfl)) ?_
  try simp -implicitDefEqProofs (disch := first | omega | decide) only [seval, -Int.reducePow, -Nat.reducePow, cA, cB, pv, binv, fresh, thenQ, blockQ, retQ, Value.oneCell', Value.cells, undef, Nat.mul_one, mBox, modV, cS, fltV, g2_5, g2_11]
  refine hK _ _ ?_
  clear hK K
  refine cv_ret ⟨_, (by simp -implicitDefEqProofs (disch := first | omega | decide) only [seval, -Int.reducePow, -Nat.reducePow, cA, cB, pv, binv, fresh, thenQ, blockQ, retQ, Value.oneCell', Value.cells, undef, Nat.mul_one, mBox, modV, cS, fltV, g2_5, g2_11]; rfl), fun w hw => ?_⟩
  exact ⟨rfl, hw.below⟩
set_option maxHeartbeats 8000000 in
theorem mEncode_walk (W : World) (m : ModR) (hM : Mod W W.heap.size m) (B : Option Addr) (k d : Nat) (l : List Nat) (hU : Sl W W.heap.size 1 B k d (u16c l)) (hl : ∀ x ∈ l, x < 65536)
    (what : Int) (hwh : 0 ≤ what ∧ what ≤ 255) (pos : Int) (hpos : 0 ≤ pos ∧ pos ≤ 255) (nn : Int) (hnn : -9223372036854775808 ≤ nn ∧ nn ≤ 9223372036854775807) :
    Calls Try.prog 4 #[modV m, .slice B k d, .int .u8 what, .int .u8 pos, .int .i64 nn] W fun e w' => e = .returned (.bool true) ∧ Below W.heap.size W w' := by
  obtain ⟨wh, rfl⟩ : ∃ x : Nat, what = (x : Int) := ⟨what.toNat, by omega⟩
  obtain ⟨p, rfl⟩ : ∃ x : Nat, pos = (x : Int) := ⟨pos.toNat, by omega⟩
  have hkV2 : ∀ k2 : ModR, (Value.agg #[.slice k2.TA k2.tn k2.tc, .slice k2.FA k2.fn k2.fc]) = modV k2 := fun _ => rfl
  have hmV : (Value.agg #[.slice m.TA m.tn m.tc, .slice m.FA m.fn m.fc]) = modV m := rfl
  refine calls_cv (M := []) (n := 75) [.tmp 10] rfl Try.func4 rfl rfl (Nat.le_of_ble_eq_true rfl) (St.nil _ _) ?_
  refine cv_seq_k fun K hK => ?_
  refine cv_region_then rfl ?_
  simp -implicitDefEqProofs (disch := first | omega | decide) only [seval, -Int.reducePow, -Nat.reducePow, cA, cB, pv, binv, fresh, thenQ, blockQ, retQ, Value.oneCell', Value.cells, undef, Nat.mul_one, mBox, modV, cS, fltV]
  intro b5 hb5
  refine hK _ _ ?_
  clear hK K
  refine cv_seq_k fun K hK => ?_
  refine cv_seq_k fun K hK => ?_
  refine cv_region_then rfl ?_
  simp -implicitDefEqProofs (disch := first | omega | decide) only [seval, -Int.reducePow, -Nat.reducePow, cA, cB, pv, binv, fresh, thenQ, blockQ, retQ, Value.oneCell', Value.cells, undef, Nat.mul_one, mBox, modV, cS, fltV]
  rw [hmV]
  refine callV_ex (fun r : Bool => .bool r) (fun _ => True) (fun w hw => few_ex m w (hM.at hw)) ?_
  intro r _
  cases r
  · simp -implicitDefEqProofs (disch := first | omega | decide) only [seval, -Int.reducePow, -Nat.reducePow, cA, cB, pv, binv, fresh, thenQ, blockQ, retQ, Value.oneCell', Value.cells, undef, Nat.mul_one, mBox, modV, cS, fltV]
    refine hK _ _ ?_
    clear hK K
    refine cv_cond ?_
    simp -implicitDefEqProofs (disch := first | omega | decide) only [seval, -Int.reducePow, -Nat.reducePow, cA, cB, pv, binv, fresh, thenQ, blockQ, retQ, Value.oneCell', Value.cells, undef, Nat.mul_one, mBox, modV, cS, fltV]
    refine cv_seq_k fun K hK => ?_
    refine cv_region_then rfl ?_
    simp -implicitDefEqProofs (disch := first | omega | decide) only [seval, -Int.reducePow, -Nat.reducePow, cA, cB, pv, binv, fresh, thenQ, blockQ, retQ, Value.oneCell', Value.cells, undef, Nat.mul_one, mBox, modV, cS, fltV]
    refine callV_ret (fun w hw => awake_any w) ?_
    try simp -implicitDefEqProofs (disch := first | omega | decide) only [seval, -Int.reducePow, -Nat.reducePow, cA, cB, pv, binv, fresh, thenQ, blockQ, retQ, Value.oneCell', Value.cells, undef, Nat.mul_one, mBox, modV, cS, fltV]
    refine hK _ _ ?_
    clear hK K
    refine cv_ret ⟨_, (by simp -implicitDefEqProofs (disch := first | omega | decide) only [seval, -Int.reducePow, -Nat.reducePow, cA, cB, pv, binv, fresh, thenQ, blockQ, retQ, Value.oneCell', Value.cells, undef, Nat.mul_one, mBox, modV, cS, fltV]; rfl), fun w hw => ?_⟩
    exact ⟨rfl, hw.below⟩
  simp -implicitDefEqProofs (disch := first | omega | decide) only [seval, -Int.reducePow, -Nat.reducePow, cA, cB, pv, binv, fresh, thenQ, blockQ, retQ, Value.oneCell', Value.cells, undef, Nat.mul_one, mBox, modV, cS, fltV]
  refine hK _ _ ?_
  clear hK K
  refine cv_cond ?_
  simp -implicitDefEqProofs (disch := first | omega | decide) only [seval, -Int.reducePow, -Nat.reducePow, cA, cB, pv, binv, fresh, thenQ, blockQ, retQ, Value.oneCell', Value.cells, undef, Nat.mul_one, mBox, modV, cS, fltV]
  refine cv_skip ?_
  try simp only [blockQ, thenQ]
  refine hK _ _ ?_
  clear hK K
  refine cv_gen fun G3 hG => ?_
  have g3_1 := congrFun hG 1
  have g3_2 := congrFun hG 2
  have g3_3 := congrFun hG 3
  have g3_4 := congrFun hG 4
  have g3_5 := congrFun hG 5
  clear hG
  try simp -implicitDefEqProofs (disch := first | omega | decide) only [seval, -Int.reducePow, -Nat.reducePow, cA, cB, pv, binv, fresh, thenQ, blockQ, retQ, Value.oneCell', Value.cells, undef, Nat.mul_one, mBox, modV, cS, fltV] at g3_1 g3_2 g3_3 g3_4 g3_5
  refine cv_seq_k fun K hK => ?_
  refine cv_region_then rfl ?_
  simp -implicitDefEqProofs (disch := first | omega | decide) only [seval, -Int.reducePow, -Nat.reducePow, cA, cB, pv, binv, fresh, thenQ, blockQ, retQ, Value.oneCell', Value.cells, undef, Nat.mul_one, mBox, modV, cS, fltV, g3_1, g3_2, g3_3, g3_4, g3_5]
  refine callV_nest modV (fun k w w' => ModD w' (Nw w w') k ∧ Good k) (fun w hw => made_any B k d l w (hU.at hw) hl) ?_
  intro k1 w0 w1 f1 hw0 hw1 ⟨hk, hg⟩ hNw
  have hk1 : ModD w1 (fun y => y ∈ f1) k1 := hk.mono hNw
  simp -implicitDefEqProofs (disch := first | omega | decide) only [seval, -Int.reducePow, -Nat.reducePow, cA, cB, pv, binv, fresh, thenQ, blockQ, retQ, Value.oneCell', Value.cells, undef, Nat.mul_one, mBox, modV, cS, fltV, g3_1, g3_2, g3_3, g3_4, g3_5]
  rw [show (Value.agg #[.slice k1.TA k1.tn k1.tc, .slice k1.FA k1.fn k1.fc]) = modV k1 from rfl]
  refine callV_nest modV (fun k w w' => ModD w' (fun y => y ∈ f1 ∨ Nw w w' y) k) (fun w hw => spoil_any k1 (fun y => y ∈ f1) wh p nn w (hk1.same (fun y hy => hw.snap_same (.head _) y (.inl hy)) fun _ h => h) (fun y hy => hw.snap_lt (.head _) y (.inl hy)) hg (by omega) (by omega) hnn) ?_
  intro k2 w2 w3 f2 hw2 hw3 hk2 hNw2
  have hold : ∀ y, y ∈ f1 → w3.heap[y]? = w1.heap[y]? := fun y hy => hw3.snap_same (.tail _ (.head _)) y (.inl hy)
  simp -implicitDefEqProofs (disch := first | omega | decide) only [seval, -Int.reducePow, -Nat.reducePow, cA, cB, pv, binv, fresh, thenQ, blockQ, retQ, Value.oneCell', Value.cells, undef, Nat.mul_one, mBox, modV, cS, fltV, g3_1, g3_2, g3_3, g3_4, g3_5]
  intro b11 hb11 h11
  refine hK _ _ ?_
  clear hK K
  refine cv_gen fun G4 hG => ?_
  have g4_5 := congrFun hG 5
  have g4_11 := congrFun hG 11
  clear hG
  try simp -implicitDefEqProofs (disch := first | omega | decide) only [seval, -Int.reducePow, -Nat.reducePow, cA, cB, pv, binv, fresh, thenQ, blockQ, retQ, Value.oneCell', Value.cells, undef, Nat.mul_one, mBox, modV, cS, fltV, g3_1, g3_2, g3_3, g3_4, g3_5] at g4_5 g4_11
  refine cv_snap [0, 3] (by decide) fun v f hv hf => ?_
  simp only [pickL, nth]
  obtain ⟨m1, -⟩ := hv.snapK hf 1 rfl (by decide) (by simp)
  have m3 := hv.footK hf (k := 1) rfl (by decide) (by simp)
  obtain ⟨n1, -⟩ := hv.snapK hf 2 rfl (by decide) (by simp)
  have n3 := hv.footK hf (k := 2) rfl (by decide) (by simp)
  simp only [snap_foot] at m3 n3
  have hkv : ModD v (Dm [] W f) k2 := hk2.same (fun y hy => by
    rcases hy with hy | hy
    · exact (n1 y (.inl hy)).trans (hold y hy).symm
    · exact m1 y (.inl (hNw2 y hy))) fun y hy => .inl (hy.elim (n3 y) fun h => m3 y (hNw2 y h))
  refine cv_seq_k fun K hK => ?_
  refine cv_region_then rfl ?_
  simp -implicitDefEqProofs (disch := first | omega | decide) only [seval, -Int.reducePow, -Nat.reducePow, cA, cB, pv, binv, fresh, thenQ, blockQ, retQ, Value.oneCell', Value.cells, undef, Nat.mul_one, mBox, modV, cS, fltV, g4_5, g4_11]
  rw [hmV]
  refine callV_row (fun A n c => .tuple #[.slice A n c, .int .i64 (errM m)]) (fun w hw => menc_any m w (hM.at hw)) ?_
  intro A1 n1 c1 hl1 hr1
  simp -implicitDefEqProofs (disch := first | omega | decide) only [seval, -Int.reducePow, -Nat.reducePow, cA, cB, pv, binv, fresh, thenQ, blockQ, retQ, Value.oneCell', Value.cells, undef, Nat.mul_one, mBox, modV, cS, fltV, g4_5, g4_11]
  refine hK _ _ ?_
  clear hK K
  refine cv_seq_k fun K hK => ?_
  refine cv_region_then rfl ?_
  simp -implicitDefEqProofs (disch := first | omega | decide) only [seval, -Int.reducePow, -Nat.reducePow, cA, cB, pv, binv, fresh, thenQ, blockQ, retQ, Value.oneCell', Value.cells, undef, Nat.mul_one, mBox, modV, cS, fltV, g4_5, g4_11]
  rw [hmV]
  refine callV_row (fun A n c => .tuple #[.slice A n c, .int .i64 (errM m)]) (fun w hw => rmenc_any m w (hM.at hw)) ?_
  intro A2 n2 c2 hl2 hr2
  simp -implicitDefEqProofs (disch := first | omega | decide) only [seval, -Int.reducePow, -Nat.reducePow, cA, cB, pv, binv, fresh, thenQ, blockQ, retQ, Value.oneCell', Value.cells, undef, Nat.mul_one, mBox, modV, cS, fltV, g4_5, g4_11]
  refine hK _ _ ?_
  clear hK K
  refine cv_seq_k fun K hK => ?_
  refine cv_region_then rfl ?_
  simp -implicitDefEqProofs (disch := first | omega | decide) only [seval, -Int.reducePow, -Nat.reducePow, cA, cB, pv, binv, fresh, thenQ, blockQ, retQ, Value.oneCell', Value.cells, undef, Nat.mul_one, mBox, modV, cS, fltV, g4_5, g4_11]
  rw [hkV2]
  refine callV_row (fun A n c => .tuple #[.slice A n c, .int .i64 (errM k2)]) (fun w hw => menc_any k2 w (hkv.at hw 2 rfl)) ?_
  intro A3 n3 c3 hl3 hr3
  simp -implicitDefEqProofs (disch := first | omega | decide) only [seval, -Int.reducePow, -Nat.reducePow, cA, cB, pv, binv, fresh, thenQ, blockQ, retQ, Value.oneCell', Value.cells, undef, Nat.mul_one, mBox, modV, cS, fltV, g4_5, g4_11]
  refine hK _ _ ?_
  clear hK K
  refine cv_seq_k fun K hK => ?_
  refine cv_region_then rfl ?_
  simp -implicitDefEqProofs (disch := first | omega | decide) only [seval, -Int.reducePow, -Nat.reducePow, cA, cB, pv, binv, fresh, thenQ, blockQ, retQ, Value.oneCell', Value.cells, undef, Nat.mul_one, mBox, modV, cS, fltV, g4_5, g4_11]
  rw [hkV2]
  refine callV_row (fun A n c => .tuple #[.slice A n c, .int .i64 (errM k2)]) (fun w hw => rmenc_any k2 w (hkv.at hw 3 rfl)) ?_
  intro A4 n4 c4 hl4 hr4
  simp -implicitDefEqProofs (disch := first | omega | decide) only [seval, -Int.reducePow, -Nat.reducePow, cA, cB, pv, binv, fresh, thenQ, blockQ, retQ, Value.oneCell', Value.cells, undef, Nat.mul_one, mBox, modV, cS, fltV, g4_5, g4_11]
  refine hK _ _ ?_
  clear hK K
  refine cv_gen fun G5 hG => ?_
  have g5_12 := congrFun hG 12
  have g5_13 := congrFun hG 13
  have g5_14 := congrFun hG 14
  have g5_15 := congrFun hG 15
  have g5_16 := congrFun hG 16
  have g5_17 := congrFun hG 17
  have g5_18 := congrFun hG 18
  have g5_19 := congrFun hG 19
  clear hG
  try simp -implicitDefEqProofs (disch := first | omega | decide) only [seval, -Int.reducePow, -Nat.reducePow, cA, cB, pv, binv, fresh, thenQ, blockQ, retQ, Value.oneCell', Value.cells, undef, Nat.mul_one, mBox, modV, cS, fltV, g4_5, g4_11] at g5_12 g5_13 g5_14 g5_15 g5_16 g5_17 g5_18 g5_19
  refine cv_seq_k fun K hK => ?_
  refine cv_region_then rfl ?_
  simp -implicitDefEqProofs (disch := first | omega | decide) only [seval, -Int.reducePow, -Nat.reducePow, cA, cB, pv, binv, fresh, thenQ, blockQ, retQ, Value.oneCell', Value.cells, undef, Nat.mul_one, mBox, modV, cS, fltV, g5_12, g5_13, g5_14, g5_15, g5_16, g5_17, g5_18, g5_19]
  refine callV_ret (fun w hw => awake_any w) ?_
  try simp -implicitDefEqProofs (disch := first | omega | decide) only [seval, -Int.reducePow, -Nat.reducePow, cA, cB, pv, binv, fresh, thenQ, blockQ, retQ, Value.oneCell', Value.cells, undef, Nat.mul_one, mBox, modV, cS, fltV, g5_12, g5_13, g5_14, g5_15, g5_16, g5_17, g5_18, g5_19]
  refine ⟨_, fun w hw => hw.strk 3 rfl, fun tok htok => ?_⟩
  subst htok
  simp -implicitDefEqProofs (disch := first | omega | decide) only [seval, -Int.reducePow, -Nat.reducePow, cA, cB, pv, binv, fresh, thenQ, blockQ, retQ, Value.oneCell', Value.cells, undef, Nat.mul_one, mBox, modV, cS, fltV, g5_12, g5_13, g5_14, g5_15, g5_16, g5_17, g5_18, g5_19]
  refine ⟨_, fun w hw => hw.strk 2 rfl, fun tok htok => ?_⟩
  subst htok
  simp -implicitDefEqProofs (disch := first | omega | decide) only [seval, -Int.reducePow, -Nat.reducePow, cA, cB, pv, binv, fresh, thenQ, blockQ, retQ, Value.oneCell', Value.cells, undef, Nat.mul_one, mBox, modV, cS, fltV, g5_12, g5_13, g5_14, g5_15, g5_16, g5_17, g5_18, g5_19]
  refine ⟨_, fun w hw => hw.strk 1 rfl, fun tok htok => ?_⟩
  subst htok
  simp -implicitDefEqProofs (disch := first | omega | decide) only [seval, -Int.reducePow, -Nat.reducePow, cA, cB, pv, binv, fresh, thenQ, blockQ, retQ, Value.oneCell', Value.cells, undef, Nat.mul_one, mBox, modV, cS, fltV, g5_12, g5_13, g5_14, g5_15, g5_16, g5_17, g5_18, g5_19]
  refine ⟨_, fun w hw => hw.strk 0 rfl, fun tok htok => ?_⟩
  subst htok
  simp -implicitDefEqProofs (disch := first | omega | decide) only [seval, -Int.reducePow, -Nat.reducePow, cA, cB, pv, binv, fresh, thenQ, blockQ, retQ, Value.oneCell', Value.cells, undef, Nat.mul_one, mBox, modV, cS, fltV, g5_12, g5_13, g5_14, g5_15, g5_16, g5_17, g5_18, g5_19]
  refine hK _ _ ?_
  clear hK K
  refine cv_ret ⟨_, (by simp -implicitDefEqProofs (disch := first | omega | decide) only [seval, -Int.reducePow, -Nat.reducePow, cA, cB, pv, binv, fresh, thenQ, blockQ, retQ, Value.oneCell', Value.cells, undef, Nat.mul_one, mBox, modV, cS, fltV, g5_12, g5_13, g5_14, g5_15, g5_16, g5_17, g5_18, g5_19]; rfl), fun w hw => ?_⟩
  exact ⟨rfl, hw.below⟩
end Go.Proofs.Ytehfnjaompkikaa
