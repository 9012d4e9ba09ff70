/- The law FlowMade, walked. -/
import Derived.Test.YthlhjljgpohgbaaFlAw
import Derived.Test.YthlhjljgpohgbaaMore
namespace Go.Proofs.Ythlhjljgpohgbaa
open Go.RowKit Go.Shelf
set_option linter.unusedVariables false
set_option linter.unusedSimpArgs false
set_option maxRecDepth 100000
theorem cl_put : ∀ {l : List Ins} {k : Nat} {y : Ins}, k < l.length → List.take (k * 2) (cl insc l) ++ insc y ++ List.drop (k * 2 + 2) (cl insc l) = cl insc (l.set k y)
  | [], k, y, h => by simp at h
  | a :: l, 0, y, h => by
    show List.take 0 (insc a ++ cl insc l) ++ insc y ++ List.drop 2 (insc a ++ cl insc l) = insc y ++ cl insc l
    rw [List.drop_append]
    simp [insc_len]
  | a :: l, k + 1, y, h => by
    have ih := cl_put (l := l) (k := k) (y := y) (by simpa using h)
    show List.take ((k + 1) * 2) (insc a ++ cl insc l) ++ insc y ++ List.drop ((k + 1) * 2 + 2) (insc a ++ cl insc l) = insc a ++ cl insc (l.set k y)
    rw [← ih, show (k + 1) * 2 = 2 + k * 2 by omega, List.take_append, List.drop_append, insc_len]
    rw [List.take_of_length_le (by rw [insc_len]; omega), List.drop_of_length_le (by rw [insc_len]; omega)]
    simp
    omega
theorem cv_snapNe {P : Program} {W v : World} {L : List Res} {foot : List Nat} {n x : Nat} {c : Code} {F : Fr} {Q : Exit → Fr → List Res → Prop} (k : Nat) (hk : nth L k = some (snap [] W v foot)) (hx : Dm [] W foot x) (h : neB (L.eraseIdx k) x → CV P [] W n c F L Q) : CV P [] W n c F L Q := fun a w ha hw => by
  refine h (neB_of fun r hr hxr => ?_) a w ha hw
  have hp := hw.perm (perm_erase hk).symm
  rcases hx with hx | hx
  · exact (List.pairwise_cons.1 hp.apart).1 r hr x (by simpa [snap_foot] using hx) hxr
  · have := (hp.own r (.tail _ hr) x hxr).1
    simp at this
    omega
theorem flFew_ex (m : ModR) (W : World) (hM : Mod W W.heap.size m) : Calls Try.prog 16 #[.agg #[.slice m.TA m.tn m.tc, .slice m.FA m.fn m.fc]] W fun e w' => (∃ r : Bool, e = .returned (.bool r) ∧ True) ∧ Below W.heap.size W w' :=
  (flFew_any m W hM).mono (by rintro e w' ⟨r, h1, -, h2⟩; exact ⟨⟨r, h1, trivial⟩, h2⟩)
theorem modV_eq (m : ModR) : (Value.agg #[.slice m.TA m.tn m.tc, .slice m.FA m.fn m.fc]) = modV m := rfl
set_option maxRecDepth 100000 in
theorem sFlLMade1 : type_of% (And.intro (And.intro (And.intro @iBox.eq_1 @mBox.eq_1) (And.intro @modV.eq_1 (And.intro @insV.eq_1 @tape.eq_1))) (And.intro (And.intro @tpBox.eq_1 @Nat.mul_one) (And.intro @cS (And.intro @cM @wrap_in)))) := (And.intro (And.intro (And.intro @iBox.eq_1 @mBox.eq_1) (And.intro @modV.eq_1 (And.intro @insV.eq_1 @tape.eq_1))) (And.intro (And.intro @tpBox.eq_1 @Nat.mul_one) (And.intro @cS (And.intro @cM @wrap_in))))
set_option maxHeartbeats 4000000 in
theorem fMade_walk (W : World) (B : Option Addr) (m d : Nat) (l : List Nat) (hU : Sl W W.heap.size 1 B m d (u16c l)) (hl : ∀ x ∈ l, x < 65536) (kk : Int) (hkk : 0 ≤ kk ∧ kk ≤ 255) (y : Ins) (hy : y.arg < 18446744073709551616) (raw : ModR) (hR : Mod W W.heap.size raw)
    (f : Int) (hf : -9223372036854775808 ≤ f ∧ f ≤ 9223372036854775807) (at' : Int) (hat : -9223372036854775808 ≤ at' ∧ at' ≤ 9223372036854775807) :
    Calls Try.prog 6 #[.slice B m d, .int .u8 kk, insV y, modV raw, .int .i64 f, .int .i64 at'] W fun e w' => e = .returned (.bool true) ∧ Below W.heap.size W w' := by
  have hl60 : ∀ x ∈ l.take 60, x < 65536 := fun x hx => hl x (List.mem_of_mem_take hx)
  obtain ⟨kn, rfl⟩ : ∃ x : Nat, kk = (x : Int) := ⟨kk.toNat, by omega⟩
  refine calls_cv (M := []) (n := 80) [.tmp 12] rfl Try.func6 rfl rfl (Nat.le_of_ble_eq_true rfl) (St.nil _ _) ?_
  refine cv_seq_k fun K hK => ?_
  refine cv_region_then rfl ?_
  simp -implicitDefEqProofs (disch := first | omega | decide) only [seval, -Int.reducePow, -Nat.reducePow, cC, pv, binv, sFlLMade1, undef]
  intro b8 hb8 b9 hb9 hf9
  refine hK _ _ ?_
  clear hK K
  refine cv_seq_k fun K hK => ?_
  refine cv_seq_k fun K hK => ?_
  refine cv_region_then rfl ?_
  simp -implicitDefEqProofs (disch := first | omega | decide) only [seval, -Int.reducePow, -Nat.reducePow, cC, pv, binv, sFlLMade1, undef]
  refine callV_ex (fun r : Bool => .bool r) (fun _ => True) (fun w hw => flFew_ex raw w (hR.at hw)) ?_
  intro r _
  simp -implicitDefEqProofs (disch := first | omega | decide) only [seval, -Int.reducePow, -Nat.reducePow, cC, pv, binv, sFlLMade1, undef]
  refine hK _ _ ?_
  clear hK K
  refine cv_gen fun G1 hG => ?_
  have g1_0 := congrFun hG 0
  have g1_1 := congrFun hG 1
  have g1_4 := congrFun hG 4
  have g1_5 := congrFun hG 5
  have g1_8 := congrFun hG 8
  have g1_9 := congrFun hG 9
  have g1_18 := congrFun hG 18
  clear hG
  try simp -implicitDefEqProofs (disch := first | omega | decide) only [seval, -Int.reducePow, -Nat.reducePow, cC, pv, binv, sFlLMade1, undef] at g1_0 g1_1 g1_4 g1_5 g1_8 g1_9 g1_18
  have g1 := And.intro g1_0 (And.intro g1_1 (And.intro g1_4 (And.intro g1_5 (And.intro g1_8 (And.intro g1_9 g1_18)))))
  refine cv_cond ?_
  simp -implicitDefEqProofs (disch := first | omega | decide) only [seval, -Int.reducePow, -Nat.reducePow, cC, pv, binv, sFlLMade1, undef, g1]
  refine ⟨fun hc => ?_, fun hc => ?_⟩
  · refine cv_seq_k fun K hK => ?_
    refine cv_region_then rfl ?_
    simp -implicitDefEqProofs (disch := first | omega | decide) only [seval, -Int.reducePow, -Nat.reducePow, cC, pv, binv, sFlLMade1, undef, g1]
    refine callV_ret (fun w hw => flAwake_any w) ?_
    try simp -implicitDefEqProofs (disch := first | omega | decide) only [seval, -Int.reducePow, -Nat.reducePow, cC, pv, binv, sFlLMade1, undef, g1]
    refine hK _ _ ?_
    clear hK K
    refine cv_ret ⟨_, (by simp -implicitDefEqProofs (disch := first | omega | decide) only [seval, -Int.reducePow, -Nat.reducePow, cC, pv, binv, sFlLMade1, undef, g1]; rfl), fun w hw => ?_⟩
    exact ⟨rfl, hw.below⟩
  refine cv_skip ?_
  try simp only [blockQ, thenQ]
  refine hK _ _ ?_
  clear hK K
  refine cv_seq_k fun K hK => ?_
  refine cv_region_then rfl ?_
  simp -implicitDefEqProofs (disch := first | omega | decide) only [seval, -Int.reducePow, -Nat.reducePow, cC, pv, binv, sFlLMade1, undef, g1]
  refine callV_boxRow (fun w hw => of_any B m d l 60 w (hU.at hw) (by omega)) ?_
  intro b4 A2 n2 c2 hl2 hb4 hf4 hr2
  simp -implicitDefEqProofs (disch := first | omega | decide) only [seval, -Int.reducePow, -Nat.reducePow, cC, pv, binv, sFlLMade1, undef, g1] at hf4
  simp -implicitDefEqProofs (disch := first | omega | decide) only [seval, -Int.reducePow, -Nat.reducePow, cC, pv, binv, sFlLMade1, undef, g1]
  refine callV_nestM 1 (fun p : ModR × Nat => modV p.1) (fun p w w' => ModD w' (Nw w w') p.1 ∧ Good p.1) (fun p => tape A2 n2 c2 p.2) rfl (fun w hw => module_any b4 A2 n2 c2 (l.take 60) 0 10 w (hw.hold 1 rfl) (hw.slr 0 rfl) (fun _ => hr2.apt) hl60 (by omega) (by omega)) ?_
  rintro ⟨k, j⟩ w0 w1 f1 hw0 hw1 ⟨hk, hg⟩ hNw
  dsimp only at *
  simp -implicitDefEqProofs (disch := first | omega | decide) only [seval, -Int.reducePow, -Nat.reducePow, cC, pv, binv, sFlLMade1, undef, g1]
  have hkD : ModD w1 (Dm [] W f1) k := hk.mono fun y hy => .inl (hNw y hy)
  have hg1 := hg.g1
  have hg2 := hg.g2
  have hg0 := hg.gs 0
  have hlg : k.gs.length = k.fn := cl_row fnc_len (by omega) hkD.gs.len
  clear hk hg
  obtain ⟨TA, tn, tc, ts, FA, fn, fc, gs⟩ := k
  dsimp only at hg1 hg2 hlg
  obtain ⟨g0, gr, rfl⟩ : ∃ g r, gs = g :: r := by
    cases gs with
    | nil => simp at hg1
    | cons g r => exact ⟨g, r, rfl⟩
  obtain ⟨-, -, hc1, hc2, hok⟩ := hg0 g0 rfl
  have hD0 := hkD.fn g0 (by simp)
  have hcn : g0.code.length = g0.n := cl_row insc_len (by omega) hD0.len
  obtain ⟨bF, oF, hFA, hbF, -⟩ := hkD.gs.cells (by simp at hlg; dsimp only; omega)
  dsimp only at hFA
  subst hFA
  intro b13 hb13 hf13
  refine hK _ _ ?_
  clear hK K
  refine cv_pick [1, 0, 4, 5] (by decide) ?_
  simp only [pickL, nth]
  refine cv_gen fun G2 hG => ?_
  have g2_1 := congrFun hG 1
  have g2_4 := congrFun hG 4
  have g2_5 := congrFun hG 5
  have g2_8 := congrFun hG 8
  have g2_9 := congrFun hG 9
  have g2_13 := congrFun hG 13
  clear hG
  try simp -implicitDefEqProofs (disch := first | omega | decide) only [seval, -Int.reducePow, -Nat.reducePow, cC, pv, binv, sFlLMade1, undef, g1] at g2_1 g2_4 g2_5 g2_8 g2_9 g2_13
  have g2 := And.intro g2_1 (And.intro g2_4 (And.intro g2_5 (And.intro g2_8 (And.intro g2_9 g2_13))))
  obtain ⟨z, hz⟩ : ∃ z : Nat, (kn : Int) % (g0.n : Int) = (z : Int) := ⟨kn % g0.n, by rw [Int.natCast_emod]⟩
  have hzn : z < g0.n := by
    have := Int.emod_lt_of_pos (kn : Int) (show (0 : Int) < g0.n by omega)
    omega
  have hfn1 : 1 ≤ fn ∧ fn ≤ 2 := by omega
  refine cv_snapNe 0 rfl hbF fun hne => ?_
  simp only [List.eraseIdx_cons_zero, List.eraseIdx_cons_succ, neB_nil, neB_blk, neB_row, neB_snap, and_true, sFlLMade1, undef] at hne
  refine cv_seq_k fun K hK => ?_
  refine cv_region_then rfl ?_
  simp -implicitDefEqProofs (disch := first | omega | decide) only [seval, -Int.reducePow, -Nat.reducePow, cC, pv, binv, sFlLMade1, undef, g2]
  refine ⟨_, hkD.gs.ld1 (m := 1) (i := 3) 0 rfl (by kernel_rfl) rfl, fun tok htok => ?_⟩
  subst htok
  simp -implicitDefEqProofs (disch := first | omega | decide) only [seval, -Int.reducePow, -Nat.reducePow, cC, pv, binv, sFlLMade1, undef, g2]
  simp -implicitDefEqProofs (disch := first | omega | decide) only [seval, -Int.reducePow, -Nat.reducePow, cC, pv, binv, sFlLMade1, undef, hz, g2]
  refine hK _ _ ?_
  clear hK K
  refine cv_gen fun G3 hG => ?_
  have g3_4 := congrFun hG 4
  have g3_5 := congrFun hG 5
  have g3_8 := congrFun hG 8
  have g3_9 := congrFun hG 9
  have g3_13 := congrFun hG 13
  have g3_14 := congrFun hG 14
  clear hG
  try simp -implicitDefEqProofs (disch := first | omega | decide) only [seval, -Int.reducePow, -Nat.reducePow, cC, pv, binv, sFlLMade1, undef, hz, g2] at g3_4 g3_5 g3_8 g3_9 g3_13 g3_14
  have g3 := And.intro g3_4 (And.intro g3_5 (And.intro g3_8 (And.intro g3_9 (And.intro g3_13 g3_14))))
  refine cv_seq_k fun K hK => ?_
  refine cv_cut (fun _ _ => True) (fun F' L' => ∃ (A7 : Option Addr) (c7 b15 : Nat), F' 4 = G3 4 ∧ F' 5 = G3 5 ∧ F' 8 = G3 8 ∧ F' 9 = G3 9 ∧ F' 13 = G3 13 ∧ F' 14 = G3 14 ∧ F' 15 = .pointer (some ⟨b15, 0, none⟩) ∧ L' = [snap [] W w1 f1, .row (.slice A7 fn c7) 49 4 fn (cl fnc (g0 :: gr)), .blk b15 35 [.slice TA tn tc, .slice A7 fn c7], .blk b13 35 [.slice TA tn tc, .slice (some ⟨bF, oF, none⟩) fn fc], .blk b9 35 [.slice raw.TA raw.tn raw.tc, .slice raw.FA raw.fn raw.fc], .blk b8 25 [.int .i64 y.op, .int .u64 (y.arg : Int)]] ∧ W.heap.size ≤ b15 ∧ b8 < b15 ∧ b9 < b15 ∧ b13 < b15) ?_ ?_
  · refine cv_more [1] (by decide) (by simp only [pickL, nth, suf_cons, suf_nil, List.mem_cons, true_or, or_true, and_true, eq_self]) (.rd 0 (.rd 1 (.rd 3 (.rd 4 (.more 2 (.more 5 (.rd 6 (.act 7 (.act 8 (.done)))) (.act 7 (.act 5 (.rd 6 (.act 8 (.done)))))) (.act 7 (.act 2 (.act 5 (.rd 6 (.act 8 (.done))))))))))) [8] mixA rfl (by kernel_rfl) (by kernel_rfl) (by kernel_rfl) (by kernel_rfl) ?_
    simp only [pickL, nth]
    simp -implicitDefEqProofs (disch := first | omega | decide) only [seval, -Int.reducePow, -Nat.reducePow, cC, pv, binv, sFlLMade1, undef, g3]
    repeat' (first
      | refine And.intro ?_ ?_
      | (intro b hb hf; skip)
      | (refine appV_lit 0 tap33 rfl rfl (fun w hw => (hkD.gs.at hw 1 rfl).reads) (cl_ones fnc_ones _) (by omega) (by omega) ?_
         intro A c hl hr
         simp -implicitDefEqProofs (disch := first | omega | decide) only [seval, -Int.reducePow, -Nat.reducePow, cC, pv, binv, sFlLMade1, undef, g3])
      | (refine appV_lit 0 tap33 rfl rfl (fun w hw => (hkD.gs.at hw 2 rfl).reads) (cl_ones fnc_ones _) (by omega) (by omega) ?_
         intro A c hl hr
         simp -implicitDefEqProofs (disch := first | omega | decide) only [seval, -Int.reducePow, -Nat.reducePow, cC, pv, binv, sFlLMade1, undef, g3])
      | (refine appV_lit 1 tap33 rfl rfl (fun w hw => (hkD.gs.at hw 2 rfl).reads) (cl_ones fnc_ones _) (by omega) (by omega) ?_
         intro A c hl hr
         simp -implicitDefEqProofs (disch := first | omega | decide) only [seval, -Int.reducePow, -Nat.reducePow, cC, pv, binv, sFlLMade1, undef, g3]))
    all_goals (first
      | (refine ⟨[2, 1, 0, 3, 4, 5], by decide, _, _, _, rfl, rfl, ?_⟩; omega)
      | (refine ⟨[2, 0, 1, 3, 4, 5], by decide, _, _, _, rfl, rfl, ?_⟩; omega))
  intro G4 L' _ hF
  obtain ⟨A7, c7, b15, q4, q5, q8, q9, q13, q14, q15, rfl, ⟨hb15, h8, h9, h13⟩⟩ := hF
  have g4_4 := q4.trans g3_4
  have g4_5 := q5.trans g3_5
  have g4_8 := q8.trans g3_8
  have g4_9 := q9.trans g3_9
  have g4_13 := q13.trans g3_13
  have g4_14 := q14.trans g3_14
  have g4_15 := q15
  clear q4 q5 q8 q9 q13 q14 q15
  have g4 := And.intro g4_4 (And.intro g4_5 (And.intro g4_8 (And.intro g4_9 (And.intro g4_13 (And.intro g4_14 g4_15)))))
  refine hK _ _ ?_
  clear hK K
  refine cv_rowA 1 rfl (by omega) fun gF hAA hgF hNN => ?_
  subst hAA
  simp only [List.eraseIdx_cons_zero, List.eraseIdx_cons_succ, neB_nil, neB_blk, neB_row, neB_snap, and_true, List.not_mem_nil, or_false] at hNN hgF
  replace hgF := And.intro hgF hNN
  clear hNN
  refine cv_snapNe 0 rfl hbF fun hne2 => ?_
  simp only [List.eraseIdx_cons_zero, List.eraseIdx_cons_succ, neB_nil, neB_blk, neB_row, neB_snap, and_true, sFlLMade1, undef] at hne2
  refine cv_seq_k fun K hK => ?_
  refine cv_draw_of (pickL [0, 1, 2, 3] _) (fun w hw => hw.pick (by decide)) (by simp only [pickL, nth, suf_cons, suf_nil, List.mem_cons, true_or, or_true, and_true, eq_self]) [(true, 0), (true, 1), (true, 3), (true, 4), (true, 5), (true, 6), (true, 7), (false, 2), (false, 8), (true, 9), (true, 10), (false, 11)] [11] mixA rfl (by kernel_rfl) (by kernel_rfl) rfl rfl ?_
  simp -implicitDefEqProofs (disch := first | omega | decide) only [seval, -Int.reducePow, -Nat.reducePow, cC, pv, binv, sFlLMade1, undef, g4]
  refine ⟨_, hkD.gs.ld1 (m := 1) (i := 3) 0 rfl (by kernel_rfl) rfl, fun tok htok => ?_⟩
  subst htok
  simp -implicitDefEqProofs (disch := first | omega | decide) only [seval, -Int.reducePow, -Nat.reducePow, cC, pv, binv, sFlLMade1, undef, g4]
  intro b41 hb41 hf41
  refine appV_lit 0 tap22 rfl rfl (fun w hw => (hD0.at hw 1 rfl).reads) (cl_ones insc_ones _) (by omega) (by omega) ?_
  intro A9 c9 hl9 hr9
  simp -implicitDefEqProofs (disch := first | omega | decide) only [seval, -Int.reducePow, -Nat.reducePow, cC, pv, binv, sFlLMade1, undef, g4]
  refine ⟨_, sv_row 2 rfl (by rw [cl_len fnc_len, List.length_cons]; omega) (by kernel_rfl) rfl rfl, fun tok htok => ?_⟩
  subst htok
  simp -implicitDefEqProofs (disch := first | omega | decide) only [seval, -Int.reducePow, -Nat.reducePow, cC, pv, binv, sFlLMade1, undef, g4]
  rw [show (cl fnc (g0 :: gr)).set 3 (.slice A9 g0.n c9) = cl fnc (⟨g0.p, g0.r, g0.l, A9, g0.n, c9, g0.code⟩ :: gr) from rfl]
  refine hK _ _ ?_
  clear hK K
  refine cv_rowA 0 rfl (by omega) fun gC hAA hgC hNN => ?_
  subst hAA
  simp only [List.eraseIdx_cons_zero, List.eraseIdx_cons_succ, neB_nil, neB_blk, neB_row, neB_snap, and_true, List.not_mem_nil, or_false] at hNN hgC
  replace hgC := And.intro hgC hNN
  clear hNN
  refine cv_snapNe 1 rfl hbF fun hne3 => ?_
  simp only [List.eraseIdx_cons_zero, List.eraseIdx_cons_succ, neB_nil, neB_blk, neB_row, neB_snap, and_true, sFlLMade1, undef] at hne3
  refine cv_gen fun G5 hG => ?_
  have g5_4 := congrFun hG 4
  have g5_5 := congrFun hG 5
  have g5_8 := congrFun hG 8
  have g5_9 := congrFun hG 9
  have g5_13 := congrFun hG 13
  have g5_14 := congrFun hG 14
  have g5_15 := congrFun hG 15
  clear hG
  try simp -implicitDefEqProofs (disch := first | omega | decide) only [seval, -Int.reducePow, -Nat.reducePow, cC, pv, binv, sFlLMade1, undef, g4] at g5_4 g5_5 g5_8 g5_9 g5_13 g5_14 g5_15
  have g5 := And.intro g5_4 (And.intro g5_5 (And.intro g5_8 (And.intro g5_9 (And.intro g5_13 (And.intro g5_14 g5_15)))))
  refine cv_seq_k fun K hK => ?_
  refine cv_draw_of (pickL [2, 3, 6] _) (fun w hw => hw.pick (by decide)) (by simp only [pickL, nth, suf_cons, suf_nil, List.mem_cons, true_or, or_true, and_true, eq_self]) [(true, 0), (true, 1), (true, 2), (true, 3), (true, 4), (true, 5), (true, 6), (true, 7), (false, 8)] [8] mixA rfl (by kernel_rfl) (by kernel_rfl) rfl rfl ?_
  simp -implicitDefEqProofs (disch := first | omega | decide) only [seval, -Int.reducePow, -Nat.reducePow, cC, pv, binv, sFlLMade1, undef, g5]
  refine ⟨_, ld_row1 (m := 1) (v := .slice (some ⟨gC, 0, none⟩) g0.n c9) (i := 3) (.head _) (by kernel_rfl) rfl, fun tok htok => ?_⟩
  subst htok
  simp -implicitDefEqProofs (disch := first | omega | decide) only [seval, -Int.reducePow, -Nat.reducePow, cC, pv, binv, sFlLMade1, undef, g5]
  have hcl2 : (cl insc g0.code).length = g0.n * 2 := by rw [cl_len insc_len, hcn]
  have hput := cl_put (l := g0.code) (k := z) (y := y) (by omega)
  refine ⟨_, sv_rows 0 (i := z * 2) (vs := insc y) rfl (by rw [hcl2, insc_len]; omega) (by kernel_rfl) rfl, fun tok htok => ?_⟩
  subst htok
  simp -implicitDefEqProofs (disch := first | omega | decide) only [seval, -Int.reducePow, -Nat.reducePow, cC, pv, binv, sFlLMade1, undef, g5]
  rw [insc_len, hput]
  refine hK _ _ ?_
  clear hK K
  refine cv_gen fun G6 hG => ?_
  have g6_4 := congrFun hG 4
  have g6_5 := congrFun hG 5
  have g6_9 := congrFun hG 9
  have g6_13 := congrFun hG 13
  have g6_14 := congrFun hG 14
  have g6_15 := congrFun hG 15
  clear hG
  try simp -implicitDefEqProofs (disch := first | omega | decide) only [seval, -Int.reducePow, -Nat.reducePow, cC, pv, binv, sFlLMade1, undef, g5] at g6_4 g6_5 g6_9 g6_13 g6_14 g6_15
  have g6 := And.intro g6_4 (And.intro g6_5 (And.intro g6_9 (And.intro g6_13 (And.intro g6_14 g6_15))))
  have hnM : ∀ w, St [] W [.row (.slice (some ⟨gC, 0, none⟩) g0.n c9) 25 2 g0.n (cl insc (g0.code.set z y)), snap [] W w1 f1, .row (.slice (some ⟨gF, 0, none⟩) fn c7) 49 4 fn (cl fnc (⟨g0.p, g0.r, g0.l, some ⟨gC, 0, none⟩, g0.n, c9, g0.code⟩ :: gr)), .blk b15 35 [.slice TA tn tc, .slice (some ⟨gF, 0, none⟩) fn c7], .blk b13 35 [.slice TA tn tc, .slice (some ⟨bF, oF, none⟩) fn fc], .blk b9 35 [.slice raw.TA raw.tn raw.tc, .slice raw.FA raw.fn raw.fc], .blk b8 25 [.int .i64 y.op, .int .u64 (y.arg : Int)]] w →
      Mod w w.heap.size ⟨TA, tn, tc, ts, some ⟨gF, 0, none⟩, fn, c7, ⟨g0.p, g0.r, g0.l, some ⟨gC, 0, none⟩, g0.n, c9, g0.code.set z y⟩ :: gr⟩ := fun w hw => by
    have h1 := hkD.at hw 1 rfl
    refine ⟨h1.ts, h1.ty, hw.slr 2 rfl, fun g hg => ?_, fun g hg i hi => ?_⟩
    · rcases List.mem_cons.1 hg with rfl | hg
      · exact hw.slr 0 rfl
      · exact h1.fn g (.tail _ hg)
    · rcases List.mem_cons.1 hg with rfl | hg
      · rcases List.mem_or_eq_of_mem_set hi with hi | rfl
        · exact h1.arg g0 (.head _) i hi
        · exact hy
      · exact h1.arg g (.tail _ hg) i hi
  refine cv_seq_k fun K hK => ?_
  refine cv_region_then rfl ?_
  simp -implicitDefEqProofs (disch := first | omega | decide) only [seval, -Int.reducePow, -Nat.reducePow, cC, pv, binv, sFlLMade1, undef, g6]
  refine callV_ret (fun w hw => flAwake_any w) ?_
  try simp -implicitDefEqProofs (disch := first | omega | decide) only [seval, -Int.reducePow, -Nat.reducePow, cC, pv, binv, sFlLMade1, undef, g6]
  refine callV_ret (fun w hw => same_any ⟨TA, tn, tc, ts, some ⟨bF, oF, none⟩, fn, fc, g0 :: gr⟩ 0 _ w (hkD.at hw 1 rfl)) ?_
  try simp -implicitDefEqProofs (disch := first | omega | decide) only [seval, -Int.reducePow, -Nat.reducePow, cC, pv, binv, sFlLMade1, undef, g6]
  refine callV_ret (fun w hw => same_any ⟨TA, tn, tc, ts, some ⟨bF, oF, none⟩, fn, fc, g0 :: gr⟩ 1 _ w (hkD.at hw 1 rfl)) ?_
  try simp -implicitDefEqProofs (disch := first | omega | decide) only [seval, -Int.reducePow, -Nat.reducePow, cC, pv, binv, sFlLMade1, undef, g6]
  refine callV_ret (fun w hw => same_any ⟨TA, tn, tc, ts, some ⟨gF, 0, none⟩, fn, c7, ⟨g0.p, g0.r, g0.l, some ⟨gC, 0, none⟩, g0.n, c9, g0.code.set z y⟩ :: gr⟩ 0 _ w (hnM w hw)) ?_
  try simp -implicitDefEqProofs (disch := first | omega | decide) only [seval, -Int.reducePow, -Nat.reducePow, cC, pv, binv, sFlLMade1, undef, g6]
  refine callV_ret (fun w hw => same_any raw f at' w (hR.at hw)) ?_
  try simp -implicitDefEqProofs (disch := first | omega | decide) only [seval, -Int.reducePow, -Nat.reducePow, cC, pv, binv, sFlLMade1, undef, g6]
  refine hK _ _ ?_
  clear hK K
  refine cv_ret ⟨_, (by simp -implicitDefEqProofs (disch := first | omega | decide) only [seval, -Int.reducePow, -Nat.reducePow, cC, pv, binv, sFlLMade1, undef, g6]; rfl), fun w hw => ?_⟩
  exact ⟨rfl, hw.below⟩
end Go.Proofs.Ythlhjljgpohgbaa
