/- The law ModuleApart, walked. -/
import Derived.Test.YtehfnjaompkikaaMSame
import Derived.Test.YtehfnjaompkikaaMBk
import Derived.Test.YtehfnjaompkikaaMMd
namespace Go.Proofs.Ytehfnjaompkikaa
open Go.RowKit Go.Shelf
set_option linter.unusedVariables false
set_option linter.unusedSimpArgs false
set_option maxRecDepth 100000
theorem encM_pos (m : ModR) : 4 ≤ (encM m).length := by
  have := congrArg List.length (encM_magic m)
  rw [List.length_take] at this
  simp [magicB] at this
  omega
theorem dat_of_enc {m k : ModR} (h : (chkM m).1 = 0) (h2 : (chkM k).1 = 0) (ha : ∀ g ∈ m.gs, ∀ i ∈ g.code, i.arg < 18446744073709551616) (ha2 : ∀ g ∈ k.gs, ∀ i ∈ g.code, i.arg < 18446744073709551616) (hl : (encM m).length ≤ 65536) : encM m = encM k ↔ datM m = datM k := by
  refine ⟨fun e => ?_, encM_dat⟩
  have h3 := decM_enc h ha hl
  have h4 := decM_enc h2 ha2 (e ▸ hl)
  rw [e, h4] at h3
  injection h3 with h3
  exact h3.symm
set_option maxHeartbeats 8000000 in
theorem mApart_walk (W : World) (A : Option Addr) (n c : Nat) (l : List Nat) (hE : Sl W W.heap.size 1 A n c (u16c l)) (hl : ∀ x ∈ l, x < 65536)
    (B : Option Addr) (m d : Nat) (k : List Nat) (hF : Sl W W.heap.size 1 B m d (u16c k)) (hk : ∀ x ∈ k, x < 65536) (cut : Int) (hcut : 0 ≤ cut ∧ cut ≤ 65535) :
    Calls Try.prog 9 #[.slice A n c, .slice B m d, .int .u16 cut] W fun e w' => e = .returned (.bool true) ∧ Below W.heap.size W w' := by
  obtain ⟨p, rfl⟩ : ∃ x : Nat, cut = (x : Int) := ⟨cut.toNat, by omega⟩
  refine calls_cv (M := []) (n := 67) [.tmp 6] rfl Try.func9 rfl rfl (Nat.le_of_ble_eq_true rfl) (St.nil _ _) ?_
  refine cv_seq_k fun K hK => ?_
  refine cv_region_then rfl ?_
  simp -implicitDefEqProofs (disch := first | omega | decide) only [seval, -Int.reducePow, -Nat.reducePow, cA, cB, pv, binv, fresh, thenQ, blockQ, retQ, Value.oneCell', Value.cells, undef, Nat.mul_one, mBox, mdV, modV, cS]
  refine hK _ _ ?_
  clear hK K
  refine cv_seq_k fun K hK => ?_
  refine cv_region_then rfl ?_
  simp -implicitDefEqProofs (disch := first | omega | decide) only [seval, -Int.reducePow, -Nat.reducePow, cA, cB, pv, binv, fresh, thenQ, blockQ, retQ, Value.oneCell', Value.cells, undef, Nat.mul_one, mBox, mdV, modV, cS]
  refine callV_nest modV (fun k w w' => ModD w' (Nw w w') k ∧ Good k) (fun w hw => made_any A n c l w (hE.at hw) hl) ?_
  intro m1 w0 w1 f1 hw0 hw1 ⟨hm1, hg1⟩ hNw
  have hD1 : ModD w1 (Dm [] W f1) m1 := hm1.mono fun y hy => .inl (hNw y hy)
  simp -implicitDefEqProofs (disch := first | omega | decide) only [seval, -Int.reducePow, -Nat.reducePow, cA, cB, pv, binv, fresh, thenQ, blockQ, retQ, Value.oneCell', Value.cells, undef, Nat.mul_one, mBox, mdV, modV, cS]
  refine callV_nest modV (fun k w w' => ModD w' (Nw w w') k ∧ Good k) (fun w hw => made_any B m d k w (hF.at hw) hk) ?_
  intro m2 w2 w3 f2 hw2 hw3 ⟨hm2, hg2⟩ hNw2
  have hD2 : ModD w3 (Dm [] W f2) m2 := hm2.mono fun y hy => .inl (hNw2 y hy)
  simp -implicitDefEqProofs (disch := first | omega | decide) only [seval, -Int.reducePow, -Nat.reducePow, cA, cB, pv, binv, fresh, thenQ, blockQ, retQ, Value.oneCell', Value.cells, undef, Nat.mul_one, mBox, mdV, modV, cS]
  intro b7 hb7 b8 hb8 h8
  simp -implicitDefEqProofs (disch := first | omega | decide) only [seval, -Int.reducePow, -Nat.reducePow, cA, cB, pv, binv, fresh, thenQ, blockQ, retQ, Value.oneCell', Value.cells, undef, Nat.mul_one, mBox, mdV, modV, cS]
  clear hw0 hw1 hw2 hw3 hNw hNw2 hm1 hm2
  refine hK _ _ ?_
  clear hK K
  have hchk1 : (chkM m1).1 = 0 := by rw [hg1.chk]; rfl
  have hchk2 : (chkM m2).1 = 0 := by rw [hg2.chk]; rfl
  obtain ⟨he1, he2⟩ := hg1.err
  obtain ⟨he3, he4⟩ := hg2.err
  have hlen := hg1.len
  have hpos := encM_pos m1
  have hb1 : bytesP (encM m1) := encM_bytes hchk1
  have hb2 : bytesP (encM m2) := encM_bytes hchk2
  have hiff := dat_of_enc hchk1 hchk2 hD1.arg hD2.arg hlen
  refine cv_seq_k fun K hK => ?_
  refine cv_region_then rfl ?_
  simp -implicitDefEqProofs (disch := first | omega | decide) only [seval, -Int.reducePow, -Nat.reducePow, cA, cB, pv, binv, fresh, thenQ, blockQ, retQ, Value.oneCell', Value.cells, undef, Nat.mul_one, mBox, mdV, modV, cS]
  rw [show (Value.agg #[.slice m1.TA m1.tn m1.tc, .slice m1.FA m1.fn m1.fc]) = modV m1 from rfl]
  refine callV_row (fun A n c => .tuple #[.slice A n c, .int .i64 (errM m1)]) (fun w hw => menc_any m1 w (hD1.at hw 3 rfl)) ?_
  rw [he1, he2]
  intro A4 n4 c4 hl4 hr4
  have hn4 : (encM m1).length = n4 := byt_row hl4
  simp -implicitDefEqProofs (disch := first | omega | decide) only [seval, -Int.reducePow, -Nat.reducePow, cA, cB, pv, binv, fresh, thenQ, blockQ, retQ, Value.oneCell', Value.cells, undef, Nat.mul_one, mBox, mdV, modV, cS]
  refine hK _ _ ?_
  clear hK K
  refine cv_seq_k fun K hK => ?_
  refine cv_region_then rfl ?_
  simp -implicitDefEqProofs (disch := first | omega | decide) only [seval, -Int.reducePow, -Nat.reducePow, cA, cB, pv, binv, fresh, thenQ, blockQ, retQ, Value.oneCell', Value.cells, undef, Nat.mul_one, mBox, mdV, modV, cS]
  rw [show (Value.agg #[.slice m2.TA m2.tn m2.tc, .slice m2.FA m2.fn m2.fc]) = modV m2 from rfl]
  refine callV_row (fun A n c => .tuple #[.slice A n c, .int .i64 (errM m2)]) (fun w hw => menc_any m2 w (hD2.at hw 3 rfl)) ?_
  rw [he3, he4]
  intro A5 n5 c5 hl5 hr5
  simp -implicitDefEqProofs (disch := first | omega | decide) only [seval, -Int.reducePow, -Nat.reducePow, cA, cB, pv, binv, fresh, thenQ, blockQ, retQ, Value.oneCell', Value.cells, undef, Nat.mul_one, mBox, mdV, modV, cS]
  refine hK _ _ ?_
  clear hK K
  refine cv_gen fun G1 hG => ?_
  have g1_2 := congrFun hG 2
  have g1_7 := congrFun hG 7
  have g1_8 := congrFun hG 8
  have g1_9 := congrFun hG 9
  have g1_10 := congrFun hG 10
  have g1_11 := congrFun hG 11
  have g1_12 := congrFun hG 12
  clear hG
  try simp -implicitDefEqProofs (disch := first | omega | decide) only [seval, -Int.reducePow, -Nat.reducePow, cA, cB, pv, binv, fresh, thenQ, blockQ, retQ, Value.oneCell', Value.cells, undef, Nat.mul_one, mBox, mdV, modV, cS] at g1_2 g1_7 g1_8 g1_9 g1_10 g1_11 g1_12
  refine cv_seq_k fun K hK => ?_
  refine cv_seq_k fun K hK => ?_
  refine cv_cut (fun _ _ => True) (fun F' L' => F' 2 = G1 2 ∧ F' 7 = G1 7 ∧ F' 8 = G1 8 ∧ F' 9 = G1 9 ∧ F' 11 = G1 11 ∧ F' 39 = .bool false ∧ L' = [.row (.slice A5 n5 c5) 5 1 n5 (byt (encM m2)), .row (.slice A4 n4 c4) 5 1 n4 (byt (encM m1)), .blk b8 25 [.slice m2.TA m2.tn m2.tc, .slice m2.FA m2.fn m2.fc], .blk b7 25 [.slice m1.TA m1.tn m1.tc, .slice m1.FA m1.fn m1.fc], snap [] W w3 f2, snap [] W w1 f1]) ?_ ?_
  · have hne : ¬ ((n4 : Int) = 0) := by omega
    refine cv_region_then rfl ?_
    simp -implicitDefEqProofs (disch := first | omega | decide) only [seval, -Int.reducePow, -Nat.reducePow, cA, cB, pv, binv, fresh, thenQ, blockQ, retQ, Value.oneCell', Value.cells, undef, Nat.mul_one, mBox, mdV, modV, cS, hne, g1_2, g1_7, g1_8, g1_9, g1_10, g1_11, g1_12]
  intro G2 L' _ hF
  obtain ⟨q2, q7, q8, q9, q11, q39, rfl⟩ := hF
  have g2_2 := q2.trans g1_2
  have g2_7 := q7.trans g1_7
  have g2_8 := q8.trans g1_8
  have g2_9 := q9.trans g1_9
  have g2_11 := q11.trans g1_11
  have g2_39 := q39
  clear q2 q7 q8 q9 q11 q39
  refine hK _ _ ?_
  clear hK K
  refine cv_cond ?_
  simp -implicitDefEqProofs (disch := first | omega | decide) only [seval, -Int.reducePow, -Nat.reducePow, cA, cB, pv, binv, fresh, thenQ, blockQ, retQ, Value.oneCell', Value.cells, undef, Nat.mul_one, mBox, mdV, modV, cS, g2_2, g2_7, g2_8, g2_9, g2_11, g2_39]
  refine cv_skip ?_
  try simp only [blockQ, thenQ]
  refine hK _ _ ?_
  clear hK K
  obtain ⟨q, hq⟩ : ∃ k : Nat, (p : Int) % (n4 : Int) = (k : Int) := ⟨p % n4, by rw [Int.natCast_emod]⟩
  have hqn : q < n4 := by
    have := Int.emod_lt_of_pos (p : Int) (show (0 : Int) < n4 by omega)
    omega
  refine cv_cap 1 rfl fun hcap hcmax => ?_
  refine cv_seq_k fun K hK => ?_
  refine cv_region_then rfl ?_
  simp -implicitDefEqProofs (disch := first | omega | decide) only [seval, -Int.reducePow, -Nat.reducePow, cA, cB, pv, binv, fresh, thenQ, blockQ, retQ, Value.oneCell', Value.cells, undef, Nat.mul_one, mBox, mdV, modV, cS, wrap_in, hq, g2_2, g2_7, g2_8, g2_9, g2_11, g2_39]
  refine callV_nest mdV (mdΦ ((encM m1).take q)) (fun w hw => mdec_any A4 q c4 ((encM m1).take q) w ((hw.slb 1 rfl).btake (k := q) (by omega)) (fun x hx => hb1 x (List.mem_of_mem_take hx))) ?_
  intro i w4 w5 f3 hw4 hw5 hi hNw3
  have hine : ¬ i.2 = 0 := by
    rcases hi.2 with ⟨h1, h2⟩ | ⟨h1, h2, h3⟩
    · exact absurd h2 (decM_pre hchk1 hD1.arg (by omega) _)
    · exact h1
  simp -implicitDefEqProofs (disch := first | omega | decide) only [seval, -Int.reducePow, -Nat.reducePow, cA, cB, pv, binv, fresh, thenQ, blockQ, retQ, Value.oneCell', Value.cells, undef, Nat.mul_one, mBox, mdV, modV, cS, g2_2, g2_7, g2_8, g2_9, g2_11, g2_39]
  intro b13 hb13 h13
  refine hK _ _ ?_
  clear hK K
  refine cv_gen fun G3 hG => ?_
  have g3_7 := congrFun hG 7
  have g3_8 := congrFun hG 8
  have g3_9 := congrFun hG 9
  have g3_11 := congrFun hG 11
  have g3_14 := congrFun hG 14
  clear hG
  try simp -implicitDefEqProofs (disch := first | omega | decide) only [seval, -Int.reducePow, -Nat.reducePow, cA, cB, pv, binv, fresh, thenQ, blockQ, retQ, Value.oneCell', Value.cells, undef, Nat.mul_one, mBox, mdV, modV, cS, g2_2, g2_7, g2_8, g2_9, g2_11, g2_39] at g3_7 g3_8 g3_9 g3_11 g3_14
  refine cv_seq_k fun K hK => ?_
  refine cv_draw_of (pickL [2, 3, 4, 5] _) (fun w hw => hw.pick (by decide)) (by simp only [pickL, nth, suf_cons, suf_nil, List.mem_cons, true_or, or_true, and_true, eq_self]) [(false, 0), (true, 1), (true, 2), (true, 3), (true, 4), (true, 5), (true, 6), (true, 7), (true, 8), (false, 9), (true, 10), (true, 11), (true, 12), (true, 13), (true, 14), (true, 15), (true, 16)] [] mixA rfl (by kernel_rfl) (by kernel_rfl) rfl rfl ?_
  simp -implicitDefEqProofs (disch := first | omega | decide) only [seval, -Int.reducePow, -Nat.reducePow, cA, cB, pv, binv, fresh, thenQ, blockQ, retQ, Value.oneCell', Value.cells, undef, Nat.mul_one, mBox, mdV, modV, cS, g3_7, g3_8, g3_9, g3_11, g3_14]
  refine callV_ret (fun w hw => awake_any w) ?_
  try simp -implicitDefEqProofs (disch := first | omega | decide) only [seval, -Int.reducePow, -Nat.reducePow, cA, cB, pv, binv, fresh, thenQ, blockQ, retQ, Value.oneCell', Value.cells, undef, Nat.mul_one, mBox, mdV, modV, cS, g3_7, g3_8, g3_9, g3_11, g3_14]
  refine ⟨_, fun w hw => hw.strk 1 rfl, fun tok htok => ?_⟩
  subst htok
  simp -implicitDefEqProofs (disch := first | omega | decide) only [seval, -Int.reducePow, -Nat.reducePow, cA, cB, pv, binv, fresh, thenQ, blockQ, retQ, Value.oneCell', Value.cells, undef, Nat.mul_one, mBox, mdV, modV, cS, g3_7, g3_8, g3_9, g3_11, g3_14]
  refine ⟨_, fun w hw => hw.strk 0 rfl, fun tok htok => ?_⟩
  subst htok
  simp -implicitDefEqProofs (disch := first | omega | decide) only [seval, -Int.reducePow, -Nat.reducePow, cA, cB, pv, binv, fresh, thenQ, blockQ, retQ, Value.oneCell', Value.cells, undef, Nat.mul_one, mBox, mdV, modV, cS, g3_7, g3_8, g3_9, g3_11, g3_14]
  rw [show (Value.agg #[.slice m1.TA m1.tn m1.tc, .slice m1.FA m1.fn m1.fc]) = modV m1 from rfl, show (Value.agg #[.slice m2.TA m2.tn m2.tc, .slice m2.FA m2.fn m2.fc]) = modV m2 from rfl]
  have hs : ((bstr (encM m1)).toList == (bstr (encM m2)).toList) = decide (datM m1 = datM m2) := by
    rw [bstr_beq hb1 hb2]
    exact decide_eq_decide.2 hiff
  refine callV_ret (fun w hw => sameModule_any m1 m2 w (hD1.at hw 7 rfl) (hD2.at hw 6 rfl)) ?_
  try simp -implicitDefEqProofs (disch := first | omega | decide) only [seval, -Int.reducePow, -Nat.reducePow, cA, cB, pv, binv, fresh, thenQ, blockQ, retQ, Value.oneCell', Value.cells, undef, Nat.mul_one, mBox, mdV, modV, cS, hs, hine, g3_7, g3_8, g3_9, g3_11, g3_14]
  refine hK _ _ ?_
  clear hK K
  refine cv_ret ⟨_, (by simp -implicitDefEqProofs (disch := first | omega | decide) only [seval, -Int.reducePow, -Nat.reducePow, cA, cB, pv, binv, fresh, thenQ, blockQ, retQ, Value.oneCell', Value.cells, undef, Nat.mul_one, mBox, mdV, modV, cS, g3_7, g3_8, g3_9, g3_11, g3_14]; rfl), fun w hw => ?_⟩
  exact ⟨rfl, hw.below⟩
end Go.Proofs.Ytehfnjaompkikaa
