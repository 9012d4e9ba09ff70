/- The law ArenaRaw, walked. -/
import Derived.Test.YtfaanphjaghbpaaZ7
import Derived.Test.YtfaanphjaghbpaaZ5
namespace Go.Proofs.Ytfaanphjaghbpaa
open Go.RowKit Go.Shelf
set_option linter.unusedVariables false
set_option linter.unusedSimpArgs false
set_option maxRecDepth 100000
theorem vcm_gen {P : Program} {M : List Nat} {W : World} {n : Nat} {os : List Oper} {L0 : List Res} {fin : List Nat} {tok : Bool} {p : PM} {F : Fr} {L : List Res} {K : Fr → List Res → Prop} (h : ∀ G : Fr, G = F → vcm P M W n os L0 fin tok p G L K) : vcm P M W n os L0 fin tok p F L K := h F rfl
set_option maxRecDepth 100000 in
theorem sArLRaw1 : type_of% (And.intro (And.intro (And.intro @eBox.eq_1 @exV.eq_1) (And.intro @alL.eq_1 @arL.eq_1)) (And.intro (And.intro @mrL.eq_1 @Nat.mul_one) (And.intro @wrap_in (And.intro @cMp @cM)))) := (And.intro (And.intro (And.intro @eBox.eq_1 @exV.eq_1) (And.intro @alL.eq_1 @arL.eq_1)) (And.intro (And.intro @mrL.eq_1 @Nat.mul_one) (And.intro @wrap_in (And.intro @cMp @cM))))
set_option maxHeartbeats 8000000 in
theorem arRaw_walk (W : World) (room : Int) (hr : 0 ≤ room ∧ room ≤ 255) (A : Option Addr) (n c : Nat) (l : List S6) (hE : Sl W W.heap.size 6 A n c (cl s6V l)) (hb : ∀ s ∈ l, s.ok)
    (e : Ext) (e1 : -9223372036854775808 ≤ e.off ∧ e.off ≤ 9223372036854775807) (e2 : -9223372036854775808 ≤ e.len ∧ e.len ≤ 9223372036854775807) (d : Ext) (d1 : -9223372036854775808 ≤ d.off ∧ d.off ≤ 9223372036854775807) (d2 : -9223372036854775808 ≤ d.len ∧ d.len ≤ 9223372036854775807)
    (k : Int) (hk : -9223372036854775808 ≤ k ∧ k ≤ 9223372036854775807) (wd : Int) (hwd : -9223372036854775808 ≤ wd ∧ wd ≤ 9223372036854775807) (nn : Int) (hnn : -9223372036854775808 ≤ nn ∧ nn ≤ 9223372036854775807) (v : Int) (hv : 0 ≤ v ∧ v ≤ 18446744073709551615) (at_ : Int) (hat : 0 ≤ at_ ∧ at_ ≤ 255) :
    Calls Try.prog 7 #[.int .u8 room, .slice A n c, exV e, exV d, .int .i64 k, .int .i64 wd, .int .i64 nn, .int .u64 v, .int .u8 at_] W fun e w' => e = .returned (.bool true) ∧ Below W.heap.size W w' := by
  obtain ⟨r, rfl⟩ : ∃ r : Nat, room = (r : Int) := ⟨room.toNat, by omega⟩
  obtain ⟨q, rfl⟩ : ∃ q : Nat, at_ = (q : Int) := ⟨at_.toNat, by omega⟩
  obtain ⟨v, rfl⟩ : ∃ v' : Nat, v = (v' : Int) := ⟨v.toNat, by omega⟩
  replace hv : v < 18446744073709551616 := by omega
  refine calls_cv (M := []) (n := 176) [.tmp 18] rfl Try.func7 rfl rfl (Nat.le_of_ble_eq_true rfl) (St.nil _ _) ?_
  refine cv_seq_k fun K hK => ?_
  refine cv_region_then rfl ?_
  simp -implicitDefEqProofs (disch := first | omega | decide) only [seval, -Int.reducePow, -Nat.reducePow, cC, pv, binv, sArLRaw1, undef, List.cons_append, List.nil_append]
  intro b11 hb11 b12 hb12 hf12
  refine hK _ _ ?_
  clear hK K
  refine cv_seq_k fun K hK => ?_
  refine cv_region_then rfl ?_
  simp -implicitDefEqProofs (disch := first | omega | decide) only [seval, -Int.reducePow, -Nat.reducePow, cC, pv, binv, sArLRaw1, undef, List.cons_append, List.nil_append]
  refine callV_grp [] [0, 1] (by decide) (fun i : ArR × MrR => .tuple #[.pointer (some ⟨i.1.bR, 0, none⟩), .pointer (some ⟨i.2.ml.bM, 0, none⟩), .bool true]) (fun i => arL i.1 ++ mrL i.2) (fun i => Pr i.1 i.2 ∧ i.2.ml.us.length ≤ 30) (fun w hw hq => built_any r (by omega) A n c l w (hE.at hw) hb) ?_
  rintro ⟨x, y⟩ ⟨hP0, hl⟩
  dsimp only at hP0 hl
  have hfrl := hP0.inv.frLen
  have hN1 := hP0.inv.N1
  simp only [pickL, nth]
  simp -implicitDefEqProofs (disch := first | omega | decide) only [seval, -Int.reducePow, -Nat.reducePow, cC, pv, binv, sArLRaw1, undef, List.cons_append, List.nil_append]
  refine hK _ _ ?_
  clear hK K
  refine cv_seq_k fun K hK => ?_
  refine cv_seq_k fun K hK => ?_
  refine cv_region_then rfl ?_
  simp -implicitDefEqProofs (disch := first | omega | decide) only [seval, -Int.reducePow, -Nat.reducePow, cC, pv, binv, sArLRaw1, undef, List.cons_append, List.nil_append]
  refine hK _ _ ?_
  clear hK K
  refine cv_cond ?_
  simp -implicitDefEqProofs (disch := first | omega | decide) only [seval, -Int.reducePow, -Nat.reducePow, cC, pv, binv, sArLRaw1, undef, List.cons_append, List.nil_append]
  refine cv_skip ?_
  try simp only [blockQ, thenQ]
  refine hK _ _ ?_
  clear hK K
  obtain ⟨X, hX⟩ : ∃ X, extF y.ml.us q 0 = X := ⟨_, rfl⟩
  refine cv_seq_k fun K hK => ?_
  refine cv_region_then rfl ?_
  simp -implicitDefEqProofs (disch := first | omega | decide) only [seval, -Int.reducePow, -Nat.reducePow, cC, pv, binv, sArLRaw1, undef, List.cons_append, List.nil_append]
  refine callV_ret (fun w hw => extent_any y q 0 w (by omega) (by omega) (hP0.mrW hw 5 6 7 rfl rfl rfl (by omega))) ?_
  try simp -implicitDefEqProofs (disch := first | omega | decide) only [seval, -Int.reducePow, -Nat.reducePow, cC, pv, binv, sArLRaw1, undef, List.cons_append, List.nil_append, hX]
  intro b22 hb22 hf22
  refine hK _ _ ?_
  clear hK K
  refine cv_apart fun hap => ?_
  simp only [factL_nil, factL_blk, factL_row, neR_nil, neR_blk, neR_row, neB_nil, neB_blk, neB_row, and_true, true_and, List.not_mem_nil, or_false, sArLRaw1, undef, List.cons_append, List.nil_append] at hap
  obtain hap := hap
  refine cv_seq_k fun K hK => ?_
  refine cv_seq_k fun K hK => ?_
  refine cv_region_then rfl ?_
  simp -implicitDefEqProofs (disch := first | omega | decide) only [seval, -Int.reducePow, -Nat.reducePow, cC, pv, binv, sArLRaw1, undef, List.cons_append, List.nil_append]
  intro bS hbS hfS
  refine hK _ _ ?_
  clear hK K
  clear hap
  refine cv_gen fun G1 hG => ?_
  have g1_4 := congrFun hG 4
  have g1_5 := congrFun hG 5
  have g1_6 := congrFun hG 6
  have g1_7 := congrFun hG 7
  have g1_12 := congrFun hG 12
  have g1_19 := congrFun hG 19
  have g1_20 := congrFun hG 20
  have g1_47 := congrFun hG 47
  have g1_48 := congrFun hG 48
  have g1_49 := congrFun hG 49
  clear hG
  try simp -implicitDefEqProofs (disch := first | omega | decide) only [seval, -Int.reducePow, -Nat.reducePow, cC, pv, binv, sArLRaw1, undef, List.cons_append, List.nil_append] at g1_4 g1_5 g1_6 g1_7 g1_12 g1_19 g1_20 g1_47 g1_48 g1_49
  have g1 := And.intro g1_4 (And.intro g1_5 (And.intro g1_6 (And.intro g1_7 (And.intro g1_12 (And.intro g1_19 (And.intro g1_20 (And.intro g1_47 (And.intro g1_48 g1_49))))))))
  refine cv_pick [10, 0, 2, 3, 4, 5, 6, 7, 8, 9] (by decide) ?_
  simp only [pickL, nth]
  refine cv_block ?_
  refine cv_loop (fun F' L' => ∃ (i : Nat) (bs : List Nat), F' 4 = G1 4 ∧ F' 5 = G1 5 ∧ F' 6 = G1 6 ∧ F' 7 = G1 7 ∧ F' 12 = G1 12 ∧ F' 19 = G1 19 ∧ F' 20 = G1 20 ∧ F' 47 = G1 47 ∧ F' 48 = G1 48 ∧ F' 49 = .int .i64 (i : Int) ∧ L' = eBox b12 d :: .blk bS 28 [.int .i64 e.off, .int .i64 e.len, .int .i64 X.off, .int .i64 X.len] :: (arL ⟨x.al, x.bR, x.bB, x.N, bs⟩ ++ mrL ⟨y.ml, y.bB, y.n, bs⟩) ∧ Pr ⟨x.al, x.bR, x.bB, x.N, bs⟩ ⟨y.ml, y.bB, y.n, bs⟩ ∧ i ≤ 2) (fun F' L' => 10 - (intOf (F' 49)).toNat) ?_ ?_
  · refine ⟨0, x.bs, ?_⟩
    simp -implicitDefEqProofs (disch := first | omega | decide) only [seval, -Int.reducePow, -Nat.reducePow, cC, pv, binv, sArLRaw1, undef, List.cons_append, List.nil_append, hP0.bs, g1]
    have h := hP0
    rw [show y = ⟨y.ml, y.bB, y.n, x.bs⟩ from by rw [← hP0.bs]] at h
    exact h
  intro G2 L' hI
  obtain ⟨i, bs, q4, q5, q6, q7, q12, q19, q20, q47, q48, q49, rfl, ⟨hP, hi⟩⟩ := hI
  have g2_4 := q4.trans g1_4
  have g2_5 := q5.trans g1_5
  have g2_6 := q6.trans g1_6
  have g2_7 := q7.trans g1_7
  have g2_12 := q12.trans g1_12
  have g2_19 := q19.trans g1_19
  have g2_20 := q20.trans g1_20
  have g2_47 := q47.trans g1_47
  have g2_48 := q48.trans g1_48
  have g2_49 := q49
  clear q4 q5 q6 q7 q12 q19 q20 q47 q48 q49
  have g2 := And.intro g2_4 (And.intro g2_5 (And.intro g2_6 (And.intro g2_7 (And.intro g2_12 (And.intro g2_19 (And.intro g2_20 (And.intro g2_47 (And.intro g2_48 g2_49))))))))
  refine cv_seq_k fun K hK => ?_
  refine cv_region_then rfl ?_
  simp -implicitDefEqProofs (disch := first | omega | decide) only [seval, -Int.reducePow, -Nat.reducePow, cC, pv, binv, sArLRaw1, undef, List.cons_append, List.nil_append, g1, g2]
  refine hK _ _ ?_
  clear hK K
  refine cv_seq_k fun K hK => ?_
  refine cv_cond ?_
  simp -implicitDefEqProofs (disch := first | omega | decide) only [seval, -Int.reducePow, -Nat.reducePow, cC, pv, binv, sArLRaw1, undef, List.cons_append, List.nil_append, g1, g2]
  refine ⟨fun hc => ?_, fun hc => ?_⟩
  · refine cv_skip ?_
    try simp only [blockQ, thenQ]
    have hit : i < 2 := by have := of_decide_eq_true ‹decide ((i : Int) < 2) = true›; omega
    refine hK _ _ ?_
    clear hK K
    refine cv_seq_k fun K hK => ?_
    refine cv_block ?_
    refine cv_seq_k fun K hK => ?_
    refine cv_cut (fun _ _ => True) (fun F' L' => ∃ (Y : Ext) (b24 : Nat), F' 4 = G2 4 ∧ F' 5 = G2 5 ∧ F' 6 = G2 6 ∧ F' 7 = G2 7 ∧ F' 12 = G2 12 ∧ F' 19 = G2 19 ∧ F' 20 = G2 20 ∧ F' 24 = .pointer (some ⟨b24, 0, none⟩) ∧ F' 47 = G2 47 ∧ F' 48 = G2 48 ∧ F' 49 = G2 49 ∧ L' = eBox b24 Y :: eBox b12 d :: .blk bS 28 [.int .i64 e.off, .int .i64 e.len, .int .i64 X.off, .int .i64 X.len] :: (arL ⟨x.al, x.bR, x.bB, x.N, bs⟩ ++ mrL ⟨y.ml, y.bB, y.n, bs⟩)) ?_ ?_
    · rcases (show i = 0 ∨ i = 1 by omega) with rfl | rfl
      · refine cv_region_then rfl ?_
        simp -implicitDefEqProofs (disch := first | omega | decide) only [seval, -Int.reducePow, -Nat.reducePow, cC, pv, binv, sArLRaw1, undef, List.cons_append, List.nil_append, g1, g2]
        intro b24 hb24 hf24
        refine ⟨e, b24, ?_⟩
        simp -implicitDefEqProofs (disch := first | omega | decide) only [seval, -Int.reducePow, -Nat.reducePow, cC, pv, binv, sArLRaw1, undef, List.cons_append, List.nil_append, g1, g2]
      · refine cv_region_then rfl ?_
        simp -implicitDefEqProofs (disch := first | omega | decide) only [seval, -Int.reducePow, -Nat.reducePow, cC, pv, binv, sArLRaw1, undef, List.cons_append, List.nil_append, g1, g2]
        intro b24 hb24 hf24
        refine ⟨X, b24, ?_⟩
        simp -implicitDefEqProofs (disch := first | omega | decide) only [seval, -Int.reducePow, -Nat.reducePow, cC, pv, binv, sArLRaw1, undef, List.cons_append, List.nil_append, g1, g2]
    intro G3 L' _ hF
    obtain ⟨Y, b24, q4, q5, q6, q7, q12, q19, q20, q24, q47, q48, q49, rfl⟩ := hF
    have g3_4 := q4.trans g2_4
    have g3_5 := q5.trans g2_5
    have g3_6 := q6.trans g2_6
    have g3_7 := q7.trans g2_7
    have g3_12 := q12.trans g2_12
    have g3_19 := q19.trans g2_19
    have g3_20 := q20.trans g2_20
    have g3_24 := q24
    have g3_47 := q47.trans g2_47
    have g3_48 := q48.trans g2_48
    have g3_49 := q49.trans g2_49
    clear q4 q5 q6 q7 q12 q19 q20 q24 q47 q48 q49
    have g3 := And.intro g3_4 (And.intro g3_5 (And.intro g3_6 (And.intro g3_7 (And.intro g3_12 (And.intro g3_19 (And.intro g3_20 (And.intro g3_24 (And.intro g3_47 (And.intro g3_48 g3_49)))))))))
    refine hK _ _ ?_
    clear hK K
    have hlbs := hP.len
    have hIn : Ex.Inv (y.n : Int) y.ml.us x.al.fr x.al.tk := by have := hP.n; dsimp only at this; rw [this]; exact hP.inv
    have hmbs : bs.length = y.n := by have := hP.n; dsimp only at this; rw [this]; exact hP.len
    have hlt := hP.lt
    dsimp only at hlbs hlt
    refine cv_seq_k fun K hK => ?_
    refine cv_region_then rfl ?_
    simp -implicitDefEqProofs (disch := first | omega | decide) only [seval, -Int.reducePow, -Nat.reducePow, cC, pv, binv, sArLRaw1, undef, List.cons_append, List.nil_append, g1, g2, g3]
    refine callV_ret (fun w hw => arLoad_any ⟨x.al, x.bR, x.bB, x.N, bs⟩ y.ml.us w Y k wd (hP.arW hw 3 4 5 6 7 rfl rfl rfl rfl rfl (by dsimp only; omega)) hP.inv hlt) ?_
    try simp -implicitDefEqProofs (disch := first | omega | decide) only [seval, -Int.reducePow, -Nat.reducePow, cC, pv, binv, sArLRaw1, undef, List.cons_append, List.nil_append, g1, g2, g3]
    refine hK _ _ ?_
    clear hK K
    refine cv_seq_k fun K hK => ?_
    refine cv_region_then rfl ?_
    simp -implicitDefEqProofs (disch := first | omega | decide) only [seval, -Int.reducePow, -Nat.reducePow, cC, pv, binv, sArLRaw1, undef, List.cons_append, List.nil_append, g1, g2, g3]
    refine callV_ret (fun w hw => rLoad_any ⟨y.ml, y.bB, y.n, bs⟩ Y k wd x.al.fr x.al.tk w (hP.mrW hw 8 9 10 rfl rfl rfl (by dsimp only; omega)) hIn hlt) ?_
    try simp -implicitDefEqProofs (disch := first | omega | decide) only [seval, -Int.reducePow, -Nat.reducePow, cC, pv, binv, sArLRaw1, undef, List.cons_append, List.nil_append, g1, g2, g3]
    refine hK _ _ ?_
    clear hK K
    refine cv_seq_k fun K hK => ?_
    refine cv_region_then rfl ?_
    simp -implicitDefEqProofs (disch := first | omega | decide) only [seval, -Int.reducePow, -Nat.reducePow, cC, pv, binv, sArLRaw1, undef, List.cons_append, List.nil_append, g1, g2, g3]
    refine callV_row (fun A n c => .tuple #[.slice A n c, .int .i64 (rdErr y.ml.us Y k (min nn 100))]) (fun w hw => arRead_any ⟨x.al, x.bR, x.bB, x.N, bs⟩ y.ml.us w Y k (min nn 100) (hP.arW hw 3 4 5 6 7 rfl rfl rfl rfl rfl (by dsimp only; omega)) hP.inv) ?_
    intro A1 n1 c1 hl1 hr1
    simp -implicitDefEqProofs (disch := first | omega | decide) only [seval, -Int.reducePow, -Nat.reducePow, cC, pv, binv, sArLRaw1, undef, List.cons_append, List.nil_append, g1, g2, g3]
    refine hK _ _ ?_
    clear hK K
    refine cv_seq_k fun K hK => ?_
    refine cv_region_then rfl ?_
    simp -implicitDefEqProofs (disch := first | omega | decide) only [seval, -Int.reducePow, -Nat.reducePow, cC, pv, binv, sArLRaw1, undef, List.cons_append, List.nil_append, g1, g2, g3]
    refine callV_row (fun A n c => .tuple #[.slice A n c, .int .i64 (rdErr y.ml.us Y k (min nn 100))]) (fun w hw => rRead_any ⟨y.ml, y.bB, y.n, bs⟩ Y k (min nn 100) x.al.fr x.al.tk w (hP.mrW hw 9 10 11 rfl rfl rfl (by dsimp only; omega)) hIn) ?_
    intro A2 n2 c2 hl2 hr2
    simp -implicitDefEqProofs (disch := first | omega | decide) only [seval, -Int.reducePow, -Nat.reducePow, cC, pv, binv, sArLRaw1, undef, List.cons_append, List.nil_append, g1, g2, g3]
    refine hK _ _ ?_
    clear hK K
    obtain ⟨f1, hf1⟩ : ∃ f, stErr y.ml.us Y k wd v = f := ⟨_, rfl⟩
    obtain ⟨bs1, hbs1⟩ : ∃ b, stF bs Y k wd v f1 = b := ⟨_, rfl⟩
    have hP1 := hP.chg (e := Y) (by have := stF_chg hP.inv hlbs Y k wd v; rw [hf1, hbs1] at this; exact this)
    have hlbs1 := hP1.len
    dsimp only at hlbs1
    have hmbs1 : bs1.length = y.n := by have := hP.n; dsimp only at this; rw [this]; exact hlbs1
    obtain ⟨f2, hf2⟩ : ∃ f, cpErr y.ml.us Y k d wd nn = f := ⟨_, rfl⟩
    obtain ⟨bs2, hbs2⟩ : ∃ b, cpF bs1 Y k d wd nn f2 = b := ⟨_, rfl⟩
    have hP2 := hP1.chg (e := Y) (by have := cpF_chg hP.inv hlbs1 Y k d wd nn; rw [hf2, hbs2] at this; exact this)
    have hlbs2 := hP2.len
    dsimp only at hlbs2
    have hmbs2 : bs2.length = y.n := by have := hP.n; dsimp only at this; rw [this]; exact hlbs2
    obtain ⟨f3, hf3⟩ : ∃ f, cpErr y.ml.us d k Y wd nn = f := ⟨_, rfl⟩
    obtain ⟨bs3, hbs3⟩ : ∃ b, cpF bs2 d k Y wd nn f3 = b := ⟨_, rfl⟩
    have hP3 := hP2.chg (e := d) (by have := cpF_chg hP.inv hlbs2 d k Y wd nn; rw [hf3, hbs3] at this; exact this)
    have hlbs3 := hP3.len
    dsimp only at hlbs3
    have hmbs3 : bs3.length = y.n := by have := hP.n; dsimp only at this; rw [this]; exact hlbs3
    obtain ⟨f4, hf4⟩ : ∃ f, wrErr y.ml.us Y k ((2 : Nat) : Int) = f := ⟨_, rfl⟩
    obtain ⟨bs4, hbs4⟩ : ∃ b, wrF bs3 Y k [1, 2] f4 = b := ⟨_, rfl⟩
    have hP4 := hP3.chg (e := Y) (by have := wrF_chg hP.inv hlbs3 Y k [1, 2] (by simp); rw [show wrErr y.ml.us Y k (([1, 2] : List Nat).length : Int) = f4 from hf4, hbs4] at this; exact this)
    refine cv_seq_k fun K hK => ?_
    refine cv_cut (fun _ _ => True) (fun F' L' => F' 4 = G3 4 ∧ F' 5 = G3 5 ∧ F' 6 = G3 6 ∧ F' 7 = G3 7 ∧ F' 12 = G3 12 ∧ F' 19 = G3 19 ∧ F' 20 = G3 20 ∧ F' 47 = G3 47 ∧ F' 48 = G3 48 ∧ F' 49 = G3 49 ∧ F' 168 = .bool false ∧ L' = eBox b12 d :: .blk bS 28 [.int .i64 e.off, .int .i64 e.len, .int .i64 X.off, .int .i64 X.len] :: (arL ⟨x.al, x.bR, x.bB, x.N, bs4⟩ ++ mrL ⟨y.ml, y.bB, y.n, bs4⟩)) ?_ ?_
    · refine cv_apart fun hap => ?_
      simp only [factL_nil, factL_blk, factL_row, neR_nil, neR_blk, neR_row, neB_nil, neB_blk, neB_row, and_true, true_and, List.not_mem_nil, or_false, sArLRaw1, undef, List.cons_append, List.nil_append] at hap
      obtain ⟨-, -, -, ⟨hne, -⟩, -⟩ := hap
      refine cv_gen fun G4 hG => ?_
      have g4_4 := congrFun hG 4
      have g4_5 := congrFun hG 5
      have g4_6 := congrFun hG 6
      have g4_7 := congrFun hG 7
      have g4_12 := congrFun hG 12
      have g4_19 := congrFun hG 19
      have g4_20 := congrFun hG 20
      have g4_24 := congrFun hG 24
      have g4_25 := congrFun hG 25
      have g4_26 := congrFun hG 26
      have g4_27 := congrFun hG 27
      have g4_28 := congrFun hG 28
      have g4_29 := congrFun hG 29
      have g4_30 := congrFun hG 30
      have g4_31 := congrFun hG 31
      have g4_32 := congrFun hG 32
      have g4_47 := congrFun hG 47
      have g4_48 := congrFun hG 48
      have g4_49 := congrFun hG 49
      clear hG
      try simp -implicitDefEqProofs (disch := first | omega | decide) only [seval, -Int.reducePow, -Nat.reducePow, cC, pv, binv, sArLRaw1, undef, List.cons_append, List.nil_append, g1, g2, g3] at g4_4 g4_5 g4_6 g4_7 g4_12 g4_19 g4_20 g4_24 g4_25 g4_26 g4_27 g4_28 g4_29 g4_30 g4_31 g4_32 g4_47 g4_48 g4_49
      have g4 := And.intro g4_4 (And.intro g4_5 (And.intro g4_6 (And.intro g4_7 (And.intro g4_12 (And.intro g4_19 (And.intro g4_20 (And.intro g4_24 (And.intro g4_25 (And.intro g4_26 (And.intro g4_27 (And.intro g4_28 (And.intro g4_29 (And.intro g4_30 (And.intro g4_31 (And.intro g4_32 (And.intro g4_47 (And.intro g4_48 g4_49)))))))))))))))))
      refine cv_more [0, 1, 2, 3] (by decide) (by simp only [pickL, nth, suf_cons, suf_nil, List.mem_cons, true_or, or_true, and_true, eq_self]) (.rd 0 (.rd 1 (.rd 2 (.rd 3 (.rd 4 (.rd 5 (.rd 6 (.rd 7 (.rd 8 (.rd 9 (.rd 10 (.rd 11 (.rd 12 (.rd 13 (.rd 14 (.rd 15 (.rd 16 (.rd 17 (.rd 18 (.rd 19 (.rd 20 (.rd 21 (.rd 22 (.rd 23 (.rd 24 (.rd 25 (.rd 27 (.rd 28 (.rd 29 (.rd 30 (.rd 31 (.act 26 (.act 32 (.rd 33 (.rd 34 (.rd 35 (.rd 36 (.rd 37 (.rd 38 (.rd 39 (.rd 40 (.rd 41 (.rd 43 (.rd 44 (.rd 45 (.rd 46 (.rd 47 (.rd 48 (.act 42 (.act 49 (.rd 50 (.rd 51 (.rd 52 (.rd 53 (.rd 54 (.rd 55 (.rd 56 (.rd 57 (.rd 58 (.rd 60 (.rd 61 (.rd 62 (.rd 63 (.rd 64 (.rd 65 (.act 59 (.act 66 (.rd 67 (.rd 68 (.rd 69 (.rd 70 (.rd 71 (.rd 72 (.rd 75 (.rd 76 (.rd 77 (.more 73 (.more 74 (.act 78 (.act 79 (.rd 80 (.rd 81 (.done))))) (.act 78 (.act 74 (.act 79 (.rd 80 (.rd 81 (.done))))))) (.act 78 (.act 73 (.act 74 (.act 79 (.rd 80 (.rd 81 (.done)))))))))))))))))))))))))))))))))))))))))))))))))))))))))))))))))))))))))))))))))))) [] mixA rfl (by kernel_rfl) (by kernel_rfl) (by kernel_rfl) (by kernel_rfl) ?_
      simp only [pickL, nth]
      simp only [List.append_eq, List.cons_append, List.nil_append]
      simp -implicitDefEqProofs (maxSteps := 1000000) (disch := first | omega | decide) only [seval, -Int.reducePow, -Nat.reducePow, cC, pv, binv, sArLRaw1, undef, List.cons_append, List.nil_append, g1, g2, g3, g4]
      refine ⟨_, fun w hw => hw.strk 1 rfl, fun tok htok => ?_⟩
      subst htok
      simp -implicitDefEqProofs (disch := first | omega | decide) only [seval, -Int.reducePow, -Nat.reducePow, cC, pv, binv, sArLRaw1, undef, List.cons_append, List.nil_append, g1, g2, g3, g4]
      refine ⟨_, fun w hw => hw.strk 0 rfl, fun tok htok => ?_⟩
      subst htok
      simp -implicitDefEqProofs (disch := first | omega | decide) only [seval, -Int.reducePow, -Nat.reducePow, cC, pv, binv, sArLRaw1, undef, List.cons_append, List.nil_append, g1, g2, g3, g4]
      trace_state
      refine callV_grp [5, 6, 7, 8, 9] [0, 1, 2, 3, 4, 10, 11, 12] (by decide) (fun _ : Unit => .int .i64 f1) (fun _ => arL ⟨x.al, x.bR, x.bB, x.N, bs1⟩) (fun _ => True) (fun w hw hs => by
        have := arStore_any ⟨x.al, x.bR, x.bB, x.N, bs⟩ y.ml.us Y k wd v w hs hP.inv (by omega) hlbs hv
        dsimp only at this
        rw [hf1, hbs1] at this
        exact this) ?_
      intro _ _
      simp only [pickL, nth]
      refine ⟨by simp -implicitDefEqProofs (disch := first | omega | decide) only [seval, -Int.reducePow, -Nat.reducePow, cC, pv, binv, sArLRaw1, undef, List.cons_append, List.nil_append, g1, g2, g3, g4], vcm_gen fun G5 hG => ?_⟩
      have g5_4 := congrFun hG 4
      have g5_5 := congrFun hG 5
      have g5_6 := congrFun hG 6
      have g5_7 := congrFun hG 7
      have g5_12 := congrFun hG 12
      have g5_19 := congrFun hG 19
      have g5_20 := congrFun hG 20
      have g5_24 := congrFun hG 24
      have g5_47 := congrFun hG 47
      have g5_48 := congrFun hG 48
      have g5_49 := congrFun hG 49
      have g5_107 := congrFun hG 107
      have g5_113 := congrFun hG 113
      have g5_114 := congrFun hG 114
      have g5_115 := congrFun hG 115
      have g5_116 := congrFun hG 116
      have g5_117 := congrFun hG 117
      have g5_118 := congrFun hG 118
      clear hG
      try simp -implicitDefEqProofs (disch := first | omega | decide) only [seval, -Int.reducePow, -Nat.reducePow, cC, pv, binv, sArLRaw1, undef, List.cons_append, List.nil_append, g1, g2, g3, g4] at g5_4 g5_5 g5_6 g5_7 g5_12 g5_19 g5_20 g5_24 g5_47 g5_48 g5_49 g5_107 g5_113 g5_114 g5_115 g5_116 g5_117 g5_118
      have g5 := And.intro g5_4 (And.intro g5_5 (And.intro g5_6 (And.intro g5_7 (And.intro g5_12 (And.intro g5_19 (And.intro g5_20 (And.intro g5_24 (And.intro g5_47 (And.intro g5_48 (And.intro g5_49 (And.intro g5_107 (And.intro g5_113 (And.intro g5_114 (And.intro g5_115 (And.intro g5_116 (And.intro g5_117 g5_118))))))))))))))))
      simp -implicitDefEqProofs (maxSteps := 1000000) (disch := first | omega | decide) only [seval, -Int.reducePow, -Nat.reducePow, cC, pv, binv, sArLRaw1, undef, List.cons_append, List.nil_append, g1, g2, g3, g5]
      refine callV_grp [10, 11, 12] [0, 1, 2, 3, 4, 5, 6, 7, 8, 9] (by decide) (fun _ : Unit => .int .i64 f1) (fun _ => mrL ⟨y.ml, y.bB, y.n, bs1⟩) (fun _ => True) (fun w hw hs => by
        have := rStore_any ⟨y.ml, y.bB, y.n, bs⟩ Y k wd v x.al.fr x.al.tk w hs hIn (by dsimp only; omega) hmbs hv
        dsimp only at this
        rw [hf1, hbs1] at this
        exact this) ?_
      intro _ _
      simp only [pickL, nth]
      refine ⟨by simp -implicitDefEqProofs (disch := first | omega | decide) only [seval, -Int.reducePow, -Nat.reducePow, cC, pv, binv, sArLRaw1, undef, List.cons_append, List.nil_append, g1, g2, g3, g5], vcm_gen fun G6 hG => ?_⟩
      have g6_4 := congrFun hG 4
      have g6_5 := congrFun hG 5
      have g6_6 := congrFun hG 6
      have g6_7 := congrFun hG 7
      have g6_12 := congrFun hG 12
      have g6_19 := congrFun hG 19
      have g6_20 := congrFun hG 20
      have g6_24 := congrFun hG 24
      have g6_47 := congrFun hG 47
      have g6_48 := congrFun hG 48
      have g6_49 := congrFun hG 49
      have g6_107 := congrFun hG 107
      have g6_113 := congrFun hG 113
      have g6_119 := congrFun hG 119
      clear hG
      try simp -implicitDefEqProofs (disch := first | omega | decide) only [seval, -Int.reducePow, -Nat.reducePow, cC, pv, binv, sArLRaw1, undef, List.cons_append, List.nil_append, g1, g2, g3, g5] at g6_4 g6_5 g6_6 g6_7 g6_12 g6_19 g6_20 g6_24 g6_47 g6_48 g6_49 g6_107 g6_113 g6_119
      have g6 := And.intro g6_4 (And.intro g6_5 (And.intro g6_6 (And.intro g6_7 (And.intro g6_12 (And.intro g6_19 (And.intro g6_20 (And.intro g6_24 (And.intro g6_47 (And.intro g6_48 (And.intro g6_49 (And.intro g6_107 (And.intro g6_113 g6_119))))))))))))
      simp -implicitDefEqProofs (maxSteps := 1000000) (disch := first | omega | decide) only [seval, -Int.reducePow, -Nat.reducePow, cC, pv, binv, sArLRaw1, undef, List.cons_append, List.nil_append, g1, g2, g3, g6]
      refine callV_grp [3, 4, 5, 6, 7] [0, 1, 2, 8, 9, 10, 11, 12] (by decide) (fun _ : Unit => .int .i64 f2) (fun _ => arL ⟨x.al, x.bR, x.bB, x.N, bs2⟩) (fun _ => True) (fun w hw hs => by
        have := arCopy_any ⟨x.al, x.bR, x.bB, x.N, bs1⟩ y.ml.us Y k d wd nn w hs hP.inv (by omega) hlbs1
        dsimp only at this
        rw [hf2, hbs2] at this
        exact this) ?_
      intro _ _
      simp only [pickL, nth]
      refine ⟨by simp -implicitDefEqProofs (disch := first | omega | decide) only [seval, -Int.reducePow, -Nat.reducePow, cC, pv, binv, sArLRaw1, undef, List.cons_append, List.nil_append, g1, g2, g3, g6], vcm_gen fun G7 hG => ?_⟩
      have g7_4 := congrFun hG 4
      have g7_5 := congrFun hG 5
      have g7_6 := congrFun hG 6
      have g7_7 := congrFun hG 7
      have g7_12 := congrFun hG 12
      have g7_19 := congrFun hG 19
      have g7_20 := congrFun hG 20
      have g7_24 := congrFun hG 24
      have g7_47 := congrFun hG 47
      have g7_48 := congrFun hG 48
      have g7_49 := congrFun hG 49
      have g7_122 := congrFun hG 122
      have g7_129 := congrFun hG 129
      have g7_130 := congrFun hG 130
      have g7_131 := congrFun hG 131
      have g7_132 := congrFun hG 132
      have g7_133 := congrFun hG 133
      have g7_134 := congrFun hG 134
      have g7_135 := congrFun hG 135
      clear hG
      try simp -implicitDefEqProofs (disch := first | omega | decide) only [seval, -Int.reducePow, -Nat.reducePow, cC, pv, binv, sArLRaw1, undef, List.cons_append, List.nil_append, g1, g2, g3, g6] at g7_4 g7_5 g7_6 g7_7 g7_12 g7_19 g7_20 g7_24 g7_47 g7_48 g7_49 g7_122 g7_129 g7_130 g7_131 g7_132 g7_133 g7_134 g7_135
      have g7 := And.intro g7_4 (And.intro g7_5 (And.intro g7_6 (And.intro g7_7 (And.intro g7_12 (And.intro g7_19 (And.intro g7_20 (And.intro g7_24 (And.intro g7_47 (And.intro g7_48 (And.intro g7_49 (And.intro g7_122 (And.intro g7_129 (And.intro g7_130 (And.intro g7_131 (And.intro g7_132 (And.intro g7_133 (And.intro g7_134 g7_135)))))))))))))))))
      simp -implicitDefEqProofs (maxSteps := 1000000) (disch := first | omega | decide) only [seval, -Int.reducePow, -Nat.reducePow, cC, pv, binv, sArLRaw1, undef, List.cons_append, List.nil_append, g1, g2, g3, g7]
      refine callV_grp [5, 6, 7] [0, 1, 2, 3, 4, 8, 9, 10, 11, 12] (by decide) (fun _ : Unit => .int .i64 f2) (fun _ => mrL ⟨y.ml, y.bB, y.n, bs2⟩) (fun _ => True) (fun w hw hs => by
        have := rCopy_any ⟨y.ml, y.bB, y.n, bs1⟩ Y k d wd nn x.al.fr x.al.tk w hs hIn (by dsimp only; omega) hmbs1
        dsimp only at this
        rw [hf2, hbs2] at this
        exact this) ?_
      intro _ _
      simp only [pickL, nth]
      refine ⟨by simp -implicitDefEqProofs (disch := first | omega | decide) only [seval, -Int.reducePow, -Nat.reducePow, cC, pv, binv, sArLRaw1, undef, List.cons_append, List.nil_append, g1, g2, g3, g7], vcm_gen fun G8 hG => ?_⟩
      have g8_4 := congrFun hG 4
      have g8_5 := congrFun hG 5
      have g8_6 := congrFun hG 6
      have g8_7 := congrFun hG 7
      have g8_12 := congrFun hG 12
      have g8_19 := congrFun hG 19
      have g8_20 := congrFun hG 20
      have g8_24 := congrFun hG 24
      have g8_47 := congrFun hG 47
      have g8_48 := congrFun hG 48
      have g8_49 := congrFun hG 49
      have g8_122 := congrFun hG 122
      have g8_129 := congrFun hG 129
      have g8_136 := congrFun hG 136
      clear hG
      try simp -implicitDefEqProofs (disch := first | omega | decide) only [seval, -Int.reducePow, -Nat.reducePow, cC, pv, binv, sArLRaw1, undef, List.cons_append, List.nil_append, g1, g2, g3, g7] at g8_4 g8_5 g8_6 g8_7 g8_12 g8_19 g8_20 g8_24 g8_47 g8_48 g8_49 g8_122 g8_129 g8_136
      have g8 := And.intro g8_4 (And.intro g8_5 (And.intro g8_6 (And.intro g8_7 (And.intro g8_12 (And.intro g8_19 (And.intro g8_20 (And.intro g8_24 (And.intro g8_47 (And.intro g8_48 (And.intro g8_49 (And.intro g8_122 (And.intro g8_129 g8_136))))))))))))
      simp -implicitDefEqProofs (maxSteps := 1000000) (disch := first | omega | decide) only [seval, -Int.reducePow, -Nat.reducePow, cC, pv, binv, sArLRaw1, undef, List.cons_append, List.nil_append, g1, g2, g3, g8]
      refine callV_grp [3, 4, 5, 6, 7] [0, 1, 2, 8, 9, 10, 11, 12] (by decide) (fun _ : Unit => .int .i64 f3) (fun _ => arL ⟨x.al, x.bR, x.bB, x.N, bs3⟩) (fun _ => True) (fun w hw hs => by
        have := arCopy_any ⟨x.al, x.bR, x.bB, x.N, bs2⟩ y.ml.us d k Y wd nn w hs hP.inv (by omega) hlbs2
        dsimp only at this
        rw [hf3, hbs3] at this
        exact this) ?_
      intro _ _
      simp only [pickL, nth]
      refine ⟨by simp -implicitDefEqProofs (disch := first | omega | decide) only [seval, -Int.reducePow, -Nat.reducePow, cC, pv, binv, sArLRaw1, undef, List.cons_append, List.nil_append, g1, g2, g3, g8], vcm_gen fun G9 hG => ?_⟩
      have g9_4 := congrFun hG 4
      have g9_5 := congrFun hG 5
      have g9_6 := congrFun hG 6
      have g9_7 := congrFun hG 7
      have g9_12 := congrFun hG 12
      have g9_19 := congrFun hG 19
      have g9_20 := congrFun hG 20
      have g9_24 := congrFun hG 24
      have g9_47 := congrFun hG 47
      have g9_48 := congrFun hG 48
      have g9_49 := congrFun hG 49
      have g9_139 := congrFun hG 139
      have g9_146 := congrFun hG 146
      have g9_147 := congrFun hG 147
      have g9_148 := congrFun hG 148
      have g9_149 := congrFun hG 149
      have g9_150 := congrFun hG 150
      have g9_151 := congrFun hG 151
      have g9_152 := congrFun hG 152
      clear hG
      try simp -implicitDefEqProofs (disch := first | omega | decide) only [seval, -Int.reducePow, -Nat.reducePow, cC, pv, binv, sArLRaw1, undef, List.cons_append, List.nil_append, g1, g2, g3, g8] at g9_4 g9_5 g9_6 g9_7 g9_12 g9_19 g9_20 g9_24 g9_47 g9_48 g9_49 g9_139 g9_146 g9_147 g9_148 g9_149 g9_150 g9_151 g9_152
      have g9 := And.intro g9_4 (And.intro g9_5 (And.intro g9_6 (And.intro g9_7 (And.intro g9_12 (And.intro g9_19 (And.intro g9_20 (And.intro g9_24 (And.intro g9_47 (And.intro g9_48 (And.intro g9_49 (And.intro g9_139 (And.intro g9_146 (And.intro g9_147 (And.intro g9_148 (And.intro g9_149 (And.intro g9_150 (And.intro g9_151 g9_152)))))))))))))))))
      simp -implicitDefEqProofs (maxSteps := 1000000) (disch := first | omega | decide) only [seval, -Int.reducePow, -Nat.reducePow, cC, pv, binv, sArLRaw1, undef, List.cons_append, List.nil_append, g1, g2, g3, g9]
      refine callV_grp [5, 6, 7] [0, 1, 2, 3, 4, 8, 9, 10, 11, 12] (by decide) (fun _ : Unit => .int .i64 f3) (fun _ => mrL ⟨y.ml, y.bB, y.n, bs3⟩) (fun _ => True) (fun w hw hs => by
        have := rCopy_any ⟨y.ml, y.bB, y.n, bs2⟩ d k Y wd nn x.al.fr x.al.tk w hs hIn (by dsimp only; omega) hmbs2
        dsimp only at this
        rw [hf3, hbs3] at this
        exact this) ?_
      intro _ _
      simp only [pickL, nth]
      refine ⟨by simp -implicitDefEqProofs (disch := first | omega | decide) only [seval, -Int.reducePow, -Nat.reducePow, cC, pv, binv, sArLRaw1, undef, List.cons_append, List.nil_append, g1, g2, g3, g9], vcm_gen fun G10 hG => ?_⟩
      have g10_4 := congrFun hG 4
      have g10_5 := congrFun hG 5
      have g10_6 := congrFun hG 6
      have g10_7 := congrFun hG 7
      have g10_12 := congrFun hG 12
      have g10_19 := congrFun hG 19
      have g10_20 := congrFun hG 20
      have g10_24 := congrFun hG 24
      have g10_47 := congrFun hG 47
      have g10_48 := congrFun hG 48
      have g10_49 := congrFun hG 49
      have g10_139 := congrFun hG 139
      have g10_146 := congrFun hG 146
      have g10_153 := congrFun hG 153
      clear hG
      try simp -implicitDefEqProofs (disch := first | omega | decide) only [seval, -Int.reducePow, -Nat.reducePow, cC, pv, binv, sArLRaw1, undef, List.cons_append, List.nil_append, g1, g2, g3, g9] at g10_4 g10_5 g10_6 g10_7 g10_12 g10_19 g10_20 g10_24 g10_47 g10_48 g10_49 g10_139 g10_146 g10_153
      have g10 := And.intro g10_4 (And.intro g10_5 (And.intro g10_6 (And.intro g10_7 (And.intro g10_12 (And.intro g10_19 (And.intro g10_20 (And.intro g10_24 (And.intro g10_47 (And.intro g10_48 (And.intro g10_49 (And.intro g10_139 (And.intro g10_146 g10_153))))))))))))
      simp -implicitDefEqProofs (maxSteps := 1000000) (disch := first | omega | decide) only [seval, -Int.reducePow, -Nat.reducePow, cC, pv, binv, sArLRaw1, undef, List.cons_append, List.nil_append, g1, g2, g3, g10]
      refine And.intro ?_ ?_
      · intro bT hbT hfT
        refine And.intro ?_ ?_
        · refine callV_grp [4, 5, 6, 7, 8] [1, 2, 3, 9, 10, 11, 12, 13] (by decide) (fun _ : Unit => .int .i64 f4) (fun _ => arL ⟨x.al, x.bR, x.bB, x.N, bs4⟩) (fun _ => True) (fun w hw hs => by
            have := arWrite_any ⟨x.al, x.bR, x.bB, x.N, bs3⟩ y.ml.us Y k (some ⟨bT, 0, none⟩) 2 2 [1, 2] w hs hP.inv (by omega) hlbs3 (Sl.of_blk hw (.head _) (by simp [byt]) (by omega)) (fun _ a ha hf => by cases ha; obtain ⟨r, hr5, hrb⟩ := List.mem_flatMap.1 hf; exact (hw.pick (ix := [0, 4, 5, 6, 7, 8]) (by decide)).foot_apart hr5 (by simp [Res.foot]) hrb)
            dsimp only at this
            rw [hf4, hbs4] at this
            exact this) ?_
          intro _ _
          simp only [pickL, nth]
          simp -implicitDefEqProofs (maxSteps := 1000000) (disch := first | omega | decide) only [seval, -Int.reducePow, -Nat.reducePow, cC, pv, binv, sArLRaw1, undef, List.cons_append, List.nil_append, g1, g2, g3, g10]
          intro bU hbU hfU
          refine callV_grp [6, 7, 8] [1, 2, 3, 4, 5, 9, 10, 11, 12, 13] (by decide) (fun _ : Unit => .int .i64 f4) (fun _ => mrL ⟨y.ml, y.bB, y.n, bs4⟩) (fun _ => True) (fun w hw hs => by
            have := rWrite_any ⟨y.ml, y.bB, y.n, bs3⟩ Y k (some ⟨bU, 0, none⟩) 2 2 [1, 2] x.al.fr x.al.tk w hs hIn (by dsimp only; omega) hmbs3 (Sl.of_blk hw (.head _) (by simp [byt]) (by omega)) (fun _ a ha hf => by cases ha; obtain ⟨r, hr5, hrb⟩ := List.mem_flatMap.1 hf; exact (hw.pick (ix := [0, 6, 7, 8]) (by decide)).foot_apart hr5 (by simp [Res.foot]) hrb)
            dsimp only at this
            rw [hf4, hbs4] at this
            exact this) ?_
          intro _ _
          simp only [pickL, nth]
          simp -implicitDefEqProofs (maxSteps := 1000000) (disch := first | omega | decide) only [seval, -Int.reducePow, -Nat.reducePow, cC, pv, binv, sArLRaw1, undef, List.cons_append, List.nil_append, g1, g2, g3, g10]
          refine ⟨[11, 12, 3, 4, 5, 6, 7, 0, 1, 2], by decide, ?_⟩
          simp only [pickL, nth]
        · intro bU hbU hfU
          refine callV_grp [5, 6, 7, 8, 9] [0, 2, 3, 4, 10, 11, 12, 13, 14] (by decide) (fun _ : Unit => .int .i64 f4) (fun _ => arL ⟨x.al, x.bR, x.bB, x.N, bs4⟩) (fun _ => True) (fun w hw hs => by
            have := arWrite_any ⟨x.al, x.bR, x.bB, x.N, bs3⟩ y.ml.us Y k (some ⟨bT, 0, none⟩) 2 2 [1, 2] w hs hP.inv (by omega) hlbs3 (Sl.of_blk hw (.tail _ (.head _)) (by simp [byt]) (by omega)) (fun _ a ha hf => by cases ha; obtain ⟨r, hr5, hrb⟩ := List.mem_flatMap.1 hf; exact (hw.pick (ix := [1, 5, 6, 7, 8, 9]) (by decide)).foot_apart hr5 (by simp [Res.foot]) hrb)
            dsimp only at this
            rw [hf4, hbs4] at this
            exact this) ?_
          intro _ _
          simp only [pickL, nth]
          simp -implicitDefEqProofs (maxSteps := 1000000) (disch := first | omega | decide) only [seval, -Int.reducePow, -Nat.reducePow, cC, pv, binv, sArLRaw1, undef, List.cons_append, List.nil_append, g1, g2, g3, g10]
          refine callV_grp [6, 7, 8] [0, 1, 2, 3, 4, 9, 10, 11, 12, 13] (by decide) (fun _ : Unit => .int .i64 f4) (fun _ => mrL ⟨y.ml, y.bB, y.n, bs4⟩) (fun _ => True) (fun w hw hs => by
            have := rWrite_any ⟨y.ml, y.bB, y.n, bs3⟩ Y k (some ⟨bU, 0, none⟩) 2 2 [1, 2] x.al.fr x.al.tk w hs hIn (by dsimp only; omega) hmbs3 (Sl.of_blk hw (.tail _ (.tail _ (.tail _ (.tail _ (.tail _ (.head _)))))) (by simp [byt]) (by omega)) (fun _ a ha hf => by cases ha; obtain ⟨r, hr5, hrb⟩ := List.mem_flatMap.1 hf; exact (hw.pick (ix := [5, 6, 7, 8]) (by decide)).foot_apart hr5 (by simp [Res.foot]) hrb)
            dsimp only at this
            rw [hf4, hbs4] at this
            exact this) ?_
          intro _ _
          simp only [pickL, nth]
          simp -implicitDefEqProofs (maxSteps := 1000000) (disch := first | omega | decide) only [seval, -Int.reducePow, -Nat.reducePow, cC, pv, binv, sArLRaw1, undef, List.cons_append, List.nil_append, g1, g2, g3, g10]
          refine ⟨[11, 12, 3, 4, 5, 6, 7, 0, 1, 2], by decide, ?_⟩
          simp only [pickL, nth]
      · intro bU hbU hfU
        intro bT hbT hfT
        refine callV_grp [5, 6, 7, 8, 9] [1, 2, 3, 4, 10, 11, 12, 13, 14] (by decide) (fun _ : Unit => .int .i64 f4) (fun _ => arL ⟨x.al, x.bR, x.bB, x.N, bs4⟩) (fun _ => True) (fun w hw hs => by
          have := arWrite_any ⟨x.al, x.bR, x.bB, x.N, bs3⟩ y.ml.us Y k (some ⟨bT, 0, none⟩) 2 2 [1, 2] w hs hP.inv (by omega) hlbs3 (Sl.of_blk hw (.head _) (by simp [byt]) (by omega)) (fun _ a ha hf => by cases ha; obtain ⟨r, hr5, hrb⟩ := List.mem_flatMap.1 hf; exact (hw.pick (ix := [0, 5, 6, 7, 8, 9]) (by decide)).foot_apart hr5 (by simp [Res.foot]) hrb)
          dsimp only at this
          rw [hf4, hbs4] at this
          exact this) ?_
        intro _ _
        simp only [pickL, nth]
        simp -implicitDefEqProofs (maxSteps := 1000000) (disch := first | omega | decide) only [seval, -Int.reducePow, -Nat.reducePow, cC, pv, binv, sArLRaw1, undef, List.cons_append, List.nil_append, g1, g2, g3, g10]
        refine callV_grp [6, 7, 8] [0, 1, 2, 3, 4, 9, 10, 11, 12, 13] (by decide) (fun _ : Unit => .int .i64 f4) (fun _ => mrL ⟨y.ml, y.bB, y.n, bs4⟩) (fun _ => True) (fun w hw hs => by
          have := rWrite_any ⟨y.ml, y.bB, y.n, bs3⟩ Y k (some ⟨bU, 0, none⟩) 2 2 [1, 2] x.al.fr x.al.tk w hs hIn (by dsimp only; omega) hmbs3 (Sl.of_blk hw (.tail _ (.tail _ (.tail _ (.tail _ (.tail _ (.head _)))))) (by simp [byt]) (by omega)) (fun _ a ha hf => by cases ha; obtain ⟨r, hr5, hrb⟩ := List.mem_flatMap.1 hf; exact (hw.pick (ix := [5, 6, 7, 8]) (by decide)).foot_apart hr5 (by simp [Res.foot]) hrb)
          dsimp only at this
          rw [hf4, hbs4] at this
          exact this) ?_
        intro _ _
        simp only [pickL, nth]
        simp -implicitDefEqProofs (maxSteps := 1000000) (disch := first | omega | decide) only [seval, -Int.reducePow, -Nat.reducePow, cC, pv, binv, sArLRaw1, undef, List.cons_append, List.nil_append, g1, g2, g3, g10]
        refine ⟨[11, 12, 3, 4, 5, 6, 7, 0, 1, 2], by decide, ?_⟩
        simp only [pickL, nth]
    intro G11 L' _ hF
    obtain ⟨q4, q5, q6, q7, q12, q19, q20, q47, q48, q49, q168, rfl⟩ := hF
    have g11_4 := q4.trans g3_4
    have g11_5 := q5.trans g3_5
    have g11_6 := q6.trans g3_6
    have g11_7 := q7.trans g3_7
    have g11_12 := q12.trans g3_12
    have g11_19 := q19.trans g3_19
    have g11_20 := q20.trans g3_20
    have g11_47 := q47.trans g3_47
    have g11_48 := q48.trans g3_48
    have g11_49 := q49.trans g3_49
    have g11_168 := q168
    clear q4 q5 q6 q7 q12 q19 q20 q47 q48 q49 q168
    have g11 := And.intro g11_4 (And.intro g11_5 (And.intro g11_6 (And.intro g11_7 (And.intro g11_12 (And.intro g11_19 (And.intro g11_20 (And.intro g11_47 (And.intro g11_48 (And.intro g11_49 g11_168)))))))))
    refine hK _ _ ?_
    clear hK K
    refine cv_cond ?_
    simp -implicitDefEqProofs (disch := first | omega | decide) only [seval, -Int.reducePow, -Nat.reducePow, cC, pv, binv, sArLRaw1, undef, List.cons_append, List.nil_append, g1, g2, g11]
    refine cv_skip ?_
    try simp only [blockQ, thenQ]
    refine hK _ _ ?_
    clear hK K
    refine cv_region_then rfl ?_
    simp -implicitDefEqProofs (disch := first | omega | decide) only [seval, -Int.reducePow, -Nat.reducePow, cC, pv, binv, sArLRaw1, undef, List.cons_append, List.nil_append, g1, g2, g11]
    refine ⟨⟨i + 1, bs4, ?_⟩, ?_⟩
    · simp -implicitDefEqProofs (disch := first | omega | decide) only [seval, -Int.reducePow, -Nat.reducePow, cC, pv, binv, sArLRaw1, undef, List.cons_append, List.nil_append, Int.natCast_add, g1, g2, g11]
      exact ⟨hP4, by omega⟩
    · simp only [intOf]; omega
  refine cv_exit ?_
  simp only [blockQ, thenQ, if_true, ite_true]
  clear hK K
  refine hK _ _ ?_
  clear hK K
  refine cv_seq_k fun K hK => ?_
  refine cv_region_then rfl ?_
  simp -implicitDefEqProofs (disch := first | omega | decide) only [seval, -Int.reducePow, -Nat.reducePow, cC, pv, binv, sArLRaw1, undef, List.cons_append, List.nil_append, g1, g2]
  refine callV_ret (fun w hw => arAwake_any w) ?_
  try simp -implicitDefEqProofs (disch := first | omega | decide) only [seval, -Int.reducePow, -Nat.reducePow, cC, pv, binv, sArLRaw1, undef, List.cons_append, List.nil_append, g1, g2]
  refine callV_ret (fun w hw => alike_any ⟨x.al, x.bR, x.bB, x.N, bs⟩ ⟨y.ml, y.bB, y.n, bs⟩ w hP (by dsimp only; omega) (hP.arW hw 2 3 4 5 6 rfl rfl rfl rfl rfl (by dsimp only; omega)) (hP.mrW hw 7 8 9 rfl rfl rfl (by dsimp only; omega))) ?_
  try simp -implicitDefEqProofs (disch := first | omega | decide) only [seval, -Int.reducePow, -Nat.reducePow, cC, pv, binv, sArLRaw1, undef, List.cons_append, List.nil_append, g1, g2]
  refine hK _ _ ?_
  clear hK K
  refine cv_ret ⟨_, (by simp -implicitDefEqProofs (disch := first | omega | decide) only [seval, -Int.reducePow, -Nat.reducePow, cC, pv, binv, sArLRaw1, undef, List.cons_append, List.nil_append, g1, g2]; rfl), fun w hw => ?_⟩
  exact ⟨rfl, hw.below⟩
end Go.Proofs.Ytfaanphjaghbpaa
