/- The law ArenaMoves, walked. -/
import Derived.Test.YtfaanphjaghbpaaArLLit
import Derived.Test.YtfaanphjaghbpaaWPlain
namespace Go.Proofs.Ytfaanphjaghbpaa
open Go.RowKit Go.Shelf
set_option linter.unusedVariables false
set_option linter.unusedSimpArgs false
set_option maxRecDepth 100000
theorem rnd32 : Sz.err 32 = 0 ∧ Sz.rnd 32 = 32 := by decide
set_option maxRecDepth 100000 in
theorem sArLMov1 : type_of% (And.intro (And.intro (And.intro @eBox.eq_1 @exV.eq_1) (And.intro @alL.eq_1 @arL.eq_1)) (And.intro (And.intro @Nat.mul_one @wrap_in) (And.intro @cMp @cM))) := (And.intro (And.intro (And.intro @eBox.eq_1 @exV.eq_1) (And.intro @alL.eq_1 @arL.eq_1)) (And.intro (And.intro @Nat.mul_one @wrap_in) (And.intro @cMp @cM)))
set_option maxHeartbeats 4000000 in
theorem arMoves_walk (W : World) (A : Option Addr) (n c : Nat) (l : List Nat) (hE : Sl W W.heap.size 1 A n c (byt l)) (hb : ∀ x ∈ l, x < 256) (to : Int) (hto : 0 ≤ to ∧ to ≤ 255) (fr : Int) (hfr' : 0 ≤ fr ∧ fr ≤ 255) (nn : Int) (hnn : 0 ≤ nn ∧ nn ≤ 255) :
    Calls Try.prog 4 #[.slice A n c, .int .u8 to, .int .u8 fr, .int .u8 nn] W fun e w' => e = .returned (.bool true) ∧ Below W.heap.size W w' := by
  have hfn := Ex.find_new (N := 64) (n := 32) rnd32.1 (by rw [rnd32.2]; omega) (by omega)
  rw [rnd32.2] at hfn
  obtain ⟨p, hp⟩ : ∃ p : Nat, to % 40 = (p : Int) := ⟨(to % 40).toNat, by omega⟩
  obtain ⟨q, hq⟩ : ∃ q : Nat, fr % 40 = (q : Int) := ⟨(fr % 40).toNat, by omega⟩
  obtain ⟨k, hk⟩ : ∃ k : Nat, nn % 40 = (k : Int) := ⟨(nn % 40).toNat, by omega⟩
  have hlen := byt_row hE.len
  have hcap := hE.cap
  have hmax := hE.max
  refine calls_cv (M := []) (n := 135) [.tmp 8] rfl Try.func4 rfl rfl (Nat.le_of_ble_eq_true rfl) (St.nil _ _) ?_
  refine cv_seq_k fun K hK => ?_
  refine cv_region_then rfl ?_
  simp -implicitDefEqProofs (disch := first | omega | decide) only [seval, -Int.reducePow, -Nat.reducePow, cC, pv, binv, sArLMov1, undef]
  refine hK _ _ ?_
  clear hK K
  refine cv_seq_k fun K hK => ?_
  refine cv_region_then rfl ?_
  simp -implicitDefEqProofs (disch := first | omega | decide) only [seval, -Int.reducePow, -Nat.reducePow, cC, pv, binv, sArLMov1, undef]
  refine callV_grp [] [] (by decide) (fun x : ArR => .tuple #[.pointer (some ⟨x.bR, 0, none⟩), .int .i64 0]) (fun x => arL x) (fun x => x.N = 64 ∧ x.bs = List.replicate 64 0 ∧ Ex.Inv (64 : Int) [] x.al.fr x.al.tk) (fun w hw hs => arNew_ok 64 w (by omega)) ?_
  rintro ⟨al, bR, bB, N, bs⟩ ⟨rfl, hbs, hI⟩
  dsimp only at hbs
  have hbl : bs.length = 64 := by rw [hbs]; simp
  clear hbs
  simp only [pickL, nth]
  simp -implicitDefEqProofs (disch := first | omega | decide) only [seval, -Int.reducePow, -Nat.reducePow, cC, pv, binv, sArLMov1, undef]
  refine hK _ _ ?_
  clear hK K
  have hfr := Inv_fr (N := 64) hI (by omega)
  dsimp only at hI hfr
  refine cv_seq_k fun K hK => ?_
  refine cv_seq_k fun K hK => ?_
  refine cv_region_then rfl ?_
  simp -implicitDefEqProofs (disch := first | omega | decide) only [seval, -Int.reducePow, -Nat.reducePow, cC, pv, binv, sArLMov1, undef]
  refine hK _ _ ?_
  clear hK K
  refine cv_cond ?_
  simp -implicitDefEqProofs (disch := first | omega | decide) only [seval, -Int.reducePow, -Nat.reducePow, cC, pv, binv, sArLMov1, undef]
  refine cv_skip ?_
  try simp only [blockQ, thenQ]
  refine hK _ _ ?_
  clear hK K
  refine cv_seq_k fun K hK => ?_
  refine cv_region_then rfl ?_
  simp -implicitDefEqProofs (disch := first | omega | decide) only [seval, -Int.reducePow, -Nat.reducePow, cC, pv, binv, sArLMov1, undef]
  refine callV_grp [0, 1, 2, 3, 4] [] (by decide) (fun _ : AlR => .tuple #[.agg #[.int .i64 0, .int .i64 32], .int .i64 0]) (fun y => arL ⟨y, bR, bB, 64, bs⟩) (fun y => y.bA = al.bA ∧ Ex.Inv (64 : Int) [⟨0, 32⟩] y.fr y.tk) (fun w hw hs => by
    refine (arAlloc_any ⟨al, bR, bB, 64, bs⟩ [] 32 w hs hI (by simp) hbl).mono ?_
    dsimp only
    rw [hfr, show ((64 : Nat) : Int) = 64 from rfl] at *
    rw [show Ex.findF [⟨0, 64⟩] 32 = (⟨0, 32⟩, 0) from hfn]
    rintro e w' ⟨y, rfl, ⟨h1, -, h3⟩, h4⟩
    exact ⟨y, rfl, ⟨h1, h3 rfl⟩, h4⟩) ?_
  intro y hy
  simp only [pickL, nth]
  simp -implicitDefEqProofs (disch := first | omega | decide) only [seval, -Int.reducePow, -Nat.reducePow, cC, pv, binv, sArLMov1, undef]
  intro b11 hb11 hf11
  refine hK _ _ ?_
  clear hK K
  have hfl : y.fr.length ≤ 500 := by have := hy.2.frLen; simp at this; omega
  obtain ⟨e, he⟩ : ∃ e : Ext, (⟨0, 32⟩ : Ext) = e := ⟨_, rfl⟩
  have heo : e.off = 0 := by rw [← he]
  have hel : e.len = 32 := by rw [← he]
  have hev : (Value.agg #[.int .i64 0, .int .i64 32]) = exV e := by rw [← he]; rfl
  have hmem : e ∈ [e] := by simp
  have hI2 := hy.2
  rw [he] at hI2
  refine cv_gen fun G1 hG => ?_
  have g1_0 := congrFun hG 0
  have g1_1 := congrFun hG 1
  have g1_2 := congrFun hG 2
  have g1_3 := congrFun hG 3
  have g1_9 := congrFun hG 9
  have g1_11 := congrFun hG 11
  clear hG
  try simp -implicitDefEqProofs (disch := first | omega | decide) only [seval, -Int.reducePow, -Nat.reducePow, cC, pv, binv, sArLMov1, undef] at g1_0 g1_1 g1_2 g1_3 g1_9 g1_11
  have g1 := And.intro g1_0 (And.intro g1_1 (And.intro g1_2 (And.intro g1_3 (And.intro g1_9 g1_11))))
  refine cv_seq_k fun K hK => ?_
  refine cv_cut (fun _ _ => True) (fun F' L' => ∃ (m : Nat), F' 0 = .slice A m c ∧ F' 1 = G1 1 ∧ F' 2 = G1 2 ∧ F' 3 = G1 3 ∧ F' 9 = G1 9 ∧ F' 11 = G1 11 ∧ L' = [.blk b11 28 [.int .i64 0, .int .i64 32], .blk bR 64 [.pointer (some ⟨y.bA, 0, none⟩), .slice (some ⟨bB, 0, none⟩) 64 64], .blk bB 5 (byt bs), .blk y.bA 99 [.slice y.FA y.fn y.fc, .map (some y.bm)], mpR y.bm y.tk, .row (.slice y.FA y.fn y.fc) 28 2 y.fn (exCells y.fr)] ∧ m ≤ n ∧ m ≤ 32) ?_ ?_
  · refine cv_seq_k fun K hK => ?_
    refine cv_region_then rfl ?_
    simp -implicitDefEqProofs (disch := first | omega | decide) only [seval, -Int.reducePow, -Nat.reducePow, cC, pv, binv, sArLMov1, undef, g1]
    refine hK _ _ ?_
    clear hK K
    refine cv_cond ?_
    simp -implicitDefEqProofs (disch := first | omega | decide) only [seval, -Int.reducePow, -Nat.reducePow, cC, pv, binv, sArLMov1, undef, g1]
    refine ⟨fun hc => ?_, fun hc => ?_⟩
    · have q1 := of_decide_eq_true hc
      refine cv_region_q rfl ?_
      simp -implicitDefEqProofs (disch := first | omega | decide) only [seval, -Int.reducePow, -Nat.reducePow, cC, pv, binv, sArLMov1, undef, g1]
      refine ⟨32, ?_⟩
      simp -implicitDefEqProofs (disch := first | omega | decide) only [seval, -Int.reducePow, -Nat.reducePow, cC, pv, binv, sArLMov1, undef, g1]
      omega
    · have q1 := of_decide_eq_false hc
      refine cv_skip ?_
      try simp only [blockQ, thenQ]
      simp -implicitDefEqProofs (disch := first | omega | decide) only [seval, -Int.reducePow, -Nat.reducePow, cC, pv, binv, sArLMov1, undef, g1]
      refine ⟨n, ?_⟩
      simp -implicitDefEqProofs (disch := first | omega | decide) only [seval, -Int.reducePow, -Nat.reducePow, cC, pv, binv, sArLMov1, undef, g1]
      omega
  intro G2 L' _ hF
  obtain ⟨m, q0, q1, q2, q3, q9, q11, rfl, ⟨hmn, hm32⟩⟩ := hF
  have g2_0 := q0
  have g2_1 := q1.trans g1_1
  have g2_2 := q2.trans g1_2
  have g2_3 := q3.trans g1_3
  have g2_9 := q9.trans g1_9
  have g2_11 := q11.trans g1_11
  clear q0 q1 q2 q3 q9 q11
  have g2 := And.intro g2_0 (And.intro g2_1 (And.intro g2_2 (And.intro g2_3 (And.intro g2_9 g2_11))))
  refine hK _ _ ?_
  clear hK K
  have hS := hE.btake hmn
  obtain ⟨lm, hlm⟩ : ∃ lm, l.take m = lm := ⟨_, rfl⟩
  rw [hlm] at hS
  have hlml := byt_row hS.len
  have hwe : wrErr [e] e 0 (m : Int) = 0 := by unfold wrErr; rw [if_pos hmem, hel, if_pos (by omega)]
  have hwF : wrF bs e 0 lm 0 = splice bs 0 lm := by unfold wrF; rw [if_pos rfl, heo]; rfl
  obtain ⟨bs1, hbs1⟩ : ∃ bs1, splice bs 0 lm = bs1 := ⟨_, rfl⟩
  have hbl1 : bs1.length = 64 := by rw [← hbs1, splice_len (by omega)]; exact hbl
  rw [hbs1] at hwF
  refine cv_seq_k fun K hK => ?_
  refine cv_region_then rfl ?_
  simp -implicitDefEqProofs (disch := first | omega | decide) only [seval, -Int.reducePow, -Nat.reducePow, cC, pv, binv, sArLMov1, undef, g2]
  rw [hev]
  refine callV_grp [1, 2, 3, 4, 5] [0] (by decide) (fun _ : Unit => .int .i64 0) (fun _ => arL ⟨y, bR, bB, 64, bs1⟩) (fun _ => True) (fun w hw hs => by
    have := arWrite_any ⟨y, bR, bB, 64, bs⟩ [e] e 0 A m c lm w hs hI2 (by simp) hbl (hS.at hw) (fun hm0 a ha hf => by
      obtain ⟨b, off, h1, h2, -⟩ := hS.cells hm0
      rw [ha] at h1
      cases h1
      obtain ⟨r, hr, hrb⟩ := List.mem_flatMap.1 hf
      have := (hw.own r (.tail _ hr) _ hrb).1
      simp at this
      omega)
    rw [hwe] at this
    dsimp only at this
    rw [hwF] at this
    exact this) ?_
  intro _ _
  simp only [pickL, nth]
  simp -implicitDefEqProofs (disch := first | omega | decide) only [seval, -Int.reducePow, -Nat.reducePow, cC, pv, binv, sArLMov1, undef, g2]
  refine hK _ _ ?_
  clear hK K
  have hrd1 : rdErr [e] e 0 32 = 0 := by unfold rdErr; rw [if_pos hmem, hel, if_neg (by decide), if_pos (by decide)]
  have hrf : ∀ b2 : List Nat, rdF b2 e 0 32 0 = b2.take 32 := fun b2 => by unfold rdF winF; rw [if_pos rfl, heo]; rfl
  refine cv_seq_k fun K hK => ?_
  refine cv_region_then rfl ?_
  simp -implicitDefEqProofs (disch := first | omega | decide) only [seval, -Int.reducePow, -Nat.reducePow, cC, pv, binv, sArLMov1, undef, g2]
  rw [hev]
  refine callV_row (fun A n c => .tuple #[.slice A n c, .int .i64 0]) (fun w hw => (by have := arRead_any ⟨y, bR, bB, 64, bs1⟩ [e] w e 0 32 (ArW.of (x := ⟨y, bR, bB, 64, bs1⟩) hw 0 1 2 3 4 rfl rfl rfl rfl rfl hfl hbl1 (by dsimp only; omega)) hI2; rw [hrd1, hrf] at this; exact this)) ?_
  intro A1 n1 c1 hl1 hr1
  simp -implicitDefEqProofs (disch := first | omega | decide) only [seval, -Int.reducePow, -Nat.reducePow, cC, pv, binv, sArLMov1, undef, g2]
  refine hK _ _ ?_
  clear hK K
  have hn1 : n1 = 32 := by have := byt_row hl1; rw [List.length_take] at this; dsimp only at this; omega
  subst hn1
  refine cv_rowA 0 rfl (by omega) fun g1 hAA hg1 hNN => ?_
  subst hAA
  simp only [List.eraseIdx_cons_zero, List.eraseIdx_cons_succ, neB_nil, neB_blk, neB_row, neB_snap, and_true, List.not_mem_nil, or_false] at hNN hg1
  replace hg1 := And.intro hg1 hNN
  clear hNN
  refine cv_gen fun G3 hG => ?_
  have g3_1 := congrFun hG 1
  have g3_2 := congrFun hG 2
  have g3_3 := congrFun hG 3
  have g3_9 := congrFun hG 9
  have g3_11 := congrFun hG 11
  have g3_13 := congrFun hG 13
  clear hG
  try simp -implicitDefEqProofs (disch := first | omega | decide) only [seval, -Int.reducePow, -Nat.reducePow, cC, pv, binv, sArLMov1, undef, g2] at g3_1 g3_2 g3_3 g3_9 g3_11 g3_13
  have g3 := And.intro g3_1 (And.intro g3_2 (And.intro g3_3 (And.intro g3_9 (And.intro g3_11 g3_13))))
  obtain ⟨F, hF⟩ : ∃ F, cpErr [e] e (p : Int) e (q : Int) (k : Int) = F := ⟨_, rfl⟩
  obtain ⟨bs2, hbs2⟩ : ∃ bs2, cpF bs1 e (p : Int) e (q : Int) (k : Int) F = bs2 := ⟨_, rfl⟩
  have hF2 : F = if p + k ≤ 32 ∧ q + k ≤ 32 then 0 else 7 := by
    rw [← hF]
    unfold cpErr
    rw [if_pos ⟨hmem, hmem⟩, if_neg (by omega), hel]
    by_cases hc : p + k ≤ 32 ∧ q + k ≤ 32
    · rw [if_pos (by omega), if_pos hc]
    · rw [if_neg (by omega), if_neg hc]
  have hbl2 : bs2.length = 64 := by
    rw [← hbs2]
    unfold cpF
    split
    · rename_i h0
      have hc : p + k ≤ 32 ∧ q + k ≤ 32 := by
        by_cases hc : p + k ≤ 32 ∧ q + k ≤ 32
        · exact hc
        · rw [if_neg hc] at hF2; omega
      rw [splice_len (by unfold winF; rw [heo]; simp only [List.length_take, List.length_drop]; omega)]
      exact hbl1
    · exact hbl1
  refine cv_seq_k fun K hK => ?_
  refine cv_region_then rfl ?_
  simp -implicitDefEqProofs (disch := first | omega | decide) only [seval, -Int.reducePow, -Nat.reducePow, cC, pv, binv, sArLMov1, undef, hp, hq, hk, g3]
  rw [hev]
  refine callV_grp [1, 2, 3, 4, 5] [0, 6] (by decide) (fun _ : Unit => .int .i64 F) (fun _ => arL ⟨y, bR, bB, 64, bs2⟩) (fun _ => True) (fun w hw hs => by
    have := arCopy_any ⟨y, bR, bB, 64, bs1⟩ [e] e (p : Int) e (q : Int) (k : Int) w hs hI2 (by simp) hbl1
    rw [hF] at this
    dsimp only at this
    rw [hbs2] at this
    exact this) ?_
  intro _ _
  simp only [pickL, nth]
  simp -implicitDefEqProofs (disch := first | omega | decide) only [seval, -Int.reducePow, -Nat.reducePow, cC, pv, binv, sArLMov1, undef, g3]
  refine hK _ _ ?_
  clear hK K
  refine cv_seq_k fun K hK => ?_
  refine cv_region_then rfl ?_
  simp -implicitDefEqProofs (disch := first | omega | decide) only [seval, -Int.reducePow, -Nat.reducePow, cC, pv, binv, sArLMov1, undef, g3]
  rw [hev]
  refine callV_row (fun A n c => .tuple #[.slice A n c, .int .i64 0]) (fun w hw => (by have := arRead_any ⟨y, bR, bB, 64, bs2⟩ [e] w e 0 32 (ArW.of (x := ⟨y, bR, bB, 64, bs2⟩) hw 0 1 2 3 4 rfl rfl rfl rfl rfl hfl hbl2 (by dsimp only; omega)) hI2; rw [hrd1, hrf] at this; exact this)) ?_
  intro A2 n2 c2 hl2 hr2
  simp -implicitDefEqProofs (disch := first | omega | decide) only [seval, -Int.reducePow, -Nat.reducePow, cC, pv, binv, sArLMov1, undef, g3]
  refine hK _ _ ?_
  clear hK K
  have hn2 : n2 = 32 := by have := byt_row hl2; rw [List.length_take] at this; dsimp only at this; omega
  subst hn2
  refine cv_rowA 0 rfl (by omega) fun g2 hAA hg2 hNN => ?_
  subst hAA
  simp only [List.eraseIdx_cons_zero, List.eraseIdx_cons_succ, neB_nil, neB_blk, neB_row, neB_snap, and_true, List.not_mem_nil, or_false] at hNN hg2
  replace hg2 := And.intro hg2 hNN
  clear hNN
  refine cv_gen fun G4 hG => ?_
  have g4_1 := congrFun hG 1
  have g4_2 := congrFun hG 2
  have g4_3 := congrFun hG 3
  have g4_13 := congrFun hG 13
  have g4_15 := congrFun hG 15
  have g4_16 := congrFun hG 16
  clear hG
  try simp -implicitDefEqProofs (disch := first | omega | decide) only [seval, -Int.reducePow, -Nat.reducePow, cC, pv, binv, sArLMov1, undef, g3] at g4_1 g4_2 g4_3 g4_13 g4_15 g4_16
  have g4 := And.intro g4_1 (And.intro g4_2 (And.intro g4_3 (And.intro g4_13 (And.intro g4_15 g4_16))))
  refine cv_seq_k fun K hK => ?_
  refine cv_seq_k fun K hK => ?_
  refine cv_region_then rfl ?_
  simp -implicitDefEqProofs (disch := first | omega | decide) only [seval, -Int.reducePow, -Nat.reducePow, cC, pv, binv, sArLMov1, undef, g4]
  refine hK _ _ ?_
  clear hK K
  refine cv_cond ?_
  simp -implicitDefEqProofs (disch := first | omega | decide) only [seval, -Int.reducePow, -Nat.reducePow, cC, pv, binv, sArLMov1, undef, g4]
  refine cv_skip ?_
  try simp only [blockQ, thenQ]
  refine hK _ _ ?_
  clear hK K
  obtain ⟨L1, hL1⟩ : ∃ L1, bs1.take 32 = L1 := ⟨_, rfl⟩
  obtain ⟨L2, hL2⟩ : ∃ L2, bs2.take 32 = L2 := ⟨_, rfl⟩
  rw [hL1, hL2]
  have hLl1 : L1.length = 32 := by rw [← hL1, List.length_take]; omega
  have hLl2 : L2.length = 32 := by rw [← hL2, List.length_take]; omega
  refine cv_gen fun G5 hG => ?_
  have g5_1 := congrFun hG 1
  have g5_2 := congrFun hG 2
  have g5_3 := congrFun hG 3
  have g5_13 := congrFun hG 13
  have g5_15 := congrFun hG 15
  have g5_16 := congrFun hG 16
  clear hG
  try simp -implicitDefEqProofs (disch := first | omega | decide) only [seval, -Int.reducePow, -Nat.reducePow, cC, pv, binv, sArLMov1, undef, g4] at g5_1 g5_2 g5_3 g5_13 g5_15 g5_16
  have g5 := And.intro g5_1 (And.intro g5_2 (And.intro g5_3 (And.intro g5_13 (And.intro g5_15 g5_16))))
  by_cases hin : p + k ≤ 32 ∧ q + k ≤ 32
  · rw [if_pos hin] at hF2
    subst hF2
    have a1 : decide ((32 : Int) < (p : Int) + (k : Int)) = false := decide_eq_false (by omega)
    have a2 : decide ((32 : Int) < (q : Int) + (k : Int)) = false := decide_eq_false (by omega)
    have hget : ∀ i : Nat, i < k → L2[p + i]? = L1[q + i]? := fun i hi => by
      have hw : (winF bs1 e (q : Int) (k : Int)).length = k := by unfold winF; rw [heo]; simp only [List.length_take, List.length_drop]; omega
      rw [← hL2, ← hL1, List.getElem?_take_of_lt (by omega), List.getElem?_take_of_lt (by omega), ← hbs2]
      unfold cpF
      rw [if_pos rfl, heo, show ((0 : Int) + (p : Int)).toNat = p by omega, splice_get (by omega), if_neg (by omega), if_pos (by omega), show p + i - p = i by omega]
      unfold winF
      rw [heo, show ((0 : Int) + (q : Int)).toNat = q by omega, Int.toNat_natCast, List.getElem?_take_of_lt hi, List.getElem?_drop]
    refine cv_seq_k fun K hK => ?_
    refine cv_seq_k fun K hK => ?_
    refine cv_region_then rfl ?_
    simp -implicitDefEqProofs (disch := first | omega | decide) only [seval, -Int.reducePow, -Nat.reducePow, cC, pv, binv, sArLMov1, undef, hp, hq, hk, a1, a2, g5]
    refine hK _ _ ?_
    clear hK K
    refine cv_cond ?_
    simp -implicitDefEqProofs (disch := first | omega | decide) only [seval, -Int.reducePow, -Nat.reducePow, cC, pv, binv, sArLMov1, undef, g5]
    refine cv_skip ?_
    try simp only [blockQ, thenQ]
    refine hK _ _ ?_
    clear hK K
    refine cv_seq_k fun K hK => ?_
    refine cv_seq_k fun K hK => ?_
    refine cv_region_then rfl ?_
    simp -implicitDefEqProofs (disch := first | omega | decide) only [seval, -Int.reducePow, -Nat.reducePow, cC, pv, binv, sArLMov1, undef, g5]
    refine hK _ _ ?_
    clear hK K
    refine cv_gen fun G6 hG => ?_
    have g6_1 := congrFun hG 1
    have g6_2 := congrFun hG 2
    have g6_3 := congrFun hG 3
    have g6_13 := congrFun hG 13
    have g6_15 := congrFun hG 15
    have g6_16 := congrFun hG 16
    have g6_18 := congrFun hG 18
    clear hG
    try simp -implicitDefEqProofs (disch := first | omega | decide) only [seval, -Int.reducePow, -Nat.reducePow, cC, pv, binv, sArLMov1, undef, g5] at g6_1 g6_2 g6_3 g6_13 g6_15 g6_16 g6_18
    have g6 := And.intro g6_1 (And.intro g6_2 (And.intro g6_3 (And.intro g6_13 (And.intro g6_15 (And.intro g6_16 g6_18)))))
    refine cv_pick [0, 6] (by decide) ?_
    simp only [pickL, nth]
    refine cv_block ?_
    refine cv_loop (fun F' L' => ∃ (i : Nat), F' 1 = G6 1 ∧ F' 2 = G6 2 ∧ F' 3 = G6 3 ∧ F' 13 = G6 13 ∧ F' 15 = G6 15 ∧ F' 16 = G6 16 ∧ F' 18 = .int .i64 (i : Int) ∧ L' = [.row (.slice (some ⟨g2, 0, none⟩) 32 c2) 5 1 32 (byt L2), .row (.slice (some ⟨g1, 0, none⟩) 32 c1) 5 1 32 (byt L1)] ∧ i ≤ k) (fun F' L' => 60 - (intOf (F' 18)).toNat) ?_ ?_
    · refine ⟨0, ?_⟩
      simp -implicitDefEqProofs (disch := first | omega | decide) only [seval, -Int.reducePow, -Nat.reducePow, cC, pv, binv, sArLMov1, undef, g6]
      omega
    intro G7 L' hI
    obtain ⟨i, q1, q2, q3, q13, q15, q16, q18, rfl, hi⟩ := hI
    have g7_1 := q1.trans g6_1
    have g7_2 := q2.trans g6_2
    have g7_3 := q3.trans g6_3
    have g7_13 := q13.trans g6_13
    have g7_15 := q15.trans g6_15
    have g7_16 := q16.trans g6_16
    have g7_18 := q18
    clear q1 q2 q3 q13 q15 q16 q18
    have g7 := And.intro g7_1 (And.intro g7_2 (And.intro g7_3 (And.intro g7_13 (And.intro g7_15 (And.intro g7_16 g7_18)))))
    refine cv_seq_k fun K hK => ?_
    refine cv_seq_k fun K hK => ?_
    refine cv_region_then rfl ?_
    simp -implicitDefEqProofs (disch := first | omega | decide) only [seval, -Int.reducePow, -Nat.reducePow, cC, pv, binv, sArLMov1, undef, hk, g6, g7]
    refine hK _ _ ?_
    clear hK K
    refine cv_cond ?_
    simp -implicitDefEqProofs (disch := first | omega | decide) only [seval, -Int.reducePow, -Nat.reducePow, cC, pv, binv, sArLMov1, undef, g6, g7]
    refine ⟨fun hc => ?_, fun hc => ?_⟩
    · refine cv_skip ?_
      try simp only [blockQ, thenQ]
      have hik : i < k := by have := of_decide_eq_true ‹decide ((i : Int) < (k : Int)) = true›; omega
      have hg := hget i hik
      obtain ⟨z, hz⟩ := some_at (l := L1) (i := q + i) (by omega)
      rw [hz] at hg
      refine hK _ _ ?_
      clear hK K
      refine cv_seq_k fun K hK => ?_
      refine cv_block ?_
      refine cv_seq_k fun K hK => ?_
      refine cv_draw [(true, 0), (true, 1), (true, 2), (true, 3), (true, 4), (true, 5), (true, 6), (true, 7), (true, 8), (true, 9), (true, 10), (true, 11), (true, 12), (true, 13), (true, 14), (true, 15), (true, 16)] [] mixA rfl (by kernel_rfl) (by kernel_rfl) rfl rfl ?_
      have o1 : ((p : Int) + (i : Int)).toNat = p + i := by omega
      have o2 : ((q : Int) + (i : Int)).toNat = q + i := by omega
      simp -implicitDefEqProofs (disch := first | omega | decide) only [seval, -Int.reducePow, -Nat.reducePow, cC, pv, binv, sArLMov1, undef, hp, hq, o1, o2, g6, g7]
      refine ⟨_, ld_row1 (m := 1) (v := .int .u8 (z : Int)) (i := p + i) (.head _) rfl (byt_get hg), fun tok htok => ?_⟩
      subst htok
      simp -implicitDefEqProofs (disch := first | omega | decide) only [seval, -Int.reducePow, -Nat.reducePow, cC, pv, binv, sArLMov1, undef, hp, hq, o1, o2, g6, g7]
      refine ⟨_, ld_row1 (m := 1) (v := .int .u8 (z : Int)) (i := q + i) (.tail _ (.head _)) rfl (byt_get hz), fun tok htok => ?_⟩
      subst htok
      simp -implicitDefEqProofs (disch := first | omega | decide) only [seval, -Int.reducePow, -Nat.reducePow, cC, pv, binv, sArLMov1, undef, hp, hq, o1, o2, g6, g7]
      refine hK _ _ ?_
      clear hK K
      refine cv_cond ?_
      simp -implicitDefEqProofs (disch := first | omega | decide) only [seval, -Int.reducePow, -Nat.reducePow, cC, pv, binv, sArLMov1, undef, g6, g7]
      refine cv_skip ?_
      try simp only [blockQ, thenQ]
      refine hK _ _ ?_
      clear hK K
      refine cv_region_then rfl ?_
      simp -implicitDefEqProofs (disch := first | omega | decide) only [seval, -Int.reducePow, -Nat.reducePow, cC, pv, binv, sArLMov1, undef, wrap_in, g6, g7]
      refine ⟨⟨i + 1, ?_⟩, ?_⟩
      · simp -implicitDefEqProofs (disch := first | omega | decide) only [seval, -Int.reducePow, -Nat.reducePow, cC, pv, binv, sArLMov1, undef, Int.natCast_add, g6, g7]
        omega
      · simp only [intOf]; omega
    refine cv_exit ?_
    simp only [blockQ, thenQ, if_true, ite_true]
    clear hK K
    refine hK _ _ ?_
    clear hK K
    refine cv_seq_k fun K hK => ?_
    refine cv_region_then rfl ?_
    simp -implicitDefEqProofs (disch := first | omega | decide) only [seval, -Int.reducePow, -Nat.reducePow, cC, pv, binv, sArLMov1, undef, g6, g7]
    refine callV_ret (fun w hw => arAwake_any w) ?_
    try simp -implicitDefEqProofs (disch := first | omega | decide) only [seval, -Int.reducePow, -Nat.reducePow, cC, pv, binv, sArLMov1, undef, g6, g7]
    refine hK _ _ ?_
    clear hK K
    refine cv_ret ⟨_, (by simp -implicitDefEqProofs (disch := first | omega | decide) only [seval, -Int.reducePow, -Nat.reducePow, cC, pv, binv, sArLMov1, undef, g6, g7]; rfl), fun w hw => ?_⟩
    exact ⟨rfl, hw.below⟩
  · rw [if_neg hin] at hF2
    subst hF2
    have hL : L2 = L1 := by
      rw [← hL2, ← hL1, ← hbs2]
      unfold cpF
      rw [if_neg (by decide)]
    subst hL
    by_cases h1 : p + k ≤ 32
    · have a1 : decide ((32 : Int) < (p : Int) + (k : Int)) = false := decide_eq_false (by omega)
      have a2 : decide ((32 : Int) < (q : Int) + (k : Int)) = true := decide_eq_true (by omega)
      refine cv_seq_k fun K hK => ?_
      refine cv_seq_k fun K hK => ?_
      refine cv_region_then rfl ?_
      simp -implicitDefEqProofs (disch := first | omega | decide) only [seval, -Int.reducePow, -Nat.reducePow, cC, pv, binv, sArLMov1, undef, hp, hq, hk, a1, a2, g5]
      refine hK _ _ ?_
      clear hK K
      refine cv_cond ?_
      simp -implicitDefEqProofs (disch := first | omega | decide) only [seval, -Int.reducePow, -Nat.reducePow, cC, pv, binv, sArLMov1, undef, g5]
      refine cv_seq_k fun K hK => ?_
      refine cv_region_then rfl ?_
      simp -implicitDefEqProofs (disch := first | omega | decide) only [seval, -Int.reducePow, -Nat.reducePow, cC, pv, binv, sArLMov1, undef, g5]
      refine callV_ret (fun w hw => arAwake_any w) ?_
      try simp -implicitDefEqProofs (disch := first | omega | decide) only [seval, -Int.reducePow, -Nat.reducePow, cC, pv, binv, sArLMov1, undef, g5]
      refine ⟨_, fun w hw => hw.strk 0 rfl, fun tok htok => ?_⟩
      subst htok
      simp -implicitDefEqProofs (disch := first | omega | decide) only [seval, -Int.reducePow, -Nat.reducePow, cC, pv, binv, sArLMov1, undef, g5]
      refine ⟨_, fun w hw => hw.strk 6 rfl, fun tok htok => ?_⟩
      subst htok
      simp -implicitDefEqProofs (disch := first | omega | decide) only [seval, -Int.reducePow, -Nat.reducePow, cC, pv, binv, sArLMov1, undef, g5]
      refine hK _ _ ?_
      clear hK K
      refine cv_ret ⟨_, (by simp -implicitDefEqProofs (disch := first | omega | decide) only [seval, -Int.reducePow, -Nat.reducePow, cC, pv, binv, sArLMov1, undef, g5]; rfl), fun w hw => ?_⟩
      exact ⟨rfl, hw.below⟩
    · have a1 : decide ((32 : Int) < (p : Int) + (k : Int)) = true := decide_eq_true (by omega)
      refine cv_seq_k fun K hK => ?_
      refine cv_seq_k fun K hK => ?_
      refine cv_region_then rfl ?_
      simp -implicitDefEqProofs (disch := first | omega | decide) only [seval, -Int.reducePow, -Nat.reducePow, cC, pv, binv, sArLMov1, undef, hp, hq, hk, a1, g5]
      refine hK _ _ ?_
      clear hK K
      refine cv_cond ?_
      simp -implicitDefEqProofs (disch := first | omega | decide) only [seval, -Int.reducePow, -Nat.reducePow, cC, pv, binv, sArLMov1, undef, g5]
      refine cv_seq_k fun K hK => ?_
      refine cv_region_then rfl ?_
      simp -implicitDefEqProofs (disch := first | omega | decide) only [seval, -Int.reducePow, -Nat.reducePow, cC, pv, binv, sArLMov1, undef, g5]
      refine callV_ret (fun w hw => arAwake_any w) ?_
      try simp -implicitDefEqProofs (disch := first | omega | decide) only [seval, -Int.reducePow, -Nat.reducePow, cC, pv, binv, sArLMov1, undef, g5]
      refine ⟨_, fun w hw => hw.strk 0 rfl, fun tok htok => ?_⟩
      subst htok
      simp -implicitDefEqProofs (disch := first | omega | decide) only [seval, -Int.reducePow, -Nat.reducePow, cC, pv, binv, sArLMov1, undef, g5]
      refine ⟨_, fun w hw => hw.strk 6 rfl, fun tok htok => ?_⟩
      subst htok
      simp -implicitDefEqProofs (disch := first | omega | decide) only [seval, -Int.reducePow, -Nat.reducePow, cC, pv, binv, sArLMov1, undef, g5]
      refine hK _ _ ?_
      clear hK K
      refine cv_ret ⟨_, (by simp -implicitDefEqProofs (disch := first | omega | decide) only [seval, -Int.reducePow, -Nat.reducePow, cC, pv, binv, sArLMov1, undef, g5]; rfl), fun w hw => ?_⟩
      exact ⟨rfl, hw.below⟩
end Go.Proofs.Ytfaanphjaghbpaa
