/- The law ArenaLittle, walked. -/
import Derived.Test.YtfaanphjaghbpaaArAw
namespace Go.Proofs.Ytfaanphjaghbpaa
open Go.RowKit Go.Shelf
set_option linter.unusedVariables false
set_option linter.unusedSimpArgs false
set_option maxRecDepth 100000
theorem win_splice {bs ns : List Nat} {p : Nat} (h : p + ns.length ≤ bs.length) : ((splice bs p ns).drop p).take ns.length = ns := by
  apply List.ext_getElem?
  intro j
  rw [List.getElem?_take]
  split
  · rename_i hj
    rw [List.getElem?_drop, splice_get h, if_neg (by omega), if_pos (by omega), show p + j - p = j by omega]
  · rename_i hj
    rw [List.getElem?_eq_none (by omega)]
theorem win_one {bs ns : List Nat} {p i c : Nat} (h : p + ns.length ≤ bs.length) (hc : ns[i]? = some c) : ((splice bs p ns).drop (p + i)).take 1 = [c] := by
  have hi := (List.getElem?_eq_some_iff.1 hc).1
  apply List.ext_getElem?
  intro j
  rw [List.getElem?_take]
  match j with
  | 0 => rw [if_pos (by omega), List.getElem?_drop, splice_get h, if_neg (by omega), if_pos (by omega), show p + i + 0 - p = i by omega, hc]; rfl
  | j + 1 => rw [if_neg (by omega)]; simp
theorem rnd60 : ∀ m : Nat, m < 60 → Sz.err (1 + (m : Int)) = 0 ∧ 16 ≤ Sz.rnd (1 + (m : Int)) ∧ Sz.rnd (1 + (m : Int)) ≤ 64 := by decide
theorem width4 (j : Nat) (h : j < 4) : ∃ ww : Nat, IntKind.i64.wrap (1 * 2 ^ j) = (ww : Int) ∧ (ww = 1 ∨ ww = 2 ∨ ww = 4 ∨ ww = 8) := by
  match j, h with
  | 0, _ => exact ⟨1, by decide, by omega⟩
  | 1, _ => exact ⟨2, by decide, by omega⟩
  | 2, _ => exact ⟨4, by decide, by omega⟩
  | 3, _ => exact ⟨8, by decide, by omega⟩
theorem top_bytes (v ww : Nat) (hv : v < 18446744073709551616) (h : ww = 1 ∨ ww = 2 ∨ ww = 4 ∨ ww = 8) : ∃ vn : Nat, (v : Int) / 2 ^ (64 - 8 * (ww : Int)).toNat = (vn : Int) ∧ vn < 256 ^ ww ∧ vn < 18446744073709551616 := by
  have key : ∀ a b : Nat, 2 ^ a * 256 ^ b = 18446744073709551616 → (v : Int) / 2 ^ a = ((v / 2 ^ a : Nat) : Int) ∧ v / 2 ^ a < 256 ^ b := fun a b hab => by
    refine ⟨by push_cast; rfl, ?_⟩
    rw [Nat.div_lt_iff_lt_mul (Nat.pow_pos (by omega)), Nat.mul_comm, hab]
    exact hv
  rcases h with rfl | rfl | rfl | rfl
  · obtain ⟨h1, h2⟩ := key 56 1 (by decide)
    exact ⟨_, h1, h2, by have := Nat.div_le_self v (2 ^ 56); omega⟩
  · obtain ⟨h1, h2⟩ := key 48 2 (by decide)
    exact ⟨_, h1, h2, by have := Nat.div_le_self v (2 ^ 48); omega⟩
  · obtain ⟨h1, h2⟩ := key 32 4 (by decide)
    exact ⟨_, h1, h2, by have := Nat.div_le_self v (2 ^ 32); omega⟩
  · obtain ⟨h1, h2⟩ := key 0 8 (by decide)
    exact ⟨_, h1, h2, by have := Nat.div_le_self v (2 ^ 0); omega⟩
theorem bitsI64 : ((IntKind.i64.bits : Nat) : Int) = 64 := rfl
theorem wraps_u64' (n : Int) (h0 : 0 ≤ n) (h1 : n < 2 ^ 64) : IntKind.u64.wrap n = n := by rw [IntKind.wrap_u64]; omega
theorem and255 (c : Nat) (h : c < 18446744073709551616) : bits .and .u64 (c : Int) 255 = ((c % 256 : Nat) : Int) := by
  have := bits_mask .u64 64 (by decide) wraps_u64' 8 (by decide) (c : Int) (by omega) (by omega)
  rw [show ((2 : Int) ^ 8 - 1) = 255 by decide, show ((2 : Int) ^ 8) = 256 by decide] at this
  rw [this]
  omega
set_option maxRecDepth 100000 in
theorem sArLLit1 : type_of% (And.intro (And.intro (And.intro @eBox.eq_1 @exV.eq_1) (And.intro @alL.eq_1 @arL.eq_1)) (And.intro (And.intro @Nat.mul_one @wrap_in) (And.intro @cMp @cM))) := (And.intro (And.intro (And.intro @eBox.eq_1 @exV.eq_1) (And.intro @alL.eq_1 @arL.eq_1)) (And.intro (And.intro @Nat.mul_one @wrap_in) (And.intro @cMp @cM)))
set_option maxHeartbeats 4000000 in
theorem arLittle_walk (W : World) (n : Int) (hn : 0 ≤ n ∧ n ≤ 255) (at' : Int) (hat : 0 ≤ at' ∧ at' ≤ 255) (wd : Int) (hwd : 0 ≤ wd ∧ wd ≤ 255) (v : Int) (hv : 0 ≤ v ∧ v ≤ 18446744073709551615) :
    Calls Try.prog 3 #[.int .u8 n, .int .u8 at', .int .u8 wd, .int .u64 v] W fun e w' => e = .returned (.bool true) ∧ Below W.heap.size W w' := by
  obtain ⟨m, hm⟩ : ∃ m : Nat, n % 60 = (m : Int) := ⟨(n % 60).toNat, by omega⟩
  have hm60 : m < 60 := by omega
  obtain ⟨r1, r2, r3⟩ := rnd60 m hm60
  obtain ⟨R, hR⟩ : ∃ R : Nat, Sz.rnd (1 + (m : Int)) = (R : Int) := ⟨(Sz.rnd (1 + (m : Int))).toNat, by omega⟩
  have hfn := Ex.find_new (N := 256) (n := 1 + (m : Int)) r1 (by omega) (by omega)
  rw [hR] at r2 r3 hfn
  obtain ⟨p, rfl⟩ : ∃ p : Nat, at' = (p : Int) := ⟨at'.toNat, by omega⟩
  obtain ⟨j, hj⟩ : ∃ j : Nat, wd % 4 = (j : Int) := ⟨(wd % 4).toNat, by omega⟩
  obtain ⟨ww, hww, hw4⟩ := width4 j (by omega)
  obtain ⟨v, rfl⟩ : ∃ v' : Nat, v = (v' : Int) := ⟨v.toNat, by omega⟩
  obtain ⟨vn, hvn, hvl, hvl2⟩ := top_bytes v ww (by omega) hw4
  refine calls_cv (M := []) (n := 113) [.tmp 8] rfl Try.func3 rfl rfl (Nat.le_of_ble_eq_true rfl) (St.nil _ _) ?_
  refine cv_seq_k fun K hK => ?_
  refine cv_region_then rfl ?_
  simp -implicitDefEqProofs (disch := first | omega | decide) only [seval, -Int.reducePow, -Nat.reducePow, cC, pv, binv, sArLLit1, undef]
  refine hK _ _ ?_
  clear hK K
  refine cv_seq_k fun K hK => ?_
  refine cv_region_then rfl ?_
  simp -implicitDefEqProofs (disch := first | omega | decide) only [seval, -Int.reducePow, -Nat.reducePow, cC, pv, binv, sArLLit1, undef]
  refine callV_grp [] [] (by decide) (fun x : ArR => .tuple #[.pointer (some ⟨x.bR, 0, none⟩), .int .i64 0]) (fun x => arL x) (fun x => x.N = 256 ∧ x.bs = List.replicate 256 0 ∧ Ex.Inv (256 : Int) [] x.al.fr x.al.tk) (fun w hw hs => arNew_ok 256 w (by omega)) ?_
  rintro ⟨al, bR, bB, N, bs⟩ ⟨rfl, hbs, hI⟩
  dsimp only at hbs
  have hbl : bs.length = 256 := by rw [hbs]; simp
  have hb256 : ∀ b ∈ bs, b < 256 := by rw [hbs]; intro b hb; rw [List.eq_of_mem_replicate hb]; omega
  clear hbs
  simp only [pickL, nth]
  simp -implicitDefEqProofs (disch := first | omega | decide) only [seval, -Int.reducePow, -Nat.reducePow, cC, pv, binv, sArLLit1, undef]
  refine hK _ _ ?_
  clear hK K
  have hfr := Inv_fr (N := 256) hI (by omega)
  dsimp only at hI hfr
  refine cv_seq_k fun K hK => ?_
  refine cv_seq_k fun K hK => ?_
  refine cv_region_then rfl ?_
  simp -implicitDefEqProofs (disch := first | omega | decide) only [seval, -Int.reducePow, -Nat.reducePow, cC, pv, binv, sArLLit1, undef]
  refine hK _ _ ?_
  clear hK K
  refine cv_cond ?_
  simp -implicitDefEqProofs (disch := first | omega | decide) only [seval, -Int.reducePow, -Nat.reducePow, cC, pv, binv, sArLLit1, undef]
  refine cv_skip ?_
  try simp only [blockQ, thenQ]
  refine hK _ _ ?_
  clear hK K
  refine cv_seq_k fun K hK => ?_
  refine cv_region_then rfl ?_
  simp -implicitDefEqProofs (disch := first | omega | decide) only [seval, -Int.reducePow, -Nat.reducePow, cC, pv, binv, sArLLit1, undef, hm]
  refine callV_grp [0, 1, 2, 3, 4] [] (by decide) (fun _ : AlR => .tuple #[.agg #[.int .i64 0, .int .i64 (R : Int)], .int .i64 0]) (fun y => arL ⟨y, bR, bB, 256, bs⟩) (fun y => y.bA = al.bA ∧ Ex.Inv (256 : Int) [⟨0, (R : Int)⟩] y.fr y.tk) (fun w hw hs => by
    refine (arAlloc_any ⟨al, bR, bB, 256, bs⟩ [] (1 + (m : Int)) w hs hI (by simp) hbl).mono ?_
    dsimp only
    rw [hfr, show ((256 : Nat) : Int) = 256 from rfl] at *
    rw [show Ex.findF [⟨0, 256⟩] (1 + (m : Int)) = (⟨0, (R : Int)⟩, 0) from hfn]
    rintro e w' ⟨y, rfl, ⟨h1, -, h3⟩, h4⟩
    exact ⟨y, rfl, ⟨h1, h3 rfl⟩, h4⟩) ?_
  intro y hy
  simp only [pickL, nth]
  simp -implicitDefEqProofs (disch := first | omega | decide) only [seval, -Int.reducePow, -Nat.reducePow, cC, pv, binv, sArLLit1, undef]
  intro b11 hb11 hf11
  refine hK _ _ ?_
  clear hK K
  refine cv_seq_k fun K hK => ?_
  refine cv_region_then rfl ?_
  simp -implicitDefEqProofs (disch := first | omega | decide) only [seval, -Int.reducePow, -Nat.reducePow, cC, pv, binv, sArLLit1, undef, hj, Int.toNat_natCast, hww, bitsI64]
  refine hK _ _ ?_
  clear hK K
  refine cv_seq_k fun K hK => ?_
  refine cv_region_then rfl ?_
  simp -implicitDefEqProofs (disch := first | omega | decide) only [seval, -Int.reducePow, -Nat.reducePow, cC, pv, binv, sArLLit1, undef, bits64, hvn]
  refine hK _ _ ?_
  clear hK K
  have hfl : y.fr.length ≤ 500 := by have := hy.2.frLen; simp at this; omega
  obtain ⟨e, he⟩ : ∃ e : Ext, (⟨0, (R : Int)⟩ : Ext) = e := ⟨_, rfl⟩
  have heo : e.off = 0 := by rw [← he]
  have hel : e.len = (R : Int) := by rw [← he]
  have hev : (Value.agg #[.int .i64 0, .int .i64 (R : Int)]) = exV e := by rw [← he]; rfl
  have hmem : e ∈ [e] := by simp
  have hI2 := hy.2
  rw [he] at hI2
  have hlB := leB_len vn ww
  have hst7 : stErr [e] e (p : Int) (ww : Int) vn = if p + ww ≤ R then 0 else 7 := by
    have h1 : vn / 256 ^ ww = 0 := Nat.div_eq_of_lt hvl
    have hf : fErr [e] e (p : Int) (ww : Int) = if p + ww ≤ R then 0 else 7 := by
      unfold fErr
      rw [if_pos hmem, if_pos (by omega), hel]
      by_cases hc : p + ww ≤ R
      · rw [if_pos (by omega), if_pos hc]
      · rw [if_neg (by omega), if_neg hc]
    unfold stErr
    rw [hf, Int.toNat_natCast, h1]
    by_cases hc : p + ww ≤ R
    · rw [if_pos hc, if_pos rfl, if_neg (by simp)]
    · rw [if_neg hc, if_neg (by decide)]
  have hstF : stF bs e (p : Int) (ww : Int) vn 0 = splice bs p (leB vn ww) := by
    unfold stF
    rw [if_pos rfl, heo, Int.toNat_natCast, show ((0 : Int) + (p : Int)).toNat = p by omega]
  refine cv_gen fun G1 hG => ?_
  have g1_1 := congrFun hG 1
  have g1_3 := congrFun hG 3
  have g1_9 := congrFun hG 9
  have g1_11 := congrFun hG 11
  have g1_13 := congrFun hG 13
  clear hG
  try simp -implicitDefEqProofs (disch := first | omega | decide) only [seval, -Int.reducePow, -Nat.reducePow, cC, pv, binv, sArLLit1, undef] at g1_1 g1_3 g1_9 g1_11 g1_13
  have g1 := And.intro g1_1 (And.intro g1_3 (And.intro g1_9 (And.intro g1_11 g1_13)))
  by_cases hin : p + ww ≤ R
  · rw [if_pos hin] at hst7
    have hbl2 : (splice bs p (leB vn ww)).length = 256 := by rw [splice_len (by omega)]; exact hbl
    have hb2 := splice_lt (p := p) hb256 (leB_lt (v := vn) (w := ww))
    refine cv_seq_k fun K hK => ?_
    refine cv_region_then rfl ?_
    simp -implicitDefEqProofs (disch := first | omega | decide) only [seval, -Int.reducePow, -Nat.reducePow, cC, pv, binv, sArLLit1, undef, g1]
    rw [hev]
    refine callV_grp [1, 2, 3, 4, 5] [0] (by decide) (fun _ : Unit => .int .i64 0) (fun _ => arL ⟨y, bR, bB, 256, splice bs p (leB vn ww)⟩) (fun _ => True) (fun w hw hs => by
      have := arStore_any ⟨y, bR, bB, 256, bs⟩ [e] e (p : Int) (ww : Int) vn w hs hI2 (by simp) hbl hvl2
      rw [hst7] at this
      dsimp only at this
      rw [hstF] at this
      exact this) ?_
    intro _ _
    simp only [pickL, nth]
    simp -implicitDefEqProofs (disch := first | omega | decide) only [seval, -Int.reducePow, -Nat.reducePow, cC, pv, binv, sArLLit1, undef, g1]
    refine hK _ _ ?_
    clear hK K
    have a1 : decide ((R : Int) < (p : Int) + (ww : Int)) = false := decide_eq_false (by omega)
    refine cv_seq_k fun K hK => ?_
    refine cv_seq_k fun K hK => ?_
    refine cv_region_then rfl ?_
    simp -implicitDefEqProofs (disch := first | omega | decide) only [seval, -Int.reducePow, -Nat.reducePow, cC, pv, binv, sArLLit1, undef, a1, g1]
    refine hK _ _ ?_
    clear hK K
    refine cv_cond ?_
    simp -implicitDefEqProofs (disch := first | omega | decide) only [seval, -Int.reducePow, -Nat.reducePow, cC, pv, binv, sArLLit1, undef, g1]
    refine cv_skip ?_
    try simp only [blockQ, thenQ]
    refine hK _ _ ?_
    clear hK K
    have hf0 : fErr [e] e (p : Int) (ww : Int) = 0 := by unfold fErr; rw [if_pos hmem, if_pos (by omega), hel, if_pos (by omega)]
    have hld : loadF (splice bs p (leB vn ww)) e (p : Int) (ww : Int) 0 = vn := by
      unfold loadF winF
      have := win_splice (bs := bs) (p := p) (ns := leB vn ww) (by omega)
      rw [hlB] at this
      rw [if_pos rfl, heo, Int.toNat_natCast, show ((0 : Int) + (p : Int)).toNat = p by omega, this, leN_leB, Nat.mod_eq_of_lt hvl]
    refine cv_seq_k fun K hK => ?_
    refine cv_region_then rfl ?_
    simp -implicitDefEqProofs (disch := first | omega | decide) only [seval, -Int.reducePow, -Nat.reducePow, cC, pv, binv, sArLLit1, undef, g1]
    rw [hev]
    refine callV_ret (fun w hw => (by have := arLoad_any ⟨y, bR, bB, 256, splice bs p (leB vn ww)⟩ [e] w e (p : Int) (ww : Int) (ArW.of (x := ⟨y, bR, bB, 256, splice bs p (leB vn ww)⟩) hw 0 1 2 3 4 rfl rfl rfl rfl rfl hfl hbl2 (by dsimp only; omega)) hI2 hb2; rw [hf0, hld] at this; exact this)) ?_
    try simp -implicitDefEqProofs (disch := first | omega | decide) only [seval, -Int.reducePow, -Nat.reducePow, cC, pv, binv, sArLLit1, undef, g1]
    refine hK _ _ ?_
    clear hK K
    refine cv_gen fun G2 hG => ?_
    have g2_1 := congrFun hG 1
    have g2_3 := congrFun hG 3
    have g2_9 := congrFun hG 9
    have g2_11 := congrFun hG 11
    have g2_13 := congrFun hG 13
    have g2_14 := congrFun hG 14
    have g2_15 := congrFun hG 15
    have g2_16 := congrFun hG 16
    clear hG
    try simp -implicitDefEqProofs (disch := first | omega | decide) only [seval, -Int.reducePow, -Nat.reducePow, cC, pv, binv, sArLLit1, undef, g1] at g2_1 g2_3 g2_9 g2_11 g2_13 g2_14 g2_15 g2_16
    have g2 := And.intro g2_1 (And.intro g2_3 (And.intro g2_9 (And.intro g2_11 (And.intro g2_13 (And.intro g2_14 (And.intro g2_15 g2_16))))))
    refine cv_seq_k fun K hK => ?_
    refine cv_seq_k fun K hK => ?_
    refine cv_region_then rfl ?_
    simp -implicitDefEqProofs (disch := first | omega | decide) only [seval, -Int.reducePow, -Nat.reducePow, cC, pv, binv, sArLLit1, undef, g2]
    refine hK _ _ ?_
    clear hK K
    refine cv_cond ?_
    simp -implicitDefEqProofs (disch := first | omega | decide) only [seval, -Int.reducePow, -Nat.reducePow, cC, pv, binv, sArLLit1, undef, g2]
    refine cv_skip ?_
    try simp only [blockQ, thenQ]
    refine hK _ _ ?_
    clear hK K
    refine cv_seq_k fun K hK => ?_
    refine cv_seq_k fun K hK => ?_
    refine cv_region_then rfl ?_
    simp -implicitDefEqProofs (disch := first | omega | decide) only [seval, -Int.reducePow, -Nat.reducePow, cC, pv, binv, sArLLit1, undef, g2]
    refine hK _ _ ?_
    clear hK K
    refine cv_gen fun G3 hG => ?_
    have g3_1 := congrFun hG 1
    have g3_3 := congrFun hG 3
    have g3_9 := congrFun hG 9
    have g3_11 := congrFun hG 11
    have g3_13 := congrFun hG 13
    have g3_17 := congrFun hG 17
    clear hG
    try simp -implicitDefEqProofs (disch := first | omega | decide) only [seval, -Int.reducePow, -Nat.reducePow, cC, pv, binv, sArLLit1, undef, g2] at g3_1 g3_3 g3_9 g3_11 g3_13 g3_17
    have g3 := And.intro g3_1 (And.intro g3_3 (And.intro g3_9 (And.intro g3_11 (And.intro g3_13 g3_17))))
    refine cv_block ?_
    refine cv_loop (fun F' L' => ∃ (i : Nat), F' 1 = G3 1 ∧ F' 3 = G3 3 ∧ F' 9 = G3 9 ∧ F' 11 = G3 11 ∧ F' 13 = G3 13 ∧ F' 17 = .int .i64 (i : Int) ∧ L' = [.blk bR 64 [.pointer (some ⟨y.bA, 0, none⟩), .slice (some ⟨bB, 0, none⟩) 256 256], .blk bB 5 (byt (splice bs p (leB vn ww))), .blk y.bA 99 [.slice y.FA y.fn y.fc, .map (some y.bm)], mpR y.bm y.tk, .row (.slice y.FA y.fn y.fc) 28 2 y.fn (exCells y.fr), .blk b11 28 [.int .i64 0, .int .i64 (R : Int)]] ∧ i ≤ ww) (fun F' L' => 20 - (intOf (F' 17)).toNat) ?_ ?_
    · refine ⟨0, ?_⟩
      simp -implicitDefEqProofs (disch := first | omega | decide) only [seval, -Int.reducePow, -Nat.reducePow, cC, pv, binv, sArLLit1, undef, g3]
      omega
    intro G4 L' hI
    obtain ⟨i, q1, q3, q9, q11, q13, q17, rfl, hi⟩ := hI
    have g4_1 := q1.trans g3_1
    have g4_3 := q3.trans g3_3
    have g4_9 := q9.trans g3_9
    have g4_11 := q11.trans g3_11
    have g4_13 := q13.trans g3_13
    have g4_17 := q17
    clear q1 q3 q9 q11 q13 q17
    have g4 := And.intro g4_1 (And.intro g4_3 (And.intro g4_9 (And.intro g4_11 (And.intro g4_13 g4_17))))
    refine cv_apart fun hap => ?_
    simp only [factL_nil, factL_blk, factL_row, neR_nil, neR_blk, neR_row, neB_nil, neB_blk, neB_row, and_true, true_and, List.not_mem_nil, or_false, sArLLit1, undef] at hap
    obtain hap2 := hap
    refine cv_seq_k fun K hK => ?_
    refine cv_seq_k fun K hK => ?_
    refine cv_region_then rfl ?_
    simp -implicitDefEqProofs (disch := first | omega | decide) only [seval, -Int.reducePow, -Nat.reducePow, cC, pv, binv, sArLLit1, undef, g3, g4]
    refine hK _ _ ?_
    clear hK K
    refine cv_cond ?_
    simp -implicitDefEqProofs (disch := first | omega | decide) only [seval, -Int.reducePow, -Nat.reducePow, cC, pv, binv, sArLLit1, undef, g3, g4]
    refine ⟨fun hc => ?_, fun hc => ?_⟩
    · refine cv_skip ?_
      try simp only [blockQ, thenQ]
      have hit : i < ww := by have := of_decide_eq_true ‹decide ((i : Int) < (ww : Int)) = true›; omega
      have hg := leB_get (v := vn) hit
      have hf1 : fErr [e] e ((p : Int) + (i : Int)) 1 = 0 := by unfold fErr; rw [if_pos hmem, if_pos (by omega), hel, if_pos (by omega)]
      have hl1 : loadF (splice bs p (leB vn ww)) e ((p : Int) + (i : Int)) 1 0 = vn / 256 ^ i % 256 := by
        unfold loadF winF
        have := win_one (bs := bs) (p := p) (by omega) hg
        rw [if_pos rfl, heo, show ((0 : Int) + ((p : Int) + (i : Int))).toNat = p + i by omega, show ((1 : Int)).toNat = 1 from rfl, this]
        simp [leN]
      have o6 : ((8 : Int) * (i : Int)).toNat = 8 * i := by omega
      have o7 := shr_nat vn i
      have o8 := and255 (vn / 256 ^ i) (by have := Nat.div_le_self vn (256 ^ i); omega)
      refine hK _ _ ?_
      clear hK K
      refine cv_seq_k fun K hK => ?_
      refine cv_block ?_
      refine cv_seq_k fun K hK => ?_
      refine cv_region_then rfl ?_
      simp -implicitDefEqProofs (disch := first | omega | decide) only [seval, -Int.reducePow, -Nat.reducePow, cC, pv, binv, sArLLit1, undef, g3, g4]
      rw [hev]
      refine callV_ret (fun w hw => (by have := arLoad_any ⟨y, bR, bB, 256, splice bs p (leB vn ww)⟩ [e] w e ((p : Int) + (i : Int)) 1 (ArW.of (x := ⟨y, bR, bB, 256, splice bs p (leB vn ww)⟩) hw 0 1 2 3 4 rfl rfl rfl rfl rfl hfl hbl2 (by dsimp only; omega)) hI2 hb2; rw [hf1, hl1] at this; exact this)) ?_
      try simp -implicitDefEqProofs (disch := first | omega | decide) only [seval, -Int.reducePow, -Nat.reducePow, cC, pv, binv, sArLLit1, undef, g3, g4]
      refine hK _ _ ?_
      clear hK K
      refine cv_seq_k fun K hK => ?_
      refine cv_region_then rfl ?_
      simp -implicitDefEqProofs (disch := first | omega | decide) only [seval, -Int.reducePow, -Nat.reducePow, cC, pv, binv, sArLLit1, undef, bits64, o6, o7, o8, g3, g4]
      refine hK _ _ ?_
      clear hK K
      refine cv_cond ?_
      simp -implicitDefEqProofs (disch := first | omega | decide) only [seval, -Int.reducePow, -Nat.reducePow, cC, pv, binv, sArLLit1, undef, g3, g4]
      refine cv_skip ?_
      try simp only [blockQ, thenQ]
      refine hK _ _ ?_
      clear hK K
      refine cv_region_then rfl ?_
      simp -implicitDefEqProofs (disch := first | omega | decide) only [seval, -Int.reducePow, -Nat.reducePow, cC, pv, binv, sArLLit1, undef, wrap_in, g3, g4]
      refine ⟨⟨i + 1, ?_⟩, ?_⟩
      · simp -implicitDefEqProofs (disch := first | omega | decide) only [seval, -Int.reducePow, -Nat.reducePow, cC, pv, binv, sArLLit1, undef, Int.natCast_add, g3, g4]
        omega
      · simp only [intOf]; omega
    refine cv_exit ?_
    simp only [blockQ, thenQ, if_true, ite_true]
    clear hK K
    refine hK _ _ ?_
    clear hK K
    refine cv_seq_k fun K hK => ?_
    refine cv_region_then rfl ?_
    simp -implicitDefEqProofs (disch := first | omega | decide) only [seval, -Int.reducePow, -Nat.reducePow, cC, pv, binv, sArLLit1, undef, g3, g4]
    refine callV_ret (fun w hw => arAwake_any w) ?_
    try simp -implicitDefEqProofs (disch := first | omega | decide) only [seval, -Int.reducePow, -Nat.reducePow, cC, pv, binv, sArLLit1, undef, g3, g4]
    refine hK _ _ ?_
    clear hK K
    refine cv_ret ⟨_, (by simp -implicitDefEqProofs (disch := first | omega | decide) only [seval, -Int.reducePow, -Nat.reducePow, cC, pv, binv, sArLLit1, undef, g3, g4]; rfl), fun w hw => ?_⟩
    exact ⟨rfl, hw.below⟩
  · rw [if_neg hin] at hst7
    have hstF7 : stF bs e (p : Int) (ww : Int) vn 7 = bs := by unfold stF; rw [if_neg (by decide)]
    refine cv_seq_k fun K hK => ?_
    refine cv_region_then rfl ?_
    simp -implicitDefEqProofs (disch := first | omega | decide) only [seval, -Int.reducePow, -Nat.reducePow, cC, pv, binv, sArLLit1, undef, g1]
    rw [hev]
    refine callV_grp [1, 2, 3, 4, 5] [0] (by decide) (fun _ : Unit => .int .i64 7) (fun _ => arL ⟨y, bR, bB, 256, bs⟩) (fun _ => True) (fun w hw hs => by
      have := arStore_any ⟨y, bR, bB, 256, bs⟩ [e] e (p : Int) (ww : Int) vn w hs hI2 (by simp) hbl hvl2
      rw [hst7] at this
      dsimp only at this
      rw [hstF7] at this
      exact this) ?_
    intro _ _
    simp only [pickL, nth]
    simp -implicitDefEqProofs (disch := first | omega | decide) only [seval, -Int.reducePow, -Nat.reducePow, cC, pv, binv, sArLLit1, undef, g1]
    refine hK _ _ ?_
    clear hK K
    have a1 : decide ((R : Int) < (p : Int) + (ww : Int)) = true := decide_eq_true (by omega)
    refine cv_seq_k fun K hK => ?_
    refine cv_seq_k fun K hK => ?_
    refine cv_region_then rfl ?_
    simp -implicitDefEqProofs (disch := first | omega | decide) only [seval, -Int.reducePow, -Nat.reducePow, cC, pv, binv, sArLLit1, undef, a1, g1]
    refine hK _ _ ?_
    clear hK K
    refine cv_cond ?_
    simp -implicitDefEqProofs (disch := first | omega | decide) only [seval, -Int.reducePow, -Nat.reducePow, cC, pv, binv, sArLLit1, undef, g1]
    refine cv_seq_k fun K hK => ?_
    refine cv_region_then rfl ?_
    simp -implicitDefEqProofs (disch := first | omega | decide) only [seval, -Int.reducePow, -Nat.reducePow, cC, pv, binv, sArLLit1, undef, g1]
    refine callV_ret (fun w hw => arAwake_any w) ?_
    try simp -implicitDefEqProofs (disch := first | omega | decide) only [seval, -Int.reducePow, -Nat.reducePow, cC, pv, binv, sArLLit1, undef, g1]
    refine hK _ _ ?_
    clear hK K
    refine cv_ret ⟨_, (by simp -implicitDefEqProofs (disch := first | omega | decide) only [seval, -Int.reducePow, -Nat.reducePow, cC, pv, binv, sArLLit1, undef, g1]; rfl), fun w hw => ?_⟩
    exact ⟨rfl, hw.below⟩
end Go.Proofs.Ytfaanphjaghbpaa
