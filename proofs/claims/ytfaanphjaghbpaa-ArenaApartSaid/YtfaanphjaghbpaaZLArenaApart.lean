/- The law ArenaApart, walked. -/
import Derived.Test.YtfaanphjaghbpaaZ7
import Derived.Test.YtfaanphjaghbpaaZ5
namespace Go.Proofs.Ytfaanphjaghbpaa
open Go.RowKit Go.Shelf
set_option linter.unusedVariables false
set_option linter.unusedSimpArgs false
set_option maxRecDepth 100000
structure InE (e : Ext) (b0 bs : List Nat) : Prop where
  len : bs.length = b0.length
  lt : ∀ b ∈ bs, b < 256
  out : ∀ i : Nat, ¬ Ex.inn e (i : Int) → bs[i]? = b0[i]?
theorem InE.step {us : List Ext} {e : Ext} {b0 bs bs' : List Nat} (h : InE e b0 bs) (c : Chg us e bs bs') : InE e b0 bs' := by
  refine ⟨c.len.trans h.len, c.lt h.lt, fun i hi => ?_⟩
  rcases c.out with ho | ⟨-, ho⟩
  · rw [ho]; exact h.out i hi
  · rw [ho i hi]; exact h.out i hi
theorem extP_bd {N : Int} {us fr : List Ext} {tk : List (Int × Int)} (hI : Ex.Inv N us fr tk) {k : Nat} (hk : k < 256) : 0 ≤ (extP us k).off ∧ 0 ≤ (extP us k).len ∧ (extP us k).off + (extP us k).len ≤ 2000000 := by
  unfold extP
  split
  · simp; omega
  · rename_i hz
    have hj : k % us.length < us.length := Nat.mod_lt _ (by omega)
    obtain ⟨hp, hN⟩ := hI.prop (Ex.get us (k % us.length)) (by rw [Ex.get_eq hj]; exact List.getElem_mem _)
    have := hI.N1
    unfold Ext.prop at hp
    omega
set_option maxRecDepth 100000 in
theorem sArLAp1 : type_of% (And.intro (And.intro (And.intro @eBox.eq_1 @exV.eq_1) (And.intro @alL.eq_1 @arL.eq_1)) (And.intro (And.intro @mrL.eq_1 @Nat.mul_one) (And.intro @wrap_in (And.intro @cMp @cM)))) := (And.intro (And.intro (And.intro @eBox.eq_1 @exV.eq_1) (And.intro @alL.eq_1 @arL.eq_1)) (And.intro (And.intro @mrL.eq_1 @Nat.mul_one) (And.intro @wrap_in (And.intro @cMp @cM))))
set_option maxHeartbeats 4000000 in
theorem arApart_walk (W : World) (room : Int) (hr : 0 ≤ room ∧ room ≤ 255) (A : Option Addr) (n c : Nat) (l : List S6) (hE : Sl W W.heap.size 6 A n c (cl s6V l)) (hb : ∀ s ∈ l, s.ok) (at_ : Int) (hat : 0 ≤ at_ ∧ at_ ≤ 255)
    (A' : Option Addr) (n' c' : Nat) (l' : List S6) (hE' : Sl W W.heap.size 6 A' n' c' (cl s6V l')) (hb' : ∀ s ∈ l', s.ok) :
    Calls Try.prog 5 #[.int .u8 room, .slice A n c, .int .u8 at_, .slice A' n' c'] W fun e w' => e = .returned (.bool true) ∧ Below W.heap.size W w' := by
  obtain ⟨r, rfl⟩ : ∃ r : Nat, room = (r : Int) := ⟨room.toNat, by omega⟩
  obtain ⟨q, rfl⟩ : ∃ q : Nat, at_ = (q : Int) := ⟨at_.toNat, by omega⟩
  have hlen' := cl_row s6_len (by omega) hE'.len
  refine calls_cv (M := []) (n := 125) [.tmp 8] rfl Try.func5 rfl rfl (Nat.le_of_ble_eq_true rfl) (St.nil _ _) ?_
  refine cv_seq_k fun K hK => ?_
  refine cv_region_then rfl ?_
  simp -implicitDefEqProofs (disch := first | omega | decide) only [seval, -Int.reducePow, -Nat.reducePow, cC, pv, binv, sArLAp1, undef, List.cons_append, List.nil_append]
  refine hK _ _ ?_
  clear hK K
  refine cv_seq_k fun K hK => ?_
  refine cv_region_then rfl ?_
  simp -implicitDefEqProofs (disch := first | omega | decide) only [seval, -Int.reducePow, -Nat.reducePow, cC, pv, binv, sArLAp1, undef, List.cons_append, List.nil_append]
  refine callV_grp [] [] (by decide) (fun i : ArR × MrR => .tuple #[.pointer (some ⟨i.1.bR, 0, none⟩), .pointer (some ⟨i.2.ml.bM, 0, none⟩), .bool true]) (fun i => arL i.1 ++ mrL i.2) (fun i => Pr i.1 i.2 ∧ i.2.ml.us.length ≤ 30) (fun w hw hq => built_any r (by omega) A n c l w (hE.at hw) hb) ?_
  rintro ⟨x, y⟩ ⟨hP, hl⟩
  dsimp only at hP hl
  have hfrl := hP.inv.frLen
  have hN1 := hP.inv.N1
  simp only [pickL, nth]
  simp -implicitDefEqProofs (disch := first | omega | decide) only [seval, -Int.reducePow, -Nat.reducePow, cC, pv, binv, sArLAp1, undef, List.cons_append, List.nil_append]
  refine hK _ _ ?_
  clear hK K
  refine cv_seq_k fun K hK => ?_
  refine cv_seq_k fun K hK => ?_
  refine cv_region_then rfl ?_
  simp -implicitDefEqProofs (disch := first | omega | decide) only [seval, -Int.reducePow, -Nat.reducePow, cC, pv, binv, sArLAp1, undef, List.cons_append, List.nil_append]
  refine hK _ _ ?_
  clear hK K
  refine cv_cond ?_
  simp -implicitDefEqProofs (disch := first | omega | decide) only [seval, -Int.reducePow, -Nat.reducePow, cC, pv, binv, sArLAp1, undef, List.cons_append, List.nil_append]
  refine cv_skip ?_
  try simp only [blockQ, thenQ]
  refine hK _ _ ?_
  clear hK K
  obtain ⟨E, hEE⟩ : ∃ E, extF y.ml.us q 0 = E := ⟨_, rfl⟩
  have hEb := extP_bd hP.inv (k := q) (by omega)
  rw [show extP y.ml.us q = E from hEE] at hEb
  refine cv_seq_k fun K hK => ?_
  refine cv_region_then rfl ?_
  simp -implicitDefEqProofs (disch := first | omega | decide) only [seval, -Int.reducePow, -Nat.reducePow, cC, pv, binv, sArLAp1, undef, List.cons_append, List.nil_append]
  refine callV_ret (fun w hw => extent_any y q 0 w (by omega) (by omega) (hP.mrW hw 5 6 7 rfl rfl rfl (by omega))) ?_
  try simp -implicitDefEqProofs (disch := first | omega | decide) only [seval, -Int.reducePow, -Nat.reducePow, cC, pv, binv, sArLAp1, undef, List.cons_append, List.nil_append, hEE]
  intro b12 hb12 hf12
  refine hK _ _ ?_
  clear hK K
  refine cv_seq_k fun K hK => ?_
  refine cv_region_then rfl ?_
  simp -implicitDefEqProofs (disch := first | omega | decide) only [seval, -Int.reducePow, -Nat.reducePow, cC, pv, binv, sArLAp1, undef, List.cons_append, List.nil_append]
  refine callV_row (fun A n c => .slice A n c) (fun w hw => arBytes_any x w (hP.arW hw 1 2 3 4 5 rfl rfl rfl rfl rfl (by omega))) ?_
  intro A1 n1 c1 hl1 hr1
  have hn1 : x.bs.length = n1 := byt_row hl1
  have hbN := hP.len
  simp -implicitDefEqProofs (disch := first | omega | decide) only [seval, -Int.reducePow, -Nat.reducePow, cC, pv, binv, sArLAp1, undef, List.cons_append, List.nil_append]
  refine hK _ _ ?_
  clear hK K
  refine cv_seq_k fun K hK => ?_
  refine cv_seq_k fun K hK => ?_
  refine cv_region_then rfl ?_
  simp -implicitDefEqProofs (disch := first | omega | decide) only [seval, -Int.reducePow, -Nat.reducePow, cC, pv, binv, sArLAp1, undef, List.cons_append, List.nil_append]
  refine hK _ _ ?_
  clear hK K
  refine cv_gen fun G1 hG => ?_
  have g1_3 := congrFun hG 3
  have g1_9 := congrFun hG 9
  have g1_10 := congrFun hG 10
  have g1_12 := congrFun hG 12
  have g1_13 := congrFun hG 13
  have g1_14 := congrFun hG 14
  clear hG
  try simp -implicitDefEqProofs (disch := first | omega | decide) only [seval, -Int.reducePow, -Nat.reducePow, cC, pv, binv, sArLAp1, undef, List.cons_append, List.nil_append] at g1_3 g1_9 g1_10 g1_12 g1_13 g1_14
  have g1 := And.intro g1_3 (And.intro g1_9 (And.intro g1_10 (And.intro g1_12 (And.intro g1_13 g1_14))))
  refine cv_pick [1, 0, 2, 3, 4, 5, 6, 7, 8, 9] (by decide) ?_
  simp only [pickL, nth]
  refine cv_block ?_
  refine cv_loop (fun F' L' => ∃ (i : Nat) (bs : List Nat), F' 3 = G1 3 ∧ F' 9 = G1 9 ∧ F' 10 = G1 10 ∧ F' 12 = G1 12 ∧ F' 13 = G1 13 ∧ F' 14 = .int .i64 (i : Int) ∧ L' = eBox b12 E :: .row (.slice A1 n1 c1) 5 1 n1 (byt x.bs) :: (arL ⟨x.al, x.bR, x.bB, x.N, bs⟩ ++ mrL y) ∧ InE E x.bs bs ∧ i ≤ 10) (fun F' L' => 40 - (intOf (F' 14)).toNat) ?_ ?_
  · refine ⟨0, x.bs, ?_⟩
    simp -implicitDefEqProofs (disch := first | omega | decide) only [seval, -Int.reducePow, -Nat.reducePow, cC, pv, binv, sArLAp1, undef, List.cons_append, List.nil_append, g1]
    exact ⟨rfl, hP.lt, fun _ _ => rfl⟩
  intro G2 L' hI
  obtain ⟨i, bs, q3, q9, q10, q12, q13, q14, rfl, ⟨hIn, hi⟩⟩ := hI
  have g2_3 := q3.trans g1_3
  have g2_9 := q9.trans g1_9
  have g2_10 := q10.trans g1_10
  have g2_12 := q12.trans g1_12
  have g2_13 := q13.trans g1_13
  have g2_14 := q14
  clear q3 q9 q10 q12 q13 q14
  have g2 := And.intro g2_3 (And.intro g2_9 (And.intro g2_10 (And.intro g2_12 (And.intro g2_13 g2_14))))
  refine cv_seq_k fun K hK => ?_
  by_cases hc1 : i < n' ∧ i < 10
  · have a1 : decide ((i : Int) < (n' : Int)) = true := decide_eq_true (by omega)
    have a2 : decide ((i : Int) < 10) = true := decide_eq_true (by omega)
    obtain ⟨s, hs⟩ : ∃ s, l'[i]? = some s := ⟨_, List.getElem?_eq_getElem (by omega)⟩
    have hpos : 0 < n' := by omega
    obtain ⟨bF, oF, rfl, hbF, -⟩ := hE'.cells hpos
    have hsok := hb' s (List.mem_of_getElem? hs)
    have hcs := cl_at s6_len hs
    obtain ⟨sa, sb, sc, sd, se, sf⟩ := s
    obtain ⟨o1, o2, o3, o4, o5, o6⟩ := hsok
    dsimp only at o1 o2 o3 o4 o5 o6
    refine cv_apart fun hap => ?_
    simp only [factL_nil, factL_blk, factL_row, neR_nil, neR_blk, neR_row, neB_nil, neB_blk, neB_row, and_true, true_and, List.not_mem_nil, or_false, sArLAp1, undef, List.cons_append, List.nil_append] at hap
    obtain hap := hap
    refine cv_seq_k fun K hK => ?_
    refine cv_region_then rfl ?_
    simp -implicitDefEqProofs (disch := first | omega | decide) only [seval, -Int.reducePow, -Nat.reducePow, cC, pv, binv, sArLAp1, undef, List.cons_append, List.nil_append, a1, a2, g1, g2]
    refine hK _ _ ?_
    clear hK K
    refine cv_cond ?_
    simp -implicitDefEqProofs (disch := first | omega | decide) only [seval, -Int.reducePow, -Nat.reducePow, cC, pv, binv, sArLAp1, undef, List.cons_append, List.nil_append, g1, g2]
    refine cv_skip ?_
    try simp only [blockQ, thenQ]
    refine hK _ _ ?_
    clear hK K
    refine cv_seq_k fun K hK => ?_
    refine cv_block ?_
    refine cv_seq_k fun K hK => ?_
    refine cv_region_then rfl ?_
    simp -implicitDefEqProofs (disch := first | omega | decide) only [seval, -Int.reducePow, -Nat.reducePow, cC, pv, binv, sArLAp1, undef, List.cons_append, List.nil_append, g1, g2]
    refine ⟨_, hE'.ld (vs := s6V ⟨sa, sb, sc, sd, se, sf⟩) hpos (show tsz Try.prog 48 = some (true, 6) from by kernel_rfl) hcs, fun tok htok => ?_⟩
    subst htok
    simp -implicitDefEqProofs (disch := first | omega | decide) only [seval, -Int.reducePow, -Nat.reducePow, cC, pv, binv, sArLAp1, undef, List.cons_append, List.nil_append, s6V, g1, g2]
    intro b15 hb15 hf15
    refine hK _ _ ?_
    clear hK K
    clear hap
    have hbl : bs.length = x.N := hIn.len.trans hbN
    obtain ⟨k, hk⟩ : ∃ k, offF sd = k := ⟨_, rfl⟩
    refine cv_seq_k fun K hK => ?_
    refine cv_draw_of (pickL [0, 1] _) (fun w hw => hw.pick (by decide)) (by simp only [pickL, nth, suf_cons, suf_nil, List.mem_cons, true_or, or_true, and_true, eq_self]) [(true, 0), (true, 1), (true, 2), (true, 3), (true, 5), (true, 6), (true, 7), (true, 8), (true, 9), (true, 10), (true, 11), (false, 4), (false, 12)] [12] mixA rfl (by kernel_rfl) (by kernel_rfl) rfl rfl ?_
    simp -implicitDefEqProofs (disch := first | omega | decide) only [seval, -Int.reducePow, -Nat.reducePow, cC, pv, binv, sArLAp1, undef, List.cons_append, List.nil_append, g1, g2]
    refine ⟨⟨by omega, by show _ ≤ ((64 : Nat) : Int); omega⟩, ?_⟩
    refine callV_ret (fun w hw => off_any sd w (by omega)) ?_
    try simp -implicitDefEqProofs (disch := first | omega | decide) only [seval, -Int.reducePow, -Nat.reducePow, cC, pv, binv, sArLAp1, undef, List.cons_append, List.nil_append, hk, g1, g2]
    obtain ⟨wd, hwd⟩ : ∃ wd, IntKind.i64.wrap (1 * 2 ^ ((se : Int) % 4).toNat) = wd := ⟨_, rfl⟩
    have ewf : IntKind.u64.wrap (sf : Int) = (sf : Int) := by rw [IntKind.wrap_u64]; omega
    rw [hwd, ewf]
    have iE1 := hIn.step (stF_chg hP.inv hbl E k wd sf)
    obtain ⟨f1, hf1⟩ : ∃ f1, stErr y.ml.us E k wd sf = f1 := ⟨_, rfl⟩
    rw [hf1] at iE1
    obtain ⟨bs1, hbs1⟩ : ∃ bs1, stF bs E k wd sf f1 = bs1 := ⟨_, rfl⟩
    rw [hbs1] at iE1
    refine callV_grp [3, 4, 5, 6, 7] [0, 1, 2, 8, 9, 10] (by decide) (fun _ : Unit => .int .i64 f1) (fun _ => arL ⟨x.al, x.bR, x.bB, x.N, bs1⟩) (fun _ => True) (fun w hw hs => by
      have := arStore_any ⟨x.al, x.bR, x.bB, x.N, bs⟩ y.ml.us E k wd sf w hs hP.inv (by omega) hbl (by omega)
      dsimp only at this
      rw [hf1, hbs1] at this
      exact this) ?_
    intro _ _
    simp only [pickL, nth]
    simp -implicitDefEqProofs (disch := first | omega | decide) only [seval, -Int.reducePow, -Nat.reducePow, cC, pv, binv, sArLAp1, undef, List.cons_append, List.nil_append, g1, g2]
    refine hK _ _ ?_
    clear hK K
    have hbl1 : bs1.length = x.N := iE1.len.trans hbN
    obtain ⟨m, hm⟩ : ∃ m, se % 12 = m := ⟨_, rfl⟩
    have hm' : (se : Int) % 12 = (m : Int) := by omega
    have iE2 := iE1.step (wrF_chg hP.inv hbl1 E k (List.replicate m 0) (fun b hb => by rw [List.eq_of_mem_replicate hb]; omega))
    rw [List.length_replicate] at iE2
    obtain ⟨f2, hf2⟩ : ∃ f2, wrErr y.ml.us E k m = f2 := ⟨_, rfl⟩
    rw [hf2] at iE2
    obtain ⟨bs2, hbs2⟩ : ∃ bs2, wrF bs1 E k (List.replicate m 0) f2 = bs2 := ⟨_, rfl⟩
    rw [hbs2] at iE2
    refine cv_gen fun G3 hG => ?_
    have g3_3 := congrFun hG 3
    have g3_9 := congrFun hG 9
    have g3_10 := congrFun hG 10
    have g3_12 := congrFun hG 12
    have g3_13 := congrFun hG 13
    have g3_14 := congrFun hG 14
    have g3_15 := congrFun hG 15
    clear hG
    try simp -implicitDefEqProofs (disch := first | omega | decide) only [seval, -Int.reducePow, -Nat.reducePow, cC, pv, binv, sArLAp1, undef, List.cons_append, List.nil_append, g1, g2] at g3_3 g3_9 g3_10 g3_12 g3_13 g3_14 g3_15
    have g3 := And.intro g3_3 (And.intro g3_9 (And.intro g3_10 (And.intro g3_12 (And.intro g3_13 (And.intro g3_14 g3_15)))))
    refine cv_seq_k fun K hK => ?_
    refine cv_cut (fun _ _ => True) (fun F' L' => F' 3 = G3 3 ∧ F' 9 = G3 9 ∧ F' 10 = G3 10 ∧ F' 12 = G3 12 ∧ F' 13 = G3 13 ∧ F' 14 = G3 14 ∧ F' 15 = G3 15 ∧ L' = arL ⟨x.al, x.bR, x.bB, x.N, bs2⟩ ++ (.blk b15 48 (s6V ⟨sa, sb, sc, sd, se, sf⟩) :: eBox b12 E :: .row (.slice A1 n1 c1) 5 1 n1 (byt x.bs) :: mrL y)) ?_ ?_
    · refine cv_more [5, 6] (by decide) (by simp only [pickL, nth, suf_cons, suf_nil, List.mem_cons, true_or, or_true, and_true, eq_self]) (.rd 0 (.rd 1 (.rd 2 (.rd 3 (.rd 5 (.rd 6 (.rd 7 (.rd 8 (.more 4 (.act 9 (.act 10 (.done))) (.act 9 (.act 4 (.act 10 (.done))))))))))))) [10] mixA rfl (by kernel_rfl) (by kernel_rfl) (by kernel_rfl) (by kernel_rfl) ?_
      simp only [pickL, nth]
      simp -implicitDefEqProofs (disch := first | omega | decide) only [seval, -Int.reducePow, -Nat.reducePow, cC, pv, binv, sArLAp1, undef, List.cons_append, List.nil_append, hm', g1, g2, g3]
      repeat' (first
        | refine And.intro ?_ ?_
        | (refine callV_ret (fun w hw => off_any sd w (by omega)) ?_
           try simp -implicitDefEqProofs (disch := first | omega | decide) only [seval, -Int.reducePow, -Nat.reducePow, cC, pv, binv, sArLAp1, undef, List.cons_append, List.nil_append, hk, hm', g1, g2, g3])
        | (refine xv_make (n := m) (u := .int .u8 0) tap36 rfl rfl rfl (by omega) (by omega) ?_
           intro bS hbS hfS
           rw [byt_rep]
           simp -implicitDefEqProofs (disch := first | omega | decide) only [seval, -Int.reducePow, -Nat.reducePow, cC, pv, binv, sArLAp1, undef, List.cons_append, List.nil_append, hk, g1, g2, g3])
        | (refine callV_grp [1, 2, 3, 4, 5] [6, 7, 8, 9, 10, 11] (by decide) (fun _ : Unit => .int .i64 f2) (fun _ => arL ⟨x.al, x.bR, x.bB, x.N, bs2⟩) (fun _ => True) (fun w hw hs => by
             have := arWrite_any ⟨x.al, x.bR, x.bB, x.N, bs1⟩ y.ml.us E k (some ⟨bS, 0, none⟩) m m (List.replicate m 0) w hs hP.inv (by omega) hbl1 (Sl.of_blk hw (.head _) (by rw [byt_len, List.length_replicate, Nat.mul_one]) (by omega)) (fun _ a ha hf => by cases ha; obtain ⟨r, hr5, hrb⟩ := List.mem_flatMap.1 hf; exact hw.foot_apart (List.mem_append.2 (.inl hr5)) (by simp [Res.foot]) hrb)
             dsimp only at this
             rw [hf2, hbs2] at this
             exact this) ?_
           intro _ _
           simp only [pickL, nth]
           simp -implicitDefEqProofs (disch := first | omega | decide) only [seval, -Int.reducePow, -Nat.reducePow, cC, pv, binv, sArLAp1, undef, List.cons_append, List.nil_append, s6V, g1, g2, g3]))
      all_goals
        refine ⟨[0, 1, 2, 3, 4, 5, 6, 7, 8, 9, 10], by decide, ?_⟩
        simp only [pickL, nth]
    intro G4 L' _ hF
    obtain ⟨q3, q9, q10, q12, q13, q14, q15, rfl⟩ := hF
    have g4_3 := q3.trans g3_3
    have g4_9 := q9.trans g3_9
    have g4_10 := q10.trans g3_10
    have g4_12 := q12.trans g3_12
    have g4_13 := q13.trans g3_13
    have g4_14 := q14.trans g3_14
    have g4_15 := q15.trans g3_15
    clear q3 q9 q10 q12 q13 q14 q15
    have g4 := And.intro g4_3 (And.intro g4_9 (And.intro g4_10 (And.intro g4_12 (And.intro g4_13 (And.intro g4_14 g4_15)))))
    refine hK _ _ ?_
    clear hK K
    simp only [arL, alL, mrL, eBox, s6V, List.cons_append, List.nil_append]
    have hbl2 : bs2.length = x.N := iE2.len.trans hbN
    obtain ⟨Dx, hDx⟩ : ∃ Dx, extF y.ml.us sb 0 = Dx := ⟨_, rfl⟩
    obtain ⟨k2, hk2⟩ : ∃ k, offF se = k := ⟨_, rfl⟩
    obtain ⟨z, hz⟩ : ∃ z : Int, (sf : Int) % 14 = z := ⟨_, rfl⟩
    have iE3 := iE2.step (cpF_chg hP.inv hbl2 E k Dx k2 z)
    obtain ⟨f3, hf3⟩ : ∃ f3, cpErr y.ml.us E k Dx k2 z = f3 := ⟨_, rfl⟩
    rw [hf3] at iE3
    obtain ⟨bs3, hbs3⟩ : ∃ bs3, cpF bs2 E k Dx k2 z f3 = bs3 := ⟨_, rfl⟩
    rw [hbs3] at iE3
    refine cv_pick_post [6, 7, 0, 1, 2, 3, 4, 8, 9, 10] (by decide) ?_
    refine cv_q ?_
    refine cv_draw_of (pickL [5, 6] _) (fun w hw => hw.pick (by decide)) (by simp only [pickL, nth, suf_cons, suf_nil, List.mem_cons, true_or, or_true, and_true, eq_self]) [(true, 0), (true, 1), (true, 2), (true, 3), (true, 5), (true, 6), (true, 7), (true, 9), (true, 10), (true, 12), (true, 13), (true, 14), (true, 15), (false, 4), (false, 8), (false, 11), (false, 16)] [16] mixA rfl (by kernel_rfl) (by kernel_rfl) rfl rfl ?_
    simp -implicitDefEqProofs (maxSteps := 1000000) (disch := first | omega | decide) only [seval, -Int.reducePow, -Nat.reducePow, cC, pv, binv, sArLAp1, undef, List.cons_append, List.nil_append, hz, s6V, g1, g2, g4]
    refine callV_ret (fun w hw => off_any sd w (by omega)) ?_
    try simp -implicitDefEqProofs (disch := first | omega | decide) only [seval, -Int.reducePow, -Nat.reducePow, cC, pv, binv, sArLAp1, undef, List.cons_append, List.nil_append, hk, hz, g1, g2, g4]
    refine callV_ret (fun w hw => extent_any y sb 0 w (by omega) (by omega) (hP.mrW hw 8 9 10 rfl rfl rfl (by omega))) ?_
    try simp -implicitDefEqProofs (disch := first | omega | decide) only [seval, -Int.reducePow, -Nat.reducePow, cC, pv, binv, sArLAp1, undef, List.cons_append, List.nil_append, hDx, hz, g1, g2, g4]
    refine callV_ret (fun w hw => off_any se w (by omega)) ?_
    try simp -implicitDefEqProofs (disch := first | omega | decide) only [seval, -Int.reducePow, -Nat.reducePow, cC, pv, binv, sArLAp1, undef, List.cons_append, List.nil_append, hk2, hz, g1, g2, g4]
    refine callV_grp [0, 1, 2, 3, 4] [5, 6, 7, 8, 9, 10] (by decide) (fun _ : Unit => .int .i64 f3) (fun _ => arL ⟨x.al, x.bR, x.bB, x.N, bs3⟩) (fun _ => True) (fun w hw hs => by
      have := arCopy_any ⟨x.al, x.bR, x.bB, x.N, bs2⟩ y.ml.us E k Dx k2 z w hs hP.inv (by omega) hbl2
      dsimp only at this
      rw [hf3, hbs3] at this
      exact this) ?_
    intro _ _
    simp only [pickL, nth]
    simp -implicitDefEqProofs (maxSteps := 1000000) (disch := first | omega | decide) only [seval, -Int.reducePow, -Nat.reducePow, cC, pv, binv, sArLAp1, undef, List.cons_append, List.nil_append, g1, g2, g4]
    refine hK _ _ ?_
    clear hK K
    refine cv_region_then rfl ?_
    simp -implicitDefEqProofs (disch := first | omega | decide) only [seval, -Int.reducePow, -Nat.reducePow, cC, pv, binv, sArLAp1, undef, List.cons_append, List.nil_append, g1, g2, g4]
    refine ⟨⟨i + 1, bs3, ?_⟩, ?_⟩
    · simp -implicitDefEqProofs (disch := first | omega | decide) only [seval, -Int.reducePow, -Nat.reducePow, cC, pv, binv, sArLAp1, undef, List.cons_append, List.nil_append, Int.natCast_add, g1, g2, g4]
      exact ⟨iE3, by omega⟩
    · simp only [intOf]; omega
  · refine cv_seq_k fun K hK => ?_
    refine cv_cut (fun _ _ => True) (fun F' L' => F' 3 = G2 3 ∧ F' 9 = G2 9 ∧ F' 10 = G2 10 ∧ F' 12 = G2 12 ∧ F' 13 = G2 13 ∧ F' 14 = G2 14 ∧ F' 39 = .bool false ∧ L' = eBox b12 E :: .row (.slice A1 n1 c1) 5 1 n1 (byt x.bs) :: (arL ⟨x.al, x.bR, x.bB, x.N, bs⟩ ++ mrL y)) ?_ ?_
    · refine cv_region_then rfl ?_
      by_cases h1 : i < n'
      · have a1 : decide ((i : Int) < (n' : Int)) = true := decide_eq_true (by omega)
        have a2 : decide ((i : Int) < 10) = false := decide_eq_false (by omega)
        simp -implicitDefEqProofs (disch := first | omega | decide) only [seval, -Int.reducePow, -Nat.reducePow, cC, pv, binv, sArLAp1, undef, List.cons_append, List.nil_append, a1, a2, g1, g2]
      · have a1 : decide ((i : Int) < (n' : Int)) = false := decide_eq_false (by omega)
        simp -implicitDefEqProofs (disch := first | omega | decide) only [seval, -Int.reducePow, -Nat.reducePow, cC, pv, binv, sArLAp1, undef, List.cons_append, List.nil_append, a1, g1, g2]
    intro G5 L' _ hF
    obtain ⟨q3, q9, q10, q12, q13, q14, q39, rfl⟩ := hF
    have g5_3 := q3.trans g2_3
    have g5_9 := q9.trans g2_9
    have g5_10 := q10.trans g2_10
    have g5_12 := q12.trans g2_12
    have g5_13 := q13.trans g2_13
    have g5_14 := q14.trans g2_14
    have g5_39 := q39
    clear q3 q9 q10 q12 q13 q14 q39
    have g5 := And.intro g5_3 (And.intro g5_9 (And.intro g5_10 (And.intro g5_12 (And.intro g5_13 (And.intro g5_14 g5_39)))))
    refine hK _ _ ?_
    clear hK K
    refine cv_cond ?_
    simp -implicitDefEqProofs (disch := first | omega | decide) only [seval, -Int.reducePow, -Nat.reducePow, cC, pv, binv, sArLAp1, undef, List.cons_append, List.nil_append, g1, g2, g5]
    refine cv_exit ?_
    simp only [blockQ, thenQ, if_true, ite_true]
    clear hK K
    refine hK _ _ ?_
    clear hK K
    have hbl : bs.length = x.N := hIn.len.trans hbN
    refine cv_seq_k fun K hK => ?_
    refine cv_region_then rfl ?_
    simp -implicitDefEqProofs (disch := first | omega | decide) only [seval, -Int.reducePow, -Nat.reducePow, cC, pv, binv, sArLAp1, undef, List.cons_append, List.nil_append, g1, g2, g5]
    refine callV_row (fun A n c => .slice A n c) (fun w hw => arBytes_any ⟨x.al, x.bR, x.bB, x.N, bs⟩ w (ArW.of (x := ⟨x.al, x.bR, x.bB, x.N, bs⟩) hw 2 3 4 5 6 rfl rfl rfl rfl rfl (by dsimp only; omega) hbl (by have := hP.inv.N1; dsimp only; omega))) ?_
    intro A2 n2 c2 hl2 hr2
    have hn2 : bs.length = n2 := byt_row hl2
    obtain rfl : n1 = n2 := by omega
    simp -implicitDefEqProofs (disch := first | omega | decide) only [seval, -Int.reducePow, -Nat.reducePow, cC, pv, binv, sArLAp1, undef, List.cons_append, List.nil_append, g1, g2, g5]
    refine hK _ _ ?_
    clear hK K
    refine cv_seq_k fun K hK => ?_
    refine cv_seq_k fun K hK => ?_
    refine cv_region_then rfl ?_
    simp -implicitDefEqProofs (disch := first | omega | decide) only [seval, -Int.reducePow, -Nat.reducePow, cC, pv, binv, sArLAp1, undef, List.cons_append, List.nil_append, g1, g2, g5]
    refine hK _ _ ?_
    clear hK K
    refine cv_cond ?_
    simp -implicitDefEqProofs (disch := first | omega | decide) only [seval, -Int.reducePow, -Nat.reducePow, cC, pv, binv, sArLAp1, undef, List.cons_append, List.nil_append, g1, g2, g5]
    refine cv_skip ?_
    try simp only [blockQ, thenQ]
    refine hK _ _ ?_
    clear hK K
    refine cv_seq_k fun K hK => ?_
    refine cv_seq_k fun K hK => ?_
    refine cv_region_then rfl ?_
    simp -implicitDefEqProofs (disch := first | omega | decide) only [seval, -Int.reducePow, -Nat.reducePow, cC, pv, binv, sArLAp1, undef, List.cons_append, List.nil_append, g1, g2, g5]
    refine hK _ _ ?_
    clear hK K
    refine cv_gen fun G6 hG => ?_
    have g6_12 := congrFun hG 12
    have g6_13 := congrFun hG 13
    have g6_16 := congrFun hG 16
    have g6_95 := congrFun hG 95
    have g6_96 := congrFun hG 96
    clear hG
    try simp -implicitDefEqProofs (disch := first | omega | decide) only [seval, -Int.reducePow, -Nat.reducePow, cC, pv, binv, sArLAp1, undef, List.cons_append, List.nil_append, g1, g2, g5] at g6_12 g6_13 g6_16 g6_95 g6_96
    have g6 := And.intro g6_12 (And.intro g6_13 (And.intro g6_16 (And.intro g6_95 g6_96)))
    refine cv_block ?_
    refine cv_loop (fun F' L' => ∃ (i : Nat), F' 12 = G6 12 ∧ F' 13 = G6 13 ∧ F' 16 = G6 16 ∧ F' 95 = G6 95 ∧ F' 96 = .int .i64 (i : Int) ∧ L' = .row (.slice A2 n1 c2) 5 1 n1 (byt bs) :: eBox b12 E :: .row (.slice A1 n1 c1) 5 1 n1 (byt x.bs) :: (arL ⟨x.al, x.bR, x.bB, x.N, bs⟩ ++ mrL y) ∧ i ≤ n1) (fun F' L' => 2000000 - (intOf (F' 96)).toNat) ?_ ?_
    · refine ⟨0, ?_⟩
      simp -implicitDefEqProofs (disch := first | omega | decide) only [seval, -Int.reducePow, -Nat.reducePow, cC, pv, binv, sArLAp1, undef, List.cons_append, List.nil_append, g1, g2, g6]
      omega
    intro G7 L' hI
    obtain ⟨i, q12, q13, q16, q95, q96, rfl, hi⟩ := hI
    have g7_12 := q12.trans g6_12
    have g7_13 := q13.trans g6_13
    have g7_16 := q16.trans g6_16
    have g7_95 := q95.trans g6_95
    have g7_96 := q96
    clear q12 q13 q16 q95 q96
    have g7 := And.intro g7_12 (And.intro g7_13 (And.intro g7_16 (And.intro g7_95 g7_96)))
    refine cv_seq_k fun K hK => ?_
    refine cv_region_then rfl ?_
    simp -implicitDefEqProofs (disch := first | omega | decide) only [seval, -Int.reducePow, -Nat.reducePow, cC, pv, binv, sArLAp1, undef, List.cons_append, List.nil_append, g1, g2, g6, g7]
    refine hK _ _ ?_
    clear hK K
    refine cv_seq_k fun K hK => ?_
    refine cv_cond ?_
    simp -implicitDefEqProofs (disch := first | omega | decide) only [seval, -Int.reducePow, -Nat.reducePow, cC, pv, binv, sArLAp1, undef, List.cons_append, List.nil_append, g1, g2, g6, g7]
    refine ⟨fun hc => ?_, fun hc => ?_⟩
    · refine cv_skip ?_
      try simp only [blockQ, thenQ]
      have hit : i < n1 := by have := of_decide_eq_true ‹decide ((i : Int) < (n1 : Int)) = true›; omega
      obtain ⟨v1, hv1⟩ : ∃ v, bs[i]? = some v := ⟨_, List.getElem?_eq_getElem (by omega)⟩
      obtain ⟨v2, hv2⟩ : ∃ v, x.bs[i]? = some v := ⟨_, List.getElem?_eq_getElem (by omega)⟩
      have hout := hIn.out i
      refine hK _ _ ?_
      clear hK K
      refine cv_rowA 0 rfl (by omega) fun g hAA hg hNN => ?_
      subst hAA
      simp only [List.eraseIdx_cons_zero, List.eraseIdx_cons_succ, neB_nil, neB_blk, neB_row, neB_snap, and_true, List.not_mem_nil, or_false, sArLAp1, undef, List.cons_append, List.nil_append] at hNN hg
      replace hg := And.intro hg hNN
      clear hNN
      refine cv_rowA 2 rfl (by omega) fun gB hAA hgB hNN => ?_
      subst hAA
      simp only [List.eraseIdx_cons_zero, List.eraseIdx_cons_succ, neB_nil, neB_blk, neB_row, neB_snap, and_true, List.not_mem_nil, or_false, sArLAp1, undef, List.cons_append, List.nil_append] at hNN hgB
      replace hgB := And.intro hgB hNN
      clear hNN
      refine cv_seq_k fun K hK => ?_
      refine cv_block ?_
      refine cv_seq_k fun K hK => ?_
      refine cv_region_then rfl ?_
      simp -implicitDefEqProofs (disch := first | omega | decide) only [seval, -Int.reducePow, -Nat.reducePow, cC, pv, binv, sArLAp1, undef, List.cons_append, List.nil_append, g1, g2, g6, g7]
      refine hK _ _ ?_
      clear hK K
      refine cv_seq_k fun K hK => ?_
      refine cv_cut (fun _ _ => True) (fun F' L' => F' 12 = G7 12 ∧ F' 13 = G7 13 ∧ F' 16 = G7 16 ∧ F' 95 = G7 95 ∧ F' 96 = G7 96 ∧ F' 122 = .bool false ∧ L' = .row (.slice (some ⟨g, 0, none⟩) n1 c2) 5 1 n1 (byt bs) :: eBox b12 E :: .row (.slice (some ⟨gB, 0, none⟩) n1 c1) 5 1 n1 (byt x.bs) :: (arL ⟨x.al, x.bR, x.bB, x.N, bs⟩ ++ mrL y)) ?_ ?_
      · by_cases hin : Ex.inn E (i : Int)
        · have hin' : E.off ≤ (i : Int) ∧ (i : Int) < E.off + E.len := hin
          have a1 : decide ((i : Int) < E.off) = false := decide_eq_false (by omega)
          have a2 : decide (E.off + E.len ≤ (i : Int)) = false := decide_eq_false (by omega)
          refine cv_draw_of (pickL [0, 1, 2] _) (fun w hw => hw.pick (by decide)) (by simp only [pickL, nth, suf_cons, suf_nil, List.mem_cons, true_or, or_true, and_true, eq_self]) [(true, 0), (true, 1), (true, 2), (true, 3), (true, 4), (true, 5), (true, 6), (true, 7), (true, 8), (true, 9), (true, 10), (true, 11), (true, 12), (true, 13), (true, 14), (true, 15), (true, 16), (true, 17), (true, 18), (true, 19), (true, 20), (true, 21), (true, 22), (true, 23)] [] mixA rfl (by kernel_rfl) (by kernel_rfl) rfl rfl ?_
          simp -implicitDefEqProofs (disch := first | omega | decide) only [seval, -Int.reducePow, -Nat.reducePow, cC, pv, binv, sArLAp1, undef, List.cons_append, List.nil_append, g1, g2, g6, g7]
          refine ⟨_, ld_row1 (i := i) (v := .int .u8 (v1 : Int)) (.head _) rfl (byt_get hv1), fun tok htok => ?_⟩
          subst htok
          simp -implicitDefEqProofs (disch := first | omega | decide) only [seval, -Int.reducePow, -Nat.reducePow, cC, pv, binv, sArLAp1, undef, List.cons_append, List.nil_append, g1, g2, g6, g7]
          refine ⟨_, ld_row1 (i := i) (v := .int .u8 (v2 : Int)) (.tail _ (.tail _ (.head _))) rfl (byt_get hv2), fun tok htok => ?_⟩
          subst htok
          simp -implicitDefEqProofs (disch := first | omega | decide) only [seval, -Int.reducePow, -Nat.reducePow, cC, pv, binv, sArLAp1, undef, List.cons_append, List.nil_append, g1, g2, g6, g7]
          repeat' ((first | refine vcg_cases (fun hg => ?_) (fun hg => ?_) | refine vdg_cases (fun hg => ?_) (fun hg => ?_)) <;> ((try simp only [Bool.not_eq_true', Bool.not_eq_false', decide_eq_true_eq, decide_eq_false_iff_not] at hg); (try simp -implicitDefEqProofs (disch := first | omega | decide) only [seval, -Int.reducePow, -Nat.reducePow, cC, pv, binv, sArLAp1, undef, List.cons_append, List.nil_append, hg, a1, a2, g1, g2, g6, g7])))
          all_goals simp -implicitDefEqProofs (disch := first | omega | decide) only [seval, -Int.reducePow, -Nat.reducePow, cC, pv, binv, sArLAp1, undef, List.cons_append, List.nil_append, a1, a2, g1, g2, g6, g7]
        · obtain rfl : v1 = v2 := by
            have := hout hin
            rw [hv1, hv2] at this
            exact Option.some.inj this
          refine cv_draw_of (pickL [0, 1, 2] _) (fun w hw => hw.pick (by decide)) (by simp only [pickL, nth, suf_cons, suf_nil, List.mem_cons, true_or, or_true, and_true, eq_self]) [(true, 0), (true, 1), (true, 2), (true, 3), (true, 4), (true, 5), (true, 6), (true, 7), (true, 8), (true, 9), (true, 10), (true, 11), (true, 12), (true, 13), (true, 14), (true, 15), (true, 16), (true, 17), (true, 18), (true, 19), (true, 20), (true, 21), (true, 22), (true, 23)] [] mixA rfl (by kernel_rfl) (by kernel_rfl) rfl rfl ?_
          simp -implicitDefEqProofs (disch := first | omega | decide) only [seval, -Int.reducePow, -Nat.reducePow, cC, pv, binv, sArLAp1, undef, List.cons_append, List.nil_append, g1, g2, g6, g7]
          refine ⟨_, ld_row1 (i := i) (v := .int .u8 (v1 : Int)) (.head _) rfl (byt_get hv1), fun tok htok => ?_⟩
          subst htok
          simp -implicitDefEqProofs (disch := first | omega | decide) only [seval, -Int.reducePow, -Nat.reducePow, cC, pv, binv, sArLAp1, undef, List.cons_append, List.nil_append, g1, g2, g6, g7]
          refine ⟨_, ld_row1 (i := i) (v := .int .u8 (v1 : Int)) (.tail _ (.tail _ (.head _))) rfl (byt_get hv2), fun tok htok => ?_⟩
          subst htok
          simp -implicitDefEqProofs (disch := first | omega | decide) only [seval, -Int.reducePow, -Nat.reducePow, cC, pv, binv, sArLAp1, undef, List.cons_append, List.nil_append, g1, g2, g6, g7]
      intro G8 L' _ hF
      obtain ⟨q12, q13, q16, q95, q96, q122, rfl⟩ := hF
      have g8_12 := q12.trans g7_12
      have g8_13 := q13.trans g7_13
      have g8_16 := q16.trans g7_16
      have g8_95 := q95.trans g7_95
      have g8_96 := q96.trans g7_96
      have g8_122 := q122
      clear q12 q13 q16 q95 q96 q122
      have g8 := And.intro g8_12 (And.intro g8_13 (And.intro g8_16 (And.intro g8_95 (And.intro g8_96 g8_122))))
      refine hK _ _ ?_
      clear hK K
      refine cv_cond ?_
      simp -implicitDefEqProofs (disch := first | omega | decide) only [seval, -Int.reducePow, -Nat.reducePow, cC, pv, binv, sArLAp1, undef, List.cons_append, List.nil_append, g1, g2, g6, g7, g8]
      refine cv_skip ?_
      try simp only [blockQ, thenQ]
      refine hK _ _ ?_
      clear hK K
      refine cv_region_then rfl ?_
      simp -implicitDefEqProofs (disch := first | omega | decide) only [seval, -Int.reducePow, -Nat.reducePow, cC, pv, binv, sArLAp1, undef, List.cons_append, List.nil_append, g1, g2, g6, g7, g8]
      refine ⟨⟨i + 1, ?_⟩, ?_⟩
      · simp -implicitDefEqProofs (disch := first | omega | decide) only [seval, -Int.reducePow, -Nat.reducePow, cC, pv, binv, sArLAp1, undef, List.cons_append, List.nil_append, Int.natCast_add, g1, g2, g6, g7, g8]
        omega
      · simp only [intOf]; omega
    refine cv_exit ?_
    simp only [blockQ, thenQ, if_true, ite_true]
    clear hK K
    refine hK _ _ ?_
    clear hK K
    refine cv_seq_k fun K hK => ?_
    refine cv_region_then rfl ?_
    simp -implicitDefEqProofs (disch := first | omega | decide) only [seval, -Int.reducePow, -Nat.reducePow, cC, pv, binv, sArLAp1, undef, List.cons_append, List.nil_append, g1, g2, g6, g7]
    refine callV_ret (fun w hw => arAwake_any w) ?_
    try simp -implicitDefEqProofs (disch := first | omega | decide) only [seval, -Int.reducePow, -Nat.reducePow, cC, pv, binv, sArLAp1, undef, List.cons_append, List.nil_append, g1, g2, g6, g7]
    refine hK _ _ ?_
    clear hK K
    refine cv_ret ⟨_, (by simp -implicitDefEqProofs (disch := first | omega | decide) only [seval, -Int.reducePow, -Nat.reducePow, cC, pv, binv, sArLAp1, undef, List.cons_append, List.nil_append, g1, g2, g6, g7]; rfl), fun w hw => ?_⟩
    exact ⟨rfl, hw.below⟩
end Go.Proofs.Ytfaanphjaghbpaa
