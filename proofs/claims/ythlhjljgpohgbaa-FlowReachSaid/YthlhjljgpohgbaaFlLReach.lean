/- The law FlowReach, walked. -/
import Derived.Test.YthlhjljgpohgbaaFlRand
import Derived.Test.YthlhjljgpohgbaaFlRun
import Derived.Test.YthlhjljgpohgbaaMore
import Derived.Test.YthlhjljgpohgbaaFlReach
import Derived.Test.YthlhjljgpohgbaaQueue
namespace Go.Proofs.Ythlhjljgpohgbaa
open Go.RowKit Go.Shelf
set_option linter.unusedVariables false
set_option linter.unusedSimpArgs false
set_option maxRecDepth 100000
theorem cv_snapNe {P : Program} {W v : World} {L : List Res} {foot : List Nat} {n x : Nat} {c : Code} {F : Fr} {Q : Exit → Fr → List Res → Prop} (k : Nat) (hk : nth L k = some (snap [] W v foot)) (hx : Dm [] W foot x) (h : neB (L.eraseIdx k) x → CV P [] W n c F L Q) : CV P [] W n c F L Q := fun a w ha hw => by
  refine h (neB_of fun r hr hxr => ?_) a w ha hw
  have hp := hw.perm (perm_erase hk).symm
  rcases hx with hx | hx
  · exact (List.pairwise_cons.1 hp.apart).1 r hr x (by simpa [snap_foot] using hx) hxr
  · have := (hp.own r (.tail _ hr) x hxr).1
    simp at this
    omega
def slLen : Value → Nat
  | .slice _ n _ => n
  | _ => 0
set_option maxRecDepth 100000 in
theorem sFlLReach1 : type_of% (And.intro (And.intro (And.intro @mBox.eq_1 @modV.eq_1) (And.intro @tape.eq_1 (And.intro @tpBox.eq_1 @flBox.eq_1))) (And.intro (And.intro @fltV.eq_1 @fineF.eq_1) (And.intro @cS (And.intro @Nat.mul_one @wrap_in)))) := (And.intro (And.intro (And.intro @mBox.eq_1 @modV.eq_1) (And.intro @tape.eq_1 (And.intro @tpBox.eq_1 @flBox.eq_1))) (And.intro (And.intro @fltV.eq_1 @fineF.eq_1) (And.intro @cS (And.intro @Nat.mul_one @wrap_in))))
set_option maxHeartbeats 8000000 in
theorem fReach_walk (W : World) (A : Option Addr) (n c : Nat) (l : List (List Nat)) (hE : Sl W W.heap.size 2 A n c (cl u8r l)) (h2 : ∀ r ∈ l, r.length = 2 ∧ ∀ x ∈ r, (x : Int) < 256)
    (s : Nat × Nat × Nat × Nat) (hs : s.1 < 256 ∧ s.2.1 < 256 ∧ s.2.2.1 < 256 ∧ s.2.2.2 < 256) (B : Option Addr) (m d : Nat) (ul : List Nat) (hU : Sl W W.heap.size 1 B m d (u16c ul)) (hl : ∀ x ∈ ul, x < 65536) (choose : Bool) :
    Calls Try.prog 4 #[.slice A n c, .agg #[.int .u8 (s.1 : Int), .int .u8 (s.2.1 : Int), .int .u8 (s.2.2.1 : Int), .int .u8 (s.2.2.2 : Int)], .slice B m d, .bool choose] W fun e w' => e = .returned (.bool true) ∧ Below W.heap.size W w' := by
  obtain ⟨s0, s1, s2, s3⟩ := s
  dsimp only at *
  have hl60 : ∀ x ∈ ul.take 60, x < 65536 := fun x hx => hl x (List.mem_of_mem_take hx)
  refine calls_cv (M := []) (n := 95) [.tmp 8] rfl Try.func4 rfl rfl (Nat.le_of_ble_eq_true rfl) (St.nil _ _) ?_
  refine cv_seq_k fun K hK => ?_
  refine cv_region_then rfl ?_
  simp -implicitDefEqProofs (disch := first | omega | decide) only [seval, -Int.reducePow, -Nat.reducePow, cC, pv, binv, sFlLReach1, undef]
  intro b5 hb5
  refine hK _ _ ?_
  clear hK K
  refine cv_seq_k fun K hK => ?_
  refine cv_region_then rfl ?_
  simp -implicitDefEqProofs (disch := first | omega | decide) only [seval, -Int.reducePow, -Nat.reducePow, cC, pv, binv, sFlLReach1, undef]
  refine callV_nest modV (fun k w w' => ModD w' (Nw w w') k) (fun w hw => flRandom_any A n c l s0 s1 s2 s3 w (hE.at hw) h2 hs.1 hs.2.1 hs.2.2.1 hs.2.2.2) ?_
  intro k0 w0 w1 f1 hw0 hw1 hk hNw
  have hkD0 : ModD w1 (Dm [] W f1) k0 := hk.mono fun y hy => .inl (hNw y hy)
  clear hk hNw hw0 hw1
  simp -implicitDefEqProofs (disch := first | omega | decide) only [seval, -Int.reducePow, -Nat.reducePow, cC, pv, binv, sFlLReach1, undef]
  intro b9 hb9 hf9
  refine hK _ _ ?_
  clear hK K
  refine cv_pick [0, 1] (by decide) ?_
  simp only [pickL, nth]
  refine cv_gen fun G1 hG => ?_
  have g1_2 := congrFun hG 2
  have g1_3 := congrFun hG 3
  have g1_9 := congrFun hG 9
  clear hG
  try simp -implicitDefEqProofs (disch := first | omega | decide) only [seval, -Int.reducePow, -Nat.reducePow, cC, pv, binv, sFlLReach1, undef] at g1_2 g1_3 g1_9
  have g1 := And.intro g1_2 (And.intro g1_3 g1_9)
  refine cv_seq_k fun K hK => ?_
  refine cv_cut (fun _ _ => True) (fun F' L' => ∃ (k : ModR) (v : World) (fo : List Nat), F' 9 = G1 9 ∧ L' = [.blk b9 35 [.slice k.TA k.tn k.tc, .slice k.FA k.fn k.fc], snap [] W v fo] ∧ ModD v (Dm [] W fo) k) ?_ ?_
  · refine cv_seq_k fun K hK => ?_
    refine cv_region_then rfl ?_
    simp -implicitDefEqProofs (disch := first | omega | decide) only [seval, -Int.reducePow, -Nat.reducePow, cC, pv, binv, sFlLReach1, undef, g1]
    refine hK _ _ ?_
    clear hK K
    refine cv_cond ?_
    simp -implicitDefEqProofs (disch := first | omega | decide) only [seval, -Int.reducePow, -Nat.reducePow, cC, pv, binv, sFlLReach1, undef, g1]
    refine ⟨fun hc => ?_, fun hc => ?_⟩
    · refine cv_pick_post [3, 0] (by decide) ?_
      refine cv_region_q rfl ?_
      simp -implicitDefEqProofs (disch := first | omega | decide) only [seval, -Int.reducePow, -Nat.reducePow, cC, pv, binv, sFlLReach1, undef, g1]
      refine callV_boxRow (fun w hw => of_any B m d ul 60 w (hU.at hw) (by omega)) ?_
      intro b4 A2 n2 c2 hl2 hb4 hf4 hr2
      simp -implicitDefEqProofs (disch := first | omega | decide) only [seval, -Int.reducePow, -Nat.reducePow, cC, pv, binv, sFlLReach1, undef, g1] at hf4
      simp -implicitDefEqProofs (disch := first | omega | decide) only [seval, -Int.reducePow, -Nat.reducePow, cC, pv, binv, sFlLReach1, undef, g1]
      refine callV_pick [0, 1, 2] (by decide) ?_
      simp only [pickL, nth]
      refine callV_nestM 1 (fun p : ModR × Nat => modV p.1) (fun p w w' => ModD w' (Nw w w') p.1 ∧ Good p.1) (fun p => tape A2 n2 c2 p.2) rfl (fun w hw => module_any b4 A2 n2 c2 (ul.take 60) 0 10 w (hw.hold 1 rfl) (hw.slr 0 rfl) (fun _ => hr2.apt) hl60 (by omega) (by omega)) ?_
      rintro ⟨k, j⟩ w2 w3 f3 hw2 hw3 ⟨hk, hg⟩ hNw
      have hkD : ModD w3 (Dm [] W f3) k := hk.mono fun y hy => .inl (hNw y hy)
      dsimp only at *
      simp -implicitDefEqProofs (disch := first | omega | decide) only [seval, -Int.reducePow, -Nat.reducePow, cC, pv, binv, sFlLReach1, undef, g1]
      exact ⟨k, w3, f3, rfl, hkD⟩
    · refine cv_skip ?_
      try simp only [blockQ, thenQ]
      simp -implicitDefEqProofs (disch := first | omega | decide) only [seval, -Int.reducePow, -Nat.reducePow, cC, pv, binv, sFlLReach1, undef, g1]
      exact ⟨k0, w1, f1, rfl, hkD0⟩
  intro G2 L' _ hF
  obtain ⟨k, v, fo, q9, rfl, hkD⟩ := hF
  have g2_9 := q9.trans g1_9
  clear q9
  have g2 := g2_9
  refine hK _ _ ?_
  clear hK K
  obtain ⟨u, hu⟩ : ∃ u, hgtF k 0 = u := ⟨_, rfl⟩
  refine cv_seq_k fun K hK => ?_
  refine cv_region_then rfl ?_
  simp -implicitDefEqProofs (disch := first | omega | decide) only [seval, -Int.reducePow, -Nat.reducePow, cC, pv, binv, sFlLReach1, undef, g2]
  refine callV_row (fun A n c => .tuple #[.slice A n c, fltV u.2]) (fun w hw => (by have := Heights_any k 0 w (hkD.at hw 1 rfl); rw [hu] at this; exact this)) ?_
  intro A1 n1 c1 hl1 hr1
  simp -implicitDefEqProofs (disch := first | omega | decide) only [seval, -Int.reducePow, -Nat.reducePow, cC, pv, binv, sFlLReach1, undef, g2]
  intro b11 hb11 hf11
  refine hK _ _ ?_
  clear hK K
  refine cv_gen fun G3 hG => ?_
  have g3_9 := congrFun hG 9
  have g3_10 := congrFun hG 10
  have g3_11 := congrFun hG 11
  clear hG
  try simp -implicitDefEqProofs (disch := first | omega | decide) only [seval, -Int.reducePow, -Nat.reducePow, cC, pv, binv, sFlLReach1, undef, g2] at g3_9 g3_10 g3_11
  have g3 := And.intro g3_9 (And.intro g3_10 g3_11)
  refine cv_seq_k fun K hK => ?_
  refine cv_seq_k fun K hK => ?_
  refine cv_region_then rfl ?_
  simp -implicitDefEqProofs (disch := first | omega | decide) only [seval, -Int.reducePow, -Nat.reducePow, cC, pv, binv, sFlLReach1, undef, g3]
  refine hK _ _ ?_
  clear hK K
  refine cv_cond ?_
  simp -implicitDefEqProofs (disch := first | omega | decide) only [seval, -Int.reducePow, -Nat.reducePow, cC, pv, binv, sFlLReach1, undef, g3]
  refine ⟨fun hc => ?_, fun hc => ?_⟩
  · have hz : ¬ u.2.1 = 0 := nd_true ‹(!decide (u.2.1 = 0)) = true›
    have hn : u.1 = [] := by rw [← hu]; exact hgtF_err (by rw [hu]; exact hz)
    have hn1 : n1 = 0 := by rw [hn] at hl1; have : (i64z []).length = n1 * 1 := hl1; rw [z_len] at this; simp at this; omega
    subst hn1
    refine cv_seq_k fun K hK => ?_
    refine cv_region_then rfl ?_
    simp -implicitDefEqProofs (disch := first | omega | decide) only [seval, -Int.reducePow, -Nat.reducePow, cC, pv, binv, sFlLReach1, undef, g3]
    refine callV_ret (fun w hw => flAwake_any w) ?_
    try simp -implicitDefEqProofs (disch := first | omega | decide) only [seval, -Int.reducePow, -Nat.reducePow, cC, pv, binv, sFlLReach1, undef, g3]
    refine hK _ _ ?_
    clear hK K
    refine cv_ret ⟨_, (by simp -implicitDefEqProofs (disch := first | omega | decide) only [seval, -Int.reducePow, -Nat.reducePow, cC, pv, binv, sFlLReach1, undef, g3]; rfl), fun w hw => ?_⟩
    exact ⟨rfl, hw.below⟩
  have hz : u.2.1 = 0 := Decidable.not_not.1 (nd_false ‹(!decide (u.2.1 = 0)) = false›)
  obtain ⟨x, hf, hx, hsx, hR, hU2⟩ := hgtF_fine (by rw [hu]; exact hz)
  obtain ⟨hh1, hh2, hh3, hh4, hh5, hh6, hh7⟩ := hgt_spec hsx hx hR
  rw [hu] at hU2
  subst hU2
  obtain ⟨hch, k', x', hk', hx', hst⟩ := stF_ok hsx
  obtain rfl : k' = 0 := by omega
  rw [hx] at hx'
  obtain rfl : x = x' := Option.some.inj hx'
  have hsx2 : (stF k 0).1 = 0 := hsx
  clear hx' hk' hR hu hz
  obtain ⟨-, -, -, hg32, hck⟩ := chkM_ok hch
  obtain ⟨-, -, -, -, -, -, -, h1024, -⟩ := fnErr_ok (hck 0 x hx).1
  have hkn := (hck 0 x hx).2
  have hfx := fx_bd (gs := k.gs) (fun g hg => by
    obtain ⟨i, hi⟩ := List.getElem?_of_mem hg
    obtain ⟨g1, g2, g3, g4, g5, g6, -⟩ := fnErr_ok (hck i g hi).1
    omega)
  have hXD := hkD.fn x (List.mem_of_getElem? hx)
  have hxl : x.code.length = x.n := cl_row insc_len (by omega) hXD.len
  have hn1 : n1 = x.n := by have : (i64z hf).length = n1 * 1 := hl1; rw [z_len] at this; omega
  subst hn1
  obtain ⟨bC, oC, hA, hbC, -⟩ := hXD.cells (by omega)
  rw [hA] at hXD
  have hlg : k.gs.length = k.fn := cl_row fnc_len (by omega) hkD.gs.len
  have hfn1 : 0 < k.fn := by have := (List.getElem?_eq_some_iff.1 hx).1; omega
  obtain ⟨bF, oF, hFA, hbF, -⟩ := hkD.gs.cells hfn1
  obtain ⟨TA, tn, tc, ts, FA, fn, fc, gs⟩ := k
  dsimp only at *
  subst hFA
  refine cv_skip ?_
  try simp only [blockQ, thenQ]
  refine hK _ _ ?_
  clear hK K
  refine cv_rowA 1 rfl (by omega) fun gH hAA hgH hNN => ?_
  subst hAA
  simp only [List.eraseIdx_cons_zero, List.eraseIdx_cons_succ, neB_nil, neB_blk, neB_row, neB_snap, and_true, List.not_mem_nil, or_false] at hNN hgH
  replace hgH := And.intro hgH hNN
  clear hNN
  refine cv_snapNe 3 rfl hbF fun hneF => ?_
  simp only [List.eraseIdx_cons_zero, List.eraseIdx_cons_succ, neB_nil, neB_blk, neB_row, neB_snap, and_true, sFlLReach1, undef] at hneF
  refine cv_snapNe 3 rfl hbC fun hneC => ?_
  simp only [List.eraseIdx_cons_zero, List.eraseIdx_cons_succ, neB_nil, neB_blk, neB_row, neB_snap, and_true, sFlLReach1, undef] at hneC
  refine cv_seq_k fun K hK => ?_
  refine cv_region_then rfl ?_
  simp -implicitDefEqProofs (disch := first | omega | decide) only [seval, -Int.reducePow, -Nat.reducePow, cC, pv, binv, sFlLReach1, undef, g3]
  refine ⟨_, (fun w hw => Sl.fnf (W := w) (L := []) (hkD.at hw 3 rfl).gs hx w (St.nil [] w)), fun tok htok => ?_⟩
  subst htok
  simp -implicitDefEqProofs (disch := first | omega | decide) only [seval, -Int.reducePow, -Nat.reducePow, cC, pv, binv, sFlLReach1, undef, g3]
  refine xv_make (u := .bool false) tapB rfl rfl rfl (by omega) (by omega) ?_
  intro bS hbS hfS
  simp -implicitDefEqProofs (disch := first | omega | decide) only [seval, -Int.reducePow, -Nat.reducePow, cC, pv, binv, sFlLReach1, undef, g3]
  simp -implicitDefEqProofs (disch := first | omega | decide) only [seval, -Int.reducePow, -Nat.reducePow, cC, pv, binv, sFlLReach1, undef, g3] at hfS
  rw [show List.replicate x.n (Value.bool false) = boz (List.replicate x.n false) by unfold boz; rw [List.map_replicate]]
  refine hK _ _ ?_
  clear hK K
  refine cv_seq_k fun K hK => ?_
  refine cv_region_then rfl ?_
  simp -implicitDefEqProofs (disch := first | omega | decide) only [seval, -Int.reducePow, -Nat.reducePow, cC, pv, binv, sFlLReach1, undef, g3]
  intro b1 hb1 hf1
  refine hK _ _ ?_
  clear hK K
  have hds : Value.bool true :: List.drop 1 (boz (List.replicate x.n false)) = boz ((List.replicate x.n false).set 0 true) := by
    have := bz_set (d := List.replicate x.n false) (k := 0) true (by simp; omega)
    simpa using this
  refine cv_seq_k fun K hK => ?_
  refine cv_region_then rfl ?_
  simp -implicitDefEqProofs (disch := first | omega | decide) only [seval, -Int.reducePow, -Nat.reducePow, cC, pv, binv, sFlLReach1, undef, hds, bz_len, List.length_replicate, g3]
  refine ⟨by omega, ?_⟩
  refine hK _ _ ?_
  clear hK K
  obtain ⟨Kn, hKd⟩ : ∃ Kn : Nat → Prop, Kn = fun j => hAt hf j ≠ -1 := ⟨_, rfl⟩
  obtain ⟨nx, hnx⟩ : ∃ nx : Nat → List Nat, nx = fun i => nxP (insAt x i) i := ⟨_, rfl⟩
  have hKm : ∀ i, Kn i → i < x.n ∧ ∀ y ∈ nx i, y < x.n ∧ Kn y := fun i hi => by
    subst hKd hnx
    obtain ⟨hjl, hgd⟩ := hh5 i hi
    obtain ⟨hg1, hg2, hg3, hg4, hg5⟩ := hgd
    refine ⟨by omega, fun y hy => ⟨by have := hh6 i hjl y hy; omega, ?_⟩⟩
    have := hg5 y hy
    have := hfx (insAt x i)
    have := hh4 i
    dsimp only at *
    omega
  have hri := RI.start (N := x.n) (K := Kn) (D := nx) (by omega) (by subst hKd; show hAt hf 0 ≠ -1; omega)
  obtain ⟨sn0, hsn0⟩ : ∃ sn0, (List.replicate x.n false).set 0 true = sn0 := ⟨_, rfl⟩
  rw [hsn0] at hri
  have hun0 := undone_set (d := List.replicate x.n false) (k := 0) (by rw [List.getElem?_replicate, if_pos (by omega)])
  rw [hsn0, undone_new] at hun0
  refine cv_pick [1, 0, 2, 3, 4, 5] (by decide) ?_
  simp only [pickL, nth]
  refine cv_gen fun G4 hG => ?_
  have g4_9 := congrFun hG 9
  have g4_10 := congrFun hG 10
  have g4_12 := congrFun hG 12
  have g4_13 := congrFun hG 13
  clear hG
  try simp -implicitDefEqProofs (disch := first | omega | decide) only [seval, -Int.reducePow, -Nat.reducePow, cC, pv, binv, sFlLReach1, undef, hsn0, g3] at g4_9 g4_10 g4_12 g4_13
  have g4 := And.intro g4_9 (And.intro g4_10 (And.intro g4_12 g4_13))
  refine cv_seq_k fun K hK => ?_
  refine cv_block ?_
  refine cv_loop (fun F' L' => ∃ (bQ off n c : Nat) (cs : List Value) (q : List Nat) (s : List Bool), F' 9 = G4 9 ∧ F' 10 = G4 10 ∧ F' 12 = G4 12 ∧ F' 13 = .slice (some ⟨bQ, off, none⟩) n c ∧ L' = [.blk bS 4 (boz s), .blk bQ 3 cs, .blk b11 29 [.int .i64 0, .int .i64 (-1), .int .i64 (-1)], .row (.slice (some ⟨gH, 0, none⟩) x.n c1) 3 1 x.n (i64z hf), .blk b9 35 [.slice TA tn tc, .slice (some ⟨bF, oF, none⟩) fn fc], snap [] W v fo] ∧ Qd cs off n c q ∧ RI x.n Kn nx s q ∧ 2 * undone s + n ≤ 2 * x.n) (fun F' L' => 2 * undoneV L' + slLen (F' 13)) ?_ ?_
  · refine ⟨b1, 0, 1, 1, [.int .i64 (0 : Nat)], [0], sn0, ?_⟩
    simp -implicitDefEqProofs (disch := first | omega | decide) only [seval, -Int.reducePow, -Nat.reducePow, cC, pv, binv, sFlLReach1, undef, hsn0, g4]
    exact ⟨Qd.one 0, hri, by omega⟩
  intro G5 L' hI
  obtain ⟨bQ, off, n, c, cs, q, s, q9, q10, q12, q13, rfl, ⟨hqd, hri, hub⟩⟩ := hI
  have g5_9 := q9.trans g4_9
  have g5_10 := q10.trans g4_10
  have g5_12 := q12.trans g4_12
  have g5_13 := q13
  clear q9 q10 q12 q13
  have g5 := And.intro g5_9 (And.intro g5_10 (And.intro g5_12 g5_13))
  refine cv_apart fun hap => ?_
  simp only [factL_nil, factL_blk, factL_row, neR_nil, neR_blk, neR_row, neB_nil, neB_blk, neB_row, and_true, true_and, List.not_mem_nil, or_false, sFlLReach1, undef] at hap
  obtain ⟨hS0, ⟨q1, q2, q3⟩, -, hQ0, ⟨q4, q5⟩, -, -, q6, -⟩ := hap
  refine cv_seq_k fun K hK => ?_
  refine cv_seq_k fun K hK => ?_
  refine cv_region_then rfl ?_
  simp -implicitDefEqProofs (disch := first | omega | decide) only [seval, -Int.reducePow, -Nat.reducePow, cC, pv, binv, sFlLReach1, undef, g4, g5]
  refine hK _ _ ?_
  clear hK K
  refine cv_cond ?_
  simp -implicitDefEqProofs (disch := first | omega | decide) only [seval, -Int.reducePow, -Nat.reducePow, cC, pv, binv, sFlLReach1, undef, g4, g5]
  refine ⟨fun hc => ?_, fun hc => ?_⟩
  · refine cv_skip ?_
    try simp only [blockQ, thenQ]
    have hqp : 0 < n := by have := of_decide_eq_true ‹decide ((0 : Int) < (n : Int)) = true›; omega
    obtain ⟨at', q, rfl⟩ : ∃ a r, q = a :: r := by
      cases q with
      | nil => have := hqd.len; simp at this; omega
      | cons a r => exact ⟨a, r, rfl⟩
    have hhd := hqd.head
    obtain ⟨off', hsb, hqt⟩ := hqd.tail (b := bQ)
    have hat := hKm at' (hri.kn at' (hri.qu at' (.head _)))
    have hnc := hqd.nc
    obtain ⟨i, hi⟩ := some_of (l := x.code) (i := at') (by omega)
    have hii : insAt x at' = i := insAt_of hi
    have hnx0 : nxtF ⟨TA, tn, tc, ts, some ⟨bF, oF, none⟩, fn, fc, gs⟩ 0 (at' : Int) = nx at' := by
      subst hnx
      dsimp only
      rw [hii]
      unfold nxtF
      rw [if_pos hsx2, show (0 : Int) = ((0 : Nat) : Int) from rfl, fnAt_nat]
      dsimp only
      rw [hx]
      dsimp only
      rw [if_neg (by omega), Int.toNat_natCast, hi]
    refine hK _ _ ?_
    clear hK K
    refine cv_block ?_
    refine cv_seq_k fun K hK => ?_
    refine cv_region_then rfl ?_
    simp -implicitDefEqProofs (disch := first | omega | decide) only [seval, -Int.reducePow, -Nat.reducePow, cC, pv, binv, sFlLReach1, undef, hhd, g4, g5]
    refine hK _ _ ?_
    clear hK K
    refine cv_seq_k fun K hK => ?_
    refine cv_region_then rfl ?_
    simp -implicitDefEqProofs (disch := first | omega | decide) only [seval, -Int.reducePow, -Nat.reducePow, cC, pv, binv, sFlLReach1, undef, hsb, g4, g5]
    refine hK _ _ ?_
    clear hK K
    obtain ⟨M0, hM0⟩ : ∃ M0, 2 * undone s + n = M0 := ⟨_, rfl⟩
    refine cv_pick_post [1, 2, 3, 4, 5, 6] (by decide) ?_
    refine cv_gen fun G6 hG => ?_
    have g6_9 := congrFun hG 9
    have g6_10 := congrFun hG 10
    have g6_12 := congrFun hG 12
    have g6_13 := congrFun hG 13
    have g6_14 := congrFun hG 14
    clear hG
    try simp -implicitDefEqProofs (disch := first | omega | decide) only [seval, -Int.reducePow, -Nat.reducePow, cC, pv, binv, sFlLReach1, undef, g4, g5] at g6_9 g6_10 g6_12 g6_13 g6_14
    have g6 := And.intro g6_9 (And.intro g6_10 (And.intro g6_12 (And.intro g6_13 g6_14)))
    refine cv_seq_k fun K hK => ?_
    refine cv_region_then rfl ?_
    simp -implicitDefEqProofs (disch := first | omega | decide) only [seval, -Int.reducePow, -Nat.reducePow, cC, pv, binv, sFlLReach1, undef, g4, g5, g6]
    refine callV_row (fun A n c => .slice A n c) (fun w hw => (by have := rNext_any ⟨TA, tn, tc, ts, some ⟨bF, oF, none⟩, fn, fc, gs⟩ 0 (at' : Int) w (hkD.at hw 5 rfl); rw [hnx0] at this; exact this)) ?_
    intro A6 n6 c6 hl6 hr6
    simp -implicitDefEqProofs (disch := first | omega | decide) only [seval, -Int.reducePow, -Nat.reducePow, cC, pv, binv, sFlLReach1, undef, g4, g5, g6]
    refine hK _ _ ?_
    clear hK K
    have hn6 : (nx at').length = n6 := by rw [i64c_len] at hl6; omega
    have hn62 : n6 ≤ 2 := by
      rw [← hn6, hnx]
      dsimp only
      unfold nxP
      repeat' split
      all_goals simp
    refine cv_gen fun G7 hG => ?_
    have g7_9 := congrFun hG 9
    have g7_10 := congrFun hG 10
    have g7_12 := congrFun hG 12
    have g7_13 := congrFun hG 13
    have g7_54 := congrFun hG 54
    have g7_55 := congrFun hG 55
    have g7_56 := congrFun hG 56
    clear hG
    try simp -implicitDefEqProofs (disch := first | omega | decide) only [seval, -Int.reducePow, -Nat.reducePow, cC, pv, binv, sFlLReach1, undef, g4, g5, g6] at g7_9 g7_10 g7_12 g7_13 g7_54 g7_55 g7_56
    have g7 := And.intro g7_9 (And.intro g7_10 (And.intro g7_12 (And.intro g7_13 (And.intro g7_54 (And.intro g7_55 g7_56)))))
    refine cv_block ?_
    refine cv_loop (fun F' L' => ∃ (q' bQ off n c : Nat) (cs : List Value) (q : List Nat) (s : List Bool), F' 9 = G7 9 ∧ F' 10 = G7 10 ∧ F' 12 = G7 12 ∧ F' 13 = .slice (some ⟨bQ, off, none⟩) n c ∧ F' 54 = G7 54 ∧ F' 55 = G7 55 ∧ F' 56 = .int .i64 (q' : Int) ∧ L' = [.row (.slice A6 n6 c6) 3 1 n6 (i64c (nx at')), .blk bS 4 (boz s), .blk bQ 3 cs, .blk b11 29 [.int .i64 0, .int .i64 (-1), .int .i64 (-1)], .row (.slice (some ⟨gH, 0, none⟩) x.n c1) 3 1 x.n (i64z hf), .blk b9 35 [.slice TA tn tc, .slice (some ⟨bF, oF, none⟩) fn fc], snap [] W v fo] ∧ q' ≤ n6 ∧ Qd cs off n c q ∧ RI x.n Kn (cutD nx at' q') s q ∧ 2 * undone s + n < M0) (fun F' L' => 1100 - (intOf (F' 56)).toNat) ?_ ?_
    · refine ⟨0, bQ, off', n - 1, c - 1, cs, q, s, ?_⟩
      simp -implicitDefEqProofs (disch := first | omega | decide) only [seval, -Int.reducePow, -Nat.reducePow, cC, pv, binv, sFlLReach1, undef, g4, g5, g7]
      exact ⟨by omega, hqt, hri.pop, by omega⟩
    intro G8 L' hI
    obtain ⟨q', bQ, off, n, c, cs, q, s, q9, q10, q12, q13, q54, q55, q56, rfl, ⟨hq', hqd, hri, hM⟩⟩ := hI
    have g8_9 := q9.trans g7_9
    have g8_10 := q10.trans g7_10
    have g8_12 := q12.trans g7_12
    have g8_13 := q13
    have g8_54 := q54.trans g7_54
    have g8_55 := q55.trans g7_55
    have g8_56 := q56
    clear q9 q10 q12 q13 q54 q55 q56
    have g8 := And.intro g8_9 (And.intro g8_10 (And.intro g8_12 (And.intro g8_13 (And.intro g8_54 (And.intro g8_55 g8_56)))))
    refine cv_apart fun hap => ?_
    simp only [factL_nil, factL_blk, factL_row, neR_nil, neR_blk, neR_row, neB_nil, neB_blk, neB_row, and_true, true_and, List.not_mem_nil, or_false, sFlLReach1, undef] at hap
    obtain ⟨hA6, hS0, ⟨q1, q2, q3⟩, -, hQ0, ⟨q4, q5⟩, -, -, q6, -⟩ := hap
    refine cv_seq_k fun K hK => ?_
    refine cv_region_then rfl ?_
    simp -implicitDefEqProofs (disch := first | omega | decide) only [seval, -Int.reducePow, -Nat.reducePow, cC, pv, binv, sFlLReach1, undef, g4, g5, g7, g8]
    refine hK _ _ ?_
    clear hK K
    refine cv_seq_k fun K hK => ?_
    refine cv_cond ?_
    simp -implicitDefEqProofs (disch := first | omega | decide) only [seval, -Int.reducePow, -Nat.reducePow, cC, pv, binv, sFlLReach1, undef, g4, g5, g7, g8]
    refine ⟨fun hc => ?_, fun hc => ?_⟩
    · refine cv_skip ?_
      try simp only [blockQ, thenQ]
      have hqt : q' < n6 := by have := of_decide_eq_true ‹decide ((q' : Int) < (n6 : Int)) = true›; omega
      obtain ⟨y, hy⟩ := some_of (l := nx at') (i := q') (by omega)
      have hyn := (hat.2 y (List.mem_of_getElem? hy))
      have hsl := hri.len
      have hsy := bz_get (bAt_get (s := s) (j := y) (by omega))
      refine hK _ _ ?_
      clear hK K
      refine cv_seq_k fun K hK => ?_
      refine cv_rowA 0 rfl (by omega) fun g hAA hg hNN => ?_
      subst hAA
      simp only [List.eraseIdx_cons_zero, List.eraseIdx_cons_succ, neB_nil, neB_blk, neB_row, neB_snap, and_true, List.not_mem_nil, or_false] at hNN hg
      replace hg := And.intro hg hNN
      clear hNN
      refine cv_block ?_
      refine cv_seq_k fun K hK => ?_
      refine cv_region_then rfl ?_
      simp -implicitDefEqProofs (disch := first | omega | decide) only [seval, -Int.reducePow, -Nat.reducePow, cC, pv, binv, sFlLReach1, undef, g4, g5, g7, g8]
      refine ⟨_, ld_row1 (m := 1) (v := .int .i64 (y : Int)) (.head _) rfl (i64c_get hy), fun tok htok => ?_⟩
      subst htok
      simp -implicitDefEqProofs (disch := first | omega | decide) only [seval, -Int.reducePow, -Nat.reducePow, cC, pv, binv, sFlLReach1, undef, g4, g5, g7, g8]
      refine hK _ _ ?_
      clear hK K
      refine cv_seq_k fun K hK => ?_
      refine cv_region_then rfl ?_
      simp -implicitDefEqProofs (disch := first | omega | decide) only [seval, -Int.reducePow, -Nat.reducePow, cC, pv, binv, sFlLReach1, undef, hsy, g4, g5, g7, g8]
      refine hK _ _ ?_
      clear hK K
      refine cv_cond ?_
      simp -implicitDefEqProofs (disch := first | omega | decide) only [seval, -Int.reducePow, -Nat.reducePow, cC, pv, binv, sFlLReach1, undef, g4, g5, g7, g8]
      refine ⟨fun hc => ?_, fun hc => ?_⟩
      · have hsf : bAt s y = false := by simpa using ‹(!bAt s y) = true›
        have hun := undone_set (d := s) (k := y) (by rw [bAt_get (by omega), hsf])
        have hds := bz_set (d := s) (k := y) true (by omega)
        refine cv_seq_k fun K hK => ?_
        refine cv_region_then rfl ?_
        simp -implicitDefEqProofs (disch := first | omega | decide) only [seval, -Int.reducePow, -Nat.reducePow, cC, pv, binv, sFlLReach1, undef, hds, bz_len, g4, g5, g7, g8]
        refine ⟨by omega, ?_⟩
        refine hK _ _ ?_
        clear hK K
        refine cv_q ?_
        refine cv_region_then rfl ?_
        simp -implicitDefEqProofs (disch := first | omega | decide) only [seval, -Int.reducePow, -Nat.reducePow, cC, pv, binv, sFlLReach1, undef, g4, g5, g7, g8]
        intro b70 hb70 hf70
        refine appV_qd 3 tap26 rfl hqd (fun w hw => src_blk (size := 1) (.head _) rfl hw) (by omega) (by omega) ?_
        intro b' off' c' cs' hqd'
        simp -implicitDefEqProofs (disch := first | omega | decide) only [seval, -Int.reducePow, -Nat.reducePow, cC, pv, binv, sFlLReach1, undef, g4, g5, g7, g8]
        refine hK _ _ ?_
        clear hK K
        refine cv_pick [2, 3, 0, 4, 5, 6, 7] (by decide) ?_
        simp only [pickL, nth]
        refine cv_region_then rfl ?_
        simp -implicitDefEqProofs (disch := first | omega | decide) only [seval, -Int.reducePow, -Nat.reducePow, cC, pv, binv, sFlLReach1, undef, g4, g5, g7, g8]
        refine ⟨⟨q' + 1, b', off', n + 1, c', cs', q ++ [y], s.set y true, ?_⟩, ?_⟩
        · simp -implicitDefEqProofs (disch := first | omega | decide) only [seval, -Int.reducePow, -Nat.reducePow, cC, pv, binv, sFlLReach1, undef, Int.natCast_add, g4, g5, g7, g8]
          exact ⟨by omega, hqd', hri.new hy hyn.1 hyn.2, by omega⟩
        · simp only [intOf]; omega
      · have hst : bAt s y = true := by simpa using ‹(!bAt s y) = false›
        refine cv_skip ?_
        try simp only [blockQ, thenQ]
        refine hK _ _ ?_
        clear hK K
        refine cv_region_then rfl ?_
        simp -implicitDefEqProofs (disch := first | omega | decide) only [seval, -Int.reducePow, -Nat.reducePow, cC, pv, binv, sFlLReach1, undef, g4, g5, g7, g8]
        refine ⟨⟨q' + 1, bQ, off, n, c, cs, q, s, ?_⟩, ?_⟩
        · simp -implicitDefEqProofs (disch := first | omega | decide) only [seval, -Int.reducePow, -Nat.reducePow, cC, pv, binv, sFlLReach1, undef, Int.natCast_add, g4, g5, g7, g8]
          exact ⟨by omega, hqd, hri.old hy hst, by omega⟩
        · simp only [intOf]; omega
    refine cv_exit ?_
    simp only [blockQ, thenQ, if_true, ite_true]
    simp only [pickL, nth]
    have hq6 : ¬ q' < n6 := by have := of_decide_eq_false ‹decide ((q' : Int) < (n6 : Int)) = false›; omega
    refine ⟨⟨bQ, off, n, c, cs, q, s, ?_⟩, ?_⟩
    · simp -implicitDefEqProofs (disch := first | omega | decide) only [seval, -Int.reducePow, -Nat.reducePow, cC, pv, binv, sFlLReach1, undef, g4, g5, g7, g8]
      exact ⟨hqd, hri.done (by omega), by omega⟩
    · simp -implicitDefEqProofs (disch := first | omega | decide) only [seval, -Int.reducePow, -Nat.reducePow, cC, pv, binv, sFlLReach1, undef, undoneV_boz, slLen, g4, g5, g7, g8]
      omega
  refine cv_exit ?_
  simp only [blockQ, thenQ, if_true, ite_true]
  clear hK K
  refine hK _ _ ?_
  clear hK K
  have hq0 : q = [] := by
    have := of_decide_eq_false ‹_›
    exact List.eq_nil_of_length_eq_zero (by have := hqd.len; omega)
  subst hq0
  have hend := hri.end_ (fun S h0 hc j hj => by
    subst hKd hnx
    exact hh7 S h0 (fun k hk => hc k (by omega)) j hj)
  have hsl := hri.len
  refine cv_seq_k fun K hK => ?_
  refine cv_seq_k fun K hK => ?_
  refine cv_region_then rfl ?_
  simp -implicitDefEqProofs (disch := first | omega | decide) only [seval, -Int.reducePow, -Nat.reducePow, cC, pv, binv, sFlLReach1, undef, g4, g5]
  refine hK _ _ ?_
  clear hK K
  refine cv_cond ?_
  simp -implicitDefEqProofs (disch := first | omega | decide) only [seval, -Int.reducePow, -Nat.reducePow, cC, pv, binv, sFlLReach1, undef, g4, g5]
  refine cv_skip ?_
  try simp only [blockQ, thenQ]
  refine hK _ _ ?_
  clear hK K
  refine cv_gen fun G9 hG => ?_
  have g9_10 := congrFun hG 10
  have g9_12 := congrFun hG 12
  clear hG
  try simp -implicitDefEqProofs (disch := first | omega | decide) only [seval, -Int.reducePow, -Nat.reducePow, cC, pv, binv, sFlLReach1, undef, g4, g5] at g9_10 g9_12
  have g9 := And.intro g9_10 g9_12
  refine cv_seq_k fun K hK => ?_
  refine cv_seq_k fun K hK => ?_
  refine cv_region_then rfl ?_
  simp -implicitDefEqProofs (disch := first | omega | decide) only [seval, -Int.reducePow, -Nat.reducePow, cC, pv, binv, sFlLReach1, undef, g4, g5, g9]
  refine hK _ _ ?_
  clear hK K
  refine cv_gen fun G10 hG => ?_
  have g10_10 := congrFun hG 10
  have g10_12 := congrFun hG 12
  have g10_79 := congrFun hG 79
  have g10_80 := congrFun hG 80
  clear hG
  try simp -implicitDefEqProofs (disch := first | omega | decide) only [seval, -Int.reducePow, -Nat.reducePow, cC, pv, binv, sFlLReach1, undef, g4, g5, g9] at g10_10 g10_12 g10_79 g10_80
  have g10 := And.intro g10_10 (And.intro g10_12 (And.intro g10_79 g10_80))
  refine cv_block ?_
  refine cv_loop (fun F' L' => ∃ (j : Nat), F' 10 = G10 10 ∧ F' 12 = G10 12 ∧ F' 79 = G10 79 ∧ F' 80 = .int .i64 (j : Int) ∧ L' = [.blk bS 4 (boz s), .blk bQ 3 cs, .blk b11 29 [.int .i64 0, .int .i64 (-1), .int .i64 (-1)], .row (.slice (some ⟨gH, 0, none⟩) x.n c1) 3 1 x.n (i64z hf), .blk b9 35 [.slice TA tn tc, .slice (some ⟨bF, oF, none⟩) fn fc], snap [] W v fo] ∧ j ≤ x.n) (fun F' L' => 1100 - (intOf (F' 80)).toNat) ?_ ?_
  · refine ⟨0, ?_⟩
    simp -implicitDefEqProofs (disch := first | omega | decide) only [seval, -Int.reducePow, -Nat.reducePow, cC, pv, binv, sFlLReach1, undef, g4, g5, g10]
    omega
  intro G11 L' hI
  obtain ⟨j, q10, q12, q79, q80, rfl, hj⟩ := hI
  have g11_10 := q10.trans g10_10
  have g11_12 := q12.trans g10_12
  have g11_79 := q79.trans g10_79
  have g11_80 := q80
  clear q10 q12 q79 q80
  have g11 := And.intro g11_10 (And.intro g11_12 (And.intro g11_79 g11_80))
  refine cv_apart fun hap => ?_
  simp only [factL_nil, factL_blk, factL_row, neR_nil, neR_blk, neR_row, neB_nil, neB_blk, neB_row, and_true, true_and, List.not_mem_nil, or_false, sFlLReach1, undef] at hap
  obtain ⟨hS0, ⟨q1, q2, q3⟩, ⟨r1, -⟩, hQ0, ⟨q4, q5⟩, ⟨r2, -⟩, -, q6, -⟩ := hap
  have r1 := r1 gH rfl
  have r2 := r2 gH rfl
  refine cv_seq_k fun K hK => ?_
  refine cv_region_then rfl ?_
  simp -implicitDefEqProofs (disch := first | omega | decide) only [seval, -Int.reducePow, -Nat.reducePow, cC, pv, binv, sFlLReach1, undef, g4, g5, g10, g11]
  refine hK _ _ ?_
  clear hK K
  refine cv_seq_k fun K hK => ?_
  refine cv_cond ?_
  simp -implicitDefEqProofs (disch := first | omega | decide) only [seval, -Int.reducePow, -Nat.reducePow, cC, pv, binv, sFlLReach1, undef, g4, g5, g10, g11]
  refine ⟨fun hc => ?_, fun hc => ?_⟩
  · refine cv_skip ?_
    try simp only [blockQ, thenQ]
    have hjt : j < x.n := by have := of_decide_eq_true ‹decide ((j : Int) < (x.n : Int)) = true›; omega
    have hzj := z_get (h := hf) (k := j) (by omega)
    have hsj := bz_get (bAt_get (s := s) (j := j) (by omega))
    have hH : decide (0 ≤ hAt hf j) = bAt s j := by
      have h1 := hend j
      have h2 := hh4 j
      subst hKd
      dsimp only at h1
      rw [Bool.eq_iff_iff, h1, decide_eq_true_iff]
      omega
    refine hK _ _ ?_
    clear hK K
    refine cv_seq_k fun K hK => ?_
    refine cv_block ?_
    refine cv_seq_k fun K hK => ?_
    refine cv_region_then rfl ?_
    simp -implicitDefEqProofs (disch := first | omega | decide) only [seval, -Int.reducePow, -Nat.reducePow, cC, pv, binv, sFlLReach1, undef, g4, g5, g10, g11]
    refine hK _ _ ?_
    clear hK K
    refine cv_seq_k fun K hK => ?_
    refine cv_draw [(true, 0), (true, 1), (true, 2), (true, 3), (true, 4), (true, 5), (true, 6), (true, 7), (true, 8), (true, 9)] [] mixA rfl (by kernel_rfl) (by kernel_rfl) rfl rfl ?_
    simp -implicitDefEqProofs (disch := first | omega | decide) only [seval, -Int.reducePow, -Nat.reducePow, cC, pv, binv, sFlLReach1, undef, hsj, g4, g5, g10, g11]
    refine ⟨_, ld_row1 (m := 1) (v := .int .i64 (hAt hf j)) (i := j) (.tail _ (.tail _ (.tail _ (.head _)))) rfl hzj, fun tok htok => ?_⟩
    subst htok
    simp -implicitDefEqProofs (disch := first | omega | decide) only [seval, -Int.reducePow, -Nat.reducePow, cC, pv, binv, sFlLReach1, undef, hsj, hH, g4, g5, g10, g11]
    refine hK _ _ ?_
    clear hK K
    refine cv_cond ?_
    simp -implicitDefEqProofs (disch := first | omega | decide) only [seval, -Int.reducePow, -Nat.reducePow, cC, pv, binv, sFlLReach1, undef, g4, g5, g10, g11]
    refine cv_skip ?_
    try simp only [blockQ, thenQ]
    refine hK _ _ ?_
    clear hK K
    refine cv_region_then rfl ?_
    simp -implicitDefEqProofs (disch := first | omega | decide) only [seval, -Int.reducePow, -Nat.reducePow, cC, pv, binv, sFlLReach1, undef, g4, g5, g10, g11]
    refine ⟨⟨j + 1, ?_⟩, ?_⟩
    · simp -implicitDefEqProofs (disch := first | omega | decide) only [seval, -Int.reducePow, -Nat.reducePow, cC, pv, binv, sFlLReach1, undef, Int.natCast_add, g4, g5, g10, g11]
      omega
    · simp only [intOf]; omega
  refine cv_exit ?_
  simp only [blockQ, thenQ, if_true, ite_true]
  clear hK K
  refine hK _ _ ?_
  clear hK K
  refine cv_seq_k fun K hK => ?_
  refine cv_region_then rfl ?_
  simp -implicitDefEqProofs (disch := first | omega | decide) only [seval, -Int.reducePow, -Nat.reducePow, cC, pv, binv, sFlLReach1, undef, g4, g5, g10, g11]
  refine callV_ret (fun w hw => flAwake_any w) ?_
  try simp -implicitDefEqProofs (disch := first | omega | decide) only [seval, -Int.reducePow, -Nat.reducePow, cC, pv, binv, sFlLReach1, undef, g4, g5, g10, g11]
  refine hK _ _ ?_
  clear hK K
  refine cv_ret ⟨_, (by simp -implicitDefEqProofs (disch := first | omega | decide) only [seval, -Int.reducePow, -Nat.reducePow, cC, pv, binv, sFlLReach1, undef, g4, g5, g10, g11]; rfl), fun w hw => ?_⟩
  exact ⟨rfl, hw.below⟩
end Go.Proofs.Ythlhjljgpohgbaa
