/- The law FlowSame, walked. -/
import Derived.Test.YthlhjljgpohgbaaFlRand
import Derived.Test.YthlhjljgpohgbaaFlRun
import Derived.Test.YthlhjljgpohgbaaMore
namespace Go.Proofs.Ythlhjljgpohgbaa
open Go.RowKit Go.Shelf
set_option linter.unusedVariables false
set_option linter.unusedSimpArgs false
set_option maxRecDepth 100000
theorem cv_snapNe {P : Program} {W v : World} {L : List Res} {foot : List Nat} {n x : Nat} {c : Code} {F : Fr} {Q : Exit → Fr → List Res → Prop} (k : Nat) (hk : nth L k = some (snap [] W v foot)) (hx : Dm [] W foot x) (h : neB (L.eraseIdx k) x → CV P [] W n c F L Q) : CV P [] W n c F L Q := fun a w ha hw => by
  refine h (neB_of fun r hr hxr => ?_) a w ha hw
  have hp := hw.perm (perm_erase hk).symm
  rcases hx with hx | hx
  · exact (List.pairwise_cons.1 hp.apart).1 r hr x (by simpa [snap_foot] using hx) hxr
  · have := (hp.own r (.tail _ hr) x hxr).1
    simp at this
    omega
section
variable {W w : World} {L : List Res} {n c : Nat} {is : List Ins}
theorem Sl.inarg {b off k : Nat} {x : Ins} (h : Sl W W.heap.size 2 (some ⟨b, off, none⟩) n c (cl insc is)) (hx : is[k]? = some x) : LD Try.prog [] W L 23 ⟨b, off + k * 2 + 1, none⟩ (.int .u64 (x.arg : Int)) := by
  rw [Nat.add_assoc]
  exact h.ld1 (m := 1) (i := k * 2 + 1) (by kernel_rfl) (cl_get (j := 1) insc_len hx rfl)
end
set_option maxRecDepth 100000 in
theorem sFlLSame1 : type_of% (And.intro (And.intro (And.intro @mBox.eq_1 @modV.eq_1) (And.intro @tape.eq_1 (And.intro @tpBox.eq_1 @flBox.eq_1))) (And.intro (And.intro @fltV.eq_1 @fineF.eq_1) (And.intro @cS (And.intro @Nat.mul_one @wrap_in)))) := (And.intro (And.intro (And.intro @mBox.eq_1 @modV.eq_1) (And.intro @tape.eq_1 (And.intro @tpBox.eq_1 @flBox.eq_1))) (And.intro (And.intro @fltV.eq_1 @fineF.eq_1) (And.intro @cS (And.intro @Nat.mul_one @wrap_in))))
set_option maxHeartbeats 8000000 in
theorem fSame_walk (W : World) (A : Option Addr) (n c : Nat) (l : List (List Nat)) (hE : Sl W W.heap.size 2 A n c (cl u8r l)) (h2 : ∀ r ∈ l, r.length = 2 ∧ ∀ x ∈ r, (x : Int) < 256)
    (s : Nat × Nat × Nat × Nat) (hs : s.1 < 256 ∧ s.2.1 < 256 ∧ s.2.2.1 < 256 ∧ s.2.2.2 < 256) (B : Option Addr) (m d : Nat) (ul : List Nat) (hU : Sl W W.heap.size 1 B m d (u16c ul)) (hl : ∀ x ∈ ul, x < 65536) (choose : Bool) :
    Calls Try.prog 7 #[.slice A n c, .agg #[.int .u8 (s.1 : Int), .int .u8 (s.2.1 : Int), .int .u8 (s.2.2.1 : Int), .int .u8 (s.2.2.2 : Int)], .slice B m d, .bool choose] W fun e w' => e = .returned (.bool true) ∧ Below W.heap.size W w' := by
  obtain ⟨s0, s1, s2, s3⟩ := s
  dsimp only at *
  have hl60 : ∀ x ∈ ul.take 60, x < 65536 := fun x hx => hl x (List.mem_of_mem_take hx)
  refine calls_cv (M := []) (n := 200) [.tmp 8] rfl Try.func7 rfl rfl (Nat.le_of_ble_eq_true rfl) (St.nil _ _) ?_
  refine cv_seq_k fun K hK => ?_
  refine cv_region_then rfl ?_
  simp -implicitDefEqProofs (disch := first | omega | decide) only [seval, -Int.reducePow, -Nat.reducePow, cC, pv, binv, sFlLSame1, undef]
  intro b5 hb5
  refine hK _ _ ?_
  clear hK K
  refine cv_seq_k fun K hK => ?_
  refine cv_region_then rfl ?_
  simp -implicitDefEqProofs (disch := first | omega | decide) only [seval, -Int.reducePow, -Nat.reducePow, cC, pv, binv, sFlLSame1, undef]
  refine callV_nest modV (fun k w w' => ModD w' (Nw w w') k) (fun w hw => flRandom_any A n c l s0 s1 s2 s3 w (hE.at hw) h2 hs.1 hs.2.1 hs.2.2.1 hs.2.2.2) ?_
  intro k0 w0 w1 f1 hw0 hw1 hk hNw
  have hkD0 : ModD w1 (Dm [] W f1) k0 := hk.mono fun y hy => .inl (hNw y hy)
  clear hk hNw hw0 hw1
  simp -implicitDefEqProofs (disch := first | omega | decide) only [seval, -Int.reducePow, -Nat.reducePow, cC, pv, binv, sFlLSame1, undef]
  intro b9 hb9 hf9
  refine hK _ _ ?_
  clear hK K
  refine cv_pick [0, 1] (by decide) ?_
  simp only [pickL, nth]
  refine cv_gen fun G1 hG => ?_
  have g1_2 := congrFun hG 2
  have g1_3 := congrFun hG 3
  have g1_9 := congrFun hG 9
  clear hG
  try simp -implicitDefEqProofs (disch := first | omega | decide) only [seval, -Int.reducePow, -Nat.reducePow, cC, pv, binv, sFlLSame1, undef] at g1_2 g1_3 g1_9
  have g1 := And.intro g1_2 (And.intro g1_3 g1_9)
  refine cv_seq_k fun K hK => ?_
  refine cv_cut (fun _ _ => True) (fun F' L' => ∃ (k : ModR) (v : World) (fo : List Nat), F' 9 = G1 9 ∧ L' = [.blk b9 35 [.slice k.TA k.tn k.tc, .slice k.FA k.fn k.fc], snap [] W v fo] ∧ ModD v (Dm [] W fo) k) ?_ ?_
  · refine cv_seq_k fun K hK => ?_
    refine cv_region_then rfl ?_
    simp -implicitDefEqProofs (disch := first | omega | decide) only [seval, -Int.reducePow, -Nat.reducePow, cC, pv, binv, sFlLSame1, undef, g1]
    refine hK _ _ ?_
    clear hK K
    refine cv_cond ?_
    simp -implicitDefEqProofs (disch := first | omega | decide) only [seval, -Int.reducePow, -Nat.reducePow, cC, pv, binv, sFlLSame1, undef, g1]
    refine ⟨fun hc => ?_, fun hc => ?_⟩
    · refine cv_pick_post [3, 0] (by decide) ?_
      refine cv_region_q rfl ?_
      simp -implicitDefEqProofs (disch := first | omega | decide) only [seval, -Int.reducePow, -Nat.reducePow, cC, pv, binv, sFlLSame1, undef, g1]
      refine callV_boxRow (fun w hw => of_any B m d ul 60 w (hU.at hw) (by omega)) ?_
      intro b4 A2 n2 c2 hl2 hb4 hf4 hr2
      simp -implicitDefEqProofs (disch := first | omega | decide) only [seval, -Int.reducePow, -Nat.reducePow, cC, pv, binv, sFlLSame1, undef, g1] at hf4
      simp -implicitDefEqProofs (disch := first | omega | decide) only [seval, -Int.reducePow, -Nat.reducePow, cC, pv, binv, sFlLSame1, undef, g1]
      refine callV_pick [0, 1, 2] (by decide) ?_
      simp only [pickL, nth]
      refine callV_nestM 1 (fun p : ModR × Nat => modV p.1) (fun p w w' => ModD w' (Nw w w') p.1 ∧ Good p.1) (fun p => tape A2 n2 c2 p.2) rfl (fun w hw => module_any b4 A2 n2 c2 (ul.take 60) 0 10 w (hw.hold 1 rfl) (hw.slr 0 rfl) (fun _ => hr2.apt) hl60 (by omega) (by omega)) ?_
      rintro ⟨k, j⟩ w2 w3 f3 hw2 hw3 ⟨hk, hg⟩ hNw
      have hkD : ModD w3 (Dm [] W f3) k := hk.mono fun y hy => .inl (hNw y hy)
      dsimp only at *
      simp -implicitDefEqProofs (disch := first | omega | decide) only [seval, -Int.reducePow, -Nat.reducePow, cC, pv, binv, sFlLSame1, undef, g1]
      exact ⟨k, w3, f3, rfl, hkD⟩
    · refine cv_skip ?_
      try simp only [blockQ, thenQ]
      simp -implicitDefEqProofs (disch := first | omega | decide) only [seval, -Int.reducePow, -Nat.reducePow, cC, pv, binv, sFlLSame1, undef, g1]
      exact ⟨k0, w1, f1, rfl, hkD0⟩
  intro G2 L' _ hF
  obtain ⟨k, v, fo, q9, rfl, hkD⟩ := hF
  have g2_9 := q9.trans g1_9
  clear q9
  have g2 := g2_9
  refine hK _ _ ?_
  clear hK K
  obtain ⟨u, hu⟩ : ∃ u, hgtF k 0 = u := ⟨_, rfl⟩
  refine cv_seq_k fun K hK => ?_
  refine cv_region_then rfl ?_
  simp -implicitDefEqProofs (disch := first | omega | decide) only [seval, -Int.reducePow, -Nat.reducePow, cC, pv, binv, sFlLSame1, undef, g2]
  refine callV_row (fun A n c => .tuple #[.slice A n c, fltV u.2]) (fun w hw => (by have := Heights_any k 0 w (hkD.at hw 1 rfl); rw [hu] at this; exact this)) ?_
  intro A1 n1 c1 hl1 hr1
  simp -implicitDefEqProofs (disch := first | omega | decide) only [seval, -Int.reducePow, -Nat.reducePow, cC, pv, binv, sFlLSame1, undef, g2]
  intro b11 hb11 hf11
  refine hK _ _ ?_
  clear hK K
  refine cv_gen fun G3 hG => ?_
  have g3_9 := congrFun hG 9
  have g3_10 := congrFun hG 10
  have g3_11 := congrFun hG 11
  clear hG
  try simp -implicitDefEqProofs (disch := first | omega | decide) only [seval, -Int.reducePow, -Nat.reducePow, cC, pv, binv, sFlLSame1, undef, g2] at g3_9 g3_10 g3_11
  have g3 := And.intro g3_9 (And.intro g3_10 g3_11)
  refine cv_seq_k fun K hK => ?_
  refine cv_seq_k fun K hK => ?_
  refine cv_region_then rfl ?_
  simp -implicitDefEqProofs (disch := first | omega | decide) only [seval, -Int.reducePow, -Nat.reducePow, cC, pv, binv, sFlLSame1, undef, g3]
  refine hK _ _ ?_
  clear hK K
  refine cv_cond ?_
  simp -implicitDefEqProofs (disch := first | omega | decide) only [seval, -Int.reducePow, -Nat.reducePow, cC, pv, binv, sFlLSame1, undef, g3]
  refine ⟨fun hc => ?_, fun hc => ?_⟩
  · have hz : ¬ u.2.1 = 0 := nd_true ‹(!decide (u.2.1 = 0)) = true›
    have hn : u.1 = [] := by rw [← hu]; exact hgtF_err (by rw [hu]; exact hz)
    have hn1 : n1 = 0 := by rw [hn] at hl1; have : (i64z []).length = n1 * 1 := hl1; rw [z_len] at this; simp at this; omega
    subst hn1
    refine cv_seq_k fun K hK => ?_
    refine cv_region_then rfl ?_
    simp -implicitDefEqProofs (disch := first | omega | decide) only [seval, -Int.reducePow, -Nat.reducePow, cC, pv, binv, sFlLSame1, undef, g3]
    refine callV_ret (fun w hw => flAwake_any w) ?_
    try simp -implicitDefEqProofs (disch := first | omega | decide) only [seval, -Int.reducePow, -Nat.reducePow, cC, pv, binv, sFlLSame1, undef, g3]
    refine hK _ _ ?_
    clear hK K
    refine cv_ret ⟨_, (by simp -implicitDefEqProofs (disch := first | omega | decide) only [seval, -Int.reducePow, -Nat.reducePow, cC, pv, binv, sFlLSame1, undef, g3]; rfl), fun w hw => ?_⟩
    exact ⟨rfl, hw.below⟩
  have hz : u.2.1 = 0 := Decidable.not_not.1 (nd_false ‹(!decide (u.2.1 = 0)) = false›)
  obtain ⟨x, hf, hx, hsx, hR, hU2⟩ := hgtF_fine (by rw [hu]; exact hz)
  obtain ⟨hh1, hh2, hh3, hh4, hh5, hh6, -⟩ := hgt_spec hsx hx hR
  rw [hu] at hU2
  subst hU2
  obtain ⟨hch, k', x', hk', hx', hst⟩ := stF_ok hsx
  obtain rfl : k' = 0 := by omega
  rw [hx] at hx'
  obtain rfl : x = x' := Option.some.inj hx'
  have hsx2 : (stF k 0).1 = 0 := hsx
  clear hx' hk' hR hu hz
  obtain ⟨-, -, -, hg32, hck⟩ := chkM_ok hch
  obtain ⟨-, -, -, -, -, -, -, h1024, -⟩ := fnErr_ok (hck 0 x hx).1
  have hkn := (hck 0 x hx).2
  have hfx := fx_bd (gs := k.gs) (fun g hg => by
    obtain ⟨i, hi⟩ := List.getElem?_of_mem hg
    obtain ⟨g1, g2, g3, g4, g5, g6, -⟩ := fnErr_ok (hck i g hi).1
    omega)
  have hXD := hkD.fn x (List.mem_of_getElem? hx)
  have hxl : x.code.length = x.n := cl_row insc_len (by omega) hXD.len
  have hn1 : n1 = x.n := by have : (i64z hf).length = n1 * 1 := hl1; rw [z_len] at this; omega
  subst hn1
  obtain ⟨bC, oC, hA, hbC, -⟩ := hXD.cells (by omega)
  rw [hA] at hXD
  have hlg : k.gs.length = k.fn := cl_row fnc_len (by omega) hkD.gs.len
  have hfn1 : 0 < k.fn := by have := (List.getElem?_eq_some_iff.1 hx).1; omega
  obtain ⟨bF, oF, hFA, hbF, -⟩ := hkD.gs.cells hfn1
  obtain ⟨TA, tn, tc, ts, FA, fn, fc, gs⟩ := k
  dsimp only at *
  subst hFA
  refine cv_skip ?_
  try simp only [blockQ, thenQ]
  refine hK _ _ ?_
  clear hK K
  refine cv_rowA 1 rfl (by omega) fun gH hAA hgH hNN => ?_
  subst hAA
  simp only [List.eraseIdx_cons_zero, List.eraseIdx_cons_succ, neB_nil, neB_blk, neB_row, neB_snap, and_true, List.not_mem_nil, or_false] at hNN hgH
  replace hgH := And.intro hgH hNN
  clear hNN
  refine cv_snapNe 3 rfl hbF fun hneF => ?_
  simp only [List.eraseIdx_cons_zero, List.eraseIdx_cons_succ, neB_nil, neB_blk, neB_row, neB_snap, and_true, sFlLSame1, undef] at hneF
  refine cv_snapNe 3 rfl hbC fun hneC => ?_
  simp only [List.eraseIdx_cons_zero, List.eraseIdx_cons_succ, neB_nil, neB_blk, neB_row, neB_snap, and_true, sFlLSame1, undef] at hneC
  refine cv_seq_k fun K hK => ?_
  refine cv_region_then rfl ?_
  simp -implicitDefEqProofs (disch := first | omega | decide) only [seval, -Int.reducePow, -Nat.reducePow, cC, pv, binv, sFlLSame1, undef, g3]
  refine ⟨_, (fun w hw => Sl.fnf (W := w) (L := []) (hkD.at hw 3 rfl).gs hx w (St.nil [] w)), fun tok htok => ?_⟩
  subst htok
  simp -implicitDefEqProofs (disch := first | omega | decide) only [seval, -Int.reducePow, -Nat.reducePow, cC, pv, binv, sFlLSame1, undef, g3]
  refine hK _ _ ?_
  clear hK K
  refine cv_gen fun G4 hG => ?_
  have g4_9 := congrFun hG 9
  have g4_10 := congrFun hG 10
  have g4_12 := congrFun hG 12
  clear hG
  try simp -implicitDefEqProofs (disch := first | omega | decide) only [seval, -Int.reducePow, -Nat.reducePow, cC, pv, binv, sFlLSame1, undef, hA, g3] at g4_9 g4_10 g4_12
  have g4 := And.intro g4_9 (And.intro g4_10 g4_12)
  refine cv_seq_k fun K hK => ?_
  refine cv_seq_k fun K hK => ?_
  refine cv_region_then rfl ?_
  simp -implicitDefEqProofs (disch := first | omega | decide) only [seval, -Int.reducePow, -Nat.reducePow, cC, pv, binv, sFlLSame1, undef, g4]
  refine ⟨_, ld_row1 (m := 1) (v := .int .i64 0) (i := 0) (.tail _ (.head _)) rfl (by rw [z_get (by omega), hh3]), fun tok htok => ?_⟩
  subst htok
  simp -implicitDefEqProofs (disch := first | omega | decide) only [seval, -Int.reducePow, -Nat.reducePow, cC, pv, binv, sFlLSame1, undef, g4]
  refine hK _ _ ?_
  clear hK K
  refine cv_cond ?_
  simp -implicitDefEqProofs (disch := first | omega | decide) only [seval, -Int.reducePow, -Nat.reducePow, cC, pv, binv, sFlLSame1, undef, g4]
  refine cv_skip ?_
  try simp only [blockQ, thenQ]
  refine hK _ _ ?_
  clear hK K
  refine cv_gen fun G5 hG => ?_
  have g5_9 := congrFun hG 9
  have g5_10 := congrFun hG 10
  have g5_12 := congrFun hG 12
  clear hG
  try simp -implicitDefEqProofs (disch := first | omega | decide) only [seval, -Int.reducePow, -Nat.reducePow, cC, pv, binv, sFlLSame1, undef, g4] at g5_9 g5_10 g5_12
  have g5 := And.intro g5_9 (And.intro g5_10 g5_12)
  refine cv_seq_k fun K hK => ?_
  refine cv_seq_k fun K hK => ?_
  refine cv_region_then rfl ?_
  simp -implicitDefEqProofs (disch := first | omega | decide) only [seval, -Int.reducePow, -Nat.reducePow, cC, pv, binv, sFlLSame1, undef, g5]
  refine hK _ _ ?_
  clear hK K
  refine cv_gen fun G6 hG => ?_
  have g6_9 := congrFun hG 9
  have g6_10 := congrFun hG 10
  have g6_12 := congrFun hG 12
  have g6_57 := congrFun hG 57
  have g6_58 := congrFun hG 58
  clear hG
  try simp -implicitDefEqProofs (disch := first | omega | decide) only [seval, -Int.reducePow, -Nat.reducePow, cC, pv, binv, sFlLSame1, undef, g5] at g6_9 g6_10 g6_12 g6_57 g6_58
  have g6 := And.intro g6_9 (And.intro g6_10 (And.intro g6_12 (And.intro g6_57 g6_58)))
  refine cv_block ?_
  refine cv_loop (fun F' L' => ∃ (j : Nat), F' 9 = G6 9 ∧ F' 10 = G6 10 ∧ F' 12 = G6 12 ∧ F' 57 = G6 57 ∧ F' 58 = .int .i64 (j : Int) ∧ L' = [.blk b11 29 [.int .i64 0, .int .i64 (-1), .int .i64 (-1)], .row (.slice (some ⟨gH, 0, none⟩) x.n c1) 3 1 x.n (i64z hf), .blk b9 35 [.slice TA tn tc, .slice (some ⟨bF, oF, none⟩) fn fc], snap [] W v fo] ∧ j ≤ x.n) (fun F' L' => 1100 - (intOf (F' 58)).toNat) ?_ ?_
  · refine ⟨0, ?_⟩
    simp -implicitDefEqProofs (disch := first | omega | decide) only [seval, -Int.reducePow, -Nat.reducePow, cC, pv, binv, sFlLSame1, undef, g6]
    omega
  intro G7 L' hI
  obtain ⟨j, q9, q10, q12, q57, q58, rfl, hj⟩ := hI
  have g7_9 := q9.trans g6_9
  have g7_10 := q10.trans g6_10
  have g7_12 := q12.trans g6_12
  have g7_57 := q57.trans g6_57
  have g7_58 := q58
  clear q9 q10 q12 q57 q58
  have g7 := And.intro g7_9 (And.intro g7_10 (And.intro g7_12 (And.intro g7_57 g7_58)))
  refine cv_seq_k fun K hK => ?_
  refine cv_region_then rfl ?_
  simp -implicitDefEqProofs (disch := first | omega | decide) only [seval, -Int.reducePow, -Nat.reducePow, cC, pv, binv, sFlLSame1, undef, g6, g7]
  refine hK _ _ ?_
  clear hK K
  refine cv_seq_k fun K hK => ?_
  refine cv_cond ?_
  simp -implicitDefEqProofs (disch := first | omega | decide) only [seval, -Int.reducePow, -Nat.reducePow, cC, pv, binv, sFlLSame1, undef, g6, g7]
  refine ⟨fun hc => ?_, fun hc => ?_⟩
  · refine cv_skip ?_
    try simp only [blockQ, thenQ]
    have hjt : j < x.n := by have := of_decide_eq_true ‹decide ((j : Int) < (x.n : Int)) = true›; omega
    obtain ⟨i, hi⟩ := some_of (l := x.code) (i := j) (by omega)
    have hii : insAt x j = i := insAt_of hi
    have hzj := z_get (h := hf) (k := j) (by omega)
    have hrj := hh4 j
    obtain ⟨H, hH⟩ : ∃ H, hAt hf j = H := ⟨_, rfl⟩
    rw [hH] at hzj hrj
    refine hK _ _ ?_
    clear hK K
    refine cv_seq_k fun K hK => ?_
    refine cv_block ?_
    refine cv_seq_k fun K hK => ?_
    refine cv_region_then rfl ?_
    simp -implicitDefEqProofs (disch := first | omega | decide) only [seval, -Int.reducePow, -Nat.reducePow, cC, pv, binv, sFlLSame1, undef, g6, g7]
    refine hK _ _ ?_
    clear hK K
    refine cv_seq_k fun K hK => ?_
    refine cv_seq_k fun K hK => ?_
    refine cv_region_then rfl ?_
    simp -implicitDefEqProofs (disch := first | omega | decide) only [seval, -Int.reducePow, -Nat.reducePow, cC, pv, binv, sFlLSame1, undef, g6, g7]
    refine ⟨_, ld_row1 (m := 1) (v := .int .i64 H) (i := j) (.tail _ (.head _)) rfl hzj, fun tok htok => ?_⟩
    subst htok
    simp -implicitDefEqProofs (disch := first | omega | decide) only [seval, -Int.reducePow, -Nat.reducePow, cC, pv, binv, sFlLSame1, undef, g6, g7]
    refine hK _ _ ?_
    clear hK K
    refine cv_cond ?_
    simp -implicitDefEqProofs (disch := first | omega | decide) only [seval, -Int.reducePow, -Nat.reducePow, cC, pv, binv, sFlLSame1, undef, g6, g7]
    refine ⟨fun hc => ?_, fun hc => ?_⟩
    · refine cv_exit ?_
      simp only [blockQ, thenQ, if_true, ite_true]
      clear hK K
      refine hK _ _ ?_
      clear hK K
      refine cv_region_then rfl ?_
      simp -implicitDefEqProofs (disch := first | omega | decide) only [seval, -Int.reducePow, -Nat.reducePow, cC, pv, binv, sFlLSame1, undef, g6, g7]
      refine ⟨⟨j + 1, ?_⟩, ?_⟩
      · simp -implicitDefEqProofs (disch := first | omega | decide) only [seval, -Int.reducePow, -Nat.reducePow, cC, pv, binv, sFlLSame1, undef, Int.natCast_add, g6, g7]
        omega
      · simp only [intOf]; omega
    have hH0 : ¬ H < 0 := of_decide_eq_false ‹_›
    obtain ⟨hjl, hgd⟩ := hh5 j (by rw [hH]; omega)
    obtain ⟨hg1, hg2, hg3, hg4, hg5⟩ := hgd
    rw [hii] at hg2 hg3 hg4 hg5
    rw [hH] at hg2 hg3 hg4 hg5
    refine cv_skip ?_
    try simp only [blockQ, thenQ]
    refine hK _ _ ?_
    clear hK K
    refine cv_seq_k fun K hK => ?_
    refine cv_region_then rfl ?_
    simp -implicitDefEqProofs (disch := first | omega | decide) only [seval, -Int.reducePow, -Nat.reducePow, cC, pv, binv, sFlLSame1, undef, g6, g7]
    refine ⟨_, (fun w hw => Sl.inop (W := w) (L := []) (hXD.at hw 3 rfl) hi w (St.nil [] w)), fun tok htok => ?_⟩
    subst htok
    simp -implicitDefEqProofs (disch := first | omega | decide) only [seval, -Int.reducePow, -Nat.reducePow, cC, pv, binv, sFlLSame1, undef, g6, g7]
    refine callV_ret (fun w hw => r_effect_any i.op w) ?_
    try simp -implicitDefEqProofs (disch := first | omega | decide) only [seval, -Int.reducePow, -Nat.reducePow, cC, pv, binv, sFlLSame1, undef, g6, g7]
    refine hK _ _ ?_
    clear hK K
    refine cv_gen fun G8 hG => ?_
    have g8_9 := congrFun hG 9
    have g8_10 := congrFun hG 10
    have g8_12 := congrFun hG 12
    have g8_13 := congrFun hG 13
    have g8_14 := congrFun hG 14
    have g8_15 := congrFun hG 15
    have g8_16 := congrFun hG 16
    have g8_57 := congrFun hG 57
    have g8_58 := congrFun hG 58
    clear hG
    try simp -implicitDefEqProofs (disch := first | omega | decide) only [seval, -Int.reducePow, -Nat.reducePow, cC, pv, binv, sFlLSame1, undef, g6, g7] at g8_9 g8_10 g8_12 g8_13 g8_14 g8_15 g8_16 g8_57 g8_58
    have g8 := And.intro g8_9 (And.intro g8_10 (And.intro g8_12 (And.intro g8_13 (And.intro g8_14 (And.intro g8_15 (And.intro g8_16 (And.intro g8_57 g8_58)))))))
    have hio := stF_op (hkn i (List.mem_of_getElem? hi))
    have hsi := hst j i hi
    have hpq := hfx i
    refine cv_seq_k fun K hK => ?_
    refine cv_cut (fun _ _ => True) (fun F' L' => F' 9 = G8 9 ∧ F' 10 = G8 10 ∧ F' 12 = G8 12 ∧ F' 13 = G8 13 ∧ F' 14 = .int .i64 (fxP gs i).1 ∧ F' 15 = .int .i64 (fxP gs i).2 ∧ F' 57 = G8 57 ∧ F' 58 = G8 58 ∧ L' = [.blk b11 29 [.int .i64 0, .int .i64 (-1), .int .i64 (-1)], .row (.slice (some ⟨gH, 0, none⟩) x.n c1) 3 1 x.n (i64z hf), .blk b9 35 [.slice TA tn tc, .slice (some ⟨bF, oF, none⟩) fn fc], snap [] W v fo]) ?_ ?_
    · refine cv_block ?_
      refine cv_seq_k fun K hK => ?_
      refine cv_region_then rfl ?_
      simp -implicitDefEqProofs (disch := first | omega | decide) only [seval, -Int.reducePow, -Nat.reducePow, cC, pv, binv, sFlLSame1, undef, g6, g7, g8]
      refine ⟨_, (fun w hw => Sl.inop (W := w) (L := []) (hXD.at hw 3 rfl) hi w (St.nil [] w)), fun tok htok => ?_⟩
      subst htok
      simp -implicitDefEqProofs (disch := first | omega | decide) only [seval, -Int.reducePow, -Nat.reducePow, cC, pv, binv, sFlLSame1, undef, g6, g7, g8]
      refine hK _ _ ?_
      clear hK K
      refine cv_cond ?_
      simp -implicitDefEqProofs (disch := first | omega | decide) only [seval, -Int.reducePow, -Nat.reducePow, cC, pv, binv, sFlLSame1, undef, g6, g7, g8]
      refine ⟨fun hc => ?_, fun hc => ?_⟩
      · have q1 := of_decide_eq_true ‹_›
        have hal : i.arg < fn := by have := stE_call hsi q1; omega
        obtain ⟨g, hg⟩ := some_of (l := gs) (i := i.arg) (by omega)
        have hf1 : fxP gs i = (g.p, g.r) := by unfold fxP; rw [if_pos q1, hg] <;> rfl
        refine cv_q ?_
        refine cv_draw [(true, 0), (true, 1), (true, 2), (true, 3), (true, 4), (true, 5), (true, 6), (true, 7), (true, 8), (true, 9), (true, 10), (true, 11), (true, 12), (true, 13), (true, 14), (true, 15), (true, 16), (true, 17), (true, 18), (true, 19), (true, 20), (true, 21)] [] mixA rfl (by kernel_rfl) (by kernel_rfl) rfl rfl ?_
        simp -implicitDefEqProofs (disch := first | omega | decide) only [seval, -Int.reducePow, -Nat.reducePow, cC, pv, binv, sFlLSame1, undef, g6, g7, g8]
        refine ⟨_, (fun w hw => Sl.inarg (W := w) (L := []) (hXD.at hw 3 rfl) hi w (St.nil [] w)), fun tok htok => ?_⟩
        subst htok
        simp -implicitDefEqProofs (disch := first | omega | decide) only [seval, -Int.reducePow, -Nat.reducePow, cC, pv, binv, sFlLSame1, undef, g6, g7, g8]
        refine ⟨_, (fun w hw => Sl.fnp (W := w) (L := []) (hkD.at hw 3 rfl).gs hg w (St.nil [] w)), fun tok htok => ?_⟩
        subst htok
        simp -implicitDefEqProofs (disch := first | omega | decide) only [seval, -Int.reducePow, -Nat.reducePow, cC, pv, binv, sFlLSame1, undef, g6, g7, g8]
        refine ⟨_, (fun w hw => Sl.inarg (W := w) (L := []) (hXD.at hw 3 rfl) hi w (St.nil [] w)), fun tok htok => ?_⟩
        subst htok
        simp -implicitDefEqProofs (disch := first | omega | decide) only [seval, -Int.reducePow, -Nat.reducePow, cC, pv, binv, sFlLSame1, undef, g6, g7, g8]
        refine ⟨_, (fun w hw => Sl.fnr (W := w) (L := []) (hkD.at hw 3 rfl).gs hg w (St.nil [] w)), fun tok htok => ?_⟩
        subst htok
        simp -implicitDefEqProofs (disch := first | omega | decide) only [seval, -Int.reducePow, -Nat.reducePow, cC, pv, binv, sFlLSame1, undef, g6, g7, g8]
        rw [hf1]
        all_goals (repeat' refine And.intro ?_ ?_)
        all_goals (first | with_reducible rfl | (refine congrArg Value.bool ?_; rw [Bool.eq_iff_iff]; (try simp only [decide_eq_true_eq, eq_self, true_and, and_true, false_and, and_false, true_or, or_true, false_or, or_false, not_true_eq_false, not_false_eq_true, true_iff, iff_true, false_iff, iff_false, Bool.false_eq_true, Bool.not_eq_true', Bool.not_eq_true, decide_eq_false_iff_not, Bool.and_eq_true, Bool.or_eq_true]) <;> omega) | (refine congrArg (Value.int _) ?_; omega) | omega)
      have q1 := of_decide_eq_false ‹_›
      refine cv_seq_k fun K hK => ?_
      refine cv_region_then rfl ?_
      simp -implicitDefEqProofs (disch := first | omega | decide) only [seval, -Int.reducePow, -Nat.reducePow, cC, pv, binv, sFlLSame1, undef, g6, g7, g8]
      refine ⟨_, (fun w hw => Sl.inop (W := w) (L := []) (hXD.at hw 3 rfl) hi w (St.nil [] w)), fun tok htok => ?_⟩
      subst htok
      simp -implicitDefEqProofs (disch := first | omega | decide) only [seval, -Int.reducePow, -Nat.reducePow, cC, pv, binv, sFlLSame1, undef, g6, g7, g8]
      refine hK _ _ ?_
      clear hK K
      refine cv_cond ?_
      simp -implicitDefEqProofs (disch := first | omega | decide) only [seval, -Int.reducePow, -Nat.reducePow, cC, pv, binv, sFlLSame1, undef, g6, g7, g8]
      refine ⟨fun hc => ?_, fun hc => ?_⟩
      · have q2 := of_decide_eq_true ‹_›
        have hal : i.arg ≤ 11 := stE_host hsi q2
        have hf1 : fxP gs i = ((arP i.arg : Int), 2) := by unfold fxP; rw [if_neg q1, if_pos q2]
        refine cv_seq_k fun K hK => ?_
        refine cv_region_then rfl ?_
        simp -implicitDefEqProofs (disch := first | omega | decide) only [seval, -Int.reducePow, -Nat.reducePow, cC, pv, binv, sFlLSame1, undef, g6, g7, g8]
        refine ⟨_, (fun w hw => Sl.inarg (W := w) (L := []) (hXD.at hw 3 rfl) hi w (St.nil [] w)), fun tok htok => ?_⟩
        subst htok
        simp -implicitDefEqProofs (disch := first | omega | decide) only [seval, -Int.reducePow, -Nat.reducePow, cC, pv, binv, sFlLSame1, undef, g6, g7, g8]
        refine callV_ret (fun w hw => r_arity_any i.arg w) ?_
        try simp -implicitDefEqProofs (disch := first | omega | decide) only [seval, -Int.reducePow, -Nat.reducePow, cC, pv, binv, sFlLSame1, undef, g6, g7, g8]
        refine hK _ _ ?_
        clear hK K
        refine cv_region_q rfl ?_
        simp -implicitDefEqProofs (disch := first | omega | decide) only [seval, -Int.reducePow, -Nat.reducePow, cC, pv, binv, sFlLSame1, undef, g6, g7, g8]
        rw [hf1]
        all_goals (repeat' refine And.intro ?_ ?_)
        all_goals (first | with_reducible rfl | (refine congrArg Value.bool ?_; rw [Bool.eq_iff_iff]; (try simp only [decide_eq_true_eq, eq_self, true_and, and_true, false_and, and_false, true_or, or_true, false_or, or_false, not_true_eq_false, not_false_eq_true, true_iff, iff_true, false_iff, iff_false, Bool.false_eq_true, Bool.not_eq_true', Bool.not_eq_true, decide_eq_false_iff_not, Bool.and_eq_true, Bool.or_eq_true]) <;> omega) | (refine congrArg (Value.int _) ?_; omega) | omega)
      have q2 := of_decide_eq_false ‹_›
      have hf1 : fxP gs i = ((popP i.op : Int), (pushP i.op : Int)) := by unfold fxP; rw [if_neg q1, if_neg q2]
      by_cases q3 : i.op = 22
      · have q3' : decide (i.op = 22) = true := decide_eq_true q3
        have hHr : decide (H = x.r) = true := decide_eq_true (hg2 q3)
        have hfo : decide (fxOk i.op) = false := decide_eq_false (by unfold fxOk; omega)
        refine cv_seq_k fun K hK => ?_
        refine cv_seq_k fun K hK => ?_
        refine cv_draw [(true, 0), (true, 1), (true, 2), (true, 3), (true, 4), (true, 5), (true, 6), (true, 7), (true, 8), (true, 9), (true, 10), (true, 11), (true, 12), (true, 13), (true, 14), (true, 15), (true, 16), (true, 17), (true, 18)] [] mixA rfl (by kernel_rfl) (by kernel_rfl) rfl rfl ?_
        simp -implicitDefEqProofs (disch := first | omega | decide) only [seval, -Int.reducePow, -Nat.reducePow, cC, pv, binv, sFlLSame1, undef, q3', g6, g7, g8]
        refine ⟨_, (fun w hw => Sl.inop (W := w) (L := []) (hXD.at hw 3 rfl) hi w (St.nil [] w)), fun tok htok => ?_⟩
        subst htok
        simp -implicitDefEqProofs (disch := first | omega | decide) only [seval, -Int.reducePow, -Nat.reducePow, cC, pv, binv, sFlLSame1, undef, q3', g6, g7, g8]
        refine ⟨_, ld_row1 (m := 1) (v := .int .i64 H) (i := j) (.tail _ (.head _)) rfl hzj, fun tok htok => ?_⟩
        subst htok
        simp -implicitDefEqProofs (disch := first | omega | decide) only [seval, -Int.reducePow, -Nat.reducePow, cC, pv, binv, sFlLSame1, undef, q3', g6, g7, g8]
        refine ⟨_, (fun w hw => Sl.fnr (W := w) (L := []) (hkD.at hw 3 rfl).gs hx w (St.nil [] w)), fun tok htok => ?_⟩
        subst htok
        simp -implicitDefEqProofs (disch := first | omega | decide) only [seval, -Int.reducePow, -Nat.reducePow, cC, pv, binv, sFlLSame1, undef, q3', hHr, g6, g7, g8]
        refine hK _ _ ?_
        clear hK K
        refine cv_cond ?_
        simp -implicitDefEqProofs (disch := first | omega | decide) only [seval, -Int.reducePow, -Nat.reducePow, cC, pv, binv, sFlLSame1, undef, g6, g7, g8]
        refine cv_region_q rfl ?_
        simp -implicitDefEqProofs (disch := first | omega | decide) only [seval, -Int.reducePow, -Nat.reducePow, cC, pv, binv, sFlLSame1, undef, hfo, g6, g7, g8]
        refine ⟨_, (fun w hw => Sl.inop (W := w) (L := []) (hXD.at hw 3 rfl) hi w (St.nil [] w)), fun tok htok => ?_⟩
        subst htok
        simp -implicitDefEqProofs (disch := first | omega | decide) only [seval, -Int.reducePow, -Nat.reducePow, cC, pv, binv, sFlLSame1, undef, q3', hfo, g6, g7, g8]
        refine hK _ _ ?_
        clear hK K
        refine cv_cond ?_
        simp -implicitDefEqProofs (disch := first | omega | decide) only [seval, -Int.reducePow, -Nat.reducePow, cC, pv, binv, sFlLSame1, undef, g6, g7, g8]
        refine cv_skip ?_
        try simp only [blockQ, thenQ]
        simp -implicitDefEqProofs (disch := first | omega | decide) only [seval, -Int.reducePow, -Nat.reducePow, cC, pv, binv, sFlLSame1, undef, g6, g7, g8]
        rw [hf1]
        all_goals (repeat' refine And.intro ?_ ?_)
        all_goals (first | with_reducible rfl | (refine congrArg Value.bool ?_; rw [Bool.eq_iff_iff]; (try simp only [decide_eq_true_eq, eq_self, true_and, and_true, false_and, and_false, true_or, or_true, false_or, or_false, not_true_eq_false, not_false_eq_true, true_iff, iff_true, false_iff, iff_false, Bool.false_eq_true, Bool.not_eq_true', Bool.not_eq_true, decide_eq_false_iff_not, Bool.and_eq_true, Bool.or_eq_true]) <;> omega) | (refine congrArg (Value.int _) ?_; omega) | omega)
      · have q3' : decide (i.op = 22) = false := decide_eq_false q3
        have hfo : decide (fxOk i.op) = true := decide_eq_true (by unfold fxOk; omega)
        refine cv_seq_k fun K hK => ?_
        refine cv_seq_k fun K hK => ?_
        refine cv_draw [(true, 0), (true, 1), (true, 2), (true, 3), (true, 4), (true, 5), (true, 6), (true, 7), (true, 8), (true, 9), (true, 10), (true, 11), (true, 12), (true, 13), (true, 14), (true, 15), (true, 16), (true, 17), (true, 18)] [] mixA rfl (by kernel_rfl) (by kernel_rfl) rfl rfl ?_
        simp -implicitDefEqProofs (disch := first | omega | decide) only [seval, -Int.reducePow, -Nat.reducePow, cC, pv, binv, sFlLSame1, undef, q3', g6, g7, g8]
        refine ⟨_, (fun w hw => Sl.inop (W := w) (L := []) (hXD.at hw 3 rfl) hi w (St.nil [] w)), fun tok htok => ?_⟩
        subst htok
        simp -implicitDefEqProofs (disch := first | omega | decide) only [seval, -Int.reducePow, -Nat.reducePow, cC, pv, binv, sFlLSame1, undef, q3', g6, g7, g8]
        refine hK _ _ ?_
        clear hK K
        refine cv_cond ?_
        simp -implicitDefEqProofs (disch := first | omega | decide) only [seval, -Int.reducePow, -Nat.reducePow, cC, pv, binv, sFlLSame1, undef, g6, g7, g8]
        refine cv_region_q rfl ?_
        simp -implicitDefEqProofs (disch := first | omega | decide) only [seval, -Int.reducePow, -Nat.reducePow, cC, pv, binv, sFlLSame1, undef, hfo, g6, g7, g8]
        refine hK _ _ ?_
        clear hK K
        refine cv_cond ?_
        simp -implicitDefEqProofs (disch := first | omega | decide) only [seval, -Int.reducePow, -Nat.reducePow, cC, pv, binv, sFlLSame1, undef, g6, g7, g8]
        refine cv_skip ?_
        try simp only [blockQ, thenQ]
        simp -implicitDefEqProofs (disch := first | omega | decide) only [seval, -Int.reducePow, -Nat.reducePow, cC, pv, binv, sFlLSame1, undef, g6, g7, g8]
        rw [hf1]
        all_goals (repeat' refine And.intro ?_ ?_)
        all_goals (first | with_reducible rfl | (refine congrArg Value.bool ?_; rw [Bool.eq_iff_iff]; (try simp only [decide_eq_true_eq, eq_self, true_and, and_true, false_and, and_false, true_or, or_true, false_or, or_false, not_true_eq_false, not_false_eq_true, true_iff, iff_true, false_iff, iff_false, Bool.false_eq_true, Bool.not_eq_true', Bool.not_eq_true, decide_eq_false_iff_not, Bool.and_eq_true, Bool.or_eq_true]) <;> omega) | (refine congrArg (Value.int _) ?_; omega) | omega)
    intro G9 L' _ hF
    obtain ⟨q9, q10, q12, q13, q14, q15, q57, q58, rfl⟩ := hF
    have g9_9 := q9.trans g8_9
    have g9_10 := q10.trans g8_10
    have g9_12 := q12.trans g8_12
    have g9_13 := q13.trans g8_13
    have g9_14 := q14
    have g9_15 := q15
    have g9_57 := q57.trans g8_57
    have g9_58 := q58.trans g8_58
    clear q9 q10 q12 q13 q14 q15 q57 q58
    have g9 := And.intro g9_9 (And.intro g9_10 (And.intro g9_12 (And.intro g9_13 (And.intro g9_14 (And.intro g9_15 (And.intro g9_57 g9_58))))))
    refine hK _ _ ?_
    clear hK K
    obtain ⟨p, q, hpq2⟩ : ∃ p q, fxP gs i = (p, q) := ⟨_, _, rfl⟩
    rw [hpq2] at hg3 hg4 hg5 hpq
    dsimp only at hg3 hg4 hg5 hpq
    have k1 : decide (H < p) = false := decide_eq_false (by omega)
    have k2 : decide (64 < H - p + q) = false := decide_eq_false (by omega)
    refine cv_seq_k fun K hK => ?_
    refine cv_seq_k fun K hK => ?_
    refine cv_region_then rfl ?_
    simp -implicitDefEqProofs (disch := first | omega | decide) only [seval, -Int.reducePow, -Nat.reducePow, cC, pv, binv, sFlLSame1, undef, hpq2, k1, k2, g6, g7, g9]
    refine ⟨_, ld_row1 (m := 1) (v := .int .i64 H) (i := j) (.tail _ (.head _)) rfl hzj, fun tok htok => ?_⟩
    subst htok
    simp -implicitDefEqProofs (disch := first | omega | decide) only [seval, -Int.reducePow, -Nat.reducePow, cC, pv, binv, sFlLSame1, undef, hpq2, k1, k2, g6, g7, g9]
    refine ⟨_, ld_row1 (m := 1) (v := .int .i64 H) (i := j) (.tail _ (.head _)) rfl hzj, fun tok htok => ?_⟩
    subst htok
    simp -implicitDefEqProofs (disch := first | omega | decide) only [seval, -Int.reducePow, -Nat.reducePow, cC, pv, binv, sFlLSame1, undef, hpq2, k1, k2, g6, g7, g9]
    refine hK _ _ ?_
    clear hK K
    refine cv_cond ?_
    simp -implicitDefEqProofs (disch := first | omega | decide) only [seval, -Int.reducePow, -Nat.reducePow, cC, pv, binv, sFlLSame1, undef, g6, g7, g9]
    refine cv_skip ?_
    try simp only [blockQ, thenQ]
    refine hK _ _ ?_
    clear hK K
    have hnx0 : nxtF ⟨TA, tn, tc, ts, some ⟨bF, oF, none⟩, fn, fc, gs⟩ 0 (j : Int) = nxP i j := by
      unfold nxtF
      rw [if_pos hsx2, show (0 : Int) = ((0 : Nat) : Int) from rfl, fnAt_nat]
      dsimp only
      rw [hx]
      dsimp only
      rw [if_neg (by omega), Int.toNat_natCast, hi]
    refine cv_pick_post [1, 2, 3, 4] (by decide) ?_
    refine cv_gen fun G10 hG => ?_
    have g10_9 := congrFun hG 9
    have g10_10 := congrFun hG 10
    have g10_12 := congrFun hG 12
    have g10_13 := congrFun hG 13
    have g10_14 := congrFun hG 14
    have g10_15 := congrFun hG 15
    have g10_57 := congrFun hG 57
    have g10_58 := congrFun hG 58
    clear hG
    try simp -implicitDefEqProofs (disch := first | omega | decide) only [seval, -Int.reducePow, -Nat.reducePow, cC, pv, binv, sFlLSame1, undef, hpq2, g6, g7, g9] at g10_9 g10_10 g10_12 g10_13 g10_14 g10_15 g10_57 g10_58
    have g10 := And.intro g10_9 (And.intro g10_10 (And.intro g10_12 (And.intro g10_13 (And.intro g10_14 (And.intro g10_15 (And.intro g10_57 g10_58))))))
    refine cv_seq_k fun K hK => ?_
    refine cv_region_then rfl ?_
    simp -implicitDefEqProofs (disch := first | omega | decide) only [seval, -Int.reducePow, -Nat.reducePow, cC, pv, binv, sFlLSame1, undef, g6, g7, g10]
    refine callV_row (fun A n c => .slice A n c) (fun w hw => (by have := Next_any ⟨TA, tn, tc, ts, some ⟨bF, oF, none⟩, fn, fc, gs⟩ 0 (j : Int) w (hkD.at hw 3 rfl); rw [hnx0] at this; exact this)) ?_
    intro A6 n6 c6 hl6 hr6
    simp -implicitDefEqProofs (disch := first | omega | decide) only [seval, -Int.reducePow, -Nat.reducePow, cC, pv, binv, sFlLSame1, undef, g6, g7, g10]
    refine hK _ _ ?_
    clear hK K
    have hn6 : (nxP i j).length = n6 := by rw [i64c_len] at hl6; omega
    have hn62 : n6 ≤ 2 := by
      rw [← hn6]
      unfold nxP
      repeat' split
      all_goals simp
    refine cv_gen fun G11 hG => ?_
    have g11_9 := congrFun hG 9
    have g11_10 := congrFun hG 10
    have g11_12 := congrFun hG 12
    have g11_13 := congrFun hG 13
    have g11_14 := congrFun hG 14
    have g11_15 := congrFun hG 15
    have g11_57 := congrFun hG 57
    have g11_58 := congrFun hG 58
    have g11_168 := congrFun hG 168
    have g11_169 := congrFun hG 169
    have g11_170 := congrFun hG 170
    clear hG
    try simp -implicitDefEqProofs (disch := first | omega | decide) only [seval, -Int.reducePow, -Nat.reducePow, cC, pv, binv, sFlLSame1, undef, g6, g7, g10] at g11_9 g11_10 g11_12 g11_13 g11_14 g11_15 g11_57 g11_58 g11_168 g11_169 g11_170
    have g11 := And.intro g11_9 (And.intro g11_10 (And.intro g11_12 (And.intro g11_13 (And.intro g11_14 (And.intro g11_15 (And.intro g11_57 (And.intro g11_58 (And.intro g11_168 (And.intro g11_169 g11_170)))))))))
    refine cv_block ?_
    refine cv_loop (fun F' L' => ∃ (q' : Nat), F' 9 = G11 9 ∧ F' 10 = G11 10 ∧ F' 12 = G11 12 ∧ F' 13 = G11 13 ∧ F' 14 = G11 14 ∧ F' 15 = G11 15 ∧ F' 57 = G11 57 ∧ F' 58 = G11 58 ∧ F' 168 = G11 168 ∧ F' 169 = G11 169 ∧ F' 170 = .int .i64 (q' : Int) ∧ L' = [.row (.slice A6 n6 c6) 3 1 n6 (i64c (nxP i j)), .blk b11 29 [.int .i64 0, .int .i64 (-1), .int .i64 (-1)], .row (.slice (some ⟨gH, 0, none⟩) x.n c1) 3 1 x.n (i64z hf), .blk b9 35 [.slice TA tn tc, .slice (some ⟨bF, oF, none⟩) fn fc], snap [] W v fo] ∧ q' ≤ n6) (fun F' L' => 1100 - (intOf (F' 170)).toNat) ?_ ?_
    · refine ⟨0, ?_⟩
      simp -implicitDefEqProofs (disch := first | omega | decide) only [seval, -Int.reducePow, -Nat.reducePow, cC, pv, binv, sFlLSame1, undef, g6, g7, g11]
      omega
    intro G12 L' hI
    obtain ⟨q', q9, q10, q12, q13, q14, q15, q57, q58, q168, q169, q170, rfl, hq⟩ := hI
    have g12_9 := q9.trans g11_9
    have g12_10 := q10.trans g11_10
    have g12_12 := q12.trans g11_12
    have g12_13 := q13.trans g11_13
    have g12_14 := q14.trans g11_14
    have g12_15 := q15.trans g11_15
    have g12_57 := q57.trans g11_57
    have g12_58 := q58.trans g11_58
    have g12_168 := q168.trans g11_168
    have g12_169 := q169.trans g11_169
    have g12_170 := q170
    clear q9 q10 q12 q13 q14 q15 q57 q58 q168 q169 q170
    have g12 := And.intro g12_9 (And.intro g12_10 (And.intro g12_12 (And.intro g12_13 (And.intro g12_14 (And.intro g12_15 (And.intro g12_57 (And.intro g12_58 (And.intro g12_168 (And.intro g12_169 g12_170)))))))))
    refine cv_seq_k fun K hK => ?_
    refine cv_region_then rfl ?_
    simp -implicitDefEqProofs (disch := first | omega | decide) only [seval, -Int.reducePow, -Nat.reducePow, cC, pv, binv, sFlLSame1, undef, g6, g7, g11, g12]
    refine hK _ _ ?_
    clear hK K
    refine cv_seq_k fun K hK => ?_
    refine cv_cond ?_
    simp -implicitDefEqProofs (disch := first | omega | decide) only [seval, -Int.reducePow, -Nat.reducePow, cC, pv, binv, sFlLSame1, undef, g6, g7, g11, g12]
    refine ⟨fun hc => ?_, fun hc => ?_⟩
    · refine cv_skip ?_
      try simp only [blockQ, thenQ]
      have hqt : q' < n6 := by have := of_decide_eq_true ‹decide ((q' : Int) < (n6 : Int)) = true›; omega
      obtain ⟨y, hy⟩ := some_of (l := nxP i j) (i := q') (by omega)
      have hym := List.mem_of_getElem? hy
      have hyc := hh6 j (by omega) y (by rwa [hii])
      have hzy := z_get (h := hf) (k := y) (by omega)
      have hgy := hg5 y hym
      rw [hgy] at hzy
      have k3 : decide ((y : Int) < 0) = false := decide_eq_false (by omega)
      have k4 : decide ((x.n : Int) ≤ (y : Int)) = false := decide_eq_false (by omega)
      have k5 : decide (H + q - p = H - p + q) = true := decide_eq_true (by omega)
      refine hK _ _ ?_
      clear hK K
      refine cv_seq_k fun K hK => ?_
      refine cv_rowA 0 rfl (by omega) fun g hAA hg hNN => ?_
      subst hAA
      simp only [List.eraseIdx_cons_zero, List.eraseIdx_cons_succ, neB_nil, neB_blk, neB_row, neB_snap, and_true, List.not_mem_nil, or_false] at hNN hg
      replace hg := And.intro hg hNN
      clear hNN
      refine cv_block ?_
      refine cv_seq_k fun K hK => ?_
      refine cv_region_then rfl ?_
      simp -implicitDefEqProofs (disch := first | omega | decide) only [seval, -Int.reducePow, -Nat.reducePow, cC, pv, binv, sFlLSame1, undef, g6, g7, g11, g12]
      refine ⟨_, ld_row1 (m := 1) (v := .int .i64 (y : Int)) (.head _) rfl (i64c_get hy), fun tok htok => ?_⟩
      subst htok
      simp -implicitDefEqProofs (disch := first | omega | decide) only [seval, -Int.reducePow, -Nat.reducePow, cC, pv, binv, sFlLSame1, undef, g6, g7, g11, g12]
      refine hK _ _ ?_
      clear hK K
      refine cv_seq_k fun K hK => ?_
      refine cv_draw [(true, 0), (true, 1), (true, 2), (true, 3), (true, 4), (true, 5), (true, 6), (true, 7), (true, 8), (true, 9), (true, 10), (true, 11), (true, 12), (true, 13), (true, 14), (true, 15), (true, 16), (true, 17), (true, 18), (true, 19), (true, 20), (true, 21), (true, 22)] [] mixA rfl (by kernel_rfl) (by kernel_rfl) rfl rfl ?_
      simp -implicitDefEqProofs (disch := first | omega | decide) only [seval, -Int.reducePow, -Nat.reducePow, cC, pv, binv, sFlLSame1, undef, k3, k4, g6, g7, g11, g12]
      refine ⟨_, ld_row1 (m := 1) (v := .int .i64 (H + q - p)) (i := y) (.tail _ (.tail _ (.head _))) rfl hzy, fun tok htok => ?_⟩
      subst htok
      simp -implicitDefEqProofs (disch := first | omega | decide) only [seval, -Int.reducePow, -Nat.reducePow, cC, pv, binv, sFlLSame1, undef, k3, k4, g6, g7, g11, g12]
      refine ⟨_, ld_row1 (m := 1) (v := .int .i64 H) (i := j) (.tail _ (.tail _ (.head _))) rfl hzj, fun tok htok => ?_⟩
      subst htok
      simp -implicitDefEqProofs (disch := first | omega | decide) only [seval, -Int.reducePow, -Nat.reducePow, cC, pv, binv, sFlLSame1, undef, k3, k4, k5, g6, g7, g11, g12]
      refine hK _ _ ?_
      clear hK K
      refine cv_cond ?_
      simp -implicitDefEqProofs (disch := first | omega | decide) only [seval, -Int.reducePow, -Nat.reducePow, cC, pv, binv, sFlLSame1, undef, g6, g7, g11, g12]
      refine cv_skip ?_
      try simp only [blockQ, thenQ]
      refine hK _ _ ?_
      clear hK K
      refine cv_region_then rfl ?_
      simp -implicitDefEqProofs (disch := first | omega | decide) only [seval, -Int.reducePow, -Nat.reducePow, cC, pv, binv, sFlLSame1, undef, g6, g7, g11, g12]
      refine ⟨⟨q' + 1, ?_⟩, ?_⟩
      · simp -implicitDefEqProofs (disch := first | omega | decide) only [seval, -Int.reducePow, -Nat.reducePow, cC, pv, binv, sFlLSame1, undef, Int.natCast_add, g6, g7, g11, g12]
        omega
      · simp only [intOf]; omega
    refine cv_exit ?_
    simp only [blockQ, thenQ, if_true, ite_true]
    clear hK K
    refine hK _ _ ?_
    clear hK K
    simp only [pickL, nth]
    refine cv_region_then rfl ?_
    simp -implicitDefEqProofs (disch := first | omega | decide) only [seval, -Int.reducePow, -Nat.reducePow, cC, pv, binv, sFlLSame1, undef, g6, g7, g11, g12]
    refine ⟨⟨j + 1, ?_⟩, ?_⟩
    · simp -implicitDefEqProofs (disch := first | omega | decide) only [seval, -Int.reducePow, -Nat.reducePow, cC, pv, binv, sFlLSame1, undef, Int.natCast_add, g6, g7, g11, g12]
      omega
    · simp only [intOf]; omega
  refine cv_exit ?_
  simp only [blockQ, thenQ, if_true, ite_true]
  clear hK K
  refine hK _ _ ?_
  clear hK K
  refine cv_seq_k fun K hK => ?_
  refine cv_region_then rfl ?_
  simp -implicitDefEqProofs (disch := first | omega | decide) only [seval, -Int.reducePow, -Nat.reducePow, cC, pv, binv, sFlLSame1, undef, g6, g7]
  refine callV_ret (fun w hw => flAwake_any w) ?_
  try simp -implicitDefEqProofs (disch := first | omega | decide) only [seval, -Int.reducePow, -Nat.reducePow, cC, pv, binv, sFlLSame1, undef, g6, g7]
  refine hK _ _ ?_
  clear hK K
  refine cv_ret ⟨_, (by simp -implicitDefEqProofs (disch := first | omega | decide) only [seval, -Int.reducePow, -Nat.reducePow, cC, pv, binv, sFlLSame1, undef, g6, g7]; rfl), fun w hw => ?_⟩
  exact ⟨rfl, hw.below⟩
end Go.Proofs.Ythlhjljgpohgbaa
