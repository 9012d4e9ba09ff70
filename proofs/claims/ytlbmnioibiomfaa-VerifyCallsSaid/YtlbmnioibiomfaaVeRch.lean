/- verify.Reachable and the reference's. -/
import Derived.Test.YtlbmnioibiomfaaVeVer
import Derived.Test.YtlbmnioibiomfaaQueue
namespace Go.Proofs.Ytlbmnioibiomfaa
open Go.RowKit Go.Shelf
set_option linter.unusedVariables false
set_option linter.unusedSimpArgs false
set_option maxRecDepth 100000
def slLen : Value → Nat
  | .slice _ n _ => n
  | _ => 0
def booN : Value → Nat
  | .bool b => b.toNat
  | _ => 0
theorem bAt_lt {s : List Bool} {j : Nat} (h : bAt s j = true) : j < s.length := by
  rcases Nat.lt_or_ge j s.length with h1 | h1
  · exact h1
  · unfold bAt at h
    rw [List.getD_eq_getElem?_getD, List.getElem?_eq_none h1] at h
    cases h
noncomputable def rchV (m : ModR) : List Bool := if (verM m).1 = 0 then rchL m else []
theorem Done.zero (m : ModR) (s : List Bool) (f : Nat) : Done m s f 0 := fun p j h => by omega
theorem rowP_boz {W w : World} {L : List Res} {b n : Nat} {d : List Bool} (hw : St [] W (.blk b 4 (boz d) :: L) w) (hl : d.length = n) (hn : n ≤ 9223372036854775807) :
    rowP 4 1 (fun v => v) (boz d) W (.returned (.slice (some ⟨b, 0, none⟩) n n)) w :=
  ⟨_, _, _, rfl, (hw.blk_row (size := 1) (n := n) (by rw [bz_len]; omega) hn).rowNew (by simp), hw.below⟩
theorem arr_of {m : ModR} {f p j : Nat} {x : FnR} {i : Ins} {hf : List Int} (hx : m.gs[f]? = some x) (hi : x.code[p]? = some i) (hU : (hgtF m (f : Int)).1 = hf) (ha : Arr m f p j) : ¬ hAt hf p = -1 ∧ i.op = 21 ∧ i.arg = j := by
  obtain ⟨y, i', h1, h2, h3, h4, h5⟩ := ha
  rw [hx] at h1
  cases h1
  rw [hi] at h2
  cases h2
  rw [hU] at h3
  exact ⟨h3, h4, h5⟩
set_option maxRecDepth 100000 in
theorem sVeRch1 : type_of% (And.intro (And.intro (And.intro @fBox.eq_1 (And.intro @tBox.eq_1 @iBox.eq_1)) (And.intro (And.intro @mBox.eq_1 @gBox.eq_1) (And.intro @flBox.eq_1 @fdV.eq_1))) (And.intro (And.intro (And.intro @tyV.eq_1 @insV.eq_1) (And.intro @fnV.eq_1 @modV.eq_1)) (And.intro (And.intro @fltV.eq_1 @fineF.eq_1) (And.intro @Nat.mul_one @wrap_in)))) := (And.intro (And.intro (And.intro @fBox.eq_1 (And.intro @tBox.eq_1 @iBox.eq_1)) (And.intro (And.intro @mBox.eq_1 @gBox.eq_1) (And.intro @flBox.eq_1 @fdV.eq_1))) (And.intro (And.intro (And.intro @tyV.eq_1 @insV.eq_1) (And.intro @fnV.eq_1 @modV.eq_1)) (And.intro (And.intro @fltV.eq_1 @fineF.eq_1) (And.intro @Nat.mul_one @wrap_in))))
set_option maxHeartbeats 4000000 in
theorem Reachable_any (m : ModR) (W : World) (hM : Mod W W.heap.size m) : Calls Try.prog 43 #[modV m] W (rowP 4 1 (fun v => v) (boz (rchV m)) W) := by
  have hMat := fun {L : List Res} {w : World} (hw : St [] W L w) => hM.at hw
  have hlg := hM.glen
  have hG := hM.gs
  have hfn := hM.fn
  obtain ⟨q, hq⟩ : ∃ q, verM m = q := ⟨_, rfl⟩
  have hok := fun h => verM_ok (m := m) h
  have hrv : rchV m = if q.1 = 0 then rchL m else [] := by rw [← hq]; rfl
  rw [hq] at hok
  obtain ⟨mm, hmm⟩ : ∃ mm, m = mm := ⟨_, rfl⟩
  have hgs : mm.gs = m.gs := by rw [hmm]
  obtain ⟨TA, tn, tc, ts, FA, fn, fc, gs⟩ := m
  dsimp only at *
  rw [hmm] at hok
  refine calls_cv (M := []) (n := 76) [.tmp 2] rfl Try.func43 rfl rfl (Nat.le_of_ble_eq_true rfl) (St.nil _ _) ?_
  refine cv_seq_k fun K hK => ?_
  refine cv_region_then rfl ?_
  simp -implicitDefEqProofs (disch := first | omega | decide) only [seval, -Int.reducePow, -Nat.reducePow, cC, pv, binv, sVeRch1, undef]
  intro b1 hb1
  refine hK _ _ ?_
  clear hK K
  refine cv_seq_k fun K hK => ?_
  refine cv_seq_k fun K hK => ?_
  refine cv_region_then rfl ?_
  simp -implicitDefEqProofs (disch := first | omega | decide) only [seval, -Int.reducePow, -Nat.reducePow, cC, pv, binv, sVeRch1, undef]
  refine callV_ret (fun w hw => Verify_any ⟨TA, tn, tc, ts, FA, fn, fc, gs⟩ w (hMat hw)) ?_
  try simp -implicitDefEqProofs (disch := first | omega | decide) only [seval, -Int.reducePow, -Nat.reducePow, cC, pv, binv, sVeRch1, undef, hq]
  refine hK _ _ ?_
  clear hK K
  refine cv_gen fun G1 hG => ?_
  have g1_1 := congrFun hG 1
  have g1_13 := congrFun hG 13
  clear hG
  try simp -implicitDefEqProofs (disch := first | omega | decide) only [seval, -Int.reducePow, -Nat.reducePow, cC, pv, binv, sVeRch1, undef] at g1_1 g1_13
  have g1 := And.intro g1_1 g1_13
  refine cv_cond ?_
  simp -implicitDefEqProofs (disch := first | omega | decide) only [seval, -Int.reducePow, -Nat.reducePow, cC, pv, binv, sVeRch1, undef, g1]
  refine ⟨fun hc => ?_, fun hc => ?_⟩
  · have hz : ¬ q.1 = 0 := nd_true ‹(!decide (q.1 = 0)) = true›
    refine cv_seq_k fun K hK => ?_
    refine cv_region_then rfl ?_
    simp -implicitDefEqProofs (disch := first | omega | decide) only [seval, -Int.reducePow, -Nat.reducePow, cC, pv, binv, sVeRch1, undef, g1]
    refine hK _ _ ?_
    clear hK K
    refine cv_ret ⟨_, (by simp -implicitDefEqProofs (disch := first | omega | decide) only [seval, -Int.reducePow, -Nat.reducePow, cC, pv, binv, sVeRch1, undef, g1]; rfl), fun w hw => ?_⟩
    rw [hrv, if_neg hz]
    exact ⟨none, 0, 0, rfl, ⟨rfl, .inl ⟨rfl, rfl⟩⟩, hw.below⟩
  have hz : q.1 = 0 := Decidable.not_not.1 (nd_false ‹(!decide (q.1 = 0)) = false›)
  rw [if_pos hz] at hrv
  obtain ⟨hch, -, hall⟩ := hok hz
  obtain ⟨-, -, hg1, hg32, hck⟩ := chkM_ok hch
  simp only [hgs] at hg1 hg32 hck hall
  refine cv_skip ?_
  try simp only [blockQ, thenQ]
  refine hK _ _ ?_
  clear hK K
  refine cv_seq_k fun K hK => ?_
  refine cv_region_then rfl ?_
  simp -implicitDefEqProofs (disch := first | omega | decide) only [seval, -Int.reducePow, -Nat.reducePow, cC, pv, binv, sVeRch1, undef, g1]
  refine xv_make (u := .bool false) tapB rfl rfl rfl (by omega) (by omega) ?_
  intro bS hbS hfS
  simp -implicitDefEqProofs (disch := first | omega | decide) only [seval, -Int.reducePow, -Nat.reducePow, cC, pv, binv, sVeRch1, undef, g1]
  simp -implicitDefEqProofs (disch := first | omega | decide) only [seval, -Int.reducePow, -Nat.reducePow, cC, pv, binv, sVeRch1, undef, g1] at hfS
  rw [show List.replicate fn (Value.bool false) = boz (List.replicate fn false) by unfold boz; rw [List.map_replicate]]
  refine hK _ _ ?_
  clear hK K
  have hds : Value.bool true :: List.drop 1 (boz (List.replicate fn false)) = boz ((List.replicate fn false).set 0 true) := by
    have := bz_set (d := List.replicate fn false) (k := 0) true (by simp; omega)
    simpa using this
  have hsi0 : SI mm ((List.replicate fn false).set 0 true) := by
    have := SI.start (m := mm) (by rw [hgs]; omega)
    rwa [hgs, hlg] at this
  obtain ⟨sn0, hsn0⟩ : ∃ sn0, (List.replicate fn false).set 0 true = sn0 := ⟨_, rfl⟩
  have hun0 := undone_set (d := List.replicate fn false) (k := 0) (by rw [List.getElem?_replicate, if_pos (by omega)])
  rw [hsn0, undone_new] at hun0
  rw [hsn0] at hsi0
  refine cv_seq_k fun K hK => ?_
  refine cv_region_then rfl ?_
  simp -implicitDefEqProofs (disch := first | omega | decide) only [seval, -Int.reducePow, -Nat.reducePow, cC, pv, binv, sVeRch1, undef, hds, bz_len, List.length_replicate, hsn0, g1]
  refine ⟨by omega, ?_⟩
  refine hK _ _ ?_
  clear hK K
  refine cv_seq_k fun K hK => ?_
  refine cv_seq_k fun K hK => ?_
  refine cv_region_then rfl ?_
  simp -implicitDefEqProofs (disch := first | omega | decide) only [seval, -Int.reducePow, -Nat.reducePow, cC, pv, binv, sVeRch1, undef, g1]
  intro b20 hb20 hf20
  refine hK _ _ ?_
  clear hK K
  refine cv_pick [1, 0, 2] (by decide) ?_
  simp only [pickL, nth]
  refine cv_gen fun G2 hG => ?_
  have g2_1 := congrFun hG 1
  have g2_3 := congrFun hG 3
  have g2_4 := congrFun hG 4
  clear hG
  try simp -implicitDefEqProofs (disch := first | omega | decide) only [seval, -Int.reducePow, -Nat.reducePow, cC, pv, binv, sVeRch1, undef, g1] at g2_1 g2_3 g2_4
  have g2 := And.intro g2_1 (And.intro g2_3 g2_4)
  refine cv_block ?_
  refine cv_loop (fun F' L' => ∃ (bQ off n c : Nat) (cs : List Value) (l : List Nat) (s : List Bool), F' 1 = G2 1 ∧ F' 3 = G2 3 ∧ F' 4 = .slice (some ⟨bQ, off, none⟩) n c ∧ L' = [.blk bS 4 (boz s), .blk bQ 3 cs, mBox b1 ⟨TA, tn, tc, ts, FA, fn, fc, gs⟩] ∧ Qd cs off n c l ∧ SI mm s ∧ (∀ f, bAt s f = true → f ∈ l ∨ ∀ p j, Arr mm f p j → bAt s j = true) ∧ (∀ f, f ∈ l → bAt s f = true) ∧ 2 * undone s + n ≤ 2 * fn) (fun F' L' => 2 * undoneV L' + slLen (F' 4)) ?_ ?_
  · refine ⟨b20, 0, 1, 1, [.int .i64 (0 : Nat)], [0], sn0, ?_⟩
    simp -implicitDefEqProofs (disch := first | omega | decide) only [seval, -Int.reducePow, -Nat.reducePow, cC, pv, binv, sVeRch1, undef, hsn0, g2]
    refine ⟨Qd.one 0, hsi0, fun f hf => ?_, fun f hf => ?_, by omega⟩
    · rw [← hsn0] at hf
      rcases bAt_old hf with rfl | h
      · exact .inl (by simp)
      · unfold bAt at h
        rw [List.getD_eq_getElem?_getD, List.getElem?_replicate] at h
        split at h <;> simp at h
    · obtain rfl : f = 0 := by simpa using hf
      exact hsi0.zero
  intro G3 L' hI
  obtain ⟨bQ, off, n, c, cs, l, s, q1, q3, q4, rfl, ⟨hqd, hsi, hcl, hqu, hub⟩⟩ := hI
  have g3_1 := q1.trans g2_1
  have g3_3 := q3.trans g2_3
  have g3_4 := q4
  clear q1 q3 q4
  have g3 := And.intro g3_1 (And.intro g3_3 g3_4)
  refine cv_apart fun hap => ?_
  simp only [factL_nil, factL_blk, factL_row, neR_nil, neR_blk, neR_row, neB_nil, neB_blk, neB_row, and_true, true_and, List.not_mem_nil, or_false, sVeRch1, undef] at hap
  obtain hap2 := hap
  refine cv_seq_k fun K hK => ?_
  refine cv_seq_k fun K hK => ?_
  refine cv_region_then rfl ?_
  simp -implicitDefEqProofs (disch := first | omega | decide) only [seval, -Int.reducePow, -Nat.reducePow, cC, pv, binv, sVeRch1, undef, g2, g3]
  refine hK _ _ ?_
  clear hK K
  refine cv_cond ?_
  simp -implicitDefEqProofs (disch := first | omega | decide) only [seval, -Int.reducePow, -Nat.reducePow, cC, pv, binv, sVeRch1, undef, g2, g3]
  refine ⟨fun hc => ?_, fun hc => ?_⟩
  · refine cv_skip ?_
    try simp only [blockQ, thenQ]
    have hqp : 0 < n := by have := of_decide_eq_true ‹decide ((0 : Int) < (n : Int)) = true›; omega
    obtain ⟨f, l, rfl⟩ : ∃ a r, l = a :: r := by
      cases l with
      | nil => have := hqd.len; simp at this; omega
      | cons a r => exact ⟨a, r, rfl⟩
    have hhd := hqd.head
    have hsf := hqu f (.head _)
    have hsl := hsi.len
    rw [hgs] at hsl
    have hft : f < fn := by have := bAt_lt hsf; omega
    obtain ⟨x, hf, hx, hsx, hR, hU⟩ := hgtF_okk (m := mm) (k := f) (by rw [hgs]; omega) (hall f (by omega))
    obtain ⟨hh1, hh2, hh3, hh4, hh5, hh6, -⟩ := hgt_spec hsx hx hR
    obtain ⟨-, k', x', hk', hx', hst⟩ := stF_ok hsx
    obtain rfl : f = k' := by omega
    obtain rfl : x = x' := by
      rw [hx] at hx'
      exact Option.some.inj hx'
    have hUh : (hgtF mm (f : Int)).1 = hf := by rw [hU]
    rw [hgs] at hst
    have hx0 := hx
    rw [hgs] at hx
    obtain ⟨-, -, -, -, -, -, -, h1024, -⟩ := fnErr_ok (hck f x hx).1
    have hX := hfn x (List.mem_of_getElem? hx)
    have hxl : x.code.length = x.n := cl_row insc_len (by omega) hX.len
    obtain ⟨b0, off0, hA, hb0, -⟩ := hX.cells (by omega)
    have hX' : Sl W W.heap.size 2 (some ⟨b0, off0, none⟩) x.n x.c (cl insc x.code) := hA ▸ hX
    obtain ⟨b9, of9, rfl, hb9, -⟩ := hG.cells (by omega)
    have hU' : hgtF ⟨TA, tn, tc, ts, some ⟨b9, of9, none⟩, fn, fc, gs⟩ (f : Int) = (hf, fineF) := by rw [hmm]; exact hU
    refine hK _ _ ?_
    clear hK K
    refine cv_seq_k fun K hK => ?_
    refine cv_block ?_
    refine cv_seq_k fun K hK => ?_
    refine cv_region_then rfl ?_
    simp -implicitDefEqProofs (disch := first | omega | decide) only [seval, -Int.reducePow, -Nat.reducePow, cC, pv, binv, sVeRch1, undef, hhd, g2, g3]
    refine hK _ _ ?_
    clear hK K
    refine cv_seq_k fun K hK => ?_
    refine cv_region_then rfl ?_
    simp -implicitDefEqProofs (disch := first | omega | decide) only [seval, -Int.reducePow, -Nat.reducePow, cC, pv, binv, sVeRch1, undef, g2, g3]
    refine callV_row (fun A n c => .tuple #[.slice A n c, fltV fineF]) (fun w hw => (by have := Heights_any ⟨TA, tn, tc, ts, some ⟨b9, of9, none⟩, fn, fc, gs⟩ (f : Int) w (hMat hw); rw [hU'] at this; exact this)) ?_
    intro A n1 c1 hl1 hr1
    simp -implicitDefEqProofs (disch := first | omega | decide) only [seval, -Int.reducePow, -Nat.reducePow, cC, pv, binv, sVeRch1, undef, g2, g3]
    intro b7 hb7 hf7
    refine hK _ _ ?_
    clear hK K
    have hn1 : n1 = x.n := by have : (i64z hf).length = n1 * 1 := hl1; rw [z_len] at this; omega
    subst hn1
    refine cv_rowA 1 rfl (by omega) fun g hAA hg hNN => ?_
    subst hAA
    simp only [List.eraseIdx_cons_zero, List.eraseIdx_cons_succ, neB_nil, neB_blk, neB_row, neB_snap, and_true, List.not_mem_nil, or_false] at hNN hg
    replace hg := And.intro hg hNN
    clear hNN
    refine cv_seq_k fun K hK => ?_
    refine cv_region_then rfl ?_
    simp -implicitDefEqProofs (disch := first | omega | decide) only [seval, -Int.reducePow, -Nat.reducePow, cC, pv, binv, sVeRch1, undef, g2, g3]
    refine ⟨_, hG.fnf hx, fun tok htok => ?_⟩
    subst htok
    simp -implicitDefEqProofs (disch := first | omega | decide) only [seval, -Int.reducePow, -Nat.reducePow, cC, pv, binv, sVeRch1, undef, g2, g3]
    refine hK _ _ ?_
    clear hK K
    obtain ⟨M0, hM0⟩ : ∃ M0, 2 * undone s + n = M0 := ⟨_, rfl⟩
    refine cv_gen fun G4 hG => ?_
    have g4_1 := congrFun hG 1
    have g4_3 := congrFun hG 3
    have g4_4 := congrFun hG 4
    have g4_6 := congrFun hG 6
    have g4_40 := congrFun hG 40
    have g4_41 := congrFun hG 41
    have g4_42 := congrFun hG 42
    clear hG
    try simp -implicitDefEqProofs (disch := first | omega | decide) only [seval, -Int.reducePow, -Nat.reducePow, cC, pv, binv, sVeRch1, undef, hA, g2, g3] at g4_1 g4_3 g4_4 g4_6 g4_40 g4_41 g4_42
    have g4 := And.intro g4_1 (And.intro g4_3 (And.intro g4_4 (And.intro g4_6 (And.intro g4_40 (And.intro g4_41 g4_42)))))
    refine cv_block ?_
    refine cv_loop (fun F' L' => ∃ (p bQ off n c : Nat) (cs : List Value) (l : List Nat) (s : List Bool), F' 1 = G4 1 ∧ F' 3 = G4 3 ∧ F' 4 = .slice (some ⟨bQ, off, none⟩) n c ∧ F' 6 = G4 6 ∧ F' 40 = G4 40 ∧ F' 41 = G4 41 ∧ F' 42 = .int .i64 (p : Int) ∧ L' = [flBox b7 0 (-1) (-1), .row (.slice (some ⟨g, 0, none⟩) x.n c1) 3 1 x.n (i64z hf), .blk bS 4 (boz s), .blk bQ 3 cs, mBox b1 ⟨TA, tn, tc, ts, some ⟨b9, of9, none⟩, fn, fc, gs⟩] ∧ p ≤ x.n ∧ Qd cs off n c (f :: l) ∧ SI mm s ∧ (∀ i, bAt s i = true → i = f ∨ i ∈ l ∨ ∀ p j, Arr mm i p j → bAt s j = true) ∧ Done mm s f p ∧ bAt s f = true ∧ (∀ i, i ∈ l → bAt s i = true) ∧ 2 * undone s + n ≤ M0) (fun F' L' => 1100 - (intOf (F' 42)).toNat) ?_ ?_
    · refine ⟨0, bQ, off, n, c, cs, l, s, ?_⟩
      simp -implicitDefEqProofs (disch := first | omega | decide) only [seval, -Int.reducePow, -Nat.reducePow, cC, pv, binv, sVeRch1, undef, g2, g3, g4]
      refine ⟨by omega, hqd, hsi, fun i hi => ?_, Done.zero _ _ _, hsf, fun i hi => hqu i (.tail _ hi), by omega⟩
      rcases hcl i hi with h1 | h1
      · rcases List.mem_cons.1 h1 with h2 | h2
        · exact .inl h2
        · exact .inr (.inl h2)
      · exact .inr (.inr h1)
    clear hcl hqu hsi hqd hsf hsl hhd
    intro G5 L' hI
    obtain ⟨p, bQ, off, n, c, cs, l, s, q1, q3, q4, q6, q40, q41, q42, rfl, ⟨hp, hqd, hsi, hcl, hdn, hsf, hqu, hM⟩⟩ := hI
    have g5_1 := q1.trans g4_1
    have g5_3 := q3.trans g4_3
    have g5_4 := q4
    have g5_6 := q6.trans g4_6
    have g5_40 := q40.trans g4_40
    have g5_41 := q41.trans g4_41
    have g5_42 := q42
    clear q1 q3 q4 q6 q40 q41 q42
    have g5 := And.intro g5_1 (And.intro g5_3 (And.intro g5_4 (And.intro g5_6 (And.intro g5_40 (And.intro g5_41 g5_42)))))
    refine cv_apart fun hap => ?_
    simp only [factL_nil, factL_blk, factL_row, neR_nil, neR_blk, neR_row, neB_nil, neB_blk, neB_row, and_true, true_and, List.not_mem_nil, or_false, sVeRch1, undef] at hap
    obtain hap2 := hap
    have hsl := hsi.len
    rw [hgs] at hsl
    refine cv_seq_k fun K hK => ?_
    refine cv_region_then rfl ?_
    simp -implicitDefEqProofs (disch := first | omega | decide) only [seval, -Int.reducePow, -Nat.reducePow, cC, pv, binv, sVeRch1, undef, g2, g3, g4, g5]
    refine hK _ _ ?_
    clear hK K
    refine cv_seq_k fun K hK => ?_
    refine cv_cond ?_
    simp -implicitDefEqProofs (disch := first | omega | decide) only [seval, -Int.reducePow, -Nat.reducePow, cC, pv, binv, sVeRch1, undef, g2, g3, g4, g5]
    refine ⟨fun hc => ?_, fun hc => ?_⟩
    · refine cv_skip ?_
      try simp only [blockQ, thenQ]
      have hpt : p < x.n := by have := of_decide_eq_true ‹decide ((p : Int) < (x.n : Int)) = true›; omega
      obtain ⟨i, hi⟩ := some_of (l := x.code) (i := p) (by omega)
      have hci := fun ho => stE_call (hst p i hi) ho
      have hzp := z_get (h := hf) (k := p) (by omega)
      have hrp := hh4 p
      have harr := fun j => arr_of (j := j) hx0 hi hUh
      have hmk : ¬ hAt hf p = -1 → i.op = 21 → Arr mm f p i.arg := fun h1 h2 => ⟨x, i, hx0, hi, by rw [hUh]; exact h1, h2, rfl⟩
      obtain ⟨H, hH⟩ : ∃ H, hAt hf p = H := ⟨_, rfl⟩
      simp only [hH] at hzp hrp harr hmk
      refine hK _ _ ?_
      clear hK K
      refine cv_seq_k fun K hK => ?_
      refine cv_block ?_
      refine cv_seq_k fun K hK => ?_
      refine cv_region_then rfl ?_
      simp -implicitDefEqProofs (disch := first | omega | decide) only [seval, -Int.reducePow, -Nat.reducePow, cC, pv, binv, sVeRch1, undef, hA, g2, g3, g4, g5]
      refine ⟨_, hX'.ins hi, fun tok htok => ?_⟩
      subst htok
      simp -implicitDefEqProofs (disch := first | omega | decide) only [seval, -Int.reducePow, -Nat.reducePow, cC, pv, binv, sVeRch1, undef, hA, g2, g3, g4, g5]
      intro b10 hb10 hf10
      refine hK _ _ ?_
      clear hK K
      refine cv_rowA 2 rfl (by omega) fun gN_ hAA hgN_ hgN => ?_
      cases hAA
      clear hgN_
      simp only [List.eraseIdx_cons_zero, List.eraseIdx_cons_succ, neB_nil, neB_blk, neB_row, neB_snap, and_true, sVeRch1, undef] at hgN
      refine cv_gen fun G6 hG => ?_
      have g6_1 := congrFun hG 1
      have g6_3 := congrFun hG 3
      have g6_4 := congrFun hG 4
      have g6_6 := congrFun hG 6
      have g6_8 := congrFun hG 8
      have g6_9 := congrFun hG 9
      have g6_40 := congrFun hG 40
      have g6_41 := congrFun hG 41
      have g6_42 := congrFun hG 42
      clear hG
      try simp -implicitDefEqProofs (disch := first | omega | decide) only [seval, -Int.reducePow, -Nat.reducePow, cC, pv, binv, sVeRch1, undef, hA, g2, g3, g4, g5] at g6_1 g6_3 g6_4 g6_6 g6_8 g6_9 g6_40 g6_41 g6_42
      have g6 := And.intro g6_1 (And.intro g6_3 (And.intro g6_4 (And.intro g6_6 (And.intro g6_8 (And.intro g6_9 (And.intro g6_40 (And.intro g6_41 g6_42)))))))
      refine cv_seq_k fun K hK => ?_
      refine cv_seq_k fun K hK => ?_
      refine cv_cut (fun _ _ => True) (fun F' L' => F' 1 = G6 1 ∧ F' 3 = G6 3 ∧ F' 4 = G6 4 ∧ F' 6 = G6 6 ∧ F' 9 = G6 9 ∧ F' 40 = G6 40 ∧ F' 41 = G6 41 ∧ F' 42 = G6 42 ∧ F' 63 = .bool (decide (H < 0 ∨ ¬ i.op = 21 ∨ bAt s i.arg = true)) ∧ L' = [iBox b10 i, flBox b7 0 (-1) (-1), .row (.slice (some ⟨g, 0, none⟩) x.n c1) 3 1 x.n (i64z hf), .blk bS 4 (boz s), .blk bQ 3 cs, mBox b1 ⟨TA, tn, tc, ts, some ⟨b9, of9, none⟩, fn, fc, gs⟩]) ?_ ?_
      · by_cases a1 : H < 0
        · have a1' : decide (H < 0) = true := decide_eq_true a1
          refine cv_region_then rfl ?_
          simp -implicitDefEqProofs (disch := first | omega | decide) only [seval, -Int.reducePow, -Nat.reducePow, cC, pv, binv, sVeRch1, undef, g2, g3, g4, g5, g6]
          refine ⟨_, ld_row1 (m := 1) (v := .int .i64 H) (i := p) (.tail _ (.tail _ (.head _))) rfl hzp, fun tok htok => ?_⟩
          subst htok
          simp -implicitDefEqProofs (disch := first | omega | decide) only [seval, -Int.reducePow, -Nat.reducePow, cC, pv, binv, sVeRch1, undef, a1', g2, g3, g4, g5, g6]
          rw [show decide (H < 0 ∨ ¬ i.op = 21 ∨ bAt s i.arg = true) = true from decide_eq_true (.inl a1)]
          all_goals (repeat' refine And.intro ?_ ?_)
          all_goals (first | with_reducible rfl | (refine congrArg Value.bool ?_; rw [Bool.eq_iff_iff]; (try simp only [decide_eq_true_eq, eq_self, true_and, and_true, false_and, and_false, true_or, or_true, false_or, or_false, not_true_eq_false, not_false_eq_true, true_iff, iff_true, false_iff, iff_false, Bool.false_eq_true, Bool.not_eq_true', Bool.not_eq_true, decide_eq_false_iff_not, Bool.and_eq_true, Bool.or_eq_true]) <;> omega) | (refine congrArg (Value.int _) ?_; omega) | omega)
        have a1' : decide (H < 0) = false := decide_eq_false a1
        by_cases a2 : i.op = 21
        · have a2' : decide (i.op = 21) = true := decide_eq_true a2
          have hal : i.arg < fn := by have := hci a2; omega
          have hdk := bz_get (bAt_get (s := s) (j := i.arg) (by omega))
          refine cv_region_then rfl ?_
          simp -implicitDefEqProofs (disch := first | omega | decide) only [seval, -Int.reducePow, -Nat.reducePow, cC, pv, binv, sVeRch1, undef, g2, g3, g4, g5, g6]
          refine ⟨_, ld_row1 (m := 1) (v := .int .i64 H) (i := p) (.tail _ (.tail _ (.head _))) rfl hzp, fun tok htok => ?_⟩
          subst htok
          simp -implicitDefEqProofs (disch := first | omega | decide) only [seval, -Int.reducePow, -Nat.reducePow, cC, pv, binv, sVeRch1, undef, a1', a2', hdk, g2, g3, g4, g5, g6]
          rw [show decide (H < 0 ∨ ¬ i.op = 21 ∨ bAt s i.arg = true) = bAt s i.arg by simp [a1, a2]]
          all_goals (repeat' refine And.intro ?_ ?_)
          all_goals (first | with_reducible rfl | (refine congrArg Value.bool ?_; rw [Bool.eq_iff_iff]; (try simp only [decide_eq_true_eq, eq_self, true_and, and_true, false_and, and_false, true_or, or_true, false_or, or_false, not_true_eq_false, not_false_eq_true, true_iff, iff_true, false_iff, iff_false, Bool.false_eq_true, Bool.not_eq_true', Bool.not_eq_true, decide_eq_false_iff_not, Bool.and_eq_true, Bool.or_eq_true]) <;> omega) | (refine congrArg (Value.int _) ?_; omega) | omega)
        · have a2' : decide (i.op = 21) = false := decide_eq_false a2
          refine cv_region_then rfl ?_
          simp -implicitDefEqProofs (disch := first | omega | decide) only [seval, -Int.reducePow, -Nat.reducePow, cC, pv, binv, sVeRch1, undef, g2, g3, g4, g5, g6]
          refine ⟨_, ld_row1 (m := 1) (v := .int .i64 H) (i := p) (.tail _ (.tail _ (.head _))) rfl hzp, fun tok htok => ?_⟩
          subst htok
          simp -implicitDefEqProofs (disch := first | omega | decide) only [seval, -Int.reducePow, -Nat.reducePow, cC, pv, binv, sVeRch1, undef, a1', a2', g2, g3, g4, g5, g6]
          rw [show decide (H < 0 ∨ ¬ i.op = 21 ∨ bAt s i.arg = true) = true from decide_eq_true (.inr (.inl a2))]
          all_goals (repeat' refine And.intro ?_ ?_)
          all_goals (first | with_reducible rfl | (refine congrArg Value.bool ?_; rw [Bool.eq_iff_iff]; (try simp only [decide_eq_true_eq, eq_self, true_and, and_true, false_and, and_false, true_or, or_true, false_or, or_false, not_true_eq_false, not_false_eq_true, true_iff, iff_true, false_iff, iff_false, Bool.false_eq_true, Bool.not_eq_true', Bool.not_eq_true, decide_eq_false_iff_not, Bool.and_eq_true, Bool.or_eq_true]) <;> omega) | (refine congrArg (Value.int _) ?_; omega) | omega)
      intro G7 L' _ hF
      obtain ⟨q1, q3, q4, q6, q9, q40, q41, q42, q63, rfl⟩ := hF
      have g7_1 := q1.trans g6_1
      have g7_3 := q3.trans g6_3
      have g7_4 := q4.trans g6_4
      have g7_6 := q6.trans g6_6
      have g7_9 := q9.trans g6_9
      have g7_40 := q40.trans g6_40
      have g7_41 := q41.trans g6_41
      have g7_42 := q42.trans g6_42
      have g7_63 := q63
      clear q1 q3 q4 q6 q9 q40 q41 q42 q63
      have g7 := And.intro g7_1 (And.intro g7_3 (And.intro g7_4 (And.intro g7_6 (And.intro g7_9 (And.intro g7_40 (And.intro g7_41 (And.intro g7_42 g7_63)))))))
      refine hK _ _ ?_
      clear hK K
      refine cv_cond ?_
      simp -implicitDefEqProofs (disch := first | omega | decide) only [seval, -Int.reducePow, -Nat.reducePow, cC, pv, binv, sVeRch1, undef, g2, g3, g4, g5, g7]
      refine ⟨fun hc => ?_, fun hc => ?_⟩
      · refine cv_exit ?_
        simp only [blockQ, thenQ, if_true, ite_true]
        clear hK K
        refine hK _ _ ?_
        clear hK K
        have q1 := of_decide_eq_true hc
        refine cv_pick [1, 2, 3, 4, 5] (by decide) ?_
        simp only [pickL, nth]
        refine cv_region_then rfl ?_
        simp -implicitDefEqProofs (disch := first | omega | decide) only [seval, -Int.reducePow, -Nat.reducePow, cC, pv, binv, sVeRch1, undef, wrap_in, g2, g3, g4, g5, g7]
        refine ⟨⟨p + 1, bQ, off, n, c, cs, l, s, ?_⟩, ?_⟩
        · simp -implicitDefEqProofs (disch := first | omega | decide) only [seval, -Int.reducePow, -Nat.reducePow, cC, pv, binv, sVeRch1, undef, Int.natCast_add, g2, g3, g4, g5, g7]
          refine ⟨by omega, hqd, hsi, hcl, hdn.succ fun j hj => ?_, hsf, hqu, hM⟩
          obtain ⟨h1, h2, h3⟩ := harr j hj
          rcases q1 with q1 | q1 | q1
          · omega
          · exact absurd h2 q1
          · rwa [h3] at q1
        · simp only [intOf]; omega
      have q1 := of_decide_eq_false hc
      have q2 : ¬ H < 0 := fun h => q1 (.inl h)
      have q3 : i.op = 21 := Decidable.not_not.1 fun h => q1 (.inr (.inl h))
      have q4 : bAt s i.arg = false := by
        cases hb : bAt s i.arg
        · rfl
        · exact absurd (.inr (.inr hb)) q1
      have hal : i.arg < fn := by have := hci q3; omega
      have ha := hmk (by omega) q3
      have hun := undone_set (d := s) (k := i.arg) (by rw [bAt_get (by omega), q4])
      have hds2 := bz_set (d := s) (k := i.arg) true (by omega)
      refine cv_skip ?_
      try simp only [blockQ, thenQ]
      refine hK _ _ ?_
      clear hK K
      refine cv_seq_k fun K hK => ?_
      refine cv_region_then rfl ?_
      simp -implicitDefEqProofs (disch := first | omega | decide) only [seval, -Int.reducePow, -Nat.reducePow, cC, pv, binv, sVeRch1, undef, hds2, bz_len, g2, g3, g4, g5, g7]
      refine ⟨by omega, ?_⟩
      refine hK _ _ ?_
      clear hK K
      refine cv_q ?_
      refine cv_region_then rfl ?_
      simp -implicitDefEqProofs (disch := first | omega | decide) only [seval, -Int.reducePow, -Nat.reducePow, cC, pv, binv, sVeRch1, undef, wrap_in, g2, g3, g4, g5, g7]
      intro b72 hb72 hf72
      refine appV_qd 5 tap45 rfl hqd (fun w hw => src_blk (size := 1) (.head _) rfl hw) (by omega) (by omega) ?_
      intro b' off' c' cs' hqd'
      simp -implicitDefEqProofs (disch := first | omega | decide) only [seval, -Int.reducePow, -Nat.reducePow, cC, pv, binv, sVeRch1, undef, g2, g3, g4, g5, g7]
      refine hK _ _ ?_
      clear hK K
      refine cv_pick [3, 4, 5, 0, 6] (by decide) ?_
      simp only [pickL, nth]
      refine cv_region_then rfl ?_
      simp -implicitDefEqProofs (disch := first | omega | decide) only [seval, -Int.reducePow, -Nat.reducePow, cC, pv, binv, sVeRch1, undef, wrap_in, g2, g3, g4, g5, g7]
      refine ⟨⟨p + 1, b', off', n + 1, c', cs', l ++ [i.arg], s.set i.arg true, ?_⟩, ?_⟩
      · simp -implicitDefEqProofs (disch := first | omega | decide) only [seval, -Int.reducePow, -Nat.reducePow, cC, pv, binv, sVeRch1, undef, Int.natCast_add, g2, g3, g4, g5, g7]
        refine ⟨by omega, hqd', hsi.new hsf ha, fun y hy => ?_, hdn.set.succ fun j hj => ?_, bAt_set hsf, fun y hy => ?_, by omega⟩
        · rcases bAt_old hy with rfl | h1
          · exact .inr (.inl (by simp))
          · rcases hcl y h1 with h2 | h2 | h2
            · exact .inl h2
            · exact .inr (.inl (by simp [h2]))
            · exact .inr (.inr fun p j hj => bAt_set (h2 p j hj))
        · obtain ⟨h1, h2, h3⟩ := harr j hj
          rw [← h3]
          exact bAt_new (by omega)
        · rcases List.mem_append.1 hy with h1 | h1
          · exact bAt_set (hqu y h1)
          · obtain rfl : y = i.arg := by simpa using h1
            exact bAt_new (by omega)
      · simp only [intOf]; omega
    refine cv_exit ?_
    simp only [blockQ, thenQ, if_true, ite_true]
    clear hK K
    refine hK _ _ ?_
    clear hK K
    have hpt : ¬ p < x.n := by have := of_decide_eq_false ‹decide ((p : Int) < (x.n : Int)) = false›; omega
    have hnc := hqd.nc
    obtain ⟨off', hsb, hqt⟩ := hqd.tail (b := bQ)
    have hnl := hqd.len
    simp only [List.length_cons] at hnl
    refine cv_pick [2, 3, 4] (by decide) ?_
    simp only [pickL, nth]
    refine cv_region_then rfl ?_
    simp -implicitDefEqProofs (disch := first | omega | decide) only [seval, -Int.reducePow, -Nat.reducePow, cC, pv, binv, sVeRch1, undef, hsb, g2, g3, g4, g5]
    refine ⟨⟨bQ, off', n - 1, c - 1, cs, l, s, ?_⟩, ?_⟩
    · simp -implicitDefEqProofs (disch := first | omega | decide) only [seval, -Int.reducePow, -Nat.reducePow, cC, pv, binv, sVeRch1, undef, g2, g3, g4, g5]
      refine ⟨hqt, hsi, fun i hi => ?_, hqu, by omega⟩
      rcases hcl i hi with h1 | h1 | h1
      · subst h1
        exact .inr fun p' j hj => hdn.arr hx0 (by omega) hj
      · exact .inl h1
      · exact .inr h1
    · simp -implicitDefEqProofs (disch := first | omega | decide) only [seval, -Int.reducePow, -Nat.reducePow, cC, pv, binv, sVeRch1, undef, undoneV_boz, slLen, g2, g3, g4, g5]
      omega
  refine cv_exit ?_
  simp only [blockQ, thenQ, if_true, ite_true]
  clear hK K
  refine hK _ _ ?_
  clear hK K
  have hl0 : l = [] := by
    have := of_decide_eq_false ‹_›
    exact List.eq_nil_of_length_eq_zero (by have := hqd.len; omega)
  subst hl0
  have hsl := hsi.len
  rw [hgs] at hsl
  refine cv_seq_k fun K hK => ?_
  refine cv_region_then rfl ?_
  simp -implicitDefEqProofs (disch := first | omega | decide) only [seval, -Int.reducePow, -Nat.reducePow, cC, pv, binv, sVeRch1, undef, g2, g3]
  refine hK _ _ ?_
  clear hK K
  refine cv_ret ⟨_, (by simp -implicitDefEqProofs (disch := first | omega | decide) only [seval, -Int.reducePow, -Nat.reducePow, cC, pv, binv, sVeRch1, undef, g2, g3]; rfl), fun w hw => ?_⟩
  rw [hrv, hmm, ← hsi.end_ fun f hf p j ha => (hcl f hf).elim (fun h => by cases h) fun h => h p j ha]
  exact rowP_boz hw (by omega) (by omega)
set_option maxHeartbeats 4000000 in
theorem rReachable_any (m : ModR) (W : World) (hM : Mod W W.heap.size m) : Calls Try.prog 44 #[modV m] W (rowP 4 1 (fun v => v) (boz (rchV m)) W) := by
  have hMat := fun {L : List Res} {w : World} (hw : St [] W L w) => hM.at hw
  have hlg := hM.glen
  have hG := hM.gs
  have hfn := hM.fn
  obtain ⟨q, hq⟩ : ∃ q, verM m = q := ⟨_, rfl⟩
  have hok := fun h => verM_ok (m := m) h
  have hrv : rchV m = if q.1 = 0 then rchL m else [] := by rw [← hq]; rfl
  rw [hq] at hok
  obtain ⟨mm, hmm⟩ : ∃ mm, m = mm := ⟨_, rfl⟩
  have hgs : mm.gs = m.gs := by rw [hmm]
  obtain ⟨TA, tn, tc, ts, FA, fn, fc, gs⟩ := m
  dsimp only at *
  rw [hmm] at hok
  refine calls_cv (M := []) (n := 77) [.tmp 2] rfl Try.func44 rfl rfl (Nat.le_of_ble_eq_true rfl) (St.nil _ _) ?_
  refine cv_seq_k fun K hK => ?_
  refine cv_region_then rfl ?_
  simp -implicitDefEqProofs (disch := first | omega | decide) only [seval, -Int.reducePow, -Nat.reducePow, cC, pv, binv, sVeRch1, undef]
  intro b1 hb1
  refine hK _ _ ?_
  clear hK K
  refine cv_seq_k fun K hK => ?_
  refine cv_seq_k fun K hK => ?_
  refine cv_region_then rfl ?_
  simp -implicitDefEqProofs (disch := first | omega | decide) only [seval, -Int.reducePow, -Nat.reducePow, cC, pv, binv, sVeRch1, undef]
  refine callV_ret (fun w hw => rVerify_any ⟨TA, tn, tc, ts, FA, fn, fc, gs⟩ w (hMat hw)) ?_
  try simp -implicitDefEqProofs (disch := first | omega | decide) only [seval, -Int.reducePow, -Nat.reducePow, cC, pv, binv, sVeRch1, undef, hq]
  refine hK _ _ ?_
  clear hK K
  refine cv_gen fun G8 hG => ?_
  have g8_1 := congrFun hG 1
  have g8_13 := congrFun hG 13
  clear hG
  try simp -implicitDefEqProofs (disch := first | omega | decide) only [seval, -Int.reducePow, -Nat.reducePow, cC, pv, binv, sVeRch1, undef] at g8_1 g8_13
  have g8 := And.intro g8_1 g8_13
  refine cv_cond ?_
  simp -implicitDefEqProofs (disch := first | omega | decide) only [seval, -Int.reducePow, -Nat.reducePow, cC, pv, binv, sVeRch1, undef, g8]
  refine ⟨fun hc => ?_, fun hc => ?_⟩
  · have hz : ¬ q.1 = 0 := nd_true ‹(!decide (q.1 = 0)) = true›
    refine cv_seq_k fun K hK => ?_
    refine cv_region_then rfl ?_
    simp -implicitDefEqProofs (disch := first | omega | decide) only [seval, -Int.reducePow, -Nat.reducePow, cC, pv, binv, sVeRch1, undef, g8]
    refine hK _ _ ?_
    clear hK K
    refine cv_ret ⟨_, (by simp -implicitDefEqProofs (disch := first | omega | decide) only [seval, -Int.reducePow, -Nat.reducePow, cC, pv, binv, sVeRch1, undef, g8]; rfl), fun w hw => ?_⟩
    rw [hrv, if_neg hz]
    exact ⟨none, 0, 0, rfl, ⟨rfl, .inl ⟨rfl, rfl⟩⟩, hw.below⟩
  have hz : q.1 = 0 := Decidable.not_not.1 (nd_false ‹(!decide (q.1 = 0)) = false›)
  rw [if_pos hz] at hrv
  obtain ⟨hch, -, hall⟩ := hok hz
  obtain ⟨-, -, hg1, hg32, hck⟩ := chkM_ok hch
  simp only [hgs] at hg1 hg32 hck hall
  refine cv_skip ?_
  try simp only [blockQ, thenQ]
  refine hK _ _ ?_
  clear hK K
  refine cv_seq_k fun K hK => ?_
  refine cv_region_then rfl ?_
  simp -implicitDefEqProofs (disch := first | omega | decide) only [seval, -Int.reducePow, -Nat.reducePow, cC, pv, binv, sVeRch1, undef, g8]
  refine xv_make (u := .bool false) tapB rfl rfl rfl (by omega) (by omega) ?_
  intro bS hbS hfS
  simp -implicitDefEqProofs (disch := first | omega | decide) only [seval, -Int.reducePow, -Nat.reducePow, cC, pv, binv, sVeRch1, undef, g8]
  simp -implicitDefEqProofs (disch := first | omega | decide) only [seval, -Int.reducePow, -Nat.reducePow, cC, pv, binv, sVeRch1, undef, g8] at hfS
  rw [show List.replicate fn (Value.bool false) = boz (List.replicate fn false) by unfold boz; rw [List.map_replicate]]
  refine hK _ _ ?_
  clear hK K
  have hds : Value.bool true :: List.drop 1 (boz (List.replicate fn false)) = boz ((List.replicate fn false).set 0 true) := by
    have := bz_set (d := List.replicate fn false) (k := 0) true (by simp; omega)
    simpa using this
  have hsi0 : SI mm ((List.replicate fn false).set 0 true) := by
    have := SI.start (m := mm) (by rw [hgs]; omega)
    rwa [hgs, hlg] at this
  obtain ⟨sn0, hsn0⟩ : ∃ sn0, (List.replicate fn false).set 0 true = sn0 := ⟨_, rfl⟩
  have hun0 := undone_set (d := List.replicate fn false) (k := 0) (by rw [List.getElem?_replicate, if_pos (by omega)])
  rw [hsn0, undone_new] at hun0
  rw [hsn0] at hsi0
  refine cv_seq_k fun K hK => ?_
  refine cv_region_then rfl ?_
  simp -implicitDefEqProofs (disch := first | omega | decide) only [seval, -Int.reducePow, -Nat.reducePow, cC, pv, binv, sVeRch1, undef, hds, bz_len, List.length_replicate, hsn0, g8]
  refine ⟨by omega, ?_⟩
  refine hK _ _ ?_
  clear hK K
  refine cv_seq_k fun K hK => ?_
  refine cv_seq_k fun K hK => ?_
  refine cv_region_then rfl ?_
  simp -implicitDefEqProofs (disch := first | omega | decide) only [seval, -Int.reducePow, -Nat.reducePow, cC, pv, binv, sVeRch1, undef, g8]
  refine hK _ _ ?_
  clear hK K
  refine cv_gen fun G9 hG => ?_
  have g9_1 := congrFun hG 1
  have g9_3 := congrFun hG 3
  have g9_4 := congrFun hG 4
  clear hG
  try simp -implicitDefEqProofs (disch := first | omega | decide) only [seval, -Int.reducePow, -Nat.reducePow, cC, pv, binv, sVeRch1, undef, g8] at g9_1 g9_3 g9_4
  have g9 := And.intro g9_1 (And.intro g9_3 g9_4)
  refine cv_block ?_
  refine cv_loop (fun F' L' => ∃ (mo : Bool) (s : List Bool), F' 1 = G9 1 ∧ F' 3 = G9 3 ∧ F' 4 = .bool mo ∧ L' = [.blk bS 4 (boz s), mBox b1 ⟨TA, tn, tc, ts, FA, fn, fc, gs⟩] ∧ SI mm s ∧ (mo = false → ∀ f, bAt s f = true → ∀ p j, Arr mm f p j → bAt s j = true)) (fun F' L' => 2 * undoneV L' + booN (F' 4)) ?_ ?_
  · refine ⟨true, sn0, ?_⟩
    simp -implicitDefEqProofs (disch := first | omega | decide) only [seval, -Int.reducePow, -Nat.reducePow, cC, pv, binv, sVeRch1, undef, hsn0, g9]
    exact hsi0
  intro G10 L' hI
  obtain ⟨mo, s, q1, q3, q4, rfl, ⟨hsi, hcl⟩⟩ := hI
  have g10_1 := q1.trans g9_1
  have g10_3 := q3.trans g9_3
  have g10_4 := q4
  clear q1 q3 q4
  have g10 := And.intro g10_1 (And.intro g10_3 g10_4)
  refine cv_seq_k fun K hK => ?_
  refine cv_seq_k fun K hK => ?_
  refine cv_region_then rfl ?_
  simp -implicitDefEqProofs (disch := first | omega | decide) only [seval, -Int.reducePow, -Nat.reducePow, cC, pv, binv, sVeRch1, undef, g9, g10]
  refine hK _ _ ?_
  clear hK K
  refine cv_cond ?_
  simp -implicitDefEqProofs (disch := first | omega | decide) only [seval, -Int.reducePow, -Nat.reducePow, cC, pv, binv, sVeRch1, undef, g9, g10]
  refine ⟨fun hc => ?_, fun hc => ?_⟩
  · refine cv_skip ?_
    try simp only [blockQ, thenQ]
    subst hc
    clear hcl
    obtain ⟨U0, hU0⟩ : ∃ U0, undone s = U0 := ⟨_, rfl⟩
    refine hK _ _ ?_
    clear hK K
    refine cv_block ?_
    refine cv_seq_k fun K hK => ?_
    refine cv_region_then rfl ?_
    simp -implicitDefEqProofs (disch := first | omega | decide) only [seval, -Int.reducePow, -Nat.reducePow, cC, pv, binv, sVeRch1, undef, g9, g10]
    refine hK _ _ ?_
    clear hK K
    refine cv_seq_k fun K hK => ?_
    refine cv_region_then rfl ?_
    simp -implicitDefEqProofs (disch := first | omega | decide) only [seval, -Int.reducePow, -Nat.reducePow, cC, pv, binv, sVeRch1, undef, g9, g10]
    refine hK _ _ ?_
    clear hK K
    refine cv_gen fun G11 hG => ?_
    have g11_1 := congrFun hG 1
    have g11_3 := congrFun hG 3
    have g11_4 := congrFun hG 4
    have g11_5 := congrFun hG 5
    clear hG
    try simp -implicitDefEqProofs (disch := first | omega | decide) only [seval, -Int.reducePow, -Nat.reducePow, cC, pv, binv, sVeRch1, undef, g9, g10] at g11_1 g11_3 g11_4 g11_5
    have g11 := And.intro g11_1 (And.intro g11_3 (And.intro g11_4 g11_5))
    refine cv_block ?_
    refine cv_loop (fun F' L' => ∃ (f : Nat) (mo : Bool) (s : List Bool), F' 1 = G11 1 ∧ F' 3 = G11 3 ∧ F' 4 = .bool mo ∧ F' 5 = .int .i64 (f : Int) ∧ L' = [.blk bS 4 (boz s), mBox b1 ⟨TA, tn, tc, ts, FA, fn, fc, gs⟩] ∧ f ≤ fn ∧ SI mm s ∧ (mo = false → ∀ i, i < f → bAt s i = true → ∀ p j, Arr mm i p j → bAt s j = true) ∧ undone s + mo.toNat ≤ U0) (fun F' L' => 50 - (intOf (F' 5)).toNat) ?_ ?_
    · refine ⟨0, false, s, ?_⟩
      simp -implicitDefEqProofs (disch := first | omega | decide) only [seval, -Int.reducePow, -Nat.reducePow, cC, pv, binv, sVeRch1, undef, g9, g10, g11]
      exact ⟨by omega, hsi, fun _ i hi => by omega, by simp; omega⟩
    clear hsi
    intro G12 L' hI
    obtain ⟨f, mo, s, q1, q3, q4, q5, rfl, ⟨hft0, hsi, hcl, hub⟩⟩ := hI
    have g12_1 := q1.trans g11_1
    have g12_3 := q3.trans g11_3
    have g12_4 := q4
    have g12_5 := q5
    clear q1 q3 q4 q5
    have g12 := And.intro g12_1 (And.intro g12_3 (And.intro g12_4 g12_5))
    have hsl := hsi.len
    rw [hgs] at hsl
    refine cv_seq_k fun K hK => ?_
    refine cv_seq_k fun K hK => ?_
    refine cv_region_then rfl ?_
    simp -implicitDefEqProofs (disch := first | omega | decide) only [seval, -Int.reducePow, -Nat.reducePow, cC, pv, binv, sVeRch1, undef, g9, g10, g11, g12]
    refine hK _ _ ?_
    clear hK K
    refine cv_cond ?_
    simp -implicitDefEqProofs (disch := first | omega | decide) only [seval, -Int.reducePow, -Nat.reducePow, cC, pv, binv, sVeRch1, undef, g9, g10, g11, g12]
    refine ⟨fun hc => ?_, fun hc => ?_⟩
    · refine cv_skip ?_
      try simp only [blockQ, thenQ]
      have hft : f < fn := by have := of_decide_eq_true ‹decide ((f : Int) < (fn : Int)) = true›; omega
      have hdf := bz_get (bAt_get (s := s) (j := f) (by omega))
      refine hK _ _ ?_
      clear hK K
      refine cv_seq_k fun K hK => ?_
      refine cv_block ?_
      refine cv_seq_k fun K hK => ?_
      refine cv_seq_k fun K hK => ?_
      refine cv_region_then rfl ?_
      simp -implicitDefEqProofs (disch := first | omega | decide) only [seval, -Int.reducePow, -Nat.reducePow, cC, pv, binv, sVeRch1, undef, hdf, g9, g10, g11, g12]
      refine hK _ _ ?_
      clear hK K
      refine cv_cond ?_
      simp -implicitDefEqProofs (disch := first | omega | decide) only [seval, -Int.reducePow, -Nat.reducePow, cC, pv, binv, sVeRch1, undef, g9, g10, g11, g12]
      refine ⟨fun hc => ?_, fun hc => ?_⟩
      · have hnf : bAt s f = false := by simpa using ‹(!bAt s f) = true›
        refine cv_exit ?_
        simp only [blockQ, thenQ, if_true, ite_true]
        clear hK K
        refine hK _ _ ?_
        clear hK K
        refine cv_region_then rfl ?_
        simp -implicitDefEqProofs (disch := first | omega | decide) only [seval, -Int.reducePow, -Nat.reducePow, cC, pv, binv, sVeRch1, undef, wrap_in, g9, g10, g11, g12]
        refine ⟨⟨f + 1, mo, s, ?_⟩, ?_⟩
        · simp -implicitDefEqProofs (disch := first | omega | decide) only [seval, -Int.reducePow, -Nat.reducePow, cC, pv, binv, sVeRch1, undef, Int.natCast_add, g9, g10, g11, g12]
          refine ⟨by omega, hsi, fun hm i hi hb => ?_, hub⟩
          rcases Nat.lt_or_ge i f with h1 | h1
          · exact hcl hm i h1 hb
          · rw [show i = f by omega, hnf] at hb
            cases hb
        · simp only [intOf]; omega
      have hsf : bAt s f = true := by simpa using ‹(!bAt s f) = false›
      obtain ⟨x, hf, hx, hsx, hR, hU⟩ := hgtF_okk (m := mm) (k := f) (by rw [hgs]; omega) (hall f (by omega))
      obtain ⟨hh1, hh2, hh3, hh4, hh5, hh6, -⟩ := hgt_spec hsx hx hR
      obtain ⟨-, k', x', hk', hx', hst⟩ := stF_ok hsx
      obtain rfl : f = k' := by omega
      obtain rfl : x = x' := by
        rw [hx] at hx'
        exact Option.some.inj hx'
      have hUh : (hgtF mm (f : Int)).1 = hf := by rw [hU]
      rw [hgs] at hst
      have hx0 := hx
      rw [hgs] at hx
      obtain ⟨-, -, -, -, -, -, -, h1024, -⟩ := fnErr_ok (hck f x hx).1
      have hX := hfn x (List.mem_of_getElem? hx)
      have hxl : x.code.length = x.n := cl_row insc_len (by omega) hX.len
      obtain ⟨b0, off0, hA, hb0, -⟩ := hX.cells (by omega)
      have hX' : Sl W W.heap.size 2 (some ⟨b0, off0, none⟩) x.n x.c (cl insc x.code) := hA ▸ hX
      obtain ⟨b9, of9, rfl, hb9, -⟩ := hG.cells (by omega)
      have hU' : hgtF ⟨TA, tn, tc, ts, some ⟨b9, of9, none⟩, fn, fc, gs⟩ (f : Int) = (hf, fineF) := by rw [hmm]; exact hU
      refine cv_skip ?_
      try simp only [blockQ, thenQ]
      refine hK _ _ ?_
      clear hK K
      refine cv_seq_k fun K hK => ?_
      refine cv_region_then rfl ?_
      simp -implicitDefEqProofs (disch := first | omega | decide) only [seval, -Int.reducePow, -Nat.reducePow, cC, pv, binv, sVeRch1, undef, g9, g10, g11, g12]
      refine callV_row (fun A n c => .tuple #[.slice A n c, fltV fineF]) (fun w hw => (by have := rHeights_any ⟨TA, tn, tc, ts, some ⟨b9, of9, none⟩, fn, fc, gs⟩ (f : Int) w (hMat hw); rw [hU'] at this; exact this)) ?_
      intro A n1 c1 hl1 hr1
      simp -implicitDefEqProofs (disch := first | omega | decide) only [seval, -Int.reducePow, -Nat.reducePow, cC, pv, binv, sVeRch1, undef, g9, g10, g11, g12]
      intro b7 hb7 hf7
      refine hK _ _ ?_
      clear hK K
      have hn1 : n1 = x.n := by have : (i64z hf).length = n1 * 1 := hl1; rw [z_len] at this; omega
      subst hn1
      refine cv_rowA 1 rfl (by omega) fun g hAA hg hNN => ?_
      subst hAA
      simp only [List.eraseIdx_cons_zero, List.eraseIdx_cons_succ, neB_nil, neB_blk, neB_row, neB_snap, and_true, List.not_mem_nil, or_false] at hNN hg
      replace hg := And.intro hg hNN
      clear hNN
      refine cv_seq_k fun K hK => ?_
      refine cv_region_then rfl ?_
      simp -implicitDefEqProofs (disch := first | omega | decide) only [seval, -Int.reducePow, -Nat.reducePow, cC, pv, binv, sVeRch1, undef, g9, g10, g11, g12]
      refine hK _ _ ?_
      clear hK K
      refine cv_gen fun G13 hG => ?_
      have g13_1 := congrFun hG 1
      have g13_3 := congrFun hG 3
      have g13_4 := congrFun hG 4
      have g13_5 := congrFun hG 5
      have g13_6 := congrFun hG 6
      have g13_8 := congrFun hG 8
      clear hG
      try simp -implicitDefEqProofs (disch := first | omega | decide) only [seval, -Int.reducePow, -Nat.reducePow, cC, pv, binv, sVeRch1, undef, g9, g10, g11, g12] at g13_1 g13_3 g13_4 g13_5 g13_6 g13_8
      have g13 := And.intro g13_1 (And.intro g13_3 (And.intro g13_4 (And.intro g13_5 (And.intro g13_6 g13_8))))
      refine cv_block ?_
      refine cv_loop (fun F' L' => ∃ (p : Nat) (mo : Bool) (s : List Bool), F' 1 = G13 1 ∧ F' 3 = G13 3 ∧ F' 4 = .bool mo ∧ F' 5 = G13 5 ∧ F' 6 = G13 6 ∧ F' 8 = .int .i64 (p : Int) ∧ L' = [flBox b7 0 (-1) (-1), .row (.slice (some ⟨g, 0, none⟩) x.n c1) 3 1 x.n (i64z hf), .blk bS 4 (boz s), mBox b1 ⟨TA, tn, tc, ts, some ⟨b9, of9, none⟩, fn, fc, gs⟩] ∧ p ≤ x.n ∧ SI mm s ∧ bAt s f = true ∧ (mo = false → (∀ i, i < f → bAt s i = true → ∀ p j, Arr mm i p j → bAt s j = true) ∧ Done mm s f p) ∧ undone s + mo.toNat ≤ U0) (fun F' L' => 1100 - (intOf (F' 8)).toNat) ?_ ?_
      · refine ⟨0, mo, s, ?_⟩
        simp -implicitDefEqProofs (disch := first | omega | decide) only [seval, -Int.reducePow, -Nat.reducePow, cC, pv, binv, sVeRch1, undef, g9, g10, g11, g12, g13]
        exact ⟨by omega, hsi, hsf, fun h => ⟨hcl h, Done.zero _ _ _⟩, hub⟩
      clear hcl hsi hsf hub hsl hdf
      intro G14 L' hI
      obtain ⟨p, mo, s, q1, q3, q4, q5, q6, q8, rfl, ⟨hp, hsi, hsf, hcl, hub⟩⟩ := hI
      have g14_1 := q1.trans g13_1
      have g14_3 := q3.trans g13_3
      have g14_4 := q4
      have g14_5 := q5.trans g13_5
      have g14_6 := q6.trans g13_6
      have g14_8 := q8
      clear q1 q3 q4 q5 q6 q8
      have g14 := And.intro g14_1 (And.intro g14_3 (And.intro g14_4 (And.intro g14_5 (And.intro g14_6 g14_8))))
      have hsl := hsi.len
      rw [hgs] at hsl
      refine cv_seq_k fun K hK => ?_
      refine cv_seq_k fun K hK => ?_
      refine cv_region_then rfl ?_
      simp -implicitDefEqProofs (disch := first | omega | decide) only [seval, -Int.reducePow, -Nat.reducePow, cC, pv, binv, sVeRch1, undef, g9, g10, g11, g12, g13, g14]
      refine hK _ _ ?_
      clear hK K
      refine cv_cond ?_
      simp -implicitDefEqProofs (disch := first | omega | decide) only [seval, -Int.reducePow, -Nat.reducePow, cC, pv, binv, sVeRch1, undef, g9, g10, g11, g12, g13, g14]
      refine ⟨fun hc => ?_, fun hc => ?_⟩
      · refine cv_skip ?_
        try simp only [blockQ, thenQ]
        have hpt : p < x.n := by have := of_decide_eq_true ‹decide ((p : Int) < (x.n : Int)) = true›; omega
        obtain ⟨i, hi⟩ := some_of (l := x.code) (i := p) (by omega)
        have hci := fun ho => stE_call (hst p i hi) ho
        have hzp := z_get (h := hf) (k := p) (by omega)
        have hrp := hh4 p
        have harr := fun j => arr_of (j := j) hx0 hi hUh
        have hmk : ¬ hAt hf p = -1 → i.op = 21 → Arr mm f p i.arg := fun h1 h2 => ⟨x, i, hx0, hi, by rw [hUh]; exact h1, h2, rfl⟩
        obtain ⟨H, hH⟩ : ∃ H, hAt hf p = H := ⟨_, rfl⟩
        simp only [hH] at hzp hrp harr hmk
        refine hK _ _ ?_
        clear hK K
        refine cv_seq_k fun K hK => ?_
        refine cv_block ?_
        refine cv_seq_k fun K hK => ?_
        refine cv_region_then rfl ?_
        simp -implicitDefEqProofs (disch := first | omega | decide) only [seval, -Int.reducePow, -Nat.reducePow, cC, pv, binv, sVeRch1, undef, g9, g10, g11, g12, g13, g14]
        refine ⟨_, hG.fnf hx, fun tok htok => ?_⟩
        subst htok
        simp -implicitDefEqProofs (disch := first | omega | decide) only [seval, -Int.reducePow, -Nat.reducePow, cC, pv, binv, sVeRch1, undef, g9, g10, g11, g12, g13, g14]
        simp -implicitDefEqProofs (disch := first | omega | decide) only [seval, -Int.reducePow, -Nat.reducePow, cC, pv, binv, sVeRch1, undef, hA, g9, g10, g11, g12, g13, g14]
        refine ⟨_, hX'.ins hi, fun tok htok => ?_⟩
        subst htok
        simp -implicitDefEqProofs (disch := first | omega | decide) only [seval, -Int.reducePow, -Nat.reducePow, cC, pv, binv, sVeRch1, undef, hA, g9, g10, g11, g12, g13, g14]
        intro b10 hb10 hf10
        refine hK _ _ ?_
        clear hK K
        refine cv_rowA 2 rfl (by omega) fun gN_ hAA hgN_ hgN => ?_
        cases hAA
        clear hgN_
        simp only [List.eraseIdx_cons_zero, List.eraseIdx_cons_succ, neB_nil, neB_blk, neB_row, neB_snap, and_true, sVeRch1, undef] at hgN
        refine cv_gen fun G15 hG => ?_
        have g15_1 := congrFun hG 1
        have g15_3 := congrFun hG 3
        have g15_4 := congrFun hG 4
        have g15_5 := congrFun hG 5
        have g15_6 := congrFun hG 6
        have g15_8 := congrFun hG 8
        have g15_9 := congrFun hG 9
        clear hG
        try simp -implicitDefEqProofs (disch := first | omega | decide) only [seval, -Int.reducePow, -Nat.reducePow, cC, pv, binv, sVeRch1, undef, hA, g9, g10, g11, g12, g13, g14] at g15_1 g15_3 g15_4 g15_5 g15_6 g15_8 g15_9
        have g15 := And.intro g15_1 (And.intro g15_3 (And.intro g15_4 (And.intro g15_5 (And.intro g15_6 (And.intro g15_8 g15_9)))))
        refine cv_seq_k fun K hK => ?_
        refine cv_cut (fun _ _ => True) (fun F' L' => F' 1 = G15 1 ∧ F' 3 = G15 3 ∧ F' 4 = G15 4 ∧ F' 5 = G15 5 ∧ F' 6 = G15 6 ∧ F' 8 = G15 8 ∧ F' 9 = G15 9 ∧ F' 71 = .bool (decide (0 ≤ H ∧ i.op = 21 ∧ bAt s i.arg = false)) ∧ L' = [iBox b10 i, flBox b7 0 (-1) (-1), .row (.slice (some ⟨g, 0, none⟩) x.n c1) 3 1 x.n (i64z hf), .blk bS 4 (boz s), mBox b1 ⟨TA, tn, tc, ts, some ⟨b9, of9, none⟩, fn, fc, gs⟩]) ?_ ?_
        · by_cases a1 : 0 ≤ H
          · have a1' : decide (0 ≤ H) = true := decide_eq_true a1
            by_cases a2 : i.op = 21
            · have a2' : decide (i.op = 21) = true := decide_eq_true a2
              have hal : i.arg < fn := by have := hci a2; omega
              have hdk := bz_get (bAt_get (s := s) (j := i.arg) (by omega))
              refine cv_region_then rfl ?_
              simp -implicitDefEqProofs (disch := first | omega | decide) only [seval, -Int.reducePow, -Nat.reducePow, cC, pv, binv, sVeRch1, undef, g9, g10, g11, g12, g13, g14, g15]
              refine ⟨_, ld_row1 (m := 1) (v := .int .i64 H) (i := p) (.tail _ (.tail _ (.head _))) rfl hzp, fun tok htok => ?_⟩
              subst htok
              simp -implicitDefEqProofs (disch := first | omega | decide) only [seval, -Int.reducePow, -Nat.reducePow, cC, pv, binv, sVeRch1, undef, a1', a2', hdk, g9, g10, g11, g12, g13, g14, g15]
              rw [show decide (0 ≤ H ∧ i.op = 21 ∧ bAt s i.arg = false) = !bAt s i.arg by simp [a1, a2]]
              all_goals (repeat' refine And.intro ?_ ?_)
              all_goals (first | with_reducible rfl | (refine congrArg Value.bool ?_; rw [Bool.eq_iff_iff]; (try simp only [decide_eq_true_eq, eq_self, true_and, and_true, false_and, and_false, true_or, or_true, false_or, or_false, not_true_eq_false, not_false_eq_true, true_iff, iff_true, false_iff, iff_false, Bool.false_eq_true, Bool.not_eq_true', Bool.not_eq_true, decide_eq_false_iff_not, Bool.and_eq_true, Bool.or_eq_true]) <;> omega) | (refine congrArg (Value.int _) ?_; omega) | omega)
            · have a2' : decide (i.op = 21) = false := decide_eq_false a2
              refine cv_region_then rfl ?_
              simp -implicitDefEqProofs (disch := first | omega | decide) only [seval, -Int.reducePow, -Nat.reducePow, cC, pv, binv, sVeRch1, undef, g9, g10, g11, g12, g13, g14, g15]
              refine ⟨_, ld_row1 (m := 1) (v := .int .i64 H) (i := p) (.tail _ (.tail _ (.head _))) rfl hzp, fun tok htok => ?_⟩
              subst htok
              simp -implicitDefEqProofs (disch := first | omega | decide) only [seval, -Int.reducePow, -Nat.reducePow, cC, pv, binv, sVeRch1, undef, a1', a2', g9, g10, g11, g12, g13, g14, g15]
              rw [show decide (0 ≤ H ∧ i.op = 21 ∧ bAt s i.arg = false) = false from decide_eq_false fun h => a2 h.2.1]
              all_goals (repeat' refine And.intro ?_ ?_)
              all_goals (first | with_reducible rfl | (refine congrArg Value.bool ?_; rw [Bool.eq_iff_iff]; (try simp only [decide_eq_true_eq, eq_self, true_and, and_true, false_and, and_false, true_or, or_true, false_or, or_false, not_true_eq_false, not_false_eq_true, true_iff, iff_true, false_iff, iff_false, Bool.false_eq_true, Bool.not_eq_true', Bool.not_eq_true, decide_eq_false_iff_not, Bool.and_eq_true, Bool.or_eq_true]) <;> omega) | (refine congrArg (Value.int _) ?_; omega) | omega)
          · have a1' : decide (0 ≤ H) = false := decide_eq_false a1
            refine cv_region_then rfl ?_
            simp -implicitDefEqProofs (disch := first | omega | decide) only [seval, -Int.reducePow, -Nat.reducePow, cC, pv, binv, sVeRch1, undef, g9, g10, g11, g12, g13, g14, g15]
            refine ⟨_, ld_row1 (m := 1) (v := .int .i64 H) (i := p) (.tail _ (.tail _ (.head _))) rfl hzp, fun tok htok => ?_⟩
            subst htok
            simp -implicitDefEqProofs (disch := first | omega | decide) only [seval, -Int.reducePow, -Nat.reducePow, cC, pv, binv, sVeRch1, undef, a1', g9, g10, g11, g12, g13, g14, g15]
            rw [show decide (0 ≤ H ∧ i.op = 21 ∧ bAt s i.arg = false) = false from decide_eq_false fun h => a1 h.1]
            all_goals (repeat' refine And.intro ?_ ?_)
            all_goals (first | with_reducible rfl | (refine congrArg Value.bool ?_; rw [Bool.eq_iff_iff]; (try simp only [decide_eq_true_eq, eq_self, true_and, and_true, false_and, and_false, true_or, or_true, false_or, or_false, not_true_eq_false, not_false_eq_true, true_iff, iff_true, false_iff, iff_false, Bool.false_eq_true, Bool.not_eq_true', Bool.not_eq_true, decide_eq_false_iff_not, Bool.and_eq_true, Bool.or_eq_true]) <;> omega) | (refine congrArg (Value.int _) ?_; omega) | omega)
        intro G16 L' _ hF
        obtain ⟨q1, q3, q4, q5, q6, q8, q9, q71, rfl⟩ := hF
        have g16_1 := q1.trans g15_1
        have g16_3 := q3.trans g15_3
        have g16_4 := q4.trans g15_4
        have g16_5 := q5.trans g15_5
        have g16_6 := q6.trans g15_6
        have g16_8 := q8.trans g15_8
        have g16_9 := q9.trans g15_9
        have g16_71 := q71
        clear q1 q3 q4 q5 q6 q8 q9 q71
        have g16 := And.intro g16_1 (And.intro g16_3 (And.intro g16_4 (And.intro g16_5 (And.intro g16_6 (And.intro g16_8 (And.intro g16_9 g16_71))))))
        refine hK _ _ ?_
        clear hK K
        refine cv_cond ?_
        simp -implicitDefEqProofs (disch := first | omega | decide) only [seval, -Int.reducePow, -Nat.reducePow, cC, pv, binv, sVeRch1, undef, g9, g10, g11, g12, g13, g14, g16]
        refine ⟨fun hc => ?_, fun hc => ?_⟩
        · obtain ⟨q2, q3, q4⟩ := of_decide_eq_true hc
          have hal : i.arg < fn := by have := hci q3; omega
          have ha := hmk (by omega) q3
          have hun := undone_set (d := s) (k := i.arg) (by rw [bAt_get (by omega), q4])
          have hds2 := bz_set (d := s) (k := i.arg) true (by omega)
          have hmo : mo.toNat ≤ 1 := by cases mo <;> decide
          refine cv_seq_k fun K hK => ?_
          refine cv_region_then rfl ?_
          simp -implicitDefEqProofs (disch := first | omega | decide) only [seval, -Int.reducePow, -Nat.reducePow, cC, pv, binv, sVeRch1, undef, hds2, bz_len, g9, g10, g11, g12, g13, g14, g16]
          refine ⟨by omega, ?_⟩
          refine hK _ _ ?_
          clear hK K
          refine cv_q ?_
          refine cv_region_then rfl ?_
          simp -implicitDefEqProofs (disch := first | omega | decide) only [seval, -Int.reducePow, -Nat.reducePow, cC, pv, binv, sVeRch1, undef, g9, g10, g11, g12, g13, g14, g16]
          refine hK _ _ ?_
          clear hK K
          refine cv_pick [1, 2, 3, 4] (by decide) ?_
          simp only [pickL, nth]
          refine cv_region_then rfl ?_
          simp -implicitDefEqProofs (disch := first | omega | decide) only [seval, -Int.reducePow, -Nat.reducePow, cC, pv, binv, sVeRch1, undef, wrap_in, g9, g10, g11, g12, g13, g14, g16]
          refine ⟨⟨p + 1, true, s.set i.arg true, ?_⟩, ?_⟩
          · simp -implicitDefEqProofs (disch := first | omega | decide) only [seval, -Int.reducePow, -Nat.reducePow, cC, pv, binv, sVeRch1, undef, Int.natCast_add, g9, g10, g11, g12, g13, g14, g16]
            exact ⟨by omega, hsi.new hsf ha, bAt_set hsf, by first | omega | (simp; omega)⟩
          · simp only [intOf]; omega
        · have q1 := of_decide_eq_false hc
          refine cv_skip ?_
          try simp only [blockQ, thenQ]
          refine hK _ _ ?_
          clear hK K
          refine cv_pick [1, 2, 3, 4] (by decide) ?_
          simp only [pickL, nth]
          refine cv_region_then rfl ?_
          simp -implicitDefEqProofs (disch := first | omega | decide) only [seval, -Int.reducePow, -Nat.reducePow, cC, pv, binv, sVeRch1, undef, wrap_in, g9, g10, g11, g12, g13, g14, g16]
          refine ⟨⟨p + 1, mo, s, ?_⟩, ?_⟩
          · simp -implicitDefEqProofs (disch := first | omega | decide) only [seval, -Int.reducePow, -Nat.reducePow, cC, pv, binv, sVeRch1, undef, Int.natCast_add, g9, g10, g11, g12, g13, g14, g16]
            refine ⟨by omega, hsi, hsf, fun h => ⟨(hcl h).1, (hcl h).2.succ fun j hj => ?_⟩, hub⟩
            obtain ⟨h1, h2, h3⟩ := harr j hj
            cases hb : bAt s j
            · exact absurd ⟨by omega, h2, by rw [h3]; exact hb⟩ q1
            · rfl
          · simp only [intOf]; omega
      refine cv_exit ?_
      simp only [blockQ, thenQ, if_true, ite_true]
      clear hK K
      refine hK _ _ ?_
      clear hK K
      have hpt : ¬ p < x.n := by have := of_decide_eq_false ‹decide ((p : Int) < (x.n : Int)) = false›; omega
      refine cv_pick [2, 3] (by decide) ?_
      simp only [pickL, nth]
      refine cv_region_then rfl ?_
      simp -implicitDefEqProofs (disch := first | omega | decide) only [seval, -Int.reducePow, -Nat.reducePow, cC, pv, binv, sVeRch1, undef, wrap_in, g9, g10, g11, g12, g13, g14]
      refine ⟨⟨f + 1, mo, s, ?_⟩, ?_⟩
      · simp -implicitDefEqProofs (disch := first | omega | decide) only [seval, -Int.reducePow, -Nat.reducePow, cC, pv, binv, sVeRch1, undef, Int.natCast_add, g9, g10, g11, g12, g13, g14]
        refine ⟨by omega, hsi, fun hm i hi hb => ?_, hub⟩
        rcases Nat.lt_or_ge i f with h1 | h1
        · exact (hcl hm).1 i h1 hb
        · obtain rfl : i = f := by omega
          exact fun p' j hj => (hcl hm).2.arr hx0 (by omega) hj
      · simp only [intOf]; omega
    refine cv_exit ?_
    simp only [blockQ, thenQ, if_true, ite_true]
    have hft : ¬ f < fn := by have := of_decide_eq_false ‹decide ((f : Int) < (fn : Int)) = false›; omega
    refine ⟨⟨mo, s, ?_⟩, ?_⟩
    · simp -implicitDefEqProofs (disch := first | omega | decide) only [seval, -Int.reducePow, -Nat.reducePow, cC, pv, binv, sVeRch1, undef, g9, g10, g11, g12]
      refine ⟨hsi, fun hm i hb p j hj => hcl hm i ?_ hb p j hj⟩
      have := bAt_lt hb
      omega
    · simp -implicitDefEqProofs (disch := first | omega | decide) only [seval, -Int.reducePow, -Nat.reducePow, cC, pv, binv, sVeRch1, undef, undoneV_boz, booN, g9, g10, g11, g12]
      cases mo <;> simp at hub ⊢ <;> omega
  refine cv_exit ?_
  simp only [blockQ, thenQ, if_true, ite_true]
  clear hK K
  refine hK _ _ ?_
  clear hK K
  subst hc
  have hsl := hsi.len
  rw [hgs] at hsl
  refine cv_seq_k fun K hK => ?_
  refine cv_region_then rfl ?_
  simp -implicitDefEqProofs (disch := first | omega | decide) only [seval, -Int.reducePow, -Nat.reducePow, cC, pv, binv, sVeRch1, undef, g9, g10]
  refine hK _ _ ?_
  clear hK K
  refine cv_ret ⟨_, (by simp -implicitDefEqProofs (disch := first | omega | decide) only [seval, -Int.reducePow, -Nat.reducePow, cC, pv, binv, sVeRch1, undef, g9, g10]; rfl), fun w hw => ?_⟩
  rw [hrv, hmm, ← hsi.end_ fun f hf p j ha => hcl rfl f hf p j ha]
  exact rowP_boz hw (by omega) (by omega)
end Go.Proofs.Ytlbmnioibiomfaa
