/- Reading a module. -/
import Derived.Test.YtlbmnioibiomfaaGreatDLoad5
import Derived.Test.YtlbmnioibiomfaaGreatDLoad4
namespace Go.Proofs.YtlbmnioibiomfaaGreat
open Go.RowKit Go.Shelf
set_option linter.unusedVariables false
set_option linter.unusedSimpArgs false
set_option maxRecDepth 100000
def zMod : ModR := ⟨none, 0, 0, [], none, 0, 0, []⟩
def tyD (t : TyR) : Int × List Fd := (t.len, t.fs)
/-- A module that was read. -/
def modΦ (l : List Nat) (i : ModR × Option Addr × Nat × Nat × Int) (w w' : World) : Prop :=
  (i.2.2.2.2 = 0 ∧ (∃ q, decL l = .ok q ∧ datM i.1 = datQ q) ∧ ModD w' (Nw w w') i.1) ∨ (¬ i.2.2.2.2 = 0 ∧ decL l = .error i.2.2.2.2)
theorem types_err {l : List Nat} {e : Int} (h : thenX (.ok ((), l)) (cntX tyX 32) = .error e) : decL l = .error e := decL_err (by unfold decX; rw [h]; rfl)
set_option maxRecDepth 100000 in
theorem sMRm1 : type_of% (And.intro (And.intro (And.intro @Nat.mul_one @mrC.eq_1) (And.intro @mrB.eq_1 @mBox.eq_1)) (And.intro (And.intro @modV.eq_1 @tBox.eq_1) (And.intro @decV.eq_1 @cS))) := (And.intro (And.intro (And.intro @Nat.mul_one @mrC.eq_1) (And.intro @mrB.eq_1 @mBox.eq_1)) (And.intro (And.intro @modV.eq_1 @tBox.eq_1) (And.intro @decV.eq_1 @cS)))
set_option maxHeartbeats 8000000 in
theorem mmod_any (r : Nat) (A : Option Addr) (n c : Nat) (l : List Nat) (W : World) (hW : W.heap[r]? = some (.cells (mrC A n c 0).toArray 97 (0, 0))) (hL : Lt W r A n c l) :
    Calls Tryz.prog 52 #[.pointer (some ⟨r, 0, none⟩)] W fun e w' => ∃ i : ModR × Option Addr × Nat × Nat × Int, e = .returned (modV i.1) ∧ modΦ l i W w' ∧ w'.heap[r]? = some (.cells (mrC i.2.1 i.2.2.1 i.2.2.2.1 i.2.2.2.2).toArray 97 (0, 0)) ∧ Pres [r] W w' := by
  obtain ⟨v1, A1, n1, c1, l1, e1, s1, L1⟩ := hL.num 0 32 (by omega)
  have hS : Lc tyX (thenX (.ok ((), l)) (cntX tyX 32)) () v1 0 [] l1 e1 := s1.start (.start () l)
  have hv1 := s1.le
  refine calls_cv2 (M := [r]) (n := 68) [.cell 2 30] rfl Tryz.func52 rfl rfl (Nat.le_of_ble_eq_true rfl)  (St.one hW) ?_
  refine cv_seq_k fun K hK => ?_
  refine cv_region_then rfl ?_
  simp -implicitDefEqProofs (disch := first | omega | decide) only [seval, -Int.reducePow, -Nat.reducePow, cC, pv, binv, sMRm1, undef]
  intro b2 hb2 h2
  refine hK _ _ ?_
  clear hK K
  refine cv_seq_k fun K hK => ?_
  refine cv_region_then rfl ?_
  simp -implicitDefEqProofs (disch := first | omega | decide) only [seval, -Int.reducePow, -Nat.reducePow, cC, pv, binv, sMRm1, undef]
  intro b3 hb3 h3
  refine hK _ _ ?_
  clear hK K
  refine cv_seq_k fun K hK => ?_
  refine cv_seq_k fun K hK => ?_
  refine cv_region_then rfl ?_
  simp -implicitDefEqProofs (disch := first | omega | decide) only [seval, -Int.reducePow, -Nat.reducePow, cC, pv, binv, sMRm1, undef]
  refine callV_mod1 2 (fun w hw => mnum_any s1 (hw.hold 2 rfl) (hL.at hw)) rfl ?_
  try simp -implicitDefEqProofs (disch := first | omega | decide) only [seval, -Int.reducePow, -Nat.reducePow, cC, pv, binv, sMRm1, undef]
  refine hK _ _ ?_
  clear hK K
  refine cv_gen fun G1 hG => ?_
  have g1_0 := congrFun hG 0
  have g1_2 := congrFun hG 2
  have g1_3 := congrFun hG 3
  have g1_8 := congrFun hG 8
  have g1_9 := congrFun hG 9
  clear hG
  try simp -implicitDefEqProofs (disch := first | omega | decide) only [seval, -Int.reducePow, -Nat.reducePow, cC, pv, binv, sMRm1, undef] at g1_0 g1_2 g1_3 g1_8 g1_9
  have g1 := And.intro g1_0 (And.intro g1_2 (And.intro g1_3 (And.intro g1_8 g1_9)))
  refine cv_block ?_
  refine cv_nil 67 2 ?_
  refine cv_snap [0, 1, 2, 3] (by decide) fun v0 f0 hv0 hf0 => ?_
  simp only [pickL, nth]
  refine cv_loop (fun F' L' => ∃ (j : Nat) (A6 : Option Addr) (c6 : Nat) (ts : List TyR) (A' : Option Addr) (n' c' : Nat) (l' : List Nat) (e' : Int) (v : World) (f : List Nat), F' 0 = G1 0 ∧ F' 2 = G1 2 ∧ F' 3 = G1 3 ∧ F' 8 = G1 8 ∧ F' 9 = .int .i64 (j : Int) ∧ L' = [snap [r] W v f, .row (.slice A6 j c6) 67 2 j (cl tyc ts), .blk b3 30 [.slice A6 j c6, .slice none 0 0], .blk b2 30 [.slice none 0 0, .slice none 0 0], mrB r A' n' c' e'] ∧ Lt W r A' n' c' l' ∧ Lc tyX (thenX (.ok ((), l)) (cntX tyX 32)) () v1 j (ts.map tyD) l' e' ∧ (∀ t ∈ ts, Sd v (fun y => y ∈ f) 2 t.A t.n t.c (cl fdc t.fs)) ∧ (j < v1 → e' = 0)) (fun F' L' => 100 - (intOf (F' 9)).toNat) ?_ ?_
  · refine ⟨0, none, 0, [], A1, n1, c1, l1, e1, v0, f0, ?_⟩
    simp -implicitDefEqProofs (disch := first | omega | decide) only [seval, -Int.reducePow, -Nat.reducePow, cC, pv, binv, sMRm1, undef, g1]
    refine ⟨rfl, L1, hS, by simp, fun h => ?_⟩
    by_cases h0 : e1 = 0
    · exact h0
    · have := s1.err h0
      omega
  intro G2 L' hI
  obtain ⟨j, A6, c6, ts, A', n', c', l', e', v, f, q0, q2, q3, q8, q9, rfl, ⟨hL', hS', hty, he'⟩⟩ := hI
  have g2_0 := q0.trans g1_0
  have g2_2 := q2.trans g1_2
  have g2_3 := q3.trans g1_3
  have g2_8 := q8.trans g1_8
  have g2_9 := q9
  clear q0 q2 q3 q8 q9
  have g2 := And.intro g2_0 (And.intro g2_2 (And.intro g2_3 (And.intro g2_8 g2_9)))
  refine cv_seq_k fun K hK => ?_
  refine cv_region_then rfl ?_
  simp -implicitDefEqProofs (disch := first | omega | decide) only [seval, -Int.reducePow, -Nat.reducePow, cC, pv, binv, sMRm1, undef, g1, g2]
  refine hK _ _ ?_
  clear hK K
  refine cv_seq_k fun K hK => ?_
  refine cv_cond ?_
  simp -implicitDefEqProofs (disch := first | omega | decide) only [seval, -Int.reducePow, -Nat.reducePow, cC, pv, binv, sMRm1, undef, g1, g2]
  refine ⟨fun hc => ?_, fun hc => ?_⟩
  · refine cv_skip ?_
    try simp only [blockQ, thenQ]
    have hj : j < v1 := by have := of_decide_eq_true hc; omega
    have h0 := he' hj
    subst h0
    obtain ⟨d, hd⟩ : ∃ d, decF l' = d := ⟨_, rfl⟩
    have ho := tyX_out l'
    have hk' : d.2.2.1 = if d.2.2.2 = 0 then d.2.2.1 else 0 := by
      split
      · rfl
      · subst hd; exact decF_err ‹_›
    have hdl : d.2.2.1 ≤ n' := by
      by_cases h : d.2.2.2 = 0
      · subst hd
        have := (decF_only hL'.bt h).2.2
        rw [hL'.len] at this
        exact this
      · subst hd
        rw [decF_err h]
        omega
    rw [hd] at ho
    have hst := hS'.step hj ho
    have hcap := hL'.sl.cap
    have hmax := hL'.sl.max
    refine hK _ _ ?_
    clear hK K
    refine cv_seq_k fun K hK => ?_
    refine cv_block ?_
    refine cv_seq_k fun K hK => ?_
    refine cv_region_then rfl ?_
    simp -implicitDefEqProofs (disch := first | omega | decide) only [seval, -Int.reducePow, -Nat.reducePow, cC, pv, binv, sMRm1, undef, g1, g2]
    refine callV_row (fun A5 n5 c5 => decV (decF l') (.slice A5 n5 c5)) (fun w hw => decode_any A' n' c' l' w (hL'.at hw).sl hL'.bt hL'.sz) ?_
    rw [hd]
    intro A5 n5 c5 hl5 hr5
    simp -implicitDefEqProofs (disch := first | omega | decide) only [seval, -Int.reducePow, -Nat.reducePow, cC, pv, binv, sMRm1, undef, g1, g2]
    intro b4 hb4 h4
    refine hK _ _ ?_
    clear hK K
    refine cv_seq_k fun K hK => ?_
    refine cv_seq_k fun K hK => ?_
    refine cv_region_then rfl ?_
    simp -implicitDefEqProofs (disch := first | omega | decide) only [seval, -Int.reducePow, -Nat.reducePow, cC, pv, binv, sMRm1, undef, g1, g2]
    refine callV_mod1 6 (fun w hw => took_any r A' n' c' d.2.2.1 d.2.2.1 d.2.2.2 w (hw.hold 6 rfl) (fun _ => hdl) hcap hmax hk') rfl ?_
    try simp -implicitDefEqProofs (disch := first | omega | decide) only [seval, -Int.reducePow, -Nat.reducePow, cC, pv, binv, sMRm1, undef, g1, g2]
    refine hK _ _ ?_
    clear hK K
    refine cv_cond ?_
    simp -implicitDefEqProofs (disch := first | omega | decide) only [seval, -Int.reducePow, -Nat.reducePow, cC, pv, binv, sMRm1, undef, g1, g2]
    refine ⟨fun hc => ?_, fun hc => ?_⟩
    · have hne : ¬ d.2.2.2 = 0 := by simpa using ‹(!decide (d.2.2.2 = 0)) = true›
      refine cv_seq_k fun K hK => ?_
      refine cv_region_then rfl ?_
      simp -implicitDefEqProofs (disch := first | omega | decide) only [seval, -Int.reducePow, -Nat.reducePow, cC, pv, binv, sMRm1, undef, g1, g2]
      refine hK _ _ ?_
      clear hK K
      refine cv_ret ?_
      simp -implicitDefEqProofs (disch := first | omega | decide) only [seval, -Int.reducePow, -Nat.reducePow, cC, pv, binv, sMRm1, undef, retQ2, ressV, packV, g1, g2]
      intro w hw
      exact ⟨(zMod, sbase c' d.2.2.1 1 A', n' - d.2.2.1, c' - d.2.2.1, d.2.2.2), rfl, .inr ⟨hne, types_err (hst.err hne)⟩, hw.hold 6 rfl, hw.pres⟩
    have hze : d.2.2.2 = 0 := by simpa using ‹(!decide (d.2.2.2 = 0)) = false›
    rw [hze] at hst
    refine cv_skip ?_
    try simp only [blockQ, thenQ]
    refine hK _ _ ?_
    clear hK K
    refine cv_region_q rfl ?_
    simp -implicitDefEqProofs (disch := first | omega | decide) only [seval, -Int.reducePow, -Nat.reducePow, cC, pv, binv, sMRm1, undef, g1, g2]
    intro b29 hb29 h29
    refine appV_at 4 tap27 rfl (fun w hw => src_blk (size := 2) (.head _) rfl hw) rfl (by omega) (by omega) ?_
    intro A7 c7 hl7 hr7
    simp -implicitDefEqProofs (disch := first | omega | decide) only [seval, -Int.reducePow, -Nat.reducePow, cC, pv, binv, sMRm1, undef, g1, g2]
    refine hK _ _ ?_
    clear hK K
    refine cv_gen fun G3 hG => ?_
    have g3_0 := congrFun hG 0
    have g3_2 := congrFun hG 2
    have g3_3 := congrFun hG 3
    have g3_8 := congrFun hG 8
    have g3_9 := congrFun hG 9
    clear hG
    try simp -implicitDefEqProofs (disch := first | omega | decide) only [seval, -Int.reducePow, -Nat.reducePow, cC, pv, binv, sMRm1, undef, g1, g2] at g3_0 g3_2 g3_3 g3_8 g3_9
    have g3 := And.intro g3_0 (And.intro g3_2 (And.intro g3_3 (And.intro g3_8 g3_9)))
    refine cv_snap [0, 5, 6, 7] (by decide) fun v' f' hv' hf' => ?_
    simp only [pickL, nth]
    have k4 := hv'.footK hf' (k := 3) rfl (by decide) (by simp [pickL, nth, Res.foot])
    obtain ⟨k1, -⟩ := hv'.snapK hf' 4 rfl (by decide) (by simp [pickL, nth, Res.foot])
    have k3 := hv'.footK hf' (k := 4) rfl (by decide) (by simp [pickL, nth, Res.foot])
    simp only [snap_foot] at k3
    have hty' : ∀ t ∈ ts ++ [⟨d.1, A5, n5, c5, d.2.1⟩], Sd v' (fun y => y ∈ f') 2 t.A t.n t.c (cl fdc t.fs) := by
      intro t ht
      rcases List.mem_append.1 ht with ht | ht
      · exact (hty t ht).same (fun y hy => k1 y (.inl hy)) k3
      · obtain rfl : t = ⟨d.1, A5, n5, c5, d.2.1⟩ := by simpa using ht
        exact Sd.of_own (hv'.holds _ (.tail _ (.tail _ (.tail _ (.head _))))) fun g hg => k4 g (by simpa [Res.foot] using hg)
    clear k4 k1 k3 hv' hf'
    refine cv_region_then rfl ?_
    simp -implicitDefEqProofs (disch := first | omega | decide) only [seval, -Int.reducePow, -Nat.reducePow, cC, pv, binv, sMRm1, undef, wrap_in, g1, g2, g3]
    refine ⟨⟨j + 1, A7, c7, ts ++ [⟨d.1, A5, n5, c5, d.2.1⟩], sbase c' d.2.2.1 1 A', n' - d.2.2.1, c' - d.2.2.1, l'.drop d.2.2.1, 0, v', f', ?_⟩, ?_⟩
    · simp -implicitDefEqProofs (disch := first | omega | decide) only [seval, -Int.reducePow, -Nat.reducePow, cC, pv, binv, sMRm1, undef, Int.natCast_add, cl_snoc, tyc, hze, g1, g2, g3]
      refine ⟨hL'.drop hdl, ?_, hty'⟩
      rw [List.map_append]
      exact hst
    · simp only [intOf]; omega
  refine cv_exit ?_
  simp only [blockQ, thenQ, if_true, ite_true]
  clear hK K
  refine hK _ _ ?_
  clear hK K
  have hj : ¬ j < v1 := by have := of_decide_eq_false hc; omega
  have ho := hS'.fin (.inl hj)
  have hj32 := hS'.1
  obtain ⟨v2, A2, n2, c2, l2, e2, s2, L2⟩ := hL'.num e' 32 (by omega)
  have hS2 : Lc fnX (decX l) ((), ts.map tyD) v2 0 [] l2 e2 := s2.start ho
  have hv2 := s2.le
  refine cv_gen fun G4 hG => ?_
  have g4_0 := congrFun hG 0
  have g4_2 := congrFun hG 2
  have g4_3 := congrFun hG 3
  clear hG
  try simp -implicitDefEqProofs (disch := first | omega | decide) only [seval, -Int.reducePow, -Nat.reducePow, cC, pv, binv, sMRm1, undef, g1, g2] at g4_0 g4_2 g4_3
  have g4 := And.intro g4_0 (And.intro g4_2 g4_3)
  refine cv_len 1 rfl fun hl6 => ?_
  refine cv_seq_k fun K hK => ?_
  refine cv_seq_k fun K hK => ?_
  refine cv_region_then rfl ?_
  simp -implicitDefEqProofs (disch := first | omega | decide) only [seval, -Int.reducePow, -Nat.reducePow, cC, pv, binv, sMRm1, undef, g1, g2, g4]
  refine callV_mod1 4 (fun w hw => mnum_any s2 (hw.hold 4 rfl) (hL'.at hw)) rfl ?_
  try simp -implicitDefEqProofs (disch := first | omega | decide) only [seval, -Int.reducePow, -Nat.reducePow, cC, pv, binv, sMRm1, undef, g1, g2, g4]
  refine hK _ _ ?_
  clear hK K
  refine cv_gen fun G5 hG => ?_
  have g5_0 := congrFun hG 0
  have g5_2 := congrFun hG 2
  have g5_3 := congrFun hG 3
  have g5_34 := congrFun hG 34
  have g5_35 := congrFun hG 35
  clear hG
  try simp -implicitDefEqProofs (disch := first | omega | decide) only [seval, -Int.reducePow, -Nat.reducePow, cC, pv, binv, sMRm1, undef, g1, g2, g4] at g5_0 g5_2 g5_3 g5_34 g5_35
  have g5 := And.intro g5_0 (And.intro g5_2 (And.intro g5_3 (And.intro g5_34 g5_35)))
  refine cv_block ?_
  refine cv_snap [2, 3, 4] (by decide) fun v5 f5 hv5 hf5 => ?_
  simp only [pickL, nth]
  have k4 := hv5.footK hf5 (k := 1) rfl (by decide) (by simp [pickL, nth, Res.foot])
  obtain ⟨k1, -⟩ := hv5.snapK hf5 0 rfl (by decide) (by simp [pickL, nth, Res.foot])
  have k3 := hv5.footK hf5 (k := 0) rfl (by decide) (by simp [pickL, nth, Res.foot])
  simp only [snap_foot] at k3
  have hT5 : Sd v5 (fun y => y ∈ f5) 2 A6 j c6 (cl tyc ts) := Sd.of_own (hv5.holds _ (.tail _ (.head _))) fun g hg => k4 g (by simpa [Res.foot] using hg)
  have hty5 : ∀ t ∈ ts, Sd v5 (fun y => y ∈ f5) 2 t.A t.n t.c (cl fdc t.fs) := fun t ht => (hty t ht).same (fun y hy => k1 y (.inl hy)) k3
  clear k4 k1 k3 hv5 hf5 hty
  refine cv_nil 42 4 ?_
  refine cv_pick [1, 0, 2, 3, 4] (by decide) ?_
  simp only [pickL, nth]
  refine cv_loop (fun F' L' => ∃ (i : Nat) (A7 : Option Addr) (c7 : Nat) (gs : List FnR) (A' : Option Addr) (n' c' : Nat) (l' : List Nat) (e' : Int) (v : World) (f : List Nat), F' 0 = G5 0 ∧ F' 2 = G5 2 ∧ F' 3 = G5 3 ∧ F' 34 = G5 34 ∧ F' 35 = .int .i64 (i : Int) ∧ L' = [snap [r] W v f, .row (.slice A7 i c7) 42 4 i (cl fnc gs), .blk b3 30 [.slice A6 j c6, .slice A7 i c7], .blk b2 30 [.slice none 0 0, .slice none 0 0], mrB r A' n' c' e'] ∧ Lt W r A' n' c' l' ∧ (∃ qs, Lc fnX (decX l) ((), ts.map tyD) v2 i qs l' e' ∧ gs.map fnD = qs.map qD) ∧ Sd v (fun y => y ∈ f) 2 A6 j c6 (cl tyc ts) ∧ (∀ t ∈ ts, Sd v (fun y => y ∈ f) 2 t.A t.n t.c (cl fdc t.fs)) ∧ (∀ g ∈ gs, Sd v (fun y => y ∈ f) 2 g.A g.n g.c (cl insc g.code) ∧ ∀ x ∈ g.code, x.arg < 18446744073709551616) ∧ (i < v2 → e' = 0)) (fun F' L' => 100 - (intOf (F' 35)).toNat) ?_ ?_
  · refine ⟨0, none, 0, [], A2, n2, c2, l2, e2, v5, f5, ?_⟩
    simp -implicitDefEqProofs (disch := first | omega | decide) only [seval, -Int.reducePow, -Nat.reducePow, cC, pv, binv, sMRm1, undef, g1, g2, g5]
    refine ⟨rfl, L2, ⟨[], hS2, rfl⟩, hT5, hty5, by simp, fun h => ?_⟩
    by_cases h0 : e2 = 0
    · exact h0
    · have := s2.err h0
      omega
  clear hT5 hty5 hS2 ho hL' hS'
  intro G6 L' hI
  obtain ⟨i, A7, c7, gs, A', n', c', l', e', v, f, q0, q2, q3, q34, q35, rfl, ⟨hL', ⟨qs, hS', hqs⟩, hT, hty, hfn, he'⟩⟩ := hI
  have g6_0 := q0.trans g5_0
  have g6_2 := q2.trans g5_2
  have g6_3 := q3.trans g5_3
  have g6_34 := q34.trans g5_34
  have g6_35 := q35
  clear q0 q2 q3 q34 q35
  have g6 := And.intro g6_0 (And.intro g6_2 (And.intro g6_3 (And.intro g6_34 g6_35)))
  refine cv_seq_k fun K hK => ?_
  refine cv_region_then rfl ?_
  simp -implicitDefEqProofs (disch := first | omega | decide) only [seval, -Int.reducePow, -Nat.reducePow, cC, pv, binv, sMRm1, undef, g1, g2, g5, g6]
  refine hK _ _ ?_
  clear hK K
  refine cv_seq_k fun K hK => ?_
  refine cv_cond ?_
  simp -implicitDefEqProofs (disch := first | omega | decide) only [seval, -Int.reducePow, -Nat.reducePow, cC, pv, binv, sMRm1, undef, g1, g2, g5, g6]
  refine ⟨fun hc => ?_, fun hc => ?_⟩
  · refine cv_skip ?_
    try simp only [blockQ, thenQ]
    have hj : i < v2 := by have := of_decide_eq_true hc; omega
    have h0 := he' hj
    subst h0
    refine hK _ _ ?_
    clear hK K
    refine cv_seq_k fun K hK => ?_
    refine cv_block ?_
    refine cv_seq_k fun K hK => ?_
    refine cv_draw_of (pickL [2] _) (fun w hw => hw.pick (by decide)) (by simp only [pickL, nth, suf_cons, suf_nil, List.mem_cons, true_or, or_true, and_true, eq_self]) [(true, 0), (true, 1), (true, 2), (false, 3), (false, 4), (false, 5), (true, 6), (false, 7)] [7] mixA rfl (by kernel_rfl) (by kernel_rfl) rfl rfl ?_
    simp -implicitDefEqProofs (disch := first | omega | decide) only [seval, -Int.reducePow, -Nat.reducePow, cC, pv, binv, sMRm1, undef, g1, g2, g5, g6]
    refine callV_nestM 4 (fun i : FnR × Option Addr × Nat × Nat × List Nat × Int => fnV i.1) (fnΦ r A' n' c' l') (fun i => mrC i.2.1 i.2.2.1 i.2.2.2.1 i.2.2.2.2.2) rfl (fun w hw => mfunc_any r A' n' c' l' w (hw.hold 4 rfl) (hL'.at hw)) ?_
    rintro ⟨g, A8, n8, c8, l8, e8⟩ w0 w1 f1 hw0 hw1 ⟨hsub, hΦ⟩ hNw
    have hL8 := hsub W hL'
    simp only at hL8 hΦ
    simp -implicitDefEqProofs (disch := first | omega | decide) only [seval, -Int.reducePow, -Nat.reducePow, cC, pv, binv, sMRm1, undef, fnV, g1, g2, g5, g6]
    intro b41 hb41 h41
    refine appV_at 3 tap28 rfl (fun w hw => src_blk (size := 4) (.head _) rfl hw) rfl (by omega) (by omega) ?_
    intro A9 c9 hl9 hr9
    simp -implicitDefEqProofs (disch := first | omega | decide) only [seval, -Int.reducePow, -Nat.reducePow, cC, pv, binv, sMRm1, undef, g1, g2, g5, g6]
    refine hK _ _ ?_
    clear hK K
    refine cv_pick [0, 2, 3, 4, 5, 6] (by decide) ?_
    simp only [pickL, nth]
    refine cv_seq_k fun K hK => ?_
    refine cv_region_then rfl ?_
    simp -implicitDefEqProofs (disch := first | omega | decide) only [seval, -Int.reducePow, -Nat.reducePow, cC, pv, binv, sMRm1, undef, g1, g2, g5, g6]
    refine hK _ _ ?_
    clear hK K
    refine cv_cond ?_
    simp -implicitDefEqProofs (disch := first | omega | decide) only [seval, -Int.reducePow, -Nat.reducePow, cC, pv, binv, sMRm1, undef, g1, g2, g5, g6]
    refine ⟨fun hc => ?_, fun hc => ?_⟩
    · have hne : ¬ e8 = 0 := by simpa using ‹(!decide (e8 = 0)) = true›
      have hx : fnX l' = .error e8 := by
        rcases hΦ with h | h
        · exact absurd h.1 hne
        · exact h.2
      have hst := hS'.step (l' := l') (e' := e8) hj (show Out (fnX l') (((((), 0), 0), 0), []) l' e8 from .inr ⟨hne, hx⟩)
      refine cv_seq_k fun K hK => ?_
      refine cv_region_then rfl ?_
      simp -implicitDefEqProofs (disch := first | omega | decide) only [seval, -Int.reducePow, -Nat.reducePow, cC, pv, binv, sMRm1, undef, g1, g2, g5, g6]
      refine hK _ _ ?_
      clear hK K
      refine cv_ret ?_
      simp -implicitDefEqProofs (disch := first | omega | decide) only [seval, -Int.reducePow, -Nat.reducePow, cC, pv, binv, sMRm1, undef, retQ2, ressV, packV, g1, g2, g5, g6]
      intro w hw
      exact ⟨(zMod, A8, n8, c8, e8), rfl, .inr ⟨hne, decL_err (hst.err hne)⟩, hw.hold 5 rfl, hw.pres⟩
    have hze : e8 = 0 := by simpa using ‹(!decide (e8 = 0)) = false›
    subst hze
    obtain ⟨⟨q, hq, hdq⟩, hcd, hag⟩ : (∃ q, fnX l' = .ok (q, l8) ∧ fnD g = qD q) ∧ Sd w1 (Nw w0 w1) 2 g.A g.n g.c (cl insc g.code) ∧ ∀ x ∈ g.code, x.arg < 18446744073709551616 := by
      rcases hΦ with h | h
      · exact h.2
      · exact absurd rfl h.1
    have hst := hS'.step hj (.inl ⟨rfl, hq⟩)
    refine cv_skip ?_
    try simp only [blockQ, thenQ]
    refine hK _ _ ?_
    clear hK K
    refine cv_gen fun G7 hG => ?_
    have g7_0 := congrFun hG 0
    have g7_2 := congrFun hG 2
    have g7_3 := congrFun hG 3
    have g7_34 := congrFun hG 34
    have g7_35 := congrFun hG 35
    clear hG
    try simp -implicitDefEqProofs (disch := first | omega | decide) only [seval, -Int.reducePow, -Nat.reducePow, cC, pv, binv, sMRm1, undef, g1, g2, g5, g6] at g7_0 g7_2 g7_3 g7_34 g7_35
    have g7 := And.intro g7_0 (And.intro g7_2 (And.intro g7_3 (And.intro g7_34 g7_35)))
    refine cv_snap [0, 3, 4, 5] (by decide) fun v' f' hv' hf' => ?_
    simp only [pickL, nth]
    obtain ⟨k1, -⟩ := hv'.snapK hf' 2 rfl (by decide) (by simp [pickL, nth, Res.foot])
    have k3 := hv'.footK hf' (k := 2) rfl (by decide) (by simp [pickL, nth, Res.foot])
    obtain ⟨m1, -⟩ := hv'.snapK hf' 1 rfl (by decide) (by simp [pickL, nth, Res.foot])
    have m3 := hv'.footK hf' (k := 1) rfl (by decide) (by simp [pickL, nth, Res.foot])
    simp only [snap_foot] at k3 m3
    have hT' : Sd v' (fun y => y ∈ f') 2 A6 j c6 (cl tyc ts) := hT.same (fun y hy => k1 y (.inl hy)) k3
    have hty' : ∀ t ∈ ts, Sd v' (fun y => y ∈ f') 2 t.A t.n t.c (cl fdc t.fs) := fun t ht => (hty t ht).same (fun y hy => k1 y (.inl hy)) k3
    have hfn' : ∀ h ∈ gs ++ [g], Sd v' (fun y => y ∈ f') 2 h.A h.n h.c (cl insc h.code) ∧ ∀ x ∈ h.code, x.arg < 18446744073709551616 := by
      intro h hh
      rcases List.mem_append.1 hh with hh | hh
      · exact ⟨(hfn h hh).1.same (fun y hy => k1 y (.inl hy)) k3, (hfn h hh).2⟩
      · obtain rfl : h = g := by simpa using hh
        exact ⟨hcd.same (fun y hy => m1 y (.inl (hNw y hy))) fun y hy => m3 y (hNw y hy), hag⟩
    clear k1 k3 m1 m3 hv' hf' hT hty hfn hcd
    refine cv_region_then rfl ?_
    simp -implicitDefEqProofs (disch := first | omega | decide) only [seval, -Int.reducePow, -Nat.reducePow, cC, pv, binv, sMRm1, undef, wrap_in, g1, g2, g5, g6, g7]
    refine ⟨⟨i + 1, A9, c9, gs ++ [g], A8, n8, c8, l8, 0, v', f', ?_⟩, ?_⟩
    · simp -implicitDefEqProofs (disch := first | omega | decide) only [seval, -Int.reducePow, -Nat.reducePow, cC, pv, binv, sMRm1, undef, Int.natCast_add, cl_snoc, fnc, g1, g2, g5, g6, g7]
      refine ⟨hL8, ⟨_, hst, by rw [List.map_append, List.map_append, hqs, List.map_singleton, List.map_singleton, hdq]⟩, hT', hty', hfn'⟩
    · simp only [intOf]; omega
  refine cv_exit ?_
  simp only [blockQ, thenQ, if_true, ite_true]
  clear hK K
  refine hK _ _ ?_
  clear hK K
  have hj : ¬ i < v2 := by have := of_decide_eq_false hc; omega
  have ho := hS'.fin (.inl hj)
  have hln := hL'.len
  refine cv_gen fun G8 hG => ?_
  have g8_0 := congrFun hG 0
  have g8_2 := congrFun hG 2
  have g8_3 := congrFun hG 3
  clear hG
  try simp -implicitDefEqProofs (disch := first | omega | decide) only [seval, -Int.reducePow, -Nat.reducePow, cC, pv, binv, sMRm1, undef, g1, g2, g5, g6] at g8_0 g8_2 g8_3
  have g8 := And.intro g8_0 (And.intro g8_2 g8_3)
  refine cv_seq_k fun K hK => ?_
  refine cv_cut (fun _ _ => True) (fun F' L' => ∃ (e9 : Int), F' 2 = G8 2 ∧ F' 3 = G8 3 ∧ L' = [snap [r] W v f, .row (.slice A7 i c7) 42 4 i (cl fnc gs), .blk b3 30 [.slice A6 j c6, .slice A7 i c7], .blk b2 30 [.slice none 0 0, .slice none 0 0], mrB r A' n' c' e9] ∧ e9 = if e' = 0 ∧ 0 < n' then 3 else e') ?_ ?_
  · refine cv_seq_k fun K hK => ?_
    refine cv_cut (fun _ _ => True) (fun F' L' => F' 0 = G8 0 ∧ F' 2 = G8 2 ∧ F' 3 = G8 3 ∧ F' 63 = .bool (decide (e' = 0 ∧ 0 < n')) ∧ L' = [snap [r] W v f, .row (.slice A7 i c7) 42 4 i (cl fnc gs), .blk b3 30 [.slice A6 j c6, .slice A7 i c7], .blk b2 30 [.slice none 0 0, .slice none 0 0], mrB r A' n' c' e']) ?_ ?_
    · refine cv_region_then rfl ?_
      simp -implicitDefEqProofs (disch := first | omega | decide) only [seval, -Int.reducePow, -Nat.reducePow, cC, pv, binv, sMRm1, undef, g1, g2, g5, g6, g8]
      repeat' ((first | refine vcg_cases (fun hg => ?_) (fun hg => ?_) | refine vdg_cases (fun hg => ?_) (fun hg => ?_)) <;> ((try simp only [Bool.not_eq_true', Bool.not_eq_false', decide_eq_true_eq, decide_eq_false_iff_not] at hg); (try simp -implicitDefEqProofs (disch := first | omega | decide) only [seval, -Int.reducePow, -Nat.reducePow, cC, pv, binv, sMRm1, undef, hg, g1, g2, g5, g6, g8])))
      all_goals (repeat' refine And.intro ?_ ?_)
      all_goals (first | with_reducible rfl | (refine congrArg Value.bool ?_; rw [Bool.eq_iff_iff]; (try simp only [decide_eq_true_eq, eq_self, true_and, and_true, false_and, and_false, true_or, or_true, false_or, or_false, not_true_eq_false, not_false_eq_true, true_iff, iff_true, false_iff, iff_false, Bool.false_eq_true, Bool.not_eq_true', Bool.not_eq_true, decide_eq_false_iff_not, Bool.and_eq_true, Bool.or_eq_true]) <;> omega) | (refine congrArg (Value.int _) ?_; omega) | omega)
    intro G9 L' _ hF
    obtain ⟨q0, q2, q3, q63, rfl⟩ := hF
    have g9_0 := q0.trans g8_0
    have g9_2 := q2.trans g8_2
    have g9_3 := q3.trans g8_3
    have g9_63 := q63
    clear q0 q2 q3 q63
    have g9 := And.intro g9_0 (And.intro g9_2 (And.intro g9_3 g9_63))
    refine hK _ _ ?_
    clear hK K
    refine cv_cond ?_
    simp -implicitDefEqProofs (disch := first | omega | decide) only [seval, -Int.reducePow, -Nat.reducePow, cC, pv, binv, sMRm1, undef, g1, g2, g5, g6, g8, g9]
    refine ⟨fun hc => ?_, fun hc => ?_⟩
    · have h9 := of_decide_eq_true ‹_›
      refine cv_region_q rfl ?_
      simp -implicitDefEqProofs (disch := first | omega | decide) only [seval, -Int.reducePow, -Nat.reducePow, cC, pv, binv, sMRm1, undef, g1, g2, g5, g6, g8, g9]
      exact ⟨_, rfl, by rw [if_pos h9]⟩
    · have h9 := of_decide_eq_false ‹_›
      refine cv_skip ?_
      try simp only [blockQ, thenQ]
      simp -implicitDefEqProofs (disch := first | omega | decide) only [seval, -Int.reducePow, -Nat.reducePow, cC, pv, binv, sMRm1, undef, g1, g2, g5, g6, g8, g9]
      exact ⟨_, rfl, by rw [if_neg h9]⟩
  intro G10 L' _ hF
  obtain ⟨e9, q2, q3, rfl, he9⟩ := hF
  have g10_2 := q2.trans g8_2
  have g10_3 := q3.trans g8_3
  clear q2 q3
  have g10 := And.intro g10_2 g10_3
  refine hK _ _ ?_
  clear hK K
  refine cv_seq_k fun K hK => ?_
  refine cv_region_then rfl ?_
  simp -implicitDefEqProofs (disch := first | omega | decide) only [seval, -Int.reducePow, -Nat.reducePow, cC, pv, binv, sMRm1, undef, g1, g2, g5, g6, g10]
  refine hK _ _ ?_
  clear hK K
  refine cv_ret ?_
  simp -implicitDefEqProofs (disch := first | omega | decide) only [seval, -Int.reducePow, -Nat.reducePow, cC, pv, binv, sMRm1, undef, retQ2, ressV, packV, g1, g2, g5, g6, g10]
  intro w hw
  refine ⟨(⟨A6, j, c6, ts, A7, i, c7, gs⟩, A', n', c', e9), rfl, ?_, hw.hold 4 rfl, hw.pres⟩
  rcases ho with ⟨h0, ho⟩ | ⟨h0, ho⟩
  · by_cases h1 : 0 < n'
    · rw [if_pos ⟨h0, h1⟩] at he9
      refine .inr ⟨by dsimp only; omega, ?_⟩
      dsimp only
      unfold decL
      rw [ho]
      dsimp only
      rw [if_neg (fun h => by rw [h] at hln; simp at hln; omega), he9]
    · rw [if_neg (fun h => h1 h.2)] at he9
      have hl0 : l' = [] := List.length_eq_zero_iff.1 (by omega)
      have hnew := hw.snapNew 0 rfl fun m hm => ⟨4, _, rfl, by simpa [Res.foot] using hm, by omega⟩
      have hs := hw.snap_same (.head _)
      refine .inl ⟨by dsimp only; omega, ⟨_, by unfold decL; rw [ho]; dsimp only; rw [if_pos hl0], ?_⟩, hT.same (fun y hy => hs y (.inl hy)) hnew, fun t ht => (hty t ht).same (fun y hy => hs y (.inl hy)) hnew, Sd.ownNew (hw.tail.rowNew (by simp [Res.foot])), fun g hg => (hfn g hg).1.same (fun y hy => hs y (.inl hy)) hnew, fun g hg => (hfn g hg).2⟩
      unfold datM datQ
      rw [hqs]
      rfl
  · rw [if_neg (fun h => h0 h.1)] at he9
    refine .inr ⟨by dsimp only; omega, ?_⟩
    dsimp only
    rw [he9]
    exact decL_err ho
end Go.Proofs.YtlbmnioibiomfaaGreat
/- Whether a module is verified depends on what it says alone: plain. -/
namespace Go.Proofs.YtlbmnioibiomfaaGreat
set_option linter.unusedVariables false
set_option linter.unusedSimpArgs false
section
variable {gs hs : List FnR} {x y : FnR}
theorem get_dat (h : gs.map fnD = hs.map fnD) (k : Nat) : gs[k]?.map fnD = hs[k]?.map fnD := by
  rw [← List.getElem?_map, ← List.getElem?_map, h]
theorem fxP_dat (h : gs.map fnD = hs.map fnD) (i : Ins) : fxP gs i = fxP hs i := by
  have := get_dat h i.arg
  have e1 : gs[i.arg]?.map FnR.p = hs[i.arg]?.map FnR.p := by
    have := congrArg (Option.map (·.1)) this
    rw [Option.map_map, Option.map_map] at this
    exact this
  have e2 : gs[i.arg]?.map FnR.r = hs[i.arg]?.map FnR.r := by
    have := congrArg (Option.map (·.2.1)) this
    rw [Option.map_map, Option.map_map] at this
    exact this
  unfold fxP
  rw [e1, e2]
theorem stepF_dat (h : gs.map fnD = hs.map fnD) (hx : fnD x = fnD y) (l : List Int) (k : Nat) (i : Ins) : stepF gs x l k i = stepF hs y l k i := by
  unfold stepF
  rw [fxP_dat h, (fnD_eq hx).2.1]
theorem insAt_dat (hx : fnD x = fnD y) (k : Nat) : insAt x k = insAt y k := by
  unfold insAt
  rw [(fnD_eq hx).2.2.2]
theorem runF_dat (h : gs.map fnD = hs.map fnD) (hx : fnD x = fnD y) : ∀ (q : Nat) (l : List Int) (d : List Bool), runF gs x q l d = runF hs y q l d
  | 0, l, d => rfl
  | q + 1, l, d => by
    unfold runF
    cases leastB l d with
    | none => rfl
    | some k =>
      dsimp only
      rw [stepF_dat h hx, insAt_dat hx]
      cases stepF hs y l k (insAt y k) with
      | none => rfl
      | some l' => exact runF_dat h hx q l' _
theorem hgtR_dat (h : gs.map fnD = hs.map fnD) (hx : fnD x = fnD y) : hgtR gs x = hgtR hs y := by
  unfold hgtR
  rw [runF_dat h hx, (fnD_eq hx).2.2.2]
theorem stE_dat (hx : fnD x = fnD y) (gl k : Nat) (i : Ins) : stE gl x k i = stE gl y k i := by
  obtain ⟨h1, h2, h3, h4⟩ := fnD_eq hx
  unfold stE
  rw [h1, h3, h4]
theorem firstS_dat (hx : fnD x = fnD y) (gl : Nat) : ∀ (k : Nat) (l : List Ins), firstS gl x k l = firstS gl y k l
  | _, [] => rfl
  | k, i :: r => by rw [firstS, firstS, stE_dat hx, firstS_dat hx gl (k + 1) r]
theorem stX_dat (hx : fnD x = fnD y) (gl : Nat) (f : Int) : stX gl f x = stX gl f y := by
  unfold stX
  rw [firstS_dat hx, (fnD_eq hx).2.2.2]
end
section
variable {m k : ModR}
theorem datM_gs (h : datM m = datM k) : m.gs.map fnD = k.gs.map fnD := congrArg Prod.snd h
theorem fnAt_dat (h : datM m = datM k) (f : Int) : (fnAt m f).map fnD = (fnAt k f).map fnD := by
  unfold fnAt
  split
  · rfl
  · exact get_dat (datM_gs h) _
theorem stF_dat (h : datM m = datM k) (f : Int) : stF m f = stF k f := by
  have hf := fnAt_dat h f
  unfold stF
  rw [chkM_dat h, len_dat (datM_gs h)]
  cases h1 : fnAt m f <;> cases h2 : fnAt k f <;> rw [h1, h2] at hf
  · cases hf
  · cases hf
  · dsimp only
    rw [stX_dat (by simpa using hf)]
theorem hgtF_dat (h : datM m = datM k) (f : Int) : hgtF m f = hgtF k f := by
  have hf := fnAt_dat h f
  unfold hgtF
  rw [stF_dat h]
  cases h1 : fnAt m f <;> cases h2 : fnAt k f <;> rw [h1, h2] at hf
  · cases hf
  · cases hf
  · dsimp only
    rw [hgtR_dat (datM_gs h) (by simpa using hf)]
theorem verG_dat (h : datM m = datM k) : ∀ q f : Nat, verG m q f = verG k q f
  | 0, f => rfl
  | q + 1, f => by
    unfold verG
    rw [hgtF_dat h, verG_dat h q (f + 1)]
theorem verM_dat (h : datM m = datM k) : verM m = verM k := by
  unfold verM
  rw [chkM_dat h, len_dat (datM_gs h), verG_dat h]
end
/-- What Load hands back. -/
def ldP (l : List Nat) (m : ModR) (f : Flt) : Prop :=
  (∃ e, ¬ e = 0 ∧ decM l = .error e ∧ m = zMod ∧ f = (e, -1, -1)) ∨ (∃ k : ModR, decM l = .ok (datM k) ∧ ((verM k).1 = 0 ∧ m = k ∧ f = fineF ∨ ¬ (verM k).1 = 0 ∧ m = zMod ∧ f = verM k))
theorem ldP_same {l : List Nat} {m k : ModR} {f g : Flt} (h1 : ldP l m f) (h2 : ldP l k g) : datM m = datM k ∧ f = g := by
  rcases h1 with ⟨e, he, hd, rfl, rfl⟩ | ⟨a, hd, h1⟩
  · rcases h2 with ⟨e', he', hd', rfl, rfl⟩ | ⟨a', hd', -⟩
    · rw [hd] at hd'
      injection hd' with hd'
      subst hd'
      exact ⟨rfl, rfl⟩
    · rw [hd] at hd'
      cases hd'
  · rcases h2 with ⟨e', he', hd', -⟩ | ⟨a', hd', h2⟩
    · rw [hd] at hd'
      cases hd'
    · rw [hd] at hd'
      injection hd' with hd'
      have hv := verM_dat hd'
      rcases h1 with ⟨h0, rfl, rfl⟩ | ⟨h0, rfl, rfl⟩
      · rcases h2 with ⟨h3, rfl, rfl⟩ | ⟨h3, rfl, rfl⟩
        · exact ⟨hd', rfl⟩
        · rw [hv] at h0; exact absurd h0 h3
      · rcases h2 with ⟨h3, rfl, rfl⟩ | ⟨h3, rfl, rfl⟩
        · rw [← hv] at h3; exact absurd h3 h0
        · exact ⟨rfl, hv⟩
end Go.Proofs.YtlbmnioibiomfaaGreat
/- The reference's Heights. -/
namespace Go.Proofs.YtlbmnioibiomfaaGreat
open Go.RowKit Go.Shelf
set_option linter.unusedVariables false
set_option linter.unusedSimpArgs false
set_option maxRecDepth 100000
section
variable {W w : World} {L : List Res} {n c : Nat} {is : List Ins}
theorem Sl.inop {b off k : Nat} {x : Ins} (h : Sl W W.heap.size 2 (some ⟨b, off, none⟩) n c (cl insc is)) (hx : is[k]? = some x) : LD Tryz.prog [] W L 3 ⟨b, off + k * 2, none⟩ (.int .i64 x.op) :=
  h.ld1 (m := 1) (i := k * 2) (by kernel_rfl) (cl_get (j := 0) insc_len hx rfl)
end
def h1F (n j : Nat) : List Int := 0 :: (List.replicate (j - 1) (-1) ++ List.replicate (n - j) 0)
theorem h1F_len {n j : Nat} (h1 : 1 ≤ j) (h : j ≤ n) : (h1F n j).length = n := by simp [h1F]; omega
theorem h1F_start {n : Nat} (h : 0 < n) : List.replicate n 0 = h1F n 1 := by
  obtain ⟨m, rfl⟩ : ∃ m, n = m + 1 := ⟨n - 1, by omega⟩
  simp [h1F, List.replicate_succ]
theorem h1F_set {n j : Nat} (h1 : 1 ≤ j) (h : j < n) : (h1F n j).set j (-1) = h1F n (j + 1) := by
  obtain ⟨i, rfl⟩ : ∃ i, j = i + 1 := ⟨j - 1, by omega⟩
  unfold h1F
  rw [List.set_cons_succ, List.set_append_right _ _ (by simp)]
  have e : i - (List.replicate (i + 1 - 1) (-1 : Int)).length = 0 := by simp
  rw [e, show n - (i + 1) = n - (i + 1 + 1) + 1 by omega, List.replicate_succ, List.set_cons_zero, show i + 1 + 1 - 1 = i + 1 by omega, List.replicate_succ', show i + 1 - 1 = i by omega]
  simp
theorem h1F_end {n : Nat} (h : 0 < n) : h1F n n = h0F n := by
  unfold h0F h1F
  obtain ⟨m, rfl⟩ : ∃ m, n = m + 1 := ⟨n - 1, by omega⟩
  simp [List.replicate_succ]
theorem stE_host {gl : Nat} {x : FnR} {k : Nat} {i : Ins} (h : stE gl x k i = 0) (ho : i.op = 23) : i.arg ≤ 11 := by
  unfold stE hostP at h
  split at h
  · cases h
  split at h
  · cases h
  split at h
  · cases h
  split at h
  · cases h
  · omega
set_option maxRecDepth 100000 in
theorem sFlRHgt1 : type_of% (And.intro (And.intro (And.intro @fBox.eq_1 (And.intro @tBox.eq_1 @iBox.eq_1)) (And.intro (And.intro @mBox.eq_1 @gBox.eq_1) (And.intro @flBox.eq_1 @fdV.eq_1))) (And.intro (And.intro (And.intro @tyV.eq_1 @insV.eq_1) (And.intro @fnV.eq_1 @modV.eq_1)) (And.intro (And.intro @fltV.eq_1 @fineF.eq_1) (And.intro @Nat.mul_one @wrap_in)))) := (And.intro (And.intro (And.intro @fBox.eq_1 (And.intro @tBox.eq_1 @iBox.eq_1)) (And.intro (And.intro @mBox.eq_1 @gBox.eq_1) (And.intro @flBox.eq_1 @fdV.eq_1))) (And.intro (And.intro (And.intro @tyV.eq_1 @insV.eq_1) (And.intro @fnV.eq_1 @modV.eq_1)) (And.intro (And.intro @fltV.eq_1 @fineF.eq_1) (And.intro @Nat.mul_one @wrap_in))))
set_option maxHeartbeats 4000000 in
theorem rHeights_any (m : ModR) (f : Int) (W : World) (hM : Mod W W.heap.size m) : Calls Tryz.prog 56 #[modV m, .int .i64 f] W (rowP 3 1 (fun v => .tuple #[v, fltV (hgtF m f).2]) (i64z (hgtF m f).1) W) := by
  have hMat := fun {L : List Res} {w : World} (hw : St [] W L w) => hM.at hw
  have hfn := hM.fn
  have hG := hM.gs
  have hlg := hM.glen
  obtain ⟨q, hq⟩ : ∃ q, stF m f = q := ⟨_, rfl⟩
  have hno := fun h => hgtF_no (m := m) (f := f) h
  obtain ⟨TA, tn, tc, ts, FA, fn, fc, gs⟩ := m
  dsimp only at *
  rw [hq] at hno
  refine calls_cv2 (M := []) (n := 165) [.tmp 4, .cell 5 45] rfl Tryz.func56 rfl rfl (Nat.le_of_ble_eq_true rfl) (St.nil _ _) ?_
  refine cv_seq_k fun K hK => ?_
  refine cv_region_then rfl ?_
  simp -implicitDefEqProofs (disch := first | omega | decide) only [seval, -Int.reducePow, -Nat.reducePow, cC, pv, binv, sFlRHgt1, undef]
  intro b2 hb2 b5 hb5 hf5
  refine hK _ _ ?_
  clear hK K
  refine cv_seq_k fun K hK => ?_
  refine cv_region_then rfl ?_
  simp -implicitDefEqProofs (disch := first | omega | decide) only [seval, -Int.reducePow, -Nat.reducePow, cC, pv, binv, sFlRHgt1, undef]
  refine callV_ret (fun w hw => rStatic_any ⟨TA, tn, tc, ts, FA, fn, fc, gs⟩ f w (hMat hw)) ?_
  try simp -implicitDefEqProofs (disch := first | omega | decide) only [seval, -Int.reducePow, -Nat.reducePow, cC, pv, binv, sFlRHgt1, undef, hq]
  intro b6 hb6 hf6
  refine hK _ _ ?_
  clear hK K
  refine cv_gen fun G1 hG => ?_
  have g1_1 := congrFun hG 1
  have g1_2 := congrFun hG 2
  have g1_5 := congrFun hG 5
  have g1_6 := congrFun hG 6
  clear hG
  try simp -implicitDefEqProofs (disch := first | omega | decide) only [seval, -Int.reducePow, -Nat.reducePow, cC, pv, binv, sFlRHgt1, undef] at g1_1 g1_2 g1_5 g1_6
  have g1 := And.intro g1_1 (And.intro g1_2 (And.intro g1_5 g1_6))
  refine cv_seq_k fun K hK => ?_
  refine cv_seq_k fun K hK => ?_
  refine cv_region_then rfl ?_
  simp -implicitDefEqProofs (disch := first | omega | decide) only [seval, -Int.reducePow, -Nat.reducePow, cC, pv, binv, sFlRHgt1, undef, g1]
  refine hK _ _ ?_
  clear hK K
  refine cv_cond ?_
  simp -implicitDefEqProofs (disch := first | omega | decide) only [seval, -Int.reducePow, -Nat.reducePow, cC, pv, binv, sFlRHgt1, undef, g1]
  refine ⟨fun hc => ?_, fun hc => ?_⟩
  · have hz : ¬ q.1 = 0 := nd_true ‹(!decide (q.1 = 0)) = true›
    refine cv_seq_k fun K hK => ?_
    refine cv_draw [(true, 0), (true, 1), (false, 2)] [2] mixA rfl (by kernel_rfl) (by kernel_rfl) rfl rfl ?_
    simp -implicitDefEqProofs (disch := first | omega | decide) only [seval, -Int.reducePow, -Nat.reducePow, cC, pv, binv, sFlRHgt1, undef, g1]
    refine hK _ _ ?_
    clear hK K
    refine cv_ret ?_
    simp -implicitDefEqProofs (disch := first | omega | decide) only [seval, -Int.reducePow, -Nat.reducePow, cC, pv, binv, sFlRHgt1, undef, retQ2, ressV, packV, g1]
    intro w hw
    rw [hno hz]
    exact rowP_nil hw
  have hz : q.1 = 0 := Decidable.not_not.1 (nd_false ‹(!decide (q.1 = 0)) = false›)
  obtain ⟨h0, k, x, rfl, hk, hst⟩ := stF_ok (by rw [hq]; exact hz)
  have hyes := hgtF_yes (by rw [hq]; exact hz) hk
  dsimp only at hk hst hyes
  obtain ⟨-, -, -, hg32, hck⟩ := chkM_ok h0
  obtain ⟨-, -, -, -, -, -, hc1, h1024, -⟩ := fnErr_ok (hck k x hk).1
  have hX := hfn x (List.mem_of_getElem? hk)
  have hxl : x.code.length = x.n := cl_row insc_len (by omega) hX.len
  have hkf : k < fn := by have := (List.getElem?_eq_some_iff.1 hk).1; omega
  have hnx := nx_in hst
  have hfx := fx_bd (gs := gs) (fun g hg => by
    obtain ⟨i, hi⟩ := List.getElem?_of_mem hg
    obtain ⟨g1, g2, g3, g4, g5, g6, -⟩ := fnErr_ok (hck i g hi).1
    omega)
  obtain ⟨b9, of9, rfl, hb9, -⟩ := hG.cells (by omega)
  refine cv_skip ?_
  try simp only [blockQ, thenQ]
  refine hK _ _ ?_
  clear hK K
  refine cv_seq_k fun K hK => ?_
  refine cv_region_then rfl ?_
  simp -implicitDefEqProofs (disch := first | omega | decide) only [seval, -Int.reducePow, -Nat.reducePow, cC, pv, binv, sFlRHgt1, undef, g1]
  refine ⟨_, hG.fnf hk, fun tok htok => ?_⟩
  subst htok
  simp -implicitDefEqProofs (disch := first | omega | decide) only [seval, -Int.reducePow, -Nat.reducePow, cC, pv, binv, sFlRHgt1, undef, g1]
  refine hK _ _ ?_
  clear hK K
  refine cv_gen fun G2 hG => ?_
  have g2_1 := congrFun hG 1
  have g2_2 := congrFun hG 2
  have g2_5 := congrFun hG 5
  have g2_7 := congrFun hG 7
  clear hG
  try simp -implicitDefEqProofs (disch := first | omega | decide) only [seval, -Int.reducePow, -Nat.reducePow, cC, pv, binv, sFlRHgt1, undef, g1] at g2_1 g2_2 g2_5 g2_7
  have g2 := And.intro g2_1 (And.intro g2_2 (And.intro g2_5 g2_7))
  refine cv_seq_k fun K hK => ?_
  refine cv_region_then rfl ?_
  simp -implicitDefEqProofs (disch := first | omega | decide) only [seval, -Int.reducePow, -Nat.reducePow, cC, pv, binv, sFlRHgt1, undef, g2]
  refine xv_make (u := .int .i64 0) tap52 rfl rfl rfl (by omega) (by omega) ?_
  intro b8 hb8 hf8
  simp -implicitDefEqProofs (disch := first | omega | decide) only [seval, -Int.reducePow, -Nat.reducePow, cC, pv, binv, sFlRHgt1, undef, g2]
  simp -implicitDefEqProofs (disch := first | omega | decide) only [seval, -Int.reducePow, -Nat.reducePow, cC, pv, binv, sFlRHgt1, undef, g2] at hf8
  refine hK _ _ ?_
  clear hK K
  refine cv_seq_k fun K hK => ?_
  refine cv_region_then rfl ?_
  simp -implicitDefEqProofs (disch := first | omega | decide) only [seval, -Int.reducePow, -Nat.reducePow, cC, pv, binv, sFlRHgt1, undef, g2]
  refine xv_make (u := .bool false) tapB rfl rfl rfl (by omega) (by omega) ?_
  intro b10 hb10 hf10
  simp -implicitDefEqProofs (disch := first | omega | decide) only [seval, -Int.reducePow, -Nat.reducePow, cC, pv, binv, sFlRHgt1, undef, g2]
  simp -implicitDefEqProofs (disch := first | omega | decide) only [seval, -Int.reducePow, -Nat.reducePow, cC, pv, binv, sFlRHgt1, undef, g2] at hf10
  rw [show List.replicate x.n (Value.bool false) = boz (List.replicate x.n false) by unfold boz; rw [List.map_replicate], show List.replicate x.n (Value.int .i64 0) = i64z (List.replicate x.n 0) by unfold i64z; rw [List.map_replicate]]
  refine hK _ _ ?_
  clear hK K
  refine cv_gen fun G3 hG => ?_
  have g3_1 := congrFun hG 1
  have g3_2 := congrFun hG 2
  have g3_5 := congrFun hG 5
  have g3_7 := congrFun hG 7
  have g3_8 := congrFun hG 8
  have g3_9 := congrFun hG 9
  clear hG
  try simp -implicitDefEqProofs (disch := first | omega | decide) only [seval, -Int.reducePow, -Nat.reducePow, cC, pv, binv, sFlRHgt1, undef, g2] at g3_1 g3_2 g3_5 g3_7 g3_8 g3_9
  have g3 := And.intro g3_1 (And.intro g3_2 (And.intro g3_5 (And.intro g3_7 (And.intro g3_8 g3_9))))
  refine cv_seq_k fun K hK => ?_
  refine cv_seq_k fun K hK => ?_
  refine cv_region_then rfl ?_
  simp -implicitDefEqProofs (disch := first | omega | decide) only [seval, -Int.reducePow, -Nat.reducePow, cC, pv, binv, sFlRHgt1, undef, g3]
  refine hK _ _ ?_
  clear hK K
  refine cv_block ?_
  refine cv_loop (fun F' L' => ∃ (j : Nat), F' 1 = G3 1 ∧ F' 2 = G3 2 ∧ F' 5 = G3 5 ∧ F' 7 = G3 7 ∧ F' 8 = G3 8 ∧ F' 9 = G3 9 ∧ F' 10 = .int .i64 (j : Int) ∧ L' = [.blk b10 4 (boz (List.replicate x.n false)), .blk b8 3 (i64z (h1F x.n j)), flBox b6 q.1 q.2.1 q.2.2, flBox b5 0 0 0, mBox b2 ⟨TA, tn, tc, ts, some ⟨b9, of9, none⟩, fn, fc, gs⟩] ∧ 1 ≤ j ∧ j ≤ x.n) (fun F' L' => 1100 - (intOf (F' 10)).toNat) ?_ ?_
  · refine ⟨1, ?_⟩
    simp -implicitDefEqProofs (disch := first | omega | decide) only [seval, -Int.reducePow, -Nat.reducePow, cC, pv, binv, sFlRHgt1, undef, g3]
    rw [h1F_start (by omega)]
    exact ⟨rfl, by omega⟩
  intro G4 L' hI
  obtain ⟨j, q1, q2, q5, q7, q8, q9, q10, rfl, ⟨hj1, hj⟩⟩ := hI
  have g4_1 := q1.trans g3_1
  have g4_2 := q2.trans g3_2
  have g4_5 := q5.trans g3_5
  have g4_7 := q7.trans g3_7
  have g4_8 := q8.trans g3_8
  have g4_9 := q9.trans g3_9
  have g4_10 := q10
  clear q1 q2 q5 q7 q8 q9 q10
  have g4 := And.intro g4_1 (And.intro g4_2 (And.intro g4_5 (And.intro g4_7 (And.intro g4_8 (And.intro g4_9 g4_10)))))
  refine cv_seq_k fun K hK => ?_
  refine cv_seq_k fun K hK => ?_
  refine cv_region_then rfl ?_
  simp -implicitDefEqProofs (disch := first | omega | decide) only [seval, -Int.reducePow, -Nat.reducePow, cC, pv, binv, sFlRHgt1, undef, g3, g4]
  refine hK _ _ ?_
  clear hK K
  refine cv_cond ?_
  simp -implicitDefEqProofs (disch := first | omega | decide) only [seval, -Int.reducePow, -Nat.reducePow, cC, pv, binv, sFlRHgt1, undef, g3, g4]
  refine ⟨fun hc => ?_, fun hc => ?_⟩
  · refine cv_skip ?_
    try simp only [blockQ, thenQ]
    have hlt : j < x.n := by have := of_decide_eq_true ‹decide ((j : Int) < (x.n : Int)) = true›; omega
    have hln := h1F_len hj1 hj
    have hst := z_set (h := h1F x.n j) (k := j) (-1) (by omega)
    rw [h1F_set hj1 hlt] at hst
    refine hK _ _ ?_
    clear hK K
    refine cv_seq_k fun K hK => ?_
    refine cv_block ?_
    refine cv_q ?_
    refine cv_region_then rfl ?_
    simp -implicitDefEqProofs (disch := first | omega | decide) only [seval, -Int.reducePow, -Nat.reducePow, cC, pv, binv, sFlRHgt1, undef, hst, z_len, hln, g3, g4]
    refine ⟨by omega, ?_⟩
    refine hK _ _ ?_
    clear hK K
    refine cv_region_then rfl ?_
    simp -implicitDefEqProofs (disch := first | omega | decide) only [seval, -Int.reducePow, -Nat.reducePow, cC, pv, binv, sFlRHgt1, undef, g3, g4]
    refine ⟨⟨j + 1, ?_⟩, ?_⟩
    · simp -implicitDefEqProofs (disch := first | omega | decide) only [seval, -Int.reducePow, -Nat.reducePow, cC, pv, binv, sFlRHgt1, undef, Int.natCast_add, g3, g4]
      omega
    · simp only [intOf]; omega
  refine cv_exit ?_
  simp only [blockQ, thenQ, if_true, ite_true]
  clear hK K
  refine hK _ _ ?_
  clear hK K
  have hje : j = x.n := by have := of_decide_eq_false ‹decide ((j : Int) < (x.n : Int)) = false›; omega
  rw [hje, h1F_end (by omega)]
  refine cv_gen fun G5 hG => ?_
  have g5_1 := congrFun hG 1
  have g5_2 := congrFun hG 2
  have g5_5 := congrFun hG 5
  have g5_7 := congrFun hG 7
  have g5_8 := congrFun hG 8
  have g5_9 := congrFun hG 9
  clear hG
  try simp -implicitDefEqProofs (disch := first | omega | decide) only [seval, -Int.reducePow, -Nat.reducePow, cC, pv, binv, sFlRHgt1, undef, g3, g4] at g5_1 g5_2 g5_5 g5_7 g5_8 g5_9
  have g5 := And.intro g5_1 (And.intro g5_2 (And.intro g5_5 (And.intro g5_7 (And.intro g5_8 g5_9))))
  refine cv_block ?_
  refine cv_loop (fun F' L' => ∃ (h : List Int) (d : List Bool) (fu : Nat), F' 1 = G5 1 ∧ F' 2 = G5 2 ∧ F' 5 = G5 5 ∧ F' 7 = G5 7 ∧ F' 8 = G5 8 ∧ F' 9 = G5 9 ∧ L' = [.blk b10 4 (boz d), .blk b8 3 (i64z h), flBox b6 q.1 q.2.1 q.2.2, flBox b5 0 0 0, mBox b2 ⟨TA, tn, tc, ts, some ⟨b9, of9, none⟩, fn, fc, gs⟩] ∧ RunOk gs x h d ∧ undone d ≤ fu ∧ hgtR gs x = runF gs x fu h d) (fun F' L' => undoneV L') ?_ ?_
  · refine ⟨h0F x.n, List.replicate x.n false, x.n, ?_⟩
    simp -implicitDefEqProofs (disch := first | omega | decide) only [seval, -Int.reducePow, -Nat.reducePow, cC, pv, binv, sFlRHgt1, undef, g3, g4, g5]
    rw [← hxl]
    exact ⟨run_zero (by omega), Nat.le_of_eq (undone_new _), rfl⟩
  intro G6 L' hI
  obtain ⟨h, d, fu, q1, q2, q5, q7, q8, q9, rfl, ⟨hrun, hfu, hrr⟩⟩ := hI
  have g6_1 := q1.trans g5_1
  have g6_2 := q2.trans g5_2
  have g6_5 := q5.trans g5_5
  have g6_7 := q7.trans g5_7
  have g6_8 := q8.trans g5_8
  have g6_9 := q9.trans g5_9
  clear q1 q2 q5 q7 q8 q9
  have g6 := And.intro g6_1 (And.intro g6_2 (And.intro g6_5 (And.intro g6_7 (And.intro g6_8 g6_9))))
  have hhl := hrun.hlen
  have hdl := hrun.dlen
  refine cv_block ?_
  refine cv_seq_k fun K hK => ?_
  refine cv_region_then rfl ?_
  simp -implicitDefEqProofs (disch := first | omega | decide) only [seval, -Int.reducePow, -Nat.reducePow, cC, pv, binv, sFlRHgt1, undef, g3, g4, g5, g6]
  refine hK _ _ ?_
  clear hK K
  refine cv_gen fun G7 hG => ?_
  have g7_1 := congrFun hG 1
  have g7_2 := congrFun hG 2
  have g7_5 := congrFun hG 5
  have g7_7 := congrFun hG 7
  have g7_8 := congrFun hG 8
  have g7_9 := congrFun hG 9
  have g7_11 := congrFun hG 11
  clear hG
  try simp -implicitDefEqProofs (disch := first | omega | decide) only [seval, -Int.reducePow, -Nat.reducePow, cC, pv, binv, sFlRHgt1, undef, g3, g4, g5, g6] at g7_1 g7_2 g7_5 g7_7 g7_8 g7_9 g7_11
  have g7 := And.intro g7_1 (And.intro g7_2 (And.intro g7_5 (And.intro g7_7 (And.intro g7_8 (And.intro g7_9 g7_11)))))
  refine cv_seq_k fun K hK => ?_
  refine cv_block ?_
  refine cv_loop (fun F' L' => ∃ (at' : Nat), F' 1 = G7 1 ∧ F' 2 = G7 2 ∧ F' 5 = G7 5 ∧ F' 7 = G7 7 ∧ F' 8 = G7 8 ∧ F' 9 = G7 9 ∧ F' 11 = .int .i64 (at' : Int) ∧ L' = [.blk b10 4 (boz d), .blk b8 3 (i64z h), flBox b6 q.1 q.2.1 q.2.2, flBox b5 0 0 0, mBox b2 ⟨TA, tn, tc, ts, some ⟨b9, of9, none⟩, fn, fc, gs⟩] ∧ at' ≤ x.n ∧ ∀ j, j < at' → openB h d j = false) (fun F' L' => 1100 - (intOf (F' 11)).toNat) ?_ ?_
  · refine ⟨0, ?_⟩
    simp -implicitDefEqProofs (disch := first | omega | decide) only [seval, -Int.reducePow, -Nat.reducePow, cC, pv, binv, sFlRHgt1, undef, g3, g4, g5, g6, g7]
    exact ⟨by omega, fun j hj => by omega⟩
  intro G8 L' hI
  obtain ⟨at', q1, q2, q5, q7, q8, q9, q11, rfl, ⟨hat, hop⟩⟩ := hI
  have g8_1 := q1.trans g7_1
  have g8_2 := q2.trans g7_2
  have g8_5 := q5.trans g7_5
  have g8_7 := q7.trans g7_7
  have g8_8 := q8.trans g7_8
  have g8_9 := q9.trans g7_9
  have g8_11 := q11
  clear q1 q2 q5 q7 q8 q9 q11
  have g8 := And.intro g8_1 (And.intro g8_2 (And.intro g8_5 (And.intro g8_7 (And.intro g8_8 (And.intro g8_9 g8_11)))))
  refine cv_seq_k fun K hK => ?_
  refine cv_seq_k fun K hK => ?_
  refine cv_cut (fun _ _ => True) (fun F' L' => F' 1 = G8 1 ∧ F' 2 = G8 2 ∧ F' 5 = G8 5 ∧ F' 7 = G8 7 ∧ F' 8 = G8 8 ∧ F' 9 = G8 9 ∧ F' 11 = G8 11 ∧ F' 61 = .bool (decide (at' < x.n ∧ openB h d at' = false)) ∧ L' = [.blk b10 4 (boz d), .blk b8 3 (i64z h), flBox b6 q.1 q.2.1 q.2.2, flBox b5 0 0 0, mBox b2 ⟨TA, tn, tc, ts, some ⟨b9, of9, none⟩, fn, fc, gs⟩]) ?_ ?_
  · by_cases hlt : at' < x.n
    · obtain ⟨db, hdb⟩ := some_of (l := d) (i := at') (by omega)
      have hzk := z_get (h := h) (k := at') (by omega)
      have hdk := bz_get hdb
      have hrk := hrun.rng at'
      obtain ⟨H, hH⟩ : ∃ H, hAt h at' = H := ⟨_, rfl⟩
      rw [hH] at hzk hrk
      have hob : openB h d at' = (decide (¬ H = -1) && !db) := by unfold openB; rw [hH, hdb] <;> rfl
      have h1' : decide ((at' : Int) < (x.n : Int)) = true := decide_eq_true (by omega)
      by_cases hH0 : H < 0
      · have h2' : decide (H < 0) = true := decide_eq_true hH0
        have hof : openB h d at' = false := by rw [hob, show H = -1 by omega]; rfl
        refine cv_region_then rfl ?_
        simp -implicitDefEqProofs (disch := first | omega | decide) only [seval, -Int.reducePow, -Nat.reducePow, cC, pv, binv, sFlRHgt1, undef, hzk, hdk, h1', h2', g3, g4, g5, g6, g7, g8]
        rw [hof]
        all_goals (repeat' refine And.intro ?_ ?_)
        all_goals (first | with_reducible rfl | (refine congrArg Value.bool ?_; rw [Bool.eq_iff_iff]; (try simp only [decide_eq_true_eq, eq_self, true_and, and_true, false_and, and_false, true_or, or_true, false_or, or_false, not_true_eq_false, not_false_eq_true, true_iff, iff_true, false_iff, iff_false, Bool.false_eq_true, Bool.not_eq_true', Bool.not_eq_true, decide_eq_false_iff_not, Bool.and_eq_true, Bool.or_eq_true]) <;> omega) | (refine congrArg (Value.int _) ?_; omega) | omega)
      · have h2' : decide (H < 0) = false := decide_eq_false hH0
        cases db
        · have hof : openB h d at' = true := by rw [hob]; simp; omega
          refine cv_region_then rfl ?_
          simp -implicitDefEqProofs (disch := first | omega | decide) only [seval, -Int.reducePow, -Nat.reducePow, cC, pv, binv, sFlRHgt1, undef, hzk, hdk, h1', h2', g3, g4, g5, g6, g7, g8]
          rw [hof]
          all_goals (repeat' refine And.intro ?_ ?_)
          all_goals (first | with_reducible rfl | (refine congrArg Value.bool ?_; rw [Bool.eq_iff_iff]; (try simp only [Bool.true_eq_false, decide_eq_true_eq, eq_self, true_and, and_true, false_and, and_false, true_or, or_true, false_or, or_false, not_true_eq_false, not_false_eq_true, true_iff, iff_true, false_iff, iff_false, Bool.false_eq_true, Bool.not_eq_true', Bool.not_eq_true, decide_eq_false_iff_not, Bool.and_eq_true, Bool.or_eq_true]) <;> omega) | (refine congrArg (Value.int _) ?_; omega) | omega)
        · have hof : openB h d at' = false := by rw [hob]; simp
          refine cv_region_then rfl ?_
          simp -implicitDefEqProofs (disch := first | omega | decide) only [seval, -Int.reducePow, -Nat.reducePow, cC, pv, binv, sFlRHgt1, undef, hzk, hdk, h1', h2', g3, g4, g5, g6, g7, g8]
          rw [hof]
          all_goals (repeat' refine And.intro ?_ ?_)
          all_goals (first | with_reducible rfl | (refine congrArg Value.bool ?_; rw [Bool.eq_iff_iff]; (try simp only [Bool.true_eq_false, decide_eq_true_eq, eq_self, true_and, and_true, false_and, and_false, true_or, or_true, false_or, or_false, not_true_eq_false, not_false_eq_true, true_iff, iff_true, false_iff, iff_false, Bool.false_eq_true, Bool.not_eq_true', Bool.not_eq_true, decide_eq_false_iff_not, Bool.and_eq_true, Bool.or_eq_true]) <;> omega) | (refine congrArg (Value.int _) ?_; omega) | omega)
    · have h1' : decide ((at' : Int) < (x.n : Int)) = false := decide_eq_false (by omega)
      refine cv_region_then rfl ?_
      simp -implicitDefEqProofs (disch := first | omega | decide) only [seval, -Int.reducePow, -Nat.reducePow, cC, pv, binv, sFlRHgt1, undef, h1', g3, g4, g5, g6, g7, g8]
      all_goals (repeat' refine And.intro ?_ ?_)
      all_goals (first | with_reducible rfl | (refine congrArg Value.bool ?_; rw [Bool.eq_iff_iff]; (try simp only [decide_eq_true_eq, eq_self, true_and, and_true, false_and, and_false, true_or, or_true, false_or, or_false, not_true_eq_false, not_false_eq_true, true_iff, iff_true, false_iff, iff_false, Bool.false_eq_true, Bool.not_eq_true', Bool.not_eq_true, decide_eq_false_iff_not, Bool.and_eq_true, Bool.or_eq_true]) <;> omega) | (refine congrArg (Value.int _) ?_; omega) | omega)
  intro G9 L' _ hF
  obtain ⟨q1, q2, q5, q7, q8, q9, q11, q61, rfl⟩ := hF
  have g9_1 := q1.trans g8_1
  have g9_2 := q2.trans g8_2
  have g9_5 := q5.trans g8_5
  have g9_7 := q7.trans g8_7
  have g9_8 := q8.trans g8_8
  have g9_9 := q9.trans g8_9
  have g9_11 := q11.trans g8_11
  have g9_61 := q61
  clear q1 q2 q5 q7 q8 q9 q11 q61
  have g9 := And.intro g9_1 (And.intro g9_2 (And.intro g9_5 (And.intro g9_7 (And.intro g9_8 (And.intro g9_9 (And.intro g9_11 g9_61))))))
  refine hK _ _ ?_
  clear hK K
  refine cv_cond ?_
  simp -implicitDefEqProofs (disch := first | omega | decide) only [seval, -Int.reducePow, -Nat.reducePow, cC, pv, binv, sFlRHgt1, undef, g3, g4, g5, g6, g7, g8, g9]
  refine ⟨fun hc => ?_, fun hc => ?_⟩
  · refine cv_skip ?_
    try simp only [blockQ, thenQ]
    obtain ⟨hlt, hof⟩ : at' < x.n ∧ openB h d at' = false := of_decide_eq_true ‹_›
    refine hK _ _ ?_
    clear hK K
    refine cv_block ?_
    refine cv_region_q rfl ?_
    simp -implicitDefEqProofs (disch := first | omega | decide) only [seval, -Int.reducePow, -Nat.reducePow, cC, pv, binv, sFlRHgt1, undef, wrap_in, g3, g4, g5, g6, g7, g8, g9]
    refine ⟨⟨at' + 1, ?_⟩, ?_⟩
    · simp -implicitDefEqProofs (disch := first | omega | decide) only [seval, -Int.reducePow, -Nat.reducePow, cC, pv, binv, sFlRHgt1, undef, Int.natCast_add, g3, g4, g5, g6, g7, g8, g9]
      refine ⟨by omega, fun j hj => ?_⟩
      rcases Nat.lt_or_ge j at' with h1 | h1
      · exact hop j h1
      · rw [show j = at' by omega]; exact hof
    · simp only [intOf]; omega
  refine cv_exit ?_
  simp only [blockQ, thenQ, if_true, ite_true]
  clear hK K
  refine hK _ _ ?_
  clear hK K
  have hnl : ¬ (at' < x.n ∧ openB h d at' = false) := of_decide_eq_false ‹_›
  by_cases hlt : at' < x.n
  · have hot : openB h d at' = true := by
      cases hx : openB h d at'
      · exact absurd ⟨hlt, hx⟩ hnl
      · rfl
    have hE' : decide ((at' : Int) = (x.n : Int)) = false := decide_eq_false (by omega)
    obtain ⟨i, hi⟩ := some_of (l := x.code) (i := at') (by omega)
    obtain ⟨db, hdb⟩ := some_of (l := d) (i := at') (by omega)
    have hii : insAt x at' = i := insAt_of hi
    have hzk := z_get (h := h) (k := at') (by omega)
    have hdk := bz_get hdb
    have hlb : leastB h d = some at' := leastB_some (by omega) hot hop
    have hrk := hrun.rng at'
    obtain ⟨v, hv⟩ : ∃ v, hAt h at' + ((fxP gs i).2 - (fxP gs i).1) = v := ⟨_, rfl⟩
    have hS := stepF_eq (x := x) hv
    have hpb := hfx i
    obtain ⟨pq, hpq⟩ : ∃ pq, fxP gs i = pq := ⟨_, rfl⟩
    rw [hpq] at hS hv hpb
    obtain ⟨p, r⟩ := pq
    dsimp only at hS hv hpb
    obtain ⟨H, hH⟩ : ∃ H, hAt h at' = H := ⟨_, rfl⟩
    have hot2 := hot
    unfold openB at hot2
    rw [hH, hdb] at hot2
    rw [hH] at hzk hrk hS hv
    obtain ⟨rfl, hHn⟩ : db = false ∧ ¬ H = -1 := by
      cases db
      · exact ⟨rfl, by simpa using hot2⟩
      · simp at hot2
    have hv' : H - p + r = v := by omega
    have hds := bz_set (d := d) (k := at') true (by omega)
    have hun := undone_set hdb
    obtain ⟨fu, rfl⟩ : ∃ fu', fu = fu' + 1 := ⟨fu - 1, by omega⟩
    have hci := fun ho => stE_call (hst at' i hi) ho
    have hch := fun ho => stE_host (hst at' i hi) ho
    have hnj : ∀ j ∈ nxP i at', j < x.code.length := fun j hj => hnx at' (by omega) j (by rwa [hii])
    obtain ⟨b0, off, hA, hb0, -⟩ := hX.cells (by omega)
    have hX' : Sl W W.heap.size 2 (some ⟨b0, off, none⟩) x.n x.c (cl insc x.code) := hA ▸ hX
    refine cv_seq_k fun K hK => ?_
    refine cv_seq_k fun K hK => ?_
    refine cv_region_then rfl ?_
    simp -implicitDefEqProofs (disch := first | omega | decide) only [seval, -Int.reducePow, -Nat.reducePow, cC, pv, binv, sFlRHgt1, undef, g3, g4, g5, g6, g7, g8, g9]
    refine hK _ _ ?_
    clear hK K
    refine cv_cond ?_
    simp -implicitDefEqProofs (disch := first | omega | decide) only [seval, -Int.reducePow, -Nat.reducePow, cC, pv, binv, sFlRHgt1, undef, hE', g3, g4, g5, g6, g7, g8, g9]
    refine cv_skip ?_
    try simp only [blockQ, thenQ]
    refine hK _ _ ?_
    clear hK K
    refine cv_seq_k fun K hK => ?_
    refine cv_region_then rfl ?_
    simp -implicitDefEqProofs (disch := first | omega | decide) only [seval, -Int.reducePow, -Nat.reducePow, cC, pv, binv, sFlRHgt1, undef, hds, bz_len, g3, g4, g5, g6, g7, g8, g9]
    refine ⟨by omega, ?_⟩
    refine hK _ _ ?_
    clear hK K
    refine cv_seq_k fun K hK => ?_
    refine cv_draw [(true, 0), (true, 1), (true, 2), (true, 3), (true, 4), (false, 5), (true, 6), (true, 7), (true, 8), (true, 9), (true, 10)] [] mixA rfl (by kernel_rfl) (by kernel_rfl) rfl rfl ?_
    simp -implicitDefEqProofs (disch := first | omega | decide) only [seval, -Int.reducePow, -Nat.reducePow, cC, pv, binv, sFlRHgt1, undef, hA, g3, g4, g5, g6, g7, g8, g9]
    refine ⟨_, hX'.ins hi, fun tok htok => ?_⟩
    subst htok
    simp -implicitDefEqProofs (disch := first | omega | decide) only [seval, -Int.reducePow, -Nat.reducePow, cC, pv, binv, sFlRHgt1, undef, hA, g3, g4, g5, g6, g7, g8, g9]
    refine callV_ret (fun w hw => moves_any ⟨TA, tn, tc, ts, some ⟨b9, of9, none⟩, fn, fc, gs⟩ i w (hMat hw) hci hch) ?_
    try simp -implicitDefEqProofs (disch := first | omega | decide) only [seval, -Int.reducePow, -Nat.reducePow, cC, pv, binv, sFlRHgt1, undef, hpq, g3, g4, g5, g6, g7, g8, g9]
    refine hK _ _ ?_
    clear hK K
    refine cv_seq_k fun K hK => ?_
    refine cv_region_then rfl ?_
    simp -implicitDefEqProofs (disch := first | omega | decide) only [seval, -Int.reducePow, -Nat.reducePow, cC, pv, binv, sFlRHgt1, undef, hzk, hv', g3, g4, g5, g6, g7, g8, g9]
    refine hK _ _ ?_
    clear hK K
    refine cv_gen fun G10 hG => ?_
    have g10_1 := congrFun hG 1
    have g10_2 := congrFun hG 2
    have g10_5 := congrFun hG 5
    have g10_7 := congrFun hG 7
    have g10_8 := congrFun hG 8
    have g10_9 := congrFun hG 9
    have g10_11 := congrFun hG 11
    have g10_12 := congrFun hG 12
    have g10_14 := congrFun hG 14
    clear hG
    try simp -implicitDefEqProofs (disch := first | omega | decide) only [seval, -Int.reducePow, -Nat.reducePow, cC, pv, binv, sFlRHgt1, undef, hA, g3, g4, g5, g6, g7, g8, g9] at g10_1 g10_2 g10_5 g10_7 g10_8 g10_9 g10_11 g10_12 g10_14
    have g10 := And.intro g10_1 (And.intro g10_2 (And.intro g10_5 (And.intro g10_7 (And.intro g10_8 (And.intro g10_9 (And.intro g10_11 (And.intro g10_12 g10_14)))))))
    refine cv_seq_k fun K hK => ?_
    refine cv_seq_k fun K hK => ?_
    refine cv_cut (fun _ _ => True) (fun F' L' => F' 1 = G10 1 ∧ F' 2 = G10 2 ∧ F' 5 = G10 5 ∧ F' 7 = G10 7 ∧ F' 8 = G10 8 ∧ F' 9 = G10 9 ∧ F' 11 = G10 11 ∧ F' 14 = G10 14 ∧ F' 120 = .bool (decide (H < p ∨ 64 < v ∨ (i.op = 22 ∧ ¬ H = x.r))) ∧ L' = [.blk b10 4 (boz (d.set at' true)), .blk b8 3 (i64z h), flBox b6 q.1 q.2.1 q.2.2, flBox b5 0 0 0, mBox b2 ⟨TA, tn, tc, ts, some ⟨b9, of9, none⟩, fn, fc, gs⟩]) ?_ ?_
    · by_cases a1 : H < p
      · have a1' : decide (H < p) = true := decide_eq_true a1
        refine cv_draw [(true, 0), (true, 1), (true, 2), (true, 3), (true, 4), (true, 5), (true, 6), (true, 7), (true, 8), (true, 9), (true, 10), (true, 11), (true, 12), (true, 13), (true, 14), (true, 15), (true, 16), (true, 17), (true, 18), (true, 19), (true, 20), (true, 21), (true, 22), (true, 23), (true, 24), (true, 25), (true, 26), (true, 27), (true, 28), (true, 29), (true, 30)] [] mixA rfl (by kernel_rfl) (by kernel_rfl) rfl rfl ?_
        simp -implicitDefEqProofs (disch := first | omega | decide) only [seval, -Int.reducePow, -Nat.reducePow, cC, pv, binv, sFlRHgt1, undef, hzk, a1', g3, g4, g5, g6, g7, g8, g10]
        all_goals (repeat' refine And.intro ?_ ?_)
        all_goals (first | with_reducible rfl | (refine congrArg Value.bool ?_; rw [Bool.eq_iff_iff]; (try simp only [decide_eq_true_eq, eq_self, true_and, and_true, false_and, and_false, true_or, or_true, false_or, or_false, not_true_eq_false, not_false_eq_true, true_iff, iff_true, false_iff, iff_false, Bool.false_eq_true, Bool.not_eq_true', Bool.not_eq_true, decide_eq_false_iff_not, Bool.and_eq_true, Bool.or_eq_true]) <;> omega) | (refine congrArg (Value.int _) ?_; omega) | omega)
      have a1' : decide (H < p) = false := decide_eq_false a1
      by_cases a2 : 64 < v
      · have a2' : decide (64 < v) = true := decide_eq_true a2
        refine cv_draw [(true, 0), (true, 1), (true, 2), (true, 3), (true, 4), (true, 5), (true, 6), (true, 7), (true, 8), (true, 9), (true, 10), (true, 11), (true, 12), (true, 13), (true, 14), (true, 15), (true, 16), (true, 17), (true, 18), (true, 19), (true, 20), (true, 21), (true, 22), (true, 23), (true, 24), (true, 25), (true, 26), (true, 27), (true, 28), (true, 29), (true, 30)] [] mixA rfl (by kernel_rfl) (by kernel_rfl) rfl rfl ?_
        simp -implicitDefEqProofs (disch := first | omega | decide) only [seval, -Int.reducePow, -Nat.reducePow, cC, pv, binv, sFlRHgt1, undef, hzk, a1', a2', g3, g4, g5, g6, g7, g8, g10]
        all_goals (repeat' refine And.intro ?_ ?_)
        all_goals (first | with_reducible rfl | (refine congrArg Value.bool ?_; rw [Bool.eq_iff_iff]; (try simp only [decide_eq_true_eq, eq_self, true_and, and_true, false_and, and_false, true_or, or_true, false_or, or_false, not_true_eq_false, not_false_eq_true, true_iff, iff_true, false_iff, iff_false, Bool.false_eq_true, Bool.not_eq_true', Bool.not_eq_true, decide_eq_false_iff_not, Bool.and_eq_true, Bool.or_eq_true]) <;> omega) | (refine congrArg (Value.int _) ?_; omega) | omega)
      have a2' : decide (64 < v) = false := decide_eq_false a2
      by_cases a3 : i.op = 22
      · have a3' : decide (i.op = 22) = true := decide_eq_true a3
        refine cv_draw [(true, 0), (true, 1), (true, 2), (true, 3), (true, 4), (true, 5), (true, 6), (true, 7), (true, 8), (true, 9), (true, 10), (true, 11), (true, 12), (true, 13), (true, 14), (true, 15), (true, 16), (true, 17), (true, 18), (true, 19), (true, 20), (true, 21), (true, 22), (true, 23), (true, 24), (true, 25), (true, 26), (true, 27), (true, 28), (true, 29), (true, 30)] [] mixA rfl (by kernel_rfl) (by kernel_rfl) rfl rfl ?_
        simp -implicitDefEqProofs (disch := first | omega | decide) only [seval, -Int.reducePow, -Nat.reducePow, cC, pv, binv, sFlRHgt1, undef, hzk, a1', a2', a3', hA, g3, g4, g5, g6, g7, g8, g10]
        refine ⟨_, hX'.inop hi, fun tok htok => ?_⟩
        subst htok
        simp -implicitDefEqProofs (disch := first | omega | decide) only [seval, -Int.reducePow, -Nat.reducePow, cC, pv, binv, sFlRHgt1, undef, hzk, a1', a2', a3', g3, g4, g5, g6, g7, g8, g10]
        refine ⟨_, hG.fnr hk, fun tok htok => ?_⟩
        subst htok
        simp -implicitDefEqProofs (disch := first | omega | decide) only [seval, -Int.reducePow, -Nat.reducePow, cC, pv, binv, sFlRHgt1, undef, hzk, a1', a2', a3', g3, g4, g5, g6, g7, g8, g10]
        all_goals (repeat' refine And.intro ?_ ?_)
        all_goals (first | with_reducible rfl | (refine congrArg Value.bool ?_; rw [Bool.eq_iff_iff]; (try simp only [decide_eq_true_eq, eq_self, true_and, and_true, false_and, and_false, true_or, or_true, false_or, or_false, not_true_eq_false, not_false_eq_true, true_iff, iff_true, false_iff, iff_false, Bool.false_eq_true, Bool.not_eq_true', Bool.not_eq_true, decide_eq_false_iff_not, Bool.and_eq_true, Bool.or_eq_true]) <;> omega) | (refine congrArg (Value.int _) ?_; omega) | omega)
      have a3' : decide (i.op = 22) = false := decide_eq_false a3
      refine cv_draw [(true, 0), (true, 1), (true, 2), (true, 3), (true, 4), (true, 5), (true, 6), (true, 7), (true, 8), (true, 9), (true, 10), (true, 11), (true, 12), (true, 13), (true, 14), (true, 15), (true, 16), (true, 17), (true, 18), (true, 19), (true, 20), (true, 21), (true, 22), (true, 23), (true, 24), (true, 25), (true, 26), (true, 27), (true, 28), (true, 29), (true, 30)] [] mixA rfl (by kernel_rfl) (by kernel_rfl) rfl rfl ?_
      simp -implicitDefEqProofs (disch := first | omega | decide) only [seval, -Int.reducePow, -Nat.reducePow, cC, pv, binv, sFlRHgt1, undef, hzk, a1', a2', a3', hA, g3, g4, g5, g6, g7, g8, g10]
      refine ⟨_, hX'.inop hi, fun tok htok => ?_⟩
      subst htok
      simp -implicitDefEqProofs (disch := first | omega | decide) only [seval, -Int.reducePow, -Nat.reducePow, cC, pv, binv, sFlRHgt1, undef, hzk, a1', a2', a3', g3, g4, g5, g6, g7, g8, g10]
      all_goals (repeat' refine And.intro ?_ ?_)
      all_goals (first | with_reducible rfl | (refine congrArg Value.bool ?_; rw [Bool.eq_iff_iff]; (try simp only [decide_eq_true_eq, eq_self, true_and, and_true, false_and, and_false, true_or, or_true, false_or, or_false, not_true_eq_false, not_false_eq_true, true_iff, iff_true, false_iff, iff_false, Bool.false_eq_true, Bool.not_eq_true', Bool.not_eq_true, decide_eq_false_iff_not, Bool.and_eq_true, Bool.or_eq_true]) <;> omega) | (refine congrArg (Value.int _) ?_; omega) | omega)
    intro G11 L' _ hF
    obtain ⟨q1, q2, q5, q7, q8, q9, q11, q14, q120, rfl⟩ := hF
    have g11_1 := q1.trans g10_1
    have g11_2 := q2.trans g10_2
    have g11_5 := q5.trans g10_5
    have g11_7 := q7.trans g10_7
    have g11_8 := q8.trans g10_8
    have g11_9 := q9.trans g10_9
    have g11_11 := q11.trans g10_11
    have g11_14 := q14.trans g10_14
    have g11_120 := q120
    clear q1 q2 q5 q7 q8 q9 q11 q14 q120
    have g11 := And.intro g11_1 (And.intro g11_2 (And.intro g11_5 (And.intro g11_7 (And.intro g11_8 (And.intro g11_9 (And.intro g11_11 (And.intro g11_14 g11_120)))))))
    refine hK _ _ ?_
    clear hK K
    refine cv_cond ?_
    simp -implicitDefEqProofs (disch := first | omega | decide) only [seval, -Int.reducePow, -Nat.reducePow, cC, pv, binv, sFlRHgt1, undef, g3, g4, g5, g6, g7, g8, g11]
    refine ⟨fun hc => ?_, fun hc => ?_⟩
    · have q1 := of_decide_eq_true ‹_›
      have hN : stepF gs x h at' i = none := by rw [hS, if_pos (by omega)]
      refine cv_seq_k fun K hK => ?_
      refine cv_region_then rfl ?_
      simp -implicitDefEqProofs (disch := first | omega | decide) only [seval, -Int.reducePow, -Nat.reducePow, cC, pv, binv, sFlRHgt1, undef, g3, g4, g5, g6, g7, g8, g11]
      refine callV_ret (fun w hw => fault_any 24 (k : Int) (at' : Int) w) ?_
      try simp -implicitDefEqProofs (disch := first | omega | decide) only [seval, -Int.reducePow, -Nat.reducePow, cC, pv, binv, sFlRHgt1, undef, g3, g4, g5, g6, g7, g8, g11]
      refine hK _ _ ?_
      clear hK K
      refine cv_ret ?_
      simp -implicitDefEqProofs (disch := first | omega | decide) only [seval, -Int.reducePow, -Nat.reducePow, cC, pv, binv, sFlRHgt1, undef, retQ2, ressV, packV, g3, g4, g5, g6, g7, g8, g11]
      intro w hw
      rw [hyes, hrr, runF_bad hlb (by rw [hii]; exact hN)]
      exact rowP_nil hw
    have q1 := of_decide_eq_false ‹_›
    rw [if_neg (by omega)] at hS
    refine cv_skip ?_
    try simp only [blockQ, thenQ]
    refine hK _ _ ?_
    clear hK K
    refine cv_pick_post [1, 2, 3, 4, 5] (by decide) ?_
    refine cv_seq_k fun K hK => ?_
    refine cv_region_then rfl ?_
    simp -implicitDefEqProofs (disch := first | omega | decide) only [seval, -Int.reducePow, -Nat.reducePow, cC, pv, binv, sFlRHgt1, undef, hA, g3, g4, g5, g6, g7, g8, g11]
    refine ⟨_, hX'.ins hi, fun tok htok => ?_⟩
    subst htok
    simp -implicitDefEqProofs (disch := first | omega | decide) only [seval, -Int.reducePow, -Nat.reducePow, cC, pv, binv, sFlRHgt1, undef, hA, g3, g4, g5, g6, g7, g8, g11]
    refine callV_row (fun A n c => .slice A n c) (fun w hw => frnext_any i at' w (by omega) (fun ho => by have := nx_arg hnj ho; omega)) ?_
    intro A6 n6 c6 hl6 hr6
    simp -implicitDefEqProofs (disch := first | omega | decide) only [seval, -Int.reducePow, -Nat.reducePow, cC, pv, binv, sFlRHgt1, undef, g3, g4, g5, g6, g7, g8, g11]
    refine hK _ _ ?_
    clear hK K
    have hn6 : (nxP i at').length = n6 := by rw [i64c_len] at hl6; omega
    have hn62 : n6 ≤ 2 := by
      rw [← hn6]
      unfold nxP
      repeat' split
      all_goals simp
    refine cv_seq_k fun K hK => ?_
    refine cv_region_then rfl ?_
    simp -implicitDefEqProofs (disch := first | omega | decide) only [seval, -Int.reducePow, -Nat.reducePow, cC, pv, binv, sFlRHgt1, undef, g3, g4, g5, g6, g7, g8, g11]
    refine hK _ _ ?_
    clear hK K
    refine cv_gen fun G12 hG => ?_
    have g12_1 := congrFun hG 1
    have g12_2 := congrFun hG 2
    have g12_5 := congrFun hG 5
    have g12_7 := congrFun hG 7
    have g12_8 := congrFun hG 8
    have g12_9 := congrFun hG 9
    have g12_11 := congrFun hG 11
    have g12_14 := congrFun hG 14
    have g12_15 := congrFun hG 15
    have g12_16 := congrFun hG 16
    clear hG
    try simp -implicitDefEqProofs (disch := first | omega | decide) only [seval, -Int.reducePow, -Nat.reducePow, cC, pv, binv, sFlRHgt1, undef, g3, g4, g5, g6, g7, g8, g11] at g12_1 g12_2 g12_5 g12_7 g12_8 g12_9 g12_11 g12_14 g12_15 g12_16
    have g12 := And.intro g12_1 (And.intro g12_2 (And.intro g12_5 (And.intro g12_7 (And.intro g12_8 (And.intro g12_9 (And.intro g12_11 (And.intro g12_14 (And.intro g12_15 g12_16))))))))
    refine cv_block ?_
    refine cv_loop (fun F' L' => ∃ (j : Nat) (h1 : List Int), F' 1 = G12 1 ∧ F' 2 = G12 2 ∧ F' 5 = G12 5 ∧ F' 7 = G12 7 ∧ F' 8 = G12 8 ∧ F' 9 = G12 9 ∧ F' 11 = G12 11 ∧ F' 14 = G12 14 ∧ F' 15 = G12 15 ∧ F' 16 = .int .i64 (j : Int) ∧ L' = [.row (.slice A6 n6 c6) 3 1 n6 (i64c (nxP i at')), .blk b10 4 (boz (d.set at' true)), .blk b8 3 (i64z h1), flBox b6 q.1 q.2.1 q.2.2, flBox b5 0 0 0, mBox b2 ⟨TA, tn, tc, ts, some ⟨b9, of9, none⟩, fn, fc, gs⟩] ∧ j ≤ n6 ∧ h1.length = h.length ∧ (∀ z, hAt h1 z = -1 ∨ 0 ≤ hAt h1 z) ∧ updF (nxP i at') v h = updF ((nxP i at').drop j) v h1) (fun F' L' => 1100 - (intOf (F' 16)).toNat) ?_ ?_
    · refine ⟨0, h, ?_⟩
      simp -implicitDefEqProofs (disch := first | omega | decide) only [seval, -Int.reducePow, -Nat.reducePow, cC, pv, binv, sFlRHgt1, undef, g3, g4, g5, g6, g7, g8, g12]
      exact ⟨by omega, fun z => (hrun.rng z).imp id And.left⟩
    intro G13 L' hI
    obtain ⟨j, h1, q1, q2, q5, q7, q8, q9, q11, q14, q15, q16, rfl, ⟨hj, hl1, hrz, hu⟩⟩ := hI
    have g13_1 := q1.trans g12_1
    have g13_2 := q2.trans g12_2
    have g13_5 := q5.trans g12_5
    have g13_7 := q7.trans g12_7
    have g13_8 := q8.trans g12_8
    have g13_9 := q9.trans g12_9
    have g13_11 := q11.trans g12_11
    have g13_14 := q14.trans g12_14
    have g13_15 := q15.trans g12_15
    have g13_16 := q16
    clear q1 q2 q5 q7 q8 q9 q11 q14 q15 q16
    have g13 := And.intro g13_1 (And.intro g13_2 (And.intro g13_5 (And.intro g13_7 (And.intro g13_8 (And.intro g13_9 (And.intro g13_11 (And.intro g13_14 (And.intro g13_15 g13_16))))))))
    refine cv_seq_k fun K hK => ?_
    refine cv_seq_k fun K hK => ?_
    refine cv_region_then rfl ?_
    simp -implicitDefEqProofs (disch := first | omega | decide) only [seval, -Int.reducePow, -Nat.reducePow, cC, pv, binv, sFlRHgt1, undef, g3, g4, g5, g6, g7, g8, g12, g13]
    refine hK _ _ ?_
    clear hK K
    refine cv_cond ?_
    simp -implicitDefEqProofs (disch := first | omega | decide) only [seval, -Int.reducePow, -Nat.reducePow, cC, pv, binv, sFlRHgt1, undef, g3, g4, g5, g6, g7, g8, g12, g13]
    refine ⟨fun hc => ?_, fun hc => ?_⟩
    · refine cv_skip ?_
      try simp only [blockQ, thenQ]
      have hjt : j < n6 := by have := of_decide_eq_true ‹decide ((j : Int) < (n6 : Int)) = true›; omega
      obtain ⟨y, hy⟩ := some_of (l := nxP i at') (i := j) (by omega)
      rw [drop_at' hy] at hu
      have hyc := hnj y (List.mem_of_getElem? hy)
      have hzy := z_get (h := h1) (k := y) (by omega)
      have hsy := z_set (h := h1) (k := y) v (by omega)
      have hry := hrz y
      obtain ⟨H1, hH1⟩ : ∃ H1, hAt h1 y = H1 := ⟨_, rfl⟩
      rw [hH1] at hzy hry
      refine hK _ _ ?_
      clear hK K
      refine cv_seq_k fun K hK => ?_
      refine cv_rowA 0 rfl (by omega) fun g hAA hg hNN => ?_
      subst hAA
      simp only [List.eraseIdx_cons_zero, List.eraseIdx_cons_succ, neB_nil, neB_blk, neB_row, neB_snap, and_true, List.not_mem_nil, or_false] at hNN hg
      replace hg := And.intro hg hNN
      clear hNN
      refine cv_block ?_
      refine cv_seq_k fun K hK => ?_
      refine cv_seq_k fun K hK => ?_
      refine cv_cut (fun _ _ => True) (fun F' L' => F' 1 = G13 1 ∧ F' 2 = G13 2 ∧ F' 5 = G13 5 ∧ F' 7 = G13 7 ∧ F' 8 = G13 8 ∧ F' 9 = G13 9 ∧ F' 11 = G13 11 ∧ F' 14 = G13 14 ∧ F' 15 = G13 15 ∧ F' 16 = G13 16 ∧ F' 154 = .bool (decide (0 ≤ H1 ∧ ¬ H1 = v)) ∧ L' = [.row (.slice (some ⟨g, 0, none⟩) n6 c6) 3 1 n6 (i64c (nxP i at')), .blk b10 4 (boz (d.set at' true)), .blk b8 3 (i64z h1), flBox b6 q.1 q.2.1 q.2.2, flBox b5 0 0 0, mBox b2 ⟨TA, tn, tc, ts, some ⟨b9, of9, none⟩, fn, fc, gs⟩]) ?_ ?_
      · by_cases a1 : 0 ≤ H1
        · have a1' : decide (0 ≤ H1) = true := decide_eq_true a1
          refine cv_region_then rfl ?_
          simp -implicitDefEqProofs (disch := first | omega | decide) only [seval, -Int.reducePow, -Nat.reducePow, cC, pv, binv, sFlRHgt1, undef, hzy, a1', g3, g4, g5, g6, g7, g8, g12, g13]
          refine ⟨_, ld_row1 (v := .int .i64 (y : Int)) (.head _) rfl (i64c_get hy), fun tok htok => ?_⟩
          subst htok
          simp -implicitDefEqProofs (disch := first | omega | decide) only [seval, -Int.reducePow, -Nat.reducePow, cC, pv, binv, sFlRHgt1, undef, hzy, a1', g3, g4, g5, g6, g7, g8, g12, g13]
          refine ⟨_, ld_row1 (v := .int .i64 (y : Int)) (.head _) rfl (i64c_get hy), fun tok htok => ?_⟩
          subst htok
          simp -implicitDefEqProofs (disch := first | omega | decide) only [seval, -Int.reducePow, -Nat.reducePow, cC, pv, binv, sFlRHgt1, undef, hzy, a1', g3, g4, g5, g6, g7, g8, g12, g13]
          all_goals (repeat' refine And.intro ?_ ?_)
          all_goals (first | with_reducible rfl | (refine congrArg Value.bool ?_; rw [Bool.eq_iff_iff]; (try simp only [decide_eq_true_eq, eq_self, true_and, and_true, false_and, and_false, true_or, or_true, false_or, or_false, not_true_eq_false, not_false_eq_true, true_iff, iff_true, false_iff, iff_false, Bool.false_eq_true, Bool.not_eq_true', Bool.not_eq_true, decide_eq_false_iff_not, Bool.and_eq_true, Bool.or_eq_true]) <;> omega) | (refine congrArg (Value.int _) ?_; omega) | omega)
        · have a1' : decide (0 ≤ H1) = false := decide_eq_false a1
          refine cv_region_then rfl ?_
          simp -implicitDefEqProofs (disch := first | omega | decide) only [seval, -Int.reducePow, -Nat.reducePow, cC, pv, binv, sFlRHgt1, undef, hzy, a1', g3, g4, g5, g6, g7, g8, g12, g13]
          refine ⟨_, ld_row1 (v := .int .i64 (y : Int)) (.head _) rfl (i64c_get hy), fun tok htok => ?_⟩
          subst htok
          simp -implicitDefEqProofs (disch := first | omega | decide) only [seval, -Int.reducePow, -Nat.reducePow, cC, pv, binv, sFlRHgt1, undef, hzy, a1', g3, g4, g5, g6, g7, g8, g12, g13]
          all_goals (repeat' refine And.intro ?_ ?_)
          all_goals (first | with_reducible rfl | (refine congrArg Value.bool ?_; rw [Bool.eq_iff_iff]; (try simp only [decide_eq_true_eq, eq_self, true_and, and_true, false_and, and_false, true_or, or_true, false_or, or_false, not_true_eq_false, not_false_eq_true, true_iff, iff_true, false_iff, iff_false, Bool.false_eq_true, Bool.not_eq_true', Bool.not_eq_true, decide_eq_false_iff_not, Bool.and_eq_true, Bool.or_eq_true]) <;> omega) | (refine congrArg (Value.int _) ?_; omega) | omega)
      intro G14 L' _ hF
      obtain ⟨q1, q2, q5, q7, q8, q9, q11, q14, q15, q16, q154, rfl⟩ := hF
      have g14_1 := q1.trans g13_1
      have g14_2 := q2.trans g13_2
      have g14_5 := q5.trans g13_5
      have g14_7 := q7.trans g13_7
      have g14_8 := q8.trans g13_8
      have g14_9 := q9.trans g13_9
      have g14_11 := q11.trans g13_11
      have g14_14 := q14.trans g13_14
      have g14_15 := q15.trans g13_15
      have g14_16 := q16.trans g13_16
      have g14_154 := q154
      clear q1 q2 q5 q7 q8 q9 q11 q14 q15 q16 q154
      have g14 := And.intro g14_1 (And.intro g14_2 (And.intro g14_5 (And.intro g14_7 (And.intro g14_8 (And.intro g14_9 (And.intro g14_11 (And.intro g14_14 (And.intro g14_15 (And.intro g14_16 g14_154)))))))))
      refine hK _ _ ?_
      clear hK K
      refine cv_cond ?_
      simp -implicitDefEqProofs (disch := first | omega | decide) only [seval, -Int.reducePow, -Nat.reducePow, cC, pv, binv, sFlRHgt1, undef, g3, g4, g5, g6, g7, g8, g12, g13, g14]
      refine ⟨fun hc => ?_, fun hc => ?_⟩
      · have q3 := of_decide_eq_true ‹_›
        rw [updF_no (by rw [hH1]; omega)] at hu
        refine cv_seq_k fun K hK => ?_
        refine cv_region_then rfl ?_
        simp -implicitDefEqProofs (disch := first | omega | decide) only [seval, -Int.reducePow, -Nat.reducePow, cC, pv, binv, sFlRHgt1, undef, g3, g4, g5, g6, g7, g8, g12, g13, g14]
        refine callV_ret (fun w hw => fault_any 24 (k : Int) (at' : Int) w) ?_
        try simp -implicitDefEqProofs (disch := first | omega | decide) only [seval, -Int.reducePow, -Nat.reducePow, cC, pv, binv, sFlRHgt1, undef, g3, g4, g5, g6, g7, g8, g12, g13, g14]
        refine hK _ _ ?_
        clear hK K
        refine cv_ret ?_
        simp -implicitDefEqProofs (disch := first | omega | decide) only [seval, -Int.reducePow, -Nat.reducePow, cC, pv, binv, sFlRHgt1, undef, retQ2, ressV, packV, g3, g4, g5, g6, g7, g8, g12, g13, g14]
        intro w hw
        rw [hyes, hrr, runF_bad hlb (by rw [hii, hS, hu])]
        exact rowP_nil hw
      have q3 := of_decide_eq_false ‹_›
      rw [updF_yes (by rw [hH1]; omega)] at hu
      refine cv_skip ?_
      try simp only [blockQ, thenQ]
      refine hK _ _ ?_
      clear hK K
      refine cv_q ?_
      refine cv_region_then rfl ?_
      simp -implicitDefEqProofs (disch := first | omega | decide) only [seval, -Int.reducePow, -Nat.reducePow, cC, pv, binv, sFlRHgt1, undef, g3, g4, g5, g6, g7, g8, g12, g13, g14]
      refine ⟨_, ld_row1 (v := .int .i64 (y : Int)) (.head _) rfl (i64c_get hy), fun tok htok => ?_⟩
      subst htok
      simp -implicitDefEqProofs (disch := first | omega | decide) only [seval, -Int.reducePow, -Nat.reducePow, cC, pv, binv, sFlRHgt1, undef, g3, g4, g5, g6, g7, g8, g12, g13, g14]
      simp -implicitDefEqProofs (disch := first | omega | decide) only [seval, -Int.reducePow, -Nat.reducePow, cC, pv, binv, sFlRHgt1, undef, hsy, z_len, g3, g4, g5, g6, g7, g8, g12, g13, g14]
      refine ⟨by omega, ?_⟩
      refine hK _ _ ?_
      clear hK K
      refine cv_region_then rfl ?_
      simp -implicitDefEqProofs (disch := first | omega | decide) only [seval, -Int.reducePow, -Nat.reducePow, cC, pv, binv, sFlRHgt1, undef, g3, g4, g5, g6, g7, g8, g12, g13, g14]
      refine ⟨⟨j + 1, h1.set y v, ?_⟩, ?_⟩
      · simp -implicitDefEqProofs (disch := first | omega | decide) only [seval, -Int.reducePow, -Nat.reducePow, cC, pv, binv, sFlRHgt1, undef, Int.natCast_add, g3, g4, g5, g6, g7, g8, g12, g13, g14]
        refine ⟨by omega, by rw [List.length_set]; exact hl1, fun z => ?_, hu⟩
        rw [hAt_set (by omega)]
        split
        · omega
        · exact hrz z
      · simp only [intOf]; omega
    refine cv_exit ?_
    simp only [blockQ, thenQ, if_true, ite_true]
    have hje : j = n6 := by have := of_decide_eq_false ‹decide ((j : Int) < (n6 : Int)) = false›; omega
    rw [List.drop_of_length_le (by omega), updF] at hu
    have hs1 : stepF gs x h at' (insAt x at') = some h1 := by rw [hii, hS, hu]
    rw [runF_go hlb hs1] at hrr
    obtain ⟨r1, -, -, -, -, -⟩ := run_step hrun (fun k _ => (hfx _).2.2.1) hnx hlb hs1
    refine ⟨⟨h1, d.set at' true, fu, ?_⟩, ?_⟩
    · simp -implicitDefEqProofs (disch := first | omega | decide) only [seval, -Int.reducePow, -Nat.reducePow, cC, pv, binv, sFlRHgt1, undef, hA, g3, g4, g5, g6, g7, g8, g12, g13]
      exact ⟨r1, by omega, hrr⟩
    · simp -implicitDefEqProofs (disch := first | omega | decide) only [seval, -Int.reducePow, -Nat.reducePow, cC, pv, binv, sFlRHgt1, undef, undoneV_boz, g3, g4, g5, g6, g7, g8, g12, g13]
      omega
  · have hE' : decide ((at' : Int) = (x.n : Int)) = true := decide_eq_true (by omega)
    have hln : leastB h d = none := leastB_none (fun j hj => hop j (by omega))
    rw [runF_end hln] at hrr
    refine cv_seq_k fun K hK => ?_
    refine cv_seq_k fun K hK => ?_
    refine cv_region_then rfl ?_
    simp -implicitDefEqProofs (disch := first | omega | decide) only [seval, -Int.reducePow, -Nat.reducePow, cC, pv, binv, sFlRHgt1, undef, g3, g4, g5, g6, g7, g8, g9]
    refine hK _ _ ?_
    clear hK K
    refine cv_cond ?_
    simp -implicitDefEqProofs (disch := first | omega | decide) only [seval, -Int.reducePow, -Nat.reducePow, cC, pv, binv, sFlRHgt1, undef, hE', g3, g4, g5, g6, g7, g8, g9]
    refine cv_pick [1, 3, 0] (by decide) ?_
    simp only [pickL, nth]
    refine cv_seq_k fun K hK => ?_
    refine cv_region_then rfl ?_
    simp -implicitDefEqProofs (disch := first | omega | decide) only [seval, -Int.reducePow, -Nat.reducePow, cC, pv, binv, sFlRHgt1, undef, g3, g4, g5, g6, g7, g8, g9]
    refine callV_ret (fun w hw => fine_any w) ?_
    try simp -implicitDefEqProofs (disch := first | omega | decide) only [seval, -Int.reducePow, -Nat.reducePow, cC, pv, binv, sFlRHgt1, undef, g3, g4, g5, g6, g7, g8, g9]
    refine hK _ _ ?_
    clear hK K
    refine cv_ret ?_
    simp -implicitDefEqProofs (disch := first | omega | decide) only [seval, -Int.reducePow, -Nat.reducePow, cC, pv, binv, sFlRHgt1, undef, retQ2, ressV, packV, g3, g4, g5, g6, g7, g8, g9]
    intro w hw
    rw [hyes, hrr]
    exact rowP_all hw (by rw [z_len]; show h.length = _; omega) (by omega)
end Go.Proofs.YtlbmnioibiomfaaGreat
/- verify.Verify and the reference's. -/
namespace Go.Proofs.YtlbmnioibiomfaaGreat
open Go.RowKit Go.Shelf
set_option linter.unusedVariables false
set_option linter.unusedSimpArgs false
set_option maxRecDepth 100000
set_option maxRecDepth 100000 in
theorem sVeVer1 : type_of% (And.intro (And.intro (And.intro @fBox.eq_1 (And.intro @tBox.eq_1 @iBox.eq_1)) (And.intro (And.intro @mBox.eq_1 @gBox.eq_1) (And.intro @flBox.eq_1 @fdV.eq_1))) (And.intro (And.intro (And.intro @tyV.eq_1 @insV.eq_1) (And.intro @fnV.eq_1 @modV.eq_1)) (And.intro (And.intro @fltV.eq_1 @fineF.eq_1) (And.intro @Nat.mul_one @wrap_in)))) := (And.intro (And.intro (And.intro @fBox.eq_1 (And.intro @tBox.eq_1 @iBox.eq_1)) (And.intro (And.intro @mBox.eq_1 @gBox.eq_1) (And.intro @flBox.eq_1 @fdV.eq_1))) (And.intro (And.intro (And.intro @tyV.eq_1 @insV.eq_1) (And.intro @fnV.eq_1 @modV.eq_1)) (And.intro (And.intro @fltV.eq_1 @fineF.eq_1) (And.intro @Nat.mul_one @wrap_in))))
set_option maxHeartbeats 2000000 in
theorem Verify_any (m : ModR) (W : World) (hM : Mod W W.heap.size m) : Calls Tryz.prog 9 #[modV m] W fun e w' => e = .returned (fltV (verM m)) ∧ Below W.heap.size W w' := by
  have hMat := fun {L : List Res} {w : World} (hw : St [] W L w) => hM.at hw
  have hlg := hM.glen
  obtain ⟨q, hq⟩ : ∃ q, chkM m = q := ⟨_, rfl⟩
  have hok := fun h => chkM_ok (m := m) h
  have hver : verM m = if q.1 = 0 then verG m m.gs.length 0 else q := by rw [← hq]; rfl
  rw [hq] at hok
  obtain ⟨TA, tn, tc, ts, FA, fn, fc, gs⟩ := m
  dsimp only at *
  refine calls_cv2 (M := []) (n := 31) [.cell 2 45] rfl Tryz.func9 rfl rfl (Nat.le_of_ble_eq_true rfl) (St.nil _ _) ?_
  refine cv_seq_k fun K hK => ?_
  refine cv_region_then rfl ?_
  simp -implicitDefEqProofs (disch := first | omega | decide) only [seval, -Int.reducePow, -Nat.reducePow, cC, pv, binv, sVeVer1, undef]
  intro b1 hb1 b2 hb2 hf2
  refine hK _ _ ?_
  clear hK K
  refine cv_seq_k fun K hK => ?_
  refine cv_seq_k fun K hK => ?_
  refine cv_region_then rfl ?_
  simp -implicitDefEqProofs (disch := first | omega | decide) only [seval, -Int.reducePow, -Nat.reducePow, cC, pv, binv, sVeVer1, undef]
  refine callV_ret (fun w hw => mcheck_any ⟨TA, tn, tc, ts, FA, fn, fc, gs⟩ w (hMat hw)) ?_
  try simp -implicitDefEqProofs (disch := first | omega | decide) only [seval, -Int.reducePow, -Nat.reducePow, cC, pv, binv, sVeVer1, undef, hq]
  intro b3 hb3 hf3
  refine hK _ _ ?_
  clear hK K
  refine cv_gen fun G1 hG => ?_
  have g1_1 := congrFun hG 1
  have g1_2 := congrFun hG 2
  have g1_3 := congrFun hG 3
  clear hG
  try simp -implicitDefEqProofs (disch := first | omega | decide) only [seval, -Int.reducePow, -Nat.reducePow, cC, pv, binv, sVeVer1, undef] at g1_1 g1_2 g1_3
  have g1 := And.intro g1_1 (And.intro g1_2 g1_3)
  refine cv_seq_k fun K hK => ?_
  refine cv_region_then rfl ?_
  simp -implicitDefEqProofs (disch := first | omega | decide) only [seval, -Int.reducePow, -Nat.reducePow, cC, pv, binv, sVeVer1, undef, g1]
  refine hK _ _ ?_
  clear hK K
  refine cv_cond ?_
  simp -implicitDefEqProofs (disch := first | omega | decide) only [seval, -Int.reducePow, -Nat.reducePow, cC, pv, binv, sVeVer1, undef, g1]
  refine ⟨fun hc => ?_, fun hc => ?_⟩
  · have hz : ¬ q.1 = 0 := nd_true ‹(!decide (q.1 = 0)) = true›
    refine cv_seq_k fun K hK => ?_
    refine cv_region_then rfl ?_
    simp -implicitDefEqProofs (disch := first | omega | decide) only [seval, -Int.reducePow, -Nat.reducePow, cC, pv, binv, sVeVer1, undef, g1]
    refine hK _ _ ?_
    clear hK K
    refine cv_ret ?_
    simp -implicitDefEqProofs (disch := first | omega | decide) only [seval, -Int.reducePow, -Nat.reducePow, cC, pv, binv, sVeVer1, undef, retQ2, ressV, packV, g1]
    intro w hw
    rw [hver, if_neg hz]
    exact ⟨rfl, hw.below⟩
  have hz : q.1 = 0 := Decidable.not_not.1 (nd_false ‹(!decide (q.1 = 0)) = false›)
  rw [if_pos hz] at hver
  obtain ⟨-, -, -, hg32, -⟩ := hok hz
  refine cv_skip ?_
  try simp only [blockQ, thenQ]
  refine hK _ _ ?_
  clear hK K
  refine cv_seq_k fun K hK => ?_
  refine cv_seq_k fun K hK => ?_
  refine cv_region_then rfl ?_
  simp -implicitDefEqProofs (disch := first | omega | decide) only [seval, -Int.reducePow, -Nat.reducePow, cC, pv, binv, sVeVer1, undef, g1]
  refine hK _ _ ?_
  clear hK K
  refine cv_gen fun G2 hG => ?_
  have g2_1 := congrFun hG 1
  have g2_2 := congrFun hG 2
  have g2_15 := congrFun hG 15
  have g2_16 := congrFun hG 16
  clear hG
  try simp -implicitDefEqProofs (disch := first | omega | decide) only [seval, -Int.reducePow, -Nat.reducePow, cC, pv, binv, sVeVer1, undef, g1] at g2_1 g2_2 g2_15 g2_16
  have g2 := And.intro g2_1 (And.intro g2_2 (And.intro g2_15 g2_16))
  refine cv_block ?_
  refine cv_loop (fun F' L' => ∃ (f : Nat), F' 1 = G2 1 ∧ F' 2 = G2 2 ∧ F' 15 = G2 15 ∧ F' 16 = .int .i64 (f : Int) ∧ L' = [flBox b3 q.1 q.2.1 q.2.2, flBox b2 0 0 0, mBox b1 ⟨TA, tn, tc, ts, FA, fn, fc, gs⟩] ∧ f ≤ fn ∧ verM ⟨TA, tn, tc, ts, FA, fn, fc, gs⟩ = verG ⟨TA, tn, tc, ts, FA, fn, fc, gs⟩ (fn - f) f) (fun F' L' => 50 - (intOf (F' 16)).toNat) ?_ ?_
  · refine ⟨0, ?_⟩
    simp -implicitDefEqProofs (disch := first | omega | decide) only [seval, -Int.reducePow, -Nat.reducePow, cC, pv, binv, sVeVer1, undef, g2]
    exact ⟨by omega, by rw [hver, hlg]⟩
  intro G3 L' hI
  obtain ⟨f, q1, q2, q15, q16, rfl, ⟨hf, hvf⟩⟩ := hI
  have g3_1 := q1.trans g2_1
  have g3_2 := q2.trans g2_2
  have g3_15 := q15.trans g2_15
  have g3_16 := q16
  clear q1 q2 q15 q16
  have g3 := And.intro g3_1 (And.intro g3_2 (And.intro g3_15 g3_16))
  refine cv_seq_k fun K hK => ?_
  refine cv_region_then rfl ?_
  simp -implicitDefEqProofs (disch := first | omega | decide) only [seval, -Int.reducePow, -Nat.reducePow, cC, pv, binv, sVeVer1, undef, g2, g3]
  refine hK _ _ ?_
  clear hK K
  refine cv_seq_k fun K hK => ?_
  refine cv_cond ?_
  simp -implicitDefEqProofs (disch := first | omega | decide) only [seval, -Int.reducePow, -Nat.reducePow, cC, pv, binv, sVeVer1, undef, g2, g3]
  refine ⟨fun hc => ?_, fun hc => ?_⟩
  · refine cv_skip ?_
    try simp only [blockQ, thenQ]
    have hft : f < fn := by have := of_decide_eq_true ‹decide ((f : Int) < (fn : Int)) = true›; omega
    obtain ⟨u, hu⟩ : ∃ u, hgtF ⟨TA, tn, tc, ts, FA, fn, fc, gs⟩ (f : Int) = u := ⟨_, rfl⟩
    refine hK _ _ ?_
    clear hK K
    refine cv_seq_k fun K hK => ?_
    refine cv_block ?_
    refine cv_seq_k fun K hK => ?_
    refine cv_region_then rfl ?_
    simp -implicitDefEqProofs (disch := first | omega | decide) only [seval, -Int.reducePow, -Nat.reducePow, cC, pv, binv, sVeVer1, undef, g2, g3]
    refine hK _ _ ?_
    clear hK K
    refine cv_seq_k fun K hK => ?_
    refine cv_region_then rfl ?_
    simp -implicitDefEqProofs (disch := first | omega | decide) only [seval, -Int.reducePow, -Nat.reducePow, cC, pv, binv, sVeVer1, undef, g2, g3]
    refine callV_row (fun A n c => .tuple #[.slice A n c, fltV u.2]) (fun w hw => (by have := Heights_any ⟨TA, tn, tc, ts, FA, fn, fc, gs⟩ (f : Int) w (hMat hw); rw [hu] at this; exact this)) ?_
    intro A n c hl hr
    simp -implicitDefEqProofs (disch := first | omega | decide) only [seval, -Int.reducePow, -Nat.reducePow, cC, pv, binv, sVeVer1, undef, g2, g3]
    intro b6 hb6 hf6
    refine hK _ _ ?_
    clear hK K
    refine cv_seq_k fun K hK => ?_
    refine cv_region_then rfl ?_
    simp -implicitDefEqProofs (disch := first | omega | decide) only [seval, -Int.reducePow, -Nat.reducePow, cC, pv, binv, sVeVer1, undef, g2, g3]
    refine hK _ _ ?_
    clear hK K
    refine cv_cond ?_
    simp -implicitDefEqProofs (disch := first | omega | decide) only [seval, -Int.reducePow, -Nat.reducePow, cC, pv, binv, sVeVer1, undef, g2, g3]
    refine ⟨fun hc => ?_, fun hc => ?_⟩
    · have hz2 : ¬ u.2.1 = 0 := nd_true ‹(!decide (u.2.1 = 0)) = true›
      refine cv_seq_k fun K hK => ?_
      refine cv_region_then rfl ?_
      simp -implicitDefEqProofs (disch := first | omega | decide) only [seval, -Int.reducePow, -Nat.reducePow, cC, pv, binv, sVeVer1, undef, g2, g3]
      refine hK _ _ ?_
      clear hK K
      refine cv_ret ?_
      simp -implicitDefEqProofs (disch := first | omega | decide) only [seval, -Int.reducePow, -Nat.reducePow, cC, pv, binv, sVeVer1, undef, retQ2, ressV, packV, g2, g3]
      intro w hw
      rw [hvf, show fn - f = (fn - (f + 1)) + 1 by omega, verG_no (by rw [hu]; exact hz2), hu]
      exact ⟨rfl, hw.below⟩
    have hz2 : u.2.1 = 0 := Decidable.not_not.1 (nd_false ‹(!decide (u.2.1 = 0)) = false›)
    refine cv_skip ?_
    try simp only [blockQ, thenQ]
    refine hK _ _ ?_
    clear hK K
    refine cv_pick [2, 3, 4] (by decide) ?_
    simp only [pickL, nth]
    refine cv_region_then rfl ?_
    simp -implicitDefEqProofs (disch := first | omega | decide) only [seval, -Int.reducePow, -Nat.reducePow, cC, pv, binv, sVeVer1, undef, wrap_in, g2, g3]
    refine ⟨⟨f + 1, ?_⟩, ?_⟩
    · simp -implicitDefEqProofs (disch := first | omega | decide) only [seval, -Int.reducePow, -Nat.reducePow, cC, pv, binv, sVeVer1, undef, Int.natCast_add, g2, g3]
      refine ⟨by omega, ?_⟩
      rw [hvf, show fn - f = (fn - (f + 1)) + 1 by omega, verG_yes (by rw [hu]; exact hz2)]
    · simp only [intOf]; omega
  refine cv_exit ?_
  simp only [blockQ, thenQ, if_true, ite_true]
  clear hK K
  refine hK _ _ ?_
  clear hK K
  have hft : ¬ f < fn := by have := of_decide_eq_false ‹decide ((f : Int) < (fn : Int)) = false›; omega
  refine cv_seq_k fun K hK => ?_
  refine cv_region_then rfl ?_
  simp -implicitDefEqProofs (disch := first | omega | decide) only [seval, -Int.reducePow, -Nat.reducePow, cC, pv, binv, sVeVer1, undef, g2, g3]
  refine hK _ _ ?_
  clear hK K
  refine cv_ret ?_
  simp -implicitDefEqProofs (disch := first | omega | decide) only [seval, -Int.reducePow, -Nat.reducePow, cC, pv, binv, sVeVer1, undef, retQ2, ressV, packV, g2, g3]
  intro w hw
  rw [hvf, show fn - f = 0 by omega]
  exact ⟨rfl, hw.below⟩
set_option maxHeartbeats 2000000 in
theorem rVerify_any (m : ModR) (W : World) (hM : Mod W W.heap.size m) : Calls Tryz.prog 32 #[modV m] W fun e w' => e = .returned (fltV (verM m)) ∧ Below W.heap.size W w' := by
  have hMat := fun {L : List Res} {w : World} (hw : St [] W L w) => hM.at hw
  have hlg := hM.glen
  obtain ⟨q, hq⟩ : ∃ q, chkM m = q := ⟨_, rfl⟩
  have hok := fun h => chkM_ok (m := m) h
  have hver : verM m = if q.1 = 0 then verG m m.gs.length 0 else q := by rw [← hq]; rfl
  rw [hq] at hok
  obtain ⟨TA, tn, tc, ts, FA, fn, fc, gs⟩ := m
  dsimp only at *
  refine calls_cv2 (M := []) (n := 31) [.cell 2 45] rfl Tryz.func32 rfl rfl (Nat.le_of_ble_eq_true rfl) (St.nil _ _) ?_
  refine cv_seq_k fun K hK => ?_
  refine cv_region_then rfl ?_
  simp -implicitDefEqProofs (disch := first | omega | decide) only [seval, -Int.reducePow, -Nat.reducePow, cC, pv, binv, sVeVer1, undef]
  intro b1 hb1 b2 hb2 hf2
  refine hK _ _ ?_
  clear hK K
  refine cv_seq_k fun K hK => ?_
  refine cv_region_then rfl ?_
  simp -implicitDefEqProofs (disch := first | omega | decide) only [seval, -Int.reducePow, -Nat.reducePow, cC, pv, binv, sVeVer1, undef]
  refine callV_ret (fun w hw => rmcheck_any ⟨TA, tn, tc, ts, FA, fn, fc, gs⟩ w (hMat hw)) ?_
  try simp -implicitDefEqProofs (disch := first | omega | decide) only [seval, -Int.reducePow, -Nat.reducePow, cC, pv, binv, sVeVer1, undef, hq]
  intro b3 hb3 hf3
  refine hK _ _ ?_
  clear hK K
  refine cv_gen fun G4 hG => ?_
  have g4_1 := congrFun hG 1
  have g4_2 := congrFun hG 2
  have g4_3 := congrFun hG 3
  clear hG
  try simp -implicitDefEqProofs (disch := first | omega | decide) only [seval, -Int.reducePow, -Nat.reducePow, cC, pv, binv, sVeVer1, undef] at g4_1 g4_2 g4_3
  have g4 := And.intro g4_1 (And.intro g4_2 g4_3)
  refine cv_seq_k fun K hK => ?_
  refine cv_seq_k fun K hK => ?_
  refine cv_region_then rfl ?_
  simp -implicitDefEqProofs (disch := first | omega | decide) only [seval, -Int.reducePow, -Nat.reducePow, cC, pv, binv, sVeVer1, undef, g4]
  refine hK _ _ ?_
  clear hK K
  refine cv_cond ?_
  simp -implicitDefEqProofs (disch := first | omega | decide) only [seval, -Int.reducePow, -Nat.reducePow, cC, pv, binv, sVeVer1, undef, g4]
  refine ⟨fun hc => ?_, fun hc => ?_⟩
  · have hz : ¬ q.1 = 0 := nd_true ‹(!decide (q.1 = 0)) = true›
    refine cv_seq_k fun K hK => ?_
    refine cv_region_then rfl ?_
    simp -implicitDefEqProofs (disch := first | omega | decide) only [seval, -Int.reducePow, -Nat.reducePow, cC, pv, binv, sVeVer1, undef, g4]
    refine hK _ _ ?_
    clear hK K
    refine cv_ret ?_
    simp -implicitDefEqProofs (disch := first | omega | decide) only [seval, -Int.reducePow, -Nat.reducePow, cC, pv, binv, sVeVer1, undef, retQ2, ressV, packV, g4]
    intro w hw
    rw [hver, if_neg hz]
    exact ⟨rfl, hw.below⟩
  have hz : q.1 = 0 := Decidable.not_not.1 (nd_false ‹(!decide (q.1 = 0)) = false›)
  rw [if_pos hz] at hver
  obtain ⟨-, -, -, hg32, -⟩ := hok hz
  refine cv_skip ?_
  try simp only [blockQ, thenQ]
  refine hK _ _ ?_
  clear hK K
  refine cv_seq_k fun K hK => ?_
  refine cv_seq_k fun K hK => ?_
  refine cv_region_then rfl ?_
  simp -implicitDefEqProofs (disch := first | omega | decide) only [seval, -Int.reducePow, -Nat.reducePow, cC, pv, binv, sVeVer1, undef, g4]
  refine hK _ _ ?_
  clear hK K
  refine cv_gen fun G5 hG => ?_
  have g5_1 := congrFun hG 1
  have g5_2 := congrFun hG 2
  have g5_4 := congrFun hG 4
  clear hG
  try simp -implicitDefEqProofs (disch := first | omega | decide) only [seval, -Int.reducePow, -Nat.reducePow, cC, pv, binv, sVeVer1, undef, g4] at g5_1 g5_2 g5_4
  have g5 := And.intro g5_1 (And.intro g5_2 g5_4)
  refine cv_block ?_
  refine cv_loop (fun F' L' => ∃ (f : Nat), F' 1 = G5 1 ∧ F' 2 = G5 2 ∧ F' 4 = .int .i64 (f : Int) ∧ L' = [flBox b3 q.1 q.2.1 q.2.2, flBox b2 0 0 0, mBox b1 ⟨TA, tn, tc, ts, FA, fn, fc, gs⟩] ∧ f ≤ fn ∧ verM ⟨TA, tn, tc, ts, FA, fn, fc, gs⟩ = verG ⟨TA, tn, tc, ts, FA, fn, fc, gs⟩ (fn - f) f) (fun F' L' => 50 - (intOf (F' 4)).toNat) ?_ ?_
  · refine ⟨0, ?_⟩
    simp -implicitDefEqProofs (disch := first | omega | decide) only [seval, -Int.reducePow, -Nat.reducePow, cC, pv, binv, sVeVer1, undef, g5]
    exact ⟨by omega, by rw [hver, hlg]⟩
  intro G6 L' hI
  obtain ⟨f, q1, q2, q4, rfl, ⟨hf, hvf⟩⟩ := hI
  have g6_1 := q1.trans g5_1
  have g6_2 := q2.trans g5_2
  have g6_4 := q4
  clear q1 q2 q4
  have g6 := And.intro g6_1 (And.intro g6_2 g6_4)
  refine cv_seq_k fun K hK => ?_
  refine cv_seq_k fun K hK => ?_
  refine cv_region_then rfl ?_
  simp -implicitDefEqProofs (disch := first | omega | decide) only [seval, -Int.reducePow, -Nat.reducePow, cC, pv, binv, sVeVer1, undef, g5, g6]
  refine hK _ _ ?_
  clear hK K
  refine cv_cond ?_
  simp -implicitDefEqProofs (disch := first | omega | decide) only [seval, -Int.reducePow, -Nat.reducePow, cC, pv, binv, sVeVer1, undef, g5, g6]
  refine ⟨fun hc => ?_, fun hc => ?_⟩
  · refine cv_skip ?_
    try simp only [blockQ, thenQ]
    have hft : f < fn := by have := of_decide_eq_true ‹decide ((f : Int) < (fn : Int)) = true›; omega
    obtain ⟨u, hu⟩ : ∃ u, hgtF ⟨TA, tn, tc, ts, FA, fn, fc, gs⟩ (f : Int) = u := ⟨_, rfl⟩
    refine hK _ _ ?_
    clear hK K
    refine cv_seq_k fun K hK => ?_
    refine cv_block ?_
    refine cv_seq_k fun K hK => ?_
    refine cv_region_then rfl ?_
    simp -implicitDefEqProofs (disch := first | omega | decide) only [seval, -Int.reducePow, -Nat.reducePow, cC, pv, binv, sVeVer1, undef, g5, g6]
    refine callV_row (fun A n c => .tuple #[.slice A n c, fltV u.2]) (fun w hw => (by have := rHeights_any ⟨TA, tn, tc, ts, FA, fn, fc, gs⟩ (f : Int) w (hMat hw); rw [hu] at this; exact this)) ?_
    intro A n c hl hr
    simp -implicitDefEqProofs (disch := first | omega | decide) only [seval, -Int.reducePow, -Nat.reducePow, cC, pv, binv, sVeVer1, undef, g5, g6]
    intro b6 hb6 hf6
    refine hK _ _ ?_
    clear hK K
    refine cv_seq_k fun K hK => ?_
    refine cv_region_then rfl ?_
    simp -implicitDefEqProofs (disch := first | omega | decide) only [seval, -Int.reducePow, -Nat.reducePow, cC, pv, binv, sVeVer1, undef, g5, g6]
    refine hK _ _ ?_
    clear hK K
    refine cv_cond ?_
    simp -implicitDefEqProofs (disch := first | omega | decide) only [seval, -Int.reducePow, -Nat.reducePow, cC, pv, binv, sVeVer1, undef, g5, g6]
    refine ⟨fun hc => ?_, fun hc => ?_⟩
    · have hz2 : ¬ u.2.1 = 0 := nd_true ‹(!decide (u.2.1 = 0)) = true›
      refine cv_seq_k fun K hK => ?_
      refine cv_region_then rfl ?_
      simp -implicitDefEqProofs (disch := first | omega | decide) only [seval, -Int.reducePow, -Nat.reducePow, cC, pv, binv, sVeVer1, undef, g5, g6]
      refine hK _ _ ?_
      clear hK K
      refine cv_ret ?_
      simp -implicitDefEqProofs (disch := first | omega | decide) only [seval, -Int.reducePow, -Nat.reducePow, cC, pv, binv, sVeVer1, undef, retQ2, ressV, packV, g5, g6]
      intro w hw
      rw [hvf, show fn - f = (fn - (f + 1)) + 1 by omega, verG_no (by rw [hu]; exact hz2), hu]
      exact ⟨rfl, hw.below⟩
    have hz2 : u.2.1 = 0 := Decidable.not_not.1 (nd_false ‹(!decide (u.2.1 = 0)) = false›)
    refine cv_skip ?_
    try simp only [blockQ, thenQ]
    refine hK _ _ ?_
    clear hK K
    refine cv_pick [2, 3, 4] (by decide) ?_
    simp only [pickL, nth]
    refine cv_region_then rfl ?_
    simp -implicitDefEqProofs (disch := first | omega | decide) only [seval, -Int.reducePow, -Nat.reducePow, cC, pv, binv, sVeVer1, undef, wrap_in, g5, g6]
    refine ⟨⟨f + 1, ?_⟩, ?_⟩
    · simp -implicitDefEqProofs (disch := first | omega | decide) only [seval, -Int.reducePow, -Nat.reducePow, cC, pv, binv, sVeVer1, undef, Int.natCast_add, g5, g6]
      refine ⟨by omega, ?_⟩
      rw [hvf, show fn - f = (fn - (f + 1)) + 1 by omega, verG_yes (by rw [hu]; exact hz2)]
    · simp only [intOf]; omega
  refine cv_exit ?_
  simp only [blockQ, thenQ, if_true, ite_true]
  clear hK K
  refine hK _ _ ?_
  clear hK K
  have hft : ¬ f < fn := by have := of_decide_eq_false ‹decide ((f : Int) < (fn : Int)) = false›; omega
  refine cv_seq_k fun K hK => ?_
  refine cv_region_then rfl ?_
  simp -implicitDefEqProofs (disch := first | omega | decide) only [seval, -Int.reducePow, -Nat.reducePow, cC, pv, binv, sVeVer1, undef, g5, g6]
  refine callV_ret (fun w hw => fine_any w) ?_
  try simp -implicitDefEqProofs (disch := first | omega | decide) only [seval, -Int.reducePow, -Nat.reducePow, cC, pv, binv, sVeVer1, undef, g5, g6]
  refine hK _ _ ?_
  clear hK K
  refine cv_ret ?_
  simp -implicitDefEqProofs (disch := first | omega | decide) only [seval, -Int.reducePow, -Nat.reducePow, cC, pv, binv, sVeVer1, undef, retQ2, ressV, packV, g5, g6]
  intro w hw
  rw [hvf, show fn - f = 0 by omega]
  exact ⟨rfl, hw.below⟩
end Go.Proofs.YtlbmnioibiomfaaGreat
/- awake of verify's laws. -/
namespace Go.Proofs.YtlbmnioibiomfaaGreat
open Go.RowKit Go.Shelf
set_option linter.unusedVariables false
set_option linter.unusedSimpArgs false
set_option maxRecDepth 100000
set_option maxRecDepth 100000 in
theorem sVeAw1 : type_of% (And.intro (And.intro (And.intro @fBox.eq_1 (And.intro @tBox.eq_1 @iBox.eq_1)) (And.intro (And.intro @mBox.eq_1 @gBox.eq_1) (And.intro @flBox.eq_1 @fdV.eq_1))) (And.intro (And.intro (And.intro @tyV.eq_1 @insV.eq_1) (And.intro @fnV.eq_1 @modV.eq_1)) (And.intro (And.intro @fltV.eq_1 @fineF.eq_1) (And.intro @Nat.mul_one @wrap_in)))) := (And.intro (And.intro (And.intro @fBox.eq_1 (And.intro @tBox.eq_1 @iBox.eq_1)) (And.intro (And.intro @mBox.eq_1 @gBox.eq_1) (And.intro @flBox.eq_1 @fdV.eq_1))) (And.intro (And.intro (And.intro @tyV.eq_1 @insV.eq_1) (And.intro @fnV.eq_1 @modV.eq_1)) (And.intro (And.intro @fltV.eq_1 @fineF.eq_1) (And.intro @Nat.mul_one @wrap_in))))
/-- The module of the chapter's example. -/
def vcM (b b7 : Nat) : ModR := ⟨none, 0, 0, [], some ⟨b, 0, none⟩, 1, 1, [⟨0, 0, 0, some ⟨b7, 0, none⟩, 2, 2, [⟨4, 0⟩, ⟨25, 0⟩]⟩]⟩
theorem vc_ver (b b7 : Nat) : verM (vcM b b7) = (24, 0, 0) := by kernel_rfl
theorem vc_mod {w : World} {b b7 : Nat} (h5 : Sl w w.heap.size 2 (some ⟨b7, 0, none⟩) 2 2 (cl insc [⟨4, 0⟩, ⟨25, 0⟩])) (h7 : Sl w w.heap.size 4 (some ⟨b, 0, none⟩) 1 1 (cl fnc (vcM b b7).gs)) : Mod w w.heap.size (vcM b b7) := by
  refine ⟨Sl.nil 2, fun t ht => (by simp [vcM] at ht), h7, fun g hg => ?_, fun g hg i hi => ?_⟩
  · obtain rfl : g = ⟨0, 0, 0, some ⟨b7, 0, none⟩, 2, 2, [⟨4, 0⟩, ⟨25, 0⟩]⟩ := by simpa [vcM] using hg
    exact h5
  · obtain rfl : g = ⟨0, 0, 0, some ⟨b7, 0, none⟩, 2, 2, [⟨4, 0⟩, ⟨25, 0⟩]⟩ := by simpa [vcM] using hg
    simp at hi
    rcases hi with rfl | rfl <;> decide
theorem vAwake_any (W : World) : Calls Tryz.prog 4 #[] W fun e w' => e = .returned (.bool true) ∧ Below W.heap.size W w' := by
  refine calls_cv (M := []) (n := 12) [.tmp 0] rfl Tryz.func4 rfl rfl (Nat.le_of_ble_eq_true rfl) (St.nil _ _) ?_
  refine cv_seq_k fun K hK => ?_
  refine cv_region_then rfl ?_
  simp -implicitDefEqProofs (disch := first | omega | decide) only [seval, -Int.reducePow, -Nat.reducePow, cC, pv, binv, sVeAw1, undef]
  refine hK _ _ ?_
  clear hK K
  refine cv_seq_k fun K hK => ?_
  refine cv_region_then rfl ?_
  simp -implicitDefEqProofs (disch := first | omega | decide) only [seval, -Int.reducePow, -Nat.reducePow, cC, pv, binv, sVeAw1, undef]
  intro b4 hb4 b6 hb6 hf6 b1 hb1 hf1
  refine hK _ _ ?_
  clear hK K
  refine cv_seq_k fun K hK => ?_
  refine cv_region_then rfl ?_
  simp -implicitDefEqProofs (disch := first | omega | decide) only [seval, -Int.reducePow, -Nat.reducePow, cC, pv, binv, sVeAw1, undef]
  refine callV_ret (fun w hw => (by have := Verify_any (vcM b6 b4) w (vc_mod (Sl.of_blk hw (.tail _ (.tail _ (.head _))) rfl (by omega)) (Sl.of_blk hw (.tail _ (.head _)) rfl (by omega))); rw [vc_ver] at this; exact this)) ?_
  try simp -implicitDefEqProofs (disch := first | omega | decide) only [seval, -Int.reducePow, -Nat.reducePow, cC, pv, binv, sVeAw1, undef, vc_ver]
  refine hK _ _ ?_
  clear hK K
  refine cv_ret ⟨_, (by simp -implicitDefEqProofs (disch := first | omega | decide) only [seval, -Int.reducePow, -Nat.reducePow, cC, pv, binv, sVeAw1, undef]; rfl), fun w hw => ?_⟩
  exact ⟨rfl, hw.below⟩
end Go.Proofs.YtlbmnioibiomfaaGreat
/- module.Decode. -/
namespace Go.Proofs.YtlbmnioibiomfaaGreat
open Go.RowKit Go.Shelf
set_option linter.unusedVariables false
set_option linter.unusedSimpArgs false
set_option maxRecDepth 100000
/-- What a decoding hands back. -/
def mdΦ (l : List Nat) (i : ModR × Int) (w w' : World) : Prop :=
  ModD w' (Nw w w') i.1 ∧ ((i.2 = 0 ∧ decM l = .ok (datM i.1)) ∨ (¬ i.2 = 0 ∧ decM l = .error i.2 ∧ i.1 = zMod))
def mdV (i : ModR × Int) : Value := .tuple #[modV i.1, .int .i64 i.2]
theorem zMod_D (w : World) (D : Nat → Prop) : ModD w D zMod := ⟨Sd.nil, by simp [zMod], Sd.nil, by simp [zMod], by simp [zMod]⟩
theorem mdΦ_no {l : List Nat} {e : Int} (w w' : World) (he : ¬ e = 0) (h : decM l = .error e) : mdΦ l (zMod, e) w w' := ⟨zMod_D _ _, .inr ⟨he, h, rfl⟩⟩
set_option maxRecDepth 100000 in
theorem sMDec1 : type_of% (And.intro (And.intro @Nat.mul_one (And.intro @mrC.eq_1 @mrB.eq_1)) (And.intro (And.intro @mBox.eq_1 @modV.eq_1) (And.intro @cS @fltV.eq_1))) := (And.intro (And.intro @Nat.mul_one (And.intro @mrC.eq_1 @mrB.eq_1)) (And.intro (And.intro @mBox.eq_1 @modV.eq_1) (And.intro @cS @fltV.eq_1)))
set_option maxHeartbeats 4000000 in
theorem mdec_any (A : Option Addr) (n c : Nat) (l : List Nat) (W : World) (hE : Sl W W.heap.size 1 A n c (byt l)) (hb : ∀ x ∈ l, x < 256) :
    Calls Tryz.prog 29 #[.slice A n c] W fun e w' => ∃ i, e = .returned (mdV i) ∧ mdΦ l i W w' ∧ Below W.heap.size W w' := by
  have hln : l.length = n := byt_row hE.len
  have hcap := hE.cap
  have hmax := hE.max
  refine calls_cv2 (M := []) (n := 49) [.cell 2 30, .tmp 3] rfl Tryz.func29 rfl rfl (Nat.le_of_ble_eq_true rfl) (St.nil _ _) ?_
  refine cv_seq_k fun K hK => ?_
  refine cv_region_then rfl ?_
  simp -implicitDefEqProofs (disch := first | omega | decide) only [seval, -Int.reducePow, -Nat.reducePow, cC, pv, binv, sMDec1, undef]
  intro b2 hb2
  refine hK _ _ ?_
  clear hK K
  refine cv_seq_k fun K hK => ?_
  refine cv_seq_k fun K hK => ?_
  refine cv_region_then rfl ?_
  simp -implicitDefEqProofs (disch := first | omega | decide) only [seval, -Int.reducePow, -Nat.reducePow, cC, pv, binv, sMDec1, undef]
  refine hK _ _ ?_
  clear hK K
  refine cv_cond ?_
  simp -implicitDefEqProofs (disch := first | omega | decide) only [seval, -Int.reducePow, -Nat.reducePow, cC, pv, binv, sMDec1, undef]
  refine ⟨fun hc => ?_, fun hc => ?_⟩
  · have h := of_decide_eq_true hc
    refine cv_seq_k fun K hK => ?_
    refine cv_region_then rfl ?_
    simp -implicitDefEqProofs (disch := first | omega | decide) only [seval, -Int.reducePow, -Nat.reducePow, cC, pv, binv, sMDec1, undef]
    refine hK _ _ ?_
    clear hK K
    refine cv_ret ?_
    simp -implicitDefEqProofs (disch := first | omega | decide) only [seval, -Int.reducePow, -Nat.reducePow, cC, pv, binv, sMDec1, undef, retQ2, ressV, packV]
    intro w hw
    refine ⟨(zMod, 4), rfl, mdΦ_no _ _ (by omega) ?_, hw.below⟩
    unfold decM
    rw [if_pos (by omega)]
  have hn : n ≤ 65536 := by have := of_decide_eq_false hc; omega
  refine cv_skip ?_
  try simp only [blockQ, thenQ]
  refine hK _ _ ?_
  clear hK K
  by_cases hp : List.take magicB.length l = magicB
  case neg =>
    refine cv_seq_k fun K hK => ?_
    refine cv_region_then rfl ?_
    simp -implicitDefEqProofs (disch := first | omega | decide) only [seval, -Int.reducePow, -Nat.reducePow, cC, pv, binv, sMDec1, undef]
    intro b14 hb14 h14
    refine xv_mark 0 rfl Tryz.underlying22 Tryz.underlying5 rfl ?_
    simp -implicitDefEqProofs (disch := first | omega | decide) only [seval, -Int.reducePow, -Nat.reducePow, cC, pv, binv, sMDec1, undef]
    refine callV_ret (fun w hw => cutPrefix_any A (some ⟨b14, 0, none⟩) n c 4 4 l magicB w (hE.at hw) (mgOk b14 hw) hb (by decide)) ?_
    try simp -implicitDefEqProofs (disch := first | omega | decide) only [seval, -Int.reducePow, -Nat.reducePow, cC, pv, binv, sMDec1, undef, hp]
    refine hK _ _ ?_
    clear hK K
    refine cv_seq_k fun K hK => ?_
    refine cv_seq_k fun K hK => ?_
    refine cv_region_then rfl ?_
    simp -implicitDefEqProofs (disch := first | omega | decide) only [seval, -Int.reducePow, -Nat.reducePow, cC, pv, binv, sMDec1, undef]
    refine hK _ _ ?_
    clear hK K
    refine cv_cond ?_
    simp -implicitDefEqProofs (disch := first | omega | decide) only [seval, -Int.reducePow, -Nat.reducePow, cC, pv, binv, sMDec1, undef]
    refine cv_seq_k fun K hK => ?_
    refine cv_region_then rfl ?_
    simp -implicitDefEqProofs (disch := first | omega | decide) only [seval, -Int.reducePow, -Nat.reducePow, cC, pv, binv, sMDec1, undef]
    refine hK _ _ ?_
    clear hK K
    refine cv_ret ?_
    simp -implicitDefEqProofs (disch := first | omega | decide) only [seval, -Int.reducePow, -Nat.reducePow, cC, pv, binv, sMDec1, undef, retQ2, ressV, packV]
    intro w hw
    refine ⟨(zMod, 3), rfl, mdΦ_no _ _ (by omega) ?_, hw.below⟩
    unfold decM
    have hp4 : ¬ l.take 4 = magicB := hp
    rw [if_neg (by omega), if_pos hp4]
  have hm4 : 4 ≤ n := by
    have := congrArg List.length hp
    rw [List.length_take] at this
    simp [magicB] at this
    omega
  obtain ⟨A1, hA1⟩ : ∃ X, sbase c 4 1 A = X := ⟨_, rfl⟩
  have hE1 := hE.bdrop hm4
  rw [hA1] at hE1
  have hdec : decM l = decK (decL (l.drop 4)) := by
    have hp4 : l.take 4 = magicB := hp
    unfold decM
    rw [if_neg (by omega), if_neg (fun h => h hp4)]
  refine cv_seq_k fun K hK => ?_
  refine cv_region_then rfl ?_
  simp -implicitDefEqProofs (disch := first | omega | decide) only [seval, -Int.reducePow, -Nat.reducePow, cC, pv, binv, sMDec1, undef]
  intro b14 hb14 h14
  refine xv_mark 0 rfl Tryz.underlying22 Tryz.underlying5 rfl ?_
  simp -implicitDefEqProofs (disch := first | omega | decide) only [seval, -Int.reducePow, -Nat.reducePow, cC, pv, binv, sMDec1, undef]
  refine callV_ret (fun w hw => cutPrefix_any A (some ⟨b14, 0, none⟩) n c 4 4 l magicB w (hE.at hw) (mgOk b14 hw) hb (by decide)) ?_
  try simp -implicitDefEqProofs (disch := first | omega | decide) only [seval, -Int.reducePow, -Nat.reducePow, cC, pv, binv, sMDec1, undef, hp, hA1]
  refine hK _ _ ?_
  clear hK K
  refine cv_gen fun G1 hG => ?_
  have g1_2 := congrFun hG 2
  have g1_4 := congrFun hG 4
  have g1_5 := congrFun hG 5
  clear hG
  try simp -implicitDefEqProofs (disch := first | omega | decide) only [seval, -Int.reducePow, -Nat.reducePow, cC, pv, binv, sMDec1, undef] at g1_2 g1_4 g1_5
  have g1 := And.intro g1_2 (And.intro g1_4 g1_5)
  refine cv_pick [1] (by decide) ?_
  simp only [pickL, nth]
  refine cv_seq_k fun K hK => ?_
  refine cv_seq_k fun K hK => ?_
  refine cv_region_then rfl ?_
  simp -implicitDefEqProofs (disch := first | omega | decide) only [seval, -Int.reducePow, -Nat.reducePow, cC, pv, binv, sMDec1, undef, g1]
  refine hK _ _ ?_
  clear hK K
  refine cv_cond ?_
  simp -implicitDefEqProofs (disch := first | omega | decide) only [seval, -Int.reducePow, -Nat.reducePow, cC, pv, binv, sMDec1, undef, g1]
  refine cv_skip ?_
  try simp only [blockQ, thenQ]
  refine hK _ _ ?_
  clear hK K
  refine cv_seq_k fun K hK => ?_
  refine cv_region_then rfl ?_
  simp -implicitDefEqProofs (disch := first | omega | decide) only [seval, -Int.reducePow, -Nat.reducePow, cC, pv, binv, sMDec1, undef, g1]
  intro b24 hb24 h24
  refine hK _ _ ?_
  clear hK K
  refine cv_gen fun G2 hG => ?_
  have g2_2 := congrFun hG 2
  have g2_6 := congrFun hG 6
  clear hG
  try simp -implicitDefEqProofs (disch := first | omega | decide) only [seval, -Int.reducePow, -Nat.reducePow, cC, pv, binv, sMDec1, undef, g1] at g2_2 g2_6
  have g2 := And.intro g2_2 g2_6
  have hL : Lt W b24 A1 (n - 4) (c - 4) (l.drop 4) := ⟨hE1, fun h0 => Apt.of_below hE1 h0 (by simp; omega), drop_byte hb 4, by omega⟩
  refine cv_seq_k fun K hK => ?_
  refine cv_region_then rfl ?_
  simp -implicitDefEqProofs (disch := first | omega | decide) only [seval, -Int.reducePow, -Nat.reducePow, cC, pv, binv, sMDec1, undef, g2]
  refine callV_nestM 0 (fun i : ModR × Option Addr × Nat × Nat × Int => modV i.1) (modΦ (l.drop 4)) (fun i => mrC i.2.1 i.2.2.1 i.2.2.2.1 i.2.2.2.2) rfl (fun w hw => mmod_any b24 A1 (n - 4) (c - 4) (l.drop 4) w (hw.hold 0 rfl) ⟨hE1.at hw, hL.ap, hL.bt, hL.sz⟩) ?_
  rintro ⟨m, A2, n2, c2, e2⟩ w0 w1 f1 hw0 hw1 hΦ hNw
  unfold modΦ at hΦ
  simp only at hΦ
  simp -implicitDefEqProofs (disch := first | omega | decide) only [seval, -Int.reducePow, -Nat.reducePow, cC, pv, binv, sMDec1, undef, g2]
  intro b7 hb7 h7
  refine hK _ _ ?_
  clear hK K
  have hres : (e2 = 0 → decM l = if (chkM m).1 = 0 then .ok (datM m) else .error (chkM m).1) ∧ (¬ e2 = 0 → decM l = .error e2) := by
    rw [hdec]
    rcases hΦ with ⟨h0, ⟨q, h1, h2⟩, h3⟩ | ⟨h0, h1⟩
    · exact ⟨fun _ => decK_ok h1 h2, fun h => absurd h0 h⟩
    · exact ⟨fun h => absurd h h0, fun _ => by rw [h1]; rfl⟩
  have hk : e2 = 0 → ModD w1 (Dm [] W f1) m := fun h0 => by
    rcases hΦ with h | h
    · exact h.2.2.mono fun y hy => .inl (hNw y hy)
    · exact absurd h0 h.1
  have hkn : e2 = 0 → ModD w1 (fun y => y ∈ f1) m := fun h0 => by
    rcases hΦ with h | h
    · exact h.2.2.mono hNw
    · exact absurd h0 h.1
  clear hΦ hNw hw0 hw1
  refine cv_gen fun G3 hG => ?_
  have g3_2 := congrFun hG 2
  have g3_6 := congrFun hG 6
  have g3_7 := congrFun hG 7
  clear hG
  try simp -implicitDefEqProofs (disch := first | omega | decide) only [seval, -Int.reducePow, -Nat.reducePow, cC, pv, binv, sMDec1, undef, g2] at g3_2 g3_6 g3_7
  have g3 := And.intro g3_2 (And.intro g3_6 g3_7)
  refine cv_seq_k fun K hK => ?_
  refine cv_cut (fun _ _ => True) (fun F' L' => ∃ (e3 : Int), F' 2 = G3 2 ∧ F' 6 = G3 6 ∧ F' 7 = G3 7 ∧ L' = [.blk b7 30 [.slice m.TA m.tn m.tc, .slice m.FA m.fn m.fc], snap [] W w1 f1, mrB b24 A2 n2 c2 e3, .blk b2 30 [.slice none 0 0, .slice none 0 0]] ∧ e3 = if e2 = 0 then (chkM m).1 else e2) ?_ ?_
  · refine cv_seq_k fun K hK => ?_
    refine cv_region_then rfl ?_
    simp -implicitDefEqProofs (disch := first | omega | decide) only [seval, -Int.reducePow, -Nat.reducePow, cC, pv, binv, sMDec1, undef, g3]
    refine hK _ _ ?_
    clear hK K
    refine cv_cond ?_
    simp -implicitDefEqProofs (disch := first | omega | decide) only [seval, -Int.reducePow, -Nat.reducePow, cC, pv, binv, sMDec1, undef, g3]
    refine ⟨fun hc => ?_, fun hc => ?_⟩
    · have he : e2 = 0 := of_decide_eq_true ‹_›
      refine cv_region_q rfl ?_
      simp -implicitDefEqProofs (disch := first | omega | decide) only [seval, -Int.reducePow, -Nat.reducePow, cC, pv, binv, sMDec1, undef, g3]
      refine callV_ret (fun w hw => mcheck_any m w ((hk he).at hw 1 rfl)) ?_
      try simp -implicitDefEqProofs (disch := first | omega | decide) only [seval, -Int.reducePow, -Nat.reducePow, cC, pv, binv, sMDec1, undef, g3]
      exact ⟨_, rfl, by rw [if_pos he]⟩
    · have he : ¬ e2 = 0 := of_decide_eq_false ‹_›
      refine cv_skip ?_
      try simp only [blockQ, thenQ]
      simp -implicitDefEqProofs (disch := first | omega | decide) only [seval, -Int.reducePow, -Nat.reducePow, cC, pv, binv, sMDec1, undef, g3]
      exact ⟨_, rfl, by rw [if_neg he]⟩
  intro G4 L' _ hF
  obtain ⟨e3, q2, q6, q7, rfl, he3⟩ := hF
  have g4_2 := q2.trans g3_2
  have g4_6 := q6.trans g3_6
  have g4_7 := q7.trans g3_7
  clear q2 q6 q7
  have g4 := And.intro g4_2 (And.intro g4_6 g4_7)
  refine hK _ _ ?_
  clear hK K
  refine cv_seq_k fun K hK => ?_
  refine cv_seq_k fun K hK => ?_
  refine cv_region_then rfl ?_
  simp -implicitDefEqProofs (disch := first | omega | decide) only [seval, -Int.reducePow, -Nat.reducePow, cC, pv, binv, sMDec1, undef, g4]
  refine hK _ _ ?_
  clear hK K
  refine cv_cond ?_
  simp -implicitDefEqProofs (disch := first | omega | decide) only [seval, -Int.reducePow, -Nat.reducePow, cC, pv, binv, sMDec1, undef, g4]
  refine ⟨fun hc => ?_, fun hc => ?_⟩
  · have hz : ¬ e3 = 0 := by simpa using ‹(!decide (e3 = 0)) = true›
    have hD : decM l = .error e3 := by
      by_cases he : e2 = 0
      · rw [if_pos he] at he3
        rw [hres.1 he, if_neg (by rw [← he3]; exact hz), he3]
      · rw [if_neg he] at he3
        rw [hres.2 he, he3]
    refine cv_seq_k fun K hK => ?_
    refine cv_draw_of (pickL [2] _) (fun w hw => hw.pick (by decide)) (by simp only [pickL, nth, suf_cons, suf_nil, List.mem_cons, true_or, or_true, and_true, eq_self]) [(true, 0), (true, 1), (true, 2), (true, 3), (true, 4), (false, 5), (true, 6)] [] mixA rfl (by kernel_rfl) (by kernel_rfl) rfl rfl ?_
    simp -implicitDefEqProofs (disch := first | omega | decide) only [seval, -Int.reducePow, -Nat.reducePow, cC, pv, binv, sMDec1, undef, g4]
    refine hK _ _ ?_
    clear hK K
    refine cv_ret ?_
    simp -implicitDefEqProofs (disch := first | omega | decide) only [seval, -Int.reducePow, -Nat.reducePow, cC, pv, binv, sMDec1, undef, retQ2, ressV, packV, g4]
    intro w hw
    exact ⟨(zMod, e3), rfl, mdΦ_no _ _ hz hD, hw.below⟩
  have hz : e3 = 0 := by simpa using ‹(!decide (e3 = 0)) = false›
  have he : e2 = 0 := by
    by_cases he : e2 = 0
    · exact he
    · rw [if_neg he] at he3; omega
  have hD : decM l = .ok (datM m) := by
    rw [if_pos he] at he3
    rw [hres.1 he, if_pos (by rw [← he3]; exact hz)]
  refine cv_skip ?_
  try simp only [blockQ, thenQ]
  refine hK _ _ ?_
  clear hK K
  refine cv_pick [1, 0, 2, 3] (by decide) ?_
  simp only [pickL, nth]
  refine cv_seq_k fun K hK => ?_
  refine cv_region_then rfl ?_
  simp -implicitDefEqProofs (disch := first | omega | decide) only [seval, -Int.reducePow, -Nat.reducePow, cC, pv, binv, sMDec1, undef, g4]
  refine hK _ _ ?_
  clear hK K
  refine cv_ret ?_
  simp -implicitDefEqProofs (disch := first | omega | decide) only [seval, -Int.reducePow, -Nat.reducePow, cC, pv, binv, sMDec1, undef, retQ2, ressV, packV, g4]
  intro w hw
  exact ⟨(m, 0), rfl, ⟨(hkn he).same (fun y hy => hw.snap_same (.head _) y (.inl hy)) (hw.snapNew 0 rfl (by simp)), .inl ⟨rfl, hD⟩⟩, hw.below⟩
end Go.Proofs.YtlbmnioibiomfaaGreat
