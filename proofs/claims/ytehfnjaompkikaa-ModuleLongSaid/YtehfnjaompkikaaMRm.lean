/- Reading a module. -/
import Derived.Test.YtehfnjaompkikaaMRf
namespace Go.Proofs.Ytehfnjaompkikaa
open Go.RowKit Go.Shelf
set_option linter.unusedVariables false
set_option linter.unusedSimpArgs false
set_option maxRecDepth 100000
def zMod : ModR := ⟨none, 0, 0, [], none, 0, 0, []⟩
def tyD (t : TyR) : Int × List Fd := (t.len, t.fs)
/-- A module that was read. -/
def modΦ (l : List Nat) (i : ModR × Option Addr × Nat × Nat × Int) (w w' : World) : Prop :=
  (i.2.2.2.2 = 0 ∧ (∃ q, decL l = .ok q ∧ datM i.1 = datQ q) ∧ ModD w' (Nw w w') i.1) ∨ (¬ i.2.2.2.2 = 0 ∧ decL l = .error i.2.2.2.2)
theorem types_err {l : List Nat} {e : Int} (h : thenX (.ok ((), l)) (cntX tyX 32) = .error e) : decL l = .error e := decL_err (by unfold decX; rw [h]; rfl)
set_option maxHeartbeats 8000000 in
theorem mmod_any (r : Nat) (A : Option Addr) (n c : Nat) (l : List Nat) (W : World) (hW : W.heap[r]? = some (.cells (mrC A n c 0).toArray 84 (0, 0))) (hL : Lt W r A n c l) :
    Calls Try.prog 37 #[.pointer (some ⟨r, 0, none⟩)] W fun e w' => ∃ i : ModR × Option Addr × Nat × Nat × Int, e = .returned (modV i.1) ∧ modΦ l i W w' ∧ w'.heap[r]? = some (.cells (mrC i.2.1 i.2.2.1 i.2.2.2.1 i.2.2.2.2).toArray 84 (0, 0)) ∧ Pres [r] W w' := by
  obtain ⟨v1, A1, n1, c1, l1, e1, s1, L1⟩ := hL.num 0 32 (by omega)
  have hS : Lc tyX (thenX (.ok ((), l)) (cntX tyX 32)) () v1 0 [] l1 e1 := s1.start (.start () l)
  have hv1 := s1.le
  refine calls_cv2 (M := [r]) (n := 68) [.cell 2 25] rfl Try.func37 rfl rfl (Nat.le_of_ble_eq_true rfl)  (St.one hW) ?_
  refine cv_seq_k fun K hK => ?_
  refine cv_region_then rfl ?_
  simp -implicitDefEqProofs (disch := first | omega | decide) only [seval, -Int.reducePow, -Nat.reducePow, cA, cB, pv, binv, fresh, thenQ, blockQ, retQ, Value.oneCell', Value.cells, undef, Nat.mul_one, mrC, mrB, mBox, modV, tBox, decV, cS]
  intro b2 hb2 h2
  refine hK _ _ ?_
  clear hK K
  refine cv_seq_k fun K hK => ?_
  refine cv_region_then rfl ?_
  simp -implicitDefEqProofs (disch := first | omega | decide) only [seval, -Int.reducePow, -Nat.reducePow, cA, cB, pv, binv, fresh, thenQ, blockQ, retQ, Value.oneCell', Value.cells, undef, Nat.mul_one, mrC, mrB, mBox, modV, tBox, decV, cS]
  intro b3 hb3 h3
  refine hK _ _ ?_
  clear hK K
  refine cv_seq_k fun K hK => ?_
  refine cv_seq_k fun K hK => ?_
  refine cv_region_then rfl ?_
  simp -implicitDefEqProofs (disch := first | omega | decide) only [seval, -Int.reducePow, -Nat.reducePow, cA, cB, pv, binv, fresh, thenQ, blockQ, retQ, Value.oneCell', Value.cells, undef, Nat.mul_one, mrC, mrB, mBox, modV, tBox, decV, cS]
  refine callV_mod1 2 (fun w hw => mnum_any s1 (hw.hold 2 rfl) (hL.at hw)) rfl ?_
  try simp -implicitDefEqProofs (disch := first | omega | decide) only [seval, -Int.reducePow, -Nat.reducePow, cA, cB, pv, binv, fresh, thenQ, blockQ, retQ, Value.oneCell', Value.cells, undef, Nat.mul_one, mrC, mrB, mBox, modV, tBox, decV, cS]
  refine hK _ _ ?_
  clear hK K
  refine cv_gen fun G1 hG => ?_
  have g1_0 := congrFun hG 0
  have g1_2 := congrFun hG 2
  have g1_3 := congrFun hG 3
  have g1_8 := congrFun hG 8
  have g1_9 := congrFun hG 9
  clear hG
  try simp -implicitDefEqProofs (disch := first | omega | decide) only [seval, -Int.reducePow, -Nat.reducePow, cA, cB, pv, binv, fresh, thenQ, blockQ, retQ, Value.oneCell', Value.cells, undef, Nat.mul_one, mrC, mrB, mBox, modV, tBox, decV, cS] at g1_0 g1_2 g1_3 g1_8 g1_9
  refine cv_block ?_
  refine cv_nil 63 2 ?_
  refine cv_snap [0, 1, 2, 3] (by decide) fun v0 f0 hv0 hf0 => ?_
  simp only [pickL, nth]
  refine cv_loop (fun F' L' => ∃ (j : Nat) (A6 : Option Addr) (c6 : Nat) (ts : List TyR) (A' : Option Addr) (n' c' : Nat) (l' : List Nat) (e' : Int) (v : World) (f : List Nat), F' 0 = G1 0 ∧ F' 2 = G1 2 ∧ F' 3 = G1 3 ∧ F' 8 = G1 8 ∧ F' 9 = .int .i64 (j : Int) ∧ L' = [snap [r] W v f, .row (.slice A6 j c6) 63 2 j (cl tyc ts), .blk b3 25 [.slice A6 j c6, .slice none 0 0], .blk b2 25 [.slice none 0 0, .slice none 0 0], mrB r A' n' c' e'] ∧ Lt W r A' n' c' l' ∧ Lc tyX (thenX (.ok ((), l)) (cntX tyX 32)) () v1 j (ts.map tyD) l' e' ∧ (∀ t ∈ ts, Sd v (fun y => y ∈ f) 2 t.A t.n t.c (cl fdc t.fs)) ∧ (j < v1 → e' = 0)) (fun F' L' => 100 - (intOf (F' 9)).toNat) ?_ ?_
  · refine ⟨0, none, 0, [], A1, n1, c1, l1, e1, v0, f0, ?_⟩
    simp -implicitDefEqProofs (disch := first | omega | decide) only [seval, -Int.reducePow, -Nat.reducePow, cA, cB, pv, binv, fresh, thenQ, blockQ, retQ, Value.oneCell', Value.cells, undef, Nat.mul_one, mrC, mrB, mBox, modV, tBox, decV, cS, g1_0, g1_2, g1_3, g1_8, g1_9]
    refine ⟨rfl, L1, hS, by simp, fun h => ?_⟩
    by_cases h0 : e1 = 0
    · exact h0
    · have := s1.err h0
      omega
  intro G2 L' hI
  obtain ⟨j, A6, c6, ts, A', n', c', l', e', v, f, q0, q2, q3, q8, q9, rfl, ⟨hL', hS', hty, he'⟩⟩ := hI
  have g2_0 := q0.trans g1_0
  have g2_2 := q2.trans g1_2
  have g2_3 := q3.trans g1_3
  have g2_8 := q8.trans g1_8
  have g2_9 := q9
  clear q0 q2 q3 q8 q9
  refine cv_seq_k fun K hK => ?_
  refine cv_region_then rfl ?_
  simp -implicitDefEqProofs (disch := first | omega | decide) only [seval, -Int.reducePow, -Nat.reducePow, cA, cB, pv, binv, fresh, thenQ, blockQ, retQ, Value.oneCell', Value.cells, undef, Nat.mul_one, mrC, mrB, mBox, modV, tBox, decV, cS, g1_0, g1_2, g1_3, g1_8, g1_9, g2_0, g2_2, g2_3, g2_8, g2_9]
  refine hK _ _ ?_
  clear hK K
  refine cv_seq_k fun K hK => ?_
  refine cv_cond ?_
  simp -implicitDefEqProofs (disch := first | omega | decide) only [seval, -Int.reducePow, -Nat.reducePow, cA, cB, pv, binv, fresh, thenQ, blockQ, retQ, Value.oneCell', Value.cells, undef, Nat.mul_one, mrC, mrB, mBox, modV, tBox, decV, cS, g1_0, g1_2, g1_3, g1_8, g1_9, g2_0, g2_2, g2_3, g2_8, g2_9]
  refine ⟨fun hc => ?_, fun hc => ?_⟩
  · refine cv_skip ?_
    try simp only [blockQ, thenQ]
    have hj : j < v1 := by have := of_decide_eq_true hc; omega
    have h0 := he' hj
    subst h0
    obtain ⟨d, hd⟩ : ∃ d, decF l' = d := ⟨_, rfl⟩
    have ho := tyX_out l'
    have hk' : d.2.2.1 = if d.2.2.2 = 0 then d.2.2.1 else 0 := by
      split
      · rfl
      · subst hd; exact decF_err ‹_›
    have hdl : d.2.2.1 ≤ n' := by
      by_cases h : d.2.2.2 = 0
      · subst hd
        have := (decF_only hL'.bt h).2.2
        rw [hL'.len] at this
        exact this
      · subst hd
        rw [decF_err h]
        omega
    rw [hd] at ho
    have hst := hS'.step hj ho
    have hcap := hL'.sl.cap
    have hmax := hL'.sl.max
    refine hK _ _ ?_
    clear hK K
    refine cv_seq_k fun K hK => ?_
    refine cv_block ?_
    refine cv_seq_k fun K hK => ?_
    refine cv_region_then rfl ?_
    simp -implicitDefEqProofs (disch := first | omega | decide) only [seval, -Int.reducePow, -Nat.reducePow, cA, cB, pv, binv, fresh, thenQ, blockQ, retQ, Value.oneCell', Value.cells, undef, Nat.mul_one, mrC, mrB, mBox, modV, tBox, decV, cS, g1_0, g1_2, g1_3, g1_8, g1_9, g2_0, g2_2, g2_3, g2_8, g2_9]
    refine callV_row (fun A5 n5 c5 => decV (decF l') (.slice A5 n5 c5)) (fun w hw => decode_any A' n' c' l' w (hL'.at hw).sl hL'.bt hL'.sz) ?_
    rw [hd]
    intro A5 n5 c5 hl5 hr5
    simp -implicitDefEqProofs (disch := first | omega | decide) only [seval, -Int.reducePow, -Nat.reducePow, cA, cB, pv, binv, fresh, thenQ, blockQ, retQ, Value.oneCell', Value.cells, undef, Nat.mul_one, mrC, mrB, mBox, modV, tBox, decV, cS, g1_0, g1_2, g1_3, g1_8, g1_9, g2_0, g2_2, g2_3, g2_8, g2_9]
    intro b4 hb4 h4
    refine hK _ _ ?_
    clear hK K
    refine cv_seq_k fun K hK => ?_
    refine cv_seq_k fun K hK => ?_
    refine cv_region_then rfl ?_
    simp -implicitDefEqProofs (disch := first | omega | decide) only [seval, -Int.reducePow, -Nat.reducePow, cA, cB, pv, binv, fresh, thenQ, blockQ, retQ, Value.oneCell', Value.cells, undef, Nat.mul_one, mrC, mrB, mBox, modV, tBox, decV, cS, g1_0, g1_2, g1_3, g1_8, g1_9, g2_0, g2_2, g2_3, g2_8, g2_9]
    refine callV_mod1 6 (fun w hw => took_any r A' n' c' d.2.2.1 d.2.2.1 d.2.2.2 w (hw.hold 6 rfl) (fun _ => hdl) hcap hmax hk') rfl ?_
    try simp -implicitDefEqProofs (disch := first | omega | decide) only [seval, -Int.reducePow, -Nat.reducePow, cA, cB, pv, binv, fresh, thenQ, blockQ, retQ, Value.oneCell', Value.cells, undef, Nat.mul_one, mrC, mrB, mBox, modV, tBox, decV, cS, g1_0, g1_2, g1_3, g1_8, g1_9, g2_0, g2_2, g2_3, g2_8, g2_9]
    refine hK _ _ ?_
    clear hK K
    refine cv_cond ?_
    simp -implicitDefEqProofs (disch := first | omega | decide) only [seval, -Int.reducePow, -Nat.reducePow, cA, cB, pv, binv, fresh, thenQ, blockQ, retQ, Value.oneCell', Value.cells, undef, Nat.mul_one, mrC, mrB, mBox, modV, tBox, decV, cS, g1_0, g1_2, g1_3, g1_8, g1_9, g2_0, g2_2, g2_3, g2_8, g2_9]
    refine ⟨fun hc => ?_, fun hc => ?_⟩
    · have hne : ¬ d.2.2.2 = 0 := by simpa using ‹(!decide (d.2.2.2 = 0)) = true›
      refine cv_seq_k fun K hK => ?_
      refine cv_region_then rfl ?_
      simp -implicitDefEqProofs (disch := first | omega | decide) only [seval, -Int.reducePow, -Nat.reducePow, cA, cB, pv, binv, fresh, thenQ, blockQ, retQ, Value.oneCell', Value.cells, undef, Nat.mul_one, mrC, mrB, mBox, modV, tBox, decV, cS, g1_0, g1_2, g1_3, g1_8, g1_9, g2_0, g2_2, g2_3, g2_8, g2_9]
      refine hK _ _ ?_
      clear hK K
      refine cv_ret ?_
      simp -implicitDefEqProofs (disch := first | omega | decide) only [seval, -Int.reducePow, -Nat.reducePow, cA, cB, pv, binv, fresh, thenQ, blockQ, retQ, Value.oneCell', Value.cells, undef, Nat.mul_one, mrC, mrB, mBox, modV, tBox, decV, cS, retQ2, ressV, packV, g1_0, g1_2, g1_3, g1_8, g1_9, g2_0, g2_2, g2_3, g2_8, g2_9]
      intro w hw
      exact ⟨(zMod, sbase c' d.2.2.1 1 A', n' - d.2.2.1, c' - d.2.2.1, d.2.2.2), rfl, .inr ⟨hne, types_err (hst.err hne)⟩, hw.hold 6 rfl, hw.pres⟩
    have hze : d.2.2.2 = 0 := by simpa using ‹(!decide (d.2.2.2 = 0)) = false›
    rw [hze] at hst
    refine cv_skip ?_
    try simp only [blockQ, thenQ]
    refine hK _ _ ?_
    clear hK K
    refine cv_region_q rfl ?_
    simp -implicitDefEqProofs (disch := first | omega | decide) only [seval, -Int.reducePow, -Nat.reducePow, cA, cB, pv, binv, fresh, thenQ, blockQ, retQ, Value.oneCell', Value.cells, undef, Nat.mul_one, mrC, mrB, mBox, modV, tBox, decV, cS, g1_0, g1_2, g1_3, g1_8, g1_9, g2_0, g2_2, g2_3, g2_8, g2_9]
    intro b29 hb29 h29
    refine appV_at 4 tap22 rfl (fun w hw => src_blk (size := 2) (.head _) rfl hw) rfl (by omega) (by omega) ?_
    intro A7 c7 hl7 hr7
    simp -implicitDefEqProofs (disch := first | omega | decide) only [seval, -Int.reducePow, -Nat.reducePow, cA, cB, pv, binv, fresh, thenQ, blockQ, retQ, Value.oneCell', Value.cells, undef, Nat.mul_one, mrC, mrB, mBox, modV, tBox, decV, cS, g1_0, g1_2, g1_3, g1_8, g1_9, g2_0, g2_2, g2_3, g2_8, g2_9]
    refine hK _ _ ?_
    clear hK K
    refine cv_gen fun G3 hG => ?_
    have g3_0 := congrFun hG 0
    have g3_2 := congrFun hG 2
    have g3_3 := congrFun hG 3
    have g3_8 := congrFun hG 8
    have g3_9 := congrFun hG 9
    clear hG
    try simp -implicitDefEqProofs (disch := first | omega | decide) only [seval, -Int.reducePow, -Nat.reducePow, cA, cB, pv, binv, fresh, thenQ, blockQ, retQ, Value.oneCell', Value.cells, undef, Nat.mul_one, mrC, mrB, mBox, modV, tBox, decV, cS, g1_0, g1_2, g1_3, g1_8, g1_9, g2_0, g2_2, g2_3, g2_8, g2_9] at g3_0 g3_2 g3_3 g3_8 g3_9
    refine cv_snap [0, 5, 6, 7] (by decide) fun v' f' hv' hf' => ?_
    simp only [pickL, nth]
    have k4 := hv'.footK hf' (k := 3) rfl (by decide) (by simp [pickL, nth, Res.foot])
    obtain ⟨k1, -⟩ := hv'.snapK hf' 4 rfl (by decide) (by simp [pickL, nth, Res.foot])
    have k3 := hv'.footK hf' (k := 4) rfl (by decide) (by simp [pickL, nth, Res.foot])
    simp only [snap_foot] at k3
    have hty' : ∀ t ∈ ts ++ [⟨d.1, A5, n5, c5, d.2.1⟩], Sd v' (fun y => y ∈ f') 2 t.A t.n t.c (cl fdc t.fs) := by
      intro t ht
      rcases List.mem_append.1 ht with ht | ht
      · exact (hty t ht).same (fun y hy => k1 y (.inl hy)) k3
      · obtain rfl : t = ⟨d.1, A5, n5, c5, d.2.1⟩ := by simpa using ht
        exact Sd.of_own (hv'.holds _ (.tail _ (.tail _ (.tail _ (.head _))))) fun g hg => k4 g (by simpa [Res.foot] using hg)
    clear k4 k1 k3 hv' hf'
    refine cv_region_then rfl ?_
    simp -implicitDefEqProofs (disch := first | omega | decide) only [seval, -Int.reducePow, -Nat.reducePow, cA, cB, pv, binv, fresh, thenQ, blockQ, retQ, Value.oneCell', Value.cells, undef, Nat.mul_one, mrC, mrB, mBox, modV, tBox, decV, cS, wrap_in, g1_0, g1_2, g1_3, g1_8, g1_9, g2_0, g2_2, g2_3, g2_8, g2_9, g3_0, g3_2, g3_3, g3_8, g3_9]
    refine ⟨⟨j + 1, A7, c7, ts ++ [⟨d.1, A5, n5, c5, d.2.1⟩], sbase c' d.2.2.1 1 A', n' - d.2.2.1, c' - d.2.2.1, l'.drop d.2.2.1, 0, v', f', ?_⟩, ?_⟩
    · simp -implicitDefEqProofs (disch := first | omega | decide) only [seval, -Int.reducePow, -Nat.reducePow, cA, cB, pv, binv, fresh, thenQ, blockQ, retQ, Value.oneCell', Value.cells, undef, Nat.mul_one, mrC, mrB, mBox, modV, tBox, decV, cS, Int.natCast_add, cl_snoc, tyc, hze, g1_0, g1_2, g1_3, g1_8, g1_9, g2_0, g2_2, g2_3, g2_8, g2_9, g3_0, g3_2, g3_3, g3_8, g3_9]
      refine ⟨hL'.drop hdl, ?_, hty'⟩
      rw [List.map_append]
      exact hst
    · simp only [intOf]; omega
  refine cv_exit ?_
  simp only [blockQ, thenQ, if_true, ite_true]
  clear hK K
  refine hK _ _ ?_
  clear hK K
  have hj : ¬ j < v1 := by have := of_decide_eq_false hc; omega
  have ho := hS'.fin (.inl hj)
  have hj32 := hS'.1
  obtain ⟨v2, A2, n2, c2, l2, e2, s2, L2⟩ := hL'.num e' 32 (by omega)
  have hS2 : Lc fnX (decX l) ((), ts.map tyD) v2 0 [] l2 e2 := s2.start ho
  have hv2 := s2.le
  refine cv_gen fun G4 hG => ?_
  have g4_0 := congrFun hG 0
  have g4_2 := congrFun hG 2
  have g4_3 := congrFun hG 3
  clear hG
  try simp -implicitDefEqProofs (disch := first | omega | decide) only [seval, -Int.reducePow, -Nat.reducePow, cA, cB, pv, binv, fresh, thenQ, blockQ, retQ, Value.oneCell', Value.cells, undef, Nat.mul_one, mrC, mrB, mBox, modV, tBox, decV, cS, g1_0, g1_2, g1_3, g1_8, g1_9, g2_0, g2_2, g2_3, g2_8, g2_9] at g4_0 g4_2 g4_3
  refine cv_len 1 rfl fun hl6 => ?_
  refine cv_seq_k fun K hK => ?_
  refine cv_seq_k fun K hK => ?_
  refine cv_region_then rfl ?_
  simp -implicitDefEqProofs (disch := first | omega | decide) only [seval, -Int.reducePow, -Nat.reducePow, cA, cB, pv, binv, fresh, thenQ, blockQ, retQ, Value.oneCell', Value.cells, undef, Nat.mul_one, mrC, mrB, mBox, modV, tBox, decV, cS, g1_0, g1_2, g1_3, g1_8, g1_9, g2_0, g2_2, g2_3, g2_8, g2_9, g4_0, g4_2, g4_3]
  refine callV_mod1 4 (fun w hw => mnum_any s2 (hw.hold 4 rfl) (hL'.at hw)) rfl ?_
  try simp -implicitDefEqProofs (disch := first | omega | decide) only [seval, -Int.reducePow, -Nat.reducePow, cA, cB, pv, binv, fresh, thenQ, blockQ, retQ, Value.oneCell', Value.cells, undef, Nat.mul_one, mrC, mrB, mBox, modV, tBox, decV, cS, g1_0, g1_2, g1_3, g1_8, g1_9, g2_0, g2_2, g2_3, g2_8, g2_9, g4_0, g4_2, g4_3]
  refine hK _ _ ?_
  clear hK K
  refine cv_gen fun G5 hG => ?_
  have g5_0 := congrFun hG 0
  have g5_2 := congrFun hG 2
  have g5_3 := congrFun hG 3
  have g5_34 := congrFun hG 34
  have g5_35 := congrFun hG 35
  clear hG
  try simp -implicitDefEqProofs (disch := first | omega | decide) only [seval, -Int.reducePow, -Nat.reducePow, cA, cB, pv, binv, fresh, thenQ, blockQ, retQ, Value.oneCell', Value.cells, undef, Nat.mul_one, mrC, mrB, mBox, modV, tBox, decV, cS, g1_0, g1_2, g1_3, g1_8, g1_9, g2_0, g2_2, g2_3, g2_8, g2_9, g4_0, g4_2, g4_3] at g5_0 g5_2 g5_3 g5_34 g5_35
  refine cv_block ?_
  refine cv_snap [2, 3, 4] (by decide) fun v5 f5 hv5 hf5 => ?_
  simp only [pickL, nth]
  have k4 := hv5.footK hf5 (k := 1) rfl (by decide) (by simp [pickL, nth, Res.foot])
  obtain ⟨k1, -⟩ := hv5.snapK hf5 0 rfl (by decide) (by simp [pickL, nth, Res.foot])
  have k3 := hv5.footK hf5 (k := 0) rfl (by decide) (by simp [pickL, nth, Res.foot])
  simp only [snap_foot] at k3
  have hT5 : Sd v5 (fun y => y ∈ f5) 2 A6 j c6 (cl tyc ts) := Sd.of_own (hv5.holds _ (.tail _ (.head _))) fun g hg => k4 g (by simpa [Res.foot] using hg)
  have hty5 : ∀ t ∈ ts, Sd v5 (fun y => y ∈ f5) 2 t.A t.n t.c (cl fdc t.fs) := fun t ht => (hty t ht).same (fun y hy => k1 y (.inl hy)) k3
  clear k4 k1 k3 hv5 hf5 hty
  refine cv_nil 43 4 ?_
  refine cv_pick [1, 0, 2, 3, 4] (by decide) ?_
  simp only [pickL, nth]
  refine cv_loop (fun F' L' => ∃ (i : Nat) (A7 : Option Addr) (c7 : Nat) (gs : List FnR) (A' : Option Addr) (n' c' : Nat) (l' : List Nat) (e' : Int) (v : World) (f : List Nat), F' 0 = G5 0 ∧ F' 2 = G5 2 ∧ F' 3 = G5 3 ∧ F' 34 = G5 34 ∧ F' 35 = .int .i64 (i : Int) ∧ L' = [snap [r] W v f, .row (.slice A7 i c7) 43 4 i (cl fnc gs), .blk b3 25 [.slice A6 j c6, .slice A7 i c7], .blk b2 25 [.slice none 0 0, .slice none 0 0], mrB r A' n' c' e'] ∧ Lt W r A' n' c' l' ∧ (∃ qs, Lc fnX (decX l) ((), ts.map tyD) v2 i qs l' e' ∧ gs.map fnD = qs.map qD) ∧ Sd v (fun y => y ∈ f) 2 A6 j c6 (cl tyc ts) ∧ (∀ t ∈ ts, Sd v (fun y => y ∈ f) 2 t.A t.n t.c (cl fdc t.fs)) ∧ (∀ g ∈ gs, Sd v (fun y => y ∈ f) 2 g.A g.n g.c (cl insc g.code) ∧ ∀ x ∈ g.code, x.arg < 18446744073709551616) ∧ (i < v2 → e' = 0)) (fun F' L' => 100 - (intOf (F' 35)).toNat) ?_ ?_
  · refine ⟨0, none, 0, [], A2, n2, c2, l2, e2, v5, f5, ?_⟩
    simp -implicitDefEqProofs (disch := first | omega | decide) only [seval, -Int.reducePow, -Nat.reducePow, cA, cB, pv, binv, fresh, thenQ, blockQ, retQ, Value.oneCell', Value.cells, undef, Nat.mul_one, mrC, mrB, mBox, modV, tBox, decV, cS, g1_0, g1_2, g1_3, g1_8, g1_9, g2_0, g2_2, g2_3, g2_8, g2_9, g5_0, g5_2, g5_3, g5_34, g5_35]
    refine ⟨rfl, L2, ⟨[], hS2, rfl⟩, hT5, hty5, by simp, fun h => ?_⟩
    by_cases h0 : e2 = 0
    · exact h0
    · have := s2.err h0
      omega
  clear hT5 hty5 hS2 ho hL' hS'
  intro G6 L' hI
  obtain ⟨i, A7, c7, gs, A', n', c', l', e', v, f, q0, q2, q3, q34, q35, rfl, ⟨hL', ⟨qs, hS', hqs⟩, hT, hty, hfn, he'⟩⟩ := hI
  have g6_0 := q0.trans g5_0
  have g6_2 := q2.trans g5_2
  have g6_3 := q3.trans g5_3
  have g6_34 := q34.trans g5_34
  have g6_35 := q35
  clear q0 q2 q3 q34 q35
  refine cv_seq_k fun K hK => ?_
  refine cv_region_then rfl ?_
  simp -implicitDefEqProofs (disch := first | omega | decide) only [seval, -Int.reducePow, -Nat.reducePow, cA, cB, pv, binv, fresh, thenQ, blockQ, retQ, Value.oneCell', Value.cells, undef, Nat.mul_one, mrC, mrB, mBox, modV, tBox, decV, cS, g1_0, g1_2, g1_3, g1_8, g1_9, g2_0, g2_2, g2_3, g2_8, g2_9, g5_0, g5_2, g5_3, g5_34, g5_35, g6_0, g6_2, g6_3, g6_34, g6_35]
  refine hK _ _ ?_
  clear hK K
  refine cv_seq_k fun K hK => ?_
  refine cv_cond ?_
  simp -implicitDefEqProofs (disch := first | omega | decide) only [seval, -Int.reducePow, -Nat.reducePow, cA, cB, pv, binv, fresh, thenQ, blockQ, retQ, Value.oneCell', Value.cells, undef, Nat.mul_one, mrC, mrB, mBox, modV, tBox, decV, cS, g1_0, g1_2, g1_3, g1_8, g1_9, g2_0, g2_2, g2_3, g2_8, g2_9, g5_0, g5_2, g5_3, g5_34, g5_35, g6_0, g6_2, g6_3, g6_34, g6_35]
  refine ⟨fun hc => ?_, fun hc => ?_⟩
  · refine cv_skip ?_
    try simp only [blockQ, thenQ]
    have hj : i < v2 := by have := of_decide_eq_true hc; omega
    have h0 := he' hj
    subst h0
    refine hK _ _ ?_
    clear hK K
    refine cv_seq_k fun K hK => ?_
    refine cv_block ?_
    refine cv_seq_k fun K hK => ?_
    refine cv_draw_of (pickL [2] _) (fun w hw => hw.pick (by decide)) (by simp only [pickL, nth, suf_cons, suf_nil, List.mem_cons, true_or, or_true, and_true, eq_self]) [(true, 0), (true, 1), (true, 2), (false, 3), (false, 4), (false, 5), (true, 6), (false, 7)] [7] mixA rfl (by kernel_rfl) (by kernel_rfl) rfl rfl ?_
    simp -implicitDefEqProofs (disch := first | omega | decide) only [seval, -Int.reducePow, -Nat.reducePow, cA, cB, pv, binv, fresh, thenQ, blockQ, retQ, Value.oneCell', Value.cells, undef, Nat.mul_one, mrC, mrB, mBox, modV, tBox, decV, cS, g1_0, g1_2, g1_3, g1_8, g1_9, g2_0, g2_2, g2_3, g2_8, g2_9, g5_0, g5_2, g5_3, g5_34, g5_35, g6_0, g6_2, g6_3, g6_34, g6_35]
    refine callV_nestM 4 (fun i : FnR × Option Addr × Nat × Nat × List Nat × Int => fnV i.1) (fnΦ r A' n' c' l') (fun i => mrC i.2.1 i.2.2.1 i.2.2.2.1 i.2.2.2.2.2) rfl (fun w hw => mfunc_any r A' n' c' l' w (hw.hold 4 rfl) (hL'.at hw)) ?_
    rintro ⟨g, A8, n8, c8, l8, e8⟩ w0 w1 f1 hw0 hw1 ⟨hsub, hΦ⟩ hNw
    have hL8 := hsub W hL'
    simp only at hL8 hΦ
    simp -implicitDefEqProofs (disch := first | omega | decide) only [seval, -Int.reducePow, -Nat.reducePow, cA, cB, pv, binv, fresh, thenQ, blockQ, retQ, Value.oneCell', Value.cells, undef, Nat.mul_one, mrC, mrB, mBox, modV, tBox, decV, cS, fnV, g1_0, g1_2, g1_3, g1_8, g1_9, g2_0, g2_2, g2_3, g2_8, g2_9, g5_0, g5_2, g5_3, g5_34, g5_35, g6_0, g6_2, g6_3, g6_34, g6_35]
    intro b41 hb41 h41
    refine appV_at 3 tap23 rfl (fun w hw => src_blk (size := 4) (.head _) rfl hw) rfl (by omega) (by omega) ?_
    intro A9 c9 hl9 hr9
    simp -implicitDefEqProofs (disch := first | omega | decide) only [seval, -Int.reducePow, -Nat.reducePow, cA, cB, pv, binv, fresh, thenQ, blockQ, retQ, Value.oneCell', Value.cells, undef, Nat.mul_one, mrC, mrB, mBox, modV, tBox, decV, cS, g1_0, g1_2, g1_3, g1_8, g1_9, g2_0, g2_2, g2_3, g2_8, g2_9, g5_0, g5_2, g5_3, g5_34, g5_35, g6_0, g6_2, g6_3, g6_34, g6_35]
    refine hK _ _ ?_
    clear hK K
    refine cv_pick [0, 2, 3, 4, 5, 6] (by decide) ?_
    simp only [pickL, nth]
    refine cv_seq_k fun K hK => ?_
    refine cv_region_then rfl ?_
    simp -implicitDefEqProofs (disch := first | omega | decide) only [seval, -Int.reducePow, -Nat.reducePow, cA, cB, pv, binv, fresh, thenQ, blockQ, retQ, Value.oneCell', Value.cells, undef, Nat.mul_one, mrC, mrB, mBox, modV, tBox, decV, cS, g1_0, g1_2, g1_3, g1_8, g1_9, g2_0, g2_2, g2_3, g2_8, g2_9, g5_0, g5_2, g5_3, g5_34, g5_35, g6_0, g6_2, g6_3, g6_34, g6_35]
    refine hK _ _ ?_
    clear hK K
    refine cv_cond ?_
    simp -implicitDefEqProofs (disch := first | omega | decide) only [seval, -Int.reducePow, -Nat.reducePow, cA, cB, pv, binv, fresh, thenQ, blockQ, retQ, Value.oneCell', Value.cells, undef, Nat.mul_one, mrC, mrB, mBox, modV, tBox, decV, cS, g1_0, g1_2, g1_3, g1_8, g1_9, g2_0, g2_2, g2_3, g2_8, g2_9, g5_0, g5_2, g5_3, g5_34, g5_35, g6_0, g6_2, g6_3, g6_34, g6_35]
    refine ⟨fun hc => ?_, fun hc => ?_⟩
    · have hne : ¬ e8 = 0 := by simpa using ‹(!decide (e8 = 0)) = true›
      have hx : fnX l' = .error e8 := by
        rcases hΦ with h | h
        · exact absurd h.1 hne
        · exact h.2
      have hst := hS'.step (l' := l') (e' := e8) hj (show Out (fnX l') (((((), 0), 0), 0), []) l' e8 from .inr ⟨hne, hx⟩)
      refine cv_seq_k fun K hK => ?_
      refine cv_region_then rfl ?_
      simp -implicitDefEqProofs (disch := first | omega | decide) only [seval, -Int.reducePow, -Nat.reducePow, cA, cB, pv, binv, fresh, thenQ, blockQ, retQ, Value.oneCell', Value.cells, undef, Nat.mul_one, mrC, mrB, mBox, modV, tBox, decV, cS, g1_0, g1_2, g1_3, g1_8, g1_9, g2_0, g2_2, g2_3, g2_8, g2_9, g5_0, g5_2, g5_3, g5_34, g5_35, g6_0, g6_2, g6_3, g6_34, g6_35]
      refine hK _ _ ?_
      clear hK K
      refine cv_ret ?_
      simp -implicitDefEqProofs (disch := first | omega | decide) only [seval, -Int.reducePow, -Nat.reducePow, cA, cB, pv, binv, fresh, thenQ, blockQ, retQ, Value.oneCell', Value.cells, undef, Nat.mul_one, mrC, mrB, mBox, modV, tBox, decV, cS, retQ2, ressV, packV, g1_0, g1_2, g1_3, g1_8, g1_9, g2_0, g2_2, g2_3, g2_8, g2_9, g5_0, g5_2, g5_3, g5_34, g5_35, g6_0, g6_2, g6_3, g6_34, g6_35]
      intro w hw
      exact ⟨(zMod, A8, n8, c8, e8), rfl, .inr ⟨hne, decL_err (hst.err hne)⟩, hw.hold 5 rfl, hw.pres⟩
    have hze : e8 = 0 := by simpa using ‹(!decide (e8 = 0)) = false›
    subst hze
    obtain ⟨⟨q, hq, hdq⟩, hcd, hag⟩ : (∃ q, fnX l' = .ok (q, l8) ∧ fnD g = qD q) ∧ Sd w1 (Nw w0 w1) 2 g.A g.n g.c (cl insc g.code) ∧ ∀ x ∈ g.code, x.arg < 18446744073709551616 := by
      rcases hΦ with h | h
      · exact h.2
      · exact absurd rfl h.1
    have hst := hS'.step hj (.inl ⟨rfl, hq⟩)
    refine cv_skip ?_
    try simp only [blockQ, thenQ]
    refine hK _ _ ?_
    clear hK K
    refine cv_gen fun G7 hG => ?_
    have g7_0 := congrFun hG 0
    have g7_2 := congrFun hG 2
    have g7_3 := congrFun hG 3
    have g7_34 := congrFun hG 34
    have g7_35 := congrFun hG 35
    clear hG
    try simp -implicitDefEqProofs (disch := first | omega | decide) only [seval, -Int.reducePow, -Nat.reducePow, cA, cB, pv, binv, fresh, thenQ, blockQ, retQ, Value.oneCell', Value.cells, undef, Nat.mul_one, mrC, mrB, mBox, modV, tBox, decV, cS, g1_0, g1_2, g1_3, g1_8, g1_9, g2_0, g2_2, g2_3, g2_8, g2_9, g5_0, g5_2, g5_3, g5_34, g5_35, g6_0, g6_2, g6_3, g6_34, g6_35] at g7_0 g7_2 g7_3 g7_34 g7_35
    refine cv_snap [0, 3, 4, 5] (by decide) fun v' f' hv' hf' => ?_
    simp only [pickL, nth]
    obtain ⟨k1, -⟩ := hv'.snapK hf' 2 rfl (by decide) (by simp [pickL, nth, Res.foot])
    have k3 := hv'.footK hf' (k := 2) rfl (by decide) (by simp [pickL, nth, Res.foot])
    obtain ⟨m1, -⟩ := hv'.snapK hf' 1 rfl (by decide) (by simp [pickL, nth, Res.foot])
    have m3 := hv'.footK hf' (k := 1) rfl (by decide) (by simp [pickL, nth, Res.foot])
    simp only [snap_foot] at k3 m3
    have hT' : Sd v' (fun y => y ∈ f') 2 A6 j c6 (cl tyc ts) := hT.same (fun y hy => k1 y (.inl hy)) k3
    have hty' : ∀ t ∈ ts, Sd v' (fun y => y ∈ f') 2 t.A t.n t.c (cl fdc t.fs) := fun t ht => (hty t ht).same (fun y hy => k1 y (.inl hy)) k3
    have hfn' : ∀ h ∈ gs ++ [g], Sd v' (fun y => y ∈ f') 2 h.A h.n h.c (cl insc h.code) ∧ ∀ x ∈ h.code, x.arg < 18446744073709551616 := by
      intro h hh
      rcases List.mem_append.1 hh with hh | hh
      · exact ⟨(hfn h hh).1.same (fun y hy => k1 y (.inl hy)) k3, (hfn h hh).2⟩
      · obtain rfl : h = g := by simpa using hh
        exact ⟨hcd.same (fun y hy => m1 y (.inl (hNw y hy))) fun y hy => m3 y (hNw y hy), hag⟩
    clear k1 k3 m1 m3 hv' hf' hT hty hfn hcd
    refine cv_region_then rfl ?_
    simp -implicitDefEqProofs (disch := first | omega | decide) only [seval, -Int.reducePow, -Nat.reducePow, cA, cB, pv, binv, fresh, thenQ, blockQ, retQ, Value.oneCell', Value.cells, undef, Nat.mul_one, mrC, mrB, mBox, modV, tBox, decV, cS, wrap_in, g1_0, g1_2, g1_3, g1_8, g1_9, g2_0, g2_2, g2_3, g2_8, g2_9, g5_0, g5_2, g5_3, g5_34, g5_35, g6_0, g6_2, g6_3, g6_34, g6_35, g7_0, g7_2, g7_3, g7_34, g7_35]
    refine ⟨⟨i + 1, A9, c9, gs ++ [g], A8, n8, c8, l8, 0, v', f', ?_⟩, ?_⟩
    · simp -implicitDefEqProofs (disch := first | omega | decide) only [seval, -Int.reducePow, -Nat.reducePow, cA, cB, pv, binv, fresh, thenQ, blockQ, retQ, Value.oneCell', Value.cells, undef, Nat.mul_one, mrC, mrB, mBox, modV, tBox, decV, cS, Int.natCast_add, cl_snoc, fnc, g1_0, g1_2, g1_3, g1_8, g1_9, g2_0, g2_2, g2_3, g2_8, g2_9, g5_0, g5_2, g5_3, g5_34, g5_35, g6_0, g6_2, g6_3, g6_34, g6_35, g7_0, g7_2, g7_3, g7_34, g7_35]
      refine ⟨hL8, ⟨_, hst, by rw [List.map_append, List.map_append, hqs, List.map_singleton, List.map_singleton, hdq]⟩, hT', hty', hfn'⟩
    · simp only [intOf]; omega
  refine cv_exit ?_
  simp only [blockQ, thenQ, if_true, ite_true]
  clear hK K
  refine hK _ _ ?_
  clear hK K
  have hj : ¬ i < v2 := by have := of_decide_eq_false hc; omega
  have ho := hS'.fin (.inl hj)
  have hln := hL'.len
  refine cv_gen fun G8 hG => ?_
  have g8_0 := congrFun hG 0
  have g8_2 := congrFun hG 2
  have g8_3 := congrFun hG 3
  clear hG
  try simp -implicitDefEqProofs (disch := first | omega | decide) only [seval, -Int.reducePow, -Nat.reducePow, cA, cB, pv, binv, fresh, thenQ, blockQ, retQ, Value.oneCell', Value.cells, undef, Nat.mul_one, mrC, mrB, mBox, modV, tBox, decV, cS, g1_0, g1_2, g1_3, g1_8, g1_9, g2_0, g2_2, g2_3, g2_8, g2_9, g5_0, g5_2, g5_3, g5_34, g5_35, g6_0, g6_2, g6_3, g6_34, g6_35] at g8_0 g8_2 g8_3
  refine cv_seq_k fun K hK => ?_
  refine cv_cut (fun _ _ => True) (fun F' L' => ∃ (e9 : Int), F' 2 = G8 2 ∧ F' 3 = G8 3 ∧ L' = [snap [r] W v f, .row (.slice A7 i c7) 43 4 i (cl fnc gs), .blk b3 25 [.slice A6 j c6, .slice A7 i c7], .blk b2 25 [.slice none 0 0, .slice none 0 0], mrB r A' n' c' e9] ∧ e9 = if e' = 0 ∧ 0 < n' then 3 else e') ?_ ?_
  · refine cv_seq_k fun K hK => ?_
    refine cv_cut (fun _ _ => True) (fun F' L' => F' 0 = G8 0 ∧ F' 2 = G8 2 ∧ F' 3 = G8 3 ∧ F' 63 = .bool (decide (e' = 0 ∧ 0 < n')) ∧ L' = [snap [r] W v f, .row (.slice A7 i c7) 43 4 i (cl fnc gs), .blk b3 25 [.slice A6 j c6, .slice A7 i c7], .blk b2 25 [.slice none 0 0, .slice none 0 0], mrB r A' n' c' e']) ?_ ?_
    · refine cv_region_then rfl ?_
      simp -implicitDefEqProofs (disch := first | omega | decide) only [seval, -Int.reducePow, -Nat.reducePow, cA, cB, pv, binv, fresh, thenQ, blockQ, retQ, Value.oneCell', Value.cells, undef, Nat.mul_one, mrC, mrB, mBox, modV, tBox, decV, cS, g1_0, g1_2, g1_3, g1_8, g1_9, g2_0, g2_2, g2_3, g2_8, g2_9, g5_0, g5_2, g5_3, g5_34, g5_35, g6_0, g6_2, g6_3, g6_34, g6_35, g8_0, g8_2, g8_3]
      repeat' ((first | refine vcg_cases (fun hg => ?_) (fun hg => ?_) | refine vdg_cases (fun hg => ?_) (fun hg => ?_)) <;> ((try simp only [Bool.not_eq_true', Bool.not_eq_false', decide_eq_true_eq, decide_eq_false_iff_not] at hg); (try simp -implicitDefEqProofs (disch := first | omega | decide) only [seval, -Int.reducePow, -Nat.reducePow, cA, cB, pv, binv, fresh, thenQ, blockQ, retQ, Value.oneCell', Value.cells, undef, Nat.mul_one, mrC, mrB, mBox, modV, tBox, decV, cS, hg, g1_0, g1_2, g1_3, g1_8, g1_9, g2_0, g2_2, g2_3, g2_8, g2_9, g5_0, g5_2, g5_3, g5_34, g5_35, g6_0, g6_2, g6_3, g6_34, g6_35, g8_0, g8_2, g8_3])))
      all_goals (repeat' refine And.intro ?_ ?_)
      all_goals (first | with_reducible rfl | (refine congrArg Value.bool ?_; rw [Bool.eq_iff_iff]; (try simp only [decide_eq_true_eq, eq_self, true_and, and_true, false_and, and_false, true_or, or_true, false_or, or_false, not_true_eq_false, not_false_eq_true, true_iff, iff_true, false_iff, iff_false, Bool.false_eq_true, Bool.not_eq_true', Bool.not_eq_true, decide_eq_false_iff_not, Bool.and_eq_true, Bool.or_eq_true]) <;> omega) | (refine congrArg (Value.int _) ?_; omega) | omega)
    intro G9 L' _ hF
    obtain ⟨q0, q2, q3, q63, rfl⟩ := hF
    have g9_0 := q0.trans g8_0
    have g9_2 := q2.trans g8_2
    have g9_3 := q3.trans g8_3
    have g9_63 := q63
    clear q0 q2 q3 q63
    refine hK _ _ ?_
    clear hK K
    refine cv_cond ?_
    simp -implicitDefEqProofs (disch := first | omega | decide) only [seval, -Int.reducePow, -Nat.reducePow, cA, cB, pv, binv, fresh, thenQ, blockQ, retQ, Value.oneCell', Value.cells, undef, Nat.mul_one, mrC, mrB, mBox, modV, tBox, decV, cS, g1_0, g1_2, g1_3, g1_8, g1_9, g2_0, g2_2, g2_3, g2_8, g2_9, g5_0, g5_2, g5_3, g5_34, g5_35, g6_0, g6_2, g6_3, g6_34, g6_35, g8_0, g8_2, g8_3, g9_0, g9_2, g9_3, g9_63]
    refine ⟨fun hc => ?_, fun hc => ?_⟩
    · have h9 := of_decide_eq_true ‹_›
      refine cv_region_q rfl ?_
      simp -implicitDefEqProofs (disch := first | omega | decide) only [seval, -Int.reducePow, -Nat.reducePow, cA, cB, pv, binv, fresh, thenQ, blockQ, retQ, Value.oneCell', Value.cells, undef, Nat.mul_one, mrC, mrB, mBox, modV, tBox, decV, cS, g1_0, g1_2, g1_3, g1_8, g1_9, g2_0, g2_2, g2_3, g2_8, g2_9, g5_0, g5_2, g5_3, g5_34, g5_35, g6_0, g6_2, g6_3, g6_34, g6_35, g8_0, g8_2, g8_3, g9_0, g9_2, g9_3, g9_63]
      exact ⟨_, rfl, by rw [if_pos h9]⟩
    · have h9 := of_decide_eq_false ‹_›
      refine cv_skip ?_
      try simp only [blockQ, thenQ]
      simp -implicitDefEqProofs (disch := first | omega | decide) only [seval, -Int.reducePow, -Nat.reducePow, cA, cB, pv, binv, fresh, thenQ, blockQ, retQ, Value.oneCell', Value.cells, undef, Nat.mul_one, mrC, mrB, mBox, modV, tBox, decV, cS, g1_0, g1_2, g1_3, g1_8, g1_9, g2_0, g2_2, g2_3, g2_8, g2_9, g5_0, g5_2, g5_3, g5_34, g5_35, g6_0, g6_2, g6_3, g6_34, g6_35, g8_0, g8_2, g8_3, g9_0, g9_2, g9_3, g9_63]
      exact ⟨_, rfl, by rw [if_neg h9]⟩
  intro G10 L' _ hF
  obtain ⟨e9, q2, q3, rfl, he9⟩ := hF
  have g10_2 := q2.trans g8_2
  have g10_3 := q3.trans g8_3
  clear q2 q3
  refine hK _ _ ?_
  clear hK K
  refine cv_seq_k fun K hK => ?_
  refine cv_region_then rfl ?_
  simp -implicitDefEqProofs (disch := first | omega | decide) only [seval, -Int.reducePow, -Nat.reducePow, cA, cB, pv, binv, fresh, thenQ, blockQ, retQ, Value.oneCell', Value.cells, undef, Nat.mul_one, mrC, mrB, mBox, modV, tBox, decV, cS, g1_0, g1_2, g1_3, g1_8, g1_9, g2_0, g2_2, g2_3, g2_8, g2_9, g5_0, g5_2, g5_3, g5_34, g5_35, g6_0, g6_2, g6_3, g6_34, g6_35, g10_2, g10_3]
  refine hK _ _ ?_
  clear hK K
  refine cv_ret ?_
  simp -implicitDefEqProofs (disch := first | omega | decide) only [seval, -Int.reducePow, -Nat.reducePow, cA, cB, pv, binv, fresh, thenQ, blockQ, retQ, Value.oneCell', Value.cells, undef, Nat.mul_one, mrC, mrB, mBox, modV, tBox, decV, cS, retQ2, ressV, packV, g1_0, g1_2, g1_3, g1_8, g1_9, g2_0, g2_2, g2_3, g2_8, g2_9, g5_0, g5_2, g5_3, g5_34, g5_35, g6_0, g6_2, g6_3, g6_34, g6_35, g10_2, g10_3]
  intro w hw
  refine ⟨(⟨A6, j, c6, ts, A7, i, c7, gs⟩, A', n', c', e9), rfl, ?_, hw.hold 4 rfl, hw.pres⟩
  rcases ho with ⟨h0, ho⟩ | ⟨h0, ho⟩
  · by_cases h1 : 0 < n'
    · rw [if_pos ⟨h0, h1⟩] at he9
      refine .inr ⟨by dsimp only; omega, ?_⟩
      dsimp only
      unfold decL
      rw [ho]
      dsimp only
      rw [if_neg (fun h => by rw [h] at hln; simp at hln; omega), he9]
    · rw [if_neg (fun h => h1 h.2)] at he9
      have hl0 : l' = [] := List.length_eq_zero_iff.1 (by omega)
      have hnew := hw.snapNew 0 rfl fun m hm => ⟨4, _, rfl, by simpa [Res.foot] using hm, by omega⟩
      have hs := hw.snap_same (.head _)
      refine .inl ⟨by dsimp only; omega, ⟨_, by unfold decL; rw [ho]; dsimp only; rw [if_pos hl0], ?_⟩, hT.same (fun y hy => hs y (.inl hy)) hnew, fun t ht => (hty t ht).same (fun y hy => hs y (.inl hy)) hnew, Sd.ownNew (hw.tail.rowNew (by simp [Res.foot])), fun g hg => (hfn g hg).1.same (fun y hy => hs y (.inl hy)) hnew, fun g hg => (hfn g hg).2⟩
      unfold datM datQ
      rw [hqs]
      rfl
  · rw [if_neg (fun h => h0 h.1)] at he9
    refine .inr ⟨by dsimp only; omega, ?_⟩
    dsimp only
    rw [he9]
    exact decL_err ho
end Go.Proofs.Ytehfnjaompkikaa
