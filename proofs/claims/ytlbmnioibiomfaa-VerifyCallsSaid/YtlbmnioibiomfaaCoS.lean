/- The coder's statements. -/
import Derived.Test.YtlbmnioibiomfaaCoW
import Derived.Test.YtlbmnioibiomfaaTree
namespace Go.Proofs.Ytlbmnioibiomfaa
open Go.RowKit Go.Shelf
set_option linter.unusedVariables false
set_option linter.unusedSimpArgs false
set_option maxRecDepth 100000
theorem CoPre.oldE {W w : World} {D E : Nat → Prop} {x : Cx} {s : CoS} {i : Nat} {L : List Res} (h0 : CoPre W D E x s i) (hw : St [x.b, x.tb] W L w) : ∀ y, E y → w.heap[y]? = W.heap[y]? := fun y hy => by
  have := h0.dom y (.inr hy)
  exact hw.pres.block y this.1 (by simp [this])
/-- A statement's beginning is noted. -/
theorem CoPre.note {W v : World} {D E : Nat → Prop} {x : Cx} {s s1 : CoS} {i : Nat} {L : List Res} {f : List Nat} (h0 : CoPre W D E x s i) (hv : St [x.b, x.tb] W L v) (hst : Sd v (Dn D f) 1 s1.SA s1.sn s1.sc (i64c s1.st)) (e1 : s1.A = s.A) (e2 : s1.n = s.n) (e3 : s1.c = s.c) (e4 : s1.code = s.code) (sok : ∀ y ∈ s1.st, y ≤ 100000) : CoD v (Dn D f) E x s1 :=
  ⟨by rw [e1, e2, e3, e4]; exact h0.dat.code.same (h0.old hv) fun y hy => .inr hy, hst, h0.dat.tape.same (h0.oldE hv) fun _ h => h, by rw [e4]; exact h0.dat.ok, sok⟩
set_option maxRecDepth 100000 in
theorem sCoS1 : type_of% (And.intro (And.intro (And.intro @coB.eq_1 @coT.eq_1) (And.intro @coC.eq_1 @tape.eq_1)) (And.intro (And.intro @tpBox.eq_1 @cS) (And.intro @Nat.mul_one @cT))) := (And.intro (And.intro (And.intro @coB.eq_1 @coT.eq_1) (And.intro @coC.eq_1 @tape.eq_1)) (And.intro (And.intro @tpBox.eq_1 @cS) (And.intro @Nat.mul_one @cT)))
set_option maxHeartbeats 8000000 in
theorem statement_co (x : Cx) (D E : Nat → Prop) (s0 : CoS) (i : Nat) (W : World) (hp : CoPre W D E x s0 i) (hi : i ≤ 600000) (hl : s0.code.length ≤ 7000) (hl2 : s0.st.length ≤ 7000) :
    Calls Try.prog 23 #[.pointer (some ⟨x.b, 0, none⟩)] W (coP x D E 12 50 1 s0 i W) := by
  have hne := hp.ne
  have hD0 := hp.in0
  have hDE := hp.hDE
  have hE := fun y hy => (hp.dom y (.inr hy)).2.2
  have hln : s0.code.length = s0.n := cl_row insc_len (by omega) hD0.code.len
  have hlm : s0.st.length = s0.sn := i64_row hD0.sts.len
  refine calls_cv (M := [x.b, x.tb]) (n := 108) [] rfl Try.func23 rfl rfl (Nat.le_of_ble_eq_true rfl)  hp.st ?_
  refine cv_gen fun G1 hG => ?_
  have g1_0 := congrFun hG 0
  clear hG
  try simp -implicitDefEqProofs (disch := first | omega | decide) only [seval, -Int.reducePow, -Nat.reducePow, cC, pv, binv, sCoS1, undef] at g1_0
  have g1 := g1_0
  refine cv_seq_k fun K hK => ?_
  refine cv_cut (fun _ _ => True) (fun F' L' => ∃ (A2 : Option Addr) (c2 : Nat), F' 0 = G1 0 ∧ L' = [.row (.slice A2 (s0.sn + 1) c2) 3 1 (s0.sn + 1) (i64c (s0.st ++ [s0.n])), snap [x.b, x.tb] W W [], .blk x.b 64 [.pointer (some ⟨x.tb, 0, none⟩), .slice s0.A s0.n s0.c, .slice A2 (s0.sn + 1) c2, .int .i64 (x.loc : Int), .int .i64 (x.fns : Int), .int .u32 (x.first : Int)], coT x i]) ?_ ?_
  · refine cv_q ?_
    refine cv_tree [0, 1, 2] (by decide) (by simp only [pickL, nth, suf_cons, suf_nil, List.mem_cons, true_or, or_true, and_true, eq_self]) (.rd 0 (.rd 2 (.rd 3 (.rd 4 (.rd 5 (.rd 7 (.rd 8 (.rd 9 (.rd 10 (.rd 11 (.alt 1 12 (.alt 6 12 (.act 12 (.act 13 (.rd 14 (.rd 15 (.act 16 (.done)))))) (.act 6 (.act 13 (.rd 14 (.rd 15 (.act 16 (.done))))))) (.act 1 (.act 6 (.act 13 (.rd 14 (.rd 15 (.act 16 (.done)))))))))))))))))) [16] mixA rfl (by kernel_rfl) (by kernel_rfl) (by kernel_rfl) (by kernel_rfl) ?_
    simp only [pickL, nth]
    simp -implicitDefEqProofs (disch := first | omega | decide) only [seval, -Int.reducePow, -Nat.reducePow, cC, pv, binv, sCoS1, undef, g1]
    refine ⟨?_, ?_⟩
    · intro b7 hb7 h7
      refine ⟨?_, ?_⟩
      · refine appV_lit 0 tap45 rfl rfl (fun w hw => by exact (hD0.sd hDE hw 1 rfl).reads) (ones_i64 _) (by omega) (by omega) ?_
        intro A1 c1 hl1 hr1
        simp -implicitDefEqProofs (disch := first | omega | decide) only [seval, -Int.reducePow, -Nat.reducePow, cC, pv, binv, sCoS1, undef, g1]
        intro b8 hb8 h8
        refine appV_at 1 tap45 rfl (fun w hw => src_blk (size := 1) (.head _) rfl hw) rfl (by omega) (by omega) ?_
        intro A2 c2 hl2 hr2
        simp -implicitDefEqProofs (disch := first | omega | decide) only [seval, -Int.reducePow, -Nat.reducePow, cC, pv, binv, sCoS1, undef, g1]
        refine ⟨[0, 2, 3, 4], by decide, ?_⟩
        simp only [pickL, nth]
        refine ⟨A2, c2, ?_⟩
        simp -implicitDefEqProofs (disch := first | omega | decide) only [seval, -Int.reducePow, -Nat.reducePow, cC, pv, binv, sCoS1, undef, i64_snoc, g1]
      · intro b8 hb8 h8
        refine appV_lit 1 tap45 rfl rfl (fun w hw => by exact (hD0.sd hDE hw 2 rfl).reads) (ones_i64 _) (by omega) (by omega) ?_
        intro A1 c1 hl1 hr1
        simp -implicitDefEqProofs (disch := first | omega | decide) only [seval, -Int.reducePow, -Nat.reducePow, cC, pv, binv, sCoS1, undef, g1]
        refine appV_at 0 tap45 rfl (fun w hw => src_blk (size := 1) (.tail _ (.head _)) rfl hw) rfl (by omega) (by omega) ?_
        intro A2 c2 hl2 hr2
        simp -implicitDefEqProofs (disch := first | omega | decide) only [seval, -Int.reducePow, -Nat.reducePow, cC, pv, binv, sCoS1, undef, g1]
        refine ⟨[0, 2, 3, 4], by decide, ?_⟩
        simp only [pickL, nth]
        refine ⟨A2, c2, ?_⟩
        simp -implicitDefEqProofs (disch := first | omega | decide) only [seval, -Int.reducePow, -Nat.reducePow, cC, pv, binv, sCoS1, undef, i64_snoc, g1]
    · intro b7 hb7 h7 b8 hb8 h8
      refine appV_lit 0 tap45 rfl rfl (fun w hw => by exact (hD0.sd hDE hw 2 rfl).reads) (ones_i64 _) (by omega) (by omega) ?_
      intro A1 c1 hl1 hr1
      simp -implicitDefEqProofs (disch := first | omega | decide) only [seval, -Int.reducePow, -Nat.reducePow, cC, pv, binv, sCoS1, undef, g1]
      refine appV_at 0 tap45 rfl (fun w hw => src_blk (size := 1) (.tail _ (.head _)) rfl hw) rfl (by omega) (by omega) ?_
      intro A2 c2 hl2 hr2
      simp -implicitDefEqProofs (disch := first | omega | decide) only [seval, -Int.reducePow, -Nat.reducePow, cC, pv, binv, sCoS1, undef, g1]
      refine ⟨[0, 2, 3, 4], by decide, ?_⟩
      simp only [pickL, nth]
      refine ⟨A2, c2, ?_⟩
      simp -implicitDefEqProofs (disch := first | omega | decide) only [seval, -Int.reducePow, -Nat.reducePow, cC, pv, binv, sCoS1, undef, i64_snoc, g1]
  intro G2 L' _ hF
  obtain ⟨A2, c2, q0, rfl⟩ := hF
  have g2_0 := q0.trans g1_0
  clear q0
  have g2 := g2_0
  refine hK _ _ ?_
  clear hK K
  refine cv_snap [2, 3] (by decide) fun v1 f1 hv1 hf1 => ?_
  simp only [pickL, nth]
  obtain ⟨s1, hs1⟩ : ∃ s : CoS, s = ⟨s0.A, s0.n, s0.c, s0.code, A2, s0.sn + 1, c2, s0.st ++ [s0.n]⟩ := ⟨_, rfl⟩
  have hD1 : CoD v1 (Dn D f1) E x s1 := by
    subst hs1
    refine hp.note hv1 (Sd.of_own (hv1.holds _ (.head _)) fun g hg => .inl (hv1.footK hf1 (k := 0) rfl (by decide) (by simp [pickL, nth, Res.foot, coT]) g (by simpa [Res.foot] using hg))) rfl rfl rfl rfl ?_
    intro y hy
    rcases List.mem_append.1 hy with hy | hy
    · exact hp.dat.sok y hy
    · obtain rfl : y = s0.n := by simpa using hy
      omega
  have h1c : s1.code.length = s0.code.length := by rw [hs1]
  have h1s : s1.st.length = s0.st.length + 1 := by rw [hs1]; simp
  refine cv_eq (L' := [snap [x.b, x.tb] W v1 f1, coB x s1, coT x i]) (by rw [hs1]; rfl) ?_
  clear hs1 hv1 hf1
  refine cv_seq_k fun K hK => ?_
  refine cv_region_then rfl ?_
  simp -implicitDefEqProofs (disch := first | omega | decide) only [seval, -Int.reducePow, -Nat.reducePow, cC, pv, binv, sCoS1, undef, g2]
  refine callV_mod1 2 (fun w hw => next_anyN x.tb x.TA x.tn x.tc x.l i 20 w (hw.hold 2 rfl) (hD1.tp hDE hw 0 rfl) (hD1.tapt hE) hp.l16 (by omega) (by omega)) rfl ?_
  try simp -implicitDefEqProofs (disch := first | omega | decide) only [seval, -Int.reducePow, -Nat.reducePow, cC, pv, binv, sCoS1, undef, g2]
  refine hK _ _ ?_
  clear hK K
  refine cv_gen fun G3 hG => ?_
  have g3_0 := congrFun hG 0
  have g3_2 := congrFun hG 2
  clear hG
  try simp -implicitDefEqProofs (disch := first | omega | decide) only [seval, -Int.reducePow, -Nat.reducePow, cC, pv, binv, sCoS1, undef, g2] at g3_0 g3_2
  have g3 := And.intro g3_0 g3_2
  have hk20 := nextF_lt (l := x.l) (i := i) (m := 20) (by omega)
  generalize hk : nextF x.l i 20 = k at *
  obtain ⟨i1, hi1⟩ : ∃ j, i + 1 = j := ⟨_, rfl⟩
  rw [hi1]
  refine cv_block ?_
  refine cv_seq_k fun K hK => ?_
  refine cv_region_then rfl ?_
  simp -implicitDefEqProofs (disch := first | omega | decide) only [seval, -Int.reducePow, -Nat.reducePow, cC, pv, binv, sCoS1, undef, g3]
  refine hK _ _ ?_
  clear hK K
  refine cv_cond ?_
  simp -implicitDefEqProofs (disch := first | omega | decide) only [seval, -Int.reducePow, -Nat.reducePow, cC, pv, binv, sCoS1, undef, g3]
  refine ⟨fun hc => ?_, fun hc => ?_⟩
  · refine cv_seq_k fun K hK => ?_
    refine cv_region_then rfl ?_
    simp -implicitDefEqProofs (disch := first | omega | decide) only [seval, -Int.reducePow, -Nat.reducePow, cC, pv, binv, sCoS1, undef, g3]
    refine callV_co (x := x) (s := s1) (i := i1) hD1 hDE hp.l16 hp.loc hp.first (fun w D hp => num_co x D E s1 i1 4 w hp (by omega) (by omega) (by omega)) ?_
    intro s2 i2 v2 f2 hD2 ka2 kb2 kc2 kd2 ke2
    simp -implicitDefEqProofs (disch := first | omega | decide) only [seval, -Int.reducePow, -Nat.reducePow, cC, pv, binv, sCoS1, undef, g3]
    refine hK _ _ ?_
    clear hK K
    refine cv_seq_k fun K hK => ?_
    refine cv_region_then rfl ?_
    simp -implicitDefEqProofs (disch := first | omega | decide) only [seval, -Int.reducePow, -Nat.reducePow, cC, pv, binv, sCoS1, undef, g3]
    refine callV_co (x := x) (s := s2) (i := i2) hD2 hDE hp.l16 hp.loc hp.first (fun w D hp => put_co x D E s2 i2 23 1 w hp (by decide) (.inl (by decide)) (by omega) (by omega)) ?_
    intro s3 i3 v3 f3 hD3 ka3 kb3 kc3 kd3 ke3
    simp -implicitDefEqProofs (disch := first | omega | decide) only [seval, -Int.reducePow, -Nat.reducePow, cC, pv, binv, sCoS1, undef, g3]
    refine hK _ _ ?_
    clear hK K
    refine cv_seq_k fun K hK => ?_
    refine cv_region_then rfl ?_
    simp -implicitDefEqProofs (disch := first | omega | decide) only [seval, -Int.reducePow, -Nat.reducePow, cC, pv, binv, sCoS1, undef, g3]
    refine callV_co (x := x) (s := s3) (i := i3) hD3 hDE hp.l16 hp.loc hp.first (fun w D hp => put_co x D E s3 i3 4 0 w hp (by decide) (.inr rfl) (by omega) (by omega)) ?_
    intro s4 i4 v4 f4 hD4 ka4 kb4 kc4 kd4 ke4
    simp -implicitDefEqProofs (disch := first | omega | decide) only [seval, -Int.reducePow, -Nat.reducePow, cC, pv, binv, sCoS1, undef, g3]
    refine hK _ _ ?_
    clear hK K
    refine cv_region_q rfl ?_
    simp -implicitDefEqProofs (disch := first | omega | decide) only [seval, -Int.reducePow, -Nat.reducePow, cC, pv, binv, sCoS1, undef, g3]
    refine callV_co (x := x) (s := s4) (i := i4) hD4 hDE hp.l16 hp.loc hp.first (fun w D hp => local_co x D E s4 i4 3 w hp (by decide) (by omega) (by omega)) ?_
    intro s5 i5 v5 f5 hD5 ka5 kb5 kc5 kd5 ke5
    simp -implicitDefEqProofs (disch := first | omega | decide) only [seval, -Int.reducePow, -Nat.reducePow, cC, pv, binv, sCoS1, undef, g3]
    refine ⟨_, rfl, fun w hw => ?_⟩
    exact hp.done hw hD5 (by omega) (by omega) (by omega) (by omega) (by omega)
  have q0 := of_decide_eq_false ‹_›
  refine cv_seq_k fun K hK => ?_
  refine cv_region_then rfl ?_
  simp -implicitDefEqProofs (disch := first | omega | decide) only [seval, -Int.reducePow, -Nat.reducePow, cC, pv, binv, sCoS1, undef, g3]
  refine hK _ _ ?_
  clear hK K
  refine cv_cond ?_
  simp -implicitDefEqProofs (disch := first | omega | decide) only [seval, -Int.reducePow, -Nat.reducePow, cC, pv, binv, sCoS1, undef, g3]
  refine ⟨fun hc => ?_, fun hc => ?_⟩
  · have q1 := of_decide_eq_true ‹_›
    have e2 : IntKind.i64.wrap ((k : Int) - 2) = ((k - 2 : Nat) : Int) := by rw [wrap_in (by omega) (by omega)]; omega
    refine cv_region_q rfl ?_
    simp -implicitDefEqProofs (disch := first | omega | decide) only [seval, -Int.reducePow, -Nat.reducePow, cC, pv, binv, sCoS1, undef, e2, g3]
    refine callV_co (x := x) (s := s1) (i := i1) hD1 hDE hp.l16 hp.loc hp.first (fun w D hp => access_co x D E s1 i1 (k - 2) w hp (by omega) (by omega) (by omega)) ?_
    intro s2 i2 v2 f2 hD2 ka2 kb2 kc2 kd2 ke2
    simp -implicitDefEqProofs (disch := first | omega | decide) only [seval, -Int.reducePow, -Nat.reducePow, cC, pv, binv, sCoS1, undef, g3]
    refine ⟨_, rfl, fun w hw => ?_⟩
    exact hp.done hw hD2 (by omega) (by omega) (by omega) (by omega) (by omega)
  have q1 := of_decide_eq_false ‹_›
  refine cv_seq_k fun K hK => ?_
  refine cv_region_then rfl ?_
  simp -implicitDefEqProofs (disch := first | omega | decide) only [seval, -Int.reducePow, -Nat.reducePow, cC, pv, binv, sCoS1, undef, g3]
  refine hK _ _ ?_
  clear hK K
  refine cv_cond ?_
  simp -implicitDefEqProofs (disch := first | omega | decide) only [seval, -Int.reducePow, -Nat.reducePow, cC, pv, binv, sCoS1, undef, g3]
  refine ⟨fun hc => ?_, fun hc => ?_⟩
  · refine cv_seq_k fun K hK => ?_
    refine cv_region_then rfl ?_
    simp -implicitDefEqProofs (disch := first | omega | decide) only [seval, -Int.reducePow, -Nat.reducePow, cC, pv, binv, sCoS1, undef, g3]
    refine callV_co (x := x) (s := s1) (i := i1) hD1 hDE hp.l16 hp.loc hp.first (fun w D hp => local_co x D E s1 i1 2 w hp (by decide) (by omega) (by omega)) ?_
    intro s2 i2 v2 f2 hD2 ka2 kb2 kc2 kd2 ke2
    simp -implicitDefEqProofs (disch := first | omega | decide) only [seval, -Int.reducePow, -Nat.reducePow, cC, pv, binv, sCoS1, undef, g3]
    refine hK _ _ ?_
    clear hK K
    refine cv_seq_k fun K hK => ?_
    refine cv_region_then rfl ?_
    simp -implicitDefEqProofs (disch := first | omega | decide) only [seval, -Int.reducePow, -Nat.reducePow, cC, pv, binv, sCoS1, undef, g3]
    refine callV_co (x := x) (s := s2) (i := i2) hD2 hDE hp.l16 hp.loc hp.first (fun w D hp => num_co x D E s2 i2 70 w hp (by omega) (by omega) (by omega)) ?_
    intro s3 i3 v3 f3 hD3 ka3 kb3 kc3 kd3 ke3
    simp -implicitDefEqProofs (disch := first | omega | decide) only [seval, -Int.reducePow, -Nat.reducePow, cC, pv, binv, sCoS1, undef, g3]
    refine hK _ _ ?_
    clear hK K
    have hn12 := nextF_lt (l := x.l) (i := i3) (m := 12) (by omega)
    have e6 : IntKind.i64.wrap (6 + ((nextF x.l i3 12 : Nat) : Int)) = ((6 + nextF x.l i3 12 : Nat) : Int) := by rw [wrap_in (by omega) (by omega)]; omega
    refine cv_seq_k fun K hK => ?_
    refine cv_region_then rfl ?_
    simp -implicitDefEqProofs (disch := first | omega | decide) only [seval, -Int.reducePow, -Nat.reducePow, cC, pv, binv, sCoS1, undef, g3]
    refine callV_mod1 2 (fun w hw => next_anyN x.tb x.TA x.tn x.tc x.l i3 12 w (hw.hold 2 rfl) (hD3.tp hDE hw 0 rfl) (hD3.tapt hE) hp.l16 (by omega) (by omega)) rfl ?_
    try simp -implicitDefEqProofs (disch := first | omega | decide) only [seval, -Int.reducePow, -Nat.reducePow, cC, pv, binv, sCoS1, undef, e6, g3]
    refine callV_co (x := x) (s := s3) (i := i3 + 1) hD3 hDE hp.l16 hp.loc hp.first (fun w D hp => put_co x D E s3 (i3 + 1) ((6 + nextF x.l i3 12 : Nat) : Int) 0 w hp (by unfold knownP; omega) (.inr rfl) (by omega) (by omega)) ?_
    intro s4 i4 v4 f4 hD4 ka4 kb4 kc4 kd4 ke4
    simp -implicitDefEqProofs (disch := first | omega | decide) only [seval, -Int.reducePow, -Nat.reducePow, cC, pv, binv, sCoS1, undef, g3]
    refine hK _ _ ?_
    clear hK K
    refine cv_region_q rfl ?_
    simp -implicitDefEqProofs (disch := first | omega | decide) only [seval, -Int.reducePow, -Nat.reducePow, cC, pv, binv, sCoS1, undef, g3]
    refine callV_co (x := x) (s := s4) (i := i4) hD4 hDE hp.l16 hp.loc hp.first (fun w D hp => local_co x D E s4 i4 3 w hp (by decide) (by omega) (by omega)) ?_
    intro s5 i5 v5 f5 hD5 ka5 kb5 kc5 kd5 ke5
    simp -implicitDefEqProofs (disch := first | omega | decide) only [seval, -Int.reducePow, -Nat.reducePow, cC, pv, binv, sCoS1, undef, g3]
    refine ⟨_, rfl, fun w hw => ?_⟩
    exact hp.done hw hD5 (by omega) (by omega) (by omega) (by omega) (by omega)
  have q2 := of_decide_eq_false ‹_›
  refine cv_seq_k fun K hK => ?_
  refine cv_region_then rfl ?_
  simp -implicitDefEqProofs (disch := first | omega | decide) only [seval, -Int.reducePow, -Nat.reducePow, cC, pv, binv, sCoS1, undef, g3]
  refine hK _ _ ?_
  clear hK K
  refine cv_cond ?_
  simp -implicitDefEqProofs (disch := first | omega | decide) only [seval, -Int.reducePow, -Nat.reducePow, cC, pv, binv, sCoS1, undef, g3]
  refine ⟨fun hc => ?_, fun hc => ?_⟩
  · refine cv_seq_k fun K hK => ?_
    refine cv_region_then rfl ?_
    simp -implicitDefEqProofs (disch := first | omega | decide) only [seval, -Int.reducePow, -Nat.reducePow, cC, pv, binv, sCoS1, undef, g3]
    refine callV_co (x := x) (s := s1) (i := i1) hD1 hDE hp.l16 hp.loc hp.first (fun w D hp => local_co x D E s1 i1 2 w hp (by decide) (by omega) (by omega)) ?_
    intro s2 i2 v2 f2 hD2 ka2 kb2 kc2 kd2 ke2
    simp -implicitDefEqProofs (disch := first | omega | decide) only [seval, -Int.reducePow, -Nat.reducePow, cC, pv, binv, sCoS1, undef, g3]
    refine hK _ _ ?_
    clear hK K
    refine cv_seq_k fun K hK => ?_
    refine cv_region_then rfl ?_
    simp -implicitDefEqProofs (disch := first | omega | decide) only [seval, -Int.reducePow, -Nat.reducePow, cC, pv, binv, sCoS1, undef, g3]
    refine callV_co (x := x) (s := s2) (i := i2) hD2 hDE hp.l16 hp.loc hp.first (fun w D hp => put_co x D E s2 i2 5 0 w hp (by decide) (.inr rfl) (by omega) (by omega)) ?_
    intro s3 i3 v3 f3 hD3 ka3 kb3 kc3 kd3 ke3
    simp -implicitDefEqProofs (disch := first | omega | decide) only [seval, -Int.reducePow, -Nat.reducePow, cC, pv, binv, sCoS1, undef, g3]
    refine hK _ _ ?_
    clear hK K
    refine cv_seq_k fun K hK => ?_
    refine cv_region_then rfl ?_
    simp -implicitDefEqProofs (disch := first | omega | decide) only [seval, -Int.reducePow, -Nat.reducePow, cC, pv, binv, sCoS1, undef, g3]
    refine callV_co (x := x) (s := s3) (i := i3) hD3 hDE hp.l16 hp.loc hp.first (fun w D hp => put_co x D E s3 i3 8 0 w hp (by decide) (.inr rfl) (by omega) (by omega)) ?_
    intro s4 i4 v4 f4 hD4 ka4 kb4 kc4 kd4 ke4
    simp -implicitDefEqProofs (disch := first | omega | decide) only [seval, -Int.reducePow, -Nat.reducePow, cC, pv, binv, sCoS1, undef, g3]
    refine hK _ _ ?_
    clear hK K
    refine cv_seq_k fun K hK => ?_
    refine cv_region_then rfl ?_
    simp -implicitDefEqProofs (disch := first | omega | decide) only [seval, -Int.reducePow, -Nat.reducePow, cC, pv, binv, sCoS1, undef, g3]
    refine callV_co (x := x) (s := s4) (i := i4) hD4 hDE hp.l16 hp.loc hp.first (fun w D hp => put_co x D E s4 i4 18 0 w hp (by decide) (.inr rfl) (by omega) (by omega)) ?_
    intro s5 i5 v5 f5 hD5 ka5 kb5 kc5 kd5 ke5
    simp -implicitDefEqProofs (disch := first | omega | decide) only [seval, -Int.reducePow, -Nat.reducePow, cC, pv, binv, sCoS1, undef, g3]
    refine hK _ _ ?_
    clear hK K
    have hls : s5.st.length = s5.sn := i64_row hD5.sts.len
    have hnx := nextF_lt (l := x.l) (i := i5) (m := s5.sn) (by omega)
    obtain ⟨b0, off, hSA, hb0, -⟩ := hD5.sts.cells (by omega)
    obtain ⟨y, hy⟩ := some_of (l := s5.st) (i := nextF x.l i5 s5.sn) (by omega)
    have hyb := hD5.sok y (List.mem_of_getElem? hy)
    have hst : Sd v5 (Dm [x.b, x.tb] W f5) 1 (some ⟨b0, off, none⟩) s5.sn s5.sc (i64c s5.st) := by
      have := hD5.sts.mono (D' := Dm [x.b, x.tb] W f5) fun y hy => hy.imp id fun hy => hDE y (.inl hy)
      rwa [hSA] at this
    refine cv_fact (x.b ≠ b0) (fun w hw => fun e => ((hD5.pre hDE hw hp.l16 hp.loc hp.first).dom b0 (.inl hb0)).2.1 e.symm) fun hxb => ?_
    refine cv_q ?_
    refine cv_draw_of (pickL [0, 1] _) (fun w hw => hw.pick (by decide)) (by simp only [pickL, nth, suf_cons, suf_nil, List.mem_cons, true_or, or_true, and_true, eq_self]) [(true, 0), (true, 1), (true, 2), (true, 3), (true, 4), (true, 5), (true, 6), (true, 7), (true, 8), (true, 9), (true, 10), (true, 11), (true, 12), (true, 13), (false, 14), (true, 15), (true, 16), (false, 17)] [17] mixA rfl (by kernel_rfl) (by kernel_rfl) rfl rfl ?_
    simp -implicitDefEqProofs (disch := first | omega | decide) only [seval, -Int.reducePow, -Nat.reducePow, cC, pv, binv, sCoS1, undef, hSA, g3]
    refine callV_mod1 2 (fun w hw => next_anyN x.tb x.TA x.tn x.tc x.l i5 s5.sn w (hw.hold 2 rfl) (hD5.tp hDE hw 0 rfl) (hD5.tapt hE) hp.l16 (by omega) (by omega)) rfl ?_
    try simp -implicitDefEqProofs (disch := first | omega | decide) only [seval, -Int.reducePow, -Nat.reducePow, cC, pv, binv, sCoS1, undef, hSA, g3]
    refine ⟨_, hst.ld1 (m := 1) 0 rfl (by kernel_rfl) (i64_get hy), fun tok htok => ?_⟩
    subst htok
    simp -implicitDefEqProofs (disch := first | omega | decide) only [seval, -Int.reducePow, -Nat.reducePow, cC, pv, binv, sCoS1, undef, hSA, g3]
    rw [← hSA]
    refine callV_co (x := x) (s := s5) (i := i5 + 1) hD5 hDE hp.l16 hp.loc hp.first (fun w D hp => put_co x D E s5 (i5 + 1) 20 y w hp (by decide) (.inl (by decide)) (by omega) (by omega)) ?_
    intro s6 i6 v6 f6 hD6 ka6 kb6 kc6 kd6 ke6
    simp -implicitDefEqProofs (disch := first | omega | decide) only [seval, -Int.reducePow, -Nat.reducePow, cC, pv, binv, sCoS1, undef, g3]
    refine ⟨_, rfl, fun w hw => ?_⟩
    exact hp.done hw hD6 (by omega) (by omega) (by omega) (by omega) (by omega)
  have q3 := of_decide_eq_false ‹_›
  refine cv_seq_k fun K hK => ?_
  refine cv_cut (fun _ _ => True) (fun F' L' => F' 0 = G3 0 ∧ F' 92 = .bool (decide (k = 17 ∧ 1 < x.fns)) ∧ L' = [snap [x.b, x.tb] W v1 f1, coB x s1, coT x i1]) ?_ ?_
  · refine cv_region_then rfl ?_
    simp -implicitDefEqProofs (disch := first | omega | decide) only [seval, -Int.reducePow, -Nat.reducePow, cC, pv, binv, sCoS1, undef, g3]
    repeat' ((first | refine vcg_cases (fun hg => ?_) (fun hg => ?_) | refine vdg_cases (fun hg => ?_) (fun hg => ?_)) <;> ((try simp only [Bool.not_eq_true', Bool.not_eq_false', decide_eq_true_eq, decide_eq_false_iff_not] at hg); (try simp -implicitDefEqProofs (disch := first | omega | decide) only [seval, -Int.reducePow, -Nat.reducePow, cC, pv, binv, sCoS1, undef, hg, g3])))
    all_goals (repeat' refine And.intro ?_ ?_)
    all_goals (first | with_reducible rfl | (refine congrArg Value.bool ?_; rw [Bool.eq_iff_iff]; (try simp only [decide_eq_true_eq, eq_self, true_and, and_true, false_and, and_false, true_or, or_true, false_or, or_false, not_true_eq_false, not_false_eq_true, true_iff, iff_true, false_iff, iff_false, Bool.false_eq_true, Bool.not_eq_true', Bool.not_eq_true, decide_eq_false_iff_not, Bool.and_eq_true, Bool.or_eq_true]) <;> omega) | (refine congrArg (Value.int _) ?_; omega) | omega)
  intro G4 L' _ hF
  obtain ⟨q0, q92, rfl⟩ := hF
  have g4_0 := q0.trans g3_0
  have g4_92 := q92
  clear q0 q92
  have g4 := And.intro g4_0 g4_92
  refine hK _ _ ?_
  clear hK K
  refine cv_cond ?_
  simp -implicitDefEqProofs (disch := first | omega | decide) only [seval, -Int.reducePow, -Nat.reducePow, cC, pv, binv, sCoS1, undef, g4]
  refine ⟨fun hc => ?_, fun hc => ?_⟩
  · refine cv_seq_k fun K hK => ?_
    refine cv_region_then rfl ?_
    simp -implicitDefEqProofs (disch := first | omega | decide) only [seval, -Int.reducePow, -Nat.reducePow, cC, pv, binv, sCoS1, undef, g4]
    refine callV_co (x := x) (s := s1) (i := i1) hD1 hDE hp.l16 hp.loc hp.first (fun w D hp => local_co x D E s1 i1 2 w hp (by decide) (by omega) (by omega)) ?_
    intro s2 i2 v2 f2 hD2 ka2 kb2 kc2 kd2 ke2
    simp -implicitDefEqProofs (disch := first | omega | decide) only [seval, -Int.reducePow, -Nat.reducePow, cC, pv, binv, sCoS1, undef, g4]
    refine hK _ _ ?_
    clear hK K
    refine cv_seq_k fun K hK => ?_
    refine cv_region_then rfl ?_
    simp -implicitDefEqProofs (disch := first | omega | decide) only [seval, -Int.reducePow, -Nat.reducePow, cC, pv, binv, sCoS1, undef, g4]
    refine callV_co (x := x) (s := s2) (i := i2) hD2 hDE hp.l16 hp.loc hp.first (fun w D hp => put_co x D E s2 i2 21 1 w hp (by decide) (.inl (by decide)) (by omega) (by omega)) ?_
    intro s3 i3 v3 f3 hD3 ka3 kb3 kc3 kd3 ke3
    simp -implicitDefEqProofs (disch := first | omega | decide) only [seval, -Int.reducePow, -Nat.reducePow, cC, pv, binv, sCoS1, undef, g4]
    refine hK _ _ ?_
    clear hK K
    refine cv_region_q rfl ?_
    simp -implicitDefEqProofs (disch := first | omega | decide) only [seval, -Int.reducePow, -Nat.reducePow, cC, pv, binv, sCoS1, undef, g4]
    refine callV_co (x := x) (s := s3) (i := i3) hD3 hDE hp.l16 hp.loc hp.first (fun w D hp => local_co x D E s3 i3 3 w hp (by decide) (by omega) (by omega)) ?_
    intro s4 i4 v4 f4 hD4 ka4 kb4 kc4 kd4 ke4
    simp -implicitDefEqProofs (disch := first | omega | decide) only [seval, -Int.reducePow, -Nat.reducePow, cC, pv, binv, sCoS1, undef, g4]
    refine ⟨_, rfl, fun w hw => ?_⟩
    exact hp.done hw hD4 (by omega) (by omega) (by omega) (by omega) (by omega)
  · refine cv_seq_k fun K hK => ?_
    refine cv_region_then rfl ?_
    simp -implicitDefEqProofs (disch := first | omega | decide) only [seval, -Int.reducePow, -Nat.reducePow, cC, pv, binv, sCoS1, undef, g4]
    refine callV_co (x := x) (s := s1) (i := i1) hD1 hDE hp.l16 hp.loc hp.first (fun w D hp => num_co x D E s1 i1 65536 w hp (by omega) (by omega) (by omega)) ?_
    intro s2 i2 v2 f2 hD2 ka2 kb2 kc2 kd2 ke2
    simp -implicitDefEqProofs (disch := first | omega | decide) only [seval, -Int.reducePow, -Nat.reducePow, cC, pv, binv, sCoS1, undef, g4]
    refine hK _ _ ?_
    clear hK K
    refine cv_region_q rfl ?_
    simp -implicitDefEqProofs (disch := first | omega | decide) only [seval, -Int.reducePow, -Nat.reducePow, cC, pv, binv, sCoS1, undef, g4]
    refine callV_co (x := x) (s := s2) (i := i2) hD2 hDE hp.l16 hp.loc hp.first (fun w D hp => local_co x D E s2 i2 3 w hp (by decide) (by omega) (by omega)) ?_
    intro s3 i3 v3 f3 hD3 ka3 kb3 kc3 kd3 ke3
    simp -implicitDefEqProofs (disch := first | omega | decide) only [seval, -Int.reducePow, -Nat.reducePow, cC, pv, binv, sCoS1, undef, g4]
    refine ⟨_, rfl, fun w hw => ?_⟩
    exact hp.done hw hD3 (by omega) (by omega) (by omega) (by omega) (by omega)
end Go.Proofs.Ytlbmnioibiomfaa
