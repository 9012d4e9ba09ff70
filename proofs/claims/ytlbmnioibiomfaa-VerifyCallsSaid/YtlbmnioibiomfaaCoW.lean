/- The coder's methods. -/
import Derived.Test.YtlbmnioibiomfaaCo
namespace Go.Proofs.Ytlbmnioibiomfaa
open Go.RowKit Go.Shelf
set_option linter.unusedVariables false
set_option linter.unusedSimpArgs false
set_option maxRecDepth 100000
set_option maxRecDepth 100000 in
theorem sCoW1 : type_of% (And.intro (And.intro @coB.eq_1 (And.intro @coT.eq_1 @coC.eq_1)) (And.intro (And.intro @tape.eq_1 @tpBox.eq_1) (And.intro @cS @Nat.mul_one))) := (And.intro (And.intro @coB.eq_1 (And.intro @coT.eq_1 @coC.eq_1)) (And.intro (And.intro @tape.eq_1 @tpBox.eq_1) (And.intro @cS @Nat.mul_one)))
set_option maxHeartbeats 2000000 in
theorem put_co (x : Cx) (D E : Nat → Prop) (s0 : CoS) (i : Nat) (op : Int) (arg : Nat) (W : World) (hp : CoPre W D E x s0 i) (hk : knownP op) (ha : argP op ∨ arg = 0) (hb : arg ≤ 9223372036854775807) (hl : s0.code.length ≤ 10000) :
    Calls Try.prog 24 #[.pointer (some ⟨x.b, 0, none⟩), .int .i64 op, .int .i64 (arg : Int)] W (coP x D E 1 0 0 s0 i W) := by
  have hne := hp.ne
  have hD0 := hp.in0
  have hDE := hp.hDE
  have hln : s0.code.length = s0.n := cl_row insc_len (by omega) hD0.code.len
  have ea := i64v arg hb
  have hio : insOk ⟨op, arg⟩ := ⟨by unfold Ins.err; rw [if_neg (by simpa using hk), if_neg (by rintro ⟨h1, h2⟩; exact ha.elim h1 h2)], by dsimp only; omega⟩
  refine calls_cv (M := [x.b, x.tb]) (n := 21) [] rfl Try.func24 rfl rfl (Nat.le_of_ble_eq_true rfl)  hp.st ?_
  refine cv_region_q rfl ?_
  simp -implicitDefEqProofs (disch := first | omega | decide) only [seval, -Int.reducePow, -Nat.reducePow, cC, pv, binv, sCoW1, undef, ea]
  intro b7 hb7 h7
  simp -implicitDefEqProofs (disch := first | omega | decide) only [seval, -Int.reducePow, -Nat.reducePow, cC, pv, binv, sCoW1, undef, ea]
  refine appV_lit 0 tap56 rfl rfl (fun w hw => by exact (hD0.cd hDE hw 1 rfl).reads) (cl_ones insc_ones _) (by omega) (by omega) ?_
  intro A1 c1 hl1 hr1
  simp -implicitDefEqProofs (disch := first | omega | decide) only [seval, -Int.reducePow, -Nat.reducePow, cC, pv, binv, sCoW1, undef, ea]
  intro b8 hb8 h8
  refine appV_at 1 tap56 rfl (fun w hw => src_blk (size := 2) (.head _) rfl hw) rfl (by omega) (by omega) ?_
  intro A2 c2 hl2 hr2
  simp -implicitDefEqProofs (disch := first | omega | decide) only [seval, -Int.reducePow, -Nat.reducePow, cC, pv, binv, sCoW1, undef]
  refine ⟨_, rfl, fun w hw => ?_⟩
  refine hp.fin (s' := ⟨A2, s0.n + 1, c2, s0.code ++ [⟨op, arg⟩], s0.SA, s0.sn, s0.sc, s0.st⟩) (i' := i) hw (hw.hold 3 rfl) (hw.hold 4 rfl) ?_ ((hp.dat.sts.same (hp.old hw)) fun y hy => .inl hy) ?_ hp.dat.sok (by simp) (by omega) (by simp) (by simp) (by simp)
  · have := Sd.ownNew (hw.rowNew (by simp [Res.foot, snap_foot]))
    dsimp only
    rw [cl_snoc]
    exact this.mono fun y hy => .inr hy
  · intro y hy
    rcases List.mem_append.1 hy with hy | hy
    · exact hp.dat.ok y hy
    · obtain rfl : y = ⟨op, arg⟩ := by simpa using hy
      exact hio
theorem num_co (x : Cx) (D E : Nat → Prop) (s0 : CoS) (i n : Nat) (W : World) (hp : CoPre W D E x s0 i) (hn : 0 < n ∧ n ≤ 100000) (hi : i ≤ 900000) (hl : s0.code.length ≤ 10000) :
    Calls Try.prog 46 #[.pointer (some ⟨x.b, 0, none⟩), .int .i64 (n : Int)] W (coP x D E 1 1 0 s0 i W) := by
  have hne := hp.ne
  have hD0 := hp.in0
  have hDE := hp.hDE
  have hE := fun y hy => (hp.dom y (.inr hy)).2.2
  have hnx := nextF_lt (l := x.l) (i := i) (m := n) hn.1
  refine calls_cv (M := [x.b, x.tb]) (n := 12) [] rfl Try.func46 rfl rfl (Nat.le_of_ble_eq_true rfl)  hp.st ?_
  refine cv_region_q rfl ?_
  simp -implicitDefEqProofs (disch := first | omega | decide) only [seval, -Int.reducePow, -Nat.reducePow, cC, pv, binv, sCoW1, undef]
  refine callV_mod1 2 (fun w hw => next_anyN x.tb x.TA x.tn x.tc x.l i n w (hw.hold 2 rfl) (hD0.tp hDE hw 0 rfl) (hD0.tapt hE) hp.l16 (by omega) (by omega)) rfl ?_
  try simp -implicitDefEqProofs (disch := first | omega | decide) only [seval, -Int.reducePow, -Nat.reducePow, cC, pv, binv, sCoW1, undef]
  refine callV_co (x := x) (s := s0) (i := i + 1) hD0 hDE hp.l16 hp.loc hp.first (fun w D hp => put_co x D E s0 (i + 1) 1 (nextF x.l i n) w hp (by decide) (.inl (by decide)) (by omega) hl) ?_
  intro s1 i1 v1 f1 hD1 ka1 kb1 kc1 kd1 ke1
  simp -implicitDefEqProofs (disch := first | omega | decide) only [seval, -Int.reducePow, -Nat.reducePow, cC, pv, binv, sCoW1, undef]
  refine ⟨_, rfl, fun w hw => ?_⟩
  exact hp.done hw hD1 (by omega) (by omega) (by omega) (by omega) (by omega)
theorem u64b (op : BinOp) (a b : Int) : 0 ≤ bits op .u64 a b ∧ bits op .u64 a b < 18446744073709551616 := by
  unfold bits
  dsimp only
  rw [IntKind.wrap_u64]
  omega
theorem u64w (a : Int) : 0 ≤ IntKind.u64.wrap a ∧ IntKind.u64.wrap a < 18446744073709551616 := by
  rw [IntKind.wrap_u64]
  omega
set_option maxRecDepth 100000 in
theorem sCoW2 : type_of% (And.intro (And.intro @coB.eq_1 (And.intro @coT.eq_1 @coC.eq_1)) (And.intro (And.intro @tape.eq_1 @tpBox.eq_1) (And.intro @cS @Nat.mul_one))) := (And.intro (And.intro @coB.eq_1 (And.intro @coT.eq_1 @coC.eq_1)) (And.intro (And.intro @tape.eq_1 @tpBox.eq_1) (And.intro @cS @Nat.mul_one)))
set_option maxHeartbeats 2000000 in
theorem word_any (b : Nat) (A : Option Addr) (n c : Nat) (l : List Nat) (i first : Nat) (W : World) (hW : W.heap[b]? = some (.cells (tape A n c i).toArray 67 (0, 0))) (hE : Sl W W.heap.size 1 A n c (u16c l)) (ha : 0 < n → Apt A [b]) (hl : ∀ x ∈ l, x < 65536) (hi : i ≤ 900000) :
    Calls Try.prog 86 #[.pointer (some ⟨b, 0, none⟩), .int .u32 (first : Int)] W (fun e w' => ∃ p : Nat × Nat, e = .returned (.int .u64 (p.1 : Int)) ∧ (p.1 < 18446744073709551616 ∧ p.2 ≤ i + 10) ∧ w'.heap[b]? = some (.cells (tape A n c p.2).toArray 67 (0, 0)) ∧ Pres [b] W w') := by
  have hn8 := nextF_lt (l := l) (i := i + 1) (m := 8) (by omega)
  have hn64 := nextF_lt (l := l) (i := i + 1 + 1 + 1 + 1 + 1) (m := 64) (by omega)
  have e64 : IntKind.u64.wrap ((nextF l (i + 1 + 1 + 1 + 1 + 1) 64 : Nat) : Int) = ((nextF l (i + 1 + 1 + 1 + 1 + 1) 64 : Nat) : Int) := u64_in (by omega)
  have hn3 := nextF_lt (l := l) (i := i + 1 + 1) (m := 3) (by omega)
  have e1 : IntKind.i64.wrap (1 + ((nextF l (i + 1 + 1) 3 : Nat) : Int)) = ((1 + nextF l (i + 1 + 1) 3 : Nat) : Int) := by rw [wrap_in (by omega) (by omega)]; omega
  have e2 : IntKind.u64.wrap ((1 + nextF l (i + 1 + 1) 3 : Nat) : Int) = ((1 + nextF l (i + 1 + 1) 3 : Nat) : Int) := u64_in (by omega)
  obtain ⟨U, hU⟩ : ∃ U, IntKind.u64.wrap (((1 + nextF l (i + 1 + 1) 3 : Nat) : Int) * 2 ^ 56) = U := ⟨_, rfl⟩
  refine calls_cv (M := [b]) (n := 41) [.tmp 4] rfl Try.func86 rfl rfl (Nat.le_of_ble_eq_true rfl)  (St.one hW) ?_
  refine cv_seq_k fun K hK => ?_
  refine cv_region_then rfl ?_
  simp -implicitDefEqProofs (disch := first | omega | decide) only [seval, -Int.reducePow, -Nat.reducePow, cC, pv, binv, sCoW2, undef, IntKind.bits]
  refine hK _ _ ?_
  clear hK K
  refine cv_seq_k fun K hK => ?_
  refine cv_region_then rfl ?_
  simp -implicitDefEqProofs (disch := first | omega | decide) only [seval, -Int.reducePow, -Nat.reducePow, cC, pv, binv, sCoW2, undef, IntKind.bits]
  refine callV_mod1 0 (fun w hw => next_anyN b A n c l i 3 w (hw.hold 0 rfl) (hE.atM' hw ha) ha hl (by omega) (by omega)) rfl ?_
  try simp -implicitDefEqProofs (disch := first | omega | decide) only [seval, -Int.reducePow, -Nat.reducePow, cC, pv, binv, sCoW2, undef, IntKind.bits]
  refine callV_mod1 0 (fun w hw => next_anyN b A n c l (i + 1) 8 w (hw.hold 0 rfl) (hE.atM' hw ha) ha hl (by omega) (by omega)) rfl ?_
  try simp -implicitDefEqProofs (disch := first | omega | decide) only [seval, -Int.reducePow, -Nat.reducePow, cC, pv, binv, sCoW2, undef, IntKind.bits]
  refine hK _ _ ?_
  clear hK K
  refine cv_gen fun G1 hG => ?_
  have g1_0 := congrFun hG 0
  have g1_5 := congrFun hG 5
  clear hG
  try simp -implicitDefEqProofs (disch := first | omega | decide) only [seval, -Int.reducePow, -Nat.reducePow, cC, pv, binv, sCoW2, undef, IntKind.bits] at g1_0 g1_5
  have g1 := And.intro g1_0 g1_5
  obtain ⟨V5, g1_5⟩ : ∃ V : Int, G1 5 = .int .u64 V := ⟨_, g1_5⟩
  have g1 := And.intro g1_0 g1_5
  rename_i gold
  clear gold
  have g1 := And.intro g1_0 g1_5
  obtain ⟨B, hB⟩ : ∃ B, bits .and .u64 V5 4294967295 = B := ⟨_, rfl⟩
  obtain ⟨C, hC⟩ : ∃ C, IntKind.u64.wrap (B * 2 ^ 24) = C := ⟨_, rfl⟩
  refine cv_seq_k fun K hK => ?_
  refine cv_region_then rfl ?_
  simp -implicitDefEqProofs (disch := first | omega | decide) only [seval, -Int.reducePow, -Nat.reducePow, cC, pv, binv, sCoW2, undef, IntKind.bits, g1]
  refine callV_mod1 0 (fun w hw => next_anyN b A n c l (i + 1 + 1) 3 w (hw.hold 0 rfl) (hE.atM' hw ha) ha hl (by omega) (by omega)) rfl ?_
  try simp -implicitDefEqProofs (disch := first | omega | decide) only [seval, -Int.reducePow, -Nat.reducePow, cC, pv, binv, sCoW2, undef, IntKind.bits, e1, e2, hU, hB, hC, g1]
  refine callV_mod1 0 (fun w hw => next_anyN b A n c l (i + 1 + 1 + 1) 6 w (hw.hold 0 rfl) (hE.atM' hw ha) ha hl (by omega) (by omega)) rfl ?_
  try simp -implicitDefEqProofs (disch := first | omega | decide) only [seval, -Int.reducePow, -Nat.reducePow, cC, pv, binv, sCoW2, undef, IntKind.bits, e1, e2, hU, hB, hC, g1]
  refine hK _ _ ?_
  clear hK K
  refine cv_gen fun G2 hG => ?_
  have g2_0 := congrFun hG 0
  have g2_6 := congrFun hG 6
  clear hG
  try simp -implicitDefEqProofs (disch := first | omega | decide) only [seval, -Int.reducePow, -Nat.reducePow, cC, pv, binv, sCoW2, undef, IntKind.bits, g1] at g2_0 g2_6
  have g2 := And.intro g2_0 g2_6
  obtain ⟨V0, hV0, g2_6⟩ : ∃ V : Int, (0 ≤ V ∧ V < 18446744073709551616) ∧ G2 6 = .int .u64 V := by
    refine ⟨_, ?_, g2_6⟩
    exact u64b _ _ _
  rename_i gold
  clear gold
  have g2 := And.intro g2_0 g2_6
  refine cv_seq_k fun K hK => ?_
  refine cv_cut (fun _ _ => True) (fun F' L' => ∃ (V : Int) (j : Nat), F' 6 = .int .u64 V ∧ L' = [tpBox b A n c j] ∧ 0 ≤ V ∧ V < 18446744073709551616 ∧ j ≤ i + 10) ?_ ?_
  · refine cv_seq_k fun K hK => ?_
    refine cv_region_then rfl ?_
    simp -implicitDefEqProofs (disch := first | omega | decide) only [seval, -Int.reducePow, -Nat.reducePow, cC, pv, binv, sCoW2, undef, IntKind.bits, g2]
    refine callV_mod1 0 (fun w hw => next_anyN b A n c l (i + 1 + 1 + 1 + 1) 20 w (hw.hold 0 rfl) (hE.atM' hw ha) ha hl (by omega) (by omega)) rfl ?_
    try simp -implicitDefEqProofs (disch := first | omega | decide) only [seval, -Int.reducePow, -Nat.reducePow, cC, pv, binv, sCoW2, undef, IntKind.bits, g2]
    refine hK _ _ ?_
    clear hK K
    refine cv_cond ?_
    simp -implicitDefEqProofs (disch := first | omega | decide) only [seval, -Int.reducePow, -Nat.reducePow, cC, pv, binv, sCoW2, undef, IntKind.bits, g2]
    refine ⟨fun hc => ?_, fun hc => ?_⟩
    · refine cv_region_q rfl ?_
      simp -implicitDefEqProofs (disch := first | omega | decide) only [seval, -Int.reducePow, -Nat.reducePow, cC, pv, binv, sCoW2, undef, IntKind.bits, g2]
      refine callV_mod1 0 (fun w hw => next_anyN b A n c l (i + 1 + 1 + 1 + 1 + 1) 64 w (hw.hold 0 rfl) (hE.atM' hw ha) ha hl (by omega) (by omega)) rfl ?_
      try simp -implicitDefEqProofs (disch := first | omega | decide) only [seval, -Int.reducePow, -Nat.reducePow, cC, pv, binv, sCoW2, undef, IntKind.bits, g2]
      simp -implicitDefEqProofs (disch := first | omega | decide) only [seval, -Int.reducePow, -Nat.reducePow, cC, pv, binv, sCoW2, undef, IntKind.bits, e64, g2]
      have hx := u64b .xor V0 (IntKind.u64.wrap (1 * 2 ^ nextF l (i + 1 + 1 + 1 + 1 + 1) 64))
      generalize bits .xor .u64 V0 (IntKind.u64.wrap (1 * 2 ^ nextF l (i + 1 + 1 + 1 + 1 + 1) 64)) = V1 at *
      refine ⟨V1, i + 6, ?_⟩
      simp -implicitDefEqProofs (disch := first | omega | decide) only [seval, -Int.reducePow, -Nat.reducePow, cC, pv, binv, sCoW2, undef, IntKind.bits, g2]
      exact ⟨hx.1, hx.2, by omega⟩
    · refine cv_skip ?_
      try simp only [blockQ, thenQ]
      refine ⟨V0, i + 5, ?_⟩
      simp -implicitDefEqProofs (disch := first | omega | decide) only [seval, -Int.reducePow, -Nat.reducePow, cC, pv, binv, sCoW2, undef, IntKind.bits, g2]
      exact ⟨hV0.1, hV0.2, by omega⟩
  intro G3 L' _ hF
  obtain ⟨V, j, q6, rfl, ⟨hV0, hV1, hj⟩⟩ := hF
  have g3_6 := q6
  clear q6
  have g3 := g3_6
  refine hK _ _ ?_
  clear hK K
  obtain ⟨y, rfl⟩ := Int.eq_ofNat_of_zero_le hV0
  refine cv_seq_k fun K hK => ?_
  refine cv_region_then rfl ?_
  simp -implicitDefEqProofs (disch := first | omega | decide) only [seval, -Int.reducePow, -Nat.reducePow, cC, pv, binv, sCoW2, undef, IntKind.bits, g3]
  refine hK _ _ ?_
  clear hK K
  refine cv_ret ⟨_, (by simp -implicitDefEqProofs (disch := first | omega | decide) only [seval, -Int.reducePow, -Nat.reducePow, cC, pv, binv, sCoW2, undef, IntKind.bits, g3]; rfl), fun w hw => ?_⟩
  exact ⟨(y, j), rfl, ⟨by omega, hj⟩, hw.hold 0 rfl, hw.pres⟩
set_option maxRecDepth 100000 in
theorem sCoW3 : type_of% (And.intro (And.intro @coB.eq_1 (And.intro @coT.eq_1 @coC.eq_1)) (And.intro (And.intro @tape.eq_1 @tpBox.eq_1) (And.intro @cS @Nat.mul_one))) := (And.intro (And.intro @coB.eq_1 (And.intro @coT.eq_1 @coC.eq_1)) (And.intro (And.intro @tape.eq_1 @tpBox.eq_1) (And.intro @cS @Nat.mul_one)))
theorem local_co (x : Cx) (D E : Nat → Prop) (s0 : CoS) (i : Nat) (op : Int) (W : World) (hp : CoPre W D E x s0 i) (hk : op = 2 ∨ op = 3) (hi : i ≤ 900000) (hl : s0.code.length ≤ 10000) :
    Calls Try.prog 47 #[.pointer (some ⟨x.b, 0, none⟩), .int .i64 op] W (coP x D E 1 1 0 s0 i W) := by
  have hne := hp.ne
  have hD0 := hp.in0
  have hDE := hp.hDE
  have hloc := hp.loc
  have hE := fun y hy => (hp.dom y (.inr hy)).2.2
  have hnx := nextF_lt (l := x.l) (i := i) (m := x.loc) (by omega)
  refine calls_cv (M := [x.b, x.tb]) (n := 16) [] rfl Try.func47 rfl rfl (Nat.le_of_ble_eq_true rfl)  hp.st ?_
  refine cv_q ?_
  refine cv_draw_of (pickL [0, 1] _) (fun w hw => hw.pick (by decide)) (by simp only [pickL, nth, suf_cons, suf_nil, List.mem_cons, true_or, or_true, and_true, eq_self]) [(true, 0), (true, 1), (true, 2), (true, 3), (true, 4), (true, 5), (true, 6), (true, 7), (true, 8), (true, 9), (false, 10), (false, 11)] [11] mixA rfl (by kernel_rfl) (by kernel_rfl) rfl rfl ?_
  simp -implicitDefEqProofs (disch := first | omega | decide) only [seval, -Int.reducePow, -Nat.reducePow, cC, pv, binv, sCoW3, undef]
  refine callV_mod1 2 (fun w hw => next_anyN x.tb x.TA x.tn x.tc x.l i x.loc w (hw.hold 2 rfl) (hD0.tp hDE hw 0 rfl) (hD0.tapt hE) hp.l16 (by omega) (by omega)) rfl ?_
  try simp -implicitDefEqProofs (disch := first | omega | decide) only [seval, -Int.reducePow, -Nat.reducePow, cC, pv, binv, sCoW3, undef]
  refine callV_co (x := x) (s := s0) (i := i + 1) hD0 hDE hp.l16 hp.loc hp.first (fun w D hp => put_co x D E s0 (i + 1) op (nextF x.l i x.loc) w hp (by omega) (.inl (by omega)) (by omega) hl) ?_
  intro s1 i1 v1 f1 hD1 ka1 kb1 kc1 kd1 ke1
  simp -implicitDefEqProofs (disch := first | omega | decide) only [seval, -Int.reducePow, -Nat.reducePow, cC, pv, binv, sCoW3, undef]
  refine ⟨_, rfl, fun w hw => ?_⟩
  exact hp.done hw hD1 (by omega) (by omega) (by omega) (by omega) (by omega)
set_option maxHeartbeats 2000000 in
theorem host_co (x : Cx) (D E : Nat → Prop) (s0 : CoS) (i call : Nat) (W : World) (hp : CoPre W D E x s0 i) (hc : call ≤ 100) (hi : i ≤ 800000) (hl : s0.code.length ≤ 9000) :
    Calls Try.prog 69 #[.pointer (some ⟨x.b, 0, none⟩), .int .i64 (call : Int)] W (coP x D E 3 2 0 s0 i W) := by
  have hne := hp.ne
  have hD0 := hp.in0
  have hDE := hp.hDE
  have hE := fun y hy => (hp.dom y (.inr hy)).2.2
  refine calls_cv (M := [x.b, x.tb]) (n := 19) [] rfl Try.func69 rfl rfl (Nat.le_of_ble_eq_true rfl)  hp.st ?_
  refine cv_seq_k fun K hK => ?_
  refine cv_region_then rfl ?_
  simp -implicitDefEqProofs (disch := first | omega | decide) only [seval, -Int.reducePow, -Nat.reducePow, cC, pv, binv, sCoW3, undef]
  refine callV_co (x := x) (s := s0) (i := i) hD0 hDE hp.l16 hp.loc hp.first (fun w D hp => put_co x D E s0 i 23 call w hp (by decide) (.inl (by decide)) (by omega) (by omega)) ?_
  intro s1 i1 v1 f1 hD1 ka1 kb1 kc1 kd1 ke1
  simp -implicitDefEqProofs (disch := first | omega | decide) only [seval, -Int.reducePow, -Nat.reducePow, cC, pv, binv, sCoW3, undef]
  refine hK _ _ ?_
  clear hK K
  refine cv_seq_k fun K hK => ?_
  refine cv_region_then rfl ?_
  simp -implicitDefEqProofs (disch := first | omega | decide) only [seval, -Int.reducePow, -Nat.reducePow, cC, pv, binv, sCoW3, undef]
  refine callV_co (x := x) (s := s1) (i := i1) hD1 hDE hp.l16 hp.loc hp.first (fun w D hp => put_co x D E s1 i1 4 0 w hp (by decide) (.inr rfl) (by omega) (by omega)) ?_
  intro s2 i2 v2 f2 hD2 ka2 kb2 kc2 kd2 ke2
  simp -implicitDefEqProofs (disch := first | omega | decide) only [seval, -Int.reducePow, -Nat.reducePow, cC, pv, binv, sCoW3, undef]
  refine hK _ _ ?_
  clear hK K
  refine cv_seq_k fun K hK => ?_
  refine cv_region_then rfl ?_
  simp -implicitDefEqProofs (disch := first | omega | decide) only [seval, -Int.reducePow, -Nat.reducePow, cC, pv, binv, sCoW3, undef]
  refine callV_mod1 2 (fun w hw => next_anyN x.tb x.TA x.tn x.tc x.l i2 3 w (hw.hold 2 rfl) (hD2.tp hDE hw 0 rfl) (hD2.tapt hE) hp.l16 (by omega) (by omega)) rfl ?_
  try simp -implicitDefEqProofs (disch := first | omega | decide) only [seval, -Int.reducePow, -Nat.reducePow, cC, pv, binv, sCoW3, undef]
  refine hK _ _ ?_
  clear hK K
  refine cv_cond ?_
  simp -implicitDefEqProofs (disch := first | omega | decide) only [seval, -Int.reducePow, -Nat.reducePow, cC, pv, binv, sCoW3, undef]
  refine ⟨fun hc => ?_, fun hc => ?_⟩
  · refine cv_region_q rfl ?_
    simp -implicitDefEqProofs (disch := first | omega | decide) only [seval, -Int.reducePow, -Nat.reducePow, cC, pv, binv, sCoW3, undef]
    refine callV_co (x := x) (s := s2) (i := i2 + 1) hD2 hDE hp.l16 hp.loc hp.first (fun w D hp => local_co x D E s2 (i2 + 1) 3 w hp (.inr rfl) (by omega) (by omega)) ?_
    intro s3 i3 v3 f3 hD3 ka3 kb3 kc3 kd3 ke3
    simp -implicitDefEqProofs (disch := first | omega | decide) only [seval, -Int.reducePow, -Nat.reducePow, cC, pv, binv, sCoW3, undef]
    refine ⟨_, rfl, fun w hw => ?_⟩
    exact hp.done hw hD3 (by omega) (by omega) (by omega) (by omega) (by omega)
  · refine cv_region_q rfl ?_
    simp -implicitDefEqProofs (disch := first | omega | decide) only [seval, -Int.reducePow, -Nat.reducePow, cC, pv, binv, sCoW3, undef]
    refine callV_co (x := x) (s := s2) (i := i2 + 1) hD2 hDE hp.l16 hp.loc hp.first (fun w D hp => put_co x D E s2 (i2 + 1) 4 0 w hp (by decide) (.inr rfl) (by omega) (by omega)) ?_
    intro s3 i3 v3 f3 hD3 ka3 kb3 kc3 kd3 ke3
    simp -implicitDefEqProofs (disch := first | omega | decide) only [seval, -Int.reducePow, -Nat.reducePow, cC, pv, binv, sCoW3, undef]
    refine ⟨_, rfl, fun w hw => ?_⟩
    exact hp.done hw hD3 (by omega) (by omega) (by omega) (by omega) (by omega)
set_option maxHeartbeats 2000000 in
theorem handle_co (x : Cx) (D E : Nat → Prop) (s0 : CoS) (i : Nat) (W : World) (hp : CoPre W D E x s0 i) (hi : i ≤ 800000) (hl : s0.code.length ≤ 9000) :
    Calls Try.prog 68 #[.pointer (some ⟨x.b, 0, none⟩)] W (coP x D E 1 11 0 s0 i W) := by
  have hne := hp.ne
  have hD0 := hp.in0
  have hDE := hp.hDE
  have hE := fun y hy => (hp.dom y (.inr hy)).2.2
  have hln : s0.code.length = s0.n := cl_row insc_len (by omega) hD0.code.len
  refine calls_cv (M := [x.b, x.tb]) (n := 31) [] rfl Try.func68 rfl rfl (Nat.le_of_ble_eq_true rfl)  hp.st ?_
  refine cv_seq_k fun K hK => ?_
  refine cv_seq_k fun K hK => ?_
  refine cv_region_then rfl ?_
  simp -implicitDefEqProofs (disch := first | omega | decide) only [seval, -Int.reducePow, -Nat.reducePow, cC, pv, binv, sCoW3, undef]
  refine callV_mod1 2 (fun w hw => next_anyN x.tb x.TA x.tn x.tc x.l i 4 w (hw.hold 2 rfl) (hD0.tp hDE hw 0 rfl) (hD0.tapt hE) hp.l16 (by omega) (by omega)) rfl ?_
  try simp -implicitDefEqProofs (disch := first | omega | decide) only [seval, -Int.reducePow, -Nat.reducePow, cC, pv, binv, sCoW3, undef]
  refine hK _ _ ?_
  clear hK K
  refine cv_cond ?_
  simp -implicitDefEqProofs (disch := first | omega | decide) only [seval, -Int.reducePow, -Nat.reducePow, cC, pv, binv, sCoW3, undef]
  refine ⟨fun hc => ?_, fun hc => ?_⟩
  · refine cv_seq_k fun K hK => ?_
    refine cv_draw_of (pickL [0, 1] _) (fun w hw => hw.pick (by decide)) (by simp only [pickL, nth, suf_cons, suf_nil, List.mem_cons, true_or, or_true, and_true, eq_self]) [(true, 0), (true, 2), (true, 3), (true, 4), (true, 5), (true, 7), (true, 8), (true, 9), (true, 10), (true, 11), (true, 12), (true, 13), (true, 14), (false, 1), (false, 6), (false, 15), (true, 16), (false, 17), (false, 18), (true, 19), (true, 20), (false, 21)] [21] mixA rfl (by kernel_rfl) (by kernel_rfl) rfl rfl ?_
    simp -implicitDefEqProofs (disch := first | omega | decide) only [seval, -Int.reducePow, -Nat.reducePow, cC, pv, binv, sCoW3, undef]
    intro b9 hb9 h9
    refine appV_lit 0 tap56 rfl rfl (fun w hw => by exact (hD0.cd hDE hw 1 rfl).reads) (cl_ones insc_ones _) (by omega) (by omega) ?_
    intro A1 c1 hl1 hr1
    simp -implicitDefEqProofs (disch := first | omega | decide) only [seval, -Int.reducePow, -Nat.reducePow, cC, pv, binv, sCoW3, undef]
    refine callV_mod 3 (fun p : Nat × Nat => .int .u64 (p.1 : Int)) (fun p => tape x.TA x.tn x.tc p.2) (fun p => p.1 < 18446744073709551616 ∧ p.2 ≤ i + 1 + 10) rfl (fun w hw => word_any x.tb x.TA x.tn x.tc x.l (i + 1) x.first w (hw.hold 3 rfl) (hD0.tp hDE hw 1 rfl) (hD0.tapt hE) hp.l16 (by omega)) ?_
    rintro ⟨y, j⟩ ⟨hy, hj⟩
    dsimp only at hy hj
    simp -implicitDefEqProofs (disch := first | omega | decide) only [seval, -Int.reducePow, -Nat.reducePow, cC, pv, binv, sCoW3, undef]
    intro b10 hb10 h10
    refine appV_at 1 tap56 rfl (fun w hw => src_blk (size := 2) (.head _) rfl hw) rfl (by omega) (by omega) ?_
    intro A2 c2 hl2 hr2
    simp -implicitDefEqProofs (disch := first | omega | decide) only [seval, -Int.reducePow, -Nat.reducePow, cC, pv, binv, sCoW3, undef]
    refine hK _ _ ?_
    clear hK K
    refine cv_ret ⟨_, (by simp -implicitDefEqProofs (disch := first | omega | decide) only [seval, -Int.reducePow, -Nat.reducePow, cC, pv, binv, sCoW3, undef]; rfl), fun w hw => ?_⟩
    refine hp.fin (s' := ⟨A2, s0.n + 1, c2, s0.code ++ [⟨1, y⟩], s0.SA, s0.sn, s0.sc, s0.st⟩) (i' := j) hw (hw.hold 3 rfl) (hw.hold 4 rfl) ?_ ((hp.dat.sts.same (hp.old hw)) fun y hy => .inl hy) ?_ hp.dat.sok (by simp) (by omega) (by simp) (by simp) (by simp)
    · have := Sd.ownNew (hw.rowNew (by simp [Res.foot, snap_foot]))
      dsimp only
      rw [cl_snoc]
      exact this.mono fun y hy => .inr hy
    · intro z hz
      rcases List.mem_append.1 hz with hz | hz
      · exact hp.dat.ok z hz
      · obtain rfl : z = ⟨1, y⟩ := by simpa using hz
        exact ⟨rfl, hy⟩
  refine cv_skip ?_
  try simp only [blockQ, thenQ]
  refine hK _ _ ?_
  clear hK K
  refine cv_region_q rfl ?_
  simp -implicitDefEqProofs (disch := first | omega | decide) only [seval, -Int.reducePow, -Nat.reducePow, cC, pv, binv, sCoW3, undef]
  refine callV_co (x := x) (s := s0) (i := i + 1) hD0 hDE hp.l16 hp.loc hp.first (fun w D hp => local_co x D E s0 (i + 1) 2 w hp (.inl rfl) (by omega) (by omega)) ?_
  intro s1 i1 v1 f1 hD1 ka1 kb1 kc1 kd1 ke1
  simp -implicitDefEqProofs (disch := first | omega | decide) only [seval, -Int.reducePow, -Nat.reducePow, cC, pv, binv, sCoW3, undef]
  refine ⟨_, rfl, fun w hw => ?_⟩
  exact hp.done hw hD1 (by omega) (by omega) (by omega) (by omega) (by omega)
set_option maxHeartbeats 4000000 in
theorem access_co (x : Cx) (D E : Nat → Prop) (s0 : CoS) (i call : Nat) (W : World) (hp : CoPre W D E x s0 i) (hc : call ≤ 100) (hi : i ≤ 700000) (hl : s0.code.length ≤ 8000) :
    Calls Try.prog 48 #[.pointer (some ⟨x.b, 0, none⟩), .int .i64 (call : Int)] W (coP x D E 9 30 0 s0 i W) := by
  have hne := hp.ne
  have hD0 := hp.in0
  have hDE := hp.hDE
  have hE := fun y hy => (hp.dom y (.inr hy)).2.2
  refine calls_cv (M := [x.b, x.tb]) (n := 50) [] rfl Try.func48 rfl rfl (Nat.le_of_ble_eq_true rfl)  hp.st ?_
  refine cv_seq_k fun K hK => ?_
  refine cv_region_then rfl ?_
  simp -implicitDefEqProofs (disch := first | omega | decide) only [seval, -Int.reducePow, -Nat.reducePow, cC, pv, binv, sCoW3, undef]
  refine callV_co (x := x) (s := s0) (i := i) hD0 hDE hp.l16 hp.loc hp.first (fun w D hp => handle_co x D E s0 i w hp (by omega) (by omega)) ?_
  intro s1 i1 v1 f1 hD1 ka1 kb1 kc1 kd1 ke1
  simp -implicitDefEqProofs (disch := first | omega | decide) only [seval, -Int.reducePow, -Nat.reducePow, cC, pv, binv, sCoW3, undef]
  refine hK _ _ ?_
  clear hK K
  refine cv_seq_k fun K hK => ?_
  refine cv_seq_k fun K hK => ?_
  refine cv_region_then rfl ?_
  simp -implicitDefEqProofs (disch := first | omega | decide) only [seval, -Int.reducePow, -Nat.reducePow, cC, pv, binv, sCoW3, undef]
  refine hK _ _ ?_
  clear hK K
  refine cv_gen fun G4 hG => ?_
  have g4_0 := congrFun hG 0
  have g4_1 := congrFun hG 1
  have g4_6 := congrFun hG 6
  clear hG
  try simp -implicitDefEqProofs (disch := first | omega | decide) only [seval, -Int.reducePow, -Nat.reducePow, cC, pv, binv, sCoW3, undef] at g4_0 g4_1 g4_6
  have g4 := And.intro g4_0 (And.intro g4_1 g4_6)
  refine cv_cut (fun _ _ => True) (fun F' L' => ∃ (s9 : CoS) (i9 : Nat) (v9 : World) (f9 : List Nat), F' 0 = G4 0 ∧ F' 1 = G4 1 ∧ L' = [snap [x.b, x.tb] W v9 f9, coB x s9, coT x i9] ∧ CoD v9 (Dn D f9) E x s9 ∧ s9.code.length ≤ s1.code.length + 5 ∧ i9 ≤ i1 + 16 ∧ s9.st.length ≤ s1.st.length ∧ s1.code.length ≤ s9.code.length ∧ s1.st.length ≤ s9.st.length) ?_ ?_
  · refine cv_block ?_
    refine cv_seq_k fun K hK => ?_
    refine cv_region_then rfl ?_
    simp -implicitDefEqProofs (disch := first | omega | decide) only [seval, -Int.reducePow, -Nat.reducePow, cC, pv, binv, sCoW3, undef, g4]
    refine hK _ _ ?_
    clear hK K
    refine cv_cond ?_
    simp -implicitDefEqProofs (disch := first | omega | decide) only [seval, -Int.reducePow, -Nat.reducePow, cC, pv, binv, sCoW3, undef, g4]
    refine ⟨fun hc => ?_, fun hc => ?_⟩
    · refine cv_region_q rfl ?_
      simp -implicitDefEqProofs (disch := first | omega | decide) only [seval, -Int.reducePow, -Nat.reducePow, cC, pv, binv, sCoW3, undef, g4]
      refine callV_co (x := x) (s := s1) (i := i1) hD1 hDE hp.l16 hp.loc hp.first (fun w D hp => num_co x D E s1 i1 5 w hp (by omega) (by omega) (by omega)) ?_
      intro s2 i2 v2 f2 hD2 ka2 kb2 kc2 kd2 ke2
      simp -implicitDefEqProofs (disch := first | omega | decide) only [seval, -Int.reducePow, -Nat.reducePow, cC, pv, binv, sCoW3, undef, g4]
      refine ⟨s2, i2, v2, f2, ?_⟩
      simp -implicitDefEqProofs (disch := first | omega | decide) only [seval, -Int.reducePow, -Nat.reducePow, cC, pv, binv, sCoW3, undef, g4]
      exact ⟨hD2, by omega⟩
    refine cv_seq_k fun K hK => ?_
    refine cv_region_then rfl ?_
    simp -implicitDefEqProofs (disch := first | omega | decide) only [seval, -Int.reducePow, -Nat.reducePow, cC, pv, binv, sCoW3, undef, g4]
    refine hK _ _ ?_
    clear hK K
    refine cv_cond ?_
    simp -implicitDefEqProofs (disch := first | omega | decide) only [seval, -Int.reducePow, -Nat.reducePow, cC, pv, binv, sCoW3, undef, g4]
    refine ⟨fun hc => ?_, fun hc => ?_⟩
    · refine cv_seq_k fun K hK => ?_
      refine cv_region_then rfl ?_
      simp -implicitDefEqProofs (disch := first | omega | decide) only [seval, -Int.reducePow, -Nat.reducePow, cC, pv, binv, sCoW3, undef, g4]
      refine callV_co (x := x) (s := s1) (i := i1) hD1 hDE hp.l16 hp.loc hp.first (fun w D hp => num_co x D E s1 i1 5 w hp (by omega) (by omega) (by omega)) ?_
      intro s2 i2 v2 f2 hD2 ka2 kb2 kc2 kd2 ke2
      simp -implicitDefEqProofs (disch := first | omega | decide) only [seval, -Int.reducePow, -Nat.reducePow, cC, pv, binv, sCoW3, undef, g4]
      refine hK _ _ ?_
      clear hK K
      refine cv_region_q rfl ?_
      simp -implicitDefEqProofs (disch := first | omega | decide) only [seval, -Int.reducePow, -Nat.reducePow, cC, pv, binv, sCoW3, undef, g4]
      refine callV_co (x := x) (s := s2) (i := i2) hD2 hDE hp.l16 hp.loc hp.first (fun w D hp => num_co x D E s2 i2 300 w hp (by omega) (by omega) (by omega)) ?_
      intro s3 i3 v3 f3 hD3 ka3 kb3 kc3 kd3 ke3
      simp -implicitDefEqProofs (disch := first | omega | decide) only [seval, -Int.reducePow, -Nat.reducePow, cC, pv, binv, sCoW3, undef, g4]
      refine ⟨s3, i3, v3, f3, ?_⟩
      simp -implicitDefEqProofs (disch := first | omega | decide) only [seval, -Int.reducePow, -Nat.reducePow, cC, pv, binv, sCoW3, undef, g4]
      exact ⟨hD3, by omega⟩
    refine cv_seq_k fun K hK => ?_
    refine cv_region_then rfl ?_
    simp -implicitDefEqProofs (disch := first | omega | decide) only [seval, -Int.reducePow, -Nat.reducePow, cC, pv, binv, sCoW3, undef, g4]
    refine hK _ _ ?_
    clear hK K
    refine cv_cond ?_
    simp -implicitDefEqProofs (disch := first | omega | decide) only [seval, -Int.reducePow, -Nat.reducePow, cC, pv, binv, sCoW3, undef, g4]
    refine ⟨fun hc => ?_, fun hc => ?_⟩
    · refine cv_seq_k fun K hK => ?_
      refine cv_region_then rfl ?_
      simp -implicitDefEqProofs (disch := first | omega | decide) only [seval, -Int.reducePow, -Nat.reducePow, cC, pv, binv, sCoW3, undef, g4]
      refine callV_co (x := x) (s := s1) (i := i1) hD1 hDE hp.l16 hp.loc hp.first (fun w D hp => num_co x D E s1 i1 9 w hp (by omega) (by omega) (by omega)) ?_
      intro s2 i2 v2 f2 hD2 ka2 kb2 kc2 kd2 ke2
      simp -implicitDefEqProofs (disch := first | omega | decide) only [seval, -Int.reducePow, -Nat.reducePow, cC, pv, binv, sCoW3, undef, g4]
      refine hK _ _ ?_
      clear hK K
      refine cv_region_q rfl ?_
      simp -implicitDefEqProofs (disch := first | omega | decide) only [seval, -Int.reducePow, -Nat.reducePow, cC, pv, binv, sCoW3, undef, g4]
      refine callV_co (x := x) (s := s2) (i := i2) hD2 hDE hp.l16 hp.loc hp.first (fun w D hp => num_co x D E s2 i2 10 w hp (by omega) (by omega) (by omega)) ?_
      intro s3 i3 v3 f3 hD3 ka3 kb3 kc3 kd3 ke3
      simp -implicitDefEqProofs (disch := first | omega | decide) only [seval, -Int.reducePow, -Nat.reducePow, cC, pv, binv, sCoW3, undef, g4]
      refine ⟨s3, i3, v3, f3, ?_⟩
      simp -implicitDefEqProofs (disch := first | omega | decide) only [seval, -Int.reducePow, -Nat.reducePow, cC, pv, binv, sCoW3, undef, g4]
      exact ⟨hD3, by omega⟩
    refine cv_seq_k fun K hK => ?_
    refine cv_region_then rfl ?_
    simp -implicitDefEqProofs (disch := first | omega | decide) only [seval, -Int.reducePow, -Nat.reducePow, cC, pv, binv, sCoW3, undef, g4]
    refine hK _ _ ?_
    clear hK K
    refine cv_cond ?_
    simp -implicitDefEqProofs (disch := first | omega | decide) only [seval, -Int.reducePow, -Nat.reducePow, cC, pv, binv, sCoW3, undef, g4]
    refine ⟨fun hc => ?_, fun hc => ?_⟩
    · refine cv_seq_k fun K hK => ?_
      refine cv_region_then rfl ?_
      simp -implicitDefEqProofs (disch := first | omega | decide) only [seval, -Int.reducePow, -Nat.reducePow, cC, pv, binv, sCoW3, undef, g4]
      refine callV_co (x := x) (s := s1) (i := i1) hD1 hDE hp.l16 hp.loc hp.first (fun w D hp => num_co x D E s1 i1 9 w hp (by omega) (by omega) (by omega)) ?_
      intro s2 i2 v2 f2 hD2 ka2 kb2 kc2 kd2 ke2
      simp -implicitDefEqProofs (disch := first | omega | decide) only [seval, -Int.reducePow, -Nat.reducePow, cC, pv, binv, sCoW3, undef, g4]
      refine hK _ _ ?_
      clear hK K
      refine cv_seq_k fun K hK => ?_
      refine cv_region_then rfl ?_
      simp -implicitDefEqProofs (disch := first | omega | decide) only [seval, -Int.reducePow, -Nat.reducePow, cC, pv, binv, sCoW3, undef, g4]
      refine callV_co (x := x) (s := s2) (i := i2) hD2 hDE hp.l16 hp.loc hp.first (fun w D hp => num_co x D E s2 i2 10 w hp (by omega) (by omega) (by omega)) ?_
      intro s3 i3 v3 f3 hD3 ka3 kb3 kc3 kd3 ke3
      simp -implicitDefEqProofs (disch := first | omega | decide) only [seval, -Int.reducePow, -Nat.reducePow, cC, pv, binv, sCoW3, undef, g4]
      refine hK _ _ ?_
      clear hK K
      refine cv_region_q rfl ?_
      simp -implicitDefEqProofs (disch := first | omega | decide) only [seval, -Int.reducePow, -Nat.reducePow, cC, pv, binv, sCoW3, undef, g4]
      refine callV_co (x := x) (s := s3) (i := i3) hD3 hDE hp.l16 hp.loc hp.first (fun w D hp => local_co x D E s3 i3 2 w hp (.inl rfl) (by omega) (by omega)) ?_
      intro s4 i4 v4 f4 hD4 ka4 kb4 kc4 kd4 ke4
      simp -implicitDefEqProofs (disch := first | omega | decide) only [seval, -Int.reducePow, -Nat.reducePow, cC, pv, binv, sCoW3, undef, g4]
      refine ⟨s4, i4, v4, f4, ?_⟩
      simp -implicitDefEqProofs (disch := first | omega | decide) only [seval, -Int.reducePow, -Nat.reducePow, cC, pv, binv, sCoW3, undef, g4]
      exact ⟨hD4, by omega⟩
    refine cv_seq_k fun K hK => ?_
    refine cv_region_then rfl ?_
    simp -implicitDefEqProofs (disch := first | omega | decide) only [seval, -Int.reducePow, -Nat.reducePow, cC, pv, binv, sCoW3, undef, g4]
    refine hK _ _ ?_
    clear hK K
    refine cv_cond ?_
    simp -implicitDefEqProofs (disch := first | omega | decide) only [seval, -Int.reducePow, -Nat.reducePow, cC, pv, binv, sCoW3, undef, g4]
    refine ⟨fun hc => ?_, fun hc => ?_⟩
    · refine cv_seq_k fun K hK => ?_
      refine cv_region_then rfl ?_
      simp -implicitDefEqProofs (disch := first | omega | decide) only [seval, -Int.reducePow, -Nat.reducePow, cC, pv, binv, sCoW3, undef, g4]
      refine callV_co (x := x) (s := s1) (i := i1) hD1 hDE hp.l16 hp.loc hp.first (fun w D hp => num_co x D E s1 i1 9 w hp (by omega) (by omega) (by omega)) ?_
      intro s2 i2 v2 f2 hD2 ka2 kb2 kc2 kd2 ke2
      simp -implicitDefEqProofs (disch := first | omega | decide) only [seval, -Int.reducePow, -Nat.reducePow, cC, pv, binv, sCoW3, undef, g4]
      refine hK _ _ ?_
      clear hK K
      refine cv_seq_k fun K hK => ?_
      refine cv_region_then rfl ?_
      simp -implicitDefEqProofs (disch := first | omega | decide) only [seval, -Int.reducePow, -Nat.reducePow, cC, pv, binv, sCoW3, undef, g4]
      refine callV_co (x := x) (s := s2) (i := i2) hD2 hDE hp.l16 hp.loc hp.first (fun w D hp => handle_co x D E s2 i2 w hp (by omega) (by omega)) ?_
      intro s3 i3 v3 f3 hD3 ka3 kb3 kc3 kd3 ke3
      simp -implicitDefEqProofs (disch := first | omega | decide) only [seval, -Int.reducePow, -Nat.reducePow, cC, pv, binv, sCoW3, undef, g4]
      refine hK _ _ ?_
      clear hK K
      refine cv_seq_k fun K hK => ?_
      refine cv_region_then rfl ?_
      simp -implicitDefEqProofs (disch := first | omega | decide) only [seval, -Int.reducePow, -Nat.reducePow, cC, pv, binv, sCoW3, undef, g4]
      refine callV_co (x := x) (s := s3) (i := i3) hD3 hDE hp.l16 hp.loc hp.first (fun w D hp => num_co x D E s3 i3 9 w hp (by omega) (by omega) (by omega)) ?_
      intro s4 i4 v4 f4 hD4 ka4 kb4 kc4 kd4 ke4
      simp -implicitDefEqProofs (disch := first | omega | decide) only [seval, -Int.reducePow, -Nat.reducePow, cC, pv, binv, sCoW3, undef, g4]
      refine hK _ _ ?_
      clear hK K
      refine cv_region_q rfl ?_
      simp -implicitDefEqProofs (disch := first | omega | decide) only [seval, -Int.reducePow, -Nat.reducePow, cC, pv, binv, sCoW3, undef, g4]
      refine callV_co (x := x) (s := s4) (i := i4) hD4 hDE hp.l16 hp.loc hp.first (fun w D hp => num_co x D E s4 i4 9 w hp (by omega) (by omega) (by omega)) ?_
      intro s5 i5 v5 f5 hD5 ka5 kb5 kc5 kd5 ke5
      simp -implicitDefEqProofs (disch := first | omega | decide) only [seval, -Int.reducePow, -Nat.reducePow, cC, pv, binv, sCoW3, undef, g4]
      refine ⟨s5, i5, v5, f5, ?_⟩
      simp -implicitDefEqProofs (disch := first | omega | decide) only [seval, -Int.reducePow, -Nat.reducePow, cC, pv, binv, sCoW3, undef, g4]
      exact ⟨hD5, by omega⟩
    refine cv_seq_k fun K hK => ?_
    refine cv_cut (fun _ _ => True) (fun F' L' => F' 0 = G4 0 ∧ F' 1 = G4 1 ∧ F' 6 = G4 6 ∧ F' 41 = .bool (decide (call = 8 ∨ call = 9 ∨ call = 10)) ∧ L' = [snap [x.b, x.tb] W v1 f1, coB x s1, coT x i1]) ?_ ?_
    · refine cv_seq_k fun K hK => ?_
      refine cv_region_then rfl ?_
      simp -implicitDefEqProofs (disch := first | omega | decide) only [seval, -Int.reducePow, -Nat.reducePow, cC, pv, binv, sCoW3, undef, g4]
      refine hK _ _ ?_
      clear hK K
      refine cv_cond ?_
      simp -implicitDefEqProofs (disch := first | omega | decide) only [seval, -Int.reducePow, -Nat.reducePow, cC, pv, binv, sCoW3, undef, g4]
      refine ⟨fun hc => ?_, fun hc => ?_⟩
      · have q0 := of_decide_eq_true ‹_›
        refine cv_skip ?_
        try simp only [blockQ, thenQ]
        simp -implicitDefEqProofs (disch := first | omega | decide) only [seval, -Int.reducePow, -Nat.reducePow, cC, pv, binv, sCoW3, undef, g4]
        all_goals (repeat' refine And.intro ?_ ?_)
        all_goals (first | with_reducible rfl | (refine congrArg Value.bool ?_; rw [Bool.eq_iff_iff]; (try simp only [decide_eq_true_eq, eq_self, true_and, and_true, false_and, and_false, true_or, or_true, false_or, or_false, not_true_eq_false, not_false_eq_true, true_iff, iff_true, false_iff, iff_false, Bool.false_eq_true, Bool.not_eq_true', Bool.not_eq_true, decide_eq_false_iff_not, Bool.and_eq_true, Bool.or_eq_true]) <;> omega) | (refine congrArg (Value.int _) ?_; omega) | omega)
      have q0 := of_decide_eq_false ‹_›
      refine cv_seq_k fun K hK => ?_
      refine cv_region_then rfl ?_
      simp -implicitDefEqProofs (disch := first | omega | decide) only [seval, -Int.reducePow, -Nat.reducePow, cC, pv, binv, sCoW3, undef, g4]
      refine hK _ _ ?_
      clear hK K
      refine cv_cond ?_
      simp -implicitDefEqProofs (disch := first | omega | decide) only [seval, -Int.reducePow, -Nat.reducePow, cC, pv, binv, sCoW3, undef, g4]
      refine ⟨fun hc => ?_, fun hc => ?_⟩
      · have q1 := of_decide_eq_true ‹_›
        refine cv_skip ?_
        try simp only [blockQ, thenQ]
        simp -implicitDefEqProofs (disch := first | omega | decide) only [seval, -Int.reducePow, -Nat.reducePow, cC, pv, binv, sCoW3, undef, g4]
        all_goals (repeat' refine And.intro ?_ ?_)
        all_goals (first | with_reducible rfl | (refine congrArg Value.bool ?_; rw [Bool.eq_iff_iff]; (try simp only [decide_eq_true_eq, eq_self, true_and, and_true, false_and, and_false, true_or, or_true, false_or, or_false, not_true_eq_false, not_false_eq_true, true_iff, iff_true, false_iff, iff_false, Bool.false_eq_true, Bool.not_eq_true', Bool.not_eq_true, decide_eq_false_iff_not, Bool.and_eq_true, Bool.or_eq_true]) <;> omega) | (refine congrArg (Value.int _) ?_; omega) | omega)
      have q1 := of_decide_eq_false ‹_›
      refine cv_region_q rfl ?_
      simp -implicitDefEqProofs (disch := first | omega | decide) only [seval, -Int.reducePow, -Nat.reducePow, cC, pv, binv, sCoW3, undef, g4]
      all_goals (repeat' refine And.intro ?_ ?_)
      all_goals (first | with_reducible rfl | (refine congrArg Value.bool ?_; rw [Bool.eq_iff_iff]; (try simp only [decide_eq_true_eq, eq_self, true_and, and_true, false_and, and_false, true_or, or_true, false_or, or_false, not_true_eq_false, not_false_eq_true, true_iff, iff_true, false_iff, iff_false, Bool.false_eq_true, Bool.not_eq_true', Bool.not_eq_true, decide_eq_false_iff_not, Bool.and_eq_true, Bool.or_eq_true]) <;> omega) | (refine congrArg (Value.int _) ?_; omega) | omega)
    intro G5 L' _ hF
    obtain ⟨q0, q1, q6, q41, rfl⟩ := hF
    have g5_0 := q0.trans g4_0
    have g5_1 := q1.trans g4_1
    have g5_6 := q6.trans g4_6
    have g5_41 := q41
    clear q0 q1 q6 q41
    have g5 := And.intro g5_0 (And.intro g5_1 (And.intro g5_6 g5_41))
    refine hK _ _ ?_
    clear hK K
    refine cv_cond ?_
    simp -implicitDefEqProofs (disch := first | omega | decide) only [seval, -Int.reducePow, -Nat.reducePow, cC, pv, binv, sCoW3, undef, g4, g5]
    refine ⟨fun hc => ?_, fun hc => ?_⟩
    · refine cv_region_q rfl ?_
      simp -implicitDefEqProofs (disch := first | omega | decide) only [seval, -Int.reducePow, -Nat.reducePow, cC, pv, binv, sCoW3, undef, g4, g5]
      refine callV_co (x := x) (s := s1) (i := i1) hD1 hDE hp.l16 hp.loc hp.first (fun w D hp => num_co x D E s1 i1 4 w hp (by omega) (by omega) (by omega)) ?_
      intro s2 i2 v2 f2 hD2 ka2 kb2 kc2 kd2 ke2
      simp -implicitDefEqProofs (disch := first | omega | decide) only [seval, -Int.reducePow, -Nat.reducePow, cC, pv, binv, sCoW3, undef, g4, g5]
      refine ⟨s2, i2, v2, f2, ?_⟩
      simp -implicitDefEqProofs (disch := first | omega | decide) only [seval, -Int.reducePow, -Nat.reducePow, cC, pv, binv, sCoW3, undef, g4, g5]
      exact ⟨hD2, by omega⟩
    refine cv_skip ?_
    try simp only [blockQ, thenQ]
    refine ⟨s1, i1, v1, f1, ?_⟩
    simp -implicitDefEqProofs (disch := first | omega | decide) only [seval, -Int.reducePow, -Nat.reducePow, cC, pv, binv, sCoW3, undef, g4, g5]
    exact ⟨hD1, by omega⟩
  intro G6 L' _ hF
  obtain ⟨s9, i9, v9, f9, q0, q1, rfl, ⟨hD9, k1, k2, k3, k4, k5⟩⟩ := hF
  have g6_0 := q0.trans g4_0
  have g6_1 := q1.trans g4_1
  clear q0 q1
  have g6 := And.intro g6_0 g6_1
  refine hK _ _ ?_
  clear hK K
  refine cv_region_q rfl ?_
  simp -implicitDefEqProofs (disch := first | omega | decide) only [seval, -Int.reducePow, -Nat.reducePow, cC, pv, binv, sCoW3, undef, g6]
  refine callV_co (x := x) (s := s9) (i := i9) hD9 hDE hp.l16 hp.loc hp.first (fun w D hp => host_co x D E s9 i9 call w hp hc (by omega) (by omega)) ?_
  intro s10 i10 v10 f10 hD10 ka10 kb10 kc10 kd10 ke10
  simp -implicitDefEqProofs (disch := first | omega | decide) only [seval, -Int.reducePow, -Nat.reducePow, cC, pv, binv, sCoW3, undef, g6]
  refine ⟨_, rfl, fun w hw => ?_⟩
  exact hp.done hw hD10 (by omega) (by omega) (by omega) (by omega) (by omega)
end Go.Proofs.Ytlbmnioibiomfaa
