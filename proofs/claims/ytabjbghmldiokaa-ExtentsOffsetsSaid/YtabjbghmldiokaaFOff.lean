/- The law ExtentsOffsets, walked. -/
import Derived.Test.YtabjbghmldiokaaFOffP
import Derived.Test.YtabjbghmldiokaaEngH
import Derived.Test.YtabjbghmldiokaaFCmp
import Derived.Test.YtabjbghmldiokaaFHelp
import Derived.Test.YtabjbghmldiokaaExRValid
namespace Go.Proofs.Ytabjbghmldiokaa
open Go.RowKit Go.Shelf
set_option linter.unusedVariables false
set_option linter.unusedSimpArgs false
set_option maxRecDepth 100000
section
variable {P : Program} {M : List Nat} {W : World} {L : List Res}
theorem xv_func {F : Fr} {d : Option Nat} {f : FuncId} {caps : Array Operand} {ty : TypeId} {pos : String} {af : Array Edge} {gd : Option (Nat × Bool)} {K : Bool → Value → List Res → Prop} (hK : K true (.func (.func f) #[] (caps.map (ev F))) L) :
    XV P M W ⟨d, .makeFunc (.func f) #[] caps, ty, pos, af, gd⟩ F L K := fun w hw => ⟨_, _, w, by simp [execOp, Instr.makeFunc], hw, hK⟩
end
set_option maxRecDepth 100000 in
theorem sFOff1 : type_of% (And.intro (And.intro @eBox.eq_1 @Nat.mul_one) (And.intro @wrap_in (And.intro @cM @cF))) := (And.intro (And.intro @eBox.eq_1 @Nat.mul_one) (And.intro @wrap_in (And.intro @cM @cF)))
set_option maxHeartbeats 2000000 in
theorem offsets_call {M : List Nat} {W : World} {L : List Res} (A : Option Addr) (n c : Nat) (xs : List Ext) (hE : ∀ w, St M W L w → Exts w w.heap.size A n c xs) (hn : n ≤ 1000) {K : Bool → Value → List Res → Prop}
    (hK : ∀ bx A2 n2 c2, K true (.func (.func 40) #[] #[.pointer (some ⟨bx, 0, none⟩)]) (.blk bx 22 [.slice A2 n2 c2] :: .row (.slice A2 n2 c2) 24 2 n2 (exCells xs) :: L)) :
    CallV Try.prog M W 26 #[.slice A n c] L K := by
  have hKK := hK
  clear hK
  intro w hw
  refine calls_cvf (n := 7) [.tmp 2] rfl Try.func26 rfl rfl (Nat.le_of_ble_eq_true rfl)  hw ?_
  refine cvf_seq_k fun K hK => ?_
  refine cvf_region_then rfl rfl ?_
  simp -implicitDefEqProofs (disch := first | omega | decide) only [seval, -Int.reducePow, -Nat.reducePow, cC, pv, binv, sFOff1, undef]
  refine hK _ _ _ ?_
  clear hK K
  refine cvf_seq_k fun K hK => ?_
  refine cvf_region_then rfl rfl ?_
  simp -implicitDefEqProofs (disch := first | omega | decide) only [seval, -Int.reducePow, -Nat.reducePow, cC, pv, binv, sFOff1, undef]
  refine callV_row (fun A n c => .slice A n c) (fun w hw => clone_ext A n c xs w (hE w hw) (by omega)) ?_
  intro A2 n2 c2 hl2 hr2
  simp -implicitDefEqProofs (disch := first | omega | decide) only [seval, -Int.reducePow, -Nat.reducePow, cC, pv, binv, sFOff1, undef]
  intro bx hbx hfx
  refine hK _ _ _ ?_
  clear hK K
  refine cvf_seq_k fun K hK => ?_
  refine cvf_region_then rfl rfl ?_
  simp -implicitDefEqProofs (disch := first | omega | decide) only [seval, -Int.reducePow, -Nat.reducePow, cC, pv, binv, sFOff1, undef]
  refine xv_func ?_
  simp -implicitDefEqProofs (disch := first | omega | decide) only [seval, -Int.reducePow, -Nat.reducePow, cC, pv, binv, sFOff1, undef]
  refine hK _ _ _ ?_
  clear hK K
  refine cvf_ret ?_
  simp only [retF, thenF, blockF]
  refine ⟨_, rfl, ?_⟩
  simp -implicitDefEqProofs (disch := first | omega | decide) only [seval, -Int.reducePow, -Nat.reducePow, cC, pv, binv, sFOff1, undef, ressV, packV]
  intro w hw
  exact ⟨_, _, rfl, hw, hKK _ _ _ _⟩
set_option maxHeartbeats 2000000 in
theorem offs_iter {W : World} (A4 : Option Addr) (n4 c4 : Nat) (ys : List Ext) (bx : Nat) (hv : Ex.vld ys) (hn : n4 ≤ 1000) (hl : ys.length = n4) :
    IterP Try.prog [] W 40 #[.pointer (some ⟨bx, 0, none⟩)] (fun o : Int => #[.int .i64 o]) (fun pre x => pre ++ [x] <+: Ex.offs ys) (fun l => l = Ex.offs ys) (fun pre => pre <+: Ex.offs ys) [.blk bx 22 [.slice A4 n4 c4], .row (.slice A4 n4 c4) 24 2 n4 (exCells ys)] := by
  intro l I Ix hdt hY R w hI hw
  have hvb := (Ex.vldB_iff _).2 hv
  obtain ⟨fR, pR, lR, rfl⟩ := hdt _ _ hI
  show Calls Try.prog 40 #[.func (.yield l) #[] #[], .pointer (some ⟨bx, 0, none⟩)] w _
  refine calls_cvf (n := 28) [] rfl Try.func40 rfl rfl (Nat.le_of_ble_eq_true rfl)  hw ?_
  refine cvf_seq_k fun K hK => ?_
  refine cvf_seq_k fun K hK => ?_
  refine cvf_region_then rfl rfl ?_
  simp -implicitDefEqProofs (disch := first | omega | decide) only [seval, -Int.reducePow, -Nat.reducePow, cC, pv, binv, sFOff1, undef]
  refine callV_ret (fun w hw => valid_any A4 n4 c4 ys w (Exts.of_row hw (nth_mem (k := 1) rfl))) ?_
  try simp -implicitDefEqProofs (disch := first | omega | decide) only [seval, -Int.reducePow, -Nat.reducePow, cC, pv, binv, sFOff1, undef, hvb]
  refine hK _ _ _ ?_
  clear hK K
  refine cvf_cond ?_
  simp -implicitDefEqProofs (disch := first | omega | decide) only [seval, -Int.reducePow, -Nat.reducePow, cC, pv, binv, sFOff1, undef]
  refine cvf_skip ?_
  try simp only [blockF, thenF]
  refine hK _ _ _ ?_
  clear hK K
  refine cvf_seq_k fun K hK => ?_
  refine cvf_region_then rfl rfl ?_
  simp -implicitDefEqProofs (disch := first | omega | decide) only [seval, -Int.reducePow, -Nat.reducePow, cC, pv, binv, sFOff1, undef]
  refine hK _ _ _ ?_
  clear hK K
  refine cvf_gen fun G1 hG => ?_
  have g1_0 := congrFun hG 0
  have g1_9 := congrFun hG 9
  have g1_10 := congrFun hG 10
  have g1_11 := congrFun hG 11
  clear hG
  try simp -implicitDefEqProofs (disch := first | omega | decide) only [seval, -Int.reducePow, -Nat.reducePow, cC, pv, binv, sFOff1, undef] at g1_0 g1_9 g1_10 g1_11
  have g1 := And.intro g1_0 (And.intro g1_9 (And.intro g1_10 g1_11))
  refine cvf_block ?_
  refine cvf_loop (fun F' L' => ∃ (i : Nat) (R : Res), F' 0 = G1 0 ∧ F' 9 = G1 9 ∧ F' 10 = G1 10 ∧ F' 11 = .int .i64 (i : Int) ∧ L' = [.blk bx 22 [.slice A4 n4 c4], .row (.slice A4 n4 c4) 24 2 n4 (exCells ys), R] ∧ I (Ex.offs (ys.take i)) R ∧ i ≤ n4) (fun F' L' => 2000 - (intOf (F' 11)).toNat) ?_ ?_
  · refine ⟨0, .dat fR pR lR, ?_⟩
    simp -implicitDefEqProofs (disch := first | omega | decide) only [seval, -Int.reducePow, -Nat.reducePow, cC, pv, binv, sFOff1, undef, g1]
    exact ⟨hI, by omega⟩
  intro G2 L' hI
  obtain ⟨i, R, q0, q9, q10, q11, rfl, ⟨hIR, hi⟩⟩ := hI
  have g2_0 := q0.trans g1_0
  have g2_9 := q9.trans g1_9
  have g2_10 := q10.trans g1_10
  have g2_11 := q11
  clear q0 q9 q10 q11
  have g2 := And.intro g2_0 (And.intro g2_9 (And.intro g2_10 g2_11))
  obtain ⟨fR2, pR2, lR2, rfl⟩ := hdt _ _ hIR
  refine cvf_seq_k fun K hK => ?_
  refine cvf_region_then rfl rfl ?_
  simp -implicitDefEqProofs (disch := first | omega | decide) only [seval, -Int.reducePow, -Nat.reducePow, cC, pv, binv, sFOff1, undef, g1, g2]
  refine hK _ _ _ ?_
  clear hK K
  refine cvf_seq_k fun K hK => ?_
  refine cvf_cond ?_
  simp -implicitDefEqProofs (disch := first | omega | decide) only [seval, -Int.reducePow, -Nat.reducePow, cC, pv, binv, sFOff1, undef, g1, g2]
  refine ⟨fun hc => ?_, fun hc => ?_⟩
  · refine cvf_skip ?_
    try simp only [blockF, thenF]
    have hit : i < n4 := by have := of_decide_eq_true ‹decide ((i : Int) < (n4 : Int)) = true›; omega
    have hlt : i < ys.length := by omega
    have hx := vld_prop hv hlt
    have hpre := fun j (h : j ≤ (Ex.get ys i).len.toNat) => Ex.offs_pre hlt h
    have htk := Ex.offs_take hlt
    have hcx := exCells_two ys i hlt
    obtain ⟨e, he⟩ : ∃ e, Ex.get ys i = e := ⟨_, rfl⟩
    rw [he] at hcx hx hpre htk
    refine hK _ _ _ ?_
    clear hK K
    refine cvf_rowA 1 rfl (by omega) fun g hAA hg hNN => ?_
    subst hAA
    simp only [List.eraseIdx_cons_zero, List.eraseIdx_cons_succ, neB_nil, neB_blk, neB_row, neB_snap, and_true, List.not_mem_nil, or_false, sFOff1, undef] at hNN hg
    replace hg := And.intro hg hNN
    clear hNN
    refine cvf_seq_k fun K hK => ?_
    refine cvf_block ?_
    refine cvf_seq_k fun K hK => ?_
    refine cvf_region_then rfl rfl ?_
    simp -implicitDefEqProofs (disch := first | omega | decide) only [seval, -Int.reducePow, -Nat.reducePow, cC, pv, binv, sFOff1, undef, g1, g2]
    refine ⟨_, ld_row (i := i * 2) (vs := [.int .i64 e.off, .int .i64 e.len]) (.tail _ (.head _)) rfl hcx, fun tok htok => ?_⟩
    subst htok
    simp -implicitDefEqProofs (disch := first | omega | decide) only [seval, -Int.reducePow, -Nat.reducePow, cC, pv, binv, sFOff1, undef, g1, g2]
    intro b4 hb4 hf4
    refine hK _ _ _ ?_
    clear hK K
    refine cvf_seq_k fun K hK => ?_
    refine cvf_region_then rfl rfl ?_
    simp -implicitDefEqProofs (disch := first | omega | decide) only [seval, -Int.reducePow, -Nat.reducePow, cC, pv, binv, sFOff1, undef, g1, g2]
    refine hK _ _ _ ?_
    clear hK K
    refine cvf_gen fun G3 hG => ?_
    have g3_0 := congrFun hG 0
    have g3_4 := congrFun hG 4
    have g3_5 := congrFun hG 5
    have g3_9 := congrFun hG 9
    have g3_10 := congrFun hG 10
    have g3_11 := congrFun hG 11
    clear hG
    try simp -implicitDefEqProofs (disch := first | omega | decide) only [seval, -Int.reducePow, -Nat.reducePow, cC, pv, binv, sFOff1, undef, g1, g2] at g3_0 g3_4 g3_5 g3_9 g3_10 g3_11
    have g3 := And.intro g3_0 (And.intro g3_4 (And.intro g3_5 (And.intro g3_9 (And.intro g3_10 g3_11))))
    refine cvf_block ?_
    refine cvf_loop (fun F' L' => ∃ (j : Nat) (R : Res), F' 0 = G3 0 ∧ F' 4 = G3 4 ∧ F' 5 = .int .i64 (e.off + (j : Int)) ∧ F' 9 = G3 9 ∧ F' 10 = G3 10 ∧ F' 11 = G3 11 ∧ L' = [.blk b4 24 [.int .i64 e.off, .int .i64 e.len], .blk bx 22 [.slice (some ⟨g, 0, none⟩) n4 c4], .row (.slice (some ⟨g, 0, none⟩) n4 c4) 24 2 n4 (exCells ys), R] ∧ I (Ex.offs (ys.take i) ++ Ex.seg e j) R ∧ j ≤ e.len.toNat) (fun F' L' => 2000000 - (intOf (F' 5)).toNat) ?_ ?_
    · refine ⟨0, .dat fR2 pR2 lR2, ?_⟩
      simp -implicitDefEqProofs (disch := first | omega | decide) only [seval, -Int.reducePow, -Nat.reducePow, cC, pv, binv, sFOff1, undef, Int.add_zero, Int.natCast_zero, g1, g2, g3]
      refine ⟨?_, by omega⟩
      show I (Ex.offs (ys.take i) ++ []) _
      rw [List.append_nil]
      exact hIR
    intro G4 L' hI
    obtain ⟨j, R, q0, q4, q5, q9, q10, q11, rfl, ⟨hIR2, hj⟩⟩ := hI
    have g4_0 := q0.trans g3_0
    have g4_4 := q4.trans g3_4
    have g4_5 := q5
    have g4_9 := q9.trans g3_9
    have g4_10 := q10.trans g3_10
    have g4_11 := q11.trans g3_11
    clear q0 q4 q5 q9 q10 q11
    have g4 := And.intro g4_0 (And.intro g4_4 (And.intro g4_5 (And.intro g4_9 (And.intro g4_10 g4_11))))
    obtain ⟨fR3, pR3, lR3, rfl⟩ := hdt _ _ hIR2
    refine cvf_seq_k fun K hK => ?_
    refine cvf_seq_k fun K hK => ?_
    refine cvf_region_then rfl rfl ?_
    simp -implicitDefEqProofs (disch := first | omega | decide) only [seval, -Int.reducePow, -Nat.reducePow, cC, pv, binv, sFOff1, undef, g1, g2, g3, g4]
    refine callV_ret (fun w hw => end_any e.off e.len w (by omega) (by omega)) ?_
    try simp -implicitDefEqProofs (disch := first | omega | decide) only [seval, -Int.reducePow, -Nat.reducePow, cC, pv, binv, sFOff1, undef, g1, g2, g3, g4]
    refine hK _ _ _ ?_
    clear hK K
    refine cvf_cond ?_
    simp -implicitDefEqProofs (disch := first | omega | decide) only [seval, -Int.reducePow, -Nat.reducePow, cC, pv, binv, sFOff1, undef, g1, g2, g3, g4]
    refine ⟨fun hc => ?_, fun hc => ?_⟩
    · refine cvf_skip ?_
      try simp only [blockF, thenF]
      have hjt : j < e.len.toNat := by have := of_decide_eq_true ‹decide (e.off + (j : Int) < e.off + e.len) = true›; omega
      have hp1 := hpre (j + 1) (by omega)
      rw [Ex.seg_succ, ← List.append_assoc] at hp1
      refine hK _ _ _ ?_
      clear hK K
      refine cvf_seq_k fun K hK => ?_
      refine cvf_block ?_
      refine cvf_seq_k fun K hK => ?_
      refine cvf_yield (l1 := [_, _]) (l2 := [_]) rfl rfl rfl ?_
      simp -implicitDefEqProofs (disch := first | omega | decide) only [seval, -Int.reducePow, -Nat.reducePow, cC, pv, binv, sFOff1, undef, g1, g2, g3, g4]
      refine ⟨l, #[.int .i64 (e.off + (j : Int))], by simp [yOf, ev, upd_apply], ?_⟩
      refine YV.mono (hY (Ex.offs (ys.take i) ++ Ex.seg e j) (e.off + (j : Int)) [_, _, _] (.dat fR3 pR3 lR3) hp1 hIR2) ?_
      rintro v L' (⟨rfl, R', hI', rfl⟩ | ⟨rfl, R', hI', rfl⟩)
      · obtain ⟨fR4, pR4, lR4, rfl⟩ := hdt _ _ hI'
        simp only [List.cons_append, List.nil_append]
        simp -implicitDefEqProofs (disch := first | omega | decide) only [seval, -Int.reducePow, -Nat.reducePow, cC, pv, binv, sFOff1, undef, g1, g2, g3, g4]
        refine hK _ _ _ ?_
        clear hK K
        refine cvf_cond ?_
        simp -implicitDefEqProofs (disch := first | omega | decide) only [seval, -Int.reducePow, -Nat.reducePow, cC, pv, binv, sFOff1, undef, g1, g2, g3, g4]
        refine cvf_skip ?_
        try simp only [blockF, thenF]
        refine hK _ _ _ ?_
        clear hK K
        refine cvf_region_then rfl rfl ?_
        simp -implicitDefEqProofs (disch := first | omega | decide) only [seval, -Int.reducePow, -Nat.reducePow, cC, pv, binv, sFOff1, undef, g1, g2, g3, g4]
        refine ⟨⟨j + 1, .dat fR4 pR4 lR4, ?_⟩, ?_⟩
        · simp -implicitDefEqProofs (disch := first | omega | decide) only [seval, -Int.reducePow, -Nat.reducePow, cC, pv, binv, sFOff1, undef, Int.natCast_add, g1, g2, g3, g4]
          refine ⟨congrArg (Value.int .i64) (by omega), ?_, by omega⟩
          rw [Ex.seg_succ, ← List.append_assoc]
          exact hI'
        · simp only [intOf]; omega
      · simp only [List.cons_append, List.nil_append]
        simp -implicitDefEqProofs (disch := first | omega | decide) only [seval, -Int.reducePow, -Nat.reducePow, cC, pv, binv, sFOff1, undef, g1, g2, g3, g4]
        refine hK _ _ _ ?_
        clear hK K
        refine cvf_cond ?_
        simp -implicitDefEqProofs (disch := first | omega | decide) only [seval, -Int.reducePow, -Nat.reducePow, cC, pv, binv, sFOff1, undef, g1, g2, g3, g4]
        refine cvf_ret ?_
        simp only [retF, thenF, blockF]
        refine ⟨_, rfl, ?_⟩
        simp -implicitDefEqProofs (disch := first | omega | decide) only [seval, -Int.reducePow, -Nat.reducePow, cC, pv, binv, sFOff1, undef, ressV, packV, g1, g2, g3, g4]
        intro w hw
        exact ⟨⟨_, rfl⟩, .inr ⟨_, _, hp1, hI', hw.pick (ix := [1, 2, 3]) (by decide)⟩⟩
    refine cvf_exit ?_
    simp only [blockF, thenF, if_true, ite_true]
    clear hK K
    refine hK _ _ _ ?_
    clear hK K
    have hje : j = e.len.toNat := by have := of_decide_eq_false ‹decide (e.off + (j : Int) < e.off + e.len) = false›; omega
    rw [hje, ← htk] at hIR2
    refine cvf_pick [1, 2, 3] (by decide) ?_
    simp only [pickL, nth]
    refine cvf_region_then rfl rfl ?_
    simp -implicitDefEqProofs (disch := first | omega | decide) only [seval, -Int.reducePow, -Nat.reducePow, cC, pv, binv, sFOff1, undef, g1, g2, g3, g4]
    refine ⟨⟨i + 1, .dat fR3 pR3 lR3, ?_⟩, ?_⟩
    · simp -implicitDefEqProofs (disch := first | omega | decide) only [seval, -Int.reducePow, -Nat.reducePow, cC, pv, binv, sFOff1, undef, Int.natCast_add, g1, g2, g3, g4]
      exact ⟨hIR2, by omega⟩
    · simp only [intOf]; omega
  refine cvf_exit ?_
  simp only [blockF, thenF, if_true, ite_true]
  have hit : ¬ i < n4 := by have := of_decide_eq_false ‹decide ((i : Int) < (n4 : Int)) = false›; omega
  rw [List.take_of_length_le (by omega)] at hIR
  simp only [retF, thenF, blockF]
  refine ⟨_, rfl, ?_⟩
  simp -implicitDefEqProofs (disch := first | omega | decide) only [seval, -Int.reducePow, -Nat.reducePow, cC, pv, binv, sFOff1, undef, ressV, packV, g1, g2]
  intro w hw
  exact ⟨⟨_, rfl⟩, .inl ⟨_, _, rfl, hIR, hw.pick (ix := [0, 1, 2]) (by decide)⟩⟩
set_option maxHeartbeats 2000000 in
theorem offs_none {W : World} (A4 : Option Addr) (n4 c4 : Nat) (ys : List Ext) (bx : Nat) (hv : Ex.vldB ys = false) :
    IterP Try.prog [] W 40 #[.pointer (some ⟨bx, 0, none⟩)] (fun o : Int => #[.int .i64 o]) (fun pre x => False) (fun l => l = []) (fun pre => False) [.blk bx 22 [.slice A4 n4 c4], .row (.slice A4 n4 c4) 24 2 n4 (exCells ys)] := by
  intro l I Ix hdt hY R w hI hw
  obtain ⟨fR, pR, lR, rfl⟩ := hdt _ _ hI
  show Calls Try.prog 40 #[.func (.yield l) #[] #[], .pointer (some ⟨bx, 0, none⟩)] w _
  refine calls_cvf (n := 28) [] rfl Try.func40 rfl rfl (Nat.le_of_ble_eq_true rfl)  hw ?_
  refine cvf_seq_k fun K hK => ?_
  refine cvf_seq_k fun K hK => ?_
  refine cvf_region_then rfl rfl ?_
  simp -implicitDefEqProofs (disch := first | omega | decide) only [seval, -Int.reducePow, -Nat.reducePow, cC, pv, binv, sFOff1, undef]
  refine callV_ret (fun w hw => valid_any A4 n4 c4 ys w (Exts.of_row hw (nth_mem (k := 1) rfl))) ?_
  try simp -implicitDefEqProofs (disch := first | omega | decide) only [seval, -Int.reducePow, -Nat.reducePow, cC, pv, binv, sFOff1, undef, hv]
  refine hK _ _ _ ?_
  clear hK K
  refine cvf_cond ?_
  simp -implicitDefEqProofs (disch := first | omega | decide) only [seval, -Int.reducePow, -Nat.reducePow, cC, pv, binv, sFOff1, undef]
  refine cvf_ret ?_
  simp only [retF, thenF, blockF]
  refine ⟨_, rfl, ?_⟩
  simp -implicitDefEqProofs (disch := first | omega | decide) only [seval, -Int.reducePow, -Nat.reducePow, cC, pv, binv, sFOff1, undef, ressV, packV]
  intro w hw
  exact ⟨⟨_, rfl⟩, .inl ⟨_, _, rfl, hI, hw.pick (ix := [0, 1, 2]) (by decide)⟩⟩
set_option maxHeartbeats 4000000 in
theorem exOffsets_walk (W : World) (B : Option Addr) (m d0 : Nat) (L : List Int) (hU : U16s W W.heap.size B m d0 L) (A : Option Addr) (n c : Nat) (xs : List Ext) (hE : Exts W W.heap.size A n c xs) (hR : ∀ i, i < n → (-9223372036854775808 ≤ (Ex.get xs i).off ∧ (Ex.get xs i).off ≤ 9223372036854775807) ∧ -9223372036854775808 ≤ (Ex.get xs i).len ∧ (Ex.get xs i).len ≤ 9223372036854775807) (s : Int) (hs : 0 ≤ s ∧ s ≤ 255) :
    Calls Try.prog 7 #[.slice B m d0, .slice A n c, .int .u8 s] W fun en w' => en = .returned (.bool true) ∧ Below W.heap.size W w' := by
  have hRR : ∀ i, i < n → -9223372036854775808 ≤ (Ex.get xs i).len ∧ (Ex.get xs i).len ≤ 9223372036854775807 := fun i hi => (hR i hi).2
  obtain ⟨r, hr⟩ : ∃ r : Int, s % 9 = r := ⟨_, rfl⟩
  have hr9 : 0 ≤ r ∧ r ≤ 8 := by omega
  have hw : St [] W [] W := St.nil [] W
  refine calls_cvf (n := 75) [.cell 6 4] rfl Try.func7 rfl rfl (Nat.le_of_ble_eq_true rfl)  hw ?_
  refine cvf_seq_k fun K hK => ?_
  refine cvf_region_then rfl rfl ?_
  simp -implicitDefEqProofs (disch := first | omega | decide) only [seval, -Int.reducePow, -Nat.reducePow, cC, pv, binv, sFOff1, undef]
  intro b5 hb5 b6 hb6 hf6
  refine hK _ _ _ ?_
  clear hK K
  refine cvf_seq_k fun K hK => ?_
  refine cvf_seq_k fun K hK => ?_
  refine cvf_region_then rfl rfl ?_
  simp -implicitDefEqProofs (disch := first | omega | decide) only [seval, -Int.reducePow, -Nat.reducePow, cC, pv, binv, sFOff1, undef]
  refine callV_ret (fun w hw => awake4_any w) ?_
  try simp -implicitDefEqProofs (disch := first | omega | decide) only [seval, -Int.reducePow, -Nat.reducePow, cC, pv, binv, sFOff1, undef]
  refine hK _ _ _ ?_
  clear hK K
  refine cvf_cond ?_
  simp -implicitDefEqProofs (disch := first | omega | decide) only [seval, -Int.reducePow, -Nat.reducePow, cC, pv, binv, sFOff1, undef]
  refine cvf_skip ?_
  try simp only [blockF, thenF]
  refine hK _ _ _ ?_
  clear hK K
  refine cvf_seq_k fun K hK => ?_
  refine cvf_seq_k fun K hK => ?_
  refine cvf_region_then rfl rfl ?_
  simp -implicitDefEqProofs (disch := first | omega | decide) only [seval, -Int.reducePow, -Nat.reducePow, cC, pv, binv, sFOff1, undef]
  refine callV_ret (fun w hw => few_any A n c w) ?_
  try simp -implicitDefEqProofs (disch := first | omega | decide) only [seval, -Int.reducePow, -Nat.reducePow, cC, pv, binv, sFOff1, undef]
  refine hK _ _ _ ?_
  clear hK K
  refine cvf_cond ?_
  simp -implicitDefEqProofs (disch := first | omega | decide) only [seval, -Int.reducePow, -Nat.reducePow, cC, pv, binv, sFOff1, undef]
  refine ⟨fun hc => ?_, fun hc => ?_⟩
  · refine cvf_seq_k fun K hK => ?_
    refine cvf_region_then rfl rfl ?_
    simp -implicitDefEqProofs (disch := first | omega | decide) only [seval, -Int.reducePow, -Nat.reducePow, cC, pv, binv, sFOff1, undef]
    refine callV_ret (fun w hw => awake4_any w) ?_
    try simp -implicitDefEqProofs (disch := first | omega | decide) only [seval, -Int.reducePow, -Nat.reducePow, cC, pv, binv, sFOff1, undef]
    refine hK _ _ _ ?_
    clear hK K
    refine cvf_ret ?_
    simp only [retF, thenF, blockF]
    refine ⟨_, rfl, ?_⟩
    simp -implicitDefEqProofs (disch := first | omega | decide) only [seval, -Int.reducePow, -Nat.reducePow, cC, pv, binv, sFOff1, undef, ressV, packV]
    intro w hw
    exact hw.below
  · refine cvf_skip ?_
    try simp only [blockF, thenF]
    have h20 : n ≤ 20 := by simpa using hc
    refine hK _ _ _ ?_
    clear hK K
    refine cvf_seq_k fun K hK => ?_
    refine cvf_region_then rfl rfl ?_
    simp -implicitDefEqProofs (disch := first | omega | decide) only [seval, -Int.reducePow, -Nat.reducePow, cC, pv, binv, sFOff1, undef]
    refine callV_row (fun A' n' c' => .slice A' n' c') (fun w hw => set_row B m d0 L w (hU.at hw)) ?_
    intro A3 n3 c3 hl3 hr3
    simp -implicitDefEqProofs (disch := first | omega | decide) only [seval, -Int.reducePow, -Nat.reducePow, cC, pv, binv, sFOff1, undef]
    intro b7 hb7 hf7
    refine hK _ _ _ ?_
    clear hK K
    obtain ⟨ys, hys⟩ : ∃ ys, ys = exList (L.take 40) 12 := ⟨_, rfl⟩
    have hv : Ex.vld ys := by rw [hys]; exact exList_vld _ _ (by omega)
    have hn3 : n3 ≤ 12 := by rw [← cells_len hl3]; exact exList_few _
    have hyl : ys.length = n3 := by rw [hys]; exact cells_len hl3
    rw [← hys]
    clear hl3 hr3
    have hok := Ex.ok_of hv
    have hbd := Ex.offs_bd hv (by omega)
    have htot := Ex.totF_vld hv (by omega)
    obtain ⟨N, hN⟩ : ∃ N : Nat, (Ex.offs ys).length = N := ⟨_, rfl⟩
    rw [hN] at hbd htot
    refine cvf_seq_k fun K hK => ?_
    refine cvf_region_then rfl rfl ?_
    simp -implicitDefEqProofs (disch := first | omega | decide) only [seval, -Int.reducePow, -Nat.reducePow, cC, pv, binv, sFOff1, undef]
    intro b8 hb8 hf8 b9 hb9 hf9
    simp -implicitDefEqProofs (disch := first | omega | decide) only [seval, -Int.reducePow, -Nat.reducePow, cC, pv, binv, sFOff1, undef]
    refine hK _ _ _ ?_
    clear hK K
    refine cvf_seq_k fun K hK => ?_
    refine cvf_seq_k fun K hK => ?_
    refine cvf_region_then rfl rfl ?_
    simp -implicitDefEqProofs (disch := first | omega | decide) only [seval, -Int.reducePow, -Nat.reducePow, cC, pv, binv, sFOff1, undef]
    refine offsets_call A3 n3 c3 ys (fun w hw => Exts.of_row hw (by simp)) (by omega) ?_
    intro bx A4 n4 c4
    simp -implicitDefEqProofs (disch := first | omega | decide) only [seval, -Int.reducePow, -Nat.reducePow, cC, pv, binv, sFOff1, undef]
    refine hK _ _ _ ?_
    clear hK K
    refine cvf_fact (ys.length = n4) (fun w hw => (Exts.of_row (xs := ys) hw (nth_mem (k := 1) rfl)).len) fun hyn4 => ?_
    refine cvf_block ?_
    refine cvf_rangeP (α := Int) (gf := 40) (lb := #[.pointer (some ⟨bx, 0, none⟩)]) (encs := fun o => #[.int .i64 o]) (Pn := fun pre x => pre ++ [x] <+: Ex.offs ys) (S := fun l => l = Ex.offs ys) (Sp := fun pre => pre <+: Ex.offs ys) (A := [.blk bx 22 [.slice A4 n4 c4], .row (.slice A4 n4 c4) 24 2 n4 (exCells ys)]) [.blk b9 3 [.int .i64 0], .blk b8 3 [.int .i64 (-1)], .blk b7 22 [.slice A3 n3 c3], .row (.slice A3 n3 c3) 24 2 n3 (exCells ys), .blk b6 4 [.bool false], .blk b5 5 [.int .u8 s]] ?g ?gb ?it ?ps ?pn ?L
      (fun pre B => ∃ (k q : Int), k = (pre.length : Int) ∧ q = Ex.lastO pre ∧ B = [.blk b9 3 [.int .i64 k], .blk b8 3 [.int .i64 q], .blk b7 22 [.slice A3 n3 c3], .row (.slice A3 n3 c3) 24 2 n3 (exCells ys), .blk b6 4 [.bool false], .blk b5 5 [.int .u8 s]]) (fun _ _ _ => False) ?h0 ?body ?done ?stop
    case g => simp -implicitDefEqProofs (disch := first | omega | decide) only [seval, -Int.reducePow, -Nat.reducePow, cC, pv, binv, sFOff1, undef]
    case gb => kernel_rfl
    case it => exact offs_iter A4 n4 c4 ys bx hv (by omega) (by omega)
    case ps => exact fun _ => rfl
    case pn => rfl
    case L => rfl
    case h0 => exact ⟨_, _, rfl, rfl, rfl⟩
    case stop => exact fun _ _ _ _ _ h => h.elim
    case body =>
      rintro l pre o R B' hpre ⟨k, q, hk, hq, rfl⟩
      have hqo : decide (o ≤ q) = false := decide_eq_false (by have := Ex.lastO_lt hok hpre; omega)
      have hhas := Ex.pre_has hv hpre
      have hob := Ex.lastO_bd hok hpre
      rw [Ex.lastO_snoc] at hob
      have hpl := hpre.length_le
      rw [List.length_append, hN] at hpl
      simp only [List.length_singleton] at hpl
      simp only [List.toList_toArray, List.zip_cons_cons, List.zip_nil_right, setF]
      refine cvf_region_q rfl rfl ?_
      simp -implicitDefEqProofs (disch := first | omega | decide) only [seval, -Int.reducePow, -Nat.reducePow, cC, pv, binv, sFOff1, undef]
      refine ⟨rfl, [.blk b9 3 [.int .i64 k], .blk b8 3 [.int .i64 q], .blk b7 22 [.slice A3 n3 c3], .row (.slice A3 n3 c3) 24 2 n3 (exCells ys), .blk b6 4 [.bool false], .blk b5 5 [.int .u8 s]], rfl, fun R' => ?_⟩
      simp only [List.cons_append, List.nil_append]
      refine cvf_block ?_
      refine cvf_seq_k fun K hK => ?_
      refine cvf_seq_k fun K hK => ?_
      refine cvf_region_then rfl rfl ?_
      simp -implicitDefEqProofs (disch := first | omega | decide) only [seval, -Int.reducePow, -Nat.reducePow, cC, pv, binv, sFOff1, undef, hqo]
      refine callV_ret (fun w hw => rcontains_any A3 n3 c3 ys o w (Exts.of_row hw (nth_mem (k := 3) rfl))) ?_
      try simp -implicitDefEqProofs (disch := first | omega | decide) only [seval, -Int.reducePow, -Nat.reducePow, cC, pv, binv, sFOff1, undef, hhas]
      refine hK _ _ _ ?_
      clear hK K
      refine cvf_cond ?_
      simp -implicitDefEqProofs (disch := first | omega | decide) only [seval, -Int.reducePow, -Nat.reducePow, cC, pv, binv, sFOff1, undef]
      refine cvf_skip ?_
      try simp only [blockF, thenF]
      refine hK _ _ _ ?_
      clear hK K
      refine cvf_seq_k fun K hK => ?_
      refine cvf_region_then rfl rfl ?_
      simp -implicitDefEqProofs (disch := first | omega | decide) only [seval, -Int.reducePow, -Nat.reducePow, cC, pv, binv, sFOff1, undef]
      refine hK _ _ _ ?_
      clear hK K
      refine cvf_region_q rfl rfl ?_
      simp -implicitDefEqProofs (disch := first | omega | decide) only [seval, -Int.reducePow, -Nat.reducePow, cC, pv, binv, sFOff1, undef]
      refine ⟨_, rfl, _, _, ?_, ?_, rfl⟩
      · rw [List.length_append, hk]
        rfl
      · exact (Ex.lastO_snoc _ _).symm
    case done =>
      rintro d xs' B' rfl ⟨k, q, hk, hq, rfl⟩
      rw [hN] at hk
      subst hk
      simp only [List.cons_append, List.nil_append]
      simp -implicitDefEqProofs (disch := first | omega | decide) only [seval, -Int.reducePow, -Nat.reducePow, cC, pv, binv, sFOff1, undef]
      refine hK _ _ _ ?_
      clear hK K
      refine cvf_pick [0, 3, 5, 6, 7, 8] (by decide) ?_
      simp only [pickL, nth]
      refine cvf_seq_k fun K hK => ?_
      refine cvf_region_then rfl rfl ?_
      simp -implicitDefEqProofs (disch := first | omega | decide) only [seval, -Int.reducePow, -Nat.reducePow, cC, pv, binv, sFOff1, undef]
      intro b11 hb11 hf11
      refine hK _ _ _ ?_
      clear hK K
      refine cvf_seq_k fun K hK => ?_
      refine cvf_seq_k fun K hK => ?_
      refine cvf_region_then rfl rfl ?_
      simp -implicitDefEqProofs (disch := first | omega | decide) only [seval, -Int.reducePow, -Nat.reducePow, cC, pv, binv, sFOff1, undef]
      refine offsets_call A3 n3 c3 ys (fun w hw => Exts.of_row hw (by simp)) (by omega) ?_
      intro bx2 A5 n5 c5
      simp -implicitDefEqProofs (disch := first | omega | decide) only [seval, -Int.reducePow, -Nat.reducePow, cC, pv, binv, sFOff1, undef]
      refine hK _ _ _ ?_
      clear hK K
      refine cvf_fact (ys.length = n5) (fun w hw => (Exts.of_row (xs := ys) hw (nth_mem (k := 1) rfl)).len) fun hyn5 => ?_
      refine cvf_block ?_
      refine cvf_rangeP (α := Int) (gf := 40) (lb := #[.pointer (some ⟨bx2, 0, none⟩)]) (encs := fun o => #[.int .i64 o]) (Pn := fun pre x => pre ++ [x] <+: Ex.offs ys) (S := fun l => l = Ex.offs ys) (Sp := fun pre => pre <+: Ex.offs ys) (A := [.blk bx2 22 [.slice A5 n5 c5], .row (.slice A5 n5 c5) 24 2 n5 (exCells ys)]) [.blk b11 3 [.int .i64 0], dfr d, .blk b9 3 [.int .i64 (N : Int)], .blk b7 22 [.slice A3 n3 c3], .row (.slice A3 n3 c3) 24 2 n3 (exCells ys), .blk b6 4 [.bool false], .blk b5 5 [.int .u8 s]] ?g2 ?gb2 ?it2 ?ps2 ?pn2 ?L2
        (fun pre B => ∃ (k : Int), (k = (pre.length : Int) ∧ k ≤ r) ∧ B = [.blk b11 3 [.int .i64 k], dfr d, .blk b9 3 [.int .i64 (N : Int)], .blk b7 22 [.slice A3 n3 c3], .row (.slice A3 n3 c3) 24 2 n3 (exCells ys), .blk b6 4 [.bool false], .blk b5 5 [.int .u8 s]])
        (fun co pre B => co = .exit 2 ∧ ∃ (k : Int), (k = (pre.length : Int) ∧ k = r + 1) ∧ B = [.blk b11 3 [.int .i64 k], dfr d, .blk b9 3 [.int .i64 (N : Int)], .blk b7 22 [.slice A3 n3 c3], .row (.slice A3 n3 c3) 24 2 n3 (exCells ys), .blk b6 4 [.bool false], .blk b5 5 [.int .u8 s]]) ?h02 ?body2 ?done2 ?stop2
      case g2 => simp -implicitDefEqProofs (disch := first | omega | decide) only [seval, -Int.reducePow, -Nat.reducePow, cC, pv, binv, sFOff1, undef]
      case gb2 => kernel_rfl
      case it2 => exact offs_iter A5 n5 c5 ys bx2 hv (by omega) (by omega)
      case ps2 => exact fun _ => rfl
      case pn2 => rfl
      case L2 => rfl
      case h02 => exact ⟨0, ⟨rfl, hr9.1⟩, rfl⟩
      case body2 =>
        rintro l pre o R B' hpre ⟨k, ⟨hk, hkr⟩, rfl⟩
        simp only [List.toList_toArray, List.zip_cons_cons, List.zip_nil_right, setF]
        refine cvf_skip ?_
        simp -implicitDefEqProofs (disch := first | omega | decide) only [seval, -Int.reducePow, -Nat.reducePow, cC, pv, binv, sFOff1, undef]
        refine ⟨rfl, [.blk b11 3 [.int .i64 k], dfr d, .blk b9 3 [.int .i64 (N : Int)], .blk b7 22 [.slice A3 n3 c3], .row (.slice A3 n3 c3) 24 2 n3 (exCells ys), .blk b6 4 [.bool false], .blk b5 5 [.int .u8 s]], rfl, fun R' => ?_⟩
        simp only [List.cons_append, List.nil_append]
        refine cvf_block ?_
        refine cvf_seq_k fun K hK => ?_
        refine cvf_region_then rfl rfl ?_
        simp -implicitDefEqProofs (disch := first | omega | decide) only [seval, -Int.reducePow, -Nat.reducePow, cC, pv, binv, sFOff1, undef]
        refine hK _ _ _ ?_
        clear hK K
        refine cvf_seq_k fun K hK => ?_
        refine cvf_region_then rfl rfl ?_
        simp -implicitDefEqProofs (disch := first | omega | decide) only [seval, -Int.reducePow, -Nat.reducePow, cC, pv, binv, sFOff1, undef, hr]
        refine hK _ _ _ ?_
        clear hK K
        refine cvf_cond ?_
        simp -implicitDefEqProofs (disch := first | omega | decide) only [seval, -Int.reducePow, -Nat.reducePow, cC, pv, binv, sFOff1, undef]
        refine ⟨fun hc => ?_, fun hc => ?_⟩
        · have hkr2 : k + 1 = r + 1 := by have := of_decide_eq_true hc; omega
          refine cvf_exit ?_
          simp -implicitDefEqProofs (disch := first | omega | decide) only [seval, -Int.reducePow, -Nat.reducePow, cC, pv, binv, sFOff1, undef]
          exact ⟨_, rfl, rfl, _, ⟨by rw [List.length_append, hk]; rfl, hkr2⟩, rfl⟩
        · have hkr2 : k + 1 ≤ r := by have := of_decide_eq_false hc; omega
          refine cvf_skip ?_
          simp -implicitDefEqProofs (disch := first | omega | decide) only [seval, -Int.reducePow, -Nat.reducePow, cC, pv, binv, sFOff1, undef]
          exact ⟨_, rfl, _, ⟨by rw [List.length_append, hk]; rfl, hkr2⟩, rfl⟩
      case done2 =>
        rintro d2 xs' B' rfl ⟨kk, ⟨hk, hkr⟩, rfl⟩
        rw [hN] at hk
        have hkk : min (r + 1) (N : Int) = kk := by omega
        simp only [List.cons_append, List.nil_append]
        simp -implicitDefEqProofs (disch := first | omega | decide) only [seval, -Int.reducePow, -Nat.reducePow, cC, pv, binv, sFOff1, undef]
        refine hK _ _ _ ?_
        clear hK K
        refine cvf_pick [0, 4, 3, 5, 6, 7, 8, 9] (by decide) ?_
        simp only [pickL, nth]
        refine cvf_seq_k fun K hK => ?_
        refine cvf_region_then rfl rfl ?_
        simp -implicitDefEqProofs (disch := first | omega | decide) only [seval, -Int.reducePow, -Nat.reducePow, cC, pv, binv, sFOff1, undef]
        intro b12 hb12 hf12
        refine hK _ _ _ ?_
        clear hK K
        refine cvf_seq_k fun K hK => ?_
        refine cvf_seq_k fun K hK => ?_
        refine cvf_region_then rfl rfl ?_
        simp -implicitDefEqProofs (disch := first | omega | decide) only [seval, -Int.reducePow, -Nat.reducePow, cC, pv, binv, sFOff1, undef]
        refine callV_ret (fun w hw => rvalid_any A n c xs w (hE.at hw) hRR) ?_
        try simp -implicitDefEqProofs (disch := first | omega | decide) only [seval, -Int.reducePow, -Nat.reducePow, cC, pv, binv, sFOff1, undef]
        refine hK _ _ _ ?_
        clear hK K
        refine cvf_cond ?_
        simp -implicitDefEqProofs (disch := first | omega | decide) only [seval, -Int.reducePow, -Nat.reducePow, cC, pv, binv, sFOff1, undef]
        refine ⟨fun hc => ?_, fun hc => ?_⟩
        · have hnv : Ex.vldB xs = false := by simpa using hc
          refine cvf_seq_k fun K hK => ?_
          refine cvf_region_then rfl rfl ?_
          simp -implicitDefEqProofs (disch := first | omega | decide) only [seval, -Int.reducePow, -Nat.reducePow, cC, pv, binv, sFOff1, undef]
          refine offsets_call A n c xs (fun w hw => hE.at hw) (by omega) ?_
          intro bx A4 n4 c4
          simp -implicitDefEqProofs (disch := first | omega | decide) only [seval, -Int.reducePow, -Nat.reducePow, cC, pv, binv, sFOff1, undef]
          refine hK _ _ _ ?_
          clear hK K
          refine cvf_block ?_
          refine cvf_rangeP (α := Int) (gf := 40) (lb := #[.pointer (some ⟨bx, 0, none⟩)]) (encs := fun o => #[.int .i64 o]) (Pn := fun _ _ => False) (S := fun l => l = []) (Sp := fun _ => False) (A := [.blk bx 22 [.slice A4 n4 c4], .row (.slice A4 n4 c4) 24 2 n4 (exCells xs)]) [.blk b12 3 [.int .i64 0], dfr d2, dfr d, .blk b11 3 [.int .i64 kk], .blk b9 3 [.int .i64 (N : Int)], .blk b7 22 [.slice A3 n3 c3], .row (.slice A3 n3 c3) 24 2 n3 (exCells ys), .blk b6 4 [.bool false], .blk b5 5 [.int .u8 s]] ?g ?gb ?it ?ps ?pn ?L
            (fun pre B => B = [.blk b12 3 [.int .i64 0], dfr d2, dfr d, .blk b11 3 [.int .i64 kk], .blk b9 3 [.int .i64 (N : Int)], .blk b7 22 [.slice A3 n3 c3], .row (.slice A3 n3 c3) 24 2 n3 (exCells ys), .blk b6 4 [.bool false], .blk b5 5 [.int .u8 s]]) (fun _ _ _ => False) ?h0 ?body ?done ?stop
          case g => simp -implicitDefEqProofs (disch := first | omega | decide) only [seval, -Int.reducePow, -Nat.reducePow, cC, pv, binv, sFOff1, undef]
          case gb => kernel_rfl
          case it => exact offs_none A4 n4 c4 xs bx hnv
          case ps => exact fun _ => rfl
          case pn => rfl
          case L => rfl
          case h0 => rfl
          case stop => exact fun _ _ _ _ h _ => h.elim
          case body => exact fun _ _ _ _ _ h => h.elim
          case done =>
            rintro d3 xs' B' rfl rfl
            simp only [List.cons_append, List.nil_append]
            simp -implicitDefEqProofs (disch := first | omega | decide) only [seval, -Int.reducePow, -Nat.reducePow, cC, pv, binv, sFOff1, undef]
            refine hK _ _ _ ?_
            clear hK K
            refine cvf_pick [0, 4, 5, 3, 6, 7, 8, 9, 10, 11] (by decide) ?_
            simp only [pickL, nth]
            refine cvf_seq_k fun K hK => ?_
            refine cvf_draw [(false, 0), (true, 1), (true, 2), (true, 3), (false, 4), (true, 5), (true, 6), (true, 7), (true, 8), (true, 9), (true, 10), (true, 11), (true, 12), (true, 13), (true, 14), (true, 15), (true, 16), (true, 17), (true, 18), (true, 19), (true, 20), (false, 21)] [21] mixA rfl (by kernel_rfl) (by kernel_rfl) rfl rfl rfl ?_
            simp -implicitDefEqProofs (disch := first | omega | decide) only [seval, -Int.reducePow, -Nat.reducePow, cC, pv, binv, sFOff1, undef]
            refine callV_ret (fun w hw => awake4_any w) ?_
            try simp -implicitDefEqProofs (disch := first | omega | decide) only [seval, -Int.reducePow, -Nat.reducePow, cC, pv, binv, sFOff1, undef]
            refine callV_ret (fun w hw => rtotal_any A3 n3 c3 ys w (Exts.of_row hw (by simp))) ?_
            try simp -implicitDefEqProofs (disch := first | omega | decide) only [seval, -Int.reducePow, -Nat.reducePow, cC, pv, binv, sFOff1, undef, hkk, htot, hr]
            refine hK _ _ _ ?_
            clear hK K
            refine cvf_ret ?_
            simp only [retF, thenF, blockF]
            refine ⟨_, rfl, ?_⟩
            simp -implicitDefEqProofs (disch := first | omega | decide) only [seval, -Int.reducePow, -Nat.reducePow, cC, pv, binv, sFOff1, undef, ressV, packV]
            intro w hw
            exact hw.below
        · refine cvf_skip ?_
          try simp only [blockF, thenF]
          refine hK _ _ _ ?_
          clear hK K
          refine cvf_pick [1, 2, 0, 3, 4, 5, 6, 7, 8] (by decide) ?_
          simp only [pickL, nth]
          refine cvf_seq_k fun K hK => ?_
          refine cvf_draw [(false, 0), (true, 1), (true, 2), (true, 3), (false, 4), (true, 5), (true, 6), (true, 7), (true, 8), (true, 9), (true, 10), (true, 11), (true, 12), (true, 13), (true, 14), (true, 15), (true, 16), (true, 17), (true, 18), (true, 19), (true, 20), (false, 21)] [21] mixA rfl (by kernel_rfl) (by kernel_rfl) rfl rfl rfl ?_
          simp -implicitDefEqProofs (disch := first | omega | decide) only [seval, -Int.reducePow, -Nat.reducePow, cC, pv, binv, sFOff1, undef]
          refine callV_ret (fun w hw => awake4_any w) ?_
          try simp -implicitDefEqProofs (disch := first | omega | decide) only [seval, -Int.reducePow, -Nat.reducePow, cC, pv, binv, sFOff1, undef]
          refine callV_ret (fun w hw => rtotal_any A3 n3 c3 ys w (Exts.of_row hw (by simp))) ?_
          try simp -implicitDefEqProofs (disch := first | omega | decide) only [seval, -Int.reducePow, -Nat.reducePow, cC, pv, binv, sFOff1, undef, hkk, htot, hr]
          refine hK _ _ _ ?_
          clear hK K
          refine cvf_ret ?_
          simp only [retF, thenF, blockF]
          refine ⟨_, rfl, ?_⟩
          simp -implicitDefEqProofs (disch := first | omega | decide) only [seval, -Int.reducePow, -Nat.reducePow, cC, pv, binv, sFOff1, undef, ressV, packV]
          intro w hw
          exact hw.below
      case stop2 =>
        rintro d2 co pre B' hpre ⟨rfl, kk, ⟨hk, hkr⟩, rfl⟩
        have hpl := hpre.length_le
        rw [hN] at hpl
        have hkk : min (r + 1) (N : Int) = kk := by omega
        simp only [List.cons_append, List.nil_append, jmpQ]
        simp -implicitDefEqProofs (disch := first | omega | decide) only [seval, -Int.reducePow, -Nat.reducePow, cC, pv, binv, sFOff1, undef]
        refine hK _ _ _ ?_
        clear hK K
        refine cvf_pick [0, 4, 3, 5, 6, 7, 8, 9] (by decide) ?_
        simp only [pickL, nth]
        refine cvf_seq_k fun K hK => ?_
        refine cvf_region_then rfl rfl ?_
        simp -implicitDefEqProofs (disch := first | omega | decide) only [seval, -Int.reducePow, -Nat.reducePow, cC, pv, binv, sFOff1, undef]
        intro b12 hb12 hf12
        refine hK _ _ _ ?_
        clear hK K
        refine cvf_seq_k fun K hK => ?_
        refine cvf_seq_k fun K hK => ?_
        refine cvf_region_then rfl rfl ?_
        simp -implicitDefEqProofs (disch := first | omega | decide) only [seval, -Int.reducePow, -Nat.reducePow, cC, pv, binv, sFOff1, undef]
        refine callV_ret (fun w hw => rvalid_any A n c xs w (hE.at hw) hRR) ?_
        try simp -implicitDefEqProofs (disch := first | omega | decide) only [seval, -Int.reducePow, -Nat.reducePow, cC, pv, binv, sFOff1, undef]
        refine hK _ _ _ ?_
        clear hK K
        refine cvf_cond ?_
        simp -implicitDefEqProofs (disch := first | omega | decide) only [seval, -Int.reducePow, -Nat.reducePow, cC, pv, binv, sFOff1, undef]
        refine ⟨fun hc => ?_, fun hc => ?_⟩
        · have hnv : Ex.vldB xs = false := by simpa using hc
          refine cvf_seq_k fun K hK => ?_
          refine cvf_region_then rfl rfl ?_
          simp -implicitDefEqProofs (disch := first | omega | decide) only [seval, -Int.reducePow, -Nat.reducePow, cC, pv, binv, sFOff1, undef]
          refine offsets_call A n c xs (fun w hw => hE.at hw) (by omega) ?_
          intro bx A4 n4 c4
          simp -implicitDefEqProofs (disch := first | omega | decide) only [seval, -Int.reducePow, -Nat.reducePow, cC, pv, binv, sFOff1, undef]
          refine hK _ _ _ ?_
          clear hK K
          refine cvf_block ?_
          refine cvf_rangeP (α := Int) (gf := 40) (lb := #[.pointer (some ⟨bx, 0, none⟩)]) (encs := fun o => #[.int .i64 o]) (Pn := fun _ _ => False) (S := fun l => l = []) (Sp := fun _ => False) (A := [.blk bx 22 [.slice A4 n4 c4], .row (.slice A4 n4 c4) 24 2 n4 (exCells xs)]) [.blk b12 3 [.int .i64 0], dfr d2, dfr d, .blk b11 3 [.int .i64 kk], .blk b9 3 [.int .i64 (N : Int)], .blk b7 22 [.slice A3 n3 c3], .row (.slice A3 n3 c3) 24 2 n3 (exCells ys), .blk b6 4 [.bool false], .blk b5 5 [.int .u8 s]] ?g ?gb ?it ?ps ?pn ?L
            (fun pre B => B = [.blk b12 3 [.int .i64 0], dfr d2, dfr d, .blk b11 3 [.int .i64 kk], .blk b9 3 [.int .i64 (N : Int)], .blk b7 22 [.slice A3 n3 c3], .row (.slice A3 n3 c3) 24 2 n3 (exCells ys), .blk b6 4 [.bool false], .blk b5 5 [.int .u8 s]]) (fun _ _ _ => False) ?h0 ?body ?done ?stop
          case g => simp -implicitDefEqProofs (disch := first | omega | decide) only [seval, -Int.reducePow, -Nat.reducePow, cC, pv, binv, sFOff1, undef]
          case gb => kernel_rfl
          case it => exact offs_none A4 n4 c4 xs bx hnv
          case ps => exact fun _ => rfl
          case pn => rfl
          case L => rfl
          case h0 => rfl
          case stop => exact fun _ _ _ _ h _ => h.elim
          case body => exact fun _ _ _ _ _ h => h.elim
          case done =>
            rintro d3 xs' B' rfl rfl
            simp only [List.cons_append, List.nil_append]
            simp -implicitDefEqProofs (disch := first | omega | decide) only [seval, -Int.reducePow, -Nat.reducePow, cC, pv, binv, sFOff1, undef]
            refine hK _ _ _ ?_
            clear hK K
            refine cvf_pick [0, 4, 5, 3, 6, 7, 8, 9, 10, 11] (by decide) ?_
            simp only [pickL, nth]
            refine cvf_seq_k fun K hK => ?_
            refine cvf_draw [(false, 0), (true, 1), (true, 2), (true, 3), (false, 4), (true, 5), (true, 6), (true, 7), (true, 8), (true, 9), (true, 10), (true, 11), (true, 12), (true, 13), (true, 14), (true, 15), (true, 16), (true, 17), (true, 18), (true, 19), (true, 20), (false, 21)] [21] mixA rfl (by kernel_rfl) (by kernel_rfl) rfl rfl rfl ?_
            simp -implicitDefEqProofs (disch := first | omega | decide) only [seval, -Int.reducePow, -Nat.reducePow, cC, pv, binv, sFOff1, undef]
            refine callV_ret (fun w hw => awake4_any w) ?_
            try simp -implicitDefEqProofs (disch := first | omega | decide) only [seval, -Int.reducePow, -Nat.reducePow, cC, pv, binv, sFOff1, undef]
            refine callV_ret (fun w hw => rtotal_any A3 n3 c3 ys w (Exts.of_row hw (by simp))) ?_
            try simp -implicitDefEqProofs (disch := first | omega | decide) only [seval, -Int.reducePow, -Nat.reducePow, cC, pv, binv, sFOff1, undef, hkk, htot, hr]
            refine hK _ _ _ ?_
            clear hK K
            refine cvf_ret ?_
            simp only [retF, thenF, blockF]
            refine ⟨_, rfl, ?_⟩
            simp -implicitDefEqProofs (disch := first | omega | decide) only [seval, -Int.reducePow, -Nat.reducePow, cC, pv, binv, sFOff1, undef, ressV, packV]
            intro w hw
            exact hw.below
        · refine cvf_skip ?_
          try simp only [blockF, thenF]
          refine hK _ _ _ ?_
          clear hK K
          refine cvf_pick [1, 2, 0, 3, 4, 5, 6, 7, 8] (by decide) ?_
          simp only [pickL, nth]
          refine cvf_seq_k fun K hK => ?_
          refine cvf_draw [(false, 0), (true, 1), (true, 2), (true, 3), (false, 4), (true, 5), (true, 6), (true, 7), (true, 8), (true, 9), (true, 10), (true, 11), (true, 12), (true, 13), (true, 14), (true, 15), (true, 16), (true, 17), (true, 18), (true, 19), (true, 20), (false, 21)] [21] mixA rfl (by kernel_rfl) (by kernel_rfl) rfl rfl rfl ?_
          simp -implicitDefEqProofs (disch := first | omega | decide) only [seval, -Int.reducePow, -Nat.reducePow, cC, pv, binv, sFOff1, undef]
          refine callV_ret (fun w hw => awake4_any w) ?_
          try simp -implicitDefEqProofs (disch := first | omega | decide) only [seval, -Int.reducePow, -Nat.reducePow, cC, pv, binv, sFOff1, undef]
          refine callV_ret (fun w hw => rtotal_any A3 n3 c3 ys w (Exts.of_row hw (by simp))) ?_
          try simp -implicitDefEqProofs (disch := first | omega | decide) only [seval, -Int.reducePow, -Nat.reducePow, cC, pv, binv, sFOff1, undef, hkk, htot, hr]
          refine hK _ _ _ ?_
          clear hK K
          refine cvf_ret ?_
          simp only [retF, thenF, blockF]
          refine ⟨_, rfl, ?_⟩
          simp -implicitDefEqProofs (disch := first | omega | decide) only [seval, -Int.reducePow, -Nat.reducePow, cC, pv, binv, sFOff1, undef, ressV, packV]
          intro w hw
          exact hw.below
end Go.Proofs.Ytabjbghmldiokaa
