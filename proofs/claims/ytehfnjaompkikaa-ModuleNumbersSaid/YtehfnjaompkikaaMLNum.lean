/- The law ModuleNumbers, walked. -/
import Derived.Test.YtehfnjaompkikaaMSameL
import Derived.Test.YtehfnjaompkikaaMBk
namespace Go.Proofs.Ytehfnjaompkikaa
open Go.RowKit Go.Shelf
set_option linter.unusedVariables false
set_option linter.unusedSimpArgs false
set_option maxRecDepth 100000
theorem put_bytes {m : List Nat} (h : ∀ x ∈ m, x < 256) (y : Nat) : ∀ x ∈ m ++ putU y, x < 256 := fun x hx => by
  rcases List.mem_append.1 hx with h1 | h1
  · exact h x h1
  · exact putU_byte y x h1
/-- The bytes so far: at first the constant. -/
def bR (k b : Nat) (A : Option Addr) (n c : Nat) (m : List Nat) : Res := if k = 0 then rdR b 5 [.int .u8 80, .int .u8 72, .int .u8 77, .int .u8 49] else .row (.slice A n c) 5 1 n (byt m)
theorem look_bR (k b : Nat) (A : Option Addr) (n c : Nat) (m : List Nat) (L : List Res) (j : Nat) : look (bR k b A n c m :: L) j = look L j := by
  unfold bR
  split <;> rfl
theorem bR_sl {W w : World} {M : List Nat} {k b : Nat} {A : Option Addr} {n c : Nat} {m : List Nat} {L : List Res} (hw : St M W (bR k b A n c m :: L) w) (h : k = 0 → A = some ⟨b, 0, none⟩ ∧ n = 4 ∧ c = 4 ∧ m = magicB) : Sl w w.heap.size 1 A n c (byt m) := by
  unfold bR at hw
  split at hw
  · obtain ⟨rfl, rfl, rfl, rfl⟩ := h ‹_›
    exact mgOk b hw
  · exact hw.slb 0 rfl
theorem small_get {q : Nat} (h : q < 6) : ∃ z : Nat, ([.int .u64 0, .int .u64 1, .int .u64 0, .int .u64 0, .int .u64 0, .int .u64 1] : List Value)[q]? = some (.int .u64 z) ∧ z < 18446744073709551616 := by
  have : q = 0 ∨ q = 1 ∨ q = 2 ∨ q = 3 ∨ q = 4 ∨ q = 5 := by omega
  rcases this with rfl | rfl | rfl | rfl | rfl | rfl
  · exact ⟨0, rfl, by decide⟩
  · exact ⟨1, rfl, by decide⟩
  · exact ⟨0, rfl, by decide⟩
  · exact ⟨0, rfl, by decide⟩
  · exact ⟨0, rfl, by decide⟩
  · exact ⟨1, rfl, by decide⟩
set_option maxHeartbeats 8000000 in
theorem mNumbers_walk (W : World) (l : List Nat) (h6 : l.length = 6) (hl : ∀ x ∈ l, x < 18446744073709551616) (pick : Int) (hpk : 0 ≤ pick ∧ pick ≤ 255) :
    Calls Try.prog 7 #[.agg (u64c l).toArray, .int .u8 pick] W fun e w' => e = .returned (.bool true) ∧ Below W.heap.size W w' := by
  refine calls_cv (M := []) (n := 44) [.tmp 4] rfl Try.func7 rfl rfl (Nat.le_of_ble_eq_true rfl) (St.nil _ _) ?_
  refine cv_seq_k fun K hK => ?_
  refine cv_region_then rfl ?_
  simp -implicitDefEqProofs (disch := first | omega | decide) only [seval, -Int.reducePow, -Nat.reducePow, cA, cB, pv, binv, fresh, thenQ, blockQ, retQ, Value.oneCell', Value.cells, undef, Nat.mul_one, cS, look_bR]
  intro b2 hb2
  refine hK _ _ ?_
  clear hK K
  refine cv_seq_k fun K hK => ?_
  refine cv_region_then rfl ?_
  simp -implicitDefEqProofs (disch := first | omega | decide) only [seval, -Int.reducePow, -Nat.reducePow, cA, cB, pv, binv, fresh, thenQ, blockQ, retQ, Value.oneCell', Value.cells, undef, Nat.mul_one, cS, look_bR]
  intro b9 hb9 h9
  refine xv_mark 0 rfl Try.underlying36 Try.underlying5 rfl ?_
  simp -implicitDefEqProofs (disch := first | omega | decide) only [seval, -Int.reducePow, -Nat.reducePow, cA, cB, pv, binv, fresh, thenQ, blockQ, retQ, Value.oneCell', Value.cells, undef, Nat.mul_one, cS, look_bR]
  refine hK _ _ ?_
  clear hK K
  refine cv_seq_k fun K hK => ?_
  refine cv_region_then rfl ?_
  simp -implicitDefEqProofs (disch := first | omega | decide) only [seval, -Int.reducePow, -Nat.reducePow, cA, cB, pv, binv, fresh, thenQ, blockQ, retQ, Value.oneCell', Value.cells, undef, Nat.mul_one, cS, look_bR]
  intro b11 hb11 h11
  refine hK _ _ ?_
  clear hK K
  refine cv_seq_k fun K hK => ?_
  refine cv_seq_k fun K hK => ?_
  refine cv_region_then rfl ?_
  simp -implicitDefEqProofs (disch := first | omega | decide) only [seval, -Int.reducePow, -Nat.reducePow, cA, cB, pv, binv, fresh, thenQ, blockQ, retQ, Value.oneCell', Value.cells, undef, Nat.mul_one, cS, look_bR]
  refine hK _ _ ?_
  clear hK K
  refine cv_gen fun G1 hG => ?_
  have g1_1 := congrFun hG 1
  have g1_2 := congrFun hG 2
  have g1_5 := congrFun hG 5
  have g1_6 := congrFun hG 6
  have g1_7 := congrFun hG 7
  clear hG
  try simp -implicitDefEqProofs (disch := first | omega | decide) only [seval, -Int.reducePow, -Nat.reducePow, cA, cB, pv, binv, fresh, thenQ, blockQ, retQ, Value.oneCell', Value.cells, undef, Nat.mul_one, cS, look_bR] at g1_1 g1_2 g1_5 g1_6 g1_7
  refine cv_block ?_
  refine cv_pick [1, 0, 2] (by decide) ?_
  simp only [pickL, nth]
  refine cv_loop (fun F' L' => ∃ (k : Nat) (A5 : Option Addr) (n5 c5 : Nat) (m5 : List Nat), F' 1 = G1 1 ∧ F' 2 = G1 2 ∧ F' 5 = .slice A5 n5 c5 ∧ F' 6 = G1 6 ∧ F' 7 = .int .i64 (k : Int) ∧ L' = [bR k b9 A5 n5 c5 m5, .blk b11 44 [.int .u64 0, .int .u64 1, .int .u64 0, .int .u64 0, .int .u64 0, .int .u64 1], .blk b2 53 (u64c l)] ∧ k ≤ 6 ∧ (k = 0 → A5 = some ⟨b9, 0, none⟩ ∧ n5 = 4 ∧ c5 = 4 ∧ m5 = magicB) ∧ (∀ x ∈ m5, x < 256) ∧ m5.length = n5 ∧ n5 ≤ 4 + 10 * k) (fun F' L' => 10 - (intOf (F' 7)).toNat) ?_ ?_
  · refine ⟨0, some ⟨b9, 0, none⟩, 4, 4, magicB, ?_⟩
    simp -implicitDefEqProofs (disch := first | omega | decide) only [seval, -Int.reducePow, -Nat.reducePow, cA, cB, pv, binv, fresh, thenQ, blockQ, retQ, Value.oneCell', Value.cells, undef, Nat.mul_one, cS, look_bR, g1_1, g1_2, g1_5, g1_6, g1_7]
    exact ⟨rfl, by decide, rfl⟩
  intro G2 L' hI
  obtain ⟨k, A5, n5, c5, m5, q1, q2, q5, q6, q7, rfl, ⟨hk, h0, hb, hm5, hn⟩⟩ := hI
  have g2_1 := q1.trans g1_1
  have g2_2 := q2.trans g1_2
  have g2_5 := q5
  have g2_6 := q6.trans g1_6
  have g2_7 := q7
  clear q1 q2 q5 q6 q7
  refine cv_seq_k fun K hK => ?_
  refine cv_seq_k fun K hK => ?_
  refine cv_region_then rfl ?_
  simp -implicitDefEqProofs (disch := first | omega | decide) only [seval, -Int.reducePow, -Nat.reducePow, cA, cB, pv, binv, fresh, thenQ, blockQ, retQ, Value.oneCell', Value.cells, undef, Nat.mul_one, cS, look_bR, g1_1, g1_2, g1_5, g1_6, g1_7, g2_1, g2_2, g2_5, g2_6, g2_7]
  refine hK _ _ ?_
  clear hK K
  refine cv_cond ?_
  simp -implicitDefEqProofs (disch := first | omega | decide) only [seval, -Int.reducePow, -Nat.reducePow, cA, cB, pv, binv, fresh, thenQ, blockQ, retQ, Value.oneCell', Value.cells, undef, Nat.mul_one, cS, look_bR, g1_1, g1_2, g1_5, g1_6, g1_7, g2_1, g2_2, g2_5, g2_6, g2_7]
  refine ⟨fun hc => ?_, fun hc => ?_⟩
  · refine cv_skip ?_
    try simp only [blockQ, thenQ]
    have hlt : k < 6 := by have := of_decide_eq_true ‹_›; omega
    obtain ⟨z, hz, hz64⟩ := small_get hlt
    obtain ⟨v, hv⟩ := some_of (l := l) (i := k) (by omega)
    have hv64 := hl v (List.mem_of_getElem? hv)
    refine hK _ _ ?_
    clear hK K
    refine cv_seq_k fun K hK => ?_
    refine cv_block ?_
    refine cv_seq_k fun K hK => ?_
    refine cv_region_then rfl ?_
    simp -implicitDefEqProofs (disch := first | omega | decide) only [seval, -Int.reducePow, -Nat.reducePow, cA, cB, pv, binv, fresh, thenQ, blockQ, retQ, Value.oneCell', Value.cells, undef, Nat.mul_one, cS, look_bR, hz, g1_1, g1_2, g1_5, g1_6, g1_7, g2_1, g2_2, g2_5, g2_6, g2_7]
    refine hK _ _ ?_
    clear hK K
    refine cv_gen fun G3 hG => ?_
    have g3_1 := congrFun hG 1
    have g3_2 := congrFun hG 2
    have g3_5 := congrFun hG 5
    have g3_6 := congrFun hG 6
    have g3_7 := congrFun hG 7
    have g3_8 := congrFun hG 8
    clear hG
    try simp -implicitDefEqProofs (disch := first | omega | decide) only [seval, -Int.reducePow, -Nat.reducePow, cA, cB, pv, binv, fresh, thenQ, blockQ, retQ, Value.oneCell', Value.cells, undef, Nat.mul_one, cS, look_bR, g1_1, g1_2, g1_5, g1_6, g1_7, g2_1, g2_2, g2_5, g2_6, g2_7] at g3_1 g3_2 g3_5 g3_6 g3_7 g3_8
    have ek := i64v k (by omega)
    refine cv_seq_k fun K hK => ?_
    refine cv_cut (fun _ _ => True) (fun F' L' => ∃ (y : Nat), F' 1 = G3 1 ∧ F' 2 = G3 2 ∧ F' 5 = G3 5 ∧ F' 6 = G3 6 ∧ F' 7 = G3 7 ∧ F' 8 = .int .u64 (y : Int) ∧ L' = [bR k b9 A5 n5 c5 m5, .blk b11 44 [.int .u64 0, .int .u64 1, .int .u64 0, .int .u64 0, .int .u64 0, .int .u64 1], .blk b2 53 (u64c l)] ∧ y < 18446744073709551616) ?_ ?_
    · refine cv_seq_k fun K hK => ?_
      refine cv_region_then rfl ?_
      simp -implicitDefEqProofs (disch := first | omega | decide) only [seval, -Int.reducePow, -Nat.reducePow, cA, cB, pv, binv, fresh, thenQ, blockQ, retQ, Value.oneCell', Value.cells, undef, Nat.mul_one, cS, look_bR, ek, IntKind.bits, g1_1, g1_2, g1_5, g1_6, g1_7, g2_1, g2_2, g2_5, g2_6, g2_7, g3_1, g3_2, g3_5, g3_6, g3_7, g3_8]
      refine hK _ _ ?_
      clear hK K
      refine cv_cond ?_
      simp -implicitDefEqProofs (disch := first | omega | decide) only [seval, -Int.reducePow, -Nat.reducePow, cA, cB, pv, binv, fresh, thenQ, blockQ, retQ, Value.oneCell', Value.cells, undef, Nat.mul_one, cS, look_bR, g1_1, g1_2, g1_5, g1_6, g1_7, g2_1, g2_2, g2_5, g2_6, g2_7, g3_1, g3_2, g3_5, g3_6, g3_7, g3_8]
      refine ⟨fun hc => ?_, fun hc => ?_⟩
      · refine cv_seq_k fun K hK => ?_
        refine cv_region_then rfl ?_
        simp -implicitDefEqProofs (disch := first | omega | decide) only [seval, -Int.reducePow, -Nat.reducePow, cA, cB, pv, binv, fresh, thenQ, blockQ, retQ, Value.oneCell', Value.cells, undef, Nat.mul_one, cS, look_bR, u64_get hv, g1_1, g1_2, g1_5, g1_6, g1_7, g2_1, g2_2, g2_5, g2_6, g2_7, g3_1, g3_2, g3_5, g3_6, g3_7, g3_8]
        refine hK _ _ ?_
        clear hK K
        refine cv_seq_k fun K hK => ?_
        refine cv_region_then rfl ?_
        simp -implicitDefEqProofs (disch := first | omega | decide) only [seval, -Int.reducePow, -Nat.reducePow, cA, cB, pv, binv, fresh, thenQ, blockQ, retQ, Value.oneCell', Value.cells, undef, Nat.mul_one, cS, look_bR, IntKind.bits, g1_1, g1_2, g1_5, g1_6, g1_7, g2_1, g2_2, g2_5, g2_6, g2_7, g3_1, g3_2, g3_5, g3_6, g3_7, g3_8]
        refine hK _ _ ?_
        clear hK K
        refine cv_cond ?_
        simp -implicitDefEqProofs (disch := first | omega | decide) only [seval, -Int.reducePow, -Nat.reducePow, cA, cB, pv, binv, fresh, thenQ, blockQ, retQ, Value.oneCell', Value.cells, undef, Nat.mul_one, cS, look_bR, g1_1, g1_2, g1_5, g1_6, g1_7, g2_1, g2_2, g2_5, g2_6, g2_7, g3_1, g3_2, g3_5, g3_6, g3_7, g3_8]
        refine ⟨fun hc => ?_, fun hc => ?_⟩
        · refine cv_region_q rfl ?_
          simp -implicitDefEqProofs (disch := first | omega | decide) only [seval, -Int.reducePow, -Nat.reducePow, cA, cB, pv, binv, fresh, thenQ, blockQ, retQ, Value.oneCell', Value.cells, undef, Nat.mul_one, cS, look_bR, g1_1, g1_2, g1_5, g1_6, g1_7, g2_1, g2_2, g2_5, g2_6, g2_7, g3_1, g3_2, g3_5, g3_6, g3_7, g3_8]
          exact ⟨v % 1100, rfl, by omega⟩
        · refine cv_skip ?_
          try simp only [blockQ, thenQ]
          simp -implicitDefEqProofs (disch := first | omega | decide) only [seval, -Int.reducePow, -Nat.reducePow, cA, cB, pv, binv, fresh, thenQ, blockQ, retQ, Value.oneCell', Value.cells, undef, Nat.mul_one, cS, look_bR, g1_1, g1_2, g1_5, g1_6, g1_7, g2_1, g2_2, g2_5, g2_6, g2_7, g3_1, g3_2, g3_5, g3_6, g3_7, g3_8]
          exact ⟨v, rfl, hv64⟩
      · refine cv_skip ?_
        try simp only [blockQ, thenQ]
        simp -implicitDefEqProofs (disch := first | omega | decide) only [seval, -Int.reducePow, -Nat.reducePow, cA, cB, pv, binv, fresh, thenQ, blockQ, retQ, Value.oneCell', Value.cells, undef, Nat.mul_one, cS, look_bR, g1_1, g1_2, g1_5, g1_6, g1_7, g2_1, g2_2, g2_5, g2_6, g2_7, g3_1, g3_2, g3_5, g3_6, g3_7, g3_8]
        exact ⟨z, rfl, hz64⟩
    intro G4 L' _ hF
    obtain ⟨y, q1, q2, q5, q6, q7, q8, rfl, hy⟩ := hF
    have g4_1 := q1.trans g3_1
    have g4_2 := q2.trans g3_2
    have g4_5 := q5.trans g3_5
    have g4_6 := q6.trans g3_6
    have g4_7 := q7.trans g3_7
    have g4_8 := q8
    clear q1 q2 q5 q6 q7 q8
    have hpy := putU_len10 hy
    refine hK _ _ ?_
    clear hK K
    refine cv_region_q rfl ?_
    simp -implicitDefEqProofs (disch := first | omega | decide) only [seval, -Int.reducePow, -Nat.reducePow, cA, cB, pv, binv, fresh, thenQ, blockQ, retQ, Value.oneCell', Value.cells, undef, Nat.mul_one, cS, look_bR, g1_1, g1_2, g1_5, g1_6, g1_7, g2_1, g2_2, g2_5, g2_6, g2_7, g4_1, g4_2, g4_5, g4_6, g4_7, g4_8]
    refine callV_row (fun A' n' c' => .slice A' n' c') (fun w hw => rput_any A5 n5 c5 m5 y w (bR_sl hw h0) (by omega) hy) ?_
    intro A8 n8 c8 hl8 _
    have hn8 : (m5 ++ putU y).length = n8 := byt_row hl8
    simp -implicitDefEqProofs (disch := first | omega | decide) only [seval, -Int.reducePow, -Nat.reducePow, cA, cB, pv, binv, fresh, thenQ, blockQ, retQ, Value.oneCell', Value.cells, undef, Nat.mul_one, cS, look_bR, g1_1, g1_2, g1_5, g1_6, g1_7, g2_1, g2_2, g2_5, g2_6, g2_7, g4_1, g4_2, g4_5, g4_6, g4_7, g4_8]
    refine hK _ _ ?_
    clear hK K
    refine cv_pick [0, 2, 3] (by decide) ?_
    simp only [pickL, nth]
    refine cv_region_then rfl ?_
    simp -implicitDefEqProofs (disch := first | omega | decide) only [seval, -Int.reducePow, -Nat.reducePow, cA, cB, pv, binv, fresh, thenQ, blockQ, retQ, Value.oneCell', Value.cells, undef, Nat.mul_one, cS, look_bR, wrap_in, g1_1, g1_2, g1_5, g1_6, g1_7, g2_1, g2_2, g2_5, g2_6, g2_7, g4_1, g4_2, g4_5, g4_6, g4_7, g4_8]
    refine ⟨⟨k + 1, A8, n8, c8, m5 ++ putU y, ?_⟩, ?_⟩
    · simp -implicitDefEqProofs (disch := first | omega | decide) only [seval, -Int.reducePow, -Nat.reducePow, cA, cB, pv, binv, fresh, thenQ, blockQ, retQ, Value.oneCell', Value.cells, undef, Nat.mul_one, cS, look_bR, Int.natCast_add, g1_1, g1_2, g1_5, g1_6, g1_7, g2_1, g2_2, g2_5, g2_6, g2_7, g4_1, g4_2, g4_5, g4_6, g4_7, g4_8]
      refine ⟨rfl, by omega, put_bytes hb y, hn8, ?_⟩
      rw [List.length_append] at hn8
      omega
    · simp only [intOf]; omega
  refine cv_exit ?_
  simp only [blockQ, thenQ, if_true, ite_true]
  clear hK K
  refine hK _ _ ?_
  clear hK K
  have hk6 : k = 6 := by have := of_decide_eq_false ‹_›; omega
  subst hk6
  refine cv_eq (L' := [.row (.slice A5 n5 c5) 5 1 n5 (byt m5), .blk b11 44 [.int .u64 0, .int .u64 1, .int .u64 0, .int .u64 0, .int .u64 0, .int .u64 1], .blk b2 53 (u64c l)]) rfl ?_
  refine cv_seq_k fun K hK => ?_
  refine cv_region_then rfl ?_
  simp -implicitDefEqProofs (disch := first | omega | decide) only [seval, -Int.reducePow, -Nat.reducePow, cA, cB, pv, binv, fresh, thenQ, blockQ, retQ, Value.oneCell', Value.cells, undef, Nat.mul_one, cS, look_bR, g1_1, g1_2, g1_5, g1_6, g1_7, g2_1, g2_2, g2_5, g2_6, g2_7]
  refine callV_ret (fun w hw => awake_any w) ?_
  try simp -implicitDefEqProofs (disch := first | omega | decide) only [seval, -Int.reducePow, -Nat.reducePow, cA, cB, pv, binv, fresh, thenQ, blockQ, retQ, Value.oneCell', Value.cells, undef, Nat.mul_one, cS, look_bR, g1_1, g1_2, g1_5, g1_6, g1_7, g2_1, g2_2, g2_5, g2_6, g2_7]
  intro b40 hb40 h40
  refine appV_at 1 tap36 rfl (fun w hw => src_blk (size := 1) (.head _) rfl hw) rfl (by omega) (by omega) ?_
  intro A8 c8 hl8 hr8
  simp -implicitDefEqProofs (disch := first | omega | decide) only [seval, -Int.reducePow, -Nat.reducePow, cA, cB, pv, binv, fresh, thenQ, blockQ, retQ, Value.oneCell', Value.cells, undef, Nat.mul_one, cS, look_bR, g1_1, g1_2, g1_5, g1_6, g1_7, g2_1, g2_2, g2_5, g2_6, g2_7]
  rw [show byt m5 ++ [Value.int IntKind.u8 25] = byt (m5 ++ [25]) by simp [byt]]
  refine callV_ret (fun w hw => same_any A8 (n5 + 1) c8 (m5 ++ [25]) w (hw.slb 0 rfl) (app_bytes hb (show ∀ x ∈ [25], x < 256 by decide))) ?_
  try simp -implicitDefEqProofs (disch := first | omega | decide) only [seval, -Int.reducePow, -Nat.reducePow, cA, cB, pv, binv, fresh, thenQ, blockQ, retQ, Value.oneCell', Value.cells, undef, Nat.mul_one, cS, look_bR, g1_1, g1_2, g1_5, g1_6, g1_7, g2_1, g2_2, g2_5, g2_6, g2_7]
  refine hK _ _ ?_
  clear hK K
  refine cv_ret ⟨_, (by simp -implicitDefEqProofs (disch := first | omega | decide) only [seval, -Int.reducePow, -Nat.reducePow, cA, cB, pv, binv, fresh, thenQ, blockQ, retQ, Value.oneCell', Value.cells, undef, Nat.mul_one, cS, look_bR, g1_1, g1_2, g1_5, g1_6, g1_7, g2_1, g2_2, g2_5, g2_6, g2_7]; rfl), fun w hw => ?_⟩
  exact ⟨rfl, hw.below⟩
end Go.Proofs.Ytehfnjaompkikaa
