/- The law ModuleDecode, walked. -/
import Derived.Test.YtehfnjaompkikaaMSameL
import Derived.Test.YtehfnjaompkikaaMREnc
import Derived.Test.YtehfnjaompkikaaMBk
import Derived.Test.YtehfnjaompkikaaMMd
import Derived.Test.YtehfnjaompkikaaEng11
namespace Go.Proofs.Ytehfnjaompkikaa
open Go.RowKit Go.Shelf
set_option linter.unusedVariables false
set_option linter.unusedSimpArgs false
set_option maxRecDepth 100000
theorem byte_parts {m : List Nat} (h : ∀ x ∈ m, x < 256) {c : Nat} (hc : c < 256) (k : Nat) : (∀ x ∈ m.take k ++ [c] ++ m.drop k, x < 256) ∧ (∀ x ∈ m.take k ++ m.drop (k + 1), x < 256) ∧ ∀ x ∈ m.set k c, x < 256 := by
  refine ⟨fun x hx => ?_, fun x hx => ?_, fun x hx => ?_⟩
  · simp only [List.mem_append, List.mem_singleton] at hx
    rcases hx with (hx | hx) | hx
    · exact h x (List.mem_of_mem_take hx)
    · omega
    · exact h x (List.mem_of_mem_drop hx)
  · rcases List.mem_append.1 hx with hx | hx
    · exact h x (List.mem_of_mem_take hx)
    · exact h x (List.mem_of_mem_drop hx)
  · rcases List.mem_or_eq_of_mem_set hx with hx | hx
    · exact h x hx
    · omega
theorem byt_set (m : List Nat) (k c : Nat) : (byt m).set k (.int .u8 (c : Int)) = byt (m.set k c) := by simp [byt, List.map_set]
theorem u8b (op : BinOp) (a b : Int) : 0 ≤ bits op .u8 a b ∧ bits op .u8 a b < 256 := by
  unfold bits
  dsimp only
  rw [IntKind.wrap_u8]
  omega
theorem encM_pos (m : ModR) : 4 ≤ (encM m).length := by
  have := congrArg List.length (encM_magic m)
  rw [List.length_take] at this
  simp [magicB] at this
  omega
set_option maxHeartbeats 8000000 in
theorem mDecode_walk (W : World) (A : Option Addr) (n c : Nat) (raw : List Nat) (hE : Sl W W.heap.size 1 A n c (byt raw)) (hb : ∀ x ∈ raw, x < 256)
    (B : Option Addr) (m d : Nat) (l : List Nat) (hU : Sl W W.heap.size 1 B m d (u16c l)) (hl : ∀ x ∈ l, x < 65536)
    (pos : Int) (hpos : 0 ≤ pos ∧ pos ≤ 65535) (how : Int) (hhow : 0 ≤ how ∧ how ≤ 255) (by' : Int) (hby : 0 ≤ by' ∧ by' ≤ 255) :
    Calls Try.prog 6 #[.slice A n c, .slice B m d, .int .u16 pos, .int .u8 how, .int .u8 by'] W fun e w' => e = .returned (.bool true) ∧ Below W.heap.size W w' := by
  obtain ⟨x, rfl⟩ : ∃ x : Nat, by' = (x : Int) := ⟨by'.toNat, by omega⟩
  obtain ⟨p, rfl⟩ : ∃ x : Nat, pos = (x : Int) := ⟨pos.toNat, by omega⟩
  have hrl : raw.length = n := byt_row hE.len
  refine calls_cv (M := []) (n := 92) [.tmp 10] rfl Try.func6 rfl rfl (Nat.le_of_ble_eq_true rfl) (St.nil _ _) ?_
  refine cv_seq_k fun K hK => ?_
  refine cv_region_then rfl ?_
  simp -implicitDefEqProofs (disch := first | omega | decide) only [seval, -Int.reducePow, -Nat.reducePow, cA, cB, pv, binv, fresh, thenQ, blockQ, retQ, Value.oneCell', Value.cells, undef, Nat.mul_one, mBox, modV, cS, cT, IntKind.bits]
  refine hK _ _ ?_
  clear hK K
  refine cv_seq_k fun K hK => ?_
  refine cv_seq_k fun K hK => ?_
  refine cv_region_then rfl ?_
  simp -implicitDefEqProofs (disch := first | omega | decide) only [seval, -Int.reducePow, -Nat.reducePow, cA, cB, pv, binv, fresh, thenQ, blockQ, retQ, Value.oneCell', Value.cells, undef, Nat.mul_one, mBox, modV, cS, cT, IntKind.bits]
  refine hK _ _ ?_
  clear hK K
  refine cv_cond ?_
  simp -implicitDefEqProofs (disch := first | omega | decide) only [seval, -Int.reducePow, -Nat.reducePow, cA, cB, pv, binv, fresh, thenQ, blockQ, retQ, Value.oneCell', Value.cells, undef, Nat.mul_one, mBox, modV, cS, cT, IntKind.bits]
  refine ⟨fun hc => ?_, fun hc => ?_⟩
  · refine cv_seq_k fun K hK => ?_
    refine cv_region_then rfl ?_
    simp -implicitDefEqProofs (disch := first | omega | decide) only [seval, -Int.reducePow, -Nat.reducePow, cA, cB, pv, binv, fresh, thenQ, blockQ, retQ, Value.oneCell', Value.cells, undef, Nat.mul_one, mBox, modV, cS, cT, IntKind.bits]
    refine callV_ret (fun w hw => awake_any w) ?_
    try simp -implicitDefEqProofs (disch := first | omega | decide) only [seval, -Int.reducePow, -Nat.reducePow, cA, cB, pv, binv, fresh, thenQ, blockQ, retQ, Value.oneCell', Value.cells, undef, Nat.mul_one, mBox, modV, cS, cT, IntKind.bits]
    refine hK _ _ ?_
    clear hK K
    refine cv_ret ⟨_, (by simp -implicitDefEqProofs (disch := first | omega | decide) only [seval, -Int.reducePow, -Nat.reducePow, cA, cB, pv, binv, fresh, thenQ, blockQ, retQ, Value.oneCell', Value.cells, undef, Nat.mul_one, mBox, modV, cS, cT, IntKind.bits]; rfl), fun w hw => ?_⟩
    exact ⟨rfl, hw.below⟩
  have hn : n ≤ 150 := by have := of_decide_eq_false hc; omega
  refine cv_skip ?_
  try simp only [blockQ, thenQ]
  refine hK _ _ ?_
  clear hK K
  refine cv_seq_k fun K hK => ?_
  refine cv_region_then rfl ?_
  simp -implicitDefEqProofs (disch := first | omega | decide) only [seval, -Int.reducePow, -Nat.reducePow, cA, cB, pv, binv, fresh, thenQ, blockQ, retQ, Value.oneCell', Value.cells, undef, Nat.mul_one, mBox, modV, cS, cT, IntKind.bits]
  refine callV_nest modV (fun k w w' => ModD w' (Nw w w') k ∧ Good k) (fun w hw => made_any B m d l w (hU.at hw) hl) ?_
  intro k w0 w1 f1 hw0 hw1 ⟨hk, hg⟩ hNw
  have hkD : ModD w1 (Dm [] W f1) k := hk.mono fun y hy => .inl (hNw y hy)
  have hchk : (chkM k).1 = 0 := by rw [hg.chk]; rfl
  have hbb : ∀ x ∈ encM k, x < 256 := encM_bytes hchk
  obtain ⟨he1, he2⟩ := hg.err
  have hlen := hg.len
  have hpl := encM_pos k
  simp -implicitDefEqProofs (disch := first | omega | decide) only [seval, -Int.reducePow, -Nat.reducePow, cA, cB, pv, binv, fresh, thenQ, blockQ, retQ, Value.oneCell', Value.cells, undef, Nat.mul_one, mBox, modV, cS, cT, IntKind.bits]
  rw [show (Value.agg #[.slice k.TA k.tn k.tc, .slice k.FA k.fn k.fc]) = modV k from rfl]
  refine callV_row (fun A n c => .tuple #[.slice A n c, .int .i64 (errM k)]) (fun w hw => rmenc_any k w (hkD.at hw 0 rfl)) ?_
  rw [he1, he2]
  intro A4 n4 c4 hl4 hr4
  have hn4 : (encM k).length = n4 := byt_row hl4
  simp -implicitDefEqProofs (disch := first | omega | decide) only [seval, -Int.reducePow, -Nat.reducePow, cA, cB, pv, binv, fresh, thenQ, blockQ, retQ, Value.oneCell', Value.cells, undef, Nat.mul_one, mBox, modV, cS, cT, IntKind.bits]
  refine hK _ _ ?_
  clear hK K
  refine cv_pick [0] (by decide) ?_
  simp only [pickL, nth]
  refine cv_cap 0 rfl fun hcap hcmax => ?_
  obtain ⟨g, rfl, hg⟩ : ∃ g, A4 = some ⟨g, 0, none⟩ ∧ W.heap.size ≤ g := by
    rcases hr4 with ⟨rfl, h0⟩ | ⟨g, rfl, h, _⟩
    · omega
    · exact ⟨g, rfl, by simpa using h⟩
  clear he1 he2 hk hkD hw0 hw1 hNw hchk
  generalize encM k = bs at *
  refine cv_gen fun G1 hG => ?_
  have g1_0 := congrFun hG 0
  have g1_2 := congrFun hG 2
  have g1_3 := congrFun hG 3
  have g1_4 := congrFun hG 4
  have g1_11 := congrFun hG 11
  clear hG
  try simp -implicitDefEqProofs (disch := first | omega | decide) only [seval, -Int.reducePow, -Nat.reducePow, cA, cB, pv, binv, fresh, thenQ, blockQ, retQ, Value.oneCell', Value.cells, undef, Nat.mul_one, mBox, modV, cS, cT, IntKind.bits] at g1_0 g1_2 g1_3 g1_4 g1_11
  refine cv_seq_k fun K hK => ?_
  refine cv_cut (fun _ _ => True) (fun F' L' => ∃ (A9 : Option Addr) (n9 c9 : Nat) (m9 : List Nat), F' 0 = G1 0 ∧ F' 11 = .slice A9 n9 c9 ∧ L' = [.row (.slice A9 n9 c9) 5 1 n9 (byt m9)] ∧ (∀ x ∈ m9, x < 256)) ?_ ?_
  · refine cv_seq_k fun K hK => ?_
    refine cv_region_then rfl ?_
    simp -implicitDefEqProofs (disch := first | omega | decide) only [seval, -Int.reducePow, -Nat.reducePow, cA, cB, pv, binv, fresh, thenQ, blockQ, retQ, Value.oneCell', Value.cells, undef, Nat.mul_one, mBox, modV, cS, cT, IntKind.bits, g1_0, g1_2, g1_3, g1_4, g1_11]
    refine hK _ _ ?_
    clear hK K
    refine cv_cond ?_
    have hn0 : decide ((0 : Int) < (n4 : Int)) = true := decide_eq_true (by omega)
    simp -implicitDefEqProofs (disch := first | omega | decide) only [seval, -Int.reducePow, -Nat.reducePow, cA, cB, pv, binv, fresh, thenQ, blockQ, retQ, Value.oneCell', Value.cells, undef, Nat.mul_one, mBox, modV, cS, cT, IntKind.bits, hn0, g1_0, g1_2, g1_3, g1_4, g1_11]
    refine cv_seq_k fun K hK => ?_
    refine cv_region_then rfl ?_
    simp -implicitDefEqProofs (disch := first | omega | decide) only [seval, -Int.reducePow, -Nat.reducePow, cA, cB, pv, binv, fresh, thenQ, blockQ, retQ, Value.oneCell', Value.cells, undef, Nat.mul_one, mBox, modV, cS, cT, IntKind.bits, wrap_in, g1_0, g1_2, g1_3, g1_4, g1_11]
    refine hK _ _ ?_
    clear hK K
    obtain ⟨k, hk⟩ : ∃ k : Nat, (p : Int) % (n4 : Int) = (k : Int) := ⟨p % n4, by rw [Int.natCast_emod]⟩
    have hkn : k < n4 := by
      have := Int.emod_lt_of_pos (p : Int) (show (0 : Int) < n4 by omega)
      omega
    refine cv_gen fun G2 hG => ?_
    have g2_0 := congrFun hG 0
    have g2_3 := congrFun hG 3
    have g2_4 := congrFun hG 4
    have g2_11 := congrFun hG 11
    have g2_13 := congrFun hG 13
    clear hG
    try simp -implicitDefEqProofs (disch := first | omega | decide) only [seval, -Int.reducePow, -Nat.reducePow, cA, cB, pv, binv, fresh, thenQ, blockQ, retQ, Value.oneCell', Value.cells, undef, Nat.mul_one, mBox, modV, cS, cT, IntKind.bits, hk, g1_0, g1_2, g1_3, g1_4, g1_11] at g2_0 g2_3 g2_4 g2_11 g2_13
    refine cv_seq_k fun K hK => ?_
    refine cv_region_then rfl ?_
    simp -implicitDefEqProofs (disch := first | omega | decide) only [seval, -Int.reducePow, -Nat.reducePow, cA, cB, pv, binv, fresh, thenQ, blockQ, retQ, Value.oneCell', Value.cells, undef, Nat.mul_one, mBox, modV, cS, cT, IntKind.bits, g1_0, g1_2, g1_3, g1_4, g1_11, g2_0, g2_3, g2_4, g2_11, g2_13]
    refine hK _ _ ?_
    clear hK K
    refine cv_gen fun G3 hG => ?_
    have g3_0 := congrFun hG 0
    have g3_4 := congrFun hG 4
    have g3_11 := congrFun hG 11
    have g3_13 := congrFun hG 13
    have g3_33 := congrFun hG 33
    clear hG
    try simp -implicitDefEqProofs (disch := first | omega | decide) only [seval, -Int.reducePow, -Nat.reducePow, cA, cB, pv, binv, fresh, thenQ, blockQ, retQ, Value.oneCell', Value.cells, undef, Nat.mul_one, mBox, modV, cS, cT, IntKind.bits, g1_0, g1_2, g1_3, g1_4, g1_11, g2_0, g2_3, g2_4, g2_11, g2_13] at g3_0 g3_4 g3_11 g3_13 g3_33
    have hcap4 : n4 ≤ 65536 := by omega
    refine cv_block ?_
    refine cv_seq_k fun K hK => ?_
    refine cv_region_then rfl ?_
    simp -implicitDefEqProofs (disch := first | omega | decide) only [seval, -Int.reducePow, -Nat.reducePow, cA, cB, pv, binv, fresh, thenQ, blockQ, retQ, Value.oneCell', Value.cells, undef, Nat.mul_one, mBox, modV, cS, cT, IntKind.bits, g1_0, g1_2, g1_3, g1_4, g1_11, g3_0, g3_4, g3_11, g3_13, g3_33]
    refine hK _ _ ?_
    clear hK K
    refine cv_cond ?_
    simp -implicitDefEqProofs (disch := first | omega | decide) only [seval, -Int.reducePow, -Nat.reducePow, cA, cB, pv, binv, fresh, thenQ, blockQ, retQ, Value.oneCell', Value.cells, undef, Nat.mul_one, mBox, modV, cS, cT, IntKind.bits, g1_0, g1_2, g1_3, g1_4, g1_11, g3_0, g3_4, g3_11, g3_13, g3_33]
    refine ⟨fun hc => ?_, fun hc => ?_⟩
    · refine cv_region_q rfl ?_
      simp -implicitDefEqProofs (disch := first | omega | decide) only [seval, -Int.reducePow, -Nat.reducePow, cA, cB, pv, binv, fresh, thenQ, blockQ, retQ, Value.oneCell', Value.cells, undef, Nat.mul_one, mBox, modV, cS, cT, IntKind.bits, g1_0, g1_2, g1_3, g1_4, g1_11, g3_0, g3_4, g3_11, g3_13, g3_33]
      refine ⟨_, sv_row 0 rfl (by rw [byt_len]; omega) (by kernel_rfl) rfl rfl, fun tok htok => ?_⟩
      subst htok
      simp -implicitDefEqProofs (disch := first | omega | decide) only [seval, -Int.reducePow, -Nat.reducePow, cA, cB, pv, binv, fresh, thenQ, blockQ, retQ, Value.oneCell', Value.cells, undef, Nat.mul_one, mBox, modV, cS, cT, IntKind.bits, g1_0, g1_2, g1_3, g1_4, g1_11, g3_0, g3_4, g3_11, g3_13, g3_33]
      exact ⟨_, n4, c4, bs.set k x, rfl, by rw [byt_set], (byte_parts hbb (show x < 256 by omega) k).2.2⟩
    obtain ⟨v, hv⟩ := some_of (l := bs) (i := k) (by omega)
    refine cv_seq_k fun K hK => ?_
    refine cv_region_then rfl ?_
    simp -implicitDefEqProofs (disch := first | omega | decide) only [seval, -Int.reducePow, -Nat.reducePow, cA, cB, pv, binv, fresh, thenQ, blockQ, retQ, Value.oneCell', Value.cells, undef, Nat.mul_one, mBox, modV, cS, cT, IntKind.bits, g1_0, g1_2, g1_3, g1_4, g1_11, g3_0, g3_4, g3_11, g3_13, g3_33]
    refine hK _ _ ?_
    clear hK K
    refine cv_cond ?_
    simp -implicitDefEqProofs (disch := first | omega | decide) only [seval, -Int.reducePow, -Nat.reducePow, cA, cB, pv, binv, fresh, thenQ, blockQ, retQ, Value.oneCell', Value.cells, undef, Nat.mul_one, mBox, modV, cS, cT, IntKind.bits, g1_0, g1_2, g1_3, g1_4, g1_11, g3_0, g3_4, g3_11, g3_13, g3_33]
    refine ⟨fun hc => ?_, fun hc => ?_⟩
    · refine cv_region_q rfl ?_
      simp -implicitDefEqProofs (disch := first | omega | decide) only [seval, -Int.reducePow, -Nat.reducePow, cA, cB, pv, binv, fresh, thenQ, blockQ, retQ, Value.oneCell', Value.cells, undef, Nat.mul_one, mBox, modV, cS, cT, IntKind.bits, g1_0, g1_2, g1_3, g1_4, g1_11, g3_0, g3_4, g3_11, g3_13, g3_33]
      refine ⟨_, ld_row1 (v := .int .u8 (v : Int)) (.head _) rfl (byt_get hv), fun tok htok => ?_⟩
      subst htok
      simp -implicitDefEqProofs (disch := first | omega | decide) only [seval, -Int.reducePow, -Nat.reducePow, cA, cB, pv, binv, fresh, thenQ, blockQ, retQ, Value.oneCell', Value.cells, undef, Nat.mul_one, mBox, modV, cS, cT, IntKind.bits, g1_0, g1_2, g1_3, g1_4, g1_11, g3_0, g3_4, g3_11, g3_13, g3_33]
      obtain ⟨z, hz⟩ : ∃ z : Nat, bits .xor .u8 (v : Int) 128 = (z : Int) := ⟨(bits .xor .u8 (v : Int) 128).toNat, (Int.toNat_of_nonneg (u8b _ _ _).1).symm⟩
      have hz8 : z < 256 := by have := (u8b .xor (v : Int) 128).2; omega
      refine ⟨_, sv_row 0 rfl (by rw [byt_len]; omega) (by kernel_rfl) rfl rfl, fun tok htok => ?_⟩
      subst htok
      simp -implicitDefEqProofs (disch := first | omega | decide) only [seval, -Int.reducePow, -Nat.reducePow, cA, cB, pv, binv, fresh, thenQ, blockQ, retQ, Value.oneCell', Value.cells, undef, Nat.mul_one, mBox, modV, cS, cT, IntKind.bits, g1_0, g1_2, g1_3, g1_4, g1_11, g3_0, g3_4, g3_11, g3_13, g3_33]
      exact ⟨_, n4, c4, bs.set k z, rfl, by rw [← byt_set, ← hz], (byte_parts hbb hz8 k).2.2⟩
    refine cv_seq_k fun K hK => ?_
    refine cv_region_then rfl ?_
    simp -implicitDefEqProofs (disch := first | omega | decide) only [seval, -Int.reducePow, -Nat.reducePow, cA, cB, pv, binv, fresh, thenQ, blockQ, retQ, Value.oneCell', Value.cells, undef, Nat.mul_one, mBox, modV, cS, cT, IntKind.bits, g1_0, g1_2, g1_3, g1_4, g1_11, g3_0, g3_4, g3_11, g3_13, g3_33]
    refine hK _ _ ?_
    clear hK K
    refine cv_cond ?_
    simp -implicitDefEqProofs (disch := first | omega | decide) only [seval, -Int.reducePow, -Nat.reducePow, cA, cB, pv, binv, fresh, thenQ, blockQ, retQ, Value.oneCell', Value.cells, undef, Nat.mul_one, mBox, modV, cS, cT, IntKind.bits, g1_0, g1_2, g1_3, g1_4, g1_11, g3_0, g3_4, g3_11, g3_13, g3_33]
    refine ⟨fun hc => ?_, fun hc => ?_⟩
    · refine cv_q ?_
      refine cv_tree [0] (by decide) (by simp only [pickL, nth, suf_cons, suf_nil, List.mem_cons, true_or, or_true, and_true, eq_self]) (.rd 1 (.rd 2 (.rd 3 (.rd 5 (.rd 8 (.rd 9 (.rd 10 (.alt 0 6 (.alt 4 6 (.act 6 (.act 7 (.act 11 (.rd 12 (.done))))) (.act 4 (.act 7 (.act 11 (.rd 12 (.done)))))) (.act 0 (.act 4 (.act 7 (.act 11 (.rd 12 (.done)))))))))))))) [] mixA rfl (by kernel_rfl) (by kernel_rfl) (by kernel_rfl) (by kernel_rfl) ?_
      simp only [pickL, nth]
      simp -implicitDefEqProofs (disch := first | omega | decide) only [seval, -Int.reducePow, -Nat.reducePow, cA, cB, pv, binv, fresh, thenQ, blockQ, retQ, Value.oneCell', Value.cells, undef, Nat.mul_one, mBox, modV, cS, cT, IntKind.bits, g1_0, g1_2, g1_3, g1_4, g1_11, g3_0, g3_4, g3_11, g3_13, g3_33]
      refine ⟨?_, ?_⟩
      · intro b40 hb40
        try simp -implicitDefEqProofs (disch := first | omega | decide) only [seval, -Int.reducePow, -Nat.reducePow, cA, cB, pv, binv, fresh, thenQ, blockQ, retQ, Value.oneCell', Value.cells, undef, Nat.mul_one, mBox, modV, cS, cT, IntKind.bits, g1_0, g1_2, g1_3, g1_4, g1_11, g3_0, g3_4, g3_11, g3_13, g3_33]
        refine ⟨?_, ?_⟩
        · -- 0, 4, 6
          refine appV_lit 0 tap36 rfl rfl (fun w hw => ((hw.slb 1 rfl).btake (k := k) (by omega)).reads) (ones_byt _) (by omega) (by omega) ?_
          intro A6 c6 hl6 hr6
          simp -implicitDefEqProofs (disch := first | omega | decide) only [seval, -Int.reducePow, -Nat.reducePow, cA, cB, pv, binv, fresh, thenQ, blockQ, retQ, Value.oneCell', Value.cells, undef, Nat.mul_one, mBox, modV, cS, cT, IntKind.bits, g1_0, g1_2, g1_3, g1_4, g1_11, g3_0, g3_4, g3_11, g3_13, g3_33]
          intro b46 hb46
          try simp -implicitDefEqProofs (disch := first | omega | decide) only [seval, -Int.reducePow, -Nat.reducePow, cA, cB, pv, binv, fresh, thenQ, blockQ, retQ, Value.oneCell', Value.cells, undef, Nat.mul_one, mBox, modV, cS, cT, IntKind.bits, g1_0, g1_2, g1_3, g1_4, g1_11, g3_0, g3_4, g3_11, g3_13, g3_33]
          refine appV_at 1 tap36 rfl (fun w hw => src_blk (size := 1) (.head _) rfl hw) rfl (by omega) (by omega) ?_
          intro A7 c7 hl7 hr7
          simp -implicitDefEqProofs (disch := first | omega | decide) only [seval, -Int.reducePow, -Nat.reducePow, cA, cB, pv, binv, fresh, thenQ, blockQ, retQ, Value.oneCell', Value.cells, undef, Nat.mul_one, mBox, modV, cS, cT, IntKind.bits, g1_0, g1_2, g1_3, g1_4, g1_11, g3_0, g3_4, g3_11, g3_13, g3_33]
          refine appV_at 0 tap36 rfl (fun w hw => ((hw.slb 2 rfl).bdrop (k := k) (by omega)).reads) (ones_byt _) (by omega) (by omega) ?_
          intro A8 c8 hl8 hr8
          simp -implicitDefEqProofs (disch := first | omega | decide) only [seval, -Int.reducePow, -Nat.reducePow, cA, cB, pv, binv, fresh, thenQ, blockQ, retQ, Value.oneCell', Value.cells, undef, Nat.mul_one, mBox, modV, cS, cT, IntKind.bits, g1_0, g1_2, g1_3, g1_4, g1_11, g3_0, g3_4, g3_11, g3_13, g3_33]
          refine ⟨[0], by decide, ?_⟩
          simp only [pickL, nth]
          try simp -implicitDefEqProofs (disch := first | omega | decide) only [seval, -Int.reducePow, -Nat.reducePow, cA, cB, pv, binv, fresh, thenQ, blockQ, retQ, Value.oneCell', Value.cells, undef, Nat.mul_one, mBox, modV, cS, cT, IntKind.bits, g1_0, g1_2, g1_3, g1_4, g1_11, g3_0, g3_4, g3_11, g3_13, g3_33]
          exact ⟨A8, _, c8, bs.take k ++ [x] ++ bs.drop k, rfl, by simp [byt], (byte_parts hbb (show x < 256 by omega) k).1⟩
        · intro b46 hb46 h46
          try simp -implicitDefEqProofs (disch := first | omega | decide) only [seval, -Int.reducePow, -Nat.reducePow, cA, cB, pv, binv, fresh, thenQ, blockQ, retQ, Value.oneCell', Value.cells, undef, Nat.mul_one, mBox, modV, cS, cT, IntKind.bits, g1_0, g1_2, g1_3, g1_4, g1_11, g3_0, g3_4, g3_11, g3_13, g3_33]
          refine appV_lit 1 tap36 rfl rfl (fun w hw => ((hw.slb 2 rfl).btake (k := k) (by omega)).reads) (ones_byt _) (by omega) (by omega) ?_
          intro A6 c6 hl6 hr6
          simp -implicitDefEqProofs (disch := first | omega | decide) only [seval, -Int.reducePow, -Nat.reducePow, cA, cB, pv, binv, fresh, thenQ, blockQ, retQ, Value.oneCell', Value.cells, undef, Nat.mul_one, mBox, modV, cS, cT, IntKind.bits, g1_0, g1_2, g1_3, g1_4, g1_11, g3_0, g3_4, g3_11, g3_13, g3_33]
          refine appV_at 0 tap36 rfl (fun w hw => src_blk (size := 1) (.tail _ (.head _)) rfl hw) rfl (by omega) (by omega) ?_
          intro A7 c7 hl7 hr7
          simp -implicitDefEqProofs (disch := first | omega | decide) only [seval, -Int.reducePow, -Nat.reducePow, cA, cB, pv, binv, fresh, thenQ, blockQ, retQ, Value.oneCell', Value.cells, undef, Nat.mul_one, mBox, modV, cS, cT, IntKind.bits, g1_0, g1_2, g1_3, g1_4, g1_11, g3_0, g3_4, g3_11, g3_13, g3_33]
          refine appV_at 0 tap36 rfl (fun w hw => ((hw.slb 2 rfl).bdrop (k := k) (by omega)).reads) (ones_byt _) (by omega) (by omega) ?_
          intro A8 c8 hl8 hr8
          simp -implicitDefEqProofs (disch := first | omega | decide) only [seval, -Int.reducePow, -Nat.reducePow, cA, cB, pv, binv, fresh, thenQ, blockQ, retQ, Value.oneCell', Value.cells, undef, Nat.mul_one, mBox, modV, cS, cT, IntKind.bits, g1_0, g1_2, g1_3, g1_4, g1_11, g3_0, g3_4, g3_11, g3_13, g3_33]
          refine ⟨[0], by decide, ?_⟩
          simp only [pickL, nth]
          try simp -implicitDefEqProofs (disch := first | omega | decide) only [seval, -Int.reducePow, -Nat.reducePow, cA, cB, pv, binv, fresh, thenQ, blockQ, retQ, Value.oneCell', Value.cells, undef, Nat.mul_one, mBox, modV, cS, cT, IntKind.bits, g1_0, g1_2, g1_3, g1_4, g1_11, g3_0, g3_4, g3_11, g3_13, g3_33]
          exact ⟨A8, _, c8, bs.take k ++ [x] ++ bs.drop k, rfl, by simp [byt], (byte_parts hbb (show x < 256 by omega) k).1⟩
      · intro b46 hb46
        try simp -implicitDefEqProofs (disch := first | omega | decide) only [seval, -Int.reducePow, -Nat.reducePow, cA, cB, pv, binv, fresh, thenQ, blockQ, retQ, Value.oneCell', Value.cells, undef, Nat.mul_one, mBox, modV, cS, cT, IntKind.bits, g1_0, g1_2, g1_3, g1_4, g1_11, g3_0, g3_4, g3_11, g3_13, g3_33]
        intro b40 hb40 h40
        try simp -implicitDefEqProofs (disch := first | omega | decide) only [seval, -Int.reducePow, -Nat.reducePow, cA, cB, pv, binv, fresh, thenQ, blockQ, retQ, Value.oneCell', Value.cells, undef, Nat.mul_one, mBox, modV, cS, cT, IntKind.bits, g1_0, g1_2, g1_3, g1_4, g1_11, g3_0, g3_4, g3_11, g3_13, g3_33]
        refine appV_lit 0 tap36 rfl rfl (fun w hw => ((hw.slb 2 rfl).btake (k := k) (by omega)).reads) (ones_byt _) (by omega) (by omega) ?_
        intro A6 c6 hl6 hr6
        simp -implicitDefEqProofs (disch := first | omega | decide) only [seval, -Int.reducePow, -Nat.reducePow, cA, cB, pv, binv, fresh, thenQ, blockQ, retQ, Value.oneCell', Value.cells, undef, Nat.mul_one, mBox, modV, cS, cT, IntKind.bits, g1_0, g1_2, g1_3, g1_4, g1_11, g3_0, g3_4, g3_11, g3_13, g3_33]
        refine appV_at 0 tap36 rfl (fun w hw => src_blk (size := 1) (.tail _ (.head _)) rfl hw) rfl (by omega) (by omega) ?_
        intro A7 c7 hl7 hr7
        simp -implicitDefEqProofs (disch := first | omega | decide) only [seval, -Int.reducePow, -Nat.reducePow, cA, cB, pv, binv, fresh, thenQ, blockQ, retQ, Value.oneCell', Value.cells, undef, Nat.mul_one, mBox, modV, cS, cT, IntKind.bits, g1_0, g1_2, g1_3, g1_4, g1_11, g3_0, g3_4, g3_11, g3_13, g3_33]
        refine appV_at 0 tap36 rfl (fun w hw => ((hw.slb 2 rfl).bdrop (k := k) (by omega)).reads) (ones_byt _) (by omega) (by omega) ?_
        intro A8 c8 hl8 hr8
        simp -implicitDefEqProofs (disch := first | omega | decide) only [seval, -Int.reducePow, -Nat.reducePow, cA, cB, pv, binv, fresh, thenQ, blockQ, retQ, Value.oneCell', Value.cells, undef, Nat.mul_one, mBox, modV, cS, cT, IntKind.bits, g1_0, g1_2, g1_3, g1_4, g1_11, g3_0, g3_4, g3_11, g3_13, g3_33]
        refine ⟨[0], by decide, ?_⟩
        simp only [pickL, nth]
        try simp -implicitDefEqProofs (disch := first | omega | decide) only [seval, -Int.reducePow, -Nat.reducePow, cA, cB, pv, binv, fresh, thenQ, blockQ, retQ, Value.oneCell', Value.cells, undef, Nat.mul_one, mBox, modV, cS, cT, IntKind.bits, g1_0, g1_2, g1_3, g1_4, g1_11, g3_0, g3_4, g3_11, g3_13, g3_33]
        exact ⟨A8, _, c8, bs.take k ++ [x] ++ bs.drop k, rfl, by simp [byt], (byte_parts hbb (show x < 256 by omega) k).1⟩
    refine cv_seq_k fun K hK => ?_
    refine cv_region_then rfl ?_
    simp -implicitDefEqProofs (disch := first | omega | decide) only [seval, -Int.reducePow, -Nat.reducePow, cA, cB, pv, binv, fresh, thenQ, blockQ, retQ, Value.oneCell', Value.cells, undef, Nat.mul_one, mBox, modV, cS, cT, IntKind.bits, g1_0, g1_2, g1_3, g1_4, g1_11, g3_0, g3_4, g3_11, g3_13, g3_33]
    refine hK _ _ ?_
    clear hK K
    refine cv_cond ?_
    simp -implicitDefEqProofs (disch := first | omega | decide) only [seval, -Int.reducePow, -Nat.reducePow, cA, cB, pv, binv, fresh, thenQ, blockQ, retQ, Value.oneCell', Value.cells, undef, Nat.mul_one, mBox, modV, cS, cT, IntKind.bits, g1_0, g1_2, g1_3, g1_4, g1_11, g3_0, g3_4, g3_11, g3_13, g3_33]
    refine ⟨fun hc => ?_, fun hc => ?_⟩
    · refine cv_pick_post [0] (by decide) ?_
      refine cv_q ?_
      refine cv_draw_of (pickL [0] _) (fun w hw => hw.pick (by decide)) (by simp only [pickL, nth, suf_cons, suf_nil, List.mem_cons, true_or, or_true, and_true, eq_self]) [(true, 1), (true, 2), (true, 3), (true, 5), (true, 6), (true, 7), (true, 8), (false, 0), (false, 4), (false, 9), (true, 10)] [] mixA rfl (by kernel_rfl) (by kernel_rfl) rfl rfl ?_
      simp -implicitDefEqProofs (disch := first | omega | decide) only [seval, -Int.reducePow, -Nat.reducePow, cA, cB, pv, binv, fresh, thenQ, blockQ, retQ, Value.oneCell', Value.cells, undef, Nat.mul_one, mBox, modV, cS, cT, IntKind.bits, wrap_in, g1_0, g1_2, g1_3, g1_4, g1_11, g3_0, g3_4, g3_11, g3_13, g3_33]
      intro b40 hb40
      try simp -implicitDefEqProofs (disch := first | omega | decide) only [seval, -Int.reducePow, -Nat.reducePow, cA, cB, pv, binv, fresh, thenQ, blockQ, retQ, Value.oneCell', Value.cells, undef, Nat.mul_one, mBox, modV, cS, cT, IntKind.bits, wrap_in, g1_0, g1_2, g1_3, g1_4, g1_11, g3_0, g3_4, g3_11, g3_13, g3_33]
      refine appV_lit 0 tap36 rfl rfl (fun w hw => ((hw.slb 1 rfl).btake (k := k) (by omega)).reads) (ones_byt _) (by omega) (by omega) ?_
      intro A6 c6 hl6 hr6
      simp -implicitDefEqProofs (disch := first | omega | decide) only [seval, -Int.reducePow, -Nat.reducePow, cA, cB, pv, binv, fresh, thenQ, blockQ, retQ, Value.oneCell', Value.cells, undef, Nat.mul_one, mBox, modV, cS, cT, IntKind.bits, g1_0, g1_2, g1_3, g1_4, g1_11, g3_0, g3_4, g3_11, g3_13, g3_33]
      refine appV_at 0 tap36 rfl (fun w hw => ((hw.slb 1 rfl).bdrop (k := k + 1) (by omega)).reads) (ones_byt _) (by omega) (by omega) ?_
      intro A8 c8 hl8 hr8
      simp -implicitDefEqProofs (disch := first | omega | decide) only [seval, -Int.reducePow, -Nat.reducePow, cA, cB, pv, binv, fresh, thenQ, blockQ, retQ, Value.oneCell', Value.cells, undef, Nat.mul_one, mBox, modV, cS, cT, IntKind.bits, g1_0, g1_2, g1_3, g1_4, g1_11, g3_0, g3_4, g3_11, g3_13, g3_33]
      exact ⟨A8, _, c8, bs.take k ++ bs.drop (k + 1), rfl, by simp [byt], (byte_parts hbb (show x < 256 by omega) k).2.1⟩
    refine cv_skip ?_
    try simp only [blockQ, thenQ]
    simp -implicitDefEqProofs (disch := first | omega | decide) only [seval, -Int.reducePow, -Nat.reducePow, cA, cB, pv, binv, fresh, thenQ, blockQ, retQ, Value.oneCell', Value.cells, undef, Nat.mul_one, mBox, modV, cS, cT, IntKind.bits, g1_0, g1_2, g1_3, g1_4, g1_11, g3_0, g3_4, g3_11, g3_13, g3_33]
    exact ⟨_, n4, c4, bs, rfl, rfl, hbb⟩
  intro G4 L' _ hF
  obtain ⟨A9, n9, c9, m9, q0, q11, rfl, h9⟩ := hF
  have g4_0 := q0.trans g1_0
  have g4_11 := q11
  clear q0 q11
  refine hK _ _ ?_
  clear hK K
  refine cv_gen fun G5 hG => ?_
  have g5_0 := congrFun hG 0
  have g5_11 := congrFun hG 11
  clear hG
  try simp -implicitDefEqProofs (disch := first | omega | decide) only [seval, -Int.reducePow, -Nat.reducePow, cA, cB, pv, binv, fresh, thenQ, blockQ, retQ, Value.oneCell', Value.cells, undef, Nat.mul_one, mBox, modV, cS, cT, IntKind.bits, g4_0, g4_11] at g5_0 g5_11
  refine cv_seq_k fun K hK => ?_
  refine cv_region_then rfl ?_
  simp -implicitDefEqProofs (disch := first | omega | decide) only [seval, -Int.reducePow, -Nat.reducePow, cA, cB, pv, binv, fresh, thenQ, blockQ, retQ, Value.oneCell', Value.cells, undef, Nat.mul_one, mBox, modV, cS, cT, IntKind.bits, g5_0, g5_11]
  refine callV_ret (fun w hw => awake_any w) ?_
  try simp -implicitDefEqProofs (disch := first | omega | decide) only [seval, -Int.reducePow, -Nat.reducePow, cA, cB, pv, binv, fresh, thenQ, blockQ, retQ, Value.oneCell', Value.cells, undef, Nat.mul_one, mBox, modV, cS, cT, IntKind.bits, g5_0, g5_11]
  refine callV_ret (fun w hw => same_any A n c raw w (hE.at hw) hb) ?_
  try simp -implicitDefEqProofs (disch := first | omega | decide) only [seval, -Int.reducePow, -Nat.reducePow, cA, cB, pv, binv, fresh, thenQ, blockQ, retQ, Value.oneCell', Value.cells, undef, Nat.mul_one, mBox, modV, cS, cT, IntKind.bits, g5_0, g5_11]
  refine callV_ret (fun w hw => same_any A9 n9 c9 m9 w (hw.slb 0 rfl) h9) ?_
  try simp -implicitDefEqProofs (disch := first | omega | decide) only [seval, -Int.reducePow, -Nat.reducePow, cA, cB, pv, binv, fresh, thenQ, blockQ, retQ, Value.oneCell', Value.cells, undef, Nat.mul_one, mBox, modV, cS, cT, IntKind.bits, g5_0, g5_11]
  intro b86 hb86
  refine xv_mark 0 rfl Try.underlying36 Try.underlying5 rfl ?_
  simp -implicitDefEqProofs (disch := first | omega | decide) only [seval, -Int.reducePow, -Nat.reducePow, cA, cB, pv, binv, fresh, thenQ, blockQ, retQ, Value.oneCell', Value.cells, undef, Nat.mul_one, mBox, modV, cS, cT, IntKind.bits, g5_0, g5_11]
  by_cases h0 : n = 0
  · subst h0
    refine appV_none tap36 (by omega) ?_
    simp -implicitDefEqProofs (disch := first | omega | decide) only [seval, -Int.reducePow, -Nat.reducePow, cA, cB, pv, binv, fresh, thenQ, blockQ, retQ, Value.oneCell', Value.cells, undef, Nat.mul_one, mBox, modV, cS, cT, IntKind.bits, g5_0, g5_11]
    refine callV_ret (fun w hw => same_any (some ⟨b86, 0, none⟩) 4 4 magicB w (mgOk b86 hw) (by decide)) ?_
    try simp -implicitDefEqProofs (disch := first | omega | decide) only [seval, -Int.reducePow, -Nat.reducePow, cA, cB, pv, binv, fresh, thenQ, blockQ, retQ, Value.oneCell', Value.cells, undef, Nat.mul_one, mBox, modV, cS, cT, IntKind.bits, g5_0, g5_11]
    refine hK _ _ ?_
    clear hK K
    refine cv_ret ⟨_, (by simp -implicitDefEqProofs (disch := first | omega | decide) only [seval, -Int.reducePow, -Nat.reducePow, cA, cB, pv, binv, fresh, thenQ, blockQ, retQ, Value.oneCell', Value.cells, undef, Nat.mul_one, mBox, modV, cS, cT, IntKind.bits, g5_0, g5_11]; rfl), fun w hw => ?_⟩
    exact ⟨rfl, hw.below⟩
  · refine appV_full (olds := byt magicB) tap36 (by omega) (by omega) (fun w hw => mgOk b86 hw) (fun w hw => (hE.at hw).reads) (by omega) (by omega) ?_
    intro A8 c8 hl8 hr8
    rw [← byt_append]
    simp -implicitDefEqProofs (disch := first | omega | decide) only [seval, -Int.reducePow, -Nat.reducePow, cA, cB, pv, binv, fresh, thenQ, blockQ, retQ, Value.oneCell', Value.cells, undef, Nat.mul_one, mBox, modV, cS, cT, IntKind.bits, g5_0, g5_11]
    refine callV_ret (fun w hw => same_any A8 (4 + n) c8 (magicB ++ raw) w (hw.slb 0 rfl) (app_bytes (show ∀ x ∈ magicB, x < 256 by decide) hb)) ?_
    try simp -implicitDefEqProofs (disch := first | omega | decide) only [seval, -Int.reducePow, -Nat.reducePow, cA, cB, pv, binv, fresh, thenQ, blockQ, retQ, Value.oneCell', Value.cells, undef, Nat.mul_one, mBox, modV, cS, cT, IntKind.bits, g5_0, g5_11]
    refine hK _ _ ?_
    clear hK K
    refine cv_ret ⟨_, (by simp -implicitDefEqProofs (disch := first | omega | decide) only [seval, -Int.reducePow, -Nat.reducePow, cA, cB, pv, binv, fresh, thenQ, blockQ, retQ, Value.oneCell', Value.cells, undef, Nat.mul_one, mBox, modV, cS, cT, IntKind.bits, g5_0, g5_11]; rfl), fun w hw => ?_⟩
    exact ⟨rfl, hw.below⟩
end Go.Proofs.Ytehfnjaompkikaa
