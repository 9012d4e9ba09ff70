/- The reference's EncodeType. -/
import Derived.Test.YtehfnjaompkikaaTEnc
import Derived.Test.YtehfnjaompkikaaRLay
import Derived.Test.YtehfnjaompkikaaRUint
namespace Go.Proofs.Ytehfnjaompkikaa
open Go.RowKit Go.Shelf
set_option linter.unusedVariables false
set_option linter.unusedSimpArgs false
set_option maxRecDepth 100000
set_option maxHeartbeats 2000000 in
theorem renc_any (A : Option Addr) (n c : Nat) (fs : List Fd) (len : Int) (W : World) (hE : Sl W W.heap.size 2 A n c (cl fdc fs)) :
    Calls Try.prog 34 #[tyV len A n c] W (rowP 5 1 (fun v => .tuple #[v, .int .i64 (chk len fs)]) (byt (encT len fs)) W) := by
  have hln : fs.length = n := cl_row fdc_len (by omega) hE.len
  refine calls_cv (M := []) (n := 48) [.tmp 2, .tmp 3] rfl Try.func34 rfl rfl (Nat.le_of_ble_eq_true rfl) (St.nil _ _) ?_
  refine cv_seq_k fun K hK => ?_
  refine cv_region_then rfl ?_
  simp -implicitDefEqProofs (disch := first | omega | decide) only [seval, -Int.reducePow, -Nat.reducePow, cA, cB, pv, binv, fresh, thenQ, blockQ, retQ, Value.oneCell', Value.cells, fBox, tBox, fdV, tyV, undef, Nat.mul_one]
  intro b hb
  refine hK _ _ ?_
  clear hK K
  refine cv_seq_k fun K hK => ?_
  refine cv_seq_k fun K hK => ?_
  refine cv_region_then rfl ?_
  simp -implicitDefEqProofs (disch := first | omega | decide) only [seval, -Int.reducePow, -Nat.reducePow, cA, cB, pv, binv, fresh, thenQ, blockQ, retQ, Value.oneCell', Value.cells, fBox, tBox, fdV, tyV, undef, Nat.mul_one]
  refine callV_ret (fun w hw => rcheck_any A n c fs len w (hE.at hw)) ?_
  try simp -implicitDefEqProofs (disch := first | omega | decide) only [seval, -Int.reducePow, -Nat.reducePow, cA, cB, pv, binv, fresh, thenQ, blockQ, retQ, Value.oneCell', Value.cells, fBox, tBox, fdV, tyV, undef, Nat.mul_one]
  refine hK _ _ ?_
  clear hK K
  refine cv_seq_k fun K hK => ?_
  refine cv_region_then rfl ?_
  simp -implicitDefEqProofs (disch := first | omega | decide) only [seval, -Int.reducePow, -Nat.reducePow, cA, cB, pv, binv, fresh, thenQ, blockQ, retQ, Value.oneCell', Value.cells, fBox, tBox, fdV, tyV, undef, Nat.mul_one]
  refine hK _ _ ?_
  clear hK K
  refine cv_cond ?_
  simp -implicitDefEqProofs (disch := first | omega | decide) only [seval, -Int.reducePow, -Nat.reducePow, cA, cB, pv, binv, fresh, thenQ, blockQ, retQ, Value.oneCell', Value.cells, fBox, tBox, fdV, tyV, undef, Nat.mul_one]
  refine ⟨fun hc => ?_, fun hc => ?_⟩
  · have hz : ¬ chk len fs = 0 := by simpa using hc
    refine cv_seq_k fun K hK => ?_
    refine cv_region_then rfl ?_
    simp -implicitDefEqProofs (disch := first | omega | decide) only [seval, -Int.reducePow, -Nat.reducePow, cA, cB, pv, binv, fresh, thenQ, blockQ, retQ, Value.oneCell', Value.cells, fBox, tBox, fdV, tyV, undef, Nat.mul_one]
    refine hK _ _ ?_
    clear hK K
    refine cv_ret ⟨_, (by simp -implicitDefEqProofs (disch := first | omega | decide) only [seval, -Int.reducePow, -Nat.reducePow, cA, cB, pv, binv, fresh, thenQ, blockQ, retQ, Value.oneCell', Value.cells, fBox, tBox, fdV, tyV, undef, Nat.mul_one]; rfl), fun w hw => ?_⟩
    have hT : encT len fs = [] := by unfold encT; rw [if_neg hz]
    exact ⟨none, 0, 0, rfl, by rw [hT]; exact World.ownsRow_nil _ _ _ _, hw.below⟩
  have hz : chk len fs = 0 := by simpa using hc
  have hT : encT len fs = encB len fs := by unfold encT; rw [if_pos hz]
  obtain ⟨q1, q2, q3, q4, q5, q6, q7⟩ := chk_zero hz
  have e1 : IntKind.u64.wrap len = ((len.toNat : Nat) : Int) := u64_toNat (by omega) (by omega)
  have e2 : IntKind.u64.wrap (n : Int) = (n : Int) := u64_in (by omega)
  refine cv_skip ?_
  try simp only [blockQ, thenQ]
  refine hK _ _ ?_
  clear hK K
  refine cv_seq_k fun K hK => ?_
  refine cv_region_then rfl ?_
  simp -implicitDefEqProofs (disch := first | omega | decide) only [seval, -Int.reducePow, -Nat.reducePow, cA, cB, pv, binv, fresh, thenQ, blockQ, retQ, Value.oneCell', Value.cells, fBox, tBox, fdV, tyV, undef, Nat.mul_one, e1]
  refine callV_row (fun A' n' c' => .slice A' n' c') (fun w hw => rput_any none 0 0 [] len.toNat w (Sl.nil 1) (by omega) (by omega)) ?_
  intro A1 n1 c1 hl1 _
  simp -implicitDefEqProofs (disch := first | omega | decide) only [seval, -Int.reducePow, -Nat.reducePow, cA, cB, pv, binv, fresh, thenQ, blockQ, retQ, Value.oneCell', Value.cells, fBox, tBox, fdV, tyV, undef, Nat.mul_one]
  refine hK _ _ ?_
  clear hK K
  have hn1 : n1 ≤ 10 := by have := byt_row hl1; have := putU_len10 (n := len.toNat) (by omega); simp at *; omega
  refine cv_seq_k fun K hK => ?_
  refine cv_region_then rfl ?_
  simp -implicitDefEqProofs (disch := first | omega | decide) only [seval, -Int.reducePow, -Nat.reducePow, cA, cB, pv, binv, fresh, thenQ, blockQ, retQ, Value.oneCell', Value.cells, fBox, tBox, fdV, tyV, undef, Nat.mul_one, e2]
  refine callV_row (fun A' n' c' => .slice A' n' c') (fun w hw => rput_any A1 n1 c1 _ n w (hw.slb 0 rfl) (by omega) (by omega)) ?_
  intro A2 n2 c2 hl2 _
  simp -implicitDefEqProofs (disch := first | omega | decide) only [seval, -Int.reducePow, -Nat.reducePow, cA, cB, pv, binv, fresh, thenQ, blockQ, retQ, Value.oneCell', Value.cells, fBox, tBox, fdV, tyV, undef, Nat.mul_one]
  refine hK _ _ ?_
  clear hK K
  refine cv_pick [0, 2] (by decide) ?_
  simp only [pickL, nth]
  refine cv_seq_k fun K hK => ?_
  refine cv_seq_k fun K hK => ?_
  refine cv_region_then rfl ?_
  simp -implicitDefEqProofs (disch := first | omega | decide) only [seval, -Int.reducePow, -Nat.reducePow, cA, cB, pv, binv, fresh, thenQ, blockQ, retQ, Value.oneCell', Value.cells, fBox, tBox, fdV, tyV, undef, Nat.mul_one]
  refine hK _ _ ?_
  clear hK K
  refine cv_gen fun G1 hG => ?_
  have g1_1 := congrFun hG 1
  have g1_5 := congrFun hG 5
  have g1_6 := congrFun hG 6
  clear hG
  try simp -implicitDefEqProofs (disch := first | omega | decide) only [seval, -Int.reducePow, -Nat.reducePow, cA, cB, pv, binv, fresh, thenQ, blockQ, retQ, Value.oneCell', Value.cells, fBox, tBox, fdV, tyV, undef, Nat.mul_one] at g1_1 g1_5 g1_6
  refine cv_block ?_
  refine cv_loop (fun F' L' => ∃ (k : Nat) (A6 : Option Addr) (n6 c6 : Nat), F' 1 = G1 1 ∧ F' 5 = .slice A6 n6 c6 ∧ F' 6 = .int .i64 (k : Int) ∧ L' = [.row (.slice A6 n6 c6) 5 1 n6 (byt (putU len.toNat ++ putU n ++ (fs.take k).flatMap encFd)), tBox b len A n c] ∧ k ≤ n ∧ (putU len.toNat ++ putU n ++ (fs.take k).flatMap encFd).length = n6) (fun F' L' => 40 - (intOf (F' 6)).toNat) ?_ ?_
  · refine ⟨0, A2, n2, c2, ?_⟩
    simp -implicitDefEqProofs (disch := first | omega | decide) only [seval, -Int.reducePow, -Nat.reducePow, cA, cB, pv, binv, fresh, thenQ, blockQ, retQ, Value.oneCell', Value.cells, fBox, tBox, fdV, tyV, undef, Nat.mul_one, List.flatMap_nil, g1_1, g1_5, g1_6]
    exact ⟨by omega, byt_row hl2⟩
  intro G2 L' hI
  obtain ⟨k, A6, n6, c6, q1, q5, q6, rfl, ⟨hk, h6⟩⟩ := hI
  have g2_1 := q1.trans g1_1
  have g2_5 := q5
  have g2_6 := q6
  clear q1 q5 q6
  refine cv_seq_k fun K hK => ?_
  refine cv_seq_k fun K hK => ?_
  refine cv_region_then rfl ?_
  simp -implicitDefEqProofs (disch := first | omega | decide) only [seval, -Int.reducePow, -Nat.reducePow, cA, cB, pv, binv, fresh, thenQ, blockQ, retQ, Value.oneCell', Value.cells, fBox, tBox, fdV, tyV, undef, Nat.mul_one, g1_1, g1_5, g1_6, g2_1, g2_5, g2_6]
  refine hK _ _ ?_
  clear hK K
  refine cv_cond ?_
  simp -implicitDefEqProofs (disch := first | omega | decide) only [seval, -Int.reducePow, -Nat.reducePow, cA, cB, pv, binv, fresh, thenQ, blockQ, retQ, Value.oneCell', Value.cells, fBox, tBox, fdV, tyV, undef, Nat.mul_one, g1_1, g1_5, g1_6, g2_1, g2_5, g2_6]
  refine ⟨fun hc => ?_, fun hc => ?_⟩
  · refine cv_skip ?_
    try simp only [blockQ, thenQ]
    have hlt : k < n := by have := of_decide_eq_true ‹_›; omega
    obtain ⟨b0, off, rfl, hb0, -⟩ := hE.cells (by omega)
    obtain ⟨x, hx⟩ := some_of (l := fs) (i := k) (by omega)
    have hx0 := Fd.err_zero (q6 x (List.mem_of_getElem? hx))
    have e3 : IntKind.u64.wrap x.kind = ((x.kind.toNat : Nat) : Int) := u64_toNat (by omega) (by omega)
    have hfl := flat_len (okFs_take q6 k)
    have h20 : n6 ≤ 300 := by
      have h1 := putU_len10 (n := len.toNat) (by omega)
      have h2 := putU_len10 (n := n) (by omega)
      rw [List.length_append, List.length_append] at h6
      rw [List.length_take] at hfl
      omega
    have e4 : IntKind.u64.wrap x.count = ((x.count.toNat : Nat) : Int) := u64_toNat (by omega) (by omega)
    refine hK _ _ ?_
    clear hK K
    refine cv_seq_k fun K hK => ?_
    refine cv_block ?_
    refine cv_seq_k fun K hK => ?_
    refine cv_region_then rfl ?_
    simp -implicitDefEqProofs (disch := first | omega | decide) only [seval, -Int.reducePow, -Nat.reducePow, cA, cB, pv, binv, fresh, thenQ, blockQ, retQ, Value.oneCell', Value.cells, fBox, tBox, fdV, tyV, undef, Nat.mul_one, g1_1, g1_5, g1_6, g2_1, g2_5, g2_6]
    refine ⟨_, hE.fld0 hx, fun tok htok => ?_⟩
    subst htok
    simp -implicitDefEqProofs (disch := first | omega | decide) only [seval, -Int.reducePow, -Nat.reducePow, cA, cB, pv, binv, fresh, thenQ, blockQ, retQ, Value.oneCell', Value.cells, fBox, tBox, fdV, tyV, undef, Nat.mul_one, e3, g1_1, g1_5, g1_6, g2_1, g2_5, g2_6]
    refine callV_row (fun A' n' c' => .slice A' n' c') (fun w hw => rput_any A6 n6 c6 _ x.kind.toNat w (hw.slb 0 rfl) (by omega) (by omega)) ?_
    intro A7 n7 c7 hl7 _
    simp -implicitDefEqProofs (disch := first | omega | decide) only [seval, -Int.reducePow, -Nat.reducePow, cA, cB, pv, binv, fresh, thenQ, blockQ, retQ, Value.oneCell', Value.cells, fBox, tBox, fdV, tyV, undef, Nat.mul_one, g1_1, g1_5, g1_6, g2_1, g2_5, g2_6]
    refine hK _ _ ?_
    clear hK K
    refine cv_pick [0, 2] (by decide) ?_
    simp only [pickL, nth]
    refine cv_region_q rfl ?_
    simp -implicitDefEqProofs (disch := first | omega | decide) only [seval, -Int.reducePow, -Nat.reducePow, cA, cB, pv, binv, fresh, thenQ, blockQ, retQ, Value.oneCell', Value.cells, fBox, tBox, fdV, tyV, undef, Nat.mul_one, g1_1, g1_5, g1_6, g2_1, g2_5, g2_6]
    refine ⟨_, hE.fld1 hx, fun tok htok => ?_⟩
    subst htok
    simp -implicitDefEqProofs (disch := first | omega | decide) only [seval, -Int.reducePow, -Nat.reducePow, cA, cB, pv, binv, fresh, thenQ, blockQ, retQ, Value.oneCell', Value.cells, fBox, tBox, fdV, tyV, undef, Nat.mul_one, e4, g1_1, g1_5, g1_6, g2_1, g2_5, g2_6]
    have hn7 : n7 ≤ n6 + 10 := by
      have h1 := byt_row hl7
      have h2 := putU_len10 (n := x.kind.toNat) (by omega)
      rw [List.length_append] at h1
      omega
    refine callV_row (fun A' n' c' => .slice A' n' c') (fun w hw => rput_any A7 n7 c7 _ x.count.toNat w (hw.slb 0 rfl) (by omega) (by omega)) ?_
    intro A8 n8 c8 hl8 _
    simp -implicitDefEqProofs (disch := first | omega | decide) only [seval, -Int.reducePow, -Nat.reducePow, cA, cB, pv, binv, fresh, thenQ, blockQ, retQ, Value.oneCell', Value.cells, fBox, tBox, fdV, tyV, undef, Nat.mul_one, g1_1, g1_5, g1_6, g2_1, g2_5, g2_6]
    refine hK _ _ ?_
    clear hK K
    refine cv_pick [0, 2] (by decide) ?_
    simp only [pickL, nth]
    refine cv_region_then rfl ?_
    simp -implicitDefEqProofs (disch := first | omega | decide) only [seval, -Int.reducePow, -Nat.reducePow, cA, cB, pv, binv, fresh, thenQ, blockQ, retQ, Value.oneCell', Value.cells, fBox, tBox, fdV, tyV, undef, Nat.mul_one, wrap_in, g1_1, g1_5, g1_6, g2_1, g2_5, g2_6]
    refine ⟨⟨k + 1, A8, n8, c8, ?_⟩, ?_⟩
    · simp -implicitDefEqProofs (disch := first | omega | decide) only [seval, -Int.reducePow, -Nat.reducePow, cA, cB, pv, binv, fresh, thenQ, blockQ, retQ, Value.oneCell', Value.cells, fBox, tBox, fdV, tyV, undef, Nat.mul_one, Int.natCast_add, flat_take hx, ← List.append_assoc, g1_1, g1_5, g1_6, g2_1, g2_5, g2_6]
      exact ⟨by omega, byt_row hl8⟩
    · simp only [intOf]; omega
  refine cv_exit ?_
  simp only [blockQ, thenQ, if_true, ite_true]
  clear hK K
  refine hK _ _ ?_
  clear hK K
  obtain rfl : n = k := by have := of_decide_eq_false ‹_›; omega
  rw [List.take_of_length_le (by omega)] at *
  refine cv_seq_k fun K hK => ?_
  refine cv_region_then rfl ?_
  simp -implicitDefEqProofs (disch := first | omega | decide) only [seval, -Int.reducePow, -Nat.reducePow, cA, cB, pv, binv, fresh, thenQ, blockQ, retQ, Value.oneCell', Value.cells, fBox, tBox, fdV, tyV, undef, Nat.mul_one, g1_1, g1_5, g1_6, g2_1, g2_5, g2_6]
  refine hK _ _ ?_
  clear hK K
  refine cv_ret ⟨_, (by simp -implicitDefEqProofs (disch := first | omega | decide) only [seval, -Int.reducePow, -Nat.reducePow, cA, cB, pv, binv, fresh, thenQ, blockQ, retQ, Value.oneCell', Value.cells, fBox, tBox, fdV, tyV, undef, Nat.mul_one, g1_1, g1_5, g1_6, g2_1, g2_5, g2_6]; rfl), fun w hw => ?_⟩
  exact ⟨A6, n6, c6, by rw [hz], by rw [hT]; unfold encB; rw [hln]; exact hw.rowNew (by simp), hw.below⟩
end Go.Proofs.Ytehfnjaompkikaa
