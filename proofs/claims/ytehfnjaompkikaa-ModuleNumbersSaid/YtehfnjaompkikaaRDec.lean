/- The reference's DecodeType and SameType; same. -/
import Derived.Test.YtehfnjaompkikaaDec
import Derived.Test.YtehfnjaompkikaaRLay
import Derived.Test.YtehfnjaompkikaaRUint
namespace Go.Proofs.Ytehfnjaompkikaa
open Go.RowKit Go.Shelf
set_option linter.unusedVariables false
set_option linter.unusedSimpArgs false
set_option maxRecDepth 100000
def iV (r : Nat × Nat × Int) : Value := .tuple #[.int .i64 (r.1 : Int), .int .i64 (r.2.1 : Int), .int .i64 r.2.2]
set_option maxHeartbeats 2000000 in
theorem small_any (A : Option Addr) (n c : Nat) (l : List Nat) (p most : Nat) (W : World) (hE : Sl W W.heap.size 1 A n c (byt l)) (hb : ∀ x ∈ l, x < 256) (hp : p ≤ n) (hn : n ≤ 4611686018427387904) (hm : most ≤ 1000000) :
    Calls Try.prog 82 #[.slice A n c, .int .i64 (p : Int), .int .u64 (most : Int)] W fun e w' => e = .returned (iV (smF l p most)) ∧ Below W.heap.size W w' := by
  have hln : l.length = n := byt_row hE.len
  have hcap := hE.cap
  have hmax := hE.max
  have hbd := drop_byte hb p
  obtain ⟨q, hq⟩ : ∃ q, uD 0 (l.drop p) = q := ⟨_, rfl⟩
  have hqc := uD_cases (l.drop p) 0 (by omega) hbd
  rw [hq, List.length_drop, hln] at hqc
  refine calls_cv (M := []) (n := 31) [.tmp 6, .tmp 7, .tmp 8] rfl Try.func82 rfl rfl (Nat.le_of_ble_eq_true rfl) (St.nil _ _) ?_
  refine cv_seq_k fun K hK => ?_
  refine cv_region_then rfl ?_
  simp -implicitDefEqProofs (disch := first | omega | decide) only [seval, -Int.reducePow, -Nat.reducePow, cA, cB, pv, binv, fresh, thenQ, blockQ, retQ, Value.oneCell', Value.cells, fBox, tBox, fdV, tyV, rdBox, rdCells, uV, iV, undef, Nat.mul_one, decV]
  refine hK _ _ ?_
  clear hK K
  refine cv_seq_k fun K hK => ?_
  refine cv_region_then rfl ?_
  simp -implicitDefEqProofs (disch := first | omega | decide) only [seval, -Int.reducePow, -Nat.reducePow, cA, cB, pv, binv, fresh, thenQ, blockQ, retQ, Value.oneCell', Value.cells, fBox, tBox, fdV, tyV, rdBox, rdCells, uV, iV, undef, Nat.mul_one, decV]
  refine callV_ret (fun w hw => ruint_any (sbase c p 1 A) (n - p) (c - p) (l.drop p) w ((hE.at hw).bdrop hp) hbd) ?_
  try simp -implicitDefEqProofs (disch := first | omega | decide) only [seval, -Int.reducePow, -Nat.reducePow, cA, cB, pv, binv, fresh, thenQ, blockQ, retQ, Value.oneCell', Value.cells, fBox, tBox, fdV, tyV, rdBox, rdCells, uV, iV, undef, Nat.mul_one, decV, hq]
  refine hK _ _ ?_
  clear hK K
  refine cv_seq_k fun K hK => ?_
  refine cv_seq_k fun K hK => ?_
  refine cv_region_then rfl ?_
  simp -implicitDefEqProofs (disch := first | omega | decide) only [seval, -Int.reducePow, -Nat.reducePow, cA, cB, pv, binv, fresh, thenQ, blockQ, retQ, Value.oneCell', Value.cells, fBox, tBox, fdV, tyV, rdBox, rdCells, uV, iV, undef, Nat.mul_one, decV]
  refine hK _ _ ?_
  clear hK K
  refine cv_cond ?_
  simp -implicitDefEqProofs (disch := first | omega | decide) only [seval, -Int.reducePow, -Nat.reducePow, cA, cB, pv, binv, fresh, thenQ, blockQ, retQ, Value.oneCell', Value.cells, fBox, tBox, fdV, tyV, rdBox, rdCells, uV, iV, undef, Nat.mul_one, decV]
  refine ⟨fun hc => ?_, fun hc => ?_⟩
  · have h0 : ¬ q.2.2 = 0 := by simpa using hc
    refine cv_seq_k fun K hK => ?_
    refine cv_region_then rfl ?_
    simp -implicitDefEqProofs (disch := first | omega | decide) only [seval, -Int.reducePow, -Nat.reducePow, cA, cB, pv, binv, fresh, thenQ, blockQ, retQ, Value.oneCell', Value.cells, fBox, tBox, fdV, tyV, rdBox, rdCells, uV, iV, undef, Nat.mul_one, decV]
    refine hK _ _ ?_
    clear hK K
    refine cv_ret ⟨_, (by simp -implicitDefEqProofs (disch := first | omega | decide) only [seval, -Int.reducePow, -Nat.reducePow, cA, cB, pv, binv, fresh, thenQ, blockQ, retQ, Value.oneCell', Value.cells, fBox, tBox, fdV, tyV, rdBox, rdCells, uV, iV, undef, Nat.mul_one, decV]; rfl), fun w hw => ?_⟩
    exact ⟨by unfold smF; rw [hq, if_neg h0]; rfl, hw.below⟩
  have h0 : q.2.2 = 0 := by simpa using hc
  refine cv_skip ?_
  try simp only [blockQ, thenQ]
  refine hK _ _ ?_
  clear hK K
  refine cv_seq_k fun K hK => ?_
  refine cv_seq_k fun K hK => ?_
  refine cv_region_then rfl ?_
  simp -implicitDefEqProofs (disch := first | omega | decide) only [seval, -Int.reducePow, -Nat.reducePow, cA, cB, pv, binv, fresh, thenQ, blockQ, retQ, Value.oneCell', Value.cells, fBox, tBox, fdV, tyV, rdBox, rdCells, uV, iV, undef, Nat.mul_one, decV]
  refine hK _ _ ?_
  clear hK K
  refine cv_cond ?_
  simp -implicitDefEqProofs (disch := first | omega | decide) only [seval, -Int.reducePow, -Nat.reducePow, cA, cB, pv, binv, fresh, thenQ, blockQ, retQ, Value.oneCell', Value.cells, fBox, tBox, fdV, tyV, rdBox, rdCells, uV, iV, undef, Nat.mul_one, decV]
  refine ⟨fun hc => ?_, fun hc => ?_⟩
  · have hm1 : most < q.1 := by have := of_decide_eq_true ‹_›; omega
    refine cv_seq_k fun K hK => ?_
    refine cv_region_then rfl ?_
    simp -implicitDefEqProofs (disch := first | omega | decide) only [seval, -Int.reducePow, -Nat.reducePow, cA, cB, pv, binv, fresh, thenQ, blockQ, retQ, Value.oneCell', Value.cells, fBox, tBox, fdV, tyV, rdBox, rdCells, uV, iV, undef, Nat.mul_one, decV]
    refine hK _ _ ?_
    clear hK K
    refine cv_ret ⟨_, (by simp -implicitDefEqProofs (disch := first | omega | decide) only [seval, -Int.reducePow, -Nat.reducePow, cA, cB, pv, binv, fresh, thenQ, blockQ, retQ, Value.oneCell', Value.cells, fBox, tBox, fdV, tyV, rdBox, rdCells, uV, iV, undef, Nat.mul_one, decV]; rfl), fun w hw => ?_⟩
    exact ⟨by unfold smF; rw [hq, if_pos h0, if_pos hm1]; rfl, hw.below⟩
  have hm1 : ¬ most < q.1 := by have := of_decide_eq_false ‹_›; omega
  have hql : p + q.2.1 ≤ n := by
    rcases hqc with h | h
    · omega
    · have := h.2.2.2.2.1; omega
  have e9 : IntKind.i64.wrap ((p : Int) + (q.2.1 : Int)) = ((p + q.2.1 : Nat) : Int) := by rw [wrap_in (by omega) (by omega)]; omega
  have e8 : IntKind.i64.wrap (q.1 : Int) = (q.1 : Int) := wrap_in (by omega) (by omega)
  refine cv_skip ?_
  try simp only [blockQ, thenQ]
  refine hK _ _ ?_
  clear hK K
  refine cv_seq_k fun K hK => ?_
  refine cv_region_then rfl ?_
  simp -implicitDefEqProofs (disch := first | omega | decide) only [seval, -Int.reducePow, -Nat.reducePow, cA, cB, pv, binv, fresh, thenQ, blockQ, retQ, Value.oneCell', Value.cells, fBox, tBox, fdV, tyV, rdBox, rdCells, uV, iV, undef, Nat.mul_one, decV, e9, e8]
  refine hK _ _ ?_
  clear hK K
  refine cv_ret ⟨_, (by simp -implicitDefEqProofs (disch := first | omega | decide) only [seval, -Int.reducePow, -Nat.reducePow, cA, cB, pv, binv, fresh, thenQ, blockQ, retQ, Value.oneCell', Value.cells, fBox, tBox, fdV, tyV, rdBox, rdCells, uV, iV, undef, Nat.mul_one, decV]; rfl), fun w hw => ?_⟩
  exact ⟨by unfold smF; rw [hq, if_pos h0, if_neg hm1]; rfl, hw.below⟩
set_option maxHeartbeats 4000000 in
theorem rdecode_any (A : Option Addr) (n c : Nat) (l : List Nat) (W : World) (hE : Sl W W.heap.size 1 A n c (byt l)) (hb : ∀ x ∈ l, x < 256) (hn : n ≤ 4611686018427387904) :
    Calls Try.prog 75 #[.slice A n c] W (rowP 102 2 (decV (decF l)) (cl fdc (decF l).2.1) W) := by
  have hln : l.length = n := byt_row hE.len
  obtain ⟨q1, h1⟩ : ∃ q, smF l 0 65536 = q := ⟨_, rfl⟩
  have k1 := smF_cases hb (p := 0) (most := 65536) (by omega)
  rw [h1] at k1
  refine calls_cv2 (M := []) (n := 82) [.cell 2 63, .tmp 3, .tmp 4] rfl Try.func75 rfl rfl (Nat.le_of_ble_eq_true rfl) (St.nil _ _) ?_
  refine cv_seq_k fun K hK => ?_
  refine cv_region_then rfl ?_
  simp -implicitDefEqProofs (disch := first | omega | decide) only [seval, -Int.reducePow, -Nat.reducePow, cA, cB, pv, binv, fresh, thenQ, blockQ, retQ, Value.oneCell', Value.cells, fBox, tBox, fdV, tyV, rdBox, rdCells, uV, iV, undef, Nat.mul_one, decV]
  intro b2 hb2
  refine hK _ _ ?_
  clear hK K
  refine cv_seq_k fun K hK => ?_
  refine cv_region_then rfl ?_
  simp -implicitDefEqProofs (disch := first | omega | decide) only [seval, -Int.reducePow, -Nat.reducePow, cA, cB, pv, binv, fresh, thenQ, blockQ, retQ, Value.oneCell', Value.cells, fBox, tBox, fdV, tyV, rdBox, rdCells, uV, iV, undef, Nat.mul_one, decV]
  refine callV_ret (fun w hw => small_any A n c l 0 65536 w (hE.at hw) hb (by omega) hn (by omega)) ?_
  try simp -implicitDefEqProofs (disch := first | omega | decide) only [seval, -Int.reducePow, -Nat.reducePow, cA, cB, pv, binv, fresh, thenQ, blockQ, retQ, Value.oneCell', Value.cells, fBox, tBox, fdV, tyV, rdBox, rdCells, uV, iV, undef, Nat.mul_one, decV, h1]
  refine hK _ _ ?_
  clear hK K
  refine cv_seq_k fun K hK => ?_
  refine cv_seq_k fun K hK => ?_
  refine cv_region_then rfl ?_
  simp -implicitDefEqProofs (disch := first | omega | decide) only [seval, -Int.reducePow, -Nat.reducePow, cA, cB, pv, binv, fresh, thenQ, blockQ, retQ, Value.oneCell', Value.cells, fBox, tBox, fdV, tyV, rdBox, rdCells, uV, iV, undef, Nat.mul_one, decV]
  refine hK _ _ ?_
  clear hK K
  refine cv_cond ?_
  simp -implicitDefEqProofs (disch := first | omega | decide) only [seval, -Int.reducePow, -Nat.reducePow, cA, cB, pv, binv, fresh, thenQ, blockQ, retQ, Value.oneCell', Value.cells, fBox, tBox, fdV, tyV, rdBox, rdCells, uV, iV, undef, Nat.mul_one, decV]
  refine ⟨fun hc => ?_, fun hc => ?_⟩
  · have h0 : ¬ q1.2.2 = 0 := by simpa using hc
    have hD : decF l = (0, [], 0, q1.2.2) := by unfold decF; rw [h1, if_neg h0]
    refine cv_seq_k fun K hK => ?_
    refine cv_region_then rfl ?_
    simp -implicitDefEqProofs (disch := first | omega | decide) only [seval, -Int.reducePow, -Nat.reducePow, cA, cB, pv, binv, fresh, thenQ, blockQ, retQ, Value.oneCell', Value.cells, fBox, tBox, fdV, tyV, rdBox, rdCells, uV, iV, undef, Nat.mul_one, decV]
    refine hK _ _ ?_
    clear hK K
    refine cv_ret ?_
    simp -implicitDefEqProofs (disch := first | omega | decide) only [seval, -Int.reducePow, -Nat.reducePow, cA, cB, pv, binv, fresh, thenQ, blockQ, retQ, Value.oneCell', Value.cells, fBox, tBox, fdV, tyV, rdBox, rdCells, uV, iV, undef, Nat.mul_one, decV, retQ2, ressV, packV]
    intro w hw
    rw [hD]
    exact ⟨none, 0, 0, rfl, World.ownsRow_nil _ _ _ _, hw.below⟩
  have h0 : q1.2.2 = 0 := by simpa using hc
  have k1 := k1.resolve_left fun h => h.1 h0
  obtain ⟨q2, h2⟩ : ∃ q, smF l q1.2.1 32 = q := ⟨_, rfl⟩
  obtain ⟨q3, h3⟩ : ∃ q, smF l q1.2.1 65536 = q := ⟨_, rfl⟩
  have k3 := smF_cases hb (p := q1.2.1) (most := 65536) k1.2.2.2.1
  rw [h3] at k3
  have h23 : q2 = if q3.2.2 = 0 then (if 32 < q3.1 then (0, 0, 4) else q3) else q3 := by
    rw [← h2, ← h3]
    unfold smF
    by_cases e : (uD 0 (l.drop q1.2.1)).2.2 = 0
    · simp only [if_pos e]
      by_cases e2 : 65536 < (uD 0 (l.drop q1.2.1)).1
      · rw [if_pos e2, if_pos (by omega)]
        simp
      · rw [if_neg e2]
        simp
    · simp only [if_neg e]
  refine cv_skip ?_
  try simp only [blockQ, thenQ]
  refine hK _ _ ?_
  clear hK K
  refine cv_seq_k fun K hK => ?_
  refine cv_region_then rfl ?_
  simp -implicitDefEqProofs (disch := first | omega | decide) only [seval, -Int.reducePow, -Nat.reducePow, cA, cB, pv, binv, fresh, thenQ, blockQ, retQ, Value.oneCell', Value.cells, fBox, tBox, fdV, tyV, rdBox, rdCells, uV, iV, undef, Nat.mul_one, decV]
  refine callV_ret (fun w hw => small_any A n c l q1.2.1 65536 w (hE.at hw) hb (by omega) hn (by omega)) ?_
  try simp -implicitDefEqProofs (disch := first | omega | decide) only [seval, -Int.reducePow, -Nat.reducePow, cA, cB, pv, binv, fresh, thenQ, blockQ, retQ, Value.oneCell', Value.cells, fBox, tBox, fdV, tyV, rdBox, rdCells, uV, iV, undef, Nat.mul_one, decV, h3]
  refine hK _ _ ?_
  clear hK K
  refine cv_seq_k fun K hK => ?_
  refine cv_seq_k fun K hK => ?_
  refine cv_region_then rfl ?_
  simp -implicitDefEqProofs (disch := first | omega | decide) only [seval, -Int.reducePow, -Nat.reducePow, cA, cB, pv, binv, fresh, thenQ, blockQ, retQ, Value.oneCell', Value.cells, fBox, tBox, fdV, tyV, rdBox, rdCells, uV, iV, undef, Nat.mul_one, decV]
  refine hK _ _ ?_
  clear hK K
  refine cv_cond ?_
  simp -implicitDefEqProofs (disch := first | omega | decide) only [seval, -Int.reducePow, -Nat.reducePow, cA, cB, pv, binv, fresh, thenQ, blockQ, retQ, Value.oneCell', Value.cells, fBox, tBox, fdV, tyV, rdBox, rdCells, uV, iV, undef, Nat.mul_one, decV]
  refine ⟨fun hc => ?_, fun hc => ?_⟩
  · have hz : ¬ q3.2.2 = 0 := by simpa using ‹(!decide (q3.2.2 = 0)) = true›
    rw [if_neg hz] at h23
    have hD : decF l = (0, [], 0, q3.2.2) := by unfold decF; rw [h1, h2, if_pos h0, h23, if_neg hz]
    refine cv_seq_k fun K hK => ?_
    refine cv_region_then rfl ?_
    simp -implicitDefEqProofs (disch := first | omega | decide) only [seval, -Int.reducePow, -Nat.reducePow, cA, cB, pv, binv, fresh, thenQ, blockQ, retQ, Value.oneCell', Value.cells, fBox, tBox, fdV, tyV, rdBox, rdCells, uV, iV, undef, Nat.mul_one, decV]
    refine hK _ _ ?_
    clear hK K
    refine cv_ret ?_
    simp -implicitDefEqProofs (disch := first | omega | decide) only [seval, -Int.reducePow, -Nat.reducePow, cA, cB, pv, binv, fresh, thenQ, blockQ, retQ, Value.oneCell', Value.cells, fBox, tBox, fdV, tyV, rdBox, rdCells, uV, iV, undef, Nat.mul_one, decV, retQ2, ressV, packV]
    intro w hw
    rw [hD]
    exact ⟨none, 0, 0, rfl, World.ownsRow_nil _ _ _ _, hw.below⟩
  have hz : q3.2.2 = 0 := by simpa using ‹(!decide (q3.2.2 = 0)) = false›
  rw [if_pos hz] at h23
  have k3 := k3.resolve_left fun h => h.1 hz
  refine cv_skip ?_
  try simp only [blockQ, thenQ]
  refine hK _ _ ?_
  clear hK K
  refine cv_seq_k fun K hK => ?_
  refine cv_seq_k fun K hK => ?_
  refine cv_region_then rfl ?_
  simp -implicitDefEqProofs (disch := first | omega | decide) only [seval, -Int.reducePow, -Nat.reducePow, cA, cB, pv, binv, fresh, thenQ, blockQ, retQ, Value.oneCell', Value.cells, fBox, tBox, fdV, tyV, rdBox, rdCells, uV, iV, undef, Nat.mul_one, decV]
  refine hK _ _ ?_
  clear hK K
  refine cv_cond ?_
  simp -implicitDefEqProofs (disch := first | omega | decide) only [seval, -Int.reducePow, -Nat.reducePow, cA, cB, pv, binv, fresh, thenQ, blockQ, retQ, Value.oneCell', Value.cells, fBox, tBox, fdV, tyV, rdBox, rdCells, uV, iV, undef, Nat.mul_one, decV]
  refine ⟨fun hc => ?_, fun hc => ?_⟩
  · have hm : 32 < q3.1 := by have := of_decide_eq_true ‹_›; omega
    rw [if_pos hm] at h23
    have hD : decF l = (0, [], 0, 4) := by unfold decF; rw [h1, h2, if_pos h0, h23, if_neg (by simp)]
    refine cv_seq_k fun K hK => ?_
    refine cv_region_then rfl ?_
    simp -implicitDefEqProofs (disch := first | omega | decide) only [seval, -Int.reducePow, -Nat.reducePow, cA, cB, pv, binv, fresh, thenQ, blockQ, retQ, Value.oneCell', Value.cells, fBox, tBox, fdV, tyV, rdBox, rdCells, uV, iV, undef, Nat.mul_one, decV]
    refine hK _ _ ?_
    clear hK K
    refine cv_ret ?_
    simp -implicitDefEqProofs (disch := first | omega | decide) only [seval, -Int.reducePow, -Nat.reducePow, cA, cB, pv, binv, fresh, thenQ, blockQ, retQ, Value.oneCell', Value.cells, fBox, tBox, fdV, tyV, rdBox, rdCells, uV, iV, undef, Nat.mul_one, decV, retQ2, ressV, packV]
    intro w hw
    rw [hD]
    exact ⟨none, 0, 0, rfl, World.ownsRow_nil _ _ _ _, hw.below⟩
  have hm : ¬ 32 < q3.1 := by have := of_decide_eq_false ‹_›; omega
  rw [if_neg hm] at h23
  refine cv_skip ?_
  try simp only [blockQ, thenQ]
  refine hK _ _ ?_
  clear hK K
  refine cv_seq_k fun K hK => ?_
  refine cv_region_then rfl ?_
  simp -implicitDefEqProofs (disch := first | omega | decide) only [seval, -Int.reducePow, -Nat.reducePow, cA, cB, pv, binv, fresh, thenQ, blockQ, retQ, Value.oneCell', Value.cells, fBox, tBox, fdV, tyV, rdBox, rdCells, uV, iV, undef, Nat.mul_one, decV]
  intro b9 hb9 h9
  refine hK _ _ ?_
  clear hK K
  refine cv_seq_k fun K hK => ?_
  refine cv_seq_k fun K hK => ?_
  refine cv_region_then rfl ?_
  simp -implicitDefEqProofs (disch := first | omega | decide) only [seval, -Int.reducePow, -Nat.reducePow, cA, cB, pv, binv, fresh, thenQ, blockQ, retQ, Value.oneCell', Value.cells, fBox, tBox, fdV, tyV, rdBox, rdCells, uV, iV, undef, Nat.mul_one, decV]
  refine hK _ _ ?_
  clear hK K
  refine cv_gen fun G1 hG => ?_
  have g1_0 := congrFun hG 0
  have g1_2 := congrFun hG 2
  have g1_6 := congrFun hG 6
  have g1_8 := congrFun hG 8
  have g1_9 := congrFun hG 9
  have g1_10 := congrFun hG 10
  clear hG
  try simp -implicitDefEqProofs (disch := first | omega | decide) only [seval, -Int.reducePow, -Nat.reducePow, cA, cB, pv, binv, fresh, thenQ, blockQ, retQ, Value.oneCell', Value.cells, fBox, tBox, fdV, tyV, rdBox, rdCells, uV, iV, undef, Nat.mul_one, decV] at g1_0 g1_2 g1_6 g1_8 g1_9 g1_10
  refine cv_block ?_
  refine cv_nil 102 2 ?_
  refine cv_loop (fun F' L' => ∃ (j p c6 : Nat) (A6 : Option Addr) (gs : List Fd), F' 0 = G1 0 ∧ F' 2 = G1 2 ∧ F' 6 = .int .i64 (p : Int) ∧ F' 8 = G1 8 ∧ F' 9 = G1 9 ∧ F' 10 = .int .i64 (j : Int) ∧ L' = [.row (.slice A6 j c6) 102 2 j (cl fdc gs), tBox b9 (q1.1 : Int) A6 j c6, tBox b2 0 none 0 0] ∧ dInv l q3.1 q3.2.1 j gs p) (fun F' L' => 40 - (intOf (F' 10)).toNat) ?_ ?_
  · refine ⟨0, q3.2.1, 0, none, [], ?_⟩
    simp -implicitDefEqProofs (disch := first | omega | decide) only [seval, -Int.reducePow, -Nat.reducePow, cA, cB, pv, binv, fresh, thenQ, blockQ, retQ, Value.oneCell', Value.cells, fBox, tBox, fdV, tyV, rdBox, rdCells, uV, iV, undef, Nat.mul_one, decV, hz, g1_0, g1_2, g1_6, g1_8, g1_9, g1_10]
    exact ⟨rfl, dInv_start k3.2.2.2.1⟩
  intro G2 L' hI
  obtain ⟨j, p, c6, A6, gs, q0, q2, q6, q8, q9, q10, rfl, hI⟩ := hI
  have g2_0 := q0.trans g1_0
  have g2_2 := q2.trans g1_2
  have g2_6 := q6
  have g2_8 := q8.trans g1_8
  have g2_9 := q9.trans g1_9
  have g2_10 := q10
  clear q0 q2 q6 q8 q9 q10
  have hI1 := hI.1
  have hp := hI.2.2.1
  refine cv_seq_k fun K hK => ?_
  refine cv_seq_k fun K hK => ?_
  refine cv_region_then rfl ?_
  simp -implicitDefEqProofs (disch := first | omega | decide) only [seval, -Int.reducePow, -Nat.reducePow, cA, cB, pv, binv, fresh, thenQ, blockQ, retQ, Value.oneCell', Value.cells, fBox, tBox, fdV, tyV, rdBox, rdCells, uV, iV, undef, Nat.mul_one, decV, g1_0, g1_2, g1_6, g1_8, g1_9, g1_10, g2_0, g2_2, g2_6, g2_8, g2_9, g2_10]
  refine hK _ _ ?_
  clear hK K
  refine cv_cond ?_
  simp -implicitDefEqProofs (disch := first | omega | decide) only [seval, -Int.reducePow, -Nat.reducePow, cA, cB, pv, binv, fresh, thenQ, blockQ, retQ, Value.oneCell', Value.cells, fBox, tBox, fdV, tyV, rdBox, rdCells, uV, iV, undef, Nat.mul_one, decV, g1_0, g1_2, g1_6, g1_8, g1_9, g1_10, g2_0, g2_2, g2_6, g2_8, g2_9, g2_10]
  refine ⟨fun hc => ?_, fun hc => ?_⟩
  · refine cv_skip ?_
    try simp only [blockQ, thenQ]
    have hj : j < q3.1 := by have := of_decide_eq_true ‹_›; omega
    obtain ⟨s1, e1⟩ : ∃ q, smF l p 65536 = q := ⟨_, rfl⟩
    have m1 := smF_cases hb (most := 65536) hp
    rw [e1] at m1
    refine hK _ _ ?_
    clear hK K
    refine cv_seq_k fun K hK => ?_
    refine cv_block ?_
    refine cv_seq_k fun K hK => ?_
    refine cv_region_then rfl ?_
    simp -implicitDefEqProofs (disch := first | omega | decide) only [seval, -Int.reducePow, -Nat.reducePow, cA, cB, pv, binv, fresh, thenQ, blockQ, retQ, Value.oneCell', Value.cells, fBox, tBox, fdV, tyV, rdBox, rdCells, uV, iV, undef, Nat.mul_one, decV, g1_0, g1_2, g1_6, g1_8, g1_9, g1_10, g2_0, g2_2, g2_6, g2_8, g2_9, g2_10]
    intro b11 hb11 h11
    refine hK _ _ ?_
    clear hK K
    refine cv_seq_k fun K hK => ?_
    refine cv_region_then rfl ?_
    simp -implicitDefEqProofs (disch := first | omega | decide) only [seval, -Int.reducePow, -Nat.reducePow, cA, cB, pv, binv, fresh, thenQ, blockQ, retQ, Value.oneCell', Value.cells, fBox, tBox, fdV, tyV, rdBox, rdCells, uV, iV, undef, Nat.mul_one, decV, g1_0, g1_2, g1_6, g1_8, g1_9, g1_10, g2_0, g2_2, g2_6, g2_8, g2_9, g2_10]
    refine callV_ret (fun w hw => small_any A n c l p 65536 w (hE.at hw) hb (by omega) hn (by omega)) ?_
    try simp -implicitDefEqProofs (disch := first | omega | decide) only [seval, -Int.reducePow, -Nat.reducePow, cA, cB, pv, binv, fresh, thenQ, blockQ, retQ, Value.oneCell', Value.cells, fBox, tBox, fdV, tyV, rdBox, rdCells, uV, iV, undef, Nat.mul_one, decV, e1, g1_0, g1_2, g1_6, g1_8, g1_9, g1_10, g2_0, g2_2, g2_6, g2_8, g2_9, g2_10]
    refine hK _ _ ?_
    clear hK K
    refine cv_seq_k fun K hK => ?_
    refine cv_seq_k fun K hK => ?_
    refine cv_region_then rfl ?_
    simp -implicitDefEqProofs (disch := first | omega | decide) only [seval, -Int.reducePow, -Nat.reducePow, cA, cB, pv, binv, fresh, thenQ, blockQ, retQ, Value.oneCell', Value.cells, fBox, tBox, fdV, tyV, rdBox, rdCells, uV, iV, undef, Nat.mul_one, decV, g1_0, g1_2, g1_6, g1_8, g1_9, g1_10, g2_0, g2_2, g2_6, g2_8, g2_9, g2_10]
    refine hK _ _ ?_
    clear hK K
    refine cv_cond ?_
    simp -implicitDefEqProofs (disch := first | omega | decide) only [seval, -Int.reducePow, -Nat.reducePow, cA, cB, pv, binv, fresh, thenQ, blockQ, retQ, Value.oneCell', Value.cells, fBox, tBox, fdV, tyV, rdBox, rdCells, uV, iV, undef, Nat.mul_one, decV, g1_0, g1_2, g1_6, g1_8, g1_9, g1_10, g2_0, g2_2, g2_6, g2_8, g2_9, g2_10]
    refine ⟨fun hc => ?_, fun hc => ?_⟩
    · have hz1 : ¬ s1.2.2 = 0 := by simpa using ‹(!decide (s1.2.2 = 0)) = true›
      have hr := dInv_err1 hI hj (by rw [e1]; exact hz1)
      rw [e1] at hr
      have hD : decF l = (0, [], 0, s1.2.2) := by unfold decF; rw [h1, h2, if_pos h0, h23, if_pos hz, hr, if_neg hz1]
      refine cv_seq_k fun K hK => ?_
      refine cv_region_then rfl ?_
      simp -implicitDefEqProofs (disch := first | omega | decide) only [seval, -Int.reducePow, -Nat.reducePow, cA, cB, pv, binv, fresh, thenQ, blockQ, retQ, Value.oneCell', Value.cells, fBox, tBox, fdV, tyV, rdBox, rdCells, uV, iV, undef, Nat.mul_one, decV, g1_0, g1_2, g1_6, g1_8, g1_9, g1_10, g2_0, g2_2, g2_6, g2_8, g2_9, g2_10]
      refine hK _ _ ?_
      clear hK K
      refine cv_ret ?_
      simp -implicitDefEqProofs (disch := first | omega | decide) only [seval, -Int.reducePow, -Nat.reducePow, cA, cB, pv, binv, fresh, thenQ, blockQ, retQ, Value.oneCell', Value.cells, fBox, tBox, fdV, tyV, rdBox, rdCells, uV, iV, undef, Nat.mul_one, decV, retQ2, ressV, packV, g1_0, g1_2, g1_6, g1_8, g1_9, g1_10, g2_0, g2_2, g2_6, g2_8, g2_9, g2_10]
      intro w hw
      rw [hD]
      exact ⟨none, 0, 0, rfl, World.ownsRow_nil _ _ _ _, hw.below⟩
    have hz1 : s1.2.2 = 0 := by simpa using ‹(!decide (s1.2.2 = 0)) = false›
    have m1 := m1.resolve_left fun h => h.1 hz1
    obtain ⟨s2, e2⟩ : ∃ q, smF l s1.2.1 65536 = q := ⟨_, rfl⟩
    have m2 := smF_cases hb (most := 65536) m1.2.2.2.1
    rw [e2] at m2
    refine cv_skip ?_
    try simp only [blockQ, thenQ]
    refine hK _ _ ?_
    clear hK K
    refine cv_seq_k fun K hK => ?_
    refine cv_region_then rfl ?_
    simp -implicitDefEqProofs (disch := first | omega | decide) only [seval, -Int.reducePow, -Nat.reducePow, cA, cB, pv, binv, fresh, thenQ, blockQ, retQ, Value.oneCell', Value.cells, fBox, tBox, fdV, tyV, rdBox, rdCells, uV, iV, undef, Nat.mul_one, decV, g1_0, g1_2, g1_6, g1_8, g1_9, g1_10, g2_0, g2_2, g2_6, g2_8, g2_9, g2_10]
    refine callV_ret (fun w hw => small_any A n c l s1.2.1 65536 w (hE.at hw) hb (by omega) hn (by omega)) ?_
    try simp -implicitDefEqProofs (disch := first | omega | decide) only [seval, -Int.reducePow, -Nat.reducePow, cA, cB, pv, binv, fresh, thenQ, blockQ, retQ, Value.oneCell', Value.cells, fBox, tBox, fdV, tyV, rdBox, rdCells, uV, iV, undef, Nat.mul_one, decV, e2, g1_0, g1_2, g1_6, g1_8, g1_9, g1_10, g2_0, g2_2, g2_6, g2_8, g2_9, g2_10]
    refine hK _ _ ?_
    clear hK K
    refine cv_seq_k fun K hK => ?_
    refine cv_seq_k fun K hK => ?_
    refine cv_region_then rfl ?_
    simp -implicitDefEqProofs (disch := first | omega | decide) only [seval, -Int.reducePow, -Nat.reducePow, cA, cB, pv, binv, fresh, thenQ, blockQ, retQ, Value.oneCell', Value.cells, fBox, tBox, fdV, tyV, rdBox, rdCells, uV, iV, undef, Nat.mul_one, decV, g1_0, g1_2, g1_6, g1_8, g1_9, g1_10, g2_0, g2_2, g2_6, g2_8, g2_9, g2_10]
    refine hK _ _ ?_
    clear hK K
    refine cv_cond ?_
    simp -implicitDefEqProofs (disch := first | omega | decide) only [seval, -Int.reducePow, -Nat.reducePow, cA, cB, pv, binv, fresh, thenQ, blockQ, retQ, Value.oneCell', Value.cells, fBox, tBox, fdV, tyV, rdBox, rdCells, uV, iV, undef, Nat.mul_one, decV, g1_0, g1_2, g1_6, g1_8, g1_9, g1_10, g2_0, g2_2, g2_6, g2_8, g2_9, g2_10]
    refine ⟨fun hc => ?_, fun hc => ?_⟩
    · have hz2 : ¬ s2.2.2 = 0 := by simpa using ‹(!decide (s2.2.2 = 0)) = true›
      have hr := dInv_err2 hI hj (by rw [e1]; exact hz1) (by rw [e1, e2]; exact hz2)
      rw [e1, e2] at hr
      have hD : decF l = (0, [], 0, s2.2.2) := by unfold decF; rw [h1, h2, if_pos h0, h23, if_pos hz, hr, if_neg hz2]
      refine cv_seq_k fun K hK => ?_
      refine cv_region_then rfl ?_
      simp -implicitDefEqProofs (disch := first | omega | decide) only [seval, -Int.reducePow, -Nat.reducePow, cA, cB, pv, binv, fresh, thenQ, blockQ, retQ, Value.oneCell', Value.cells, fBox, tBox, fdV, tyV, rdBox, rdCells, uV, iV, undef, Nat.mul_one, decV, g1_0, g1_2, g1_6, g1_8, g1_9, g1_10, g2_0, g2_2, g2_6, g2_8, g2_9, g2_10]
      refine hK _ _ ?_
      clear hK K
      refine cv_ret ?_
      simp -implicitDefEqProofs (disch := first | omega | decide) only [seval, -Int.reducePow, -Nat.reducePow, cA, cB, pv, binv, fresh, thenQ, blockQ, retQ, Value.oneCell', Value.cells, fBox, tBox, fdV, tyV, rdBox, rdCells, uV, iV, undef, Nat.mul_one, decV, retQ2, ressV, packV, g1_0, g1_2, g1_6, g1_8, g1_9, g1_10, g2_0, g2_2, g2_6, g2_8, g2_9, g2_10]
      intro w hw
      rw [hD]
      exact ⟨none, 0, 0, rfl, World.ownsRow_nil _ _ _ _, hw.below⟩
    have hz2 : s2.2.2 = 0 := by simpa using ‹(!decide (s2.2.2 = 0)) = false›
    have hI2 := dInv_step hb hI hj (by rw [e1]; exact hz1) (by rw [e1, e2]; exact hz2)
    rw [e1, e2] at hI2
    refine cv_skip ?_
    try simp only [blockQ, thenQ]
    refine hK _ _ ?_
    clear hK K
    refine cv_region_q rfl ?_
    simp -implicitDefEqProofs (disch := first | omega | decide) only [seval, -Int.reducePow, -Nat.reducePow, cA, cB, pv, binv, fresh, thenQ, blockQ, retQ, Value.oneCell', Value.cells, fBox, tBox, fdV, tyV, rdBox, rdCells, uV, iV, undef, Nat.mul_one, decV, g1_0, g1_2, g1_6, g1_8, g1_9, g1_10, g2_0, g2_2, g2_6, g2_8, g2_9, g2_10]
    intro b8 hb8 h8
    refine appV_at 2 tap61 rfl (fun w hw => src_blk (size := 2) (.head _) rfl hw) rfl (by omega) (by omega) ?_
    intro A' c' hl' hr'
    simp -implicitDefEqProofs (disch := first | omega | decide) only [seval, -Int.reducePow, -Nat.reducePow, cA, cB, pv, binv, fresh, thenQ, blockQ, retQ, Value.oneCell', Value.cells, fBox, tBox, fdV, tyV, rdBox, rdCells, uV, iV, undef, Nat.mul_one, decV, g1_0, g1_2, g1_6, g1_8, g1_9, g1_10, g2_0, g2_2, g2_6, g2_8, g2_9, g2_10]
    refine hK _ _ ?_
    clear hK K
    refine cv_pick [0, 3, 4] (by decide) ?_
    simp only [pickL, nth]
    refine cv_region_then rfl ?_
    simp -implicitDefEqProofs (disch := first | omega | decide) only [seval, -Int.reducePow, -Nat.reducePow, cA, cB, pv, binv, fresh, thenQ, blockQ, retQ, Value.oneCell', Value.cells, fBox, tBox, fdV, tyV, rdBox, rdCells, uV, iV, undef, Nat.mul_one, decV, wrap_in, g1_0, g1_2, g1_6, g1_8, g1_9, g1_10, g2_0, g2_2, g2_6, g2_8, g2_9, g2_10]
    refine ⟨⟨j + 1, s2.2.1, c', A', gs ++ [⟨(s1.1 : Int), (s2.1 : Int)⟩], ?_⟩, ?_⟩
    · simp -implicitDefEqProofs (disch := first | omega | decide) only [seval, -Int.reducePow, -Nat.reducePow, cA, cB, pv, binv, fresh, thenQ, blockQ, retQ, Value.oneCell', Value.cells, fBox, tBox, fdV, tyV, rdBox, rdCells, uV, iV, undef, Nat.mul_one, decV, Int.natCast_add, cl_snoc, fdc, hz2, g1_0, g1_2, g1_6, g1_8, g1_9, g1_10, g2_0, g2_2, g2_6, g2_8, g2_9, g2_10]
      exact hI2
    · simp only [intOf]; omega
  refine cv_exit ?_
  simp only [blockQ, thenQ, if_true, ite_true]
  clear hK K
  refine hK _ _ ?_
  clear hK K
  have hj : j = q3.1 := by have := of_decide_eq_false ‹_›; omega
  subst hj
  have hr := inv_end hI.2.2.2
  have hD : decF l = if chk (q1.1 : Int) gs = 0 then ((q1.1 : Int), gs, p, 0) else (0, [], 0, chk (q1.1 : Int) gs) := by
    unfold decF
    rw [h1, h2, if_pos h0, h23, if_pos hz, hr, if_pos rfl]
  refine cv_gen fun G3 hG => ?_
  have g3_2 := congrFun hG 2
  have g3_6 := congrFun hG 6
  have g3_9 := congrFun hG 9
  clear hG
  try simp -implicitDefEqProofs (disch := first | omega | decide) only [seval, -Int.reducePow, -Nat.reducePow, cA, cB, pv, binv, fresh, thenQ, blockQ, retQ, Value.oneCell', Value.cells, fBox, tBox, fdV, tyV, rdBox, rdCells, uV, iV, undef, Nat.mul_one, decV, g1_0, g1_2, g1_6, g1_8, g1_9, g1_10, g2_0, g2_2, g2_6, g2_8, g2_9, g2_10] at g3_2 g3_6 g3_9
  refine cv_seq_k fun K hK => ?_
  refine cv_seq_k fun K hK => ?_
  refine cv_region_then rfl ?_
  simp -implicitDefEqProofs (disch := first | omega | decide) only [seval, -Int.reducePow, -Nat.reducePow, cA, cB, pv, binv, fresh, thenQ, blockQ, retQ, Value.oneCell', Value.cells, fBox, tBox, fdV, tyV, rdBox, rdCells, uV, iV, undef, Nat.mul_one, decV, g1_0, g1_2, g1_6, g1_8, g1_9, g1_10, g2_0, g2_2, g2_6, g2_8, g2_9, g2_10, g3_2, g3_6, g3_9]
  refine callV_ret (fun w hw => rcheck_any A6 q3.1 c6 gs (q1.1 : Int) w (hw.slr 0 rfl)) ?_
  try simp -implicitDefEqProofs (disch := first | omega | decide) only [seval, -Int.reducePow, -Nat.reducePow, cA, cB, pv, binv, fresh, thenQ, blockQ, retQ, Value.oneCell', Value.cells, fBox, tBox, fdV, tyV, rdBox, rdCells, uV, iV, undef, Nat.mul_one, decV, g1_0, g1_2, g1_6, g1_8, g1_9, g1_10, g2_0, g2_2, g2_6, g2_8, g2_9, g2_10, g3_2, g3_6, g3_9]
  refine hK _ _ ?_
  clear hK K
  refine cv_seq_k fun K hK => ?_
  refine cv_region_then rfl ?_
  simp -implicitDefEqProofs (disch := first | omega | decide) only [seval, -Int.reducePow, -Nat.reducePow, cA, cB, pv, binv, fresh, thenQ, blockQ, retQ, Value.oneCell', Value.cells, fBox, tBox, fdV, tyV, rdBox, rdCells, uV, iV, undef, Nat.mul_one, decV, g1_0, g1_2, g1_6, g1_8, g1_9, g1_10, g2_0, g2_2, g2_6, g2_8, g2_9, g2_10, g3_2, g3_6, g3_9]
  refine hK _ _ ?_
  clear hK K
  refine cv_cond ?_
  simp -implicitDefEqProofs (disch := first | omega | decide) only [seval, -Int.reducePow, -Nat.reducePow, cA, cB, pv, binv, fresh, thenQ, blockQ, retQ, Value.oneCell', Value.cells, fBox, tBox, fdV, tyV, rdBox, rdCells, uV, iV, undef, Nat.mul_one, decV, g1_0, g1_2, g1_6, g1_8, g1_9, g1_10, g2_0, g2_2, g2_6, g2_8, g2_9, g2_10, g3_2, g3_6, g3_9]
  refine ⟨fun hc => ?_, fun hc => ?_⟩
  · have hz : ¬ chk (q1.1 : Int) gs = 0 := by simpa using ‹(!decide (chk (q1.1 : Int) gs = 0)) = true›
    rw [if_neg hz] at hD
    refine cv_seq_k fun K hK => ?_
    refine cv_region_then rfl ?_
    simp -implicitDefEqProofs (disch := first | omega | decide) only [seval, -Int.reducePow, -Nat.reducePow, cA, cB, pv, binv, fresh, thenQ, blockQ, retQ, Value.oneCell', Value.cells, fBox, tBox, fdV, tyV, rdBox, rdCells, uV, iV, undef, Nat.mul_one, decV, g1_0, g1_2, g1_6, g1_8, g1_9, g1_10, g2_0, g2_2, g2_6, g2_8, g2_9, g2_10, g3_2, g3_6, g3_9]
    refine hK _ _ ?_
    clear hK K
    refine cv_ret ?_
    simp -implicitDefEqProofs (disch := first | omega | decide) only [seval, -Int.reducePow, -Nat.reducePow, cA, cB, pv, binv, fresh, thenQ, blockQ, retQ, Value.oneCell', Value.cells, fBox, tBox, fdV, tyV, rdBox, rdCells, uV, iV, undef, Nat.mul_one, decV, retQ2, ressV, packV, g1_0, g1_2, g1_6, g1_8, g1_9, g1_10, g2_0, g2_2, g2_6, g2_8, g2_9, g2_10, g3_2, g3_6, g3_9]
    intro w hw
    rw [hD]
    exact ⟨none, 0, 0, rfl, World.ownsRow_nil _ _ _ _, hw.below⟩
  have hz : chk (q1.1 : Int) gs = 0 := by simpa using ‹(!decide (chk (q1.1 : Int) gs = 0)) = false›
  rw [if_pos hz] at hD
  refine cv_skip ?_
  try simp only [blockQ, thenQ]
  refine hK _ _ ?_
  clear hK K
  refine cv_seq_k fun K hK => ?_
  refine cv_region_then rfl ?_
  simp -implicitDefEqProofs (disch := first | omega | decide) only [seval, -Int.reducePow, -Nat.reducePow, cA, cB, pv, binv, fresh, thenQ, blockQ, retQ, Value.oneCell', Value.cells, fBox, tBox, fdV, tyV, rdBox, rdCells, uV, iV, undef, Nat.mul_one, decV, g1_0, g1_2, g1_6, g1_8, g1_9, g1_10, g2_0, g2_2, g2_6, g2_8, g2_9, g2_10, g3_2, g3_6, g3_9]
  refine hK _ _ ?_
  clear hK K
  refine cv_ret ?_
  simp -implicitDefEqProofs (disch := first | omega | decide) only [seval, -Int.reducePow, -Nat.reducePow, cA, cB, pv, binv, fresh, thenQ, blockQ, retQ, Value.oneCell', Value.cells, fBox, tBox, fdV, tyV, rdBox, rdCells, uV, iV, undef, Nat.mul_one, decV, retQ2, ressV, packV, g1_0, g1_2, g1_6, g1_8, g1_9, g1_10, g2_0, g2_2, g2_6, g2_8, g2_9, g2_10, g3_2, g3_6, g3_9]
  intro w hw
  rw [hD]
  exact ⟨A6, q3.1, c6, rfl, hw.rowNew (by simp), hw.below⟩
end Go.Proofs.Ytehfnjaompkikaa
