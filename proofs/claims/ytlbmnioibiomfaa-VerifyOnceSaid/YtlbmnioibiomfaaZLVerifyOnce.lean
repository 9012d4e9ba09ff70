/- The reference's numbers. -/
import Derived.Test.YtlbmnioibiomfaaZ4
import Derived.Test.YtlbmnioibiomfaaZ5
import Derived.Test.YtlbmnioibiomfaaZ2
import Derived.Test.YtlbmnioibiomfaaZ7
namespace Go.Proofs.Ytlbmnioibiomfaa
open Go.RowKit Go.Shelf
set_option linter.unusedVariables false
set_option linter.unusedSimpArgs false
set_option maxRecDepth 100000
set_option maxHeartbeats 2000000 in
theorem rput_any (A : Option Addr) (n c : Nat) (l : List Nat) (x : Nat) (W : World) (hE : Sl W W.heap.size 1 A n c (byt l)) (hn : n ≤ 10000000) (hx : x < 18446744073709551616) :
    Calls Try.prog 26 #[.slice A n c, .int .u64 x] W (rowP 5 1 (fun v => v) (byt (l ++ putU x)) W) := by
  have hln : l.length = n := byt_row hE.len
  have hp := putU_len10 hx
  refine calls_cv (M := []) (n := 25) [.tmp 4] rfl Try.func26 rfl rfl (Nat.le_of_ble_eq_true rfl) (St.nil _ _) ?_
  refine cv_seq_k fun K hK => ?_
  refine cv_region_then rfl ?_
  simp -implicitDefEqProofs (disch := first | omega | decide) only [seval, -Int.reducePow, -Nat.reducePow, cC, pv, binv, Nat.mul_one, undef]
  refine hK _ _ ?_
  clear hK K
  refine cv_seq_k fun K hK => ?_
  refine cv_region_then rfl ?_
  simp -implicitDefEqProofs (disch := first | omega | decide) only [seval, -Int.reducePow, -Nat.reducePow, cC, pv, binv, Nat.mul_one, undef]
  intro b hb
  refine appV_lit 0 tap24 rfl rfl (fun w hw => (hE.at hw).reads) (ones_byt _) (by omega) (by omega) ?_
  intro A1 c1 hl1 _
  simp -implicitDefEqProofs (disch := first | omega | decide) only [seval, -Int.reducePow, -Nat.reducePow, cC, pv, binv, Nat.mul_one, undef]
  refine hK _ _ ?_
  clear hK K
  refine cv_gen fun G1 hG => ?_
  have g1_1 := congrFun hG 1
  have g1_5 := congrFun hG 5
  clear hG
  try simp -implicitDefEqProofs (disch := first | omega | decide) only [seval, -Int.reducePow, -Nat.reducePow, cC, pv, binv, Nat.mul_one, undef] at g1_1 g1_5
  have g1 := And.intro g1_1 g1_5
  refine cv_seq_k fun K hK => ?_
  refine cv_block ?_
  refine cv_loop (fun F' L' => ∃ (y : Nat) (m : List Nat) (A6 : Option Addr) (n6 c6 : Nat), F' 1 = .int .u64 (y : Int) ∧ F' 5 = .slice A6 n6 c6 ∧ L' = [.row (.slice A6 n6 c6) 5 1 n6 (byt m)] ∧ y ≤ x ∧ m ++ putU y = l ++ putU x ∧ n6 + (putU y).length ≤ 10000010) (fun F' L' => (intOf (F' 1)).toNat) ?_ ?_
  · refine ⟨x, l, A1, n, c1, ?_⟩
    simp -implicitDefEqProofs (disch := first | omega | decide) only [seval, -Int.reducePow, -Nat.reducePow, cC, pv, binv, Nat.mul_one, undef, g1]
    omega
  · intro G2 L' hI
    obtain ⟨y, m, A6, n6, c6, q1, q5, rfl, ⟨hy, hm, h6⟩⟩ := hI
    have g2_1 := q1
    have g2_5 := q5
    clear q1 q5
    have g2 := And.intro g2_1 g2_5
    refine cv_seq_k fun K hK => ?_
    refine cv_seq_k fun K hK => ?_
    refine cv_region_then rfl ?_
    simp -implicitDefEqProofs (disch := first | omega | decide) only [seval, -Int.reducePow, -Nat.reducePow, cC, pv, binv, Nat.mul_one, undef, g1, g2]
    refine hK _ _ ?_
    clear hK K
    refine cv_cond ?_
    simp -implicitDefEqProofs (disch := first | omega | decide) only [seval, -Int.reducePow, -Nat.reducePow, cC, pv, binv, Nat.mul_one, undef, g1, g2]
    refine ⟨fun hc => ?_, fun hc => ?_⟩
    · refine cv_skip ?_
      try simp only [blockQ, thenQ]
      have hy1 : ¬ y < 128 := by simp at hc; omega
      rw [putU_big hy1] at hm h6
      simp only [List.length_cons] at h6
      have e1 : IntKind.u64.wrap ((y : Int) % 128 + 128) = ((y % 128 + 128 : Nat) : Int) := by rw [IntKind.wrap_u64]; omega
      have e2 : IntKind.u8.wrap ((y % 128 + 128 : Nat) : Int) = ((y % 128 + 128 : Nat) : Int) := by rw [IntKind.wrap_u8]; omega
      have e3 : IntKind.u64.wrap ((y : Int) / 128) = ((y / 128 : Nat) : Int) := by rw [IntKind.wrap_u64]; omega
      refine hK _ _ ?_
      clear hK K
      refine cv_block ?_
      refine cv_seq_k fun K hK => ?_
      refine cv_region_then rfl ?_
      simp -implicitDefEqProofs (disch := first | omega | decide) only [seval, -Int.reducePow, -Nat.reducePow, cC, pv, binv, Nat.mul_one, undef, e1, e2, g1, g2]
      intro b hb
      refine appV_at 1 tap24 rfl (fun w hw => src_blk (size := 1) (.head _) rfl hw) rfl (by omega) (by omega) ?_
      intro A' c' hl _
      simp -implicitDefEqProofs (disch := first | omega | decide) only [seval, -Int.reducePow, -Nat.reducePow, cC, pv, binv, Nat.mul_one, undef, g1, g2]
      refine hK _ _ ?_
      clear hK K
      refine cv_pick [0] (by decide) ?_
      simp only [pickL, nth]
      refine cv_region_q rfl ?_
      simp -implicitDefEqProofs (disch := first | omega | decide) only [seval, -Int.reducePow, -Nat.reducePow, cC, pv, binv, Nat.mul_one, undef, e3, g1, g2]
      refine ⟨⟨y / 128, m ++ [y % 128 + 128], A', n6 + 1, c', ?_⟩, ?_⟩
      · simp -implicitDefEqProofs (disch := first | omega | decide) only [seval, -Int.reducePow, -Nat.reducePow, cC, pv, binv, Nat.mul_one, undef, byt_snoc, g1, g2]
        exact ⟨by omega, by rw [← hm]; simp, by omega⟩
      · simp -implicitDefEqProofs (disch := first | omega | decide) only [seval, -Int.reducePow, -Nat.reducePow, cC, pv, binv, Nat.mul_one, undef, intOf, g1, g2]
        omega
    · refine cv_exit ?_
      simp only [blockQ, thenQ, if_true, ite_true]
      clear hK K
      refine hK _ _ ?_
      clear hK K
      have hy1 : y < 128 := by simp at hc; omega
      rw [putU_small hy1] at hm h6
      refine cv_seq_k fun K hK => ?_
      refine cv_region_then rfl ?_
      simp -implicitDefEqProofs (disch := first | omega | decide) only [seval, -Int.reducePow, -Nat.reducePow, cC, pv, binv, Nat.mul_one, undef, u8_of hy1, g1, g2]
      intro b hb
      refine appV_at 1 tap24 rfl (fun w hw => src_blk (size := 1) (.head _) rfl hw) rfl (by (simp at h6; omega)) (by (simp at h6; omega)) ?_
      intro A' c' hl _
      simp -implicitDefEqProofs (disch := first | omega | decide) only [seval, -Int.reducePow, -Nat.reducePow, cC, pv, binv, Nat.mul_one, undef, g1, g2]
      refine hK _ _ ?_
      clear hK K
      refine cv_ret ⟨_, (by simp -implicitDefEqProofs (disch := first | omega | decide) only [seval, -Int.reducePow, -Nat.reducePow, cC, pv, binv, Nat.mul_one, undef, g1, g2]; rfl), fun w hw => ?_⟩
      exact ⟨A', _, c', rfl, by rw [← hm, byt_snoc]; exact ownsRow_new (hw.holds _ (.head _)) (hw.own _ (.head _)), hw.below⟩

theorem val_step {l : List Nat} {j x : Nat} (h : l[j]? = some x) : val (l.drop j) = x % 128 + 128 * val (l.drop (j + 1)) := by rw [drop_at h]; rfl
end Go.Proofs.Ytlbmnioibiomfaa
/- The reference's DecodeType and SameType; same. -/
namespace Go.Proofs.Ytlbmnioibiomfaa
open Go.RowKit Go.Shelf
set_option linter.unusedVariables false
set_option linter.unusedSimpArgs false
set_option maxRecDepth 100000
def iV (r : Nat × Nat × Int) : Value := .tuple #[.int .i64 (r.1 : Int), .int .i64 (r.2.1 : Int), .int .i64 r.2.2]
set_option maxRecDepth 100000 in
theorem sRDec1 : type_of% (And.intro (And.intro (And.intro @fBox.eq_1 @tBox.eq_1) (And.intro @fdV.eq_1 (And.intro @tyV.eq_1 @rdBox.eq_1))) (And.intro (And.intro @rdCells.eq_1 @uV.eq_1) (And.intro @iV.eq_1 (And.intro @Nat.mul_one @decV.eq_1)))) := (And.intro (And.intro (And.intro @fBox.eq_1 @tBox.eq_1) (And.intro @fdV.eq_1 (And.intro @tyV.eq_1 @rdBox.eq_1))) (And.intro (And.intro @rdCells.eq_1 @uV.eq_1) (And.intro @iV.eq_1 (And.intro @Nat.mul_one @decV.eq_1))))
end Go.Proofs.Ytlbmnioibiomfaa
/- The reference's reader. -/
namespace Go.Proofs.Ytlbmnioibiomfaa
open Go.RowKit Go.Shelf
set_option linter.unusedVariables false
set_option linter.unusedSimpArgs false
set_option maxRecDepth 100000
set_option maxRecDepth 100000 in
theorem sMEye1 : type_of% (And.intro @Nat.mul_one (And.intro @mrC.eq_1 @uV.eq_1)) := (And.intro @Nat.mul_one (And.intro @mrC.eq_1 @uV.eq_1))
theorem decF_le {l : List Nat} (hb : ∀ x ∈ l, x < 256) : (decF l).2.2.1 ≤ l.length := by
  by_cases h : (decF l).2.2.2 = 0
  · exact (decF_only hb h).2.2
  · rw [decF_err h]; omega
set_option maxRecDepth 100000 in
theorem sMEye2 : type_of% (And.intro (And.intro @Nat.mul_one (And.intro @mrC.eq_1 @decV.eq_1)) (And.intro @tBox.eq_1 (And.intro @diV.eq_1 @iBox.eq_1))) := (And.intro (And.intro @Nat.mul_one (And.intro @mrC.eq_1 @decV.eq_1)) (And.intro @tBox.eq_1 (And.intro @diV.eq_1 @iBox.eq_1)))
end Go.Proofs.Ytlbmnioibiomfaa
/- pluginhostref19.DecodeModule. -/
namespace Go.Proofs.Ytlbmnioibiomfaa
open Go.RowKit Go.Shelf
set_option linter.unusedVariables false
set_option linter.unusedSimpArgs false
set_option maxRecDepth 100000
theorem magic_str : bstr magicB = ⟨#[80, 72, 77, 49]⟩ := by rw [bstr_eq]; rfl
set_option maxRecDepth 100000 in
theorem sMRDec1 : type_of% (And.intro (And.intro @Nat.mul_one (And.intro @mrC.eq_1 @mBox.eq_1)) (And.intro @modV.eq_1 (And.intro @cS @fltV.eq_1))) := (And.intro (And.intro @Nat.mul_one (And.intro @mrC.eq_1 @mBox.eq_1)) (And.intro @modV.eq_1 (And.intro @cS @fltV.eq_1)))
end Go.Proofs.Ytlbmnioibiomfaa
/- The reference's EncodeType. -/
namespace Go.Proofs.Ytlbmnioibiomfaa
open Go.RowKit Go.Shelf
set_option linter.unusedVariables false
set_option linter.unusedSimpArgs false
set_option maxRecDepth 100000
set_option maxRecDepth 100000 in
theorem sRTEnc1 : type_of% (And.intro (And.intro @fBox.eq_1 @tBox.eq_1) (And.intro @fdV.eq_1 (And.intro @tyV.eq_1 @Nat.mul_one))) := (And.intro (And.intro @fBox.eq_1 @tBox.eq_1) (And.intro @fdV.eq_1 (And.intro @tyV.eq_1 @Nat.mul_one)))
set_option maxHeartbeats 2000000 in
theorem renc_any (A : Option Addr) (n c : Nat) (fs : List Fd) (len : Int) (W : World) (hE : Sl W W.heap.size 2 A n c (cl fdc fs)) :
    Calls Try.prog 27 #[tyV len A n c] W (rowP 5 1 (fun v => .tuple #[v, .int .i64 (chk len fs)]) (byt (encT len fs)) W) := by
  have hln : fs.length = n := cl_row fdc_len (by omega) hE.len
  refine calls_cv (M := []) (n := 48) [.tmp 2, .tmp 3] rfl Try.func27 rfl rfl (Nat.le_of_ble_eq_true rfl) (St.nil _ _) ?_
  refine cv_seq_k fun K hK => ?_
  refine cv_region_then rfl ?_
  simp -implicitDefEqProofs (disch := first | omega | decide) only [seval, -Int.reducePow, -Nat.reducePow, cC, pv, binv, sRTEnc1, undef]
  intro b hb
  refine hK _ _ ?_
  clear hK K
  refine cv_seq_k fun K hK => ?_
  refine cv_seq_k fun K hK => ?_
  refine cv_region_then rfl ?_
  simp -implicitDefEqProofs (disch := first | omega | decide) only [seval, -Int.reducePow, -Nat.reducePow, cC, pv, binv, sRTEnc1, undef]
  refine callV_ret (fun w hw => rcheck_any A n c fs len w (hE.at hw)) ?_
  try simp -implicitDefEqProofs (disch := first | omega | decide) only [seval, -Int.reducePow, -Nat.reducePow, cC, pv, binv, sRTEnc1, undef]
  refine hK _ _ ?_
  clear hK K
  refine cv_seq_k fun K hK => ?_
  refine cv_region_then rfl ?_
  simp -implicitDefEqProofs (disch := first | omega | decide) only [seval, -Int.reducePow, -Nat.reducePow, cC, pv, binv, sRTEnc1, undef]
  refine hK _ _ ?_
  clear hK K
  refine cv_cond ?_
  simp -implicitDefEqProofs (disch := first | omega | decide) only [seval, -Int.reducePow, -Nat.reducePow, cC, pv, binv, sRTEnc1, undef]
  refine ⟨fun hc => ?_, fun hc => ?_⟩
  · have hz : ¬ chk len fs = 0 := by simpa using hc
    refine cv_seq_k fun K hK => ?_
    refine cv_region_then rfl ?_
    simp -implicitDefEqProofs (disch := first | omega | decide) only [seval, -Int.reducePow, -Nat.reducePow, cC, pv, binv, sRTEnc1, undef]
    refine hK _ _ ?_
    clear hK K
    refine cv_ret ⟨_, (by simp -implicitDefEqProofs (disch := first | omega | decide) only [seval, -Int.reducePow, -Nat.reducePow, cC, pv, binv, sRTEnc1, undef]; rfl), fun w hw => ?_⟩
    have hT : encT len fs = [] := by unfold encT; rw [if_neg hz]
    exact ⟨none, 0, 0, rfl, by rw [hT]; exact World.ownsRow_nil _ _ _ _, hw.below⟩
  have hz : chk len fs = 0 := by simpa using hc
  have hT : encT len fs = encB len fs := by unfold encT; rw [if_pos hz]
  obtain ⟨q1, q2, q3, q4, q5, q6, q7⟩ := chk_zero hz
  have e1 : IntKind.u64.wrap len = ((len.toNat : Nat) : Int) := u64_toNat (by omega) (by omega)
  have e2 : IntKind.u64.wrap (n : Int) = (n : Int) := u64_in (by omega)
  refine cv_skip ?_
  try simp only [blockQ, thenQ]
  refine hK _ _ ?_
  clear hK K
  refine cv_seq_k fun K hK => ?_
  refine cv_region_then rfl ?_
  simp -implicitDefEqProofs (disch := first | omega | decide) only [seval, -Int.reducePow, -Nat.reducePow, cC, pv, binv, sRTEnc1, undef, e1]
  refine callV_row (fun A' n' c' => .slice A' n' c') (fun w hw => rput_any none 0 0 [] len.toNat w (Sl.nil 1) (by omega) (by omega)) ?_
  intro A1 n1 c1 hl1 _
  simp -implicitDefEqProofs (disch := first | omega | decide) only [seval, -Int.reducePow, -Nat.reducePow, cC, pv, binv, sRTEnc1, undef]
  refine hK _ _ ?_
  clear hK K
  have hn1 : n1 ≤ 10 := by have := byt_row hl1; have := putU_len10 (n := len.toNat) (by omega); simp at *; omega
  refine cv_seq_k fun K hK => ?_
  refine cv_region_then rfl ?_
  simp -implicitDefEqProofs (disch := first | omega | decide) only [seval, -Int.reducePow, -Nat.reducePow, cC, pv, binv, sRTEnc1, undef, e2]
  refine callV_row (fun A' n' c' => .slice A' n' c') (fun w hw => rput_any A1 n1 c1 _ n w (hw.slb 0 rfl) (by omega) (by omega)) ?_
  intro A2 n2 c2 hl2 _
  simp -implicitDefEqProofs (disch := first | omega | decide) only [seval, -Int.reducePow, -Nat.reducePow, cC, pv, binv, sRTEnc1, undef]
  refine hK _ _ ?_
  clear hK K
  refine cv_pick [0, 2] (by decide) ?_
  simp only [pickL, nth]
  refine cv_seq_k fun K hK => ?_
  refine cv_seq_k fun K hK => ?_
  refine cv_region_then rfl ?_
  simp -implicitDefEqProofs (disch := first | omega | decide) only [seval, -Int.reducePow, -Nat.reducePow, cC, pv, binv, sRTEnc1, undef]
  refine hK _ _ ?_
  clear hK K
  refine cv_gen fun G1 hG => ?_
  have g1_1 := congrFun hG 1
  have g1_5 := congrFun hG 5
  have g1_6 := congrFun hG 6
  clear hG
  try simp -implicitDefEqProofs (disch := first | omega | decide) only [seval, -Int.reducePow, -Nat.reducePow, cC, pv, binv, sRTEnc1, undef] at g1_1 g1_5 g1_6
  have g1 := And.intro g1_1 (And.intro g1_5 g1_6)
  refine cv_block ?_
  refine cv_loop (fun F' L' => ∃ (k : Nat) (A6 : Option Addr) (n6 c6 : Nat), F' 1 = G1 1 ∧ F' 5 = .slice A6 n6 c6 ∧ F' 6 = .int .i64 (k : Int) ∧ L' = [.row (.slice A6 n6 c6) 5 1 n6 (byt (putU len.toNat ++ putU n ++ (fs.take k).flatMap encFd)), tBox b len A n c] ∧ k ≤ n ∧ (putU len.toNat ++ putU n ++ (fs.take k).flatMap encFd).length = n6) (fun F' L' => 40 - (intOf (F' 6)).toNat) ?_ ?_
  · refine ⟨0, A2, n2, c2, ?_⟩
    simp -implicitDefEqProofs (disch := first | omega | decide) only [seval, -Int.reducePow, -Nat.reducePow, cC, pv, binv, sRTEnc1, undef, List.flatMap_nil, g1]
    exact ⟨by omega, byt_row hl2⟩
  intro G2 L' hI
  obtain ⟨k, A6, n6, c6, q1, q5, q6, rfl, ⟨hk, h6⟩⟩ := hI
  have g2_1 := q1.trans g1_1
  have g2_5 := q5
  have g2_6 := q6
  clear q1 q5 q6
  have g2 := And.intro g2_1 (And.intro g2_5 g2_6)
  refine cv_seq_k fun K hK => ?_
  refine cv_seq_k fun K hK => ?_
  refine cv_region_then rfl ?_
  simp -implicitDefEqProofs (disch := first | omega | decide) only [seval, -Int.reducePow, -Nat.reducePow, cC, pv, binv, sRTEnc1, undef, g1, g2]
  refine hK _ _ ?_
  clear hK K
  refine cv_cond ?_
  simp -implicitDefEqProofs (disch := first | omega | decide) only [seval, -Int.reducePow, -Nat.reducePow, cC, pv, binv, sRTEnc1, undef, g1, g2]
  refine ⟨fun hc => ?_, fun hc => ?_⟩
  · refine cv_skip ?_
    try simp only [blockQ, thenQ]
    have hlt : k < n := by have := of_decide_eq_true ‹_›; omega
    obtain ⟨b0, off, rfl, hb0, -⟩ := hE.cells (by omega)
    obtain ⟨x, hx⟩ := some_of (l := fs) (i := k) (by omega)
    have hx0 := Fd.err_zero (q6 x (List.mem_of_getElem? hx))
    have e3 : IntKind.u64.wrap x.kind = ((x.kind.toNat : Nat) : Int) := u64_toNat (by omega) (by omega)
    have hfl := flat_len (okFs_take q6 k)
    have h20 : n6 ≤ 300 := by
      have h1 := putU_len10 (n := len.toNat) (by omega)
      have h2 := putU_len10 (n := n) (by omega)
      rw [List.length_append, List.length_append] at h6
      rw [List.length_take] at hfl
      omega
    have e4 : IntKind.u64.wrap x.count = ((x.count.toNat : Nat) : Int) := u64_toNat (by omega) (by omega)
    refine hK _ _ ?_
    clear hK K
    refine cv_seq_k fun K hK => ?_
    refine cv_block ?_
    refine cv_seq_k fun K hK => ?_
    refine cv_region_then rfl ?_
    simp -implicitDefEqProofs (disch := first | omega | decide) only [seval, -Int.reducePow, -Nat.reducePow, cC, pv, binv, sRTEnc1, undef, g1, g2]
    refine ⟨_, hE.fld0 hx, fun tok htok => ?_⟩
    subst htok
    simp -implicitDefEqProofs (disch := first | omega | decide) only [seval, -Int.reducePow, -Nat.reducePow, cC, pv, binv, sRTEnc1, undef, e3, g1, g2]
    refine callV_row (fun A' n' c' => .slice A' n' c') (fun w hw => rput_any A6 n6 c6 _ x.kind.toNat w (hw.slb 0 rfl) (by omega) (by omega)) ?_
    intro A7 n7 c7 hl7 _
    simp -implicitDefEqProofs (disch := first | omega | decide) only [seval, -Int.reducePow, -Nat.reducePow, cC, pv, binv, sRTEnc1, undef, g1, g2]
    refine hK _ _ ?_
    clear hK K
    refine cv_pick [0, 2] (by decide) ?_
    simp only [pickL, nth]
    refine cv_region_q rfl ?_
    simp -implicitDefEqProofs (disch := first | omega | decide) only [seval, -Int.reducePow, -Nat.reducePow, cC, pv, binv, sRTEnc1, undef, g1, g2]
    refine ⟨_, hE.fld1 hx, fun tok htok => ?_⟩
    subst htok
    simp -implicitDefEqProofs (disch := first | omega | decide) only [seval, -Int.reducePow, -Nat.reducePow, cC, pv, binv, sRTEnc1, undef, e4, g1, g2]
    have hn7 : n7 ≤ n6 + 10 := by
      have h1 := byt_row hl7
      have h2 := putU_len10 (n := x.kind.toNat) (by omega)
      rw [List.length_append] at h1
      omega
    refine callV_row (fun A' n' c' => .slice A' n' c') (fun w hw => rput_any A7 n7 c7 _ x.count.toNat w (hw.slb 0 rfl) (by omega) (by omega)) ?_
    intro A8 n8 c8 hl8 _
    simp -implicitDefEqProofs (disch := first | omega | decide) only [seval, -Int.reducePow, -Nat.reducePow, cC, pv, binv, sRTEnc1, undef, g1, g2]
    refine hK _ _ ?_
    clear hK K
    refine cv_pick [0, 2] (by decide) ?_
    simp only [pickL, nth]
    refine cv_region_then rfl ?_
    simp -implicitDefEqProofs (disch := first | omega | decide) only [seval, -Int.reducePow, -Nat.reducePow, cC, pv, binv, sRTEnc1, undef, wrap_in, g1, g2]
    refine ⟨⟨k + 1, A8, n8, c8, ?_⟩, ?_⟩
    · simp -implicitDefEqProofs (disch := first | omega | decide) only [seval, -Int.reducePow, -Nat.reducePow, cC, pv, binv, sRTEnc1, undef, Int.natCast_add, flat_take hx, ← List.append_assoc, g1, g2]
      exact ⟨by omega, byt_row hl8⟩
    · simp only [intOf]; omega
  refine cv_exit ?_
  simp only [blockQ, thenQ, if_true, ite_true]
  clear hK K
  refine hK _ _ ?_
  clear hK K
  obtain rfl : n = k := by have := of_decide_eq_false ‹_›; omega
  rw [List.take_of_length_le (by omega)] at *
  refine cv_seq_k fun K hK => ?_
  refine cv_region_then rfl ?_
  simp -implicitDefEqProofs (disch := first | omega | decide) only [seval, -Int.reducePow, -Nat.reducePow, cC, pv, binv, sRTEnc1, undef, g1, g2]
  refine hK _ _ ?_
  clear hK K
  refine cv_ret ⟨_, (by simp -implicitDefEqProofs (disch := first | omega | decide) only [seval, -Int.reducePow, -Nat.reducePow, cC, pv, binv, sRTEnc1, undef, g1, g2]; rfl), fun w hw => ?_⟩
  exact ⟨A6, n6, c6, by rw [hz], by rw [hT]; unfold encB; rw [hln]; exact hw.rowNew (by simp), hw.below⟩
end Go.Proofs.Ytlbmnioibiomfaa
/- The reference's instructions: Encode, Decode. -/
namespace Go.Proofs.Ytlbmnioibiomfaa
open Go.RowKit Go.Shelf
set_option linter.unusedVariables false
set_option linter.unusedSimpArgs false
set_option maxRecDepth 100000
set_option maxRecDepth 100000 in
theorem sRInsE1 : type_of% (And.intro (And.intro @iBox.eq_1 @insV.eq_1) (And.intro @uV.eq_1 @Nat.mul_one)) := (And.intro (And.intro @iBox.eq_1 @insV.eq_1) (And.intro @uV.eq_1 @Nat.mul_one))
set_option maxHeartbeats 1000000 in
theorem r_ienc_any (i : Ins) (W : World) (hx : i.arg < 18446744073709551616) : Calls Try.prog 28 #[insV i] W (rowP 5 1 (fun v => .tuple #[v, .int .i64 i.err]) (byt (encIE i)) W) := by
  refine calls_cv (M := []) (n := 23) [.tmp 2, .tmp 3] rfl Try.func28 rfl rfl (Nat.le_of_ble_eq_true rfl) (St.nil _ _) ?_
  refine cv_seq_k fun K hK => ?_
  refine cv_region_then rfl ?_
  simp -implicitDefEqProofs (disch := first | omega | decide) only [seval, -Int.reducePow, -Nat.reducePow, cC, pv, binv, sRInsE1, undef]
  intro b hb
  refine hK _ _ ?_
  clear hK K
  refine cv_gen fun G1 hG => ?_
  have g1_1 := congrFun hG 1
  clear hG
  try simp -implicitDefEqProofs (disch := first | omega | decide) only [seval, -Int.reducePow, -Nat.reducePow, cC, pv, binv, sRInsE1, undef] at g1_1
  have g1 := g1_1
  refine cv_seq_k fun K hK => ?_
  refine cv_seq_k fun K hK => ?_
  refine cv_region_then rfl ?_
  simp -implicitDefEqProofs (disch := first | omega | decide) only [seval, -Int.reducePow, -Nat.reducePow, cC, pv, binv, sRInsE1, undef, g1]
  refine callV_ret (fun w hw => r_icheck_any i w) ?_
  try simp -implicitDefEqProofs (disch := first | omega | decide) only [seval, -Int.reducePow, -Nat.reducePow, cC, pv, binv, sRInsE1, undef, g1]
  refine hK _ _ ?_
  clear hK K
  refine cv_seq_k fun K hK => ?_
  refine cv_region_then rfl ?_
  simp -implicitDefEqProofs (disch := first | omega | decide) only [seval, -Int.reducePow, -Nat.reducePow, cC, pv, binv, sRInsE1, undef, g1]
  refine hK _ _ ?_
  clear hK K
  refine cv_cond ?_
  simp -implicitDefEqProofs (disch := first | omega | decide) only [seval, -Int.reducePow, -Nat.reducePow, cC, pv, binv, sRInsE1, undef, g1]
  refine ⟨fun hc => ?_, fun hc => ?_⟩
  · have hz : ¬ i.err = 0 := by simpa using hc
    refine cv_seq_k fun K hK => ?_
    refine cv_region_then rfl ?_
    simp -implicitDefEqProofs (disch := first | omega | decide) only [seval, -Int.reducePow, -Nat.reducePow, cC, pv, binv, sRInsE1, undef, g1]
    refine hK _ _ ?_
    clear hK K
    refine cv_ret ⟨_, (by simp -implicitDefEqProofs (disch := first | omega | decide) only [seval, -Int.reducePow, -Nat.reducePow, cC, pv, binv, sRInsE1, undef, g1]; rfl), fun w hw => ?_⟩
    exact ⟨none, 0, 0, rfl, by unfold encIE; rw [if_neg hz]; exact World.ownsRow_nil _ _ _ _, hw.below⟩
  have hz : i.err = 0 := by simpa using hc
  have hz2 := Ins.err_zero hz
  have hE : encIE i = encI i := by unfold encIE; rw [if_pos hz]
  have e1 : IntKind.u8.wrap i.op = ((i.op.toNat : Nat) : Int) := by
    have := hz2.1
    rw [IntKind.wrap_u8]
    omega
  refine cv_skip ?_
  try simp only [blockQ, thenQ]
  refine hK _ _ ?_
  clear hK K
  refine cv_seq_k fun K hK => ?_
  refine cv_region_then rfl ?_
  simp -implicitDefEqProofs (disch := first | omega | decide) only [seval, -Int.reducePow, -Nat.reducePow, cC, pv, binv, sRInsE1, undef, e1, g1]
  intro b5 hb5 h5
  refine hK _ _ ?_
  clear hK K
  refine cv_gen fun G2 hG => ?_
  have g2_1 := congrFun hG 1
  have g2_5 := congrFun hG 5
  clear hG
  try simp -implicitDefEqProofs (disch := first | omega | decide) only [seval, -Int.reducePow, -Nat.reducePow, cC, pv, binv, sRInsE1, undef, g1] at g2_1 g2_5
  have g2 := And.intro g2_1 g2_5
  have hb1 : byt [i.op.toNat] = [.int .u8 ((i.op.toNat : Nat) : Int)] := rfl
  refine cv_seq_k fun K hK => ?_
  by_cases ha : argP i.op
  · have ha' : decide (argP i.op) = true := decide_eq_true ha
    have hE2 : encI i = [i.op.toNat] ++ putU i.arg := by unfold encI; rw [if_pos ha]; rfl
    refine cv_seq_k fun K hK => ?_
    refine cv_region_then rfl ?_
    simp -implicitDefEqProofs (disch := first | omega | decide) only [seval, -Int.reducePow, -Nat.reducePow, cC, pv, binv, sRInsE1, undef, g2]
    refine callV_ret (fun w hw => r_hasArg_any i.op w) ?_
    try simp -implicitDefEqProofs (disch := first | omega | decide) only [seval, -Int.reducePow, -Nat.reducePow, cC, pv, binv, sRInsE1, undef, ha', g2]
    refine hK _ _ ?_
    clear hK K
    refine cv_cond ?_
    simp -implicitDefEqProofs (disch := first | omega | decide) only [seval, -Int.reducePow, -Nat.reducePow, cC, pv, binv, sRInsE1, undef, g2]
    refine cv_region_q rfl ?_
    simp -implicitDefEqProofs (disch := first | omega | decide) only [seval, -Int.reducePow, -Nat.reducePow, cC, pv, binv, sRInsE1, undef, g2]
    refine callV_row (fun A' n' c' => .slice A' n' c') (fun w hw => rput_any (some ⟨b5, 0, none⟩) 1 1 [i.op.toNat] i.arg w (Sl.of_blk hw (.head _) rfl (by omega)) (by omega) hx) ?_
    intro A1 n1 c1 hl1 _
    simp -implicitDefEqProofs (disch := first | omega | decide) only [seval, -Int.reducePow, -Nat.reducePow, cC, pv, binv, sRInsE1, undef, g2]
    refine hK _ _ ?_
    clear hK K
    refine cv_seq_k fun K hK => ?_
    refine cv_region_then rfl ?_
    simp -implicitDefEqProofs (disch := first | omega | decide) only [seval, -Int.reducePow, -Nat.reducePow, cC, pv, binv, sRInsE1, undef, g2]
    refine hK _ _ ?_
    clear hK K
    refine cv_ret ⟨_, (by simp -implicitDefEqProofs (disch := first | omega | decide) only [seval, -Int.reducePow, -Nat.reducePow, cC, pv, binv, sRInsE1, undef, g2]; rfl), fun w hw => ?_⟩
    exact ⟨A1, n1, c1, by rw [hz], by rw [hE, hE2]; exact hw.rowNew (by simp), hw.below⟩
  · have ha' : decide (argP i.op) = false := decide_eq_false ha
    have hE2 : encI i = [i.op.toNat] := by unfold encI; rw [if_neg ha]
    refine cv_seq_k fun K hK => ?_
    refine cv_region_then rfl ?_
    simp -implicitDefEqProofs (disch := first | omega | decide) only [seval, -Int.reducePow, -Nat.reducePow, cC, pv, binv, sRInsE1, undef, g2]
    refine callV_ret (fun w hw => r_hasArg_any i.op w) ?_
    try simp -implicitDefEqProofs (disch := first | omega | decide) only [seval, -Int.reducePow, -Nat.reducePow, cC, pv, binv, sRInsE1, undef, ha', g2]
    refine hK _ _ ?_
    clear hK K
    refine cv_cond ?_
    simp -implicitDefEqProofs (disch := first | omega | decide) only [seval, -Int.reducePow, -Nat.reducePow, cC, pv, binv, sRInsE1, undef, g2]
    refine cv_skip ?_
    try simp only [blockQ, thenQ]
    refine hK _ _ ?_
    clear hK K
    refine cv_seq_k fun K hK => ?_
    refine cv_region_then rfl ?_
    simp -implicitDefEqProofs (disch := first | omega | decide) only [seval, -Int.reducePow, -Nat.reducePow, cC, pv, binv, sRInsE1, undef, g2]
    refine hK _ _ ?_
    clear hK K
    refine cv_ret ⟨_, (by simp -implicitDefEqProofs (disch := first | omega | decide) only [seval, -Int.reducePow, -Nat.reducePow, cC, pv, binv, sRInsE1, undef, g2]; rfl), fun w hw => ?_⟩
    have hr := hw.blk_row (size := 1) (n := 1) rfl (by omega)
    exact ⟨some ⟨b5, 0, none⟩, 1, 1, by rw [hz], by rw [hE, hE2]; exact hr.rowNew (by simp), hw.below⟩
set_option maxRecDepth 100000 in
theorem sRInsE2 : type_of% (And.intro (And.intro @iBox.eq_1 @insV.eq_1) (And.intro @uV.eq_1 (And.intro @Nat.mul_one @diV.eq_1))) := (And.intro (And.intro @iBox.eq_1 @insV.eq_1) (And.intro @uV.eq_1 (And.intro @Nat.mul_one @diV.eq_1)))
end Go.Proofs.Ytlbmnioibiomfaa
/- EncodeModule. -/
namespace Go.Proofs.Ytlbmnioibiomfaa
open Go.RowKit Go.Shelf
set_option linter.unusedVariables false
set_option linter.unusedSimpArgs false
set_option maxRecDepth 100000
set_option maxRecDepth 100000 in
theorem sMREnc1 : type_of% (And.intro (And.intro (And.intro @fBox.eq_1 (And.intro @tBox.eq_1 @iBox.eq_1)) (And.intro (And.intro @mBox.eq_1 @gBox.eq_1) (And.intro @flBox.eq_1 @fdV.eq_1))) (And.intro (And.intro (And.intro @tyV.eq_1 @insV.eq_1) (And.intro @fnV.eq_1 @modV.eq_1)) (And.intro (And.intro @fltV.eq_1 @fineF.eq_1) (And.intro @cS @Nat.mul_one)))) := (And.intro (And.intro (And.intro @fBox.eq_1 (And.intro @tBox.eq_1 @iBox.eq_1)) (And.intro (And.intro @mBox.eq_1 @gBox.eq_1) (And.intro @flBox.eq_1 @fdV.eq_1))) (And.intro (And.intro (And.intro @tyV.eq_1 @insV.eq_1) (And.intro @fnV.eq_1 @modV.eq_1)) (And.intro (And.intro @fltV.eq_1 @fineF.eq_1) (And.intro @cS @Nat.mul_one))))
set_option maxHeartbeats 8000000 in
theorem rmenc_any (m : ModR) (W : World) (hM : Mod W W.heap.size m) : Calls Try.prog 13 #[modV m] W (rowP 5 1 (fun v => .tuple #[v, .int .i64 (errM m)]) (byt (encMod m)) W) := by
  have hlt := hM.tlen
  have hlg := hM.glen
  have hE := hM.ts
  have hty := hM.ty
  have hG := hM.gs
  have hfn := hM.fn
  have harg := hM.arg
  have hno := errM_no (m := m)
  have hbig := errM_big (m := m)
  have hok := errM_ok (m := m)
  have hMat := fun {L : List Res} {w : World} (hw : St [] W L w) => hM.at hw
  have hchk := chkM_ok (m := m)
  have henc : encM m = magicB ++ putU m.ts.length ++ m.ts.flatMap encTy ++ putU m.gs.length ++ m.gs.flatMap encFn := rfl
  obtain ⟨q, hq⟩ : ∃ q, chkM m = q := ⟨_, rfl⟩
  rw [hq] at hno hbig hok hchk
  generalize hem : encM m = em at *
  generalize hme : encMod m = me at *
  generalize her : errM m = er at *
  obtain ⟨TA, tn, tc, ts, FA, fn, fc, gs⟩ := m
  dsimp only at *
  refine calls_cv (M := []) (n := 109) [.tmp 2, .tmp 3] rfl Try.func13 rfl rfl (Nat.le_of_ble_eq_true rfl) (St.nil _ _) ?_
  refine cv_seq_k fun K hK => ?_
  refine cv_region_then rfl ?_
  simp -implicitDefEqProofs (disch := first | omega | decide) only [seval, -Int.reducePow, -Nat.reducePow, cC, pv, binv, sMREnc1, undef]
  intro b1 hb1
  refine hK _ _ ?_
  clear hK K
  refine cv_seq_k fun K hK => ?_
  refine cv_region_then rfl ?_
  simp -implicitDefEqProofs (disch := first | omega | decide) only [seval, -Int.reducePow, -Nat.reducePow, cC, pv, binv, sMREnc1, undef]
  refine callV_ret (fun w hw => rmcheck_any ⟨TA, tn, tc, ts, FA, fn, fc, gs⟩ w (hMat hw)) ?_
  try simp -implicitDefEqProofs (disch := first | omega | decide) only [seval, -Int.reducePow, -Nat.reducePow, cC, pv, binv, sMREnc1, undef, hq]
  intro b4 hb4 h4
  refine hK _ _ ?_
  clear hK K
  refine cv_seq_k fun K hK => ?_
  refine cv_seq_k fun K hK => ?_
  refine cv_region_then rfl ?_
  simp -implicitDefEqProofs (disch := first | omega | decide) only [seval, -Int.reducePow, -Nat.reducePow, cC, pv, binv, sMREnc1, undef]
  refine hK _ _ ?_
  clear hK K
  refine cv_cond ?_
  simp -implicitDefEqProofs (disch := first | omega | decide) only [seval, -Int.reducePow, -Nat.reducePow, cC, pv, binv, sMREnc1, undef]
  refine ⟨fun hc => ?_, fun hc => ?_⟩
  · have hz : ¬ q.1 = 0 := nd_true ‹(!decide (q.1 = 0)) = true›
    refine cv_seq_k fun K hK => ?_
    refine cv_draw [(true, 0), (true, 1), (true, 2), (true, 3)] [] mixA rfl (by kernel_rfl) (by kernel_rfl) rfl rfl ?_
    simp -implicitDefEqProofs (disch := first | omega | decide) only [seval, -Int.reducePow, -Nat.reducePow, cC, pv, binv, sMREnc1, undef]
    refine hK _ _ ?_
    clear hK K
    refine cv_ret ⟨_, (by simp -implicitDefEqProofs (disch := first | omega | decide) only [seval, -Int.reducePow, -Nat.reducePow, cC, pv, binv, sMREnc1, undef]; rfl), fun w hw => ?_⟩
    exact ⟨none, 0, 0, by rw [(hno hz).1], by rw [(hno hz).2]; exact World.ownsRow_nil _ _ _ _, hw.below⟩
  have hz : q.1 = 0 := Decidable.not_not.1 (nd_false ‹(!decide (q.1 = 0)) = false›)
  obtain ⟨k1, k2, k3, k4, k5⟩ := hchk hz
  have e1 := i64v tn (by omega)
  have e2 := i64v fn (by omega)
  refine cv_skip ?_
  try simp only [blockQ, thenQ]
  refine hK _ _ ?_
  clear hK K
  refine cv_seq_k fun K hK => ?_
  refine cv_region_then rfl ?_
  simp -implicitDefEqProofs (disch := first | omega | decide) only [seval, -Int.reducePow, -Nat.reducePow, cC, pv, binv, sMREnc1, undef]
  intro b5 hb5 h5
  refine xv_mark 0 rfl Try.underlying24 Try.underlying5 rfl ?_
  simp -implicitDefEqProofs (disch := first | omega | decide) only [seval, -Int.reducePow, -Nat.reducePow, cC, pv, binv, sMREnc1, undef, e1]
  refine callV_row (fun A' n' c' => .slice A' n' c') (fun w hw => rput_any (some ⟨b5, 0, none⟩) 4 4 magicB tn w (mgOk b5 hw) (by omega) (by omega)) ?_
  intro A1 n1 c1 hl1 _
  simp -implicitDefEqProofs (disch := first | omega | decide) only [seval, -Int.reducePow, -Nat.reducePow, cC, pv, binv, sMREnc1, undef]
  refine hK _ _ ?_
  clear hK K
  have hn1 : n1 ≤ 20 := by have := byt_row hl1; have := putU_len10 (n := tn) (by omega); simp [magicB] at *; omega
  refine cv_pick [0, 3] (by decide) ?_
  simp only [pickL, nth]
  refine cv_seq_k fun K hK => ?_
  refine cv_seq_k fun K hK => ?_
  refine cv_region_then rfl ?_
  simp -implicitDefEqProofs (disch := first | omega | decide) only [seval, -Int.reducePow, -Nat.reducePow, cC, pv, binv, sMREnc1, undef]
  refine hK _ _ ?_
  clear hK K
  refine cv_gen fun G1 hG => ?_
  have g1_1 := congrFun hG 1
  have g1_5 := congrFun hG 5
  have g1_6 := congrFun hG 6
  clear hG
  try simp -implicitDefEqProofs (disch := first | omega | decide) only [seval, -Int.reducePow, -Nat.reducePow, cC, pv, binv, sMREnc1, undef] at g1_1 g1_5 g1_6
  have g1 := And.intro g1_1 (And.intro g1_5 g1_6)
  refine cv_block ?_
  refine cv_loop (fun F' L' => ∃ (k : Nat) (A6 : Option Addr) (n6 c6 : Nat), F' 1 = G1 1 ∧ F' 5 = .slice A6 n6 c6 ∧ F' 6 = .int .i64 (k : Int) ∧ L' = [.row (.slice A6 n6 c6) 5 1 n6 (byt (magicB ++ putU tn ++ (ts.take k).flatMap encTy)), mBox b1 ⟨TA, tn, tc, ts, FA, fn, fc, gs⟩] ∧ k ≤ tn ∧ n6 ≤ 20 + 200 * k) (fun F' L' => 40 - (intOf (F' 6)).toNat) ?_ ?_
  · refine ⟨0, A1, n1, c1, ?_⟩
    simp -implicitDefEqProofs (disch := first | omega | decide) only [seval, -Int.reducePow, -Nat.reducePow, cC, pv, binv, sMREnc1, undef, g1]
    simp only [List.flatMap_nil, List.append_nil]
    repeat' (first | with_reducible exact trivial | with_reducible rfl | omega | refine And.intro ?_ ?_)
  intro G2 L' hI
  obtain ⟨k, A6, n6, c6, q1, q5, q6, rfl, ⟨hk, h6⟩⟩ := hI
  have g2_1 := q1.trans g1_1
  have g2_5 := q5
  have g2_6 := q6
  clear q1 q5 q6
  have g2 := And.intro g2_1 (And.intro g2_5 g2_6)
  refine cv_seq_k fun K hK => ?_
  refine cv_seq_k fun K hK => ?_
  refine cv_region_then rfl ?_
  simp -implicitDefEqProofs (disch := first | omega | decide) only [seval, -Int.reducePow, -Nat.reducePow, cC, pv, binv, sMREnc1, undef, g1, g2]
  refine hK _ _ ?_
  clear hK K
  refine cv_cond ?_
  simp -implicitDefEqProofs (disch := first | omega | decide) only [seval, -Int.reducePow, -Nat.reducePow, cC, pv, binv, sMREnc1, undef, g1, g2]
  refine ⟨fun hc => ?_, fun hc => ?_⟩
  · refine cv_skip ?_
    try simp only [blockQ, thenQ]
    have hlt2 : k < tn := by have := of_decide_eq_true ‹_›; omega
    obtain ⟨b0, off, rfl, hb0, -⟩ := hE.cells (by omega)
    obtain ⟨x, hx⟩ := some_of (l := ts) (i := k) (by omega)
    have hxm := List.mem_of_getElem? hx
    have hX := hty x hxm
    have hxz := k2 x hxm
    have hxl := (encB_len hxz).1
    refine hK _ _ ?_
    clear hK K
    refine cv_seq_k fun K hK => ?_
    refine cv_block ?_
    refine cv_seq_k fun K hK => ?_
    refine cv_region_then rfl ?_
    simp -implicitDefEqProofs (disch := first | omega | decide) only [seval, -Int.reducePow, -Nat.reducePow, cC, pv, binv, sMREnc1, undef, g1, g2]
    refine ⟨_, hE.tyl hx, fun tok htok => ?_⟩
    subst htok
    simp -implicitDefEqProofs (disch := first | omega | decide) only [seval, -Int.reducePow, -Nat.reducePow, cC, pv, binv, sMREnc1, undef, g1, g2]
    refine callV_row (fun A' n' c' => .tuple #[.slice A' n' c', .int .i64 (chk x.len x.fs)]) (fun w hw => renc_any x.A x.n x.c x.fs x.len w (hX.at hw)) ?_
    intro A8 n8 c8 hl8 _
    rw [encT_eq hxz] at *
    have hn8 : n8 ≤ 198 := by have := byt_row hl8; unfold encTy at this; omega
    simp -implicitDefEqProofs (disch := first | omega | decide) only [seval, -Int.reducePow, -Nat.reducePow, cC, pv, binv, sMREnc1, undef, g1, g2]
    refine hK _ _ ?_
    clear hK K
    refine cv_region_q rfl ?_
    simp -implicitDefEqProofs (disch := first | omega | decide) only [seval, -Int.reducePow, -Nat.reducePow, cC, pv, binv, sMREnc1, undef, g1, g2]
    refine appV_at 1 tap24 rfl (fun w hw => src_row (.head _) hw) (ones_byt _) (by omega) (by omega) ?_
    intro A9 c9 hl9 _
    simp -implicitDefEqProofs (disch := first | omega | decide) only [seval, -Int.reducePow, -Nat.reducePow, cC, pv, binv, sMREnc1, undef, g1, g2]
    refine hK _ _ ?_
    clear hK K
    refine cv_pick [0, 2] (by decide) ?_
    simp only [pickL, nth]
    refine cv_region_then rfl ?_
    simp -implicitDefEqProofs (disch := first | omega | decide) only [seval, -Int.reducePow, -Nat.reducePow, cC, pv, binv, sMREnc1, undef, wrap_in, g1, g2]
    refine ⟨⟨k + 1, A9, n6 + n8, c9, ?_⟩, ?_⟩
    · simp -implicitDefEqProofs (disch := first | omega | decide) only [seval, -Int.reducePow, -Nat.reducePow, cC, pv, binv, sMREnc1, undef, Int.natCast_add, g1, g2]
      rw [flat_snoc encTy hx, ← List.append_assoc (magicB ++ putU tn), byt_append _ (encTy x)]
      exact ⟨rfl, by omega, by omega⟩
    · simp only [intOf]; omega
  refine cv_exit ?_
  simp only [blockQ, thenQ, if_true, ite_true]
  clear hK K
  refine hK _ _ ?_
  clear hK K
  obtain rfl : tn = k := by have := of_decide_eq_false ‹_›; omega
  rw [List.take_of_length_le (by omega)]
  refine cv_len 0 rfl fun hl6 => ?_
  refine cv_seq_k fun K hK => ?_
  refine cv_region_then rfl ?_
  simp -implicitDefEqProofs (disch := first | omega | decide) only [seval, -Int.reducePow, -Nat.reducePow, cC, pv, binv, sMREnc1, undef, e2, g1, g2]
  refine callV_row (fun A' n' c' => .slice A' n' c') (fun w hw => rput_any A6 n6 c6 _ fn w (hw.slb 0 rfl) (by omega) (by omega)) ?_
  intro A9 n9 c9 hl9 _
  simp -implicitDefEqProofs (disch := first | omega | decide) only [seval, -Int.reducePow, -Nat.reducePow, cC, pv, binv, sMREnc1, undef, g1, g2]
  refine hK _ _ ?_
  clear hK K
  have hn9 : n9 ≤ 7000 := by have q1 := byt_row hl9; have q2 := byt_row hl6; have q3 := putU_len10 (n := fn) (by omega); rw [List.length_append] at q1; omega
  refine cv_pick [0, 2] (by decide) ?_
  simp only [pickL, nth]
  generalize hpre : magicB ++ putU tn ++ ts.flatMap encTy ++ putU fn = pre at *
  refine cv_seq_k fun K hK => ?_
  refine cv_seq_k fun K hK => ?_
  refine cv_region_then rfl ?_
  simp -implicitDefEqProofs (disch := first | omega | decide) only [seval, -Int.reducePow, -Nat.reducePow, cC, pv, binv, sMREnc1, undef, g1, g2]
  refine hK _ _ ?_
  clear hK K
  refine cv_gen fun G3 hG => ?_
  have g3_1 := congrFun hG 1
  have g3_5 := congrFun hG 5
  have g3_9 := congrFun hG 9
  clear hG
  try simp -implicitDefEqProofs (disch := first | omega | decide) only [seval, -Int.reducePow, -Nat.reducePow, cC, pv, binv, sMREnc1, undef, g1, g2] at g3_1 g3_5 g3_9
  have g3 := And.intro g3_1 (And.intro g3_5 g3_9)
  refine cv_block ?_
  refine cv_loop (fun F' L' => ∃ (k : Nat) (A6 : Option Addr) (n6 c6 : Nat), F' 1 = G3 1 ∧ F' 5 = .slice A6 n6 c6 ∧ F' 9 = .int .i64 (k : Int) ∧ L' = [.row (.slice A6 n6 c6) 5 1 n6 (byt (pre ++ (gs.take k).flatMap encFn)), mBox b1 ⟨TA, tn, tc, ts, FA, fn, fc, gs⟩] ∧ k ≤ fn ∧ n6 ≤ 7000 + 12000 * k) (fun F' L' => 40 - (intOf (F' 9)).toNat) ?_ ?_
  · refine ⟨0, A9, n9, c9, ?_⟩
    simp -implicitDefEqProofs (disch := first | omega | decide) only [seval, -Int.reducePow, -Nat.reducePow, cC, pv, binv, sMREnc1, undef, g1, g2, g3]
    simp only [List.flatMap_nil, List.append_nil]
    repeat' (first | with_reducible exact trivial | with_reducible rfl | omega | refine And.intro ?_ ?_)
  intro G4 L' hI
  obtain ⟨k, A6, n6, c6, q1, q5, q9, rfl, ⟨hk, h6⟩⟩ := hI
  have g4_1 := q1.trans g3_1
  have g4_5 := q5
  have g4_9 := q9
  clear q1 q5 q9
  have g4 := And.intro g4_1 (And.intro g4_5 g4_9)
  refine cv_seq_k fun K hK => ?_
  refine cv_seq_k fun K hK => ?_
  refine cv_region_then rfl ?_
  simp -implicitDefEqProofs (disch := first | omega | decide) only [seval, -Int.reducePow, -Nat.reducePow, cC, pv, binv, sMREnc1, undef, g1, g2, g3, g4]
  refine hK _ _ ?_
  clear hK K
  refine cv_cond ?_
  simp -implicitDefEqProofs (disch := first | omega | decide) only [seval, -Int.reducePow, -Nat.reducePow, cC, pv, binv, sMREnc1, undef, g1, g2, g3, g4]
  refine ⟨fun hc => ?_, fun hc => ?_⟩
  · refine cv_skip ?_
    try simp only [blockQ, thenQ]
    have hlt2 : k < fn := by have := of_decide_eq_true ‹decide ((k : Int) < (fn : Int)) = true›; omega
    obtain ⟨b0, off, rfl, hb0, -⟩ := hG.cells (by omega)
    obtain ⟨x, hx⟩ := some_of (l := gs) (i := k) (by omega)
    have hxm := List.mem_of_getElem? hx
    have hX := hfn x hxm
    have hxi := k5 k x hx
    have hxa := harg x hxm
    have hxl : x.code.length = x.n := cl_row insc_len (by omega) hX.len
    have hsn := flat_snoc encFn hx
    have henx : encFn x = [x.p.toNat, x.r.toNat, x.l.toNat, x.code.length].flatMap putU ++ x.code.flatMap encI := rfl
    generalize hex : encFn x = ex at *
    have hxf := fnErr_ok hxi.1
    have hld := hG.fnl (L := [.row (.slice A6 n6 c6) 5 1 n6 (byt (pre ++ (gs.take k).flatMap encFn)), mBox b1 ⟨TA, tn, tc, ts, some ⟨b0, off, none⟩, fn, fc, gs⟩]) hx
    have hxi2 := hxi.2
    clear hx hxm hxi
    obtain ⟨xp, xr, xl, xA, xn, xc, code⟩ := x
    dsimp only at *
    obtain ⟨p, rfl⟩ := Int.eq_ofNat_of_zero_le hxf.1
    obtain ⟨r, rfl⟩ := Int.eq_ofNat_of_zero_le hxf.2.1
    obtain ⟨l, rfl⟩ := Int.eq_ofNat_of_zero_le hxf.2.2.1
    simp only [Int.toNat_natCast] at henx
    rw [hxl] at henx
    generalize hpg : pre ++ (gs.take k).flatMap encFn = pg at *
    have ep := i64v p (by omega)
    have er := i64v r (by omega)
    have el := i64v l (by omega)
    have en := i64v xn (by omega)
    have bp := putU_len10 (n := p) (by omega)
    have br := putU_len10 (n := r) (by omega)
    have bl := putU_len10 (n := l) (by omega)
    have bn := putU_len10 (n := xn) (by omega)
    refine hK _ _ ?_
    clear hK K
    refine cv_len 0 rfl fun hl0 => ?_
    refine cv_seq_k fun K hK => ?_
    refine cv_block ?_
    refine cv_seq_k fun K hK => ?_
    refine cv_region_then rfl ?_
    simp -implicitDefEqProofs (disch := first | omega | decide) only [seval, -Int.reducePow, -Nat.reducePow, cC, pv, binv, sMREnc1, undef, g1, g2, g3, g4]
    refine ⟨_, hld, fun tok htok => ?_⟩
    subst htok
    simp -implicitDefEqProofs (disch := first | omega | decide) only [seval, -Int.reducePow, -Nat.reducePow, cC, pv, binv, sMREnc1, undef, g1, g2, g3, g4]
    intro b11 hb11 h11
    refine hK _ _ ?_
    clear hK K
    refine cv_seq_k fun K hK => ?_
    refine cv_region_then rfl ?_
    simp -implicitDefEqProofs (disch := first | omega | decide) only [seval, -Int.reducePow, -Nat.reducePow, cC, pv, binv, sMREnc1, undef, ep, g1, g2, g3, g4]
    refine callV_row (fun A' n' c' => .slice A' n' c') (fun w hw => rput_any A6 n6 c6 _ p w (hw.slb 1 rfl) (by omega) (by omega)) ?_
    intro A7 n7 c7 hl7 _
    have hn7 : n7 ≤ n6 + 10 := by have q1 := byt_row hl7; have q2 := byt_row hl0; rw [List.length_append] at q1; omega
    simp -implicitDefEqProofs (disch := first | omega | decide) only [seval, -Int.reducePow, -Nat.reducePow, cC, pv, binv, sMREnc1, undef, g1, g2, g3, g4]
    refine hK _ _ ?_
    clear hK K
    refine cv_pick [0, 1, 3] (by decide) ?_
    simp only [pickL, nth]
    refine cv_seq_k fun K hK => ?_
    refine cv_region_then rfl ?_
    simp -implicitDefEqProofs (disch := first | omega | decide) only [seval, -Int.reducePow, -Nat.reducePow, cC, pv, binv, sMREnc1, undef, er, g1, g2, g3, g4]
    refine callV_row (fun A' n' c' => .slice A' n' c') (fun w hw => rput_any A7 n7 c7 _ r w (hw.slb 0 rfl) (by omega) (by omega)) ?_
    intro A8 n8 c8 hl8 _
    have hn8 : n8 ≤ n7 + 10 := by have q1 := byt_row hl8; have q2 := byt_row hl7; rw [List.length_append] at q1; omega
    simp -implicitDefEqProofs (disch := first | omega | decide) only [seval, -Int.reducePow, -Nat.reducePow, cC, pv, binv, sMREnc1, undef, g1, g2, g3, g4]
    refine hK _ _ ?_
    clear hK K
    refine cv_pick [0, 2, 3] (by decide) ?_
    simp only [pickL, nth]
    refine cv_seq_k fun K hK => ?_
    refine cv_region_then rfl ?_
    simp -implicitDefEqProofs (disch := first | omega | decide) only [seval, -Int.reducePow, -Nat.reducePow, cC, pv, binv, sMREnc1, undef, el, g1, g2, g3, g4]
    refine callV_row (fun A' n' c' => .slice A' n' c') (fun w hw => rput_any A8 n8 c8 _ l w (hw.slb 0 rfl) (by omega) (by omega)) ?_
    intro A10 n10 c10 hl10 _
    have hn10 : n10 ≤ n8 + 10 := by have q1 := byt_row hl10; have q2 := byt_row hl8; rw [List.length_append] at q1; omega
    simp -implicitDefEqProofs (disch := first | omega | decide) only [seval, -Int.reducePow, -Nat.reducePow, cC, pv, binv, sMREnc1, undef, g1, g2, g3, g4]
    refine hK _ _ ?_
    clear hK K
    refine cv_pick [0, 2, 3] (by decide) ?_
    simp only [pickL, nth]
    refine cv_seq_k fun K hK => ?_
    refine cv_region_then rfl ?_
    simp -implicitDefEqProofs (disch := first | omega | decide) only [seval, -Int.reducePow, -Nat.reducePow, cC, pv, binv, sMREnc1, undef, en, g1, g2, g3, g4]
    refine callV_row (fun A' n' c' => .slice A' n' c') (fun w hw => rput_any A10 n10 c10 _ xn w (hw.slb 0 rfl) (by omega) (by omega)) ?_
    intro A11 n11 c11 hl11 _
    have hn11 : n11 ≤ n10 + 10 := by have q1 := byt_row hl11; have q2 := byt_row hl10; rw [List.length_append] at q1; omega
    simp -implicitDefEqProofs (disch := first | omega | decide) only [seval, -Int.reducePow, -Nat.reducePow, cC, pv, binv, sMREnc1, undef, g1, g2, g3, g4]
    refine hK _ _ ?_
    clear hK K
    refine cv_pick [0, 2, 3] (by decide) ?_
    simp only [pickL, nth]
    have hpe : pg ++ putU p ++ putU r ++ putU l ++ putU xn = pg ++ [p, r, l, xn].flatMap putU := by simp
    rw [hpe]
    refine cv_seq_k fun K hK => ?_
    refine cv_region_then rfl ?_
    simp -implicitDefEqProofs (disch := first | omega | decide) only [seval, -Int.reducePow, -Nat.reducePow, cC, pv, binv, sMREnc1, undef, g1, g2, g3, g4]
    refine hK _ _ ?_
    clear hK K
    refine cv_gen fun G5 hG => ?_
    have g5_1 := congrFun hG 1
    have g5_5 := congrFun hG 5
    have g5_9 := congrFun hG 9
    have g5_10 := congrFun hG 10
    have g5_11 := congrFun hG 11
    clear hG
    try simp -implicitDefEqProofs (disch := first | omega | decide) only [seval, -Int.reducePow, -Nat.reducePow, cC, pv, binv, sMREnc1, undef, g1, g2, g3, g4] at g5_1 g5_5 g5_9 g5_10 g5_11
    have g5 := And.intro g5_1 (And.intro g5_5 (And.intro g5_9 (And.intro g5_10 g5_11)))
    refine cv_block ?_
    refine cv_loop (fun F' L' => ∃ (j : Nat) (A7 : Option Addr) (n7 c7 : Nat), F' 1 = G5 1 ∧ F' 5 = .slice A7 n7 c7 ∧ F' 9 = G5 9 ∧ F' 10 = G5 10 ∧ F' 11 = .int .i64 (j : Int) ∧ L' = [.row (.slice A7 n7 c7) 5 1 n7 (byt (pg ++ [p, r, l, xn].flatMap putU ++ (code.take j).flatMap encI)), .blk b11 58 [.int .i64 (p : Int), .int .i64 (r : Int), .int .i64 (l : Int), .slice xA xn xc], mBox b1 ⟨TA, tn, tc, ts, some ⟨b0, off, none⟩, fn, fc, gs⟩] ∧ j ≤ xn ∧ n7 ≤ 7000 + 12000 * k + 40 + 11 * j) (fun F' L' => 1100 - (intOf (F' 11)).toNat) ?_ ?_
    · refine ⟨0, A11, n11, c11, ?_⟩
      simp -implicitDefEqProofs (disch := first | omega | decide) only [seval, -Int.reducePow, -Nat.reducePow, cC, pv, binv, sMREnc1, undef, g1, g2, g3, g4, g5]
      simp only [List.flatMap_nil, List.append_nil]
      repeat' (first | with_reducible exact trivial | with_reducible rfl | omega | refine And.intro ?_ ?_)
    intro G6 L' hI
    obtain ⟨j, A7, n7, c7, q1, q5, q9, q10, q11, rfl, ⟨hj, h7⟩⟩ := hI
    have g6_1 := q1.trans g5_1
    have g6_5 := q5
    have g6_9 := q9.trans g5_9
    have g6_10 := q10.trans g5_10
    have g6_11 := q11
    clear q1 q5 q9 q10 q11
    have g6 := And.intro g6_1 (And.intro g6_5 (And.intro g6_9 (And.intro g6_10 g6_11)))
    refine cv_seq_k fun K hK => ?_
    refine cv_seq_k fun K hK => ?_
    refine cv_region_then rfl ?_
    simp -implicitDefEqProofs (disch := first | omega | decide) only [seval, -Int.reducePow, -Nat.reducePow, cC, pv, binv, sMREnc1, undef, g1, g2, g3, g4, g5, g6]
    refine hK _ _ ?_
    clear hK K
    refine cv_cond ?_
    simp -implicitDefEqProofs (disch := first | omega | decide) only [seval, -Int.reducePow, -Nat.reducePow, cC, pv, binv, sMREnc1, undef, g1, g2, g3, g4, g5, g6]
    refine ⟨fun hc => ?_, fun hc => ?_⟩
    · refine cv_skip ?_
      try simp only [blockQ, thenQ]
      have hjt : j < xn := by have := of_decide_eq_true ‹decide ((j : Int) < (xn : Int)) = true›; omega
      obtain ⟨xb, xo, hxA, hxb, -⟩ := hX.cells (by omega)
      subst hxA
      obtain ⟨y, hy⟩ := some_of (l := code) (i := j) (by omega)
      have hym := List.mem_of_getElem? hy
      have hyz := hxi2 y hym
      have hya := hxa y hym
      refine hK _ _ ?_
      clear hK K
      refine cv_seq_k fun K hK => ?_
      refine cv_block ?_
      refine cv_seq_k fun K hK => ?_
      refine cv_region_then rfl ?_
      simp -implicitDefEqProofs (disch := first | omega | decide) only [seval, -Int.reducePow, -Nat.reducePow, cC, pv, binv, sMREnc1, undef, g1, g2, g3, g4, g5, g6]
      refine ⟨_, hX.ins hy, fun tok htok => ?_⟩
      subst htok
      simp -implicitDefEqProofs (disch := first | omega | decide) only [seval, -Int.reducePow, -Nat.reducePow, cC, pv, binv, sMREnc1, undef, g1, g2, g3, g4, g5, g6]
      refine callV_row (fun A' n' c' => .tuple #[.slice A' n' c', .int .i64 y.err]) (fun w hw => r_ienc_any y w hya) ?_
      intro A8 n8 c8 hl8 _
      rw [encIE_eq hyz] at *
      have hn8 : n8 ≤ 11 := by have := byt_row hl8; have := encI_len hya; omega
      simp -implicitDefEqProofs (disch := first | omega | decide) only [seval, -Int.reducePow, -Nat.reducePow, cC, pv, binv, sMREnc1, undef, g1, g2, g3, g4, g5, g6]
      refine hK _ _ ?_
      clear hK K
      refine cv_region_q rfl ?_
      simp -implicitDefEqProofs (disch := first | omega | decide) only [seval, -Int.reducePow, -Nat.reducePow, cC, pv, binv, sMREnc1, undef, g1, g2, g3, g4, g5, g6]
      refine appV_at 1 tap24 rfl (fun w hw => src_row (.head _) hw) (ones_byt _) (by omega) (by omega) ?_
      intro A9 c9 hl9 _
      simp -implicitDefEqProofs (disch := first | omega | decide) only [seval, -Int.reducePow, -Nat.reducePow, cC, pv, binv, sMREnc1, undef, g1, g2, g3, g4, g5, g6]
      refine hK _ _ ?_
      clear hK K
      refine cv_pick [0, 2, 3] (by decide) ?_
      simp only [pickL, nth]
      refine cv_region_then rfl ?_
      simp -implicitDefEqProofs (disch := first | omega | decide) only [seval, -Int.reducePow, -Nat.reducePow, cC, pv, binv, sMREnc1, undef, wrap_in, g1, g2, g3, g4, g5, g6]
      refine ⟨⟨j + 1, A9, n7 + n8, c9, ?_⟩, ?_⟩
      · simp -implicitDefEqProofs (disch := first | omega | decide) only [seval, -Int.reducePow, -Nat.reducePow, cC, pv, binv, sMREnc1, undef, Int.natCast_add, g1, g2, g3, g4, g5, g6]
        rw [flat_snoc encI hy, ← List.append_assoc (pg ++ _), byt_append _ (encI y)]
        exact ⟨rfl, by omega, by omega⟩
      · simp only [intOf]; omega
    refine cv_exit ?_
    simp only [blockQ, thenQ, if_true, ite_true]
    clear hK K
    refine hK _ _ ?_
    clear hK K
    obtain rfl : j = xn := by have := of_decide_eq_false ‹decide ((j : Int) < (xn : Int)) = false›; omega
    rw [List.take_of_length_le (by omega), List.append_assoc, ← henx, ← hpg, List.append_assoc, ← hsn]
    refine cv_pick [0, 2] (by decide) ?_
    simp only [pickL, nth]
    refine cv_region_then rfl ?_
    simp -implicitDefEqProofs (disch := first | omega | decide) only [seval, -Int.reducePow, -Nat.reducePow, cC, pv, binv, sMREnc1, undef, wrap_in, g1, g2, g3, g4, g5, g6]
    refine ⟨⟨k + 1, A7, n7, c7, ?_⟩, ?_⟩
    · simp -implicitDefEqProofs (disch := first | omega | decide) only [seval, -Int.reducePow, -Nat.reducePow, cC, pv, binv, sMREnc1, undef, Int.natCast_add, g1, g2, g3, g4, g5, g6]
      repeat' (first | with_reducible exact trivial | with_reducible rfl | omega | refine And.intro ?_ ?_)
    · simp only [intOf]; omega
  refine cv_exit ?_
  simp only [blockQ, thenQ, if_true, ite_true]
  clear hK K
  refine hK _ _ ?_
  clear hK K
  obtain rfl : fn = k := by have := of_decide_eq_false ‹decide ((k : Int) < (fn : Int)) = false›; omega
  rw [List.take_of_length_le (by omega)]
  rw [hlt, hlg, hpre] at henc
  rw [← henc]
  refine cv_len 0 rfl fun hl => ?_
  have hl := byt_row hl
  refine cv_seq_k fun K hK => ?_
  refine cv_seq_k fun K hK => ?_
  refine cv_region_then rfl ?_
  simp -implicitDefEqProofs (disch := first | omega | decide) only [seval, -Int.reducePow, -Nat.reducePow, cC, pv, binv, sMREnc1, undef, g1, g2, g3, g4]
  refine hK _ _ ?_
  clear hK K
  refine cv_cond ?_
  simp -implicitDefEqProofs (disch := first | omega | decide) only [seval, -Int.reducePow, -Nat.reducePow, cC, pv, binv, sMREnc1, undef, g1, g2, g3, g4]
  refine ⟨fun hc => ?_, fun hc => ?_⟩
  · have h2 : 65536 < em.length := by have := of_decide_eq_true ‹decide ((65536 : Int) < (n6 : Int)) = true›; omega
    refine cv_seq_k fun K hK => ?_
    refine cv_region_then rfl ?_
    simp -implicitDefEqProofs (disch := first | omega | decide) only [seval, -Int.reducePow, -Nat.reducePow, cC, pv, binv, sMREnc1, undef, g1, g2, g3, g4]
    refine hK _ _ ?_
    clear hK K
    refine cv_ret ⟨_, (by simp -implicitDefEqProofs (disch := first | omega | decide) only [seval, -Int.reducePow, -Nat.reducePow, cC, pv, binv, sMREnc1, undef, g1, g2, g3, g4]; rfl), fun w hw => ?_⟩
    exact ⟨none, 0, 0, by rw [(hbig hz h2).1], by rw [(hbig hz h2).2]; exact World.ownsRow_nil _ _ _ _, hw.below⟩
  have h2 : ¬ 65536 < em.length := by have := of_decide_eq_false ‹decide ((65536 : Int) < (n6 : Int)) = false›; omega
  refine cv_skip ?_
  try simp only [blockQ, thenQ]
  refine hK _ _ ?_
  clear hK K
  refine cv_seq_k fun K hK => ?_
  refine cv_region_then rfl ?_
  simp -implicitDefEqProofs (disch := first | omega | decide) only [seval, -Int.reducePow, -Nat.reducePow, cC, pv, binv, sMREnc1, undef, g1, g2, g3, g4]
  refine hK _ _ ?_
  clear hK K
  refine cv_ret ⟨_, (by simp -implicitDefEqProofs (disch := first | omega | decide) only [seval, -Int.reducePow, -Nat.reducePow, cC, pv, binv, sMREnc1, undef, g1, g2, g3, g4]; rfl), fun w hw => ?_⟩
  exact ⟨A6, n6, c6, by rw [(hok hz h2).1], by rw [(hok hz h2).2]; exact hw.rowNew (by simp), hw.below⟩
end Go.Proofs.Ytlbmnioibiomfaa
/- verify.Load and its definition. -/
namespace Go.Proofs.Ytlbmnioibiomfaa
open Go.RowKit Go.Shelf
set_option linter.unusedVariables false
set_option linter.unusedSimpArgs false
set_option maxRecDepth 100000
def vldV (i : ModR × Flt) : Value := .tuple #[modV i.1, fltV i.2]
def ldΦ (l : List Nat) (i : ModR × Flt) (w w' : World) : Prop := ModD w' (Nw w w') i.1 ∧ ldP l i.1 i.2
set_option maxRecDepth 100000 in
theorem sVeLd1 : type_of% (And.intro (And.intro (And.intro @mBox.eq_1 @modV.eq_1) (And.intro @flBox.eq_1 @fltV.eq_1)) (And.intro (And.intro @fineF.eq_1 @mdV.eq_1) (And.intro @Nat.mul_one (And.intro @cS @wrap_in)))) := (And.intro (And.intro (And.intro @mBox.eq_1 @modV.eq_1) (And.intro @flBox.eq_1 @fltV.eq_1)) (And.intro (And.intro @fineF.eq_1 @mdV.eq_1) (And.intro @Nat.mul_one (And.intro @cS @wrap_in))))
set_option maxHeartbeats 2000000 in
theorem Load_any (A : Option Addr) (n c : Nat) (l : List Nat) (W : World) (hE : Sl W W.heap.size 1 A n c (byt l)) (hb : ∀ x ∈ l, x < 256) :
    Calls Try.prog 11 #[.slice A n c] W fun e w' => ∃ i, e = .returned (vldV i) ∧ ldΦ l i W w' ∧ Below W.heap.size W w' := by
  have hmV : ∀ m : ModR, (Value.agg #[.slice m.TA m.tn m.tc, .slice m.FA m.fn m.fc]) = modV m := fun _ => rfl
  refine calls_cv2 (M := []) (n := 26) [.cell 2 29, .cell 3 36] rfl Try.func11 rfl rfl (Nat.le_of_ble_eq_true rfl) (St.nil _ _) ?_
  refine cv_seq_k fun K hK => ?_
  refine cv_region_then rfl ?_
  simp -implicitDefEqProofs (disch := first | omega | decide) only [seval, -Int.reducePow, -Nat.reducePow, cC, pv, binv, sVeLd1, undef]
  intro b2 hb2 b3 hb3 hf3
  refine hK _ _ ?_
  clear hK K
  refine cv_seq_k fun K hK => ?_
  refine cv_region_then rfl ?_
  simp -implicitDefEqProofs (disch := first | omega | decide) only [seval, -Int.reducePow, -Nat.reducePow, cC, pv, binv, sVeLd1, undef]
  refine callV_nest mdV (mdΦ l) (fun w hw => mdec_any A n c l w (hE.at hw) hb) ?_
  rintro ⟨k, e⟩ w0 w1 f1 hw0 hw1 ⟨hk, hd⟩ hNw
  dsimp only at hk hd
  have hkD : ModD w1 (Dm [] W f1) k := hk.mono fun y hy => .inl (hNw y hy)
  simp -implicitDefEqProofs (disch := first | omega | decide) only [seval, -Int.reducePow, -Nat.reducePow, cC, pv, binv, sVeLd1, undef]
  intro b4 hb4 hf4
  refine hK _ _ ?_
  clear hK K
  refine cv_gen fun G1 hG => ?_
  have g1_2 := congrFun hG 2
  have g1_3 := congrFun hG 3
  have g1_4 := congrFun hG 4
  have g1_5 := congrFun hG 5
  clear hG
  try simp -implicitDefEqProofs (disch := first | omega | decide) only [seval, -Int.reducePow, -Nat.reducePow, cC, pv, binv, sVeLd1, undef] at g1_2 g1_3 g1_4 g1_5
  have g1 := And.intro g1_2 (And.intro g1_3 (And.intro g1_4 g1_5))
  refine cv_seq_k fun K hK => ?_
  refine cv_seq_k fun K hK => ?_
  refine cv_region_then rfl ?_
  simp -implicitDefEqProofs (disch := first | omega | decide) only [seval, -Int.reducePow, -Nat.reducePow, cC, pv, binv, sVeLd1, undef, g1]
  refine hK _ _ ?_
  clear hK K
  refine cv_cond ?_
  simp -implicitDefEqProofs (disch := first | omega | decide) only [seval, -Int.reducePow, -Nat.reducePow, cC, pv, binv, sVeLd1, undef, g1]
  refine ⟨fun hc => ?_, fun hc => ?_⟩
  · have hz : ¬ e = 0 := nd_true ‹(!decide (e = 0)) = true›
    refine cv_seq_k fun K hK => ?_
    refine cv_region_then rfl ?_
    simp -implicitDefEqProofs (disch := first | omega | decide) only [seval, -Int.reducePow, -Nat.reducePow, cC, pv, binv, sVeLd1, undef, g1]
    refine hK _ _ ?_
    clear hK K
    refine cv_ret ?_
    simp -implicitDefEqProofs (disch := first | omega | decide) only [seval, -Int.reducePow, -Nat.reducePow, cC, pv, binv, sVeLd1, undef, retQ2, ressV, packV, g1]
    intro w hw
    exact ⟨(zMod, (e, -1, -1)), rfl, ⟨zMod_D _ _, .inl ⟨e, hz, hd.elim (fun h => absurd h.1 hz) fun h => h.2.1, rfl, rfl⟩⟩, hw.below⟩
  have hz : e = 0 := Decidable.not_not.1 (nd_false ‹(!decide (e = 0)) = false›)
  have hdec : decM l = .ok (datM k) := hd.elim (fun h => h.2) fun h => absurd hz h.1
  obtain ⟨V, hV⟩ : ∃ V, verM k = V := ⟨_, rfl⟩
  refine cv_skip ?_
  try simp only [blockQ, thenQ]
  refine hK _ _ ?_
  clear hK K
  refine cv_seq_k fun K hK => ?_
  refine cv_seq_k fun K hK => ?_
  refine cv_region_then rfl ?_
  simp -implicitDefEqProofs (disch := first | omega | decide) only [seval, -Int.reducePow, -Nat.reducePow, cC, pv, binv, sVeLd1, undef, g1]
  rw [hmV k]
  refine callV_ret (fun w hw => Verify_any k w (hkD.at hw 1 rfl)) ?_
  try simp -implicitDefEqProofs (disch := first | omega | decide) only [seval, -Int.reducePow, -Nat.reducePow, cC, pv, binv, sVeLd1, undef, hV, g1]
  intro b6 hb6 hf6
  refine hK _ _ ?_
  clear hK K
  refine cv_gen fun G2 hG => ?_
  have g2_2 := congrFun hG 2
  have g2_3 := congrFun hG 3
  have g2_4 := congrFun hG 4
  have g2_6 := congrFun hG 6
  clear hG
  try simp -implicitDefEqProofs (disch := first | omega | decide) only [seval, -Int.reducePow, -Nat.reducePow, cC, pv, binv, sVeLd1, undef, g1] at g2_2 g2_3 g2_4 g2_6
  have g2 := And.intro g2_2 (And.intro g2_3 (And.intro g2_4 g2_6))
  refine cv_seq_k fun K hK => ?_
  refine cv_region_then rfl ?_
  simp -implicitDefEqProofs (disch := first | omega | decide) only [seval, -Int.reducePow, -Nat.reducePow, cC, pv, binv, sVeLd1, undef, g2]
  refine hK _ _ ?_
  clear hK K
  refine cv_cond ?_
  simp -implicitDefEqProofs (disch := first | omega | decide) only [seval, -Int.reducePow, -Nat.reducePow, cC, pv, binv, sVeLd1, undef, g2]
  refine ⟨fun hc => ?_, fun hc => ?_⟩
  · have hv : ¬ V.1 = 0 := nd_true ‹(!decide (V.1 = 0)) = true›
    refine cv_seq_k fun K hK => ?_
    refine cv_draw_of (pickL [0] _) (fun w hw => hw.pick (by decide)) (by simp only [pickL, nth, suf_cons, suf_nil, List.mem_cons, true_or, or_true, and_true, eq_self]) [(true, 0), (true, 1), (false, 2), (false, 3)] [3] mixA rfl (by kernel_rfl) (by kernel_rfl) rfl rfl ?_
    simp -implicitDefEqProofs (disch := first | omega | decide) only [seval, -Int.reducePow, -Nat.reducePow, cC, pv, binv, sVeLd1, undef, g2]
    refine hK _ _ ?_
    clear hK K
    refine cv_ret ?_
    simp -implicitDefEqProofs (disch := first | omega | decide) only [seval, -Int.reducePow, -Nat.reducePow, cC, pv, binv, sVeLd1, undef, retQ2, ressV, packV, g2]
    intro w hw
    exact ⟨(zMod, V), rfl, ⟨zMod_D _ _, .inr ⟨k, hdec, .inr ⟨by rw [hV]; exact hv, rfl, hV.symm⟩⟩⟩, hw.below⟩
  have hv : V.1 = 0 := Decidable.not_not.1 (nd_false ‹(!decide (V.1 = 0)) = false›)
  refine cv_skip ?_
  try simp only [blockQ, thenQ]
  refine hK _ _ ?_
  clear hK K
  refine cv_seq_k fun K hK => ?_
  refine cv_region_then rfl ?_
  simp -implicitDefEqProofs (disch := first | omega | decide) only [seval, -Int.reducePow, -Nat.reducePow, cC, pv, binv, sVeLd1, undef, g2]
  refine hK _ _ ?_
  clear hK K
  refine cv_pick [2, 0, 1, 3, 4] (by decide) ?_
  simp only [pickL, nth]
  refine cv_ret ?_
  simp -implicitDefEqProofs (disch := first | omega | decide) only [seval, -Int.reducePow, -Nat.reducePow, cC, pv, binv, sVeLd1, undef, retQ2, ressV, packV, g2]
  intro w hw
  exact ⟨(k, fineF), rfl, ⟨hk.same (fun y hy => hw.snap_same (.head _) y (.inl (hNw y hy))) fun y hy => hw.snapNew 0 rfl (by simp) y (hNw y hy), .inr ⟨k, hdec, .inl ⟨by rw [hV]; exact hv, rfl, rfl⟩⟩⟩, hw.below⟩
set_option maxHeartbeats 2000000 in
theorem encoded_any (m : ModR) (W : World) (hM : Mod W W.heap.size m) : Calls Try.prog 8 #[modV m] W (rowP 5 1 (fun v => v) (byt (encMod m)) W) := by
  have hmV : ∀ m : ModR, (Value.agg #[.slice m.TA m.tn m.tc, .slice m.FA m.fn m.fc]) = modV m := fun _ => rfl
  refine calls_cv (M := []) (n := 11) [.tmp 2] rfl Try.func8 rfl rfl (Nat.le_of_ble_eq_true rfl) (St.nil _ _) ?_
  refine cv_seq_k fun K hK => ?_
  refine cv_region_then rfl ?_
  simp -implicitDefEqProofs (disch := first | omega | decide) only [seval, -Int.reducePow, -Nat.reducePow, cC, pv, binv, sVeLd1, undef]
  intro b1 hb1
  refine hK _ _ ?_
  clear hK K
  refine cv_seq_k fun K hK => ?_
  refine cv_region_then rfl ?_
  simp -implicitDefEqProofs (disch := first | omega | decide) only [seval, -Int.reducePow, -Nat.reducePow, cC, pv, binv, sVeLd1, undef]
  rw [hmV m]
  refine callV_row (fun A n c => .tuple #[.slice A n c, .int .i64 (errM m)]) (fun w hw => rmenc_any m w (hM.at hw)) ?_
  intro A n c hl hr
  simp -implicitDefEqProofs (disch := first | omega | decide) only [seval, -Int.reducePow, -Nat.reducePow, cC, pv, binv, sVeLd1, undef]
  refine hK _ _ ?_
  clear hK K
  refine cv_seq_k fun K hK => ?_
  refine cv_region_then rfl ?_
  simp -implicitDefEqProofs (disch := first | omega | decide) only [seval, -Int.reducePow, -Nat.reducePow, cC, pv, binv, sVeLd1, undef]
  refine hK _ _ ?_
  clear hK K
  refine cv_ret ⟨_, (by simp -implicitDefEqProofs (disch := first | omega | decide) only [seval, -Int.reducePow, -Nat.reducePow, cC, pv, binv, sVeLd1, undef]; rfl), fun w hw => ?_⟩
  exact ⟨A, n, c, rfl, hw.rowNew (by simp), hw.below⟩
end Go.Proofs.Ytlbmnioibiomfaa
/- Decoding modules inverts encoding them: plain. -/
namespace Go.Proofs.Ytlbmnioibiomfaa
open Go.RowKit Go.Shelf
set_option linter.unusedVariables false
set_option linter.unusedSimpArgs false
def bytesP (l : List Nat) : Prop := ∀ x ∈ l, x < 256
/-- What is read does not depend on what follows. -/
def Ext {α : Type} (g : List Nat → Rs α) : Prop := ∀ l a r, bytesP l → g l = .ok (a, r) → bytesP r ∧ ∀ s, g (l ++ s) = .ok (a, r ++ s)
theorem bytes_drop {l : List Nat} (h : bytesP l) (k : Nat) : bytesP (l.drop k) := fun x hx => h x (List.mem_of_mem_drop hx)
theorem uD_ext {l : List Nat} (hb : bytesP l) (h : (uD 0 l).2.2 = 0) (s : List Nat) : uD 0 (l ++ s) = uD 0 l := by
  have hlt := (uD_lt hb).1
  rcases uD_cases l 0 (by omega) hb with ⟨h1, h2, h3⟩ | ⟨h1, h2, h3, h4, h5, h6, h7⟩
  · omega
  have e : l = putU (uD 0 l).1 ++ l.drop (uD 0 l).2.1 := by rw [h7, List.take_append_drop]
  have e1 := uD_put0 hlt (l.drop (uD 0 l).2.1)
  rw [← e] at e1
  have e2 := uD_put0 hlt (l.drop (uD 0 l).2.1 ++ s)
  rw [← List.append_assoc, ← e] at e2
  rw [e2]
  exact e1.symm
theorem smF_ext {l : List Nat} {most : Nat} (hb : bytesP l) (h : (smF l 0 most).2.2 = 0) (s : List Nat) : smF (l ++ s) 0 most = smF l 0 most := by
  unfold smF at *
  rw [List.drop_zero] at *
  rw [List.drop_zero]
  by_cases h0 : (uD 0 l).2.2 = 0
  · rw [uD_ext hb h0]
  · rw [if_neg h0] at h
    exact absurd h h0
theorem drop_ext {l : List Nat} {k : Nat} (hk : k ≤ l.length) (s : List Nat) : (l ++ s).drop k = l.drop k ++ s := List.drop_append_of_le_length hk
theorem numX_ext (most : Nat) : Ext (numX most) := fun l a r hb h => by
  unfold numX at *
  by_cases h0 : (smF l 0 most).2.2 = 0
  · rw [if_pos h0] at h
    injection h with h
    injection h with h1 h2
    subst h1 h2
    have hle : (smF l 0 most).2.1 ≤ l.length := by
      rcases smF_cases hb (Nat.zero_le _) (most := most) with h | h
      · exact absurd h0 h.1
      · exact h.2.2.2.1
    exact ⟨bytes_drop hb _, fun s => by rw [smF_ext hb h0, if_pos h0, drop_ext hle]⟩
  · rw [if_neg h0] at h
    cases h
theorem decF_ext {l : List Nat} (hb : bytesP l) (h : (decF l).2.2.2 = 0) (s : List Nat) : decF (l ++ s) = decF l := by
  obtain ⟨h1, h2, h3⟩ := decF_only hb h
  have e : l = encB (decF l).1 (decF l).2.1 ++ l.drop (decF l).2.2.1 := by rw [h2, List.take_append_drop]
  have e1 := decF_enc h1 (l.drop (decF l).2.2.1)
  rw [← e] at e1
  have e2 := decF_enc h1 (l.drop (decF l).2.2.1 ++ s)
  rw [← List.append_assoc, ← e] at e2
  rw [e2]
  exact e1.symm
theorem tyX_ext : Ext tyX := fun l a r hb h => by
  unfold tyX at *
  by_cases h0 : (decF l).2.2.2 = 0
  · rw [if_pos h0] at h
    injection h with h
    injection h with h1 h2
    subst h1 h2
    have hle := (decF_only hb h0).2.2
    exact ⟨bytes_drop hb _, fun s => by rw [decF_ext hb h0, if_pos h0, drop_ext hle]⟩
  · rw [if_neg h0] at h
    cases h
theorem decI_ext {l : List Nat} (hb : bytesP l) (h : (decI l).2.2 = 0) (s : List Nat) : decI (l ++ s) = decI l := by
  cases l with
  | nil => simp [decI] at h
  | cons c r =>
    rw [List.cons_append, decI_cons, decI_cons]
    rw [decI_cons] at h
    by_cases h1 : knownP (c : Int)
    · have n1 : ¬ ¬ knownP (c : Int) := fun h => h h1
      rw [if_neg n1, if_neg n1]
      rw [if_neg n1] at h
      by_cases h2 : argP (c : Int)
      · have n2 : ¬ ¬ argP (c : Int) := fun h => h h2
        rw [if_neg n2, if_neg n2]
        rw [if_neg n2] at h
        by_cases h3 : (uD 0 r).2.2 = 0
        · rw [uD_ext (fun x hx => hb x (by simp [hx])) h3]
        · rw [if_neg h3] at h
          exact absurd h h3
      · rw [if_pos h2, if_pos h2]
    · rw [if_pos h1] at h
      cases h
theorem decI_used {l : List Nat} (hb : bytesP l) : (decI l).2.1 ≤ l.length := by
  cases l with
  | nil => decide
  | cons x l =>
    have hlt := uD_lt (l := l) fun y hy => hb y (by simp [hy])
    rw [decI_cons]
    split
    · simp
    · split
      · simp
      · split
        · have := hlt.2.1
          rw [List.length_cons]
          dsimp only
          omega
        · simp
theorem inX_ext : Ext inX := fun l a r hb h => by
  unfold inX at *
  by_cases h0 : (decI l).2.2 = 0
  · rw [if_pos h0] at h
    injection h with h
    injection h with h1 h2
    subst h1 h2
    exact ⟨bytes_drop hb _, fun s => by rw [decI_ext hb h0, if_pos h0, drop_ext (decI_used hb)]⟩
  · rw [if_neg h0] at h
    cases h
theorem thenX_ok {α β : Type} {r : Rs α} {g : List Nat → Rs β} {a : α} {b : β} {l : List Nat} (h : thenX r g = .ok ((a, b), l)) : ∃ l', r = .ok (a, l') ∧ g l' = .ok (b, l) := by
  unfold thenX at h
  cases r with
  | error e => cases h
  | ok p =>
    obtain ⟨a', l'⟩ := p
    dsimp only at h
    cases hg : g l' with
    | error e => rw [hg] at h; cases h
    | ok p =>
      obtain ⟨b', l''⟩ := p
      rw [hg] at h
      injection h with h
      injection h with h1 h2
      injection h1 with h3 h4
      subst h2 h3 h4
      exact ⟨l', rfl, hg⟩
theorem thenX_mk {α β : Type} {r : Rs α} {g : List Nat → Rs β} {a : α} {b : β} {l l' : List Nat} (h : r = .ok (a, l')) (hg : g l' = .ok (b, l)) : thenX r g = .ok ((a, b), l) := by
  unfold thenX
  rw [h]
  dsimp only
  rw [hg]
theorem thenX_ext {α β : Type} {f : List Nat → Rs α} {g : List Nat → Rs β} (hf : Ext f) (hg : Ext g) : Ext (fun l => thenX (f l) g) := fun l a r hb h => by
  obtain ⟨a, b⟩ := a
  obtain ⟨l', h1, h2⟩ := thenX_ok h
  obtain ⟨k1, k2⟩ := hf l a l' hb h1
  obtain ⟨k3, k4⟩ := hg l' b r k1 h2
  exact ⟨k3, fun s => thenX_mk (k2 s) (k4 s)⟩
theorem unit_ext : Ext (fun l => (.ok ((), l) : Rs Unit)) := fun l a r hb h => by
  injection h with h
  injection h with h1 h2
  subst h2
  exact ⟨hb, fun s => rfl⟩
theorem manyX_ext {α : Type} {g : List Nat → Rs α} (hg : Ext g) : ∀ k, Ext (manyX g k)
  | 0 => fun l a r hb h => by
    rw [manyX] at h
    injection h with h
    injection h with h1 h2
    subst h1 h2
    exact ⟨hb, fun s => rfl⟩
  | k + 1 => fun l a r hb h => by
    rw [manyX] at h
    cases h1 : g l with
    | error e => rw [h1] at h; cases h
    | ok p =>
      obtain ⟨x, l'⟩ := p
      rw [h1] at h
      dsimp only at h
      cases h2 : manyX g k l' with
      | error e => rw [h2] at h; cases h
      | ok p =>
        obtain ⟨xs, l''⟩ := p
        rw [h2] at h
        injection h with h
        injection h with h3 h4
        subst h3 h4
        obtain ⟨k1, k2⟩ := hg l x l' hb h1
        obtain ⟨k3, k4⟩ := manyX_ext hg k l' xs l'' k1 h2
        exact ⟨k3, fun s => by rw [manyX, k2 s]; dsimp only; rw [k4 s]⟩
theorem cntX_ext {α : Type} {g : List Nat → Rs α} (hg : Ext g) (most : Nat) : Ext (cntX g most) := fun l a r hb h => by
  unfold cntX at *
  cases h1 : numX most l with
  | error e => rw [h1] at h; cases h
  | ok p =>
    obtain ⟨n, l'⟩ := p
    rw [h1] at h
    dsimp only at h
    obtain ⟨k1, k2⟩ := numX_ext most l n l' hb h1
    obtain ⟨k3, k4⟩ := manyX_ext hg n l' a r k1 h
    exact ⟨k3, fun s => by rw [k2 s]; exact k4 s⟩
theorem fnX_ext : Ext fnX := thenX_ext (thenX_ext (thenX_ext (thenX_ext unit_ext (numX_ext _)) (numX_ext _)) (numX_ext _)) (cntX_ext inX_ext _)
theorem decX_ext : Ext decX := thenX_ext (thenX_ext unit_ext (cntX_ext tyX_ext _)) (cntX_ext fnX_ext _)
/-! ## An encoding is read back -/
theorem numX_put {n most : Nat} (hn : n ≤ most) (h : n < 18446744073709551616) (r : List Nat) : numX most (putU n ++ r) = .ok (n, r) := by
  have := smF_put (l := putU n ++ r) (p := 0) (most := most) (n := n) (r := r) (by rw [List.drop_zero]) h hn
  unfold numX
  rw [this, if_pos rfl]
  dsimp only
  rw [Nat.zero_add, List.drop_left]
theorem tyX_enc {t : TyR} (h : chk t.len t.fs = 0) (r : List Nat) : tyX (encTy t ++ r) = .ok ((t.len, t.fs), r) := by
  unfold tyX encTy
  rw [decF_enc h, if_pos rfl]
  dsimp only
  rw [List.drop_left]
theorem inX_enc {i : Ins} (h : i.err = 0) (ha : i.arg < 18446744073709551616) (r : List Nat) : inX (encI i ++ r) = .ok (i, r) := by
  obtain ⟨hk, hz⟩ := Ins.err_zero h
  have hop : ((i.op.toNat : Nat) : Int) = i.op := Int.toNat_of_nonneg (by omega)
  unfold inX encI
  have n1 : ¬ ¬ knownP i.op := fun h => h hk
  rw [List.cons_append, decI_cons, hop, if_neg n1]
  by_cases h2 : argP i.op
  · have n2 : ¬ ¬ argP i.op := fun h => h h2
    rw [if_neg n2, if_pos h2, uD_put0 ha]
    simp only [if_true]
    rw [Nat.add_comm, List.drop_succ_cons, List.drop_left]
  · rw [if_pos h2, if_neg h2]
    simp only [if_true]
    obtain ⟨op, arg⟩ := i
    have : arg = 0 := hz h2
    subst this
    rfl
theorem manyX_enc {α β : Type} {g : List Nat → Rs α} (f : β → List Nat) (d : β → α) : ∀ (xs : List β), (∀ x ∈ xs, ∀ r, g (f x ++ r) = .ok (d x, r)) → ∀ r, manyX g xs.length (xs.flatMap f ++ r) = .ok (xs.map d, r)
  | [], _, r => rfl
  | x :: xs, h, r => by
    rw [List.length_cons, manyX, List.flatMap_cons, List.append_assoc, h x (by simp)]
    dsimp only
    rw [manyX_enc f d xs fun y hy => h y (by simp [hy])]
    rfl
theorem cntX_enc {α β : Type} {g : List Nat → Rs α} (f : β → List Nat) (d : β → α) {most : Nat} (xs : List β) (h : ∀ x ∈ xs, ∀ r, g (f x ++ r) = .ok (d x, r)) (hl : xs.length ≤ most) (hm : most < 18446744073709551616) (r : List Nat) :
    cntX g most (putU xs.length ++ (xs.flatMap f ++ r)) = .ok (xs.map d, r) := by
  unfold cntX
  rw [numX_put hl (by omega)]
  exact manyX_enc f d xs h r
def fnQ (f : FnR) : FnQ := (((((), f.p.toNat), f.r.toNat), f.l.toNat), f.code)
theorem fnX_enc {f : FnR} {j : Int} (h : fnErr j f = 0) (hi : ∀ x ∈ f.code, x.err = 0) (ha : ∀ x ∈ f.code, x.arg < 18446744073709551616) (r : List Nat) : fnX (encFn f ++ r) = .ok (fnQ f, r) := by
  obtain ⟨h1, h2, h3, h4, h5, h6, h7, h8, -⟩ := fnErr_ok h
  have e : encFn f ++ r = putU f.p.toNat ++ (putU f.r.toNat ++ (putU f.l.toNat ++ (putU f.code.length ++ (f.code.flatMap encI ++ r)))) := by
    unfold encFn
    simp
  rw [e]
  have k := cntX_enc (g := inX) encI id f.code (fun x hx r => inX_enc (hi x hx) (ha x hx) r) h8 (by decide) r
  rw [List.map_id] at k
  exact thenX_mk (thenX_mk (thenX_mk (thenX_mk rfl (numX_put (by omega) (by omega) _)) (numX_put (by omega) (by omega) _)) (numX_put (by omega) (by omega) _)) k
theorem qD_fnQ {f : FnR} {j : Int} (h : fnErr j f = 0) : qD (fnQ f) = fnD f := by
  obtain ⟨h1, h2, h3, -⟩ := fnErr_ok h
  unfold qD fnQ fnD
  dsimp only
  rw [Int.toNat_of_nonneg h1, Int.toNat_of_nonneg h2, Int.toNat_of_nonneg h3]
def modQ (m : ModR) : ModQ := (((), m.ts.map fun t => (t.len, t.fs)), m.gs.map fnQ)
theorem decX_enc {m : ModR} (h : (chkM m).1 = 0) (ha : ∀ g ∈ m.gs, ∀ i ∈ g.code, i.arg < 18446744073709551616) (r : List Nat) : decX ((encM m).drop 4 ++ r) = .ok (modQ m, r) := by
  obtain ⟨h1, h2, h3, h4, h5⟩ := chkM_ok h
  have e : (encM m).drop 4 ++ r = putU m.ts.length ++ (m.ts.flatMap encTy ++ (putU m.gs.length ++ (m.gs.flatMap encFn ++ r))) := by
    unfold encM
    rw [List.append_assoc, List.append_assoc, List.append_assoc]
    show (magicB ++ _).drop magicB.length ++ r = _
    rw [List.drop_left]
    simp
  rw [e]
  refine thenX_mk (thenX_mk rfl (cntX_enc encTy (fun t => (t.len, t.fs)) m.ts (fun t ht r => tyX_enc (h2 t ht) r) h1 (by decide) _)) (cntX_enc encFn fnQ m.gs (fun g hg r => ?_) h4 (by decide) r)
  obtain ⟨j, hj⟩ := List.mem_iff_getElem?.1 hg
  exact fnX_enc (h5 j g hj).1 (h5 j g hj).2 (ha g hg) r
theorem datQ_modQ {m : ModR} (h : (chkM m).1 = 0) : datQ (modQ m) = datM m := by
  obtain ⟨h1, h2, h3, h4, h5⟩ := chkM_ok h
  unfold datQ modQ datM
  dsimp only
  refine Prod.ext rfl ?_
  dsimp only
  rw [List.map_map]
  refine List.map_congr_left fun g hg => ?_
  obtain ⟨j, hj⟩ := List.mem_iff_getElem?.1 hg
  exact qD_fnQ (h5 j g hj).1
theorem encM_magic (m : ModR) : (encM m).take 4 = magicB := by
  unfold encM
  rw [List.append_assoc, List.append_assoc, List.append_assoc]
  show (magicB ++ _).take magicB.length = _
  rw [List.take_left]
theorem decM_enc {m : ModR} (h : (chkM m).1 = 0) (ha : ∀ g ∈ m.gs, ∀ i ∈ g.code, i.arg < 18446744073709551616) (hl : (encM m).length ≤ 65536) : decM (encM m) = .ok (datM m) := by
  have hd := decX_enc h ha []
  rw [List.append_nil] at hd
  unfold decM
  rw [if_neg (by omega), if_neg (fun hh => hh (encM_magic m))]
  rw [decK_ok (q := modQ m) (m := m) (by unfold decL; rw [hd]; rfl) (datQ_modQ h).symm, if_pos h]
theorem encTy_bytes (t : TyR) : bytesP (encTy t) := encB_byte _ _
theorem encI_bytes {i : Ins} (h : i.err = 0) : bytesP (encI i) := fun x hx => by
  obtain ⟨hk, -⟩ := Ins.err_zero h
  unfold encI at hx
  rcases List.mem_cons.1 hx with rfl | hx
  · omega
  · split at hx
    · exact putU_byte _ x hx
    · cases hx
theorem flat_bytes {α : Type} (f : α → List Nat) : ∀ (l : List α), (∀ x ∈ l, bytesP (f x)) → bytesP (l.flatMap f) := fun l h x hx => by
  obtain ⟨y, hy, hx⟩ := List.mem_flatMap.1 hx
  exact h y hy x hx
theorem app_bytes {a b : List Nat} (ha : bytesP a) (hb : bytesP b) : bytesP (a ++ b) := fun x hx => (List.mem_append.1 hx).elim (ha x) (hb x)
theorem encM_bytes {m : ModR} (h : (chkM m).1 = 0) : bytesP (encM m) := by
  obtain ⟨h1, h2, h3, h4, h5⟩ := chkM_ok h
  unfold encM
  refine app_bytes (app_bytes (app_bytes (app_bytes (show ∀ x ∈ magicB, x < 256 by decide) (putU_byte _)) (flat_bytes _ _ fun t _ => encTy_bytes t)) (putU_byte _)) (flat_bytes _ _ fun g hg => ?_)
  obtain ⟨j, hj⟩ := List.mem_iff_getElem?.1 hg
  exact app_bytes (flat_bytes _ _ fun n _ => putU_byte n) (flat_bytes _ _ fun i hi => encI_bytes ((h5 j g hj).2 i hi))
/-- No proper prefix of an encoding is one. -/
theorem decM_pre {m : ModR} (h : (chkM m).1 = 0) (ha : ∀ g ∈ m.gs, ∀ i ∈ g.code, i.arg < 18446744073709551616) {k : Nat} (hk : k < (encM m).length) (d : List (Int × List Fd) × List (Int × Int × Int × List Ins)) : ¬ decM ((encM m).take k) = .ok d := fun hd => by
  unfold decM at hd
  split at hd
  · cases hd
  split at hd
  · cases hd
  · rename_i h4
    cases hL : decL (((encM m).take k).drop 4) with
    | error e => rw [hL] at hd; cases hd
    | ok q =>
      unfold decL at hL
      cases hX : decX (((encM m).take k).drop 4) with
      | error e => rw [hX] at hL; cases hL
      | ok p =>
        obtain ⟨q', r⟩ := p
        rw [hX] at hL
        dsimp only at hL
        by_cases hr : r = []
        · subst hr
          have hk4 : 4 ≤ k := by
            have h5 := congrArg List.length (Classical.not_not.1 h4)
            rw [List.length_take, List.length_take] at h5
            simp only [magicB, List.length_cons, List.length_nil] at h5
            omega
          have hb : bytesP (((encM m).take k).drop 4) := fun x hx => encM_bytes h x (List.mem_of_mem_take (List.mem_of_mem_drop hx))
          have h6 := (decX_ext _ _ _ hb hX).2 ((encM m).drop k)
          have h7 : ((encM m).take k).drop 4 ++ (encM m).drop k = (encM m).drop 4 := by
            rw [← List.drop_append_of_le_length (by rw [List.length_take]; omega), List.take_append_drop]
          have h8 := decX_enc h ha []
          rw [List.append_nil] at h8
          rw [h7, h8] at h6
          injection h6 with h6
          injection h6 with h6 h9
          have := congrArg List.length h9
          rw [List.nil_append, List.length_drop, List.length_nil] at this
          omega
        · rw [if_neg hr] at hL
          cases hL
end Go.Proofs.Ytlbmnioibiomfaa
/- Bytes that are changed; the length of an encoding: plain. -/
namespace Go.Proofs.Ytlbmnioibiomfaa
open Go.RowKit Go.Shelf
set_option linter.unusedVariables false
set_option linter.unusedSimpArgs false
set_option maxRecDepth 100000
theorem byte_parts {m : List Nat} (h : ∀ x ∈ m, x < 256) {c : Nat} (hc : c < 256) (k : Nat) : (∀ x ∈ m.take k ++ [c] ++ m.drop k, x < 256) ∧ (∀ x ∈ m.take k ++ m.drop (k + 1), x < 256) ∧ ∀ x ∈ m.set k c, x < 256 := by
  refine ⟨fun x hx => ?_, fun x hx => ?_, fun x hx => ?_⟩
  · simp only [List.mem_append, List.mem_singleton] at hx
    rcases hx with (hx | hx) | hx
    · exact h x (List.mem_of_mem_take hx)
    · omega
    · exact h x (List.mem_of_mem_drop hx)
  · rcases List.mem_append.1 hx with hx | hx
    · exact h x (List.mem_of_mem_take hx)
    · exact h x (List.mem_of_mem_drop hx)
  · rcases List.mem_or_eq_of_mem_set hx with hx | hx
    · exact h x hx
    · omega
theorem byt_set (m : List Nat) (k c : Nat) : (byt m).set k (.int .u8 (c : Int)) = byt (m.set k c) := by simp [byt, List.map_set]
theorem u8b (op : BinOp) (a b : Int) : 0 ≤ bits op .u8 a b ∧ bits op .u8 a b < 256 := by
  unfold bits
  dsimp only
  rw [IntKind.wrap_u8]
  omega
theorem encM_pos (m : ModR) : 4 ≤ (encM m).length := by
  have := congrArg List.length (encM_magic m)
  rw [List.length_take] at this
  simp [magicB] at this
  omega
end Go.Proofs.Ytlbmnioibiomfaa
/- What a decoding hands back has the bytes as its encoding: plain. -/
namespace Go.Proofs.Ytlbmnioibiomfaa
open Go.RowKit Go.Shelf
set_option linter.unusedVariables false
set_option linter.unusedSimpArgs false
/-- What is read and what is left are the bytes. -/
def Fro {α : Type} (f : α → List Nat) (g : List Nat → Rs α) : Prop := ∀ l a r, bytesP l → g l = .ok (a, r) → bytesP r ∧ f a ++ r = l
theorem numX_fro (most : Nat) : Fro putU (numX most) := fun l a r hb h => by
  unfold numX at h
  split at h
  · rename_i h0
    injection h with h
    injection h with h1 h2
    subst h1 h2
    refine ⟨bytes_drop hb _, ?_⟩
    rcases smF_cases hb (Nat.zero_le _) (most := most) with k | ⟨-, -, -, -, k, -⟩
    · exact absurd h0 k.1
    · rw [k, List.drop_zero, Nat.sub_zero, List.take_append_drop]
  · cases h
theorem tyX_fro : Fro (fun t : Int × List Fd => encB t.1 t.2) tyX := fun l a r hb h => by
  unfold tyX at h
  split at h
  · rename_i h0
    injection h with h
    injection h with h1 h2
    subst h1 h2
    refine ⟨bytes_drop hb _, ?_⟩
    show encB _ _ ++ _ = _
    rw [(decF_only hb h0).2.1, List.take_append_drop]
  · cases h
theorem decI_only {l : List Nat} (hb : bytesP l) (h : (decI l).2.2 = 0) : encI (decI l).1 = l.take (decI l).2.1 := by
  cases l with
  | nil => exact absurd h (by decide)
  | cons c l =>
    have hbl : ∀ x ∈ l, x < 256 := fun x hx => hb x (by simp [hx])
    rw [decI_cons] at h ⊢
    split
    · rename_i h1
      rw [if_pos h1] at h
      exact absurd h (by decide)
    · rename_i h1
      rw [if_neg h1] at h
      split
      · rename_i h2
        unfold encI
        dsimp only
        rw [if_neg h2, Int.toNat_natCast]
        rfl
      · rename_i h2
        rw [if_neg h2] at h
        split
        · rename_i h3
          rcases uD_cases l 0 (by omega) hbl with ⟨-, -, k | k⟩ | ⟨-, -, -, -, -, -, k⟩
          · omega
          · omega
          · unfold encI
            dsimp only
            rw [if_pos (Decidable.not_not.1 h2), Int.toNat_natCast, k, Nat.add_comm 1, List.take_succ_cons]
        · rename_i h3
          rw [if_neg h3] at h
          exact absurd h h3
theorem inX_fro : Fro encI inX := fun l a r hb h => by
  unfold inX at h
  split at h
  · rename_i h0
    injection h with h
    injection h with h1 h2
    subst h1 h2
    exact ⟨bytes_drop hb _, by rw [decI_only hb h0, List.take_append_drop]⟩
  · cases h
theorem manyX_fro {α : Type} {f : α → List Nat} {g : List Nat → Rs α} (hg : Fro f g) : ∀ (k : Nat) (l : List Nat) (xs : List α) (r : List Nat), bytesP l → manyX g k l = .ok (xs, r) → bytesP r ∧ xs.length = k ∧ xs.flatMap f ++ r = l
  | 0, l, xs, r, hb, h => by
    unfold manyX at h
    injection h with h
    injection h with h1 h2
    subst h1 h2
    exact ⟨hb, rfl, rfl⟩
  | k + 1, l, xs, r, hb, h => by
    unfold manyX at h
    cases hx : g l with
    | error e => rw [hx] at h; cases h
    | ok p =>
      obtain ⟨x, l'⟩ := p
      rw [hx] at h
      dsimp only at h
      obtain ⟨b1, e1⟩ := hg _ _ _ hb hx
      cases hm : manyX g k l' with
      | error e => rw [hm] at h; cases h
      | ok p =>
        obtain ⟨ys, l''⟩ := p
        rw [hm] at h
        injection h with h
        injection h with h1 h2
        subst h1 h2
        obtain ⟨b2, e2, e3⟩ := manyX_fro hg k l' _ _ b1 hm
        exact ⟨b2, by simp [e2], by rw [List.flatMap_cons, List.append_assoc, e3, e1]⟩
theorem cntX_fro {α : Type} {f : α → List Nat} {g : List Nat → Rs α} (hg : Fro f g) (most : Nat) : Fro (fun xs : List α => putU xs.length ++ xs.flatMap f) (cntX g most) := fun l a r hb h => by
  unfold cntX at h
  cases hn : numX most l with
  | error e => rw [hn] at h; cases h
  | ok p =>
    obtain ⟨n, l'⟩ := p
    rw [hn] at h
    dsimp only at h
    obtain ⟨b1, e1⟩ := numX_fro most _ _ _ hb hn
    obtain ⟨b2, e2, e3⟩ := manyX_fro hg n l' _ _ b1 h
    refine ⟨b2, ?_⟩
    dsimp only
    rw [e2, List.append_assoc, e3, e1]
theorem thenX_fro {α β : Type} {f1 : α → List Nat} {f2 : β → List Nat} {h1 : List Nat → Rs α} {g : List Nat → Rs β} (hf : Fro f1 h1) (hg : Fro f2 g) : Fro (fun p : α × β => f1 p.1 ++ f2 p.2) (fun l => thenX (h1 l) g) := fun l a r hb h => by
  obtain ⟨a, b⟩ := a
  obtain ⟨l', k1, k2⟩ := thenX_ok h
  obtain ⟨b1, e1⟩ := hf _ _ _ hb k1
  obtain ⟨b2, e2⟩ := hg _ _ _ b1 k2
  exact ⟨b2, by dsimp only; rw [List.append_assoc, e2, e1]⟩
theorem unit_fro : Fro (fun _ : Unit => []) (fun l => (.ok ((), l) : Rs Unit)) := fun l a r hb h => by
  injection h with h
  injection h with h1 h2
  subst h2
  exact ⟨hb, rfl⟩
def encQf (q : FnQ) : List Nat := (((([] ++ putU q.1.1.1.2) ++ putU q.1.1.2) ++ putU q.1.2) ++ (putU q.2.length ++ q.2.flatMap encI))
theorem fnX_fro : Fro encQf fnX := thenX_fro (thenX_fro (thenX_fro (thenX_fro unit_fro (numX_fro _)) (numX_fro _)) (numX_fro _)) (cntX_fro inX_fro _)
def encQm (q : ModQ) : List Nat := ([] ++ (putU q.1.2.length ++ q.1.2.flatMap fun t => encB t.1 t.2)) ++ (putU q.2.length ++ q.2.flatMap encQf)
theorem decX_fro : Fro encQm decX := thenX_fro (thenX_fro unit_fro (cntX_fro tyX_fro _)) (cntX_fro fnX_fro _)
theorem encFn_q (q : FnQ) : encFn ⟨(qD q).1, (qD q).2.1, (qD q).2.2.1, none, 0, 0, (qD q).2.2.2⟩ = encQf q := by
  unfold encFn encQf qD
  simp [List.flatMap_cons, List.flatMap_nil]
theorem encM_q (q : ModQ) : encM (ofD (datQ q)) = magicB ++ encQm q := by
  unfold encM encQm ofD datQ
  simp only [List.length_map, List.flatMap_map, List.nil_append, List.append_assoc]
  congr 1
  congr 1
  congr 1
  congr 1
  refine congrArg (fun f => q.2.flatMap f) (funext fun x => ?_)
  exact encFn_q x
theorem decM_only {b : List Nat} (hb : bytesP b) {m : ModR} (h : decM b = .ok (datM m)) : encM m = b ∧ (chkM m).1 = 0 ∧ b.length ≤ 65536 := by
  unfold decM at h
  split at h
  · cases h
  · rename_i h1
    split at h
    · cases h
    · rename_i h2
      have h2 := Decidable.not_not.1 h2
      unfold decK at h
      cases hl : decL (b.drop 4) with
      | error e => rw [hl] at h; cases h
      | ok q =>
        rw [hl] at h
        dsimp only at h
        split at h
        · rename_i h3
          injection h with h
          unfold decL at hl
          cases hx : decX (b.drop 4) with
          | error e => rw [hx] at hl; cases hl
          | ok p =>
            obtain ⟨q', r⟩ := p
            rw [hx] at hl
            dsimp only at hl
            split at hl
            · rename_i hr
              injection hl with hl
              subst hl hr
              obtain ⟨-, e⟩ := decX_fro _ _ _ (bytes_drop hb 4) hx
              rw [List.append_nil] at e
              refine ⟨?_, ?_, by omega⟩
              · rw [encM_dat (m := m) (k := ofD (datQ q')) (by rw [datM_ofD, h]), encM_q, e, ← h2, List.take_append_drop]
              · rw [chkM_dat (m := m) (k := ofD (datQ q')) (by rw [datM_ofD, h])]
                exact h3
            · cases hl
        · cases h
theorem decM_errM {b : List Nat} (hb : bytesP b) {m : ModR} (h : decM b = .ok (datM m)) : errM m = 0 ∧ encMod m = b := by
  obtain ⟨h1, h2, h3⟩ := decM_only hb h
  obtain ⟨e1, e2⟩ := errM_ok h2 (by rw [h1]; omega)
  exact ⟨e1, e2.trans h1⟩
end Go.Proofs.Ytlbmnioibiomfaa
/- The law VerifyOnce, walked. -/
namespace Go.Proofs.Ytlbmnioibiomfaa
open Go.RowKit Go.Shelf
set_option linter.unusedVariables false
set_option linter.unusedSimpArgs false
set_option maxRecDepth 100000
set_option maxRecDepth 100000 in
theorem sVeLOn1 : type_of% (And.intro (And.intro (And.intro @mBox.eq_1 (And.intro @modV.eq_1 @flBox.eq_1)) (And.intro @fltV.eq_1 (And.intro @fineF.eq_1 @vldV.eq_1))) (And.intro (And.intro @tape.eq_1 (And.intro @tpBox.eq_1 @zMod.eq_1)) (And.intro @Nat.mul_one (And.intro @cS @wrap_in)))) := (And.intro (And.intro (And.intro @mBox.eq_1 (And.intro @modV.eq_1 @flBox.eq_1)) (And.intro @fltV.eq_1 (And.intro @fineF.eq_1 @vldV.eq_1))) (And.intro (And.intro @tape.eq_1 (And.intro @tpBox.eq_1 @zMod.eq_1)) (And.intro @Nat.mul_one (And.intro @cS @wrap_in))))
set_option maxHeartbeats 8000000 in
theorem vOnce_walk (W : World) (B : Option Addr) (m d : Nat) (l : List Nat) (hU : Sl W W.heap.size 1 B m d (u16c l)) (hl : ∀ x ∈ l, x < 65536) (at' : Int) (hat : 0 ≤ at' ∧ at' ≤ 65535) (by' : Int) (hby : 0 ≤ by' ∧ by' ≤ 255) :
    Calls Try.prog 3 #[.slice B m d, .int .u16 at', .int .u8 by'] W fun e w' => e = .returned (.bool true) ∧ Below W.heap.size W w' := by
  have hl60 : ∀ x ∈ l.take 60, x < 65536 := fun x hx => hl x (List.mem_of_mem_take hx)
  have hmV : ∀ m : ModR, (Value.agg #[.slice m.TA m.tn m.tc, .slice m.FA m.fn m.fc]) = modV m := fun _ => rfl
  obtain ⟨x, rfl⟩ : ∃ x : Nat, by' = (x : Int) := ⟨by'.toNat, by omega⟩
  obtain ⟨p, rfl⟩ : ∃ x : Nat, at' = (x : Int) := ⟨at'.toNat, by omega⟩
  refine calls_cv (M := []) (n := 76) [.tmp 6] rfl Try.func3 rfl rfl (Nat.le_of_ble_eq_true rfl) (St.nil _ _) ?_
  refine cv_seq_k fun K hK => ?_
  refine cv_region_then rfl ?_
  simp -implicitDefEqProofs (disch := first | omega | decide) only [seval, -Int.reducePow, -Nat.reducePow, cC, pv, binv, sVeLOn1, undef]
  refine hK _ _ ?_
  clear hK K
  refine cv_seq_k fun K hK => ?_
  refine cv_region_then rfl ?_
  simp -implicitDefEqProofs (disch := first | omega | decide) only [seval, -Int.reducePow, -Nat.reducePow, cC, pv, binv, sVeLOn1, undef]
  refine callV_boxRow (fun w hw => of_any B m d l 60 w (hU.at hw) (by omega)) ?_
  intro b4 A2 n2 c2 hl2 hb4 hf4 hr2
  simp -implicitDefEqProofs (disch := first | omega | decide) only [seval, -Int.reducePow, -Nat.reducePow, cC, pv, binv, sVeLOn1, undef] at hf4
  simp -implicitDefEqProofs (disch := first | omega | decide) only [seval, -Int.reducePow, -Nat.reducePow, cC, pv, binv, sVeLOn1, undef]
  refine callV_nestM 1 (fun p : ModR × Nat => modV p.1) (fun p w w' => ModD w' (Nw w w') p.1 ∧ Good p.1) (fun p => tape A2 n2 c2 p.2) rfl (fun w hw => module_any b4 A2 n2 c2 (l.take 60) 0 10 w (hw.hold 1 rfl) (hw.slr 0 rfl) (fun _ => hr2.apt) hl60 (by omega) (by omega)) ?_
  rintro ⟨k1, j⟩ w0 w1 f1 hw0 hw1 ⟨hk, hg⟩ hNw
  dsimp only at *
  have hkD : ModD w1 (Dm [] W f1) k1 := hk.mono fun y hy => .inl (hNw y hy)
  have hchk : (chkM k1).1 = 0 := by rw [hg.chk]; rfl
  have hbb : ∀ x ∈ encM k1, x < 256 := encM_bytes hchk
  obtain ⟨he1, he2⟩ := hg.err
  have hlen := hg.len
  have hpl := encM_pos k1
  simp -implicitDefEqProofs (disch := first | omega | decide) only [seval, -Int.reducePow, -Nat.reducePow, cC, pv, binv, sVeLOn1, undef]
  rw [hmV k1]
  refine callV_row (fun A n c => .slice A n c) (fun w hw => (by have := encoded_any k1 w (hkD.at hw 0 rfl); rw [he2] at this; exact this)) ?_
  intro A4 n4 c4 hl4 hr4
  have hn4 : (encM k1).length = n4 := byt_row hl4
  simp -implicitDefEqProofs (disch := first | omega | decide) only [seval, -Int.reducePow, -Nat.reducePow, cC, pv, binv, sVeLOn1, undef]
  refine hK _ _ ?_
  clear hK K
  refine cv_pick [0] (by decide) ?_
  simp only [pickL, nth]
  refine cv_cap 0 rfl fun hcap hcmax => ?_
  obtain ⟨g, rfl, hgw⟩ : ∃ g, A4 = some ⟨g, 0, none⟩ ∧ W.heap.size ≤ g := by
    rcases hr4 with ⟨rfl, h0⟩ | ⟨g, rfl, h, _⟩
    · omega
    · exact ⟨g, rfl, by simpa using h⟩
  clear he1 he2 hk hkD hw0 hw1 hNw hchk hg
  generalize encM k1 = bs at *
  refine cv_gen fun G1 hG => ?_
  have g1_1 := congrFun hG 1
  have g1_2 := congrFun hG 2
  have g1_7 := congrFun hG 7
  clear hG
  try simp -implicitDefEqProofs (disch := first | omega | decide) only [seval, -Int.reducePow, -Nat.reducePow, cC, pv, binv, sVeLOn1, undef] at g1_1 g1_2 g1_7
  have g1 := And.intro g1_1 (And.intro g1_2 g1_7)
  refine cv_seq_k fun K hK => ?_
  refine cv_cut (fun _ _ => True) (fun F' L' => ∃ (m9 : List Nat), F' 7 = G1 7 ∧ L' = [.row (.slice (some ⟨g, 0, none⟩) n4 c4) 5 1 n4 (byt m9)] ∧ (∀ x ∈ m9, x < 256)) ?_ ?_
  · have hn0 : decide ((0 : Int) < (n4 : Int)) = true := decide_eq_true (by omega)
    obtain ⟨r, hr⟩ : ∃ r : Int, (x : Int) % 2 = r := ⟨_, rfl⟩
    refine cv_seq_k fun K hK => ?_
    refine cv_region_then rfl ?_
    simp -implicitDefEqProofs (disch := first | omega | decide) only [seval, -Int.reducePow, -Nat.reducePow, cC, pv, binv, sVeLOn1, undef, hn0, hr, g1]
    refine hK _ _ ?_
    clear hK K
    refine cv_cond ?_
    simp -implicitDefEqProofs (disch := first | omega | decide) only [seval, -Int.reducePow, -Nat.reducePow, cC, pv, binv, sVeLOn1, undef, g1]
    refine ⟨fun hc => ?_, fun hc => ?_⟩
    · obtain ⟨k, hk⟩ : ∃ k : Nat, (p : Int) % (n4 : Int) = (k : Int) := ⟨p % n4, by rw [Int.natCast_emod]⟩
      have hkn : k < n4 := by
        have := Int.emod_lt_of_pos (p : Int) (show (0 : Int) < n4 by omega)
        omega
      refine cv_region_q rfl ?_
      simp -implicitDefEqProofs (disch := first | omega | decide) only [seval, -Int.reducePow, -Nat.reducePow, cC, pv, binv, sVeLOn1, undef, hk, g1]
      refine ⟨_, sv_row 0 rfl (by rw [byt_len]; omega) (by kernel_rfl) rfl rfl, fun tok htok => ?_⟩
      subst htok
      simp -implicitDefEqProofs (disch := first | omega | decide) only [seval, -Int.reducePow, -Nat.reducePow, cC, pv, binv, sVeLOn1, undef, g1]
      exact ⟨bs.set k x, by rw [byt_set], (byte_parts hbb (show x < 256 by omega) k).2.2⟩
    · refine cv_skip ?_
      try simp only [blockQ, thenQ]
      simp -implicitDefEqProofs (disch := first | omega | decide) only [seval, -Int.reducePow, -Nat.reducePow, cC, pv, binv, sVeLOn1, undef, g1]
      exact ⟨bs, rfl, hbb⟩
  intro G2 L' _ hF
  obtain ⟨m9, q7, rfl, h9⟩ := hF
  have g2_7 := q7.trans g1_7
  clear q7
  have g2 := g2_7
  refine hK _ _ ?_
  clear hK K
  refine cv_gen fun G3 hG => ?_
  have g3_7 := congrFun hG 7
  clear hG
  try simp -implicitDefEqProofs (disch := first | omega | decide) only [seval, -Int.reducePow, -Nat.reducePow, cC, pv, binv, sVeLOn1, undef, g2] at g3_7
  have g3 := g3_7
  refine cv_seq_k fun K hK => ?_
  refine cv_region_then rfl ?_
  simp -implicitDefEqProofs (disch := first | omega | decide) only [seval, -Int.reducePow, -Nat.reducePow, cC, pv, binv, sVeLOn1, undef, g3]
  refine callV_nest vldV (ldΦ m9) (fun w hw => Load_any _ n4 c4 m9 w (hw.slb 0 rfl) h9) ?_
  rintro ⟨k, f⟩ w2 w3 f2 hw2 hw3 ⟨hk, hp⟩ hNw2
  dsimp only at hk hp
  have hkD : ModD w3 (Dm [] W f2) k := hk.mono fun y hy => .inl (hNw2 y hy)
  have hcase : (¬ f.1 = 0 ∧ k = zMod) ∨ (f = fineF ∧ decM m9 = .ok (datM k) ∧ (verM k).1 = 0) := by
    rcases hp with ⟨e, he, -, h1, rfl⟩ | ⟨q, h1, ⟨h2, rfl, rfl⟩ | ⟨h2, h3, rfl⟩⟩
    · exact .inl ⟨he, h1⟩
    · exact .inr ⟨rfl, h1, h2⟩
    · exact .inl ⟨h2, h3⟩
  clear hp
  simp -implicitDefEqProofs (disch := first | omega | decide) only [seval, -Int.reducePow, -Nat.reducePow, cC, pv, binv, sVeLOn1, undef, g3]
  intro b8 hb8 b9 hb9 hf9
  simp -implicitDefEqProofs (disch := first | omega | decide) only [seval, -Int.reducePow, -Nat.reducePow, cC, pv, binv, sVeLOn1, undef, g3]
  refine hK _ _ ?_
  clear hK K
  refine cv_gen fun G4 hG => ?_
  have g4_7 := congrFun hG 7
  have g4_8 := congrFun hG 8
  have g4_9 := congrFun hG 9
  clear hG
  try simp -implicitDefEqProofs (disch := first | omega | decide) only [seval, -Int.reducePow, -Nat.reducePow, cC, pv, binv, sVeLOn1, undef, g3] at g4_7 g4_8 g4_9
  have g4 := And.intro g4_7 (And.intro g4_8 g4_9)
  refine cv_seq_k fun K hK => ?_
  refine cv_seq_k fun K hK => ?_
  refine cv_region_then rfl ?_
  rcases hcase with ⟨hz, rfl⟩ | ⟨rfl, hdec, hver⟩
  · have hzd : decide (f.1 = 0) = false := decide_eq_false hz
    simp -implicitDefEqProofs (disch := first | omega | decide) only [seval, -Int.reducePow, -Nat.reducePow, cC, pv, binv, sVeLOn1, undef, hzd, g4]
    refine hK _ _ ?_
    clear hK K
    refine cv_cond ?_
    simp -implicitDefEqProofs (disch := first | omega | decide) only [seval, -Int.reducePow, -Nat.reducePow, cC, pv, binv, sVeLOn1, undef, g4]
    refine cv_seq_k fun K hK => ?_
    refine cv_region_then rfl ?_
    simp -implicitDefEqProofs (disch := first | omega | decide) only [seval, -Int.reducePow, -Nat.reducePow, cC, pv, binv, sVeLOn1, undef, g4]
    refine callV_ret (fun w hw => vAwake_any w) ?_
    try simp -implicitDefEqProofs (disch := first | omega | decide) only [seval, -Int.reducePow, -Nat.reducePow, cC, pv, binv, sVeLOn1, undef, g4]
    refine hK _ _ ?_
    clear hK K
    refine cv_ret ⟨_, (by simp -implicitDefEqProofs (disch := first | omega | decide) only [seval, -Int.reducePow, -Nat.reducePow, cC, pv, binv, sVeLOn1, undef, g4]; rfl), fun w hw => ?_⟩
    exact ⟨rfl, hw.below⟩
  · obtain ⟨hm1, hm2⟩ := decM_errM h9 hdec
    have hfin := (verM_ok hver).2.1
    simp -implicitDefEqProofs (disch := first | omega | decide) only [seval, -Int.reducePow, -Nat.reducePow, cC, pv, binv, sVeLOn1, undef, g4]
    refine hK _ _ ?_
    clear hK K
    refine cv_cond ?_
    simp -implicitDefEqProofs (disch := first | omega | decide) only [seval, -Int.reducePow, -Nat.reducePow, cC, pv, binv, sVeLOn1, undef, g4]
    refine cv_skip ?_
    try simp only [blockQ, thenQ]
    refine hK _ _ ?_
    clear hK K
    refine cv_seq_k fun K hK => ?_
    refine cv_region_then rfl ?_
    simp -implicitDefEqProofs (disch := first | omega | decide) only [seval, -Int.reducePow, -Nat.reducePow, cC, pv, binv, sVeLOn1, undef, g4]
    rw [hmV k]
    refine callV_row (fun A n c => .tuple #[.slice A n c, .int .i64 0]) (fun w hw => (by have := rmenc_any k w (hkD.at hw 2 rfl); rw [hm1, hm2] at this; exact this)) ?_
    intro A10 n10 c10 hl10 hr10
    simp -implicitDefEqProofs (disch := first | omega | decide) only [seval, -Int.reducePow, -Nat.reducePow, cC, pv, binv, sVeLOn1, undef, g4]
    refine hK _ _ ?_
    clear hK K
    refine cv_gen fun G5 hG => ?_
    have g5_7 := congrFun hG 7
    have g5_8 := congrFun hG 8
    have g5_10 := congrFun hG 10
    have g5_11 := congrFun hG 11
    clear hG
    try simp -implicitDefEqProofs (disch := first | omega | decide) only [seval, -Int.reducePow, -Nat.reducePow, cC, pv, binv, sVeLOn1, undef, g4] at g5_7 g5_8 g5_10 g5_11
    have g5 := And.intro g5_7 (And.intro g5_8 (And.intro g5_10 g5_11))
    refine cv_seq_k fun K hK => ?_
    refine cv_region_then rfl ?_
    simp -implicitDefEqProofs (disch := first | omega | decide) only [seval, -Int.reducePow, -Nat.reducePow, cC, pv, binv, sVeLOn1, undef, g5]
    refine callV_ret (fun w hw => vAwake_any w) ?_
    try simp -implicitDefEqProofs (disch := first | omega | decide) only [seval, -Int.reducePow, -Nat.reducePow, cC, pv, binv, sVeLOn1, undef, g5]
    refine ⟨_, fun w hw => hw.strk 0 rfl, fun tok htok => ?_⟩
    subst htok
    simp -implicitDefEqProofs (disch := first | omega | decide) only [seval, -Int.reducePow, -Nat.reducePow, cC, pv, binv, sVeLOn1, undef, g5]
    refine ⟨_, fun w hw => hw.strk 4 rfl, fun tok htok => ?_⟩
    subst htok
    simp -implicitDefEqProofs (disch := first | omega | decide) only [seval, -Int.reducePow, -Nat.reducePow, cC, pv, binv, sVeLOn1, undef, g5]
    rw [hmV k]
    refine callV_ret (fun w hw => Verify_any k w (hkD.at hw 3 rfl)) ?_
    try simp -implicitDefEqProofs (disch := first | omega | decide) only [seval, -Int.reducePow, -Nat.reducePow, cC, pv, binv, sVeLOn1, undef, hfin, g5]
    refine hK _ _ ?_
    clear hK K
    refine cv_ret ⟨_, (by simp -implicitDefEqProofs (disch := first | omega | decide) only [seval, -Int.reducePow, -Nat.reducePow, cC, pv, binv, sVeLOn1, undef, g5]; rfl), fun w hw => ?_⟩
    exact ⟨rfl, hw.below⟩
end Go.Proofs.Ytlbmnioibiomfaa
