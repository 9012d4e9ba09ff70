/- The arena's code: New, and what only reads. -/
import Derived.Test.YtfaanphjaghbpaaAlMut
namespace Go.Proofs.Ytfaanphjaghbpaa
open Go.RowKit Go.Shelf
set_option linter.unusedVariables false
set_option linter.unusedSimpArgs false
set_option maxRecDepth 100000
theorem bclone_any (A : Option Addr) (n c : Nat) (l : List Nat) (W : World) (hE : Sl W W.heap.size 1 A n c (byt l)) (hn : n ≤ 140000000000000) :
    Calls Try.prog 38 #[.slice A n c] W (rowPost 5 1 (fun v => v) (byt l) W) := by
  have hl := byt_row hE.len
  refine calls_cv (M := []) (n := 8) [.tmp 2] rfl Try.func38 rfl rfl (Nat.le_of_ble_eq_true rfl) (St.nil _ _) ?_
  refine cv_seq_k fun K hK => ?_
  refine cv_region_then rfl ?_
  simp -implicitDefEqProofs (disch := first | omega | decide) only [seval, -Int.reducePow, -Nat.reducePow, cC, pv, binv]
  refine hK _ _ ?_
  clear hK K
  refine cv_seq_k fun K hK => ?_
  refine cv_seq_k fun K hK => ?_
  refine cv_region_then rfl ?_
  simp -implicitDefEqProofs (disch := first | omega | decide) only [seval, -Int.reducePow, -Nat.reducePow, cC, pv, binv]
  refine hK _ _ ?_
  clear hK K
  refine cv_cond ?_
  simp -implicitDefEqProofs (disch := first | omega | decide) only [seval, -Int.reducePow, -Nat.reducePow, cC, pv, binv]
  refine ⟨fun hc => ?_, fun hc => ?_⟩
  · refine cv_seq_k fun K hK => ?_
    refine cv_region_then rfl ?_
    simp -implicitDefEqProofs (disch := first | omega | decide) only [seval, -Int.reducePow, -Nat.reducePow, cC, pv, binv]
    refine hK _ _ ?_
    clear hK K
    refine cv_ret ⟨_, (by simp -implicitDefEqProofs (disch := first | omega | decide) only [seval, -Int.reducePow, -Nat.reducePow, cC, pv, binv]; rfl), fun w hw => ?_⟩
    have hn0 : n = 0 := by
      rcases Nat.eq_zero_or_pos n with h | h
      · exact h
      · obtain ⟨b, off, rfl, _⟩ := hE.cells h
        simp at hc
    have hx : l = [] := List.eq_nil_of_length_eq_zero (by rw [hl, hn0])
    exact ⟨none, 0, 0, rfl, by rw [hx]; exact World.ownsRow_nil _ _ _ _, hw.below⟩
  · refine cv_skip ?_
    try simp only [blockQ, thenQ]
    refine hK _ _ ?_
    clear hK K
    refine cv_seq_k fun K hK => ?_
    refine cv_region_then rfl ?_
    simp -implicitDefEqProofs (disch := first | omega | decide) only [seval, -Int.reducePow, -Nat.reducePow, cC, pv, binv]
    intro b hb
    refine appV_lit 0 tap36 rfl rfl (fun w hw => (hE.at hw).reads) (ones_byt _) (by omega) (by omega) ?_
    intro A' c' hl _
    simp -implicitDefEqProofs (disch := first | omega | decide) only [seval, -Int.reducePow, -Nat.reducePow, cC, pv, binv]
    refine hK _ _ ?_
    clear hK K
    refine cv_ret ⟨_, (by simp -implicitDefEqProofs (disch := first | omega | decide) only [seval, -Int.reducePow, -Nat.reducePow, cC, pv, binv]; rfl), fun w hw => ?_⟩
    rw [Nat.zero_add] at *
    exact ⟨A', _, c', rfl, ownsRow_new (hw.holds _ (.head _)) (hw.own _ (.head _)), hw.below⟩
/-! ## An arena's memory -/
structure ArR where
  al : AlR
  bR : Nat
  bB : Nat
  N : Nat
  bs : List Nat
def arL (x : ArR) : List Res := .blk x.bR 64 [.pointer (some ⟨x.al.bA, 0, none⟩), .slice (some ⟨x.bB, 0, none⟩) x.N x.N] :: .blk x.bB 5 (byt x.bs) :: alL x.al
structure ArW (w : World) (B : Nat) (x : ArR) : Prop where
  blk : Sl w B 1 (some ⟨x.bR, 0, none⟩) 2 2 [.pointer (some ⟨x.al.bA, 0, none⟩), .slice (some ⟨x.bB, 0, none⟩) x.N x.N]
  bs : Sl w B 1 (some ⟨x.bB, 0, none⟩) x.N x.N (byt x.bs)
  al : AlW w B x.al
  len : x.N ≤ 1048576
section
variable {M : List Nat} {W w : World} {L : List Res} {x : ArR}
theorem ArW.at (h : ArW W W.heap.size x) (hw : St [] W L w) : ArW w w.heap.size x := ⟨h.blk.at hw, h.bs.at hw, h.al.at hw, h.len⟩
theorem ArW.lt {w : World} {B : Nat} (h : ArW w B x) : x.bR < B := by
  obtain ⟨b', o', e, hb, -⟩ := h.blk.cells (by omega)
  cases e
  exact hb
theorem ArW.of (hw : St M W L w) (i1 i2 i3 i4 i5 : Nat) (h1 : nth L i1 = some (.blk x.bR 64 [.pointer (some ⟨x.al.bA, 0, none⟩), .slice (some ⟨x.bB, 0, none⟩) x.N x.N])) (h2 : nth L i2 = some (.blk x.bB 5 (byt x.bs)))
    (h3 : nth L i3 = some (.blk x.al.bA 99 [.slice x.al.FA x.al.fn x.al.fc, .map (some x.al.bm)])) (h4 : nth L i4 = some (mpR x.al.bm x.al.tk))
    (h5 : nth L i5 = some (.row (.slice x.al.FA x.al.fn x.al.fc) 28 2 x.al.fn (exCells x.al.fr))) (hl : x.al.fr.length ≤ 500) (hb : x.bs.length = x.N) (hN : x.N ≤ 1048576) : ArW w w.heap.size x :=
  ⟨Sl.of_blk hw (nth_mem h1) rfl (by omega), Sl.of_blk hw (nth_mem h2) (by rw [byt_len]; omega) (by omega), AlW.of hw i3 i4 i5 h3 h4 h5 hl, hN⟩
end
set_option maxRecDepth 100000 in
theorem sArCode1 : type_of% (And.intro (And.intro (And.intro @eBox.eq_1 @exV.eq_1) (And.intro @alL.eq_1 @arL.eq_1)) (And.intro (And.intro @Nat.mul_one @wrap_in) (And.intro @cMp @cM))) := (And.intro (And.intro (And.intro @eBox.eq_1 @exV.eq_1) (And.intro @alL.eq_1 @arL.eq_1)) (And.intro (And.intro @Nat.mul_one @wrap_in) (And.intro @cMp @cM)))
theorem parts_any (x : ArR) (W : World) (h : ArW W W.heap.size x) : Calls Try.prog 33 #[.pointer (some ⟨x.bR, 0, none⟩)] W
    fun e w' => e = .returned (.pointer (some ⟨x.al.bA, 0, none⟩)) ∧ Below W.heap.size W w' := by
  have hbR := h.lt
  refine calls_cv (M := []) (n := 9) [.tmp 2] rfl Try.func33 rfl rfl (Nat.le_of_ble_eq_true rfl) (St.nil _ _) ?_
  refine cv_seq_k fun K hK => ?_
  refine cv_region_then rfl ?_
  simp -implicitDefEqProofs (disch := first | omega | decide) only [seval, -Int.reducePow, -Nat.reducePow, cC, pv, binv, sArCode1, undef]
  refine hK _ _ ?_
  clear hK K
  refine cv_seq_k fun K hK => ?_
  refine cv_seq_k fun K hK => ?_
  refine cv_region_then rfl ?_
  simp -implicitDefEqProofs (disch := first | omega | decide) only [seval, -Int.reducePow, -Nat.reducePow, cC, pv, binv, sArCode1, undef]
  refine hK _ _ ?_
  clear hK K
  refine cv_cond ?_
  simp -implicitDefEqProofs (disch := first | omega | decide) only [seval, -Int.reducePow, -Nat.reducePow, cC, pv, binv, sArCode1, undef]
  refine cv_skip ?_
  try simp only [blockQ, thenQ]
  refine hK _ _ ?_
  clear hK K
  refine cv_seq_k fun K hK => ?_
  refine cv_region_then rfl ?_
  simp -implicitDefEqProofs (disch := first | omega | decide) only [seval, -Int.reducePow, -Nat.reducePow, cC, pv, binv, sArCode1, undef]
  refine ⟨_, h.blk.ld1 (m := 1) (i := 0) (by kernel_rfl) rfl, fun tok htok => ?_⟩
  subst htok
  simp -implicitDefEqProofs (disch := first | omega | decide) only [seval, -Int.reducePow, -Nat.reducePow, cC, pv, binv, sArCode1, undef]
  refine hK _ _ ?_
  clear hK K
  refine cv_ret ⟨_, (by simp -implicitDefEqProofs (disch := first | omega | decide) only [seval, -Int.reducePow, -Nat.reducePow, cC, pv, binv, sArCode1, undef]; rfl), fun w hw => ?_⟩
  exact ⟨rfl, hw.below⟩
theorem arFits_any (x : ArR) (n : Int) (W : World) (h : ArW W W.heap.size x) : Calls Try.prog 30 #[.pointer (some ⟨x.bR, 0, none⟩), .int .i64 n] W
    fun e w' => e = .returned (.int .i64 (Ex.findF x.al.fr n).2) ∧ Below W.heap.size W w' := by
  refine calls_cv (M := []) (n := 9) [.tmp 4] rfl Try.func30 rfl rfl (Nat.le_of_ble_eq_true rfl) (St.nil _ _) ?_
  refine cv_seq_k fun K hK => ?_
  refine cv_region_then rfl ?_
  simp -implicitDefEqProofs (disch := first | omega | decide) only [seval, -Int.reducePow, -Nat.reducePow, cC, pv, binv, sArCode1, undef]
  refine hK _ _ ?_
  clear hK K
  refine cv_seq_k fun K hK => ?_
  refine cv_region_then rfl ?_
  simp -implicitDefEqProofs (disch := first | omega | decide) only [seval, -Int.reducePow, -Nat.reducePow, cC, pv, binv, sArCode1, undef]
  refine callV_ret (fun w hw => parts_any x w (h.at hw)) ?_
  try simp -implicitDefEqProofs (disch := first | omega | decide) only [seval, -Int.reducePow, -Nat.reducePow, cC, pv, binv, sArCode1, undef]
  refine callV_ret (fun w hw => Fits_any x.al n w (h.at hw).al) ?_
  try simp -implicitDefEqProofs (disch := first | omega | decide) only [seval, -Int.reducePow, -Nat.reducePow, cC, pv, binv, sArCode1, undef]
  refine hK _ _ ?_
  clear hK K
  refine cv_ret ⟨_, (by simp -implicitDefEqProofs (disch := first | omega | decide) only [seval, -Int.reducePow, -Nat.reducePow, cC, pv, binv, sArCode1, undef]; rfl), fun w hw => ?_⟩
  exact ⟨rfl, hw.below⟩
theorem arFreeList_any (x : ArR) (W : World) (h : ArW W W.heap.size x) : Calls Try.prog 29 #[.pointer (some ⟨x.bR, 0, none⟩)] W
    (rowPost 28 2 (fun v => v) (exCells x.al.fr) W) := by
  refine calls_cv (M := []) (n := 6) [.tmp 2] rfl Try.func29 rfl rfl (Nat.le_of_ble_eq_true rfl) (St.nil _ _) ?_
  refine cv_seq_k fun K hK => ?_
  refine cv_region_then rfl ?_
  simp -implicitDefEqProofs (disch := first | omega | decide) only [seval, -Int.reducePow, -Nat.reducePow, cC, pv, binv, sArCode1, undef]
  refine hK _ _ ?_
  clear hK K
  refine cv_seq_k fun K hK => ?_
  refine cv_region_then rfl ?_
  simp -implicitDefEqProofs (disch := first | omega | decide) only [seval, -Int.reducePow, -Nat.reducePow, cC, pv, binv, sArCode1, undef]
  refine callV_ret (fun w hw => parts_any x w (h.at hw)) ?_
  try simp -implicitDefEqProofs (disch := first | omega | decide) only [seval, -Int.reducePow, -Nat.reducePow, cC, pv, binv, sArCode1, undef]
  refine callV_row (fun A n c => .slice A n c) (fun w hw => aFreeList_any x.al w (h.at hw).al) ?_
  intro A n c hl hr
  simp -implicitDefEqProofs (disch := first | omega | decide) only [seval, -Int.reducePow, -Nat.reducePow, cC, pv, binv, sArCode1, undef]
  refine hK _ _ ?_
  clear hK K
  refine cv_ret ⟨_, (by simp -implicitDefEqProofs (disch := first | omega | decide) only [seval, -Int.reducePow, -Nat.reducePow, cC, pv, binv, sArCode1, undef]; rfl), fun w hw => ?_⟩
  exact ⟨_, _, _, rfl, hw.rowNew (by simp), hw.below⟩
theorem arBytes_any (x : ArR) (W : World) (h : ArW W W.heap.size x) : Calls Try.prog 20 #[.pointer (some ⟨x.bR, 0, none⟩)] W
    (rowPost 5 1 (fun v => v) (byt x.bs) W) := by
  have hbR := h.lt
  have hN := h.len
  refine calls_cv (M := []) (n := 10) [.tmp 2] rfl Try.func20 rfl rfl (Nat.le_of_ble_eq_true rfl) (St.nil _ _) ?_
  refine cv_seq_k fun K hK => ?_
  refine cv_region_then rfl ?_
  simp -implicitDefEqProofs (disch := first | omega | decide) only [seval, -Int.reducePow, -Nat.reducePow, cC, pv, binv, sArCode1, undef]
  refine hK _ _ ?_
  clear hK K
  refine cv_seq_k fun K hK => ?_
  refine cv_seq_k fun K hK => ?_
  refine cv_region_then rfl ?_
  simp -implicitDefEqProofs (disch := first | omega | decide) only [seval, -Int.reducePow, -Nat.reducePow, cC, pv, binv, sArCode1, undef]
  refine hK _ _ ?_
  clear hK K
  refine cv_cond ?_
  simp -implicitDefEqProofs (disch := first | omega | decide) only [seval, -Int.reducePow, -Nat.reducePow, cC, pv, binv, sArCode1, undef]
  refine cv_skip ?_
  try simp only [blockQ, thenQ]
  refine hK _ _ ?_
  clear hK K
  refine cv_seq_k fun K hK => ?_
  refine cv_region_then rfl ?_
  simp -implicitDefEqProofs (disch := first | omega | decide) only [seval, -Int.reducePow, -Nat.reducePow, cC, pv, binv, sArCode1, undef]
  refine ⟨_, h.blk.ld1 (m := 1) (i := 1) (by kernel_rfl) rfl, fun tok htok => ?_⟩
  subst htok
  simp -implicitDefEqProofs (disch := first | omega | decide) only [seval, -Int.reducePow, -Nat.reducePow, cC, pv, binv, sArCode1, undef]
  refine callV_row (fun A n c => .slice A n c) (fun w hw => bclone_any (some ⟨x.bB, 0, none⟩) x.N x.N x.bs w (h.at hw).bs (by omega)) ?_
  intro A n c hl hr
  simp -implicitDefEqProofs (disch := first | omega | decide) only [seval, -Int.reducePow, -Nat.reducePow, cC, pv, binv, sArCode1, undef]
  refine hK _ _ ?_
  clear hK K
  refine cv_ret ⟨_, (by simp -implicitDefEqProofs (disch := first | omega | decide) only [seval, -Int.reducePow, -Nat.reducePow, cC, pv, binv, sArCode1, undef]; rfl), fun w hw => ?_⟩
  exact ⟨_, _, _, rfl, hw.rowNew (by simp), hw.below⟩
end Go.Proofs.Ytfaanphjaghbpaa
