/- The arena's code: New, and what only reads. -/
import Derived.Test.YtfaanphjaghbpaaZ4
import Derived.Test.YtfaanphjaghbpaaZ3
namespace Go.Proofs.Ytfaanphjaghbpaa
open Go.RowKit Go.Shelf
set_option linter.unusedVariables false
set_option linter.unusedSimpArgs false
set_option maxRecDepth 100000
theorem bclone_any (A : Option Addr) (n c : Nat) (l : List Nat) (W : World) (hE : Sl W W.heap.size 1 A n c (byt l)) (hn : n ≤ 140000000000000) :
    Calls Try.prog 38 #[.slice A n c] W (rowPost 5 1 (fun v => v) (byt l) W) := by
  have hl := byt_row hE.len
  refine calls_cv (M := []) (n := 8) [.tmp 2] rfl Try.func38 rfl rfl (Nat.le_of_ble_eq_true rfl) (St.nil _ _) ?_
  refine cv_seq_k fun K hK => ?_
  refine cv_region_then rfl ?_
  simp -implicitDefEqProofs (disch := first | omega | decide) only [seval, -Int.reducePow, -Nat.reducePow, cC, pv, binv]
  refine hK _ _ ?_
  clear hK K
  refine cv_seq_k fun K hK => ?_
  refine cv_seq_k fun K hK => ?_
  refine cv_region_then rfl ?_
  simp -implicitDefEqProofs (disch := first | omega | decide) only [seval, -Int.reducePow, -Nat.reducePow, cC, pv, binv]
  refine hK _ _ ?_
  clear hK K
  refine cv_cond ?_
  simp -implicitDefEqProofs (disch := first | omega | decide) only [seval, -Int.reducePow, -Nat.reducePow, cC, pv, binv]
  refine ⟨fun hc => ?_, fun hc => ?_⟩
  · refine cv_seq_k fun K hK => ?_
    refine cv_region_then rfl ?_
    simp -implicitDefEqProofs (disch := first | omega | decide) only [seval, -Int.reducePow, -Nat.reducePow, cC, pv, binv]
    refine hK _ _ ?_
    clear hK K
    refine cv_ret ⟨_, (by simp -implicitDefEqProofs (disch := first | omega | decide) only [seval, -Int.reducePow, -Nat.reducePow, cC, pv, binv]; rfl), fun w hw => ?_⟩
    have hn0 : n = 0 := by
      rcases Nat.eq_zero_or_pos n with h | h
      · exact h
      · obtain ⟨b, off, rfl, _⟩ := hE.cells h
        simp at hc
    have hx : l = [] := List.eq_nil_of_length_eq_zero (by rw [hl, hn0])
    exact ⟨none, 0, 0, rfl, by rw [hx]; exact World.ownsRow_nil _ _ _ _, hw.below⟩
  · refine cv_skip ?_
    try simp only [blockQ, thenQ]
    refine hK _ _ ?_
    clear hK K
    refine cv_seq_k fun K hK => ?_
    refine cv_region_then rfl ?_
    simp -implicitDefEqProofs (disch := first | omega | decide) only [seval, -Int.reducePow, -Nat.reducePow, cC, pv, binv]
    intro b hb
    refine appV_lit 0 tap36 rfl rfl (fun w hw => (hE.at hw).reads) (ones_byt _) (by omega) (by omega) ?_
    intro A' c' hl _
    simp -implicitDefEqProofs (disch := first | omega | decide) only [seval, -Int.reducePow, -Nat.reducePow, cC, pv, binv]
    refine hK _ _ ?_
    clear hK K
    refine cv_ret ⟨_, (by simp -implicitDefEqProofs (disch := first | omega | decide) only [seval, -Int.reducePow, -Nat.reducePow, cC, pv, binv]; rfl), fun w hw => ?_⟩
    rw [Nat.zero_add] at *
    exact ⟨A', _, c', rfl, ownsRow_new (hw.holds _ (.head _)) (hw.own _ (.head _)), hw.below⟩
/-! ## An arena's memory -/
structure ArR where
  al : AlR
  bR : Nat
  bB : Nat
  N : Nat
  bs : List Nat
def arL (x : ArR) : List Res := .blk x.bR 64 [.pointer (some ⟨x.al.bA, 0, none⟩), .slice (some ⟨x.bB, 0, none⟩) x.N x.N] :: .blk x.bB 5 (byt x.bs) :: alL x.al
structure ArW (w : World) (B : Nat) (x : ArR) : Prop where
  blk : Sl w B 1 (some ⟨x.bR, 0, none⟩) 2 2 [.pointer (some ⟨x.al.bA, 0, none⟩), .slice (some ⟨x.bB, 0, none⟩) x.N x.N]
  bs : Sl w B 1 (some ⟨x.bB, 0, none⟩) x.N x.N (byt x.bs)
  al : AlW w B x.al
  len : x.N ≤ 1048576
section
variable {M : List Nat} {W w : World} {L : List Res} {x : ArR}
theorem ArW.at (h : ArW W W.heap.size x) (hw : St [] W L w) : ArW w w.heap.size x := ⟨h.blk.at hw, h.bs.at hw, h.al.at hw, h.len⟩
theorem ArW.lt {w : World} {B : Nat} (h : ArW w B x) : x.bR < B := by
  obtain ⟨b', o', e, hb, -⟩ := h.blk.cells (by omega)
  cases e
  exact hb
theorem ArW.of (hw : St M W L w) (i1 i2 i3 i4 i5 : Nat) (h1 : nth L i1 = some (.blk x.bR 64 [.pointer (some ⟨x.al.bA, 0, none⟩), .slice (some ⟨x.bB, 0, none⟩) x.N x.N])) (h2 : nth L i2 = some (.blk x.bB 5 (byt x.bs)))
    (h3 : nth L i3 = some (.blk x.al.bA 99 [.slice x.al.FA x.al.fn x.al.fc, .map (some x.al.bm)])) (h4 : nth L i4 = some (mpR x.al.bm x.al.tk))
    (h5 : nth L i5 = some (.row (.slice x.al.FA x.al.fn x.al.fc) 28 2 x.al.fn (exCells x.al.fr))) (hl : x.al.fr.length ≤ 500) (hb : x.bs.length = x.N) (hN : x.N ≤ 1048576) : ArW w w.heap.size x :=
  ⟨Sl.of_blk hw (nth_mem h1) rfl (by omega), Sl.of_blk hw (nth_mem h2) (by rw [byt_len]; omega) (by omega), AlW.of hw i3 i4 i5 h3 h4 h5 hl, hN⟩
end
set_option maxRecDepth 100000 in
theorem sArCode1 : type_of% (And.intro (And.intro (And.intro @eBox.eq_1 @exV.eq_1) (And.intro @alL.eq_1 @arL.eq_1)) (And.intro (And.intro @Nat.mul_one @wrap_in) (And.intro @cMp @cM))) := (And.intro (And.intro (And.intro @eBox.eq_1 @exV.eq_1) (And.intro @alL.eq_1 @arL.eq_1)) (And.intro (And.intro @Nat.mul_one @wrap_in) (And.intro @cMp @cM)))
theorem parts_any (x : ArR) (W : World) (h : ArW W W.heap.size x) : Calls Try.prog 33 #[.pointer (some ⟨x.bR, 0, none⟩)] W
    fun e w' => e = .returned (.pointer (some ⟨x.al.bA, 0, none⟩)) ∧ Below W.heap.size W w' := by
  have hbR := h.lt
  refine calls_cv (M := []) (n := 9) [.tmp 2] rfl Try.func33 rfl rfl (Nat.le_of_ble_eq_true rfl) (St.nil _ _) ?_
  refine cv_seq_k fun K hK => ?_
  refine cv_region_then rfl ?_
  simp -implicitDefEqProofs (disch := first | omega | decide) only [seval, -Int.reducePow, -Nat.reducePow, cC, pv, binv, sArCode1, undef]
  refine hK _ _ ?_
  clear hK K
  refine cv_seq_k fun K hK => ?_
  refine cv_seq_k fun K hK => ?_
  refine cv_region_then rfl ?_
  simp -implicitDefEqProofs (disch := first | omega | decide) only [seval, -Int.reducePow, -Nat.reducePow, cC, pv, binv, sArCode1, undef]
  refine hK _ _ ?_
  clear hK K
  refine cv_cond ?_
  simp -implicitDefEqProofs (disch := first | omega | decide) only [seval, -Int.reducePow, -Nat.reducePow, cC, pv, binv, sArCode1, undef]
  refine cv_skip ?_
  try simp only [blockQ, thenQ]
  refine hK _ _ ?_
  clear hK K
  refine cv_seq_k fun K hK => ?_
  refine cv_region_then rfl ?_
  simp -implicitDefEqProofs (disch := first | omega | decide) only [seval, -Int.reducePow, -Nat.reducePow, cC, pv, binv, sArCode1, undef]
  refine ⟨_, h.blk.ld1 (m := 1) (i := 0) (by kernel_rfl) rfl, fun tok htok => ?_⟩
  subst htok
  simp -implicitDefEqProofs (disch := first | omega | decide) only [seval, -Int.reducePow, -Nat.reducePow, cC, pv, binv, sArCode1, undef]
  refine hK _ _ ?_
  clear hK K
  refine cv_ret ⟨_, (by simp -implicitDefEqProofs (disch := first | omega | decide) only [seval, -Int.reducePow, -Nat.reducePow, cC, pv, binv, sArCode1, undef]; rfl), fun w hw => ?_⟩
  exact ⟨rfl, hw.below⟩
theorem arFits_any (x : ArR) (n : Int) (W : World) (h : ArW W W.heap.size x) : Calls Try.prog 30 #[.pointer (some ⟨x.bR, 0, none⟩), .int .i64 n] W
    fun e w' => e = .returned (.int .i64 (Ex.findF x.al.fr n).2) ∧ Below W.heap.size W w' := by
  refine calls_cv (M := []) (n := 9) [.tmp 4] rfl Try.func30 rfl rfl (Nat.le_of_ble_eq_true rfl) (St.nil _ _) ?_
  refine cv_seq_k fun K hK => ?_
  refine cv_region_then rfl ?_
  simp -implicitDefEqProofs (disch := first | omega | decide) only [seval, -Int.reducePow, -Nat.reducePow, cC, pv, binv, sArCode1, undef]
  refine hK _ _ ?_
  clear hK K
  refine cv_seq_k fun K hK => ?_
  refine cv_region_then rfl ?_
  simp -implicitDefEqProofs (disch := first | omega | decide) only [seval, -Int.reducePow, -Nat.reducePow, cC, pv, binv, sArCode1, undef]
  refine callV_ret (fun w hw => parts_any x w (h.at hw)) ?_
  try simp -implicitDefEqProofs (disch := first | omega | decide) only [seval, -Int.reducePow, -Nat.reducePow, cC, pv, binv, sArCode1, undef]
  refine callV_ret (fun w hw => Fits_any x.al n w (h.at hw).al) ?_
  try simp -implicitDefEqProofs (disch := first | omega | decide) only [seval, -Int.reducePow, -Nat.reducePow, cC, pv, binv, sArCode1, undef]
  refine hK _ _ ?_
  clear hK K
  refine cv_ret ⟨_, (by simp -implicitDefEqProofs (disch := first | omega | decide) only [seval, -Int.reducePow, -Nat.reducePow, cC, pv, binv, sArCode1, undef]; rfl), fun w hw => ?_⟩
  exact ⟨rfl, hw.below⟩
theorem arFreeList_any (x : ArR) (W : World) (h : ArW W W.heap.size x) : Calls Try.prog 29 #[.pointer (some ⟨x.bR, 0, none⟩)] W
    (rowPost 28 2 (fun v => v) (exCells x.al.fr) W) := by
  refine calls_cv (M := []) (n := 6) [.tmp 2] rfl Try.func29 rfl rfl (Nat.le_of_ble_eq_true rfl) (St.nil _ _) ?_
  refine cv_seq_k fun K hK => ?_
  refine cv_region_then rfl ?_
  simp -implicitDefEqProofs (disch := first | omega | decide) only [seval, -Int.reducePow, -Nat.reducePow, cC, pv, binv, sArCode1, undef]
  refine hK _ _ ?_
  clear hK K
  refine cv_seq_k fun K hK => ?_
  refine cv_region_then rfl ?_
  simp -implicitDefEqProofs (disch := first | omega | decide) only [seval, -Int.reducePow, -Nat.reducePow, cC, pv, binv, sArCode1, undef]
  refine callV_ret (fun w hw => parts_any x w (h.at hw)) ?_
  try simp -implicitDefEqProofs (disch := first | omega | decide) only [seval, -Int.reducePow, -Nat.reducePow, cC, pv, binv, sArCode1, undef]
  refine callV_row (fun A n c => .slice A n c) (fun w hw => aFreeList_any x.al w (h.at hw).al) ?_
  intro A n c hl hr
  simp -implicitDefEqProofs (disch := first | omega | decide) only [seval, -Int.reducePow, -Nat.reducePow, cC, pv, binv, sArCode1, undef]
  refine hK _ _ ?_
  clear hK K
  refine cv_ret ⟨_, (by simp -implicitDefEqProofs (disch := first | omega | decide) only [seval, -Int.reducePow, -Nat.reducePow, cC, pv, binv, sArCode1, undef]; rfl), fun w hw => ?_⟩
  exact ⟨_, _, _, rfl, hw.rowNew (by simp), hw.below⟩
theorem arBytes_any (x : ArR) (W : World) (h : ArW W W.heap.size x) : Calls Try.prog 20 #[.pointer (some ⟨x.bR, 0, none⟩)] W
    (rowPost 5 1 (fun v => v) (byt x.bs) W) := by
  have hbR := h.lt
  have hN := h.len
  refine calls_cv (M := []) (n := 10) [.tmp 2] rfl Try.func20 rfl rfl (Nat.le_of_ble_eq_true rfl) (St.nil _ _) ?_
  refine cv_seq_k fun K hK => ?_
  refine cv_region_then rfl ?_
  simp -implicitDefEqProofs (disch := first | omega | decide) only [seval, -Int.reducePow, -Nat.reducePow, cC, pv, binv, sArCode1, undef]
  refine hK _ _ ?_
  clear hK K
  refine cv_seq_k fun K hK => ?_
  refine cv_seq_k fun K hK => ?_
  refine cv_region_then rfl ?_
  simp -implicitDefEqProofs (disch := first | omega | decide) only [seval, -Int.reducePow, -Nat.reducePow, cC, pv, binv, sArCode1, undef]
  refine hK _ _ ?_
  clear hK K
  refine cv_cond ?_
  simp -implicitDefEqProofs (disch := first | omega | decide) only [seval, -Int.reducePow, -Nat.reducePow, cC, pv, binv, sArCode1, undef]
  refine cv_skip ?_
  try simp only [blockQ, thenQ]
  refine hK _ _ ?_
  clear hK K
  refine cv_seq_k fun K hK => ?_
  refine cv_region_then rfl ?_
  simp -implicitDefEqProofs (disch := first | omega | decide) only [seval, -Int.reducePow, -Nat.reducePow, cC, pv, binv, sArCode1, undef]
  refine ⟨_, h.blk.ld1 (m := 1) (i := 1) (by kernel_rfl) rfl, fun tok htok => ?_⟩
  subst htok
  simp -implicitDefEqProofs (disch := first | omega | decide) only [seval, -Int.reducePow, -Nat.reducePow, cC, pv, binv, sArCode1, undef]
  refine callV_row (fun A n c => .slice A n c) (fun w hw => bclone_any (some ⟨x.bB, 0, none⟩) x.N x.N x.bs w (h.at hw).bs (by omega)) ?_
  intro A n c hl hr
  simp -implicitDefEqProofs (disch := first | omega | decide) only [seval, -Int.reducePow, -Nat.reducePow, cC, pv, binv, sArCode1, undef]
  refine hK _ _ ?_
  clear hK K
  refine cv_ret ⟨_, (by simp -implicitDefEqProofs (disch := first | omega | decide) only [seval, -Int.reducePow, -Nat.reducePow, cC, pv, binv, sArCode1, undef]; rfl), fun w hw => ?_⟩
  exact ⟨_, _, _, rfl, hw.rowNew (by simp), hw.below⟩
end Go.Proofs.Ytfaanphjaghbpaa
/- Numbers and their bytes, the least one first: plain. -/
namespace Go.Proofs.Ytfaanphjaghbpaa
open Go.RowKit Go.Shelf
set_option linter.unusedVariables false
set_option linter.unusedSimpArgs false
theorem some_of {α : Type} {l : List α} {i : Nat} (h : i < l.length) : ∃ x, l[i]? = some x := ⟨_, List.getElem?_eq_getElem h⟩
theorem bits64 : ((IntKind.u64.bits : Nat) : Int) = 64 := rfl
def leN : List Nat → Nat
  | [] => 0
  | b :: l => b + 256 * leN l
theorem leN_snoc : ∀ (l : List Nat) (c : Nat), leN (l ++ [c]) = leN l + c * 256 ^ l.length
  | [], c => by simp [leN]
  | b :: l, c => by
    show b + 256 * leN (l ++ [c]) = b + 256 * leN l + c * 256 ^ (l.length + 1)
    rw [leN_snoc l c, Nat.pow_succ, Nat.mul_add, Nat.add_assoc]
    congr 2
    rw [Nat.mul_comm 256, Nat.mul_assoc]
theorem leN_lt : ∀ (l : List Nat), (∀ x ∈ l, x < 256) → leN l < 256 ^ l.length
  | [], _ => by simp [leN]
  | b :: l, h => by
    have h1 := leN_lt l fun x hx => h x (.tail _ hx)
    have h2 := h b (.head _)
    show b + 256 * leN l < 256 ^ (l.length + 1)
    rw [Nat.pow_succ]
    omega
theorem leN_take {l : List Nat} {i c : Nat} (h : l[i]? = some c) : leN (l.take (i + 1)) = leN (l.take i) + c * 256 ^ i := by
  have hlt := (List.getElem?_eq_some_iff.1 h).1
  rw [List.take_add_one, h]
  show leN (l.take i ++ [c]) = _
  rw [leN_snoc, List.length_take, Nat.min_eq_left (by omega)]
theorem leN_drop {l : List Nat} {i c : Nat} (h : l[i]? = some c) : leN (l.drop i) = c + 256 * leN (l.drop (i + 1)) := by
  obtain ⟨hlt, he⟩ := List.getElem?_eq_some_iff.1 h
  rw [List.drop_eq_getElem_cons hlt, he]
  rfl
theorem pow256 {i : Nat} (h : i ≤ 8) : 256 ^ i ≤ 18446744073709551616 := by
  have : 256 ^ i ≤ 256 ^ 8 := Nat.pow_le_pow_right (by omega) h
  have e : (256 : Nat) ^ 8 = 18446744073709551616 := by decide
  omega
theorem or_hi {n c i : Nat} (hn : n < 256 ^ i) (hc : c < 256) (h7 : i ≤ 7) :
    IntKind.u64.wrap ((c : Int) * 2 ^ (8 * i)) = ((c * 256 ^ i : Nat) : Int) ∧ bits .or .u64 (n : Int) ((c * 256 ^ i : Nat) : Int) = ((n + c * 256 ^ i : Nat) : Int) ∧ n + c * 256 ^ i < 18446744073709551616 := by
  have e : (2 : Nat) ^ (8 * i) = 256 ^ i := by rw [Nat.pow_mul]
  have hle : c * 256 ^ i + 256 ^ i ≤ 18446744073709551616 := by
    have h1 : (c + 1) * 256 ^ i ≤ 256 * 256 ^ i := Nat.mul_le_mul_right _ (by omega)
    have h2 : 256 * 256 ^ i = 256 ^ (i + 1) := by rw [Nat.pow_succ, Nat.mul_comm]
    have h3 := pow256 (i := i + 1) (by omega)
    rw [Nat.add_mul] at h1
    omega
  have hp : 0 < 256 ^ i := Nat.pow_pos (by omega)
  refine ⟨?_, ?_, by omega⟩
  · have e2 : ((c : Int) * 2 ^ (8 * i)) = ((c * 256 ^ i : Nat) : Int) := by
      rw [← e]
      push_cast
      rfl
    rw [e2, IntKind.wrap_u64]
    omega
  · rw [bits_or_u64_nat _ _ (by omega) (by omega)]
    have h2 := Nat.two_pow_add_eq_or_of_lt (i := 8 * i) (b := n) (by rw [e]; exact hn) c
    rw [e, Nat.mul_comm] at h2
    rw [Nat.or_comm, ← h2, Nat.add_comm]
theorem or_lo {n c : Nat} (hn : n < 72057594037927936) (hc : c < 256) : IntKind.u64.wrap ((n : Int) * 256) = ((256 * n : Nat) : Int) ∧ bits .or .u64 ((256 * n : Nat) : Int) (c : Int) = ((c + 256 * n : Nat) : Int) := by
  refine ⟨?_, ?_⟩
  · rw [IntKind.wrap_u64]
    omega
  · rw [bits_or_u64_nat _ _ (by omega) (by omega)]
    have h2 := Nat.two_pow_add_eq_or_of_lt (i := 8) (b := c) (by omega) n
    rw [show (2 : Nat) ^ 8 = 256 by decide] at h2
    rw [← h2, Nat.add_comm]
/-- The bytes of a number. -/
def leB (v w : Nat) : List Nat := (List.range w).map fun i => v / 256 ^ i % 256
theorem leB_len (v w : Nat) : (leB v w).length = w := by simp [leB]
theorem leB_get {v w i : Nat} (h : i < w) : (leB v w)[i]? = some (v / 256 ^ i % 256) := by simp [leB, h]
theorem leB_lt {v w : Nat} : ∀ x ∈ leB v w, x < 256 := fun x hx => by
  obtain ⟨i, -, rfl⟩ := List.mem_map.1 hx
  omega
theorem shr_byte (v i : Nat) : IntKind.u8.wrap ((v : Int) / 2 ^ (8 * i)) = ((v / 256 ^ i % 256 : Nat) : Int) := by
  have e : ((2 : Int) ^ (8 * i)) = ((256 ^ i : Nat) : Int) := by
    rw [show (256 : Nat) ^ i = 2 ^ (8 * i) by rw [Nat.pow_mul]]
    push_cast
    rfl
  rw [e, ← Int.natCast_ediv, IntKind.wrap_u8]
  omega
theorem leN_leB (v : Nat) : ∀ w, leN (leB v w) = v % 256 ^ w
  | 0 => by simp [leB, leN, Nat.mod_one]
  | w + 1 => by
    have h1 : leB v (w + 1) = leB v w ++ [v / 256 ^ w % 256] := by simp [leB, List.range_succ]
    rw [h1, leN_snoc, leB_len, leN_leB v w, Nat.pow_succ, Nat.mod_mul, Nat.mul_comm (v / 256 ^ w % 256)]
end Go.Proofs.Ytfaanphjaghbpaa
/- The arena's code that reads bytes. -/
namespace Go.Proofs.Ytfaanphjaghbpaa
open Go.RowKit Go.Shelf
set_option linter.unusedVariables false
set_option linter.unusedSimpArgs false
set_option maxRecDepth 100000
theorem within_any (A : Option Addr) (n c : Nat) (off k : Int) (W : World) (hk : 0 ≤ k) (hn : n ≤ 9223372036854775807) : Calls Try.prog 37 #[.slice A n c, .int .i64 off, .int .i64 k] W
    fun e w' => e = .returned (.bool (decide (0 ≤ off ∧ k ≤ n ∧ off ≤ n - k))) ∧ Below W.heap.size W w' := by
  refine calls_cv (M := []) (n := 23) [.tmp 6] rfl Try.func37 rfl rfl (Nat.le_of_ble_eq_true rfl) (St.nil _ _) ?_
  refine cv_seq_k fun K hK => ?_
  refine cv_region_then rfl ?_
  simp -implicitDefEqProofs (disch := first | omega | decide) only [seval, -Int.reducePow, -Nat.reducePow, cC, pv, binv]
  refine hK _ _ ?_
  clear hK K
  by_cases a1 : 0 ≤ off
  · have a1' : decide (0 ≤ off) = true := decide_eq_true a1
    by_cases a2 : k ≤ n
    · have a2' : decide (k ≤ (n : Int)) = true := decide_eq_true a2
      have w1 : IntKind.i64.wrap ((n : Int) - k) = (n : Int) - k := wrap_in (by omega) (by omega)
      refine cv_seq_k fun K hK => ?_
      refine cv_region_then rfl ?_
      simp -implicitDefEqProofs (disch := first | omega | decide) only [seval, -Int.reducePow, -Nat.reducePow, cC, pv, binv, a1', a2', w1]
      refine hK _ _ ?_
      clear hK K
      refine cv_ret ⟨_, (by simp -implicitDefEqProofs (disch := first | omega | decide) only [seval, -Int.reducePow, -Nat.reducePow, cC, pv, binv]; rfl), fun w hw => ?_⟩
      exact ⟨by rw [show decide (0 ≤ off ∧ k ≤ (n : Int) ∧ off ≤ (n : Int) - k) = decide (off ≤ (n : Int) - k) by simp [a1, a2]], hw.below⟩
    · have a2' : decide (k ≤ (n : Int)) = false := decide_eq_false a2
      refine cv_seq_k fun K hK => ?_
      refine cv_region_then rfl ?_
      simp -implicitDefEqProofs (disch := first | omega | decide) only [seval, -Int.reducePow, -Nat.reducePow, cC, pv, binv, a1', a2']
      refine hK _ _ ?_
      clear hK K
      refine cv_ret ⟨_, (by simp -implicitDefEqProofs (disch := first | omega | decide) only [seval, -Int.reducePow, -Nat.reducePow, cC, pv, binv]; rfl), fun w hw => ?_⟩
      exact ⟨by rw [decide_eq_false fun h => a2 h.2.1], hw.below⟩
  · have a1' : decide (0 ≤ off) = false := decide_eq_false a1
    refine cv_seq_k fun K hK => ?_
    refine cv_region_then rfl ?_
    simp -implicitDefEqProofs (disch := first | omega | decide) only [seval, -Int.reducePow, -Nat.reducePow, cC, pv, binv, a1']
    refine hK _ _ ?_
    clear hK K
    refine cv_ret ⟨_, (by simp -implicitDefEqProofs (disch := first | omega | decide) only [seval, -Int.reducePow, -Nat.reducePow, cC, pv, binv]; rfl), fun w hw => ?_⟩
    exact ⟨by rw [decide_eq_false fun h => a1 h.1], hw.below⟩
/-- An extent that is taken, by numbers. -/
theorem Ex.Inv.nat {N : Nat} {us fr : List Ext} {tk : List (Int × Int)} (h : Ex.Inv (N : Int) us fr tk) {e : Ext} (he : e ∈ us) : ∃ o l : Nat, e = ⟨(o : Int), (l : Int)⟩ ∧ 0 < l ∧ o + l ≤ N := by
  obtain ⟨hp, hN⟩ := h.prop e he
  unfold Ext.prop at hp
  exact ⟨e.off.toNat, e.len.toNat, by cases e; simp at *; omega, by omega, by omega⟩
set_option maxRecDepth 100000 in
theorem sArRead1 : type_of% (And.intro (And.intro (And.intro @eBox.eq_1 @exV.eq_1) (And.intro @alL.eq_1 @arL.eq_1)) (And.intro (And.intro @Nat.mul_one @wrap_in) (And.intro @cMp @cM))) := (And.intro (And.intro (And.intro @eBox.eq_1 @exV.eq_1) (And.intro @alL.eq_1 @arL.eq_1)) (And.intro (And.intro @Nat.mul_one @wrap_in) (And.intro @cMp @cM)))
section
variable (x : ArR) (us : List Ext) (W : World)
set_option maxHeartbeats 1000000 in
theorem arSlice_no (e : Ext) (h : ArW W W.heap.size x) (hI : Ex.Inv (x.N : Int) us x.al.fr x.al.tk) (he : e ∉ us) : Calls Try.prog 36 #[.pointer (some ⟨x.bR, 0, none⟩), exV e] W
    fun en w' => en = .returned (.tuple #[.slice none 0 0, .int .i64 6]) ∧ Below W.heap.size W w' := by
  have hn : decide (mget x.al.tk e.off = some e.len) = false := decide_eq_false fun h => he ((hI.has e).1 h)
  refine calls_cv (M := []) (n := 23) [.tmp 4, .tmp 5] rfl Try.func36 rfl rfl (Nat.le_of_ble_eq_true rfl) (St.nil _ _) ?_
  refine cv_seq_k fun K hK => ?_
  refine cv_region_then rfl ?_
  simp -implicitDefEqProofs (disch := first | omega | decide) only [seval, -Int.reducePow, -Nat.reducePow, cC, pv, binv, sArRead1, undef]
  intro b3 hb3
  refine hK _ _ ?_
  clear hK K
  refine cv_seq_k fun K hK => ?_
  refine cv_seq_k fun K hK => ?_
  refine cv_draw_of (pickL [0] _) (fun w hw => hw.pick (by decide)) (by simp only [pickL, nth, suf_cons, suf_nil, List.mem_cons, true_or, or_true, and_true, eq_self]) [(true, 0), (true, 2), (false, 1), (false, 3), (true, 4)] [] mixA rfl (by kernel_rfl) (by kernel_rfl) rfl rfl ?_
  simp -implicitDefEqProofs (disch := first | omega | decide) only [seval, -Int.reducePow, -Nat.reducePow, cC, pv, binv, sArRead1, undef]
  refine callV_ret (fun w hw => parts_any x w (h.at hw)) ?_
  try simp -implicitDefEqProofs (disch := first | omega | decide) only [seval, -Int.reducePow, -Nat.reducePow, cC, pv, binv, sArRead1, undef]
  refine callV_ret (fun w hw => aHas_any x.al e w (h.at hw).al) ?_
  try simp -implicitDefEqProofs (disch := first | omega | decide) only [seval, -Int.reducePow, -Nat.reducePow, cC, pv, binv, sArRead1, undef, hn]
  refine hK _ _ ?_
  clear hK K
  refine cv_cond ?_
  simp -implicitDefEqProofs (disch := first | omega | decide) only [seval, -Int.reducePow, -Nat.reducePow, cC, pv, binv, sArRead1, undef]
  refine cv_seq_k fun K hK => ?_
  refine cv_region_then rfl ?_
  simp -implicitDefEqProofs (disch := first | omega | decide) only [seval, -Int.reducePow, -Nat.reducePow, cC, pv, binv, sArRead1, undef]
  refine hK _ _ ?_
  clear hK K
  refine cv_ret ⟨_, (by simp -implicitDefEqProofs (disch := first | omega | decide) only [seval, -Int.reducePow, -Nat.reducePow, cC, pv, binv, sArRead1, undef]; rfl), fun w hw => ?_⟩
  exact ⟨rfl, hw.below⟩
set_option maxHeartbeats 1000000 in
theorem arSlice_yes (o l : Nat) (h : ArW W W.heap.size x) (hI : Ex.Inv (x.N : Int) us x.al.fr x.al.tk) (he : (⟨(o : Int), (l : Int)⟩ : Ext) ∈ us) (hl : 0 < l) (hN : o + l ≤ x.N) : Calls Try.prog 36 #[.pointer (some ⟨x.bR, 0, none⟩), .agg #[.int .i64 (o : Int), .int .i64 (l : Int)]] W
    fun en w' => en = .returned (.tuple #[.slice (some ⟨x.bB, o, none⟩) l (x.N - o), .int .i64 0]) ∧ Below W.heap.size W w' := by
  have hn : decide (mget x.al.tk o = some (l : Int)) = true := decide_eq_true ((hI.has ⟨o, l⟩).2 he)
  have hbR := h.lt
  have h20 := h.len
  have hsb : sbase x.N o 1 (some ⟨x.bB, 0, none⟩) = some ⟨x.bB, o, none⟩ := by rw [sbase_some (by omega), Addr.add_lit]; simp
  have hto : ((o : Int) + (l : Int)).toNat - o = l := by omega
  refine calls_cv (M := []) (n := 23) [.tmp 4, .tmp 5] rfl Try.func36 rfl rfl (Nat.le_of_ble_eq_true rfl) (St.nil _ _) ?_
  refine cv_seq_k fun K hK => ?_
  refine cv_region_then rfl ?_
  simp -implicitDefEqProofs (disch := first | omega | decide) only [seval, -Int.reducePow, -Nat.reducePow, cC, pv, binv, sArRead1, undef]
  intro b3 hb3
  refine hK _ _ ?_
  clear hK K
  refine cv_seq_k fun K hK => ?_
  refine cv_seq_k fun K hK => ?_
  refine cv_draw_of (pickL [0] _) (fun w hw => hw.pick (by decide)) (by simp only [pickL, nth, suf_cons, suf_nil, List.mem_cons, true_or, or_true, and_true, eq_self]) [(true, 0), (true, 2), (false, 1), (false, 3), (true, 4)] [] mixA rfl (by kernel_rfl) (by kernel_rfl) rfl rfl ?_
  simp -implicitDefEqProofs (disch := first | omega | decide) only [seval, -Int.reducePow, -Nat.reducePow, cC, pv, binv, sArRead1, undef]
  refine callV_ret (fun w hw => parts_any x w (h.at hw)) ?_
  try simp -implicitDefEqProofs (disch := first | omega | decide) only [seval, -Int.reducePow, -Nat.reducePow, cC, pv, binv, sArRead1, undef]
  refine callV_ret (fun w hw => aHas_any x.al ⟨(o : Int), (l : Int)⟩ w (h.at hw).al) ?_
  try simp -implicitDefEqProofs (disch := first | omega | decide) only [seval, -Int.reducePow, -Nat.reducePow, cC, pv, binv, sArRead1, undef, hn]
  refine hK _ _ ?_
  clear hK K
  refine cv_cond ?_
  simp -implicitDefEqProofs (disch := first | omega | decide) only [seval, -Int.reducePow, -Nat.reducePow, cC, pv, binv, sArRead1, undef]
  refine cv_skip ?_
  try simp only [blockQ, thenQ]
  refine hK _ _ ?_
  clear hK K
  refine cv_seq_k fun K hK => ?_
  refine cv_draw_of (pickL [0] _) (fun w hw => hw.pick (by decide)) (by simp only [pickL, nth, suf_cons, suf_nil, List.mem_cons, true_or, or_true, and_true, eq_self]) [(true, 0), (true, 1), (true, 2), (true, 3), (true, 4), (true, 5), (true, 6), (true, 7), (true, 8), (true, 9), (true, 10), (true, 11), (true, 12), (true, 13)] [] mixA rfl (by kernel_rfl) (by kernel_rfl) rfl rfl ?_
  simp -implicitDefEqProofs (disch := first | omega | decide) only [seval, -Int.reducePow, -Nat.reducePow, cC, pv, binv, sArRead1, undef]
  refine ⟨_, h.blk.ld1 (m := 1) (i := 1) (by kernel_rfl) rfl, fun tok htok => ?_⟩
  subst htok
  simp -implicitDefEqProofs (disch := first | omega | decide) only [seval, -Int.reducePow, -Nat.reducePow, cC, pv, binv, sArRead1, undef, hsb, hto]
  refine hK _ _ ?_
  clear hK K
  refine cv_ret ⟨_, (by simp -implicitDefEqProofs (disch := first | omega | decide) only [seval, -Int.reducePow, -Nat.reducePow, cC, pv, binv, sArRead1, undef]; rfl), fun w hw => ?_⟩
  exact ⟨rfl, hw.below⟩
def fErr (us : List Ext) (e : Ext) (k w : Int) : Int := if e ∈ us then (if w = 1 ∨ w = 2 ∨ w = 4 ∨ w = 8 then (if 0 ≤ k ∧ w ≤ e.len ∧ k ≤ e.len - w then 0 else 7) else 1) else 6
def fV (x : ArR) (e : Ext) (k w f : Int) : Value := if f = 0 then .slice (some ⟨x.bB, (e.off + k).toNat, none⟩) w.toNat (x.N - (e.off + k).toNat) else .slice none 0 0
set_option maxHeartbeats 1000000 in
theorem field_any (e : Ext) (k wd : Int) (h : ArW W W.heap.size x) (hI : Ex.Inv (x.N : Int) us x.al.fr x.al.tk) : Calls Try.prog 35 #[.pointer (some ⟨x.bR, 0, none⟩), exV e, .int .i64 k, .int .i64 wd] W
    fun en w' => en = .returned (.tuple #[fV x e k wd (fErr us e k wd), .int .i64 (fErr us e k wd)]) ∧ Below W.heap.size W w' := by
  have hbR := h.lt
  have h20 := h.len
  obtain ⟨F, hF⟩ : ∃ F, fErr us e k wd = F := ⟨_, rfl⟩
  have hF2 := hF
  unfold fErr at hF2
  refine calls_cv (M := []) (n := 46) [.tmp 8, .tmp 9] rfl Try.func35 rfl rfl (Nat.le_of_ble_eq_true rfl) (St.nil _ _) ?_
  refine cv_seq_k fun K hK => ?_
  refine cv_region_then rfl ?_
  simp -implicitDefEqProofs (disch := first | omega | decide) only [seval, -Int.reducePow, -Nat.reducePow, cC, pv, binv, sArRead1, undef]
  intro b5 hb5
  refine hK _ _ ?_
  clear hK K
  by_cases he : e ∈ us
  · rw [if_pos he] at hF2
    obtain ⟨o, l, rfl, hl, hN⟩ := hI.nat he
    dsimp only at hF2
    refine cv_seq_k fun K hK => ?_
    refine cv_region_then rfl ?_
    simp -implicitDefEqProofs (disch := first | omega | decide) only [seval, -Int.reducePow, -Nat.reducePow, cC, pv, binv, sArRead1, undef]
    refine callV_ret (fun w hw => arSlice_yes x us w o l (h.at hw) hI he hl hN) ?_
    try simp -implicitDefEqProofs (disch := first | omega | decide) only [seval, -Int.reducePow, -Nat.reducePow, cC, pv, binv, sArRead1, undef]
    refine hK _ _ ?_
    clear hK K
    refine cv_seq_k fun K hK => ?_
    refine cv_seq_k fun K hK => ?_
    refine cv_region_then rfl ?_
    simp -implicitDefEqProofs (disch := first | omega | decide) only [seval, -Int.reducePow, -Nat.reducePow, cC, pv, binv, sArRead1, undef]
    refine hK _ _ ?_
    clear hK K
    refine cv_cond ?_
    simp -implicitDefEqProofs (disch := first | omega | decide) only [seval, -Int.reducePow, -Nat.reducePow, cC, pv, binv, sArRead1, undef]
    refine cv_skip ?_
    try simp only [blockQ, thenQ]
    refine hK _ _ ?_
    clear hK K
    refine cv_gen fun G1 hG => ?_
    have g1_2 := congrFun hG 2
    have g1_3 := congrFun hG 3
    have g1_10 := congrFun hG 10
    clear hG
    try simp -implicitDefEqProofs (disch := first | omega | decide) only [seval, -Int.reducePow, -Nat.reducePow, cC, pv, binv, sArRead1, undef] at g1_2 g1_3 g1_10
    have g1 := And.intro g1_2 (And.intro g1_3 g1_10)
    refine cv_seq_k fun K hK => ?_
    refine cv_seq_k fun K hK => ?_
    refine cv_cut (fun _ _ => True) (fun F' L' => F' 2 = G1 2 ∧ F' 3 = G1 3 ∧ F' 10 = G1 10 ∧ F' 34 = .bool (decide (¬ (wd = 1 ∨ wd = 2 ∨ wd = 4 ∨ wd = 8))) ∧ L' = [eBox b5 ⟨(o : Int), (l : Int)⟩]) ?_ ?_
    · refine cv_region_then rfl ?_
      simp -implicitDefEqProofs (disch := first | omega | decide) only [seval, -Int.reducePow, -Nat.reducePow, cC, pv, binv, sArRead1, undef, g1]
      repeat' ((first | refine vcg_cases (fun hg => ?_) (fun hg => ?_) | refine vdg_cases (fun hg => ?_) (fun hg => ?_)) <;> ((try simp only [Bool.not_eq_true', Bool.not_eq_false', decide_eq_true_eq, decide_eq_false_iff_not] at hg); (try simp -implicitDefEqProofs (disch := first | omega | decide) only [seval, -Int.reducePow, -Nat.reducePow, cC, pv, binv, sArRead1, undef, hg, g1])))
      all_goals (repeat' refine And.intro ?_ ?_)
      all_goals (first | with_reducible rfl | (refine congrArg Value.bool ?_; rw [Bool.eq_iff_iff]; (try simp only [decide_eq_true_eq, eq_self, true_and, and_true, false_and, and_false, true_or, or_true, false_or, or_false, not_true_eq_false, not_false_eq_true, true_iff, iff_true, false_iff, iff_false, Bool.false_eq_true, Bool.not_eq_true', Bool.not_eq_true, decide_eq_false_iff_not, Bool.and_eq_true, Bool.or_eq_true]) <;> omega) | (refine congrArg (Value.int _) ?_; omega) | omega)
    intro G2 L' _ hF
    obtain ⟨q2, q3, q10, q34, rfl⟩ := hF
    have g2_2 := q2.trans g1_2
    have g2_3 := q3.trans g1_3
    have g2_10 := q10.trans g1_10
    have g2_34 := q34
    clear q2 q3 q10 q34
    have g2 := And.intro g2_2 (And.intro g2_3 (And.intro g2_10 g2_34))
    refine hK _ _ ?_
    clear hK K
    refine cv_cond ?_
    simp -implicitDefEqProofs (disch := first | omega | decide) only [seval, -Int.reducePow, -Nat.reducePow, cC, pv, binv, sArRead1, undef, g2]
    refine ⟨fun hc => ?_, fun hc => ?_⟩
    · have q1 := of_decide_eq_true hc
      rw [if_neg q1] at hF2
      refine cv_seq_k fun K hK => ?_
      refine cv_region_then rfl ?_
      simp -implicitDefEqProofs (disch := first | omega | decide) only [seval, -Int.reducePow, -Nat.reducePow, cC, pv, binv, sArRead1, undef, g2]
      refine hK _ _ ?_
      clear hK K
      refine cv_ret ⟨_, (by simp -implicitDefEqProofs (disch := first | omega | decide) only [seval, -Int.reducePow, -Nat.reducePow, cC, pv, binv, sArRead1, undef, g2]; rfl), fun w hw => ?_⟩
      rw [hF, ← hF2]
      exact ⟨rfl, hw.below⟩
    have q1 : wd = 1 ∨ wd = 2 ∨ wd = 4 ∨ wd = 8 := Decidable.not_not.1 (of_decide_eq_false hc)
    rw [if_pos q1] at hF2
    refine cv_skip ?_
    try simp only [blockQ, thenQ]
    refine hK _ _ ?_
    clear hK K
    refine cv_seq_k fun K hK => ?_
    refine cv_seq_k fun K hK => ?_
    refine cv_region_then rfl ?_
    simp -implicitDefEqProofs (disch := first | omega | decide) only [seval, -Int.reducePow, -Nat.reducePow, cC, pv, binv, sArRead1, undef, g2]
    refine callV_ret (fun w hw => within_any (some ⟨x.bB, o, none⟩) l (x.N - o) k wd w (by omega) (by omega)) ?_
    try simp -implicitDefEqProofs (disch := first | omega | decide) only [seval, -Int.reducePow, -Nat.reducePow, cC, pv, binv, sArRead1, undef, g2]
    refine hK _ _ ?_
    clear hK K
    refine cv_cond ?_
    simp -implicitDefEqProofs (disch := first | omega | decide) only [seval, -Int.reducePow, -Nat.reducePow, cC, pv, binv, sArRead1, undef, g2]
    refine ⟨fun hc => ?_, fun hc => ?_⟩
    · have q2 := nd_true hc
      rw [if_neg q2] at hF2
      refine cv_seq_k fun K hK => ?_
      refine cv_region_then rfl ?_
      simp -implicitDefEqProofs (disch := first | omega | decide) only [seval, -Int.reducePow, -Nat.reducePow, cC, pv, binv, sArRead1, undef, g2]
      refine hK _ _ ?_
      clear hK K
      refine cv_ret ⟨_, (by simp -implicitDefEqProofs (disch := first | omega | decide) only [seval, -Int.reducePow, -Nat.reducePow, cC, pv, binv, sArRead1, undef, g2]; rfl), fun w hw => ?_⟩
      rw [hF, ← hF2]
      exact ⟨rfl, hw.below⟩
    have q2 := Decidable.not_not.1 (nd_false hc)
    rw [if_pos q2] at hF2
    obtain ⟨k, rfl⟩ : ∃ k' : Nat, k = (k' : Int) := ⟨k.toNat, by omega⟩
    obtain ⟨wn, rfl⟩ : ∃ w' : Nat, wd = (w' : Int) := ⟨wd.toNat, by omega⟩
    have hsb : sbase (x.N - o) k 1 (some ⟨x.bB, o, none⟩) = some ⟨x.bB, o + k, none⟩ := by rw [sbase_some (by omega), Addr.add_lit]; simp
    have hto : ((k : Int) + (wn : Int)).toNat - k = wn := by omega
    refine cv_skip ?_
    try simp only [blockQ, thenQ]
    refine hK _ _ ?_
    clear hK K
    refine cv_seq_k fun K hK => ?_
    refine cv_region_then rfl ?_
    simp -implicitDefEqProofs (disch := first | omega | decide) only [seval, -Int.reducePow, -Nat.reducePow, cC, pv, binv, sArRead1, undef, hsb, hto, g2]
    refine hK _ _ ?_
    clear hK K
    refine cv_ret ⟨_, (by simp -implicitDefEqProofs (disch := first | omega | decide) only [seval, -Int.reducePow, -Nat.reducePow, cC, pv, binv, sArRead1, undef, g2]; rfl), fun w hw => ?_⟩
    rw [hF, ← hF2]
    unfold fV
    rw [if_pos rfl, show ((⟨(o : Int), (l : Int)⟩ : Ext).off + (k : Int)).toNat = o + k by dsimp only; omega, show ((wn : Int)).toNat = wn by omega, show x.N - (o + k) = x.N - o - k by omega]
    exact ⟨rfl, hw.below⟩
  · rw [if_neg he] at hF2
    refine cv_seq_k fun K hK => ?_
    refine cv_region_then rfl ?_
    simp -implicitDefEqProofs (disch := first | omega | decide) only [seval, -Int.reducePow, -Nat.reducePow, cC, pv, binv, sArRead1, undef]
    refine callV_ret (fun w hw => arSlice_no x us w e (h.at hw) hI he) ?_
    try simp -implicitDefEqProofs (disch := first | omega | decide) only [seval, -Int.reducePow, -Nat.reducePow, cC, pv, binv, sArRead1, undef]
    refine hK _ _ ?_
    clear hK K
    refine cv_seq_k fun K hK => ?_
    refine cv_seq_k fun K hK => ?_
    refine cv_region_then rfl ?_
    simp -implicitDefEqProofs (disch := first | omega | decide) only [seval, -Int.reducePow, -Nat.reducePow, cC, pv, binv, sArRead1, undef]
    refine hK _ _ ?_
    clear hK K
    refine cv_cond ?_
    simp -implicitDefEqProofs (disch := first | omega | decide) only [seval, -Int.reducePow, -Nat.reducePow, cC, pv, binv, sArRead1, undef]
    refine cv_seq_k fun K hK => ?_
    refine cv_region_then rfl ?_
    simp -implicitDefEqProofs (disch := first | omega | decide) only [seval, -Int.reducePow, -Nat.reducePow, cC, pv, binv, sArRead1, undef]
    refine hK _ _ ?_
    clear hK K
    refine cv_ret ⟨_, (by simp -implicitDefEqProofs (disch := first | omega | decide) only [seval, -Int.reducePow, -Nat.reducePow, cC, pv, binv, sArRead1, undef]; rfl), fun w hw => ?_⟩
    rw [hF, ← hF2]
    exact ⟨rfl, hw.below⟩
theorem ArW.win {x : ArR} {w : World} {B : Nat} (h : ArW w B x) {p n : Nat} (hp : p + n ≤ x.N) : Sl w B 1 (some ⟨x.bB, p, none⟩) n (x.N - p) (byt ((x.bs.drop p).take n)) := by
  have hl := byt_row h.bs.len
  have h20 := h.len
  refine ⟨by rw [byt_len, List.length_take, List.length_drop]; omega, by omega, by omega, fun hn => ?_⟩
  obtain ⟨b', o', e, hb, hc⟩ := h.bs.cells (by omega)
  cases e
  refine ⟨_, _, rfl, hb, fun i v hv => ?_⟩
  have := hc (p + i) v (by
    unfold byt at hv ⊢
    rw [List.getElem?_map, List.getElem?_take] at hv
    split at hv
    · rw [List.getElem?_drop, ← List.getElem?_map] at hv
      exact hv
    · cases hv)
  rwa [Nat.zero_add] at this
def winF (bs : List Nat) (e : Ext) (k w : Int) : List Nat := (bs.drop (e.off + k).toNat).take w.toNat
def loadF (bs : List Nat) (e : Ext) (k w f : Int) : Nat := if f = 0 then leN (winF bs e k w) else 0
theorem winF_lt {bs : List Nat} (hb : ∀ b ∈ bs, b < 256) (e : Ext) (k w : Int) : ∀ b ∈ winF bs e k w, b < 256 := fun b h => hb b (List.mem_of_mem_drop (List.mem_of_mem_take h))
/-- Where the field's bytes lie. -/
theorem fErr_ok {x : ArR} {us fr : List Ext} {tk : List (Int × Int)} (hI : Ex.Inv (x.N : Int) us fr tk) {e : Ext} {k w : Int} (h : fErr us e k w = 0) : ∃ p n : Nat, (e.off + k).toNat = p ∧ w = (n : Int) ∧ p + n ≤ x.N ∧ (n = 1 ∨ n = 2 ∨ n = 4 ∨ n = 8) ∧ e ∈ us ∧ 0 ≤ k ∧ k + w ≤ e.len ∧ e.off + k = (p : Int) := by
  unfold fErr at h
  split at h
  · rename_i he
    split at h
    · rename_i hw
      split at h
      · rename_i hk
        obtain ⟨hp, hN⟩ := hI.prop e he
        unfold Ext.prop at hp
        exact ⟨(e.off + k).toNat, w.toNat, rfl, by omega, by omega, by omega, he, by omega, by omega, by omega⟩
      · cases h
    · cases h
  · cases h
set_option maxHeartbeats 1000000 in
theorem arLoad_any (e : Ext) (k wd : Int) (h : ArW W W.heap.size x) (hI : Ex.Inv (x.N : Int) us x.al.fr x.al.tk) (hb : ∀ b ∈ x.bs, b < 256) : Calls Try.prog 14 #[.pointer (some ⟨x.bR, 0, none⟩), exV e, .int .i64 k, .int .i64 wd] W
    fun en w' => en = .returned (.tuple #[.int .u64 (loadF x.bs e k wd (fErr us e k wd) : Int), .int .i64 (fErr us e k wd)]) ∧ Below W.heap.size W w' := by
  have hln := byt_row h.bs.len
  obtain ⟨F, hF⟩ : ∃ F, fErr us e k wd = F := ⟨_, rfl⟩
  have hok := fun h => fErr_ok (x := x) hI (e := e) (k := k) (w := wd) h
  rw [hF] at hok
  refine calls_cv (M := []) (n := 40) [.tmp 8, .tmp 9] rfl Try.func14 rfl rfl (Nat.le_of_ble_eq_true rfl) (St.nil _ _) ?_
  refine cv_seq_k fun K hK => ?_
  refine cv_region_then rfl ?_
  simp -implicitDefEqProofs (disch := first | omega | decide) only [seval, -Int.reducePow, -Nat.reducePow, cC, pv, binv, sArRead1, undef]
  intro b5 hb5
  refine hK _ _ ?_
  clear hK K
  refine cv_seq_k fun K hK => ?_
  refine cv_region_then rfl ?_
  simp -implicitDefEqProofs (disch := first | omega | decide) only [seval, -Int.reducePow, -Nat.reducePow, cC, pv, binv, sArRead1, undef]
  refine callV_ret (fun w hw => field_any x us w e k wd (h.at hw) hI) ?_
  try simp -implicitDefEqProofs (disch := first | omega | decide) only [seval, -Int.reducePow, -Nat.reducePow, cC, pv, binv, sArRead1, undef, hF]
  refine hK _ _ ?_
  clear hK K
  refine cv_seq_k fun K hK => ?_
  refine cv_region_then rfl ?_
  simp -implicitDefEqProofs (disch := first | omega | decide) only [seval, -Int.reducePow, -Nat.reducePow, cC, pv, binv, sArRead1, undef]
  refine hK _ _ ?_
  clear hK K
  by_cases hz : F = 0
  · obtain ⟨p, n, hp, rfl, hpn, hn, he, -⟩ := hok hz
    have hW := h.win hpn
    have hwl := winF_lt hb e k (n : Int)
    obtain ⟨win, hwin⟩ : ∃ win, (x.bs.drop p).take n = win := ⟨_, rfl⟩
    have hwl2 : ∀ b ∈ win, b < 256 := by rw [← hwin]; exact fun b h => hb b (List.mem_of_mem_drop (List.mem_of_mem_take h))
    rw [hwin] at hW
    have hwn : win.length = n := byt_row hW.len
    obtain ⟨_, _, hcc, hbB, -⟩ := hW.cells (by omega)
    cases hcc
    have hfv : fV x e k (n : Int) F = .slice (some ⟨x.bB, p, none⟩) n (x.N - p) := by unfold fV; rw [if_pos hz, hp]; simp
    have hld : loadF x.bs e k (n : Int) F = leN win := by unfold loadF winF; rw [if_pos hz, hp, ← hwin]; simp
    refine cv_seq_k fun K hK => ?_
    refine cv_seq_k fun K hK => ?_
    refine cv_region_then rfl ?_
    simp -implicitDefEqProofs (disch := first | omega | decide) only [seval, -Int.reducePow, -Nat.reducePow, cC, pv, binv, sArRead1, undef, hfv]
    refine hK _ _ ?_
    clear hK K
    refine cv_gen fun G3 hG => ?_
    have g3_11 := congrFun hG 11
    have g3_12 := congrFun hG 12
    have g3_23 := congrFun hG 23
    have g3_24 := congrFun hG 24
    have g3_25 := congrFun hG 25
    clear hG
    try simp -implicitDefEqProofs (disch := first | omega | decide) only [seval, -Int.reducePow, -Nat.reducePow, cC, pv, binv, sArRead1, undef] at g3_11 g3_12 g3_23 g3_24 g3_25
    have g3 := And.intro g3_11 (And.intro g3_12 (And.intro g3_23 (And.intro g3_24 g3_25)))
    refine cv_block ?_
    refine cv_loop (fun F' L' => ∃ (i : Nat), F' 11 = G3 11 ∧ F' 12 = .int .u64 (leN (win.take i) : Int) ∧ F' 23 = G3 23 ∧ F' 24 = G3 24 ∧ F' 25 = .int .i64 (i : Int) ∧ L' = [eBox b5 e] ∧ i ≤ n) (fun F' L' => 20 - (intOf (F' 25)).toNat) ?_ ?_
    · refine ⟨0, ?_⟩
      simp -implicitDefEqProofs (disch := first | omega | decide) only [seval, -Int.reducePow, -Nat.reducePow, cC, pv, binv, sArRead1, undef, g3]
      exact ⟨rfl, by omega⟩
    intro G4 L' hI
    obtain ⟨i, q11, q12, q23, q24, q25, rfl, hi⟩ := hI
    have g4_11 := q11.trans g3_11
    have g4_12 := q12
    have g4_23 := q23.trans g3_23
    have g4_24 := q24.trans g3_24
    have g4_25 := q25
    clear q11 q12 q23 q24 q25
    have g4 := And.intro g4_11 (And.intro g4_12 (And.intro g4_23 (And.intro g4_24 g4_25)))
    refine cv_seq_k fun K hK => ?_
    refine cv_region_then rfl ?_
    simp -implicitDefEqProofs (disch := first | omega | decide) only [seval, -Int.reducePow, -Nat.reducePow, cC, pv, binv, sArRead1, undef, g3, g4]
    refine hK _ _ ?_
    clear hK K
    refine cv_seq_k fun K hK => ?_
    refine cv_cond ?_
    simp -implicitDefEqProofs (disch := first | omega | decide) only [seval, -Int.reducePow, -Nat.reducePow, cC, pv, binv, sArRead1, undef, g3, g4]
    refine ⟨fun hc => ?_, fun hc => ?_⟩
    · refine cv_skip ?_
      try simp only [blockQ, thenQ]
      have hit : i < n := by have := of_decide_eq_true ‹decide ((i : Int) < (n : Int)) = true›; omega
      obtain ⟨c, hc⟩ := some_of (l := win) (i := i) (by omega)
      have hc2 := hwl2 c (List.mem_of_getElem? hc)
      have hlt := leN_lt (win.take i) fun b hb => hwl2 b (List.mem_of_mem_take hb)
      rw [List.length_take, Nat.min_eq_left (by omega)] at hlt
      obtain ⟨o1, o2, o3⟩ := or_hi hlt hc2 (by omega)
      have o4 : ((8 : Int) * (i : Int)).toNat = 8 * i := by omega
      have o5 := leN_take hc
      have o6 : IntKind.u64.wrap (c : Int) = (c : Int) := IntWalk.u64_in _ (by omega)
      refine hK _ _ ?_
      clear hK K
      refine cv_seq_k fun K hK => ?_
      refine cv_block ?_
      refine cv_seq_k fun K hK => ?_
      refine cv_region_then rfl ?_
      simp -implicitDefEqProofs (disch := first | omega | decide) only [seval, -Int.reducePow, -Nat.reducePow, cC, pv, binv, sArRead1, undef, g3, g4]
      refine ⟨_, hW.ld1 (m := 1) (v := .int .u8 (c : Int)) (i := i) rfl (byt_get hc), fun tok htok => ?_⟩
      subst htok
      simp -implicitDefEqProofs (disch := first | omega | decide) only [seval, -Int.reducePow, -Nat.reducePow, cC, pv, binv, sArRead1, undef, g3, g4]
      refine hK _ _ ?_
      clear hK K
      refine cv_region_q rfl ?_
      simp -implicitDefEqProofs (disch := first | omega | decide) only [seval, -Int.reducePow, -Nat.reducePow, cC, pv, binv, sArRead1, undef, bits64, o6, o4, o1, o2, g3, g4]
      refine hK _ _ ?_
      clear hK K
      refine cv_region_then rfl ?_
      simp -implicitDefEqProofs (disch := first | omega | decide) only [seval, -Int.reducePow, -Nat.reducePow, cC, pv, binv, sArRead1, undef, wrap_in, g3, g4]
      refine ⟨⟨i + 1, ?_⟩, ?_⟩
      · simp -implicitDefEqProofs (disch := first | omega | decide) only [seval, -Int.reducePow, -Nat.reducePow, cC, pv, binv, sArRead1, undef, Int.natCast_add, o5, g3, g4]
        omega
      · simp only [intOf]; omega
    refine cv_exit ?_
    simp only [blockQ, thenQ, if_true, ite_true]
    clear hK K
    refine hK _ _ ?_
    clear hK K
    have hit : ¬ i < n := by have := of_decide_eq_false ‹decide ((i : Int) < (n : Int)) = false›; omega
    refine cv_seq_k fun K hK => ?_
    refine cv_region_then rfl ?_
    simp -implicitDefEqProofs (disch := first | omega | decide) only [seval, -Int.reducePow, -Nat.reducePow, cC, pv, binv, sArRead1, undef, g3, g4]
    refine hK _ _ ?_
    clear hK K
    refine cv_ret ⟨_, (by simp -implicitDefEqProofs (disch := first | omega | decide) only [seval, -Int.reducePow, -Nat.reducePow, cC, pv, binv, sArRead1, undef, g3, g4]; rfl), fun w hw => ?_⟩
    rw [hF, hld, List.take_of_length_le (by omega)]
    exact ⟨rfl, hw.below⟩
  · have hfv : fV x e k wd F = .slice none 0 0 := by unfold fV; rw [if_neg hz]
    have hld : loadF x.bs e k wd F = 0 := by unfold loadF; rw [if_neg hz]
    refine cv_seq_k fun K hK => ?_
    refine cv_seq_k fun K hK => ?_
    refine cv_region_then rfl ?_
    simp -implicitDefEqProofs (disch := first | omega | decide) only [seval, -Int.reducePow, -Nat.reducePow, cC, pv, binv, sArRead1, undef, hfv]
    refine hK _ _ ?_
    clear hK K
    refine cv_gen fun G5 hG => ?_
    have g5_11 := congrFun hG 11
    have g5_12 := congrFun hG 12
    have g5_23 := congrFun hG 23
    have g5_24 := congrFun hG 24
    have g5_25 := congrFun hG 25
    clear hG
    try simp -implicitDefEqProofs (disch := first | omega | decide) only [seval, -Int.reducePow, -Nat.reducePow, cC, pv, binv, sArRead1, undef] at g5_11 g5_12 g5_23 g5_24 g5_25
    have g5 := And.intro g5_11 (And.intro g5_12 (And.intro g5_23 (And.intro g5_24 g5_25)))
    refine cv_block ?_
    refine cv_loop (fun F' L' => F' 11 = G5 11 ∧ F' 12 = .int .u64 0 ∧ F' 23 = G5 23 ∧ F' 24 = G5 24 ∧ F' 25 = .int .i64 0 ∧ L' = [eBox b5 e]) (fun F' L' => 0) ?_ ?_
    · simp -implicitDefEqProofs (disch := first | omega | decide) only [seval, -Int.reducePow, -Nat.reducePow, cC, pv, binv, sArRead1, undef, g5]
    intro G6 L' hI
    obtain ⟨q11, q12, q23, q24, q25, rfl⟩ := hI
    have g6_11 := q11.trans g5_11
    have g6_12 := q12
    have g6_23 := q23.trans g5_23
    have g6_24 := q24.trans g5_24
    have g6_25 := q25
    clear q11 q12 q23 q24 q25
    have g6 := And.intro g6_11 (And.intro g6_12 (And.intro g6_23 (And.intro g6_24 g6_25)))
    refine cv_seq_k fun K hK => ?_
    refine cv_region_then rfl ?_
    simp -implicitDefEqProofs (disch := first | omega | decide) only [seval, -Int.reducePow, -Nat.reducePow, cC, pv, binv, sArRead1, undef, g5, g6]
    refine hK _ _ ?_
    clear hK K
    refine cv_seq_k fun K hK => ?_
    refine cv_cond ?_
    simp -implicitDefEqProofs (disch := first | omega | decide) only [seval, -Int.reducePow, -Nat.reducePow, cC, pv, binv, sArRead1, undef, g5, g6]
    refine cv_exit ?_
    simp only [blockQ, thenQ, if_true, ite_true]
    clear hK K
    refine hK _ _ ?_
    clear hK K
    refine cv_seq_k fun K hK => ?_
    refine cv_region_then rfl ?_
    simp -implicitDefEqProofs (disch := first | omega | decide) only [seval, -Int.reducePow, -Nat.reducePow, cC, pv, binv, sArRead1, undef, g5, g6]
    refine hK _ _ ?_
    clear hK K
    refine cv_ret ⟨_, (by simp -implicitDefEqProofs (disch := first | omega | decide) only [seval, -Int.reducePow, -Nat.reducePow, cC, pv, binv, sArRead1, undef, g5, g6]; rfl), fun w hw => ?_⟩
    rw [hF, hld]
    exact ⟨rfl, hw.below⟩
def rdErr (us : List Ext) (e : Ext) (k n : Int) : Int := if e ∈ us then (if n < 0 then 1 else if 0 ≤ k ∧ n ≤ e.len ∧ k ≤ e.len - n then 0 else 7) else 6
def rdF (bs : List Nat) (e : Ext) (k n f : Int) : List Nat := if f = 0 then winF bs e k n else []
set_option maxHeartbeats 1000000 in
theorem arRead_any (e : Ext) (k n : Int) (h : ArW W W.heap.size x) (hI : Ex.Inv (x.N : Int) us x.al.fr x.al.tk) : Calls Try.prog 16 #[.pointer (some ⟨x.bR, 0, none⟩), exV e, .int .i64 k, .int .i64 n] W
    (rowPost 5 1 (fun v => .tuple #[v, .int .i64 (rdErr us e k n)]) (byt (rdF x.bs e k n (rdErr us e k n))) W) := by
  have hbR := h.lt
  have h20 := h.len
  obtain ⟨F, hF⟩ : ∃ F, rdErr us e k n = F := ⟨_, rfl⟩
  have hF2 := hF
  unfold rdErr at hF2
  have hno : ¬ F = 0 → rdF x.bs e k n F = [] := fun h => by unfold rdF; rw [if_neg h]
  refine calls_cv (M := []) (n := 38) [.tmp 8, .tmp 9] rfl Try.func16 rfl rfl (Nat.le_of_ble_eq_true rfl) (St.nil _ _) ?_
  refine cv_seq_k fun K hK => ?_
  refine cv_region_then rfl ?_
  simp -implicitDefEqProofs (disch := first | omega | decide) only [seval, -Int.reducePow, -Nat.reducePow, cC, pv, binv, sArRead1, undef]
  intro b5 hb5
  refine hK _ _ ?_
  clear hK K
  by_cases he : e ∈ us
  · rw [if_pos he] at hF2
    obtain ⟨o, l, rfl, hl, hN⟩ := hI.nat he
    dsimp only at hF2
    refine cv_seq_k fun K hK => ?_
    refine cv_region_then rfl ?_
    simp -implicitDefEqProofs (disch := first | omega | decide) only [seval, -Int.reducePow, -Nat.reducePow, cC, pv, binv, sArRead1, undef]
    refine callV_ret (fun w hw => arSlice_yes x us w o l (h.at hw) hI he hl hN) ?_
    try simp -implicitDefEqProofs (disch := first | omega | decide) only [seval, -Int.reducePow, -Nat.reducePow, cC, pv, binv, sArRead1, undef]
    refine hK _ _ ?_
    clear hK K
    refine cv_seq_k fun K hK => ?_
    refine cv_block ?_
    refine cv_seq_k fun K hK => ?_
    refine cv_region_then rfl ?_
    simp -implicitDefEqProofs (disch := first | omega | decide) only [seval, -Int.reducePow, -Nat.reducePow, cC, pv, binv, sArRead1, undef]
    refine hK _ _ ?_
    clear hK K
    refine cv_cond ?_
    simp -implicitDefEqProofs (disch := first | omega | decide) only [seval, -Int.reducePow, -Nat.reducePow, cC, pv, binv, sArRead1, undef]
    refine cv_seq_k fun K hK => ?_
    refine cv_region_then rfl ?_
    simp -implicitDefEqProofs (disch := first | omega | decide) only [seval, -Int.reducePow, -Nat.reducePow, cC, pv, binv, sArRead1, undef]
    refine hK _ _ ?_
    clear hK K
    refine cv_cond ?_
    simp -implicitDefEqProofs (disch := first | omega | decide) only [seval, -Int.reducePow, -Nat.reducePow, cC, pv, binv, sArRead1, undef]
    refine ⟨fun hc => ?_, fun hc => ?_⟩
    · have q1 := of_decide_eq_true hc
      rw [if_pos q1] at hF2
      refine cv_seq_k fun K hK => ?_
      refine cv_region_then rfl ?_
      simp -implicitDefEqProofs (disch := first | omega | decide) only [seval, -Int.reducePow, -Nat.reducePow, cC, pv, binv, sArRead1, undef]
      refine hK _ _ ?_
      clear hK K
      refine cv_ret ⟨_, (by simp -implicitDefEqProofs (disch := first | omega | decide) only [seval, -Int.reducePow, -Nat.reducePow, cC, pv, binv, sArRead1, undef]; rfl), fun w hw => ?_⟩
      rw [hF, hno (by omega), ← hF2]
      exact ⟨none, 0, 0, rfl, ⟨rfl, .inl ⟨rfl, rfl⟩⟩, hw.below⟩
    have q1 := of_decide_eq_false hc
    rw [if_neg q1] at hF2
    refine cv_seq_k fun K hK => ?_
    refine cv_region_then rfl ?_
    simp -implicitDefEqProofs (disch := first | omega | decide) only [seval, -Int.reducePow, -Nat.reducePow, cC, pv, binv, sArRead1, undef]
    refine callV_ret (fun w hw => within_any (some ⟨x.bB, o, none⟩) l (x.N - o) k n w (by omega) (by omega)) ?_
    try simp -implicitDefEqProofs (disch := first | omega | decide) only [seval, -Int.reducePow, -Nat.reducePow, cC, pv, binv, sArRead1, undef]
    refine hK _ _ ?_
    clear hK K
    refine cv_cond ?_
    simp -implicitDefEqProofs (disch := first | omega | decide) only [seval, -Int.reducePow, -Nat.reducePow, cC, pv, binv, sArRead1, undef]
    refine ⟨fun hc => ?_, fun hc => ?_⟩
    · have q2 := nd_true hc
      rw [if_neg q2] at hF2
      refine cv_seq_k fun K hK => ?_
      refine cv_region_then rfl ?_
      simp -implicitDefEqProofs (disch := first | omega | decide) only [seval, -Int.reducePow, -Nat.reducePow, cC, pv, binv, sArRead1, undef]
      refine hK _ _ ?_
      clear hK K
      refine cv_ret ⟨_, (by simp -implicitDefEqProofs (disch := first | omega | decide) only [seval, -Int.reducePow, -Nat.reducePow, cC, pv, binv, sArRead1, undef]; rfl), fun w hw => ?_⟩
      rw [hF, hno (by omega), ← hF2]
      exact ⟨none, 0, 0, rfl, ⟨rfl, .inl ⟨rfl, rfl⟩⟩, hw.below⟩
    have q2 := Decidable.not_not.1 (nd_false hc)
    rw [if_pos q2] at hF2
    obtain ⟨k, rfl⟩ : ∃ k' : Nat, k = (k' : Int) := ⟨k.toNat, by omega⟩
    obtain ⟨n, rfl⟩ : ∃ n' : Nat, n = (n' : Int) := ⟨n.toNat, by omega⟩
    have hto : ((k : Int) + (n : Int)).toNat - k = n := by omega
    have hwin : Sl W W.heap.size 1 (sbase (x.N - o) k 1 (some ⟨x.bB, o, none⟩)) n (x.N - o - k) (byt (winF x.bs ⟨(o : Int), (l : Int)⟩ (k : Int) (n : Int))) := by
      have h1 := ((h.win (p := o) (n := l) hN).drop (k := k) (by omega)).take (k := n) (by omega)
      have e : (((byt ((x.bs.drop o).take l)).drop (k * 1)).take (n * 1)) = byt (winF x.bs ⟨(o : Int), (l : Int)⟩ (k : Int) (n : Int)) := by
        unfold winF byt
        rw [show ((⟨(o : Int), (l : Int)⟩ : Ext).off + (k : Int)).toNat = o + k by dsimp only; omega, Int.toNat_natCast, Nat.mul_one, Nat.mul_one, ← List.map_drop, ← List.map_take, List.drop_take, List.take_take, List.drop_drop, Nat.min_eq_left (by omega)]
      rwa [e] at h1
    have hrd : rdF x.bs ⟨(o : Int), (l : Int)⟩ (k : Int) (n : Int) F = winF x.bs ⟨(o : Int), (l : Int)⟩ (k : Int) (n : Int) := by unfold rdF; rw [if_pos hF2.symm]
    refine cv_skip ?_
    try simp only [blockQ, thenQ]
    refine hK _ _ ?_
    clear hK K
    refine cv_seq_k fun K hK => ?_
    refine cv_region_then rfl ?_
    simp -implicitDefEqProofs (disch := first | omega | decide) only [seval, -Int.reducePow, -Nat.reducePow, cC, pv, binv, sArRead1, undef, hto]
    refine callV_row (fun A n c => .slice A n c) (fun w hw => bclone_any (sbase (x.N - o) k 1 (some ⟨x.bB, o, none⟩)) n (x.N - o - k) _ w (hwin.at hw) (by omega)) ?_
    intro A m c hl hr
    simp -implicitDefEqProofs (disch := first | omega | decide) only [seval, -Int.reducePow, -Nat.reducePow, cC, pv, binv, sArRead1, undef]
    refine hK _ _ ?_
    clear hK K
    refine cv_ret ⟨_, (by simp -implicitDefEqProofs (disch := first | omega | decide) only [seval, -Int.reducePow, -Nat.reducePow, cC, pv, binv, sArRead1, undef]; rfl), fun w hw => ?_⟩
    rw [hF, hrd, ← hF2]
    exact ⟨_, _, _, rfl, hw.rowNew (by simp), hw.below⟩
  · rw [if_neg he] at hF2
    refine cv_seq_k fun K hK => ?_
    refine cv_region_then rfl ?_
    simp -implicitDefEqProofs (disch := first | omega | decide) only [seval, -Int.reducePow, -Nat.reducePow, cC, pv, binv, sArRead1, undef]
    refine callV_ret (fun w hw => arSlice_no x us w e (h.at hw) hI he) ?_
    try simp -implicitDefEqProofs (disch := first | omega | decide) only [seval, -Int.reducePow, -Nat.reducePow, cC, pv, binv, sArRead1, undef]
    refine hK _ _ ?_
    clear hK K
    refine cv_seq_k fun K hK => ?_
    refine cv_block ?_
    refine cv_seq_k fun K hK => ?_
    refine cv_region_then rfl ?_
    simp -implicitDefEqProofs (disch := first | omega | decide) only [seval, -Int.reducePow, -Nat.reducePow, cC, pv, binv, sArRead1, undef]
    refine hK _ _ ?_
    clear hK K
    refine cv_cond ?_
    simp -implicitDefEqProofs (disch := first | omega | decide) only [seval, -Int.reducePow, -Nat.reducePow, cC, pv, binv, sArRead1, undef]
    refine cv_seq_k fun K hK => ?_
    refine cv_region_then rfl ?_
    simp -implicitDefEqProofs (disch := first | omega | decide) only [seval, -Int.reducePow, -Nat.reducePow, cC, pv, binv, sArRead1, undef]
    refine hK _ _ ?_
    clear hK K
    refine cv_ret ⟨_, (by simp -implicitDefEqProofs (disch := first | omega | decide) only [seval, -Int.reducePow, -Nat.reducePow, cC, pv, binv, sArRead1, undef]; rfl), fun w hw => ?_⟩
    rw [hF, hno (by omega), ← hF2]
    exact ⟨none, 0, 0, rfl, ⟨rfl, .inl ⟨rfl, rfl⟩⟩, hw.below⟩
end
end Go.Proofs.Ytfaanphjaghbpaa
/- The arena's code that writes: Alloc, Free. -/
namespace Go.Proofs.Ytfaanphjaghbpaa
open Go.RowKit Go.Shelf
set_option linter.unusedVariables false
set_option linter.unusedSimpArgs false
set_option maxRecDepth 100000
def splice (bs : List Nat) (p : Nat) (ns : List Nat) : List Nat := bs.take p ++ ns ++ bs.drop (p + ns.length)
theorem splice_len {bs ns : List Nat} {p : Nat} (h : p + ns.length ≤ bs.length) : (splice bs p ns).length = bs.length := by simp [splice]; omega
theorem byt_splice (bs : List Nat) (p : Nat) (ns : List Nat) : (byt bs).take p ++ byt ns ++ (byt bs).drop (p + ns.length) = byt (splice bs p ns) := by simp [byt, splice]
theorem splice_lt {bs ns : List Nat} {p : Nat} (h1 : ∀ b ∈ bs, b < 256) (h2 : ∀ b ∈ ns, b < 256) : ∀ b ∈ splice bs p ns, b < 256 := fun b hb => by
  unfold splice at hb
  rcases List.mem_append.1 hb with hb | hb
  · rcases List.mem_append.1 hb with hb | hb
    · exact h1 b (List.mem_of_mem_take hb)
    · exact h2 b hb
  · exact h1 b (List.mem_of_mem_drop hb)
set_option maxRecDepth 100000 in
theorem sArMut1 : type_of% (And.intro (And.intro (And.intro @eBox.eq_1 @exV.eq_1) (And.intro @alL.eq_1 @arL.eq_1)) (And.intro (And.intro @Nat.mul_one @wrap_in) (And.intro @cMp @cM))) := (And.intro (And.intro (And.intro @eBox.eq_1 @exV.eq_1) (And.intro @alL.eq_1 @arL.eq_1)) (And.intro (And.intro @Nat.mul_one @wrap_in) (And.intro @cMp @cM)))
set_option maxHeartbeats 2000000 in
theorem arAlloc_any (x : ArR) (us : List Ext) (n : Int) (W : World) (hst : St (feet (arL x)) W (arL x) W) (hI : Ex.Inv (x.N : Int) us x.al.fr x.al.tk) (hl : us.length ≤ 90) (hbs : x.bs.length = x.N) :
    Calls Try.prog 11 #[.pointer (some ⟨x.bR, 0, none⟩), .int .i64 n] W
    fun e w' => ∃ y : AlR, e = .returned (.tuple #[exV (Ex.findF x.al.fr n).1, .int .i64 (Ex.findF x.al.fr n).2]) ∧
      (y.bA = x.al.bA ∧ (¬ (Ex.findF x.al.fr n).2 = 0 → y = x.al) ∧ ((Ex.findF x.al.fr n).2 = 0 → Ex.Inv (x.N : Int) (us ++ [(Ex.findF x.al.fr n).1]) y.fr y.tk)) ∧ St (feet (arL x)) W (arL { x with al := y }) w' := by
  have hfl := hI.frLen
  have hN1 := hI.N1
  obtain ⟨M, hM⟩ : ∃ M, feet (arL x) = M := ⟨_, rfl⟩
  rw [hM] at hst ⊢
  clear hM
  obtain ⟨al, bR, bB, N, bs⟩ := x
  dsimp only at hfl hI hbs hN1
  obtain ⟨q, hq⟩ : ∃ q, Ex.findF al.fr n = q := ⟨_, rfl⟩
  dsimp only
  rw [hq]
  unfold arL alL at hst
  dsimp only at hst
  refine calls_cv2 (M := M) (n := 12) [.cell 4 28, .tmp 5] rfl Try.func11 rfl rfl (Nat.le_of_ble_eq_true rfl)  hst ?_
  refine cv_seq_k fun K hK => ?_
  refine cv_region_then rfl ?_
  simp -implicitDefEqProofs (disch := first | omega | decide) only [seval, -Int.reducePow, -Nat.reducePow, cC, pv, binv, sArMut1, undef]
  intro b4 hb4 hf4
  refine hK _ _ ?_
  clear hK K
  refine cv_seq_k fun K hK => ?_
  refine cv_region_then rfl ?_
  simp -implicitDefEqProofs (disch := first | omega | decide) only [seval, -Int.reducePow, -Nat.reducePow, cC, pv, binv, sArMut1, undef]
  refine callV_ret (fun w hw => parts_any ⟨al, bR, bB, N, bs⟩ w (ArW.of hw 1 2 3 4 5 rfl rfl rfl rfl rfl (by dsimp only; omega) hbs (by dsimp only; omega))) ?_
  try simp -implicitDefEqProofs (disch := first | omega | decide) only [seval, -Int.reducePow, -Nat.reducePow, cC, pv, binv, sArMut1, undef]
  refine callV_grp [3, 4, 5] [0, 1, 2] (by decide) (fun _ : AlR => .tuple #[exV q.1, .int .i64 q.2]) (fun y => alL y) (fun y => y.bA = al.bA ∧ (¬ q.2 = 0 → y = al) ∧ (q.2 = 0 → Ex.Inv (N : Int) (us ++ [q.1]) y.fr y.tk)) (fun w hw hs => by
    have := aAlloc_any al N us n w hs hI (by omega)
    rw [hq] at this
    exact this) ?_
  intro y hy
  simp only [pickL, nth]
  simp -implicitDefEqProofs (disch := first | omega | decide) only [seval, -Int.reducePow, -Nat.reducePow, cC, pv, binv, sArMut1, undef]
  refine hK _ _ ?_
  clear hK K
  refine cv_ret ?_
  simp -implicitDefEqProofs (disch := first | omega | decide) only [seval, -Int.reducePow, -Nat.reducePow, cC, pv, binv, sArMut1, undef, retQ2, ressV, packV]
  intro w hw
  refine ⟨y, hy, ?_⟩
  have h9 := hw.pick (ix := [4, 5, 0, 1, 2]) (by decide)
  simp only [pickL, nth] at h9
  rw [hy.1] at h9 ⊢
  exact h9
set_option maxHeartbeats 2000000 in
theorem arFree_any (x : ArR) (us : List Ext) (e : Ext) (W : World) (hst : St (feet (arL x)) W (arL x) W) (hI : Ex.Inv (x.N : Int) us x.al.fr x.al.tk) (hl : us.length ≤ 90) (hbs : x.bs.length = x.N) :
    Calls Try.prog 28 #[.pointer (some ⟨x.bR, 0, none⟩), exV e] W
    fun en w' => ∃ y : AlR, en = .returned (.int .i64 (if e ∈ us then 0 else 6)) ∧
      (y.bA = x.al.bA ∧ (e ∉ us → y = x.al) ∧ (e ∈ us → Ex.Inv (x.N : Int) (us.filter fun x => decide (x ≠ e)) y.fr y.tk)) ∧ St (feet (arL x)) W (arL { x with al := y, bs := if e ∈ us then splice x.bs e.off.toNat (List.replicate e.len.toNat 0) else x.bs }) w' := by
  have hfl := hI.frLen
  have hN1 := hI.N1
  have hnat := fun h => hI.nat (e := e) h
  obtain ⟨M, hM⟩ : ∃ M, feet (arL x) = M := ⟨_, rfl⟩
  rw [hM] at hst ⊢
  clear hM
  obtain ⟨al, bR, bB, N, bs⟩ := x
  dsimp only at hfl hI hbs hN1 hnat
  dsimp only
  unfold arL alL at hst
  dsimp only at hst
  by_cases he : e ∈ us
  · obtain ⟨o, l, rfl, hl0, hoN⟩ := hnat he
    obtain ⟨l, rfl⟩ : ∃ l', l = l' + 1 := ⟨l - 1, by omega⟩
    have hz : (byt bs).take o ++ List.replicate (l + 1) (Value.int .u8 0) ++ (byt bs).drop (o + (l + 1)) = byt (splice bs o (List.replicate (l + 1) 0)) := by
      have := byt_splice bs o (List.replicate (l + 1) 0)
      rw [List.length_replicate] at this
      rw [← this]
      simp [byt]
    refine calls_cv (M := M) (n := 23) [.tmp 4] rfl Try.func28 rfl rfl (Nat.le_of_ble_eq_true rfl)  hst ?_
    refine cv_seq_k fun K hK => ?_
    refine cv_region_then rfl ?_
    simp -implicitDefEqProofs (disch := first | omega | decide) only [seval, -Int.reducePow, -Nat.reducePow, cC, pv, binv, sArMut1, undef]
    intro b3 hb3 hf3
    refine hK _ _ ?_
    clear hK K
    refine cv_seq_k fun K hK => ?_
    refine cv_region_then rfl ?_
    simp -implicitDefEqProofs (disch := first | omega | decide) only [seval, -Int.reducePow, -Nat.reducePow, cC, pv, binv, sArMut1, undef]
    refine callV_ret (fun w hw => arSlice_yes ⟨al, bR, bB, N, bs⟩ us w o (l + 1) (ArW.of hw 1 2 3 4 5 rfl rfl rfl rfl rfl (by dsimp only; omega) hbs (by dsimp only; omega)) hI he (by omega) hoN) ?_
    try simp -implicitDefEqProofs (disch := first | omega | decide) only [seval, -Int.reducePow, -Nat.reducePow, cC, pv, binv, sArMut1, undef]
    refine hK _ _ ?_
    clear hK K
    refine cv_seq_k fun K hK => ?_
    refine cv_seq_k fun K hK => ?_
    refine cv_region_then rfl ?_
    simp -implicitDefEqProofs (disch := first | omega | decide) only [seval, -Int.reducePow, -Nat.reducePow, cC, pv, binv, sArMut1, undef]
    refine hK _ _ ?_
    clear hK K
    refine cv_cond ?_
    simp -implicitDefEqProofs (disch := first | omega | decide) only [seval, -Int.reducePow, -Nat.reducePow, cC, pv, binv, sArMut1, undef]
    refine cv_skip ?_
    try simp only [blockQ, thenQ]
    refine hK _ _ ?_
    clear hK K
    refine cv_seq_k fun K hK => ?_
    refine cv_region_then rfl ?_
    simp -implicitDefEqProofs (disch := first | omega | decide) only [seval, -Int.reducePow, -Nat.reducePow, cC, pv, binv, sArMut1, undef]
    refine xv_clear 2 (T := 5) (u := .int .u8 0) tap36 (by kernel_rfl) rfl rfl rfl (by rw [byt_len]; omega) ?_
    simp -implicitDefEqProofs (disch := first | omega | decide) only [seval, -Int.reducePow, -Nat.reducePow, cC, pv, binv, sArMut1, undef, hz]
    refine hK _ _ ?_
    clear hK K
    refine cv_seq_k fun K hK => ?_
    refine cv_draw_of (pickL [0, 1, 2] _) (fun w hw => hw.pick (by decide)) (by simp only [pickL, nth, suf_cons, suf_nil, List.mem_cons, true_or, or_true, and_true, eq_self]) [(true, 0), (true, 1), (true, 2), (true, 3), (true, 4), (false, 5), (true, 6)] [] mixA rfl (by kernel_rfl) (by kernel_rfl) rfl rfl ?_
    simp -implicitDefEqProofs (disch := first | omega | decide) only [seval, -Int.reducePow, -Nat.reducePow, cC, pv, binv, sArMut1, undef]
    refine callV_grp [3, 4, 5] [0, 1, 2] (by decide) (fun _ : AlR => .int .i64 0) (fun y => alL y) (fun y => y.bA = al.bA ∧ Ex.Inv (N : Int) (us.filter fun x => decide (x ≠ (⟨(o : Int), ((l + 1 : Nat) : Int)⟩ : Ext))) y.fr y.tk) (fun w hw hs => by
      refine (aFree_any al N us ⟨(o : Int), ((l + 1 : Nat) : Int)⟩ w hs hI (by omega)).mono ?_
      rintro e w' ⟨y, rfl, ⟨h1, -, h3⟩, h4⟩
      exact ⟨y, by rw [if_pos he], ⟨h1, h3 he⟩, h4⟩) ?_
    intro y hy
    simp only [pickL, nth]
    simp -implicitDefEqProofs (disch := first | omega | decide) only [seval, -Int.reducePow, -Nat.reducePow, cC, pv, binv, sArMut1, undef]
    refine hK _ _ ?_
    clear hK K
    refine cv_ret ⟨_, (by simp -implicitDefEqProofs (disch := first | omega | decide) only [seval, -Int.reducePow, -Nat.reducePow, cC, pv, binv, sArMut1, undef]; rfl), fun w hw => ?_⟩
    rw [if_pos he, if_pos he]
    refine ⟨y, rfl, ⟨hy.1, fun h => absurd he h, fun _ => hy.2⟩, ?_⟩
    have h9 := hw.pick (ix := [4, 5, 0, 1, 2]) (by decide)
    simp only [pickL, nth] at h9
    unfold arL alL
    dsimp only
    rw [hy.1] at h9 ⊢
    rw [show ((o : Int)).toNat = o by omega, show (((l + 1 : Nat) : Int)).toNat = l + 1 by omega]
    exact h9
  · refine calls_cv (M := M) (n := 23) [.tmp 4] rfl Try.func28 rfl rfl (Nat.le_of_ble_eq_true rfl)  hst ?_
    refine cv_seq_k fun K hK => ?_
    refine cv_region_then rfl ?_
    simp -implicitDefEqProofs (disch := first | omega | decide) only [seval, -Int.reducePow, -Nat.reducePow, cC, pv, binv, sArMut1, undef]
    intro b3 hb3 hf3
    refine hK _ _ ?_
    clear hK K
    refine cv_seq_k fun K hK => ?_
    refine cv_region_then rfl ?_
    simp -implicitDefEqProofs (disch := first | omega | decide) only [seval, -Int.reducePow, -Nat.reducePow, cC, pv, binv, sArMut1, undef]
    refine callV_ret (fun w hw => arSlice_no ⟨al, bR, bB, N, bs⟩ us w e (ArW.of hw 1 2 3 4 5 rfl rfl rfl rfl rfl (by dsimp only; omega) hbs (by dsimp only; omega)) hI he) ?_
    try simp -implicitDefEqProofs (disch := first | omega | decide) only [seval, -Int.reducePow, -Nat.reducePow, cC, pv, binv, sArMut1, undef]
    refine hK _ _ ?_
    clear hK K
    refine cv_seq_k fun K hK => ?_
    refine cv_seq_k fun K hK => ?_
    refine cv_region_then rfl ?_
    simp -implicitDefEqProofs (disch := first | omega | decide) only [seval, -Int.reducePow, -Nat.reducePow, cC, pv, binv, sArMut1, undef]
    refine hK _ _ ?_
    clear hK K
    refine cv_cond ?_
    simp -implicitDefEqProofs (disch := first | omega | decide) only [seval, -Int.reducePow, -Nat.reducePow, cC, pv, binv, sArMut1, undef]
    refine cv_seq_k fun K hK => ?_
    refine cv_region_then rfl ?_
    simp -implicitDefEqProofs (disch := first | omega | decide) only [seval, -Int.reducePow, -Nat.reducePow, cC, pv, binv, sArMut1, undef]
    refine hK _ _ ?_
    clear hK K
    refine cv_ret ⟨_, (by simp -implicitDefEqProofs (disch := first | omega | decide) only [seval, -Int.reducePow, -Nat.reducePow, cC, pv, binv, sArMut1, undef]; rfl), fun w hw => ?_⟩
    rw [if_neg he, if_neg he]
    exact ⟨al, rfl, ⟨rfl, fun _ => rfl, fun h => absurd h he⟩, hw.tail⟩
end Go.Proofs.Ytfaanphjaghbpaa
/- The arena's code that writes bytes: Store, Write, Copy. -/
namespace Go.Proofs.Ytfaanphjaghbpaa
open Go.RowKit Go.Shelf
set_option linter.unusedVariables false
set_option linter.unusedSimpArgs false
set_option maxRecDepth 100000
theorem splice_get {bs ns : List Nat} {p : Nat} (h : p + ns.length ≤ bs.length) (j : Nat) : (splice bs p ns)[j]? = if j < p then bs[j]? else if j < p + ns.length then ns[j - p]? else bs[j]? := by
  unfold splice
  rcases Nat.lt_or_ge j p with h1 | h1
  · rw [if_pos h1, List.append_assoc, List.getElem?_append_left (by rw [List.length_take]; omega), List.getElem?_take, if_pos h1]
  · rw [if_neg (by omega)]
    rcases Nat.lt_or_ge j (p + ns.length) with h2 | h2
    · rw [if_pos h2, List.getElem?_append_left (by simp; omega), List.getElem?_append_right (by simp; omega), List.length_take, Nat.min_eq_left (by omega)]
    · rw [if_neg (by omega), List.getElem?_append_right (by simp; omega), List.getElem?_drop]
      congr 1
      simp
      omega
theorem splice_step {bs ns : List Nat} {p i c : Nat} (h : p + ns.length ≤ bs.length) (hc : ns[i]? = some c) : (splice bs p (ns.take i)).set (p + i) c = splice bs p (ns.take (i + 1)) := by
  have hi := (List.getElem?_eq_some_iff.1 hc).1
  apply List.ext_getElem?
  intro j
  have hl1 : (ns.take i).length = i := by rw [List.length_take]; omega
  have hl2 : (ns.take (i + 1)).length = i + 1 := by rw [List.length_take]; omega
  rw [List.getElem?_set, splice_get (by omega), splice_get (by omega), splice_len (by omega), hl1, hl2]
  by_cases h1 : p + i = j
  · subst h1
    rw [if_pos rfl, if_pos (by omega), if_neg (by omega), if_pos (by omega), show p + i - p = i by omega, List.getElem?_take, if_pos (by omega), hc]
  · rw [if_neg h1]
    by_cases h2 : j < p
    · rw [if_pos h2, if_pos h2]
    · rw [if_neg h2, if_neg h2]
      by_cases h3 : j < p + i
      · rw [if_pos h3, if_pos (by omega), List.getElem?_take, List.getElem?_take, if_pos (by omega), if_pos (by omega)]
      · rw [if_neg h3, if_neg (by omega)]
theorem splice_nil (bs : List Nat) (p : Nat) : splice bs p [] = bs := by simp [splice]
theorem byt_put {bs : List Nat} {j c : Nat} (h : j < bs.length) : (byt bs).take j ++ [Value.int .u8 (c : Int)] ++ (byt bs).drop (j + 1) = byt (bs.set j c) := by
  unfold byt
  rw [← List.map_take, ← List.map_drop, List.set_eq_take_append_cons_drop, if_pos h]
  simp
theorem byt_put2 {bs : List Nat} {j c : Nat} (h : j < bs.length) : (byt bs).take j ++ Value.int .u8 (c : Int) :: (byt bs).drop (j + 1) = byt (bs.set j c) := by
  rw [← byt_put h]
  simp
def stErr (us : List Ext) (e : Ext) (k w : Int) (v : Nat) : Int := if fErr us e k w = 0 then (if w < 8 ∧ ¬ v / 256 ^ w.toNat = 0 then 9 else 0) else fErr us e k w
def stF (bs : List Nat) (e : Ext) (k w : Int) (v : Nat) (f : Int) : List Nat := if f = 0 then splice bs (e.off + k).toNat (leB v w.toNat) else bs
theorem shr_nat (v n : Nat) : (v : Int) / 2 ^ (8 * n) = ((v / 256 ^ n : Nat) : Int) := by
  have e : ((2 : Int) ^ (8 * n)) = ((256 ^ n : Nat) : Int) := by
    rw [show (256 : Nat) ^ n = 2 ^ (8 * n) by rw [Nat.pow_mul]]
    push_cast
    rfl
  rw [e, Int.natCast_ediv]
set_option maxRecDepth 100000 in
theorem sArWr1 : type_of% (And.intro (And.intro (And.intro @eBox.eq_1 @exV.eq_1) (And.intro @alL.eq_1 @arL.eq_1)) (And.intro (And.intro @Nat.mul_one @wrap_in) (And.intro @cMp @cM))) := (And.intro (And.intro (And.intro @eBox.eq_1 @exV.eq_1) (And.intro @alL.eq_1 @arL.eq_1)) (And.intro (And.intro @Nat.mul_one @wrap_in) (And.intro @cMp @cM)))
set_option maxHeartbeats 2000000 in
theorem arStore_any (x : ArR) (us : List Ext) (e : Ext) (k wd : Int) (v : Nat) (W : World) (hst : St (feet (arL x)) W (arL x) W) (hI : Ex.Inv (x.N : Int) us x.al.fr x.al.tk) (hl : us.length ≤ 90) (hbs : x.bs.length = x.N) (hv : v < 18446744073709551616) :
    Calls Try.prog 12 #[.pointer (some ⟨x.bR, 0, none⟩), exV e, .int .i64 k, .int .i64 wd, .int .u64 (v : Int)] W
    fun en w' => ∃ _ : Unit, en = .returned (.int .i64 (stErr us e k wd v)) ∧ True ∧ St (feet (arL x)) W (arL { x with bs := stF x.bs e k wd v (stErr us e k wd v) }) w' := by
  have hfl := hI.frLen
  have hN1 := hI.N1
  obtain ⟨M, hM⟩ : ∃ M, feet (arL x) = M := ⟨_, rfl⟩
  rw [hM] at hst ⊢
  clear hM
  obtain ⟨F, hF⟩ : ∃ F, fErr us e k wd = F := ⟨_, rfl⟩
  have hok := fun h => fErr_ok (x := x) hI (e := e) (k := k) (w := wd) h
  obtain ⟨al, bR, bB, N, bs⟩ := x
  dsimp only at hfl hI hbs hN1 hok
  dsimp only
  have hSt : stErr us e k wd v = if F = 0 then (if wd < 8 ∧ ¬ v / 256 ^ wd.toNat = 0 then 9 else 0) else F := by rw [← hF]; rfl
  rw [hF] at hok
  unfold arL alL at hst
  dsimp only at hst
  refine calls_cv (M := M) (n := 48) [.tmp 10] rfl Try.func12 rfl rfl (Nat.le_of_ble_eq_true rfl)  hst ?_
  refine cv_seq_k fun K hK => ?_
  refine cv_region_then rfl ?_
  simp -implicitDefEqProofs (disch := first | omega | decide) only [seval, -Int.reducePow, -Nat.reducePow, cC, pv, binv, sArWr1, undef]
  intro b6 hb6 hf6
  refine hK _ _ ?_
  clear hK K
  refine cv_seq_k fun K hK => ?_
  refine cv_region_then rfl ?_
  simp -implicitDefEqProofs (disch := first | omega | decide) only [seval, -Int.reducePow, -Nat.reducePow, cC, pv, binv, sArWr1, undef]
  refine callV_ret (fun w hw => field_any ⟨al, bR, bB, N, bs⟩ us w e k wd (ArW.of hw 1 2 3 4 5 rfl rfl rfl rfl rfl (by dsimp only; omega) hbs (by dsimp only; omega)) hI) ?_
  try simp -implicitDefEqProofs (disch := first | omega | decide) only [seval, -Int.reducePow, -Nat.reducePow, cC, pv, binv, sArWr1, undef, hF]
  refine hK _ _ ?_
  clear hK K
  by_cases hz : F = 0
  · rw [if_pos hz] at hSt
    obtain ⟨p, n, hp, rfl, hpn, hn, he, -⟩ := hok hz
    rw [Int.toNat_natCast] at hSt
    have hfv : fV ⟨al, bR, bB, N, bs⟩ e k (n : Int) F = .slice (some ⟨bB, p, none⟩) n (N - p) := by unfold fV; rw [if_pos hz, hp]; simp
    have o4 : ((8 : Int) * (n : Int)).toNat = 8 * n := by omega
    have o5 := shr_nat v n
    have hz' : decide (F = 0) = true := decide_eq_true hz
    have hlB := leB_len v n
    refine cv_seq_k fun K hK => ?_
    refine cv_seq_k fun K hK => ?_
    refine cv_region_then rfl ?_
    simp -implicitDefEqProofs (disch := first | omega | decide) only [seval, -Int.reducePow, -Nat.reducePow, cC, pv, binv, sArWr1, undef, hfv, hz']
    refine hK _ _ ?_
    clear hK K
    refine cv_cond ?_
    simp -implicitDefEqProofs (disch := first | omega | decide) only [seval, -Int.reducePow, -Nat.reducePow, cC, pv, binv, sArWr1, undef]
    refine cv_skip ?_
    try simp only [blockQ, thenQ]
    refine hK _ _ ?_
    clear hK K
    refine cv_gen fun G1 hG => ?_
    have g1_3 := congrFun hG 3
    have g1_4 := congrFun hG 4
    have g1_11 := congrFun hG 11
    clear hG
    try simp -implicitDefEqProofs (disch := first | omega | decide) only [seval, -Int.reducePow, -Nat.reducePow, cC, pv, binv, sArWr1, undef, hfv] at g1_3 g1_4 g1_11
    have g1 := And.intro g1_3 (And.intro g1_4 g1_11)
    refine cv_seq_k fun K hK => ?_
    refine cv_seq_k fun K hK => ?_
    refine cv_cut (fun _ _ => True) (fun F' L' => F' 4 = G1 4 ∧ F' 11 = G1 11 ∧ F' 33 = .bool (decide ((n : Int) < 8 ∧ ¬ v / 256 ^ n = 0)) ∧ L' = [eBox b6 e, .blk bR 64 [.pointer (some ⟨al.bA, 0, none⟩), .slice (some ⟨bB, 0, none⟩) N N], .blk bB 5 (byt bs), .blk al.bA 99 [.slice al.FA al.fn al.fc, .map (some al.bm)], mpR al.bm al.tk, .row (.slice al.FA al.fn al.fc) 28 2 al.fn (exCells al.fr)]) ?_ ?_
    · by_cases a1 : (n : Int) < 8
      · have a1' : decide ((n : Int) < 8) = true := decide_eq_true a1
        refine cv_region_then rfl ?_
        simp -implicitDefEqProofs (disch := first | omega | decide) only [seval, -Int.reducePow, -Nat.reducePow, cC, pv, binv, sArWr1, undef, a1', bits64, o4, o5, g1]
        rw [show decide ((n : Int) < 8 ∧ ¬ v / 256 ^ n = 0) = !decide (((v / 256 ^ n : Nat) : Int) = 0) by generalize v / 256 ^ n = Q; rw [← decide_not]; apply decide_eq_decide.2; constructor <;> intro h <;> omega]
        all_goals (repeat' refine And.intro ?_ ?_)
        all_goals (first | with_reducible rfl | (refine congrArg Value.bool ?_; rw [Bool.eq_iff_iff]; (try simp only [decide_eq_true_eq, eq_self, true_and, and_true, false_and, and_false, true_or, or_true, false_or, or_false, not_true_eq_false, not_false_eq_true, true_iff, iff_true, false_iff, iff_false, Bool.false_eq_true, Bool.not_eq_true', Bool.not_eq_true, decide_eq_false_iff_not, Bool.and_eq_true, Bool.or_eq_true]) <;> omega) | (refine congrArg (Value.int _) ?_; omega) | omega)
      · have a1' : decide ((n : Int) < 8) = false := decide_eq_false a1
        refine cv_region_then rfl ?_
        simp -implicitDefEqProofs (disch := first | omega | decide) only [seval, -Int.reducePow, -Nat.reducePow, cC, pv, binv, sArWr1, undef, a1', g1]
        rw [show decide ((n : Int) < 8 ∧ ¬ v / 256 ^ n = 0) = false from decide_eq_false fun h => a1 h.1]
        all_goals (repeat' refine And.intro ?_ ?_)
        all_goals (first | with_reducible rfl | (refine congrArg Value.bool ?_; rw [Bool.eq_iff_iff]; (try simp only [decide_eq_true_eq, eq_self, true_and, and_true, false_and, and_false, true_or, or_true, false_or, or_false, not_true_eq_false, not_false_eq_true, true_iff, iff_true, false_iff, iff_false, Bool.false_eq_true, Bool.not_eq_true', Bool.not_eq_true, decide_eq_false_iff_not, Bool.and_eq_true, Bool.or_eq_true]) <;> omega) | (refine congrArg (Value.int _) ?_; omega) | omega)
    intro G2 L' _ hF
    obtain ⟨q4, q11, q33, rfl⟩ := hF
    have g2_4 := q4.trans g1_4
    have g2_11 := q11.trans g1_11
    have g2_33 := q33
    clear q4 q11 q33
    have g2 := And.intro g2_4 (And.intro g2_11 g2_33)
    refine hK _ _ ?_
    clear hK K
    refine cv_cond ?_
    simp -implicitDefEqProofs (disch := first | omega | decide) only [seval, -Int.reducePow, -Nat.reducePow, cC, pv, binv, sArWr1, undef, g2]
    refine ⟨fun hc => ?_, fun hc => ?_⟩
    · have q1 := of_decide_eq_true hc
      rw [if_pos q1] at hSt
      refine cv_seq_k fun K hK => ?_
      refine cv_region_then rfl ?_
      simp -implicitDefEqProofs (disch := first | omega | decide) only [seval, -Int.reducePow, -Nat.reducePow, cC, pv, binv, sArWr1, undef, g2]
      refine hK _ _ ?_
      clear hK K
      refine cv_ret ⟨_, (by simp -implicitDefEqProofs (disch := first | omega | decide) only [seval, -Int.reducePow, -Nat.reducePow, cC, pv, binv, sArWr1, undef, g2]; rfl), fun w hw => ?_⟩
      have hS9 : stF bs e k (n : Int) v 9 = bs := by unfold stF; rw [if_neg (by decide)]
      rw [hSt, hS9]
      first | exact ⟨(), rfl, hw.tail⟩ | exact ⟨(), rfl, trivial, hw.tail⟩
    have q1 := of_decide_eq_false hc
    rw [if_neg q1] at hSt
    have hStF : stF bs e k (n : Int) v 0 = splice bs p (leB v n) := by unfold stF; rw [if_pos rfl, hp]; simp
    refine cv_skip ?_
    try simp only [blockQ, thenQ]
    refine hK _ _ ?_
    clear hK K
    refine cv_seq_k fun K hK => ?_
    refine cv_seq_k fun K hK => ?_
    refine cv_region_then rfl ?_
    simp -implicitDefEqProofs (disch := first | omega | decide) only [seval, -Int.reducePow, -Nat.reducePow, cC, pv, binv, sArWr1, undef, g2]
    refine hK _ _ ?_
    clear hK K
    refine cv_gen fun G3 hG => ?_
    have g3_4 := congrFun hG 4
    have g3_11 := congrFun hG 11
    have g3_35 := congrFun hG 35
    have g3_36 := congrFun hG 36
    clear hG
    try simp -implicitDefEqProofs (disch := first | omega | decide) only [seval, -Int.reducePow, -Nat.reducePow, cC, pv, binv, sArWr1, undef, g2] at g3_4 g3_11 g3_35 g3_36
    have g3 := And.intro g3_4 (And.intro g3_11 (And.intro g3_35 g3_36))
    refine cv_block ?_
    refine cv_loop (fun F' L' => ∃ (i : Nat), F' 4 = G3 4 ∧ F' 11 = G3 11 ∧ F' 35 = G3 35 ∧ F' 36 = .int .i64 (i : Int) ∧ L' = [eBox b6 e, .blk bR 64 [.pointer (some ⟨al.bA, 0, none⟩), .slice (some ⟨bB, 0, none⟩) N N], .blk bB 5 (byt (splice bs p ((leB v n).take i))), .blk al.bA 99 [.slice al.FA al.fn al.fc, .map (some al.bm)], mpR al.bm al.tk, .row (.slice al.FA al.fn al.fc) 28 2 al.fn (exCells al.fr)] ∧ i ≤ n) (fun F' L' => 20 - (intOf (F' 36)).toNat) ?_ ?_
    · refine ⟨0, ?_⟩
      simp -implicitDefEqProofs (disch := first | omega | decide) only [seval, -Int.reducePow, -Nat.reducePow, cC, pv, binv, sArWr1, undef, List.take_zero, splice_nil, g3]
      omega
    intro G4 L' hI
    obtain ⟨i, q4, q11, q35, q36, rfl, hi⟩ := hI
    have g4_4 := q4.trans g3_4
    have g4_11 := q11.trans g3_11
    have g4_35 := q35.trans g3_35
    have g4_36 := q36
    clear q4 q11 q35 q36
    have g4 := And.intro g4_4 (And.intro g4_11 (And.intro g4_35 g4_36))
    refine cv_apart fun hap => ?_
    simp only [factL_nil, factL_blk, factL_row, neR_nil, neR_blk, neR_row, neB_nil, neB_blk, neB_row, and_true, true_and, List.not_mem_nil, or_false, sArWr1, undef] at hap
    obtain hap2 := hap
    refine cv_seq_k fun K hK => ?_
    refine cv_region_then rfl ?_
    simp -implicitDefEqProofs (disch := first | omega | decide) only [seval, -Int.reducePow, -Nat.reducePow, cC, pv, binv, sArWr1, undef, g3, g4]
    refine hK _ _ ?_
    clear hK K
    refine cv_seq_k fun K hK => ?_
    refine cv_cond ?_
    simp -implicitDefEqProofs (disch := first | omega | decide) only [seval, -Int.reducePow, -Nat.reducePow, cC, pv, binv, sArWr1, undef, g3, g4]
    refine ⟨fun hc => ?_, fun hc => ?_⟩
    · refine cv_skip ?_
      try simp only [blockQ, thenQ]
      have hit : i < n := by have := of_decide_eq_true ‹decide ((i : Int) < (n : Int)) = true›; omega
      have hgi := leB_get (v := v) hit
      have hst2 := splice_step (bs := bs) (p := p) (by omega) hgi
      have hsl : (splice bs p ((leB v n).take i)).length = bs.length := splice_len (by rw [List.length_take]; omega)
      have hpu := byt_put2 (bs := splice bs p ((leB v n).take i)) (j := p + i) (c := v / 256 ^ i % 256) (by omega)
      have hpu1 := byt_put (bs := splice bs p ((leB v n).take i)) (j := p + i) (c := v / 256 ^ i % 256) (by omega)
      rw [hst2] at hpu hpu1
      have o6 : ((8 : Int) * (i : Int)).toNat = 8 * i := by omega
      have o7 := shr_byte v i
      refine hK _ _ ?_
      clear hK K
      refine cv_seq_k fun K hK => ?_
      refine cv_block ?_
      refine cv_seq_k fun K hK => ?_
      refine cv_region_then rfl ?_
      simp -implicitDefEqProofs (disch := first | omega | decide) only [seval, -Int.reducePow, -Nat.reducePow, cC, pv, binv, sArWr1, undef, g3, g4]
      refine hK _ _ ?_
      clear hK K
      refine cv_region_q rfl ?_
      simp -implicitDefEqProofs (disch := first | omega | decide) only [seval, -Int.reducePow, -Nat.reducePow, cC, pv, binv, sArWr1, undef, bits64, o6, o7, g3, g4]
      refine ⟨by rw [byt_len]; omega, ?_⟩
      first | rw [hpu] | rw [hpu1]
      refine hK _ _ ?_
      clear hK K
      refine cv_region_then rfl ?_
      simp -implicitDefEqProofs (disch := first | omega | decide) only [seval, -Int.reducePow, -Nat.reducePow, cC, pv, binv, sArWr1, undef, wrap_in, g3, g4]
      refine ⟨⟨i + 1, ?_⟩, ?_⟩
      · simp -implicitDefEqProofs (disch := first | omega | decide) only [seval, -Int.reducePow, -Nat.reducePow, cC, pv, binv, sArWr1, undef, Int.natCast_add, g3, g4]
        omega
      · simp only [intOf]; omega
    refine cv_exit ?_
    simp only [blockQ, thenQ, if_true, ite_true]
    clear hK K
    refine hK _ _ ?_
    clear hK K
    have hit : ¬ i < n := by have := of_decide_eq_false ‹decide ((i : Int) < (n : Int)) = false›; omega
    refine cv_seq_k fun K hK => ?_
    refine cv_region_then rfl ?_
    simp -implicitDefEqProofs (disch := first | omega | decide) only [seval, -Int.reducePow, -Nat.reducePow, cC, pv, binv, sArWr1, undef, g3, g4]
    refine hK _ _ ?_
    clear hK K
    refine cv_ret ⟨_, (by simp -implicitDefEqProofs (disch := first | omega | decide) only [seval, -Int.reducePow, -Nat.reducePow, cC, pv, binv, sArWr1, undef, g3, g4]; rfl), fun w hw => ?_⟩
    rw [hSt, hStF, List.take_of_length_le (by omega)] at *
    first | exact ⟨(), rfl, hw.tail⟩ | exact ⟨(), rfl, trivial, hw.tail⟩
  · rw [if_neg hz] at hSt
    have hfv : fV ⟨al, bR, bB, N, bs⟩ e k wd F = .slice none 0 0 := by unfold fV; rw [if_neg hz]
    have hz' : decide (F = 0) = false := decide_eq_false hz
    have hStF : stF bs e k wd v F = bs := by unfold stF; rw [if_neg hz]
    refine cv_seq_k fun K hK => ?_
    refine cv_seq_k fun K hK => ?_
    refine cv_region_then rfl ?_
    simp -implicitDefEqProofs (disch := first | omega | decide) only [seval, -Int.reducePow, -Nat.reducePow, cC, pv, binv, sArWr1, undef, hfv, hz']
    refine hK _ _ ?_
    clear hK K
    refine cv_cond ?_
    simp -implicitDefEqProofs (disch := first | omega | decide) only [seval, -Int.reducePow, -Nat.reducePow, cC, pv, binv, sArWr1, undef]
    refine cv_seq_k fun K hK => ?_
    refine cv_region_then rfl ?_
    simp -implicitDefEqProofs (disch := first | omega | decide) only [seval, -Int.reducePow, -Nat.reducePow, cC, pv, binv, sArWr1, undef]
    refine hK _ _ ?_
    clear hK K
    refine cv_ret ⟨_, (by simp -implicitDefEqProofs (disch := first | omega | decide) only [seval, -Int.reducePow, -Nat.reducePow, cC, pv, binv, sArWr1, undef]; rfl), fun w hw => ?_⟩
    rw [hSt, hStF]
    first | exact ⟨(), rfl, hw.tail⟩ | exact ⟨(), rfl, trivial, hw.tail⟩
theorem Sl.keepM {M : List Nat} {W w : World} {L : List Res} {size n c : Nat} {A : Option Addr} {xs : List Value} (h : Sl W W.heap.size size A n c xs) (hA : ∀ a, A = some a → a.block ∉ M) (hw : St M W L w) : Sl w w.heap.size size A n c xs :=
  ⟨h.len, h.cap, h.max, fun hn => by
    obtain ⟨b, off, e, hb, hc⟩ := h.cells hn
    exact ⟨b, off, e, Nat.lt_of_lt_of_le hb hw.pres.size, fun i v hv => (World.cell?_of_block (a := ⟨b, off + i, none⟩) (hw.pres.block b hb (hA _ e))).trans (hc i v hv)⟩⟩
theorem xv_copy0 {P : Program} {M : List Nat} {W : World} {L : List Res} {F : Fr} {d : Option Nat} {dT sT e ty : TypeId} {pos : String} {af : Array Edge} {gd : Option (Nat × Bool)} {x y : Operand} {K : Bool → Value → List Res → Prop} {bytes n c m c' : Nat} {D A : Option Addr}
    (ht : tap P dT = some (e, 1, bytes)) (hx : ev F x = .slice D n c) (hy : ev F y = .slice A m c') (h0 : m = 0 ∨ n = 0) (hK : K true (.int .i64 0) L) :
    XV P M W ⟨d, .call { callee := .builtin .copy, args := #[x, y], argTypes := #[dT, sT] }, ty, pos, af, gd⟩ F L K := by
  intro w hw
  obtain ⟨hut, i, z, hi, hz, hsz, hby, hzs, hsz0⟩ := tap_run ht
  have hr := run_copy_none (P := P) w dT sT ty e D A n c m c' hut (by rw [hi]; simp [hsz]) (by rcases h0 with h | h <;> subst h <;> simp [Nat.min_def])
  refine ⟨_, _, w, ?_, hw, hK⟩
  simp only [execOp, resolve, Sem.run_bind, Sem.run_pure, Result.andThen_ok, invoke, builtin, List.map_toArray, List.map_cons, List.map_nil, hx, hy, hr]
  rfl
def wrErr (us : List Ext) (e : Ext) (k n : Int) : Int := if e ∈ us then (if 0 ≤ k ∧ n ≤ e.len ∧ k ≤ e.len - n then 0 else 7) else 6
def wrF (bs : List Nat) (e : Ext) (k : Int) (l : List Nat) (f : Int) : List Nat := if f = 0 then splice bs (e.off + k).toNat l else bs
set_option maxHeartbeats 2000000 in
theorem arWrite_any (x : ArR) (us : List Ext) (e : Ext) (k : Int) (A : Option Addr) (m d : Nat) (l : List Nat) (W : World) (hst : St (feet (arL x)) W (arL x) W) (hI : Ex.Inv (x.N : Int) us x.al.fr x.al.tk) (hl : us.length ≤ 90) (hbs : x.bs.length = x.N)
    (hS : Sl W W.heap.size 1 A m d (byt l)) (hA : 0 < m → ∀ a, A = some a → a.block ∉ feet (arL x)) :
    Calls Try.prog 15 #[.pointer (some ⟨x.bR, 0, none⟩), exV e, .int .i64 k, .slice A m d] W
    fun en w' => ∃ _ : Unit, en = .returned (.int .i64 (wrErr us e k m)) ∧ True ∧ St (feet (arL x)) W (arL { x with bs := wrF x.bs e k l (wrErr us e k m) }) w' := by
  have hfl := hI.frLen
  have hN1 := hI.N1
  have hlm := byt_row hS.len
  have hmx := hS.cap
  have hmx2 := hS.max
  obtain ⟨M, hM⟩ : ∃ M, feet (arL x) = M := ⟨_, rfl⟩
  rw [hM] at hst hA ⊢
  clear hM
  obtain ⟨F, hF⟩ : ∃ F, wrErr us e k m = F := ⟨_, rfl⟩
  have hF2 := hF
  unfold wrErr at hF2
  have hnat := fun h => hI.nat (e := e) h
  obtain ⟨al, bR, bB, N, bs⟩ := x
  dsimp only at hfl hI hbs hN1 hnat
  dsimp only
  have hno : ¬ F = 0 → wrF bs e k l F = bs := fun h => by unfold wrF; rw [if_neg h]
  unfold arL alL at hst
  dsimp only at hst
  by_cases he : e ∈ us
  · rw [if_pos he] at hF2
    obtain ⟨o, q, rfl, hl0, hoN⟩ := hnat he
    dsimp only at hF2
    refine calls_cv (M := M) (n := 31) [.tmp 8] rfl Try.func15 rfl rfl (Nat.le_of_ble_eq_true rfl)  hst ?_
    refine cv_seq_k fun K hK => ?_
    refine cv_region_then rfl ?_
    simp -implicitDefEqProofs (disch := first | omega | decide) only [seval, -Int.reducePow, -Nat.reducePow, cC, pv, binv, sArWr1, undef]
    intro b5 hb5 hf5
    refine hK _ _ ?_
    clear hK K
    refine cv_seq_k fun K hK => ?_
    refine cv_region_then rfl ?_
    simp -implicitDefEqProofs (disch := first | omega | decide) only [seval, -Int.reducePow, -Nat.reducePow, cC, pv, binv, sArWr1, undef]
    refine callV_ret (fun w hw => arSlice_yes ⟨al, bR, bB, N, bs⟩ us w o q (ArW.of hw 1 2 3 4 5 rfl rfl rfl rfl rfl (by dsimp only; omega) hbs (by dsimp only; omega)) hI he hl0 hoN) ?_
    try simp -implicitDefEqProofs (disch := first | omega | decide) only [seval, -Int.reducePow, -Nat.reducePow, cC, pv, binv, sArWr1, undef]
    refine hK _ _ ?_
    clear hK K
    refine cv_seq_k fun K hK => ?_
    refine cv_seq_k fun K hK => ?_
    refine cv_region_then rfl ?_
    simp -implicitDefEqProofs (disch := first | omega | decide) only [seval, -Int.reducePow, -Nat.reducePow, cC, pv, binv, sArWr1, undef]
    refine hK _ _ ?_
    clear hK K
    refine cv_cond ?_
    simp -implicitDefEqProofs (disch := first | omega | decide) only [seval, -Int.reducePow, -Nat.reducePow, cC, pv, binv, sArWr1, undef]
    refine cv_skip ?_
    try simp only [blockQ, thenQ]
    refine hK _ _ ?_
    clear hK K
    refine cv_seq_k fun K hK => ?_
    refine cv_seq_k fun K hK => ?_
    refine cv_region_then rfl ?_
    simp -implicitDefEqProofs (disch := first | omega | decide) only [seval, -Int.reducePow, -Nat.reducePow, cC, pv, binv, sArWr1, undef]
    refine callV_ret (fun w hw => within_any (some ⟨bB, o, none⟩) q (N - o) k (m : Int) w (by omega) (by omega)) ?_
    try simp -implicitDefEqProofs (disch := first | omega | decide) only [seval, -Int.reducePow, -Nat.reducePow, cC, pv, binv, sArWr1, undef]
    refine hK _ _ ?_
    clear hK K
    refine cv_cond ?_
    simp -implicitDefEqProofs (disch := first | omega | decide) only [seval, -Int.reducePow, -Nat.reducePow, cC, pv, binv, sArWr1, undef]
    refine ⟨fun hc => ?_, fun hc => ?_⟩
    · have q2 := nd_true hc
      rw [if_neg q2] at hF2
      refine cv_seq_k fun K hK => ?_
      refine cv_region_then rfl ?_
      simp -implicitDefEqProofs (disch := first | omega | decide) only [seval, -Int.reducePow, -Nat.reducePow, cC, pv, binv, sArWr1, undef]
      refine hK _ _ ?_
      clear hK K
      refine cv_ret ⟨_, (by simp -implicitDefEqProofs (disch := first | omega | decide) only [seval, -Int.reducePow, -Nat.reducePow, cC, pv, binv, sArWr1, undef]; rfl), fun w hw => ?_⟩
      rw [hF, hno (by omega), ← hF2]
      first | exact ⟨(), rfl, hw.tail⟩ | exact ⟨(), rfl, trivial, hw.tail⟩
    have q2 := Decidable.not_not.1 (nd_false hc)
    rw [if_pos q2] at hF2
    obtain ⟨k, rfl⟩ : ∃ k' : Nat, k = (k' : Int) := ⟨k.toNat, by omega⟩
    have hwr : wrF bs ⟨(o : Int), (q : Int)⟩ (k : Int) l F = splice bs (o + k) l := by unfold wrF; rw [if_pos hF2.symm, show ((⟨(o : Int), (q : Int)⟩ : Ext).off + (k : Int)).toNat = o + k by dsimp only; omega]
    refine cv_skip ?_
    try simp only [blockQ, thenQ]
    refine hK _ _ ?_
    clear hK K
    by_cases hm0 : m = 0
    · obtain rfl : l = [] := List.eq_nil_of_length_eq_zero (by omega)
      refine cv_seq_k fun K hK => ?_
      refine cv_region_then rfl ?_
      simp -implicitDefEqProofs (disch := first | omega | decide) only [seval, -Int.reducePow, -Nat.reducePow, cC, pv, binv, sArWr1, undef]
      refine xv_copy0 tap36 rfl rfl (.inl hm0) ?_
      simp -implicitDefEqProofs (disch := first | omega | decide) only [seval, -Int.reducePow, -Nat.reducePow, cC, pv, binv, sArWr1, undef]
      refine hK _ _ ?_
      clear hK K
      refine cv_seq_k fun K hK => ?_
      refine cv_region_then rfl ?_
      simp -implicitDefEqProofs (disch := first | omega | decide) only [seval, -Int.reducePow, -Nat.reducePow, cC, pv, binv, sArWr1, undef]
      refine hK _ _ ?_
      clear hK K
      refine cv_ret ⟨_, (by simp -implicitDefEqProofs (disch := first | omega | decide) only [seval, -Int.reducePow, -Nat.reducePow, cC, pv, binv, sArWr1, undef]; rfl), fun w hw => ?_⟩
      rw [hF, hwr, splice_nil, ← hF2]
      first | exact ⟨(), rfl, hw.tail⟩ | exact ⟨(), rfl, trivial, hw.tail⟩
    · obtain ⟨a, rfl⟩ : ∃ a, A = some a := by
        obtain ⟨b, off, rfl, -⟩ := hS.cells (by omega)
        exact ⟨_, rfl⟩
      have hsb : sbase (N - o) k 1 (some ⟨bB, o, none⟩) = some ⟨bB, o + k, none⟩ := by rw [sbase_some (by omega), Addr.add_lit]; simp
      have hsp := byt_splice bs (o + k) l
      refine cv_seq_k fun K hK => ?_
      refine cv_region_then rfl ?_
      simp -implicitDefEqProofs (disch := first | omega | decide) only [seval, -Int.reducePow, -Nat.reducePow, cC, pv, binv, sArWr1, undef, hsb]
      refine xv_copy 2 (T := 5) (news := byt l) tap36 rfl rfl rfl (by rw [byt_len, hlm]; exact (Nat.min_eq_left (by omega)).symm) (fun w hw j v hj => by
        obtain ⟨b, off, e, hb, hc⟩ := (hS.keepM (hA (by omega)) hw).cells (by omega)
        cases e
        rw [Addr.add_lit]
        exact hc j v hj) (by rw [byt_len, byt_len]; omega) (ones_byt _) ?_
      simp -implicitDefEqProofs (disch := first | omega | decide) only [seval, -Int.reducePow, -Nat.reducePow, cC, pv, binv, sArWr1, undef, byt_len, hsp]
      refine hK _ _ ?_
      clear hK K
      refine cv_seq_k fun K hK => ?_
      refine cv_region_then rfl ?_
      simp -implicitDefEqProofs (disch := first | omega | decide) only [seval, -Int.reducePow, -Nat.reducePow, cC, pv, binv, sArWr1, undef]
      refine hK _ _ ?_
      clear hK K
      refine cv_ret ⟨_, (by simp -implicitDefEqProofs (disch := first | omega | decide) only [seval, -Int.reducePow, -Nat.reducePow, cC, pv, binv, sArWr1, undef]; rfl), fun w hw => ?_⟩
      rw [hF, hwr, ← hF2]
      first | exact ⟨(), rfl, hw.tail⟩ | exact ⟨(), rfl, trivial, hw.tail⟩
  · rw [if_neg he] at hF2
    refine calls_cv (M := M) (n := 31) [.tmp 8] rfl Try.func15 rfl rfl (Nat.le_of_ble_eq_true rfl)  hst ?_
    refine cv_seq_k fun K hK => ?_
    refine cv_region_then rfl ?_
    simp -implicitDefEqProofs (disch := first | omega | decide) only [seval, -Int.reducePow, -Nat.reducePow, cC, pv, binv, sArWr1, undef]
    intro b5 hb5 hf5
    refine hK _ _ ?_
    clear hK K
    refine cv_seq_k fun K hK => ?_
    refine cv_region_then rfl ?_
    simp -implicitDefEqProofs (disch := first | omega | decide) only [seval, -Int.reducePow, -Nat.reducePow, cC, pv, binv, sArWr1, undef]
    refine callV_ret (fun w hw => arSlice_no ⟨al, bR, bB, N, bs⟩ us w e (ArW.of hw 1 2 3 4 5 rfl rfl rfl rfl rfl (by dsimp only; omega) hbs (by dsimp only; omega)) hI he) ?_
    try simp -implicitDefEqProofs (disch := first | omega | decide) only [seval, -Int.reducePow, -Nat.reducePow, cC, pv, binv, sArWr1, undef]
    refine hK _ _ ?_
    clear hK K
    refine cv_seq_k fun K hK => ?_
    refine cv_seq_k fun K hK => ?_
    refine cv_region_then rfl ?_
    simp -implicitDefEqProofs (disch := first | omega | decide) only [seval, -Int.reducePow, -Nat.reducePow, cC, pv, binv, sArWr1, undef]
    refine hK _ _ ?_
    clear hK K
    refine cv_cond ?_
    simp -implicitDefEqProofs (disch := first | omega | decide) only [seval, -Int.reducePow, -Nat.reducePow, cC, pv, binv, sArWr1, undef]
    refine cv_seq_k fun K hK => ?_
    refine cv_region_then rfl ?_
    simp -implicitDefEqProofs (disch := first | omega | decide) only [seval, -Int.reducePow, -Nat.reducePow, cC, pv, binv, sArWr1, undef]
    refine hK _ _ ?_
    clear hK K
    refine cv_ret ⟨_, (by simp -implicitDefEqProofs (disch := first | omega | decide) only [seval, -Int.reducePow, -Nat.reducePow, cC, pv, binv, sArWr1, undef]; rfl), fun w hw => ?_⟩
    rw [hF, hno (by omega), ← hF2]
    first | exact ⟨(), rfl, hw.tail⟩ | exact ⟨(), rfl, trivial, hw.tail⟩
end Go.Proofs.Ytfaanphjaghbpaa
/- The arena's Copy. -/
namespace Go.Proofs.Ytfaanphjaghbpaa
open Go.RowKit Go.Shelf
set_option linter.unusedVariables false
set_option linter.unusedSimpArgs false
set_option maxRecDepth 100000
def cpErr (us : List Ext) (e : Ext) (k : Int) (s : Ext) (j n : Int) : Int :=
  if e ∈ us ∧ s ∈ us then (if n < 0 then 1 else if (0 ≤ k ∧ n ≤ e.len ∧ k ≤ e.len - n) ∧ (0 ≤ j ∧ n ≤ s.len ∧ j ≤ s.len - n) then 0 else 7) else 6
def cpF (bs : List Nat) (e : Ext) (k : Int) (s : Ext) (j n f : Int) : List Nat := if f = 0 then splice bs (e.off + k).toNat (winF bs s j n) else bs
set_option maxRecDepth 100000 in
theorem sArCopy1 : type_of% (And.intro (And.intro (And.intro @eBox.eq_1 @exV.eq_1) (And.intro @alL.eq_1 @arL.eq_1)) (And.intro (And.intro @Nat.mul_one @wrap_in) (And.intro @cMp @cM))) := (And.intro (And.intro (And.intro @eBox.eq_1 @exV.eq_1) (And.intro @alL.eq_1 @arL.eq_1)) (And.intro (And.intro @Nat.mul_one @wrap_in) (And.intro @cMp @cM)))
set_option maxHeartbeats 4000000 in
theorem arCopy_any (x : ArR) (us : List Ext) (e : Ext) (k : Int) (s : Ext) (j n : Int) (W : World) (hst : St (feet (arL x)) W (arL x) W) (hI : Ex.Inv (x.N : Int) us x.al.fr x.al.tk) (hl : us.length ≤ 90) (hbs : x.bs.length = x.N) :
    Calls Try.prog 17 #[.pointer (some ⟨x.bR, 0, none⟩), exV e, .int .i64 k, exV s, .int .i64 j, .int .i64 n] W
    fun en w' => ∃ _ : Unit, en = .returned (.int .i64 (cpErr us e k s j n)) ∧ True ∧ St (feet (arL x)) W (arL { x with bs := cpF x.bs e k s j n (cpErr us e k s j n) }) w' := by
  have hfl := hI.frLen
  have hN1 := hI.N1
  obtain ⟨M, hM⟩ : ∃ M, feet (arL x) = M := ⟨_, rfl⟩
  rw [hM] at hst ⊢
  clear hM
  obtain ⟨F, hF⟩ : ∃ F, cpErr us e k s j n = F := ⟨_, rfl⟩
  have hF2 := hF
  unfold cpErr at hF2
  have hnat := fun e h => hI.nat (e := e) h
  obtain ⟨al, bR, bB, N, bs⟩ := x
  dsimp only at hfl hI hbs hN1 hnat
  dsimp only
  have hno : ¬ F = 0 → cpF bs e k s j n F = bs := fun h => by unfold cpF; rw [if_neg h]
  unfold arL alL at hst
  dsimp only at hst
  have hW := fun {w : World} (hw : St M W ([.blk bR 64 [.pointer (some ⟨al.bA, 0, none⟩), .slice (some ⟨bB, 0, none⟩) N N], .blk bB 5 (byt bs), .blk al.bA 99 [.slice al.FA al.fn al.fc, .map (some al.bm)], mpR al.bm al.tk, .row (.slice al.FA al.fn al.fc) 28 2 al.fn (exCells al.fr)]) w) => ArW.of (x := ⟨al, bR, bB, N, bs⟩) hw 0 1 2 3 4 rfl rfl rfl rfl rfl (by dsimp only; omega) hbs (by dsimp only; omega)
  by_cases he : e ∈ us
  · by_cases hs : s ∈ us
    · rw [if_pos ⟨he, hs⟩] at hF2
      obtain ⟨o, q, rfl, hl0, hoN⟩ := hnat e he
      obtain ⟨o2, q2, rfl, hl2, hoN2⟩ := hnat s hs
      dsimp only at hF2
      refine calls_cv (M := M) (n := 65) [.tmp 12] rfl Try.func17 rfl rfl (Nat.le_of_ble_eq_true rfl)  hst ?_
      refine cv_seq_k fun K hK => ?_
      refine cv_region_then rfl ?_
      simp -implicitDefEqProofs (disch := first | omega | decide) only [seval, -Int.reducePow, -Nat.reducePow, cC, pv, binv, sArCopy1, undef]
      intro b7 hb7 hf7 b9 hb9 hf9
      refine hK _ _ ?_
      clear hK K
      refine cv_seq_k fun K hK => ?_
      refine cv_region_then rfl ?_
      simp -implicitDefEqProofs (disch := first | omega | decide) only [seval, -Int.reducePow, -Nat.reducePow, cC, pv, binv, sArCopy1, undef]
      refine callV_ret (fun w hw => arSlice_yes ⟨al, bR, bB, N, bs⟩ us w o q (hW hw.tail.tail) hI he hl0 hoN) ?_
      try simp -implicitDefEqProofs (disch := first | omega | decide) only [seval, -Int.reducePow, -Nat.reducePow, cC, pv, binv, sArCopy1, undef]
      refine hK _ _ ?_
      clear hK K
      refine cv_seq_k fun K hK => ?_
      refine cv_region_then rfl ?_
      simp -implicitDefEqProofs (disch := first | omega | decide) only [seval, -Int.reducePow, -Nat.reducePow, cC, pv, binv, sArCopy1, undef]
      refine callV_ret (fun w hw => arSlice_yes ⟨al, bR, bB, N, bs⟩ us w o2 q2 (hW hw.tail.tail) hI hs hl2 hoN2) ?_
      try simp -implicitDefEqProofs (disch := first | omega | decide) only [seval, -Int.reducePow, -Nat.reducePow, cC, pv, binv, sArCopy1, undef]
      refine hK _ _ ?_
      clear hK K
      refine cv_seq_k fun K hK => ?_
      refine cv_block ?_
      refine cv_seq_k fun K hK => ?_
      refine cv_region_then rfl ?_
      simp -implicitDefEqProofs (disch := first | omega | decide) only [seval, -Int.reducePow, -Nat.reducePow, cC, pv, binv, sArCopy1, undef]
      refine hK _ _ ?_
      clear hK K
      refine cv_cond ?_
      simp -implicitDefEqProofs (disch := first | omega | decide) only [seval, -Int.reducePow, -Nat.reducePow, cC, pv, binv, sArCopy1, undef]
      refine cv_seq_k fun K hK => ?_
      refine cv_region_then rfl ?_
      simp -implicitDefEqProofs (disch := first | omega | decide) only [seval, -Int.reducePow, -Nat.reducePow, cC, pv, binv, sArCopy1, undef]
      refine hK _ _ ?_
      clear hK K
      refine cv_cond ?_
      simp -implicitDefEqProofs (disch := first | omega | decide) only [seval, -Int.reducePow, -Nat.reducePow, cC, pv, binv, sArCopy1, undef]
      refine ⟨fun hc => ?_, fun hc => ?_⟩
      · have q1 := of_decide_eq_true hc
        rw [if_pos q1] at hF2
        refine cv_seq_k fun K hK => ?_
        refine cv_region_then rfl ?_
        simp -implicitDefEqProofs (disch := first | omega | decide) only [seval, -Int.reducePow, -Nat.reducePow, cC, pv, binv, sArCopy1, undef]
        refine hK _ _ ?_
        clear hK K
        refine cv_ret ⟨_, (by simp -implicitDefEqProofs (disch := first | omega | decide) only [seval, -Int.reducePow, -Nat.reducePow, cC, pv, binv, sArCopy1, undef]; rfl), fun w hw => ?_⟩
        rw [hF, hno (by omega), ← hF2]
        first | exact ⟨(), rfl, hw.tail.tail⟩ | exact ⟨(), rfl, trivial, hw.tail.tail⟩
      have q1 := of_decide_eq_false hc
      rw [if_neg q1] at hF2
      by_cases a1 : 0 ≤ k ∧ n ≤ (q : Int) ∧ k ≤ (q : Int) - n
      · have a1' : decide (0 ≤ k ∧ n ≤ (q : Int) ∧ k ≤ (q : Int) - n) = true := decide_eq_true a1
        by_cases a2 : 0 ≤ j ∧ n ≤ (q2 : Int) ∧ j ≤ (q2 : Int) - n
        · have a2' : decide (0 ≤ j ∧ n ≤ (q2 : Int) ∧ j ≤ (q2 : Int) - n) = true := decide_eq_true a2
          rw [if_pos ⟨a1, a2⟩] at hF2
          refine cv_seq_k fun K hK => ?_
          refine cv_region_then rfl ?_
          simp -implicitDefEqProofs (disch := first | omega | decide) only [seval, -Int.reducePow, -Nat.reducePow, cC, pv, binv, sArCopy1, undef]
          refine callV_ret (fun w hw => within_any (some ⟨bB, o, none⟩) q (N - o) k n w (by omega) (by omega)) ?_
          try simp -implicitDefEqProofs (disch := first | omega | decide) only [seval, -Int.reducePow, -Nat.reducePow, cC, pv, binv, sArCopy1, undef, a1']
          refine callV_ret (fun w hw => within_any (some ⟨bB, o2, none⟩) q2 (N - o2) j n w (by omega) (by omega)) ?_
          try simp -implicitDefEqProofs (disch := first | omega | decide) only [seval, -Int.reducePow, -Nat.reducePow, cC, pv, binv, sArCopy1, undef, a2']
          refine hK _ _ ?_
          clear hK K
          refine cv_cond ?_
          simp -implicitDefEqProofs (disch := first | omega | decide) only [seval, -Int.reducePow, -Nat.reducePow, cC, pv, binv, sArCopy1, undef]
          refine cv_skip ?_
          try simp only [blockQ, thenQ]
          refine hK _ _ ?_
          clear hK K
          obtain ⟨k, rfl⟩ : ∃ k' : Nat, k = (k' : Int) := ⟨k.toNat, by omega⟩
          obtain ⟨j, rfl⟩ : ∃ k' : Nat, j = (k' : Int) := ⟨j.toNat, by omega⟩
          obtain ⟨n, rfl⟩ : ∃ k' : Nat, n = (k' : Int) := ⟨n.toNat, by omega⟩
          have t1 : ((k : Int) + (n : Int)).toNat - k = n := by omega
          have t2 : ((j : Int) + (n : Int)).toNat - j = n := by omega
          have hwl : (winF bs ⟨(o2 : Int), (q2 : Int)⟩ (j : Int) (n : Int)).length = n := by
            unfold winF
            rw [show ((⟨(o2 : Int), (q2 : Int)⟩ : Ext).off + (j : Int)).toNat = o2 + j by dsimp only; omega, Int.toNat_natCast, List.length_take, List.length_drop]
            omega
          have hwr : cpF bs ⟨(o : Int), (q : Int)⟩ (k : Int) ⟨(o2 : Int), (q2 : Int)⟩ (j : Int) (n : Int) F = splice bs (o + k) (winF bs ⟨(o2 : Int), (q2 : Int)⟩ (j : Int) (n : Int)) := by unfold cpF; rw [if_pos hF2.symm, show ((⟨(o : Int), (q : Int)⟩ : Ext).off + (k : Int)).toNat = o + k by dsimp only; omega]
          have hsp := byt_splice bs (o + k) (winF bs ⟨(o2 : Int), (q2 : Int)⟩ (j : Int) (n : Int))
          by_cases hn0 : n = 0
          · have hw0 : winF bs ⟨(o2 : Int), (q2 : Int)⟩ (j : Int) (n : Int) = [] := List.eq_nil_of_length_eq_zero (by omega)
            refine cv_seq_k fun K hK => ?_
            refine cv_draw_of (pickL [0] _) (fun w hw => hw.pick (by decide)) (by simp only [pickL, nth, suf_cons, suf_nil, List.mem_cons, true_or, or_true, and_true, eq_self]) [(true, 0), (true, 1), (true, 2), (true, 3), (true, 4), (true, 5), (true, 6), (true, 7), (true, 8), (true, 9), (true, 10), (true, 11), (false, 12)] [12] mixA rfl (by kernel_rfl) (by kernel_rfl) rfl rfl ?_
            simp -implicitDefEqProofs (disch := first | omega | decide) only [seval, -Int.reducePow, -Nat.reducePow, cC, pv, binv, sArCopy1, undef, t1, t2]
            refine xv_copy0 tap36 rfl rfl (.inl hn0) ?_
            simp -implicitDefEqProofs (disch := first | omega | decide) only [seval, -Int.reducePow, -Nat.reducePow, cC, pv, binv, sArCopy1, undef]
            refine hK _ _ ?_
            clear hK K
            refine cv_seq_k fun K hK => ?_
            refine cv_region_then rfl ?_
            simp -implicitDefEqProofs (disch := first | omega | decide) only [seval, -Int.reducePow, -Nat.reducePow, cC, pv, binv, sArCopy1, undef]
            refine hK _ _ ?_
            clear hK K
            refine cv_ret ⟨_, (by simp -implicitDefEqProofs (disch := first | omega | decide) only [seval, -Int.reducePow, -Nat.reducePow, cC, pv, binv, sArCopy1, undef]; rfl), fun w hw => ?_⟩
            rw [hF, hwr, hw0, splice_nil, ← hF2]
            first | exact ⟨(), rfl, hw.tail.tail⟩ | exact ⟨(), rfl, trivial, hw.tail.tail⟩
          · have s1 : sbase (N - o) k 1 (some ⟨bB, o, none⟩) = some ⟨bB, o + k, none⟩ := by rw [sbase_some (by omega), Addr.add_lit]; simp
            have s2 : sbase (N - o2) j 1 (some ⟨bB, o2, none⟩) = some ⟨bB, o2 + j, none⟩ := by rw [sbase_some (by omega), Addr.add_lit]; simp
            refine cv_seq_k fun K hK => ?_
            refine cv_draw_of (pickL [0] _) (fun w hw => hw.pick (by decide)) (by simp only [pickL, nth, suf_cons, suf_nil, List.mem_cons, true_or, or_true, and_true, eq_self]) [(true, 0), (true, 1), (true, 2), (true, 3), (true, 4), (true, 5), (true, 6), (true, 7), (true, 8), (true, 9), (true, 10), (true, 11), (false, 12)] [12] mixA rfl (by kernel_rfl) (by kernel_rfl) rfl rfl ?_
            simp -implicitDefEqProofs (disch := first | omega | decide) only [seval, -Int.reducePow, -Nat.reducePow, cC, pv, binv, sArCopy1, undef, t1, t2, s1, s2]
            refine xv_copy 3 (T := 5) (news := byt (winF bs ⟨(o2 : Int), (q2 : Int)⟩ (j : Int) (n : Int))) tap36 rfl rfl rfl (by rw [byt_len, hwl]; exact (Nat.min_self n).symm) (fun w hw i v hi => by
              rw [Addr.add_lit, hw.blk_cell (t := 5) (cs := byt bs) (.tail _ (.tail _ (.tail _ (.head _))))]
              unfold winF byt at hi
              rw [show ((⟨(o2 : Int), (q2 : Int)⟩ : Ext).off + (j : Int)).toNat = o2 + j by dsimp only; omega, List.getElem?_map, List.getElem?_take] at hi
              split at hi
              · rw [List.getElem?_drop] at hi
                unfold byt
                rw [List.getElem?_map]
                exact hi
              · cases hi) (by rw [byt_len, byt_len]; omega) (ones_byt _) ?_
            simp -implicitDefEqProofs (disch := first | omega | decide) only [seval, -Int.reducePow, -Nat.reducePow, cC, pv, binv, sArCopy1, undef, byt_len, hsp]
            refine hK _ _ ?_
            clear hK K
            refine cv_seq_k fun K hK => ?_
            refine cv_region_then rfl ?_
            simp -implicitDefEqProofs (disch := first | omega | decide) only [seval, -Int.reducePow, -Nat.reducePow, cC, pv, binv, sArCopy1, undef]
            refine hK _ _ ?_
            clear hK K
            refine cv_ret ⟨_, (by simp -implicitDefEqProofs (disch := first | omega | decide) only [seval, -Int.reducePow, -Nat.reducePow, cC, pv, binv, sArCopy1, undef]; rfl), fun w hw => ?_⟩
            rw [hF, hwr, ← hF2]
            first | exact ⟨(), rfl, hw.tail.tail⟩ | exact ⟨(), rfl, trivial, hw.tail.tail⟩
        · have a2' : decide (0 ≤ j ∧ n ≤ (q2 : Int) ∧ j ≤ (q2 : Int) - n) = false := decide_eq_false a2
          rw [if_neg fun h => a2 h.2] at hF2
          refine cv_seq_k fun K hK => ?_
          refine cv_region_then rfl ?_
          simp -implicitDefEqProofs (disch := first | omega | decide) only [seval, -Int.reducePow, -Nat.reducePow, cC, pv, binv, sArCopy1, undef]
          refine callV_ret (fun w hw => within_any (some ⟨bB, o, none⟩) q (N - o) k n w (by omega) (by omega)) ?_
          try simp -implicitDefEqProofs (disch := first | omega | decide) only [seval, -Int.reducePow, -Nat.reducePow, cC, pv, binv, sArCopy1, undef, a1']
          refine callV_ret (fun w hw => within_any (some ⟨bB, o2, none⟩) q2 (N - o2) j n w (by omega) (by omega)) ?_
          try simp -implicitDefEqProofs (disch := first | omega | decide) only [seval, -Int.reducePow, -Nat.reducePow, cC, pv, binv, sArCopy1, undef, a2']
          refine hK _ _ ?_
          clear hK K
          refine cv_cond ?_
          simp -implicitDefEqProofs (disch := first | omega | decide) only [seval, -Int.reducePow, -Nat.reducePow, cC, pv, binv, sArCopy1, undef]
          refine cv_seq_k fun K hK => ?_
          refine cv_region_then rfl ?_
          simp -implicitDefEqProofs (disch := first | omega | decide) only [seval, -Int.reducePow, -Nat.reducePow, cC, pv, binv, sArCopy1, undef]
          refine hK _ _ ?_
          clear hK K
          refine cv_ret ⟨_, (by simp -implicitDefEqProofs (disch := first | omega | decide) only [seval, -Int.reducePow, -Nat.reducePow, cC, pv, binv, sArCopy1, undef]; rfl), fun w hw => ?_⟩
          rw [hF, hno (by omega), ← hF2]
          first | exact ⟨(), rfl, hw.tail.tail⟩ | exact ⟨(), rfl, trivial, hw.tail.tail⟩
      · have a1' : decide (0 ≤ k ∧ n ≤ (q : Int) ∧ k ≤ (q : Int) - n) = false := decide_eq_false a1
        rw [if_neg fun h => a1 h.1] at hF2
        refine cv_seq_k fun K hK => ?_
        refine cv_region_then rfl ?_
        simp -implicitDefEqProofs (disch := first | omega | decide) only [seval, -Int.reducePow, -Nat.reducePow, cC, pv, binv, sArCopy1, undef]
        refine callV_ret (fun w hw => within_any (some ⟨bB, o, none⟩) q (N - o) k n w (by omega) (by omega)) ?_
        try simp -implicitDefEqProofs (disch := first | omega | decide) only [seval, -Int.reducePow, -Nat.reducePow, cC, pv, binv, sArCopy1, undef, a1']
        refine hK _ _ ?_
        clear hK K
        refine cv_cond ?_
        simp -implicitDefEqProofs (disch := first | omega | decide) only [seval, -Int.reducePow, -Nat.reducePow, cC, pv, binv, sArCopy1, undef]
        refine cv_seq_k fun K hK => ?_
        refine cv_region_then rfl ?_
        simp -implicitDefEqProofs (disch := first | omega | decide) only [seval, -Int.reducePow, -Nat.reducePow, cC, pv, binv, sArCopy1, undef]
        refine hK _ _ ?_
        clear hK K
        refine cv_ret ⟨_, (by simp -implicitDefEqProofs (disch := first | omega | decide) only [seval, -Int.reducePow, -Nat.reducePow, cC, pv, binv, sArCopy1, undef]; rfl), fun w hw => ?_⟩
        rw [hF, hno (by omega), ← hF2]
        first | exact ⟨(), rfl, hw.tail.tail⟩ | exact ⟨(), rfl, trivial, hw.tail.tail⟩
    · rw [if_neg fun h => hs h.2] at hF2
      obtain ⟨o, q, rfl, hl0, hoN⟩ := hnat e he
      refine calls_cv (M := M) (n := 65) [.tmp 12] rfl Try.func17 rfl rfl (Nat.le_of_ble_eq_true rfl)  hst ?_
      refine cv_seq_k fun K hK => ?_
      refine cv_region_then rfl ?_
      simp -implicitDefEqProofs (disch := first | omega | decide) only [seval, -Int.reducePow, -Nat.reducePow, cC, pv, binv, sArCopy1, undef]
      intro b7 hb7 hf7 b9 hb9 hf9
      refine hK _ _ ?_
      clear hK K
      refine cv_seq_k fun K hK => ?_
      refine cv_region_then rfl ?_
      simp -implicitDefEqProofs (disch := first | omega | decide) only [seval, -Int.reducePow, -Nat.reducePow, cC, pv, binv, sArCopy1, undef]
      refine callV_ret (fun w hw => arSlice_yes ⟨al, bR, bB, N, bs⟩ us w o q (hW hw.tail.tail) hI he hl0 hoN) ?_
      try simp -implicitDefEqProofs (disch := first | omega | decide) only [seval, -Int.reducePow, -Nat.reducePow, cC, pv, binv, sArCopy1, undef]
      refine hK _ _ ?_
      clear hK K
      refine cv_seq_k fun K hK => ?_
      refine cv_region_then rfl ?_
      simp -implicitDefEqProofs (disch := first | omega | decide) only [seval, -Int.reducePow, -Nat.reducePow, cC, pv, binv, sArCopy1, undef]
      refine callV_ret (fun w hw => arSlice_no ⟨al, bR, bB, N, bs⟩ us w s (hW hw.tail.tail) hI hs) ?_
      try simp -implicitDefEqProofs (disch := first | omega | decide) only [seval, -Int.reducePow, -Nat.reducePow, cC, pv, binv, sArCopy1, undef]
      refine hK _ _ ?_
      clear hK K
      refine cv_seq_k fun K hK => ?_
      refine cv_block ?_
      refine cv_seq_k fun K hK => ?_
      refine cv_region_then rfl ?_
      simp -implicitDefEqProofs (disch := first | omega | decide) only [seval, -Int.reducePow, -Nat.reducePow, cC, pv, binv, sArCopy1, undef]
      refine hK _ _ ?_
      clear hK K
      refine cv_cond ?_
      simp -implicitDefEqProofs (disch := first | omega | decide) only [seval, -Int.reducePow, -Nat.reducePow, cC, pv, binv, sArCopy1, undef]
      refine cv_seq_k fun K hK => ?_
      refine cv_region_then rfl ?_
      simp -implicitDefEqProofs (disch := first | omega | decide) only [seval, -Int.reducePow, -Nat.reducePow, cC, pv, binv, sArCopy1, undef]
      refine hK _ _ ?_
      clear hK K
      refine cv_ret ⟨_, (by simp -implicitDefEqProofs (disch := first | omega | decide) only [seval, -Int.reducePow, -Nat.reducePow, cC, pv, binv, sArCopy1, undef]; rfl), fun w hw => ?_⟩
      rw [hF, hno (by omega), ← hF2]
      first | exact ⟨(), rfl, hw.tail.tail⟩ | exact ⟨(), rfl, trivial, hw.tail.tail⟩
  · rw [if_neg fun h => he h.1] at hF2
    refine calls_cv (M := M) (n := 65) [.tmp 12] rfl Try.func17 rfl rfl (Nat.le_of_ble_eq_true rfl)  hst ?_
    refine cv_seq_k fun K hK => ?_
    refine cv_region_then rfl ?_
    simp -implicitDefEqProofs (disch := first | omega | decide) only [seval, -Int.reducePow, -Nat.reducePow, cC, pv, binv, sArCopy1, undef]
    intro b7 hb7 hf7 b9 hb9 hf9
    refine hK _ _ ?_
    clear hK K
    refine cv_seq_k fun K hK => ?_
    refine cv_region_then rfl ?_
    simp -implicitDefEqProofs (disch := first | omega | decide) only [seval, -Int.reducePow, -Nat.reducePow, cC, pv, binv, sArCopy1, undef]
    refine callV_ret (fun w hw => arSlice_no ⟨al, bR, bB, N, bs⟩ us w e (hW hw.tail.tail) hI he) ?_
    try simp -implicitDefEqProofs (disch := first | omega | decide) only [seval, -Int.reducePow, -Nat.reducePow, cC, pv, binv, sArCopy1, undef]
    refine hK _ _ ?_
    clear hK K
    by_cases hs : s ∈ us
    · obtain ⟨o2, q2, rfl, hl2, hoN2⟩ := hnat s hs
      refine cv_seq_k fun K hK => ?_
      refine cv_region_then rfl ?_
      simp -implicitDefEqProofs (disch := first | omega | decide) only [seval, -Int.reducePow, -Nat.reducePow, cC, pv, binv, sArCopy1, undef]
      refine callV_ret (fun w hw => arSlice_yes ⟨al, bR, bB, N, bs⟩ us w o2 q2 (hW hw.tail.tail) hI hs hl2 hoN2) ?_
      try simp -implicitDefEqProofs (disch := first | omega | decide) only [seval, -Int.reducePow, -Nat.reducePow, cC, pv, binv, sArCopy1, undef]
      refine hK _ _ ?_
      clear hK K
      refine cv_seq_k fun K hK => ?_
      refine cv_block ?_
      refine cv_seq_k fun K hK => ?_
      refine cv_region_then rfl ?_
      simp -implicitDefEqProofs (disch := first | omega | decide) only [seval, -Int.reducePow, -Nat.reducePow, cC, pv, binv, sArCopy1, undef]
      refine hK _ _ ?_
      clear hK K
      refine cv_cond ?_
      simp -implicitDefEqProofs (disch := first | omega | decide) only [seval, -Int.reducePow, -Nat.reducePow, cC, pv, binv, sArCopy1, undef]
      refine cv_seq_k fun K hK => ?_
      refine cv_region_then rfl ?_
      simp -implicitDefEqProofs (disch := first | omega | decide) only [seval, -Int.reducePow, -Nat.reducePow, cC, pv, binv, sArCopy1, undef]
      refine hK _ _ ?_
      clear hK K
      refine cv_ret ⟨_, (by simp -implicitDefEqProofs (disch := first | omega | decide) only [seval, -Int.reducePow, -Nat.reducePow, cC, pv, binv, sArCopy1, undef]; rfl), fun w hw => ?_⟩
      rw [hF, hno (by omega), ← hF2]
      first | exact ⟨(), rfl, hw.tail.tail⟩ | exact ⟨(), rfl, trivial, hw.tail.tail⟩
    · refine cv_seq_k fun K hK => ?_
      refine cv_region_then rfl ?_
      simp -implicitDefEqProofs (disch := first | omega | decide) only [seval, -Int.reducePow, -Nat.reducePow, cC, pv, binv, sArCopy1, undef]
      refine callV_ret (fun w hw => arSlice_no ⟨al, bR, bB, N, bs⟩ us w s (hW hw.tail.tail) hI hs) ?_
      try simp -implicitDefEqProofs (disch := first | omega | decide) only [seval, -Int.reducePow, -Nat.reducePow, cC, pv, binv, sArCopy1, undef]
      refine hK _ _ ?_
      clear hK K
      refine cv_seq_k fun K hK => ?_
      refine cv_block ?_
      refine cv_seq_k fun K hK => ?_
      refine cv_region_then rfl ?_
      simp -implicitDefEqProofs (disch := first | omega | decide) only [seval, -Int.reducePow, -Nat.reducePow, cC, pv, binv, sArCopy1, undef]
      refine hK _ _ ?_
      clear hK K
      refine cv_cond ?_
      simp -implicitDefEqProofs (disch := first | omega | decide) only [seval, -Int.reducePow, -Nat.reducePow, cC, pv, binv, sArCopy1, undef]
      refine cv_seq_k fun K hK => ?_
      refine cv_region_then rfl ?_
      simp -implicitDefEqProofs (disch := first | omega | decide) only [seval, -Int.reducePow, -Nat.reducePow, cC, pv, binv, sArCopy1, undef]
      refine hK _ _ ?_
      clear hK K
      refine cv_ret ⟨_, (by simp -implicitDefEqProofs (disch := first | omega | decide) only [seval, -Int.reducePow, -Nat.reducePow, cC, pv, binv, sArCopy1, undef]; rfl), fun w hw => ?_⟩
      rw [hF, hno (by omega), ← hF2]
      first | exact ⟨(), rfl, hw.tail.tail⟩ | exact ⟨(), rfl, trivial, hw.tail.tail⟩
end Go.Proofs.Ytfaanphjaghbpaa
/- New of the allocator and of the arena. -/
namespace Go.Proofs.Ytfaanphjaghbpaa
open Go.RowKit Go.Shelf
set_option linter.unusedVariables false
set_option linter.unusedSimpArgs false
set_option maxRecDepth 100000
theorem Exts.nil0 (w : World) (B : Nat) : Exts w B none 0 0 [] := ⟨rfl, Nat.le_refl _, by omega, fun h => by omega⟩
theorem Ex.compN_ok {s : Nat} (h : s ≤ 1048576) : (Ex.compF [] (s : Int)).2 = 0 := (Ex.compF_spec (xs := []) (s := (s : Int)) (fun i hi => by simp at hi) (by omega) (by omega) (fun i hi => by simp at hi)).1
theorem Ex.compN_no {s : Int} (h : s < 0 ∨ 1048576 < s) : Ex.compF [] s = ([], 1) := by
  have : Ex.cBad [] s = true := by unfold Ex.cBad; rcases h with h | h <;> simp [h]
  unfold Ex.compF
  rw [if_pos this]
set_option maxRecDepth 100000 in
theorem sArNew1 : type_of% (And.intro (And.intro (And.intro @eBox.eq_1 @exV.eq_1) (And.intro @alL.eq_1 @arL.eq_1)) (And.intro (And.intro @Nat.mul_one @wrap_in) (And.intro @cMp @cM))) := (And.intro (And.intro (And.intro @eBox.eq_1 @exV.eq_1) (And.intro @alL.eq_1 @arL.eq_1)) (And.intro (And.intro @Nat.mul_one @wrap_in) (And.intro @cMp @cM)))
set_option maxHeartbeats 1000000 in
theorem aNew_ok (s : Nat) (W : World) (hs : s ≤ 1048576) : Calls Try.prog 32 #[.int .i64 (s : Int)] W
    fun e w' => ∃ y : AlR, e = .returned (.tuple #[.pointer (some ⟨y.bA, 0, none⟩), .int .i64 0]) ∧ (y.fr = (Ex.compF [] (s : Int)).1 ∧ y.tk = []) ∧ St [] W (alL y) w' := by
  have h0 := Ex.compN_ok hs
  refine calls_cv (M := []) (n := 18) [.tmp 2, .tmp 3] rfl Try.func32 rfl rfl (Nat.le_of_ble_eq_true rfl) (St.nil _ _) ?_
  refine cv_seq_k fun K hK => ?_
  refine cv_region_then rfl ?_
  simp -implicitDefEqProofs (disch := first | omega | decide) only [seval, -Int.reducePow, -Nat.reducePow, cC, pv, binv, sArNew1, undef]
  refine hK _ _ ?_
  clear hK K
  refine cv_seq_k fun K hK => ?_
  refine cv_region_then rfl ?_
  simp -implicitDefEqProofs (disch := first | omega | decide) only [seval, -Int.reducePow, -Nat.reducePow, cC, pv, binv, sArNew1, undef]
  refine callV_row (fun A n c => .tuple #[.slice A n c, .int .i64 0]) (fun w hw => (by have := complement_any none 0 0 [] (s : Int) w (Exts.nil0 _ _) (by omega); rw [h0] at this; exact this)) ?_
  intro A n c hl hr
  simp -implicitDefEqProofs (disch := first | omega | decide) only [seval, -Int.reducePow, -Nat.reducePow, cC, pv, binv, sArNew1, undef]
  refine hK _ _ ?_
  clear hK K
  refine cv_seq_k fun K hK => ?_
  refine cv_seq_k fun K hK => ?_
  refine cv_region_then rfl ?_
  simp -implicitDefEqProofs (disch := first | omega | decide) only [seval, -Int.reducePow, -Nat.reducePow, cC, pv, binv, sArNew1, undef]
  refine hK _ _ ?_
  clear hK K
  refine cv_cond ?_
  simp -implicitDefEqProofs (disch := first | omega | decide) only [seval, -Int.reducePow, -Nat.reducePow, cC, pv, binv, sArNew1, undef]
  refine cv_skip ?_
  try simp only [blockQ, thenQ]
  refine hK _ _ ?_
  clear hK K
  refine cv_seq_k fun K hK => ?_
  refine cv_region_then rfl ?_
  simp -implicitDefEqProofs (disch := first | omega | decide) only [seval, -Int.reducePow, -Nat.reducePow, cC, pv, binv, sArNew1, undef]
  refine xv_mkmap ?_
  intro bm hbm hfm
  simp -implicitDefEqProofs (disch := first | omega | decide) only [seval, -Int.reducePow, -Nat.reducePow, cC, pv, binv, sArNew1, undef]
  intro bA hbA
  refine hK _ _ ?_
  clear hK K
  refine cv_ret ⟨_, (by simp -implicitDefEqProofs (disch := first | omega | decide) only [seval, -Int.reducePow, -Nat.reducePow, cC, pv, binv, sArNew1, undef]; rfl), fun w hw => ?_⟩
  exact ⟨⟨bA, bm, A, n, c, (Ex.compF [] (s : Int)).1, []⟩, rfl, ⟨rfl, rfl⟩, hw⟩
set_option maxHeartbeats 1000000 in
theorem aNew_no (s : Int) (W : World) (hs : s < 0 ∨ 1048576 < s) : Calls Try.prog 32 #[.int .i64 s] W
    fun e w' => e = .returned (.tuple #[.pointer none, .int .i64 1]) ∧ Below W.heap.size W w' := by
  have h0 := Ex.compN_no hs
  refine calls_cv (M := []) (n := 18) [.tmp 2, .tmp 3] rfl Try.func32 rfl rfl (Nat.le_of_ble_eq_true rfl) (St.nil _ _) ?_
  refine cv_seq_k fun K hK => ?_
  refine cv_region_then rfl ?_
  simp -implicitDefEqProofs (disch := first | omega | decide) only [seval, -Int.reducePow, -Nat.reducePow, cC, pv, binv, sArNew1, undef]
  refine hK _ _ ?_
  clear hK K
  refine cv_seq_k fun K hK => ?_
  refine cv_region_then rfl ?_
  simp -implicitDefEqProofs (disch := first | omega | decide) only [seval, -Int.reducePow, -Nat.reducePow, cC, pv, binv, sArNew1, undef]
  refine callV_row (fun A n c => .tuple #[.slice A n c, .int .i64 1]) (fun w hw => (by have := complement_any none 0 0 [] s w (Exts.nil0 _ _) (by omega); rw [h0] at this; exact this)) ?_
  intro A n c hl hr
  simp -implicitDefEqProofs (disch := first | omega | decide) only [seval, -Int.reducePow, -Nat.reducePow, cC, pv, binv, sArNew1, undef]
  refine hK _ _ ?_
  clear hK K
  refine cv_seq_k fun K hK => ?_
  refine cv_seq_k fun K hK => ?_
  refine cv_region_then rfl ?_
  simp -implicitDefEqProofs (disch := first | omega | decide) only [seval, -Int.reducePow, -Nat.reducePow, cC, pv, binv, sArNew1, undef]
  refine hK _ _ ?_
  clear hK K
  refine cv_cond ?_
  simp -implicitDefEqProofs (disch := first | omega | decide) only [seval, -Int.reducePow, -Nat.reducePow, cC, pv, binv, sArNew1, undef]
  refine cv_seq_k fun K hK => ?_
  refine cv_region_then rfl ?_
  simp -implicitDefEqProofs (disch := first | omega | decide) only [seval, -Int.reducePow, -Nat.reducePow, cC, pv, binv, sArNew1, undef]
  refine hK _ _ ?_
  clear hK K
  refine cv_ret ⟨_, (by simp -implicitDefEqProofs (disch := first | omega | decide) only [seval, -Int.reducePow, -Nat.reducePow, cC, pv, binv, sArNew1, undef]; rfl), fun w hw => ?_⟩
  exact ⟨rfl, hw.below⟩
theorem byt_rep (n : Nat) : List.replicate n (Value.int .u8 0) = byt (List.replicate n 0) := by simp [byt]
set_option maxHeartbeats 1000000 in
theorem arNew_ok (s : Nat) (W : World) (hs : s ≤ 1048576) : Calls Try.prog 10 #[.int .i64 (s : Int)] W
    fun e w' => ∃ x : ArR, e = .returned (.tuple #[.pointer (some ⟨x.bR, 0, none⟩), .int .i64 0]) ∧ (x.N = s ∧ x.bs = List.replicate s 0 ∧ Ex.Inv (s : Int) [] x.al.fr x.al.tk) ∧ St [] W (arL x) w' := by
  have hI := Ex.inv_new (N := (s : Int)) (by omega) (by omega)
  refine calls_cv (M := []) (n := 19) [.tmp 2, .tmp 3] rfl Try.func10 rfl rfl (Nat.le_of_ble_eq_true rfl) (St.nil _ _) ?_
  refine cv_seq_k fun K hK => ?_
  refine cv_region_then rfl ?_
  simp -implicitDefEqProofs (disch := first | omega | decide) only [seval, -Int.reducePow, -Nat.reducePow, cC, pv, binv, sArNew1, undef]
  refine hK _ _ ?_
  clear hK K
  refine cv_seq_k fun K hK => ?_
  refine cv_region_then rfl ?_
  simp -implicitDefEqProofs (disch := first | omega | decide) only [seval, -Int.reducePow, -Nat.reducePow, cC, pv, binv, sArNew1, undef]
  refine callV_grp [] [] (by decide) (fun y : AlR => .tuple #[.pointer (some ⟨y.bA, 0, none⟩), .int .i64 0]) (fun y => alL y) (fun y => y.fr = (Ex.compF [] (s : Int)).1 ∧ y.tk = []) (fun w hw hs' => aNew_ok s w hs) ?_
  intro y hy
  simp only [pickL, nth]
  simp -implicitDefEqProofs (disch := first | omega | decide) only [seval, -Int.reducePow, -Nat.reducePow, cC, pv, binv, sArNew1, undef]
  refine hK _ _ ?_
  clear hK K
  refine cv_seq_k fun K hK => ?_
  refine cv_seq_k fun K hK => ?_
  refine cv_region_then rfl ?_
  simp -implicitDefEqProofs (disch := first | omega | decide) only [seval, -Int.reducePow, -Nat.reducePow, cC, pv, binv, sArNew1, undef]
  refine hK _ _ ?_
  clear hK K
  refine cv_cond ?_
  simp -implicitDefEqProofs (disch := first | omega | decide) only [seval, -Int.reducePow, -Nat.reducePow, cC, pv, binv, sArNew1, undef]
  refine cv_skip ?_
  try simp only [blockQ, thenQ]
  refine hK _ _ ?_
  clear hK K
  refine cv_seq_k fun K hK => ?_
  refine cv_region_then rfl ?_
  simp -implicitDefEqProofs (disch := first | omega | decide) only [seval, -Int.reducePow, -Nat.reducePow, cC, pv, binv, sArNew1, undef]
  refine xv_make (u := .int .u8 0) tap36 rfl rfl rfl (by omega) (by omega) ?_
  intro bB hbB hfB
  simp -implicitDefEqProofs (disch := first | omega | decide) only [seval, -Int.reducePow, -Nat.reducePow, cC, pv, binv, sArNew1, undef]
  intro bR hbR hfR
  rw [byt_rep]
  refine hK _ _ ?_
  clear hK K
  refine cv_ret ⟨_, (by simp -implicitDefEqProofs (disch := first | omega | decide) only [seval, -Int.reducePow, -Nat.reducePow, cC, pv, binv, sArNew1, undef]; rfl), fun w hw => ?_⟩
  refine ⟨⟨y, bR, bB, s, List.replicate s 0⟩, rfl, ⟨rfl, rfl, ?_⟩, hw⟩
  dsimp only
  rw [hy.1, hy.2]
  exact hI
set_option maxHeartbeats 1000000 in
theorem arNew_no (s : Int) (W : World) (hs : s < 0 ∨ 1048576 < s) : Calls Try.prog 10 #[.int .i64 s] W
    fun e w' => e = .returned (.tuple #[.pointer none, .int .i64 1]) ∧ Below W.heap.size W w' := by
  refine calls_cv (M := []) (n := 19) [.tmp 2, .tmp 3] rfl Try.func10 rfl rfl (Nat.le_of_ble_eq_true rfl) (St.nil _ _) ?_
  refine cv_seq_k fun K hK => ?_
  refine cv_region_then rfl ?_
  simp -implicitDefEqProofs (disch := first | omega | decide) only [seval, -Int.reducePow, -Nat.reducePow, cC, pv, binv, sArNew1, undef]
  refine hK _ _ ?_
  clear hK K
  refine cv_seq_k fun K hK => ?_
  refine cv_region_then rfl ?_
  simp -implicitDefEqProofs (disch := first | omega | decide) only [seval, -Int.reducePow, -Nat.reducePow, cC, pv, binv, sArNew1, undef]
  refine callV_ret (fun w hw => aNew_no s w hs) ?_
  try simp -implicitDefEqProofs (disch := first | omega | decide) only [seval, -Int.reducePow, -Nat.reducePow, cC, pv, binv, sArNew1, undef]
  refine hK _ _ ?_
  clear hK K
  refine cv_seq_k fun K hK => ?_
  refine cv_seq_k fun K hK => ?_
  refine cv_region_then rfl ?_
  simp -implicitDefEqProofs (disch := first | omega | decide) only [seval, -Int.reducePow, -Nat.reducePow, cC, pv, binv, sArNew1, undef]
  refine hK _ _ ?_
  clear hK K
  refine cv_cond ?_
  simp -implicitDefEqProofs (disch := first | omega | decide) only [seval, -Int.reducePow, -Nat.reducePow, cC, pv, binv, sArNew1, undef]
  refine cv_seq_k fun K hK => ?_
  refine cv_region_then rfl ?_
  simp -implicitDefEqProofs (disch := first | omega | decide) only [seval, -Int.reducePow, -Nat.reducePow, cC, pv, binv, sArNew1, undef]
  refine hK _ _ ?_
  clear hK K
  refine cv_ret ⟨_, (by simp -implicitDefEqProofs (disch := first | omega | decide) only [seval, -Int.reducePow, -Nat.reducePow, cC, pv, binv, sArNew1, undef]; rfl), fun w hw => ?_⟩
  exact ⟨rfl, hw.below⟩
end Go.Proofs.Ytfaanphjaghbpaa
/- The arena laws' awake, and what a new arena gives out first. -/
namespace Go.Proofs.Ytfaanphjaghbpaa
open Go.RowKit Go.Shelf
set_option linter.unusedVariables false
set_option linter.unusedSimpArgs false
set_option maxRecDepth 100000
namespace Ex
theorem comp_new {N : Nat} (h0 : 0 < N) (h1 : N ≤ 1048576) : (compF [] (N : Int)).1 = [⟨0, (N : Int)⟩] := by
  have hF := compF_eq (xs := []) (s := (N : Int)) (fun i hi => by simp at hi) (by omega) (by omega) (fun i hi => by simp at hi)
  rw [hF]
  have := comp_split [] (N : Int) 0 (Nat.le_refl _)
  simp only [List.length_nil, List.drop_nil] at this ⊢
  have h2 : compL 0 [] (N : Int) = [⟨0, (N : Int)⟩] := by unfold compL; rw [if_pos (by omega)]; simp
  rw [← h2, ← this]
  rfl
theorem find_new {N : Nat} {n : Int} (he : Sz.err n = 0) (hr : Sz.rnd n ≤ (N : Int)) (h0 : 0 < N) : findF [⟨0, (N : Int)⟩] n = (⟨0, Sz.rnd n⟩, 0) := by
  have hb : best (Sz.rnd n) [⟨0, (N : Int)⟩] = ⟨0, (N : Int)⟩ := by
    show bstep (Sz.rnd n) ⟨0, 0⟩ ⟨0, (N : Int)⟩ = _
    unfold bstep
    rw [if_pos ⟨hr, .inl rfl⟩]
  unfold findF
  rw [if_pos he, hb, if_neg (by dsimp only; omega)]
end Ex
theorem Inv_fr {N : Nat} {fr : List Ext} {tk : List (Int × Int)} (h : Ex.Inv (N : Int) [] fr tk) (h0 : 0 < N) : fr = [⟨0, (N : Int)⟩] := by
  rw [h.fr]
  exact Ex.comp_new h0 (by have := h.N1; omega)
set_option maxRecDepth 100000 in
theorem sArAw1 : type_of% (And.intro (And.intro (And.intro @eBox.eq_1 @exV.eq_1) (And.intro @alL.eq_1 @arL.eq_1)) (And.intro (And.intro @Nat.mul_one @wrap_in) (And.intro @cMp @cM))) := (And.intro (And.intro (And.intro @eBox.eq_1 @exV.eq_1) (And.intro @alL.eq_1 @arL.eq_1)) (And.intro (And.intro @Nat.mul_one @wrap_in) (And.intro @cMp @cM)))
theorem aw_find : Ex.findF [⟨0, 64⟩] 8 = (⟨0, 16⟩, 0) := by kernel_rfl
theorem arAwake_any (W : World) : Calls Try.prog 13 #[] W fun e w' => e = .returned (.bool true) ∧ Below W.heap.size W w' := by
  refine calls_cv (M := []) (n := 42) [.tmp 0] rfl Try.func13 rfl rfl (Nat.le_of_ble_eq_true rfl) (St.nil _ _) ?_
  refine cv_seq_k fun K hK => ?_
  refine cv_region_then rfl ?_
  simp -implicitDefEqProofs (disch := first | omega | decide) only [seval, -Int.reducePow, -Nat.reducePow, cC, pv, binv, sArAw1, undef]
  refine hK _ _ ?_
  clear hK K
  refine cv_seq_k fun K hK => ?_
  refine cv_region_then rfl ?_
  simp -implicitDefEqProofs (disch := first | omega | decide) only [seval, -Int.reducePow, -Nat.reducePow, cC, pv, binv, sArAw1, undef]
  refine callV_grp [] [] (by decide) (fun x : ArR => .tuple #[.pointer (some ⟨x.bR, 0, none⟩), .int .i64 0]) (fun x => arL x) (fun x => x.N = 64 ∧ x.bs = List.replicate 64 0 ∧ Ex.Inv (64 : Int) [] x.al.fr x.al.tk) (fun w hw hs => arNew_ok 64 w (by omega)) ?_
  rintro ⟨al, bR, bB, N, bs⟩ ⟨rfl, hbs, hI⟩
  dsimp only at hbs
  have hbl : bs.length = 64 := by rw [hbs]; rfl
  simp only [pickL, nth]
  simp -implicitDefEqProofs (disch := first | omega | decide) only [seval, -Int.reducePow, -Nat.reducePow, cC, pv, binv, sArAw1, undef]
  refine hK _ _ ?_
  clear hK K
  have hfr := Inv_fr (N := 64) hI (by omega)
  dsimp only at hI hfr
  refine cv_seq_k fun K hK => ?_
  refine cv_seq_k fun K hK => ?_
  refine cv_region_then rfl ?_
  simp -implicitDefEqProofs (disch := first | omega | decide) only [seval, -Int.reducePow, -Nat.reducePow, cC, pv, binv, sArAw1, undef]
  refine hK _ _ ?_
  clear hK K
  refine cv_cond ?_
  simp -implicitDefEqProofs (disch := first | omega | decide) only [seval, -Int.reducePow, -Nat.reducePow, cC, pv, binv, sArAw1, undef]
  refine cv_skip ?_
  try simp only [blockQ, thenQ]
  refine hK _ _ ?_
  clear hK K
  refine cv_seq_k fun K hK => ?_
  refine cv_region_then rfl ?_
  simp -implicitDefEqProofs (disch := first | omega | decide) only [seval, -Int.reducePow, -Nat.reducePow, cC, pv, binv, sArAw1, undef]
  refine callV_grp [0, 1, 2, 3, 4] [] (by decide) (fun _ : AlR => .tuple #[.agg #[.int .i64 0, .int .i64 16], .int .i64 0]) (fun y => arL ⟨y, bR, bB, 64, bs⟩) (fun y => y.bA = al.bA ∧ Ex.Inv (64 : Int) [⟨0, 16⟩] y.fr y.tk) (fun w hw hs => by
    refine (arAlloc_any ⟨al, bR, bB, 64, bs⟩ [] 8 w hs hI (by simp) hbl).mono ?_
    dsimp only
    rw [hfr]
    rintro e w' ⟨y, rfl, ⟨h1, -, h3⟩, h4⟩
    exact ⟨y, rfl, ⟨h1, h3 rfl⟩, h4⟩) ?_
  intro y hy
  simp only [pickL, nth]
  simp -implicitDefEqProofs (disch := first | omega | decide) only [seval, -Int.reducePow, -Nat.reducePow, cC, pv, binv, sArAw1, undef]
  intro b3 hb3 hf3
  refine hK _ _ ?_
  clear hK K
  refine cv_seq_k fun K hK => ?_
  refine cv_region_then rfl ?_
  simp -implicitDefEqProofs (disch := first | omega | decide) only [seval, -Int.reducePow, -Nat.reducePow, cC, pv, binv, sArAw1, undef]
  refine callV_grp [1, 2, 3, 4, 5] [0] (by decide) (fun _ : Unit => .int .i64 0) (fun _ => arL ⟨y, bR, bB, 64, splice bs 3 [2, 1]⟩) (fun _ => True) (fun w hw hs => by
    have := arStore_any ⟨y, bR, bB, 64, bs⟩ [⟨0, 16⟩] ⟨0, 16⟩ 3 2 258 w hs hy.2 (by simp) hbl (by omega)
    rw [show stErr [⟨0, 16⟩] ⟨0, 16⟩ 3 2 258 = 0 by decide] at this
    exact this) ?_
  intro _ _
  simp only [pickL, nth]
  simp -implicitDefEqProofs (disch := first | omega | decide) only [seval, -Int.reducePow, -Nat.reducePow, cC, pv, binv, sArAw1, undef]
  refine hK _ _ ?_
  clear hK K
  have hld : loadF (splice bs 3 [2, 1]) ⟨0, 16⟩ 4 1 0 = 1 := by subst hbs; decide
  refine cv_seq_k fun K hK => ?_
  refine cv_region_then rfl ?_
  simp -implicitDefEqProofs (disch := first | omega | decide) only [seval, -Int.reducePow, -Nat.reducePow, cC, pv, binv, sArAw1, undef]
  refine callV_ret (fun w hw => (by have := arLoad_any ⟨y, bR, bB, 64, splice bs 3 [2, 1]⟩ [⟨0, 16⟩] w ⟨0, 16⟩ 4 1 (ArW.of hw 0 1 2 3 4 rfl rfl rfl rfl rfl (by have := hy.2.frLen; simp at this; dsimp only; omega) (by rw [splice_len (by simp; omega)]; exact hbl) (by dsimp only; omega)) hy.2 (splice_lt (by subst hbs; decide) (by decide)); rw [show fErr [⟨0, 16⟩] ⟨0, 16⟩ 4 1 = 0 by decide, hld] at this; exact this)) ?_
  try simp -implicitDefEqProofs (disch := first | omega | decide) only [seval, -Int.reducePow, -Nat.reducePow, cC, pv, binv, sArAw1, undef]
  refine hK _ _ ?_
  clear hK K
  refine cv_seq_k fun K hK => ?_
  refine cv_region_then rfl ?_
  simp -implicitDefEqProofs (disch := first | omega | decide) only [seval, -Int.reducePow, -Nat.reducePow, cC, pv, binv, sArAw1, undef]
  refine hK _ _ ?_
  clear hK K
  refine cv_ret ⟨_, (by simp -implicitDefEqProofs (disch := first | omega | decide) only [seval, -Int.reducePow, -Nat.reducePow, cC, pv, binv, sArAw1, undef]; rfl), fun w hw => ?_⟩
  exact ⟨rfl, hw.below⟩
end Go.Proofs.Ytfaanphjaghbpaa
