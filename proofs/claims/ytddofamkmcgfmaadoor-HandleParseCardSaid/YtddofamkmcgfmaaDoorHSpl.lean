/- The definition's pieces of a text, and its numbers. -/
import Derived.Test.YtddofamkmcgfmaaDoorHFmt
namespace Go.Proofs.YtddofamkmcgfmaaDoor
open Go.RowKit Go.Shelf Go.Sort
set_option linter.unusedVariables false
set_option linter.unusedSimpArgs false
set_option maxRecDepth 100000
theorem bstr_get {l : List Nat} (hb : ∀ x ∈ l, x < 256) {i x : Nat} (h : l[i]? = some x) : ((((bstr l).data.toList.getD i 0).toNat : Nat) : Int) = (x : Int) := by
  have hx := hb x (List.mem_of_getElem? h)
  rw [bstr_data, List.getD_eq_getElem?_getD, List.getElem?_map, h]
  simp
  omega
theorem bstr_cut (l : List Nat) (a b : Nat) : (bstr l).extract a b = bstr ((l.take b).drop a) := by
  rw [bstr_eq, bstr_eq]
  apply ByteArray.ext
  simp [ByteArray.data_extract, List.map_drop, List.map_take, List.extract_eq_take_drop, List.drop_take]
structure SpI (l : List Nat) (i f : Nat) (out : List (List Nat)) : Prop where
  le : i ≤ l.length + 1
  olen : out.length ≤ i
  run : i ≤ l.length → f ≤ i ∧ spl 47 l = out ++ spl 47 (l.drop f) ∧ ∀ x ∈ (l.take i).drop f, x ≠ 47
  fin : i = l.length + 1 → spl 47 l = out
theorem SpI.start (l : List Nat) : SpI l 0 0 [] := ⟨by omega, by simp, fun _ => ⟨by omega, rfl, by simp⟩, fun h => by omega⟩
theorem SpI.step {l : List Nat} {i f x : Nat} {out : List (List Nat)} (h : SpI l i f out) (hx : l[i]? = some x) (h47 : x ≠ 47) : SpI l (i + 1) f out := by
  have hi : i < l.length := (List.getElem?_eq_some_iff.1 hx).1
  obtain ⟨h1, h2, h3⟩ := h.run (by omega)
  have := h.olen
  refine ⟨by omega, by omega, fun _ => ⟨by omega, h2, ?_⟩, fun h => by omega⟩
  intro y hy
  rw [List.take_add_one, hx, List.drop_append_of_le_length (by simp; omega)] at hy
  rcases List.mem_append.1 hy with hy | hy
  · exact h3 y hy
  · simp at hy
    omega
theorem SpI.cut {l : List Nat} {i f : Nat} {out : List (List Nat)} (h : SpI l i f out) (hi : i ≤ l.length) (hx : i = l.length ∨ l[i]? = some 47) : SpI l (i + 1) (i + 1) (out ++ [(l.take i).drop f]) := by
  obtain ⟨h1, h2, h3⟩ := h.run hi
  have := h.olen
  refine ⟨by omega, by simp; omega, fun hi2 => ?_, fun hi2 => ?_⟩
  · rcases hx with rfl | hx
    · omega
    · refine ⟨Nat.le_refl _, ?_, by simp⟩
      have e : l.drop f = (l.take i).drop f ++ 47 :: l.drop (i + 1) := by
        have e1 : l = l.take i ++ 47 :: l.drop (i + 1) := by
          conv => lhs; rw [← List.take_append_drop i l]
          rw [List.drop_eq_getElem_cons (by omega)]
          rw [List.getElem?_eq_getElem (by omega)] at hx
          injection hx with hx
          rw [hx]
        conv => lhs; rw [e1, List.drop_append_of_le_length (by simp; omega)]
      rw [h2, e, spl_app _ h3]
      simp
  · have hil : i = l.length := by omega
    have e : (l.take i).drop f = l.drop f := by rw [hil, List.take_length]
    rw [e] at h3 ⊢
    rw [h2, spl_none h3]
theorem strs_snoc (a : List (List Nat)) (p : List Nat) : strs a ++ [.string (bstr p)] = strs (a ++ [p]) := by simp [strs]
set_option maxRecDepth 100000 in
theorem sHSpl1 : type_of% (And.intro (And.intro (And.intro @slash_eq @bstr_app) (And.intro @u64w @i32w)) (And.intro (And.intro @empty_eq @bstr_size) (And.intro @bstr_cut @wrap_in))) := (And.intro (And.intro (And.intro @slash_eq @bstr_app) (And.intro @u64w @i32w)) (And.intro (And.intro @empty_eq @bstr_size) (And.intro @bstr_cut @wrap_in)))
set_option maxHeartbeats 2000000 in
theorem rsplit_any (l : List Nat) (hl : l.length ≤ 1000) (hb : ∀ x ∈ l, x < 256) (W : World) :
    Calls Tryd.prog 29 #[.string (bstr l), .int .u8 47] W (rowP 9 1 (fun v => v) (strs (spl 47 l)) W) := by
  refine calls_cv (M := []) (n := 35) [.tmp 4] rfl Tryd.func29 rfl rfl (Nat.le_of_ble_eq_true rfl) (St.nil _ _) ?_
  refine cv_seq_k fun K hK => ?_
  refine cv_region_then rfl ?_
  simp -implicitDefEqProofs (disch := first | omega | decide) only [seval, -Int.reducePow, -Nat.reducePow, cC, pv, binv, sHSpl1, undef, Int.toNat_natCast]
  refine hK _ _ ?_
  clear hK K
  refine cv_seq_k fun K hK => ?_
  refine cv_region_then rfl ?_
  simp -implicitDefEqProofs (disch := first | omega | decide) only [seval, -Int.reducePow, -Nat.reducePow, cC, pv, binv, sHSpl1, undef, Int.toNat_natCast]
  refine hK _ _ ?_
  clear hK K
  refine cv_seq_k fun K hK => ?_
  refine cv_region_then rfl ?_
  simp -implicitDefEqProofs (disch := first | omega | decide) only [seval, -Int.reducePow, -Nat.reducePow, cC, pv, binv, sHSpl1, undef, Int.toNat_natCast]
  refine hK _ _ ?_
  clear hK K
  refine cv_seq_k fun K hK => ?_
  refine cv_seq_k fun K hK => ?_
  refine cv_region_then rfl ?_
  simp -implicitDefEqProofs (disch := first | omega | decide) only [seval, -Int.reducePow, -Nat.reducePow, cC, pv, binv, sHSpl1, undef, Int.toNat_natCast]
  refine hK _ _ ?_
  clear hK K
  refine cv_nil 9 1 ?_
  refine cv_gen fun G1 hG => ?_
  have g1_0 := congrFun hG 0
  have g1_1 := congrFun hG 1
  have g1_5 := congrFun hG 5
  have g1_6 := congrFun hG 6
  have g1_7 := congrFun hG 7
  clear hG
  try simp -implicitDefEqProofs (disch := first | omega | decide) only [seval, -Int.reducePow, -Nat.reducePow, cC, pv, binv, sHSpl1, undef, Int.toNat_natCast] at g1_0 g1_1 g1_5 g1_6 g1_7
  have g1 := And.intro g1_0 (And.intro g1_1 (And.intro g1_5 (And.intro g1_6 g1_7)))
  refine cv_block ?_
  refine cv_loop (fun F' L' => ∃ (i f : Nat) (A : Option Addr) (n c : Nat) (out : List (List Nat)), F' 0 = G1 0 ∧ F' 1 = G1 1 ∧ F' 5 = .slice A n c ∧ F' 6 = .int .i64 (f : Int) ∧ F' 7 = .int .i64 (i : Int) ∧ L' = [.row (.slice A n c) 9 1 n (strs out)] ∧ SpI l i f out) (fun F' L' => 2000 - (intOf (F' 7)).toNat) ?_ ?_
  · refine ⟨0, 0, none, 0, 0, [], ?_⟩
    simp -implicitDefEqProofs (disch := first | omega | decide) only [seval, -Int.reducePow, -Nat.reducePow, cC, pv, binv, sHSpl1, undef, Int.toNat_natCast, g1]
    exact ⟨rfl, SpI.start l⟩
  intro G2 L' hI
  obtain ⟨i, f, A, n, c, out, q0, q1, q5, q6, q7, rfl, hS⟩ := hI
  have g2_0 := q0.trans g1_0
  have g2_1 := q1.trans g1_1
  have g2_5 := q5
  have g2_6 := q6
  have g2_7 := q7
  clear q0 q1 q5 q6 q7
  have g2 := And.intro g2_0 (And.intro g2_1 (And.intro g2_5 (And.intro g2_6 g2_7)))
  have hle := hS.le
  have hol := hS.olen
  refine cv_len 0 rfl fun hlen => ?_
  have hn : out.length = n := by simpa [strs] using hlen
  refine cv_seq_k fun K hK => ?_
  refine cv_seq_k fun K hK => ?_
  refine cv_region_then rfl ?_
  simp -implicitDefEqProofs (disch := first | omega | decide) only [seval, -Int.reducePow, -Nat.reducePow, cC, pv, binv, sHSpl1, undef, Int.toNat_natCast, g1, g2]
  refine hK _ _ ?_
  clear hK K
  refine cv_cond ?_
  simp -implicitDefEqProofs (disch := first | omega | decide) only [seval, -Int.reducePow, -Nat.reducePow, cC, pv, binv, sHSpl1, undef, Int.toNat_natCast, g1, g2]
  refine ⟨fun hc => ?_, fun hc => ?_⟩
  · have hi : i ≤ l.length := by have := of_decide_eq_true hc; omega
    obtain ⟨hf, -, -⟩ := hS.run hi
    refine cv_skip ?_
    try simp only [blockQ, thenQ]
    refine hK _ _ ?_
    clear hK K
    refine cv_seq_k fun K hK => ?_
    refine cv_block ?_
    refine cv_seq_k fun K hK => ?_
    refine cv_region_then rfl ?_
    by_cases hil : i = l.length
    · have hd : decide ((i : Int) = (l.length : Int)) = true := decide_eq_true (by omega)
      simp -implicitDefEqProofs (disch := first | omega | decide) only [seval, -Int.reducePow, -Nat.reducePow, cC, pv, binv, sHSpl1, undef, Int.toNat_natCast, hd, g1, g2]
      refine hK _ _ ?_
      clear hK K
      refine cv_cond ?_
      simp -implicitDefEqProofs (disch := first | omega | decide) only [seval, -Int.reducePow, -Nat.reducePow, cC, pv, binv, sHSpl1, undef, Int.toNat_natCast, g1, g2]
      refine cv_seq_k fun K hK => ?_
      refine cv_region_then rfl ?_
      simp -implicitDefEqProofs (disch := first | omega | decide) only [seval, -Int.reducePow, -Nat.reducePow, cC, pv, binv, sHSpl1, undef, Int.toNat_natCast, g1, g2]
      refine ⟨by kernel_rfl, ?_⟩
      intro b30 hb30
      refine appV_at (e := 9) (size := 1) (bytes := 16) 1 (by kernel_rfl) rfl (fun w hw => src_blk (size := 1) (.head _) rfl hw) rfl (by omega) (by omega) ?_
      intro A1 c1 hl1 hr1
      simp -implicitDefEqProofs (disch := first | omega | decide) only [seval, -Int.reducePow, -Nat.reducePow, cC, pv, binv, sHSpl1, undef, Int.toNat_natCast, g1, g2]
      refine hK _ _ ?_
      clear hK K
      refine cv_region_q rfl ?_
      simp -implicitDefEqProofs (disch := first | omega | decide) only [seval, -Int.reducePow, -Nat.reducePow, cC, pv, binv, sHSpl1, undef, Int.toNat_natCast, g1, g2]
      refine hK _ _ ?_
      clear hK K
      refine cv_pick [0] (by decide) ?_
      simp only [pickL, nth]
      refine cv_region_then rfl ?_
      simp -implicitDefEqProofs (disch := first | omega | decide) only [seval, -Int.reducePow, -Nat.reducePow, cC, pv, binv, sHSpl1, undef, Int.toNat_natCast, g1, g2]
      refine ⟨⟨i + 1, i + 1, A1, n + 1, c1, out ++ [(l.take i).drop f], ?_⟩, ?_⟩
      · simp -implicitDefEqProofs (disch := first | omega | decide) only [seval, -Int.reducePow, -Nat.reducePow, cC, pv, binv, sHSpl1, undef, Int.toNat_natCast, Int.natCast_add, strs_snoc, g1, g2]
        exact hS.cut hi (.inl hil)
      · simp only [intOf]; omega
    · have hd : decide ((i : Int) = (l.length : Int)) = false := decide_eq_false (by omega)
      obtain ⟨x, hx⟩ : ∃ x, l[i]? = some x := ⟨_, List.getElem?_eq_getElem (by omega)⟩
      have hgx := bstr_get hb hx
      by_cases h47 : x = 47
      · have hd2 : decide ((((bstr l).data.toList.getD i 0).toNat : Int) = 47) = true := decide_eq_true (by rw [hgx, h47]; rfl)
        simp -implicitDefEqProofs (disch := first | omega | decide) only [seval, -Int.reducePow, -Nat.reducePow, cC, pv, binv, sHSpl1, undef, Int.toNat_natCast, hd, hd2, g1, g2]
        refine hK _ _ ?_
        clear hK K
        refine cv_cond ?_
        simp -implicitDefEqProofs (disch := first | omega | decide) only [seval, -Int.reducePow, -Nat.reducePow, cC, pv, binv, sHSpl1, undef, Int.toNat_natCast, g1, g2]
        refine cv_seq_k fun K hK => ?_
        refine cv_region_then rfl ?_
        simp -implicitDefEqProofs (disch := first | omega | decide) only [seval, -Int.reducePow, -Nat.reducePow, cC, pv, binv, sHSpl1, undef, Int.toNat_natCast, g1, g2]
        refine ⟨by kernel_rfl, ?_⟩
        intro b30 hb30
        refine appV_at (e := 9) (size := 1) (bytes := 16) 1 (by kernel_rfl) rfl (fun w hw => src_blk (size := 1) (.head _) rfl hw) rfl (by omega) (by omega) ?_
        intro A1 c1 hl1 hr1
        simp -implicitDefEqProofs (disch := first | omega | decide) only [seval, -Int.reducePow, -Nat.reducePow, cC, pv, binv, sHSpl1, undef, Int.toNat_natCast, g1, g2]
        refine hK _ _ ?_
        clear hK K
        refine cv_region_q rfl ?_
        simp -implicitDefEqProofs (disch := first | omega | decide) only [seval, -Int.reducePow, -Nat.reducePow, cC, pv, binv, sHSpl1, undef, Int.toNat_natCast, g1, g2]
        refine hK _ _ ?_
        clear hK K
        refine cv_pick [0] (by decide) ?_
        simp only [pickL, nth]
        refine cv_region_then rfl ?_
        simp -implicitDefEqProofs (disch := first | omega | decide) only [seval, -Int.reducePow, -Nat.reducePow, cC, pv, binv, sHSpl1, undef, Int.toNat_natCast, g1, g2]
        refine ⟨⟨i + 1, i + 1, A1, n + 1, c1, out ++ [(l.take i).drop f], ?_⟩, ?_⟩
        · simp -implicitDefEqProofs (disch := first | omega | decide) only [seval, -Int.reducePow, -Nat.reducePow, cC, pv, binv, sHSpl1, undef, Int.toNat_natCast, Int.natCast_add, strs_snoc, g1, g2]
          exact hS.cut hi (.inr (h47 ▸ hx))
        · simp only [intOf]; omega
      · have hd2 : decide ((((bstr l).data.toList.getD i 0).toNat : Int) = 47) = false := decide_eq_false (by rw [hgx]; omega)
        simp -implicitDefEqProofs (disch := first | omega | decide) only [seval, -Int.reducePow, -Nat.reducePow, cC, pv, binv, sHSpl1, undef, Int.toNat_natCast, hd, hd2, g1, g2]
        refine hK _ _ ?_
        clear hK K
        refine cv_cond ?_
        simp -implicitDefEqProofs (disch := first | omega | decide) only [seval, -Int.reducePow, -Nat.reducePow, cC, pv, binv, sHSpl1, undef, Int.toNat_natCast, g1, g2]
        refine cv_skip ?_
        try simp only [blockQ, thenQ]
        refine hK _ _ ?_
        clear hK K
        refine cv_region_then rfl ?_
        simp -implicitDefEqProofs (disch := first | omega | decide) only [seval, -Int.reducePow, -Nat.reducePow, cC, pv, binv, sHSpl1, undef, Int.toNat_natCast, g1, g2]
        refine ⟨⟨i + 1, f, A, n, c, out, ?_⟩, ?_⟩
        · simp -implicitDefEqProofs (disch := first | omega | decide) only [seval, -Int.reducePow, -Nat.reducePow, cC, pv, binv, sHSpl1, undef, Int.toNat_natCast, Int.natCast_add, g1, g2]
          exact hS.step hx h47
        · simp only [intOf]; omega
  refine cv_exit ?_
  simp only [blockQ, thenQ, if_true, ite_true]
  clear hK K
  refine hK _ _ ?_
  clear hK K
  have hi : i = l.length + 1 := by have := of_decide_eq_false hc; omega
  rw [hS.fin hi]
  refine cv_seq_k fun K hK => ?_
  refine cv_region_then rfl ?_
  simp -implicitDefEqProofs (disch := first | omega | decide) only [seval, -Int.reducePow, -Nat.reducePow, cC, pv, binv, sHSpl1, undef, Int.toNat_natCast, g1, g2]
  refine hK _ _ ?_
  clear hK K
  refine cv_ret ⟨_, (by simp -implicitDefEqProofs (disch := first | omega | decide) only [seval, -Int.reducePow, -Nat.reducePow, cC, pv, binv, sHSpl1, undef, Int.toNat_natCast, g1, g2]; rfl), fun w hw => ?_⟩
  exact ⟨A, n, c, rfl, hw.rowNew (by simp), hw.below⟩
end Go.Proofs.YtddofamkmcgfmaaDoor
