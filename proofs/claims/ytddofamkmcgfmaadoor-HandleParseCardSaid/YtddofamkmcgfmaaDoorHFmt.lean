/- The text of a word: the code's and the definition's. -/
import Derived.Test.YtddofamkmcgfmaaDoorHTxt
namespace Go.Proofs.YtddofamkmcgfmaaDoor
open Go.RowKit Go.Shelf Go.Sort
set_option linter.unusedVariables false
set_option linter.unusedSimpArgs false
set_option maxRecDepth 100000
theorem dec_len {n : Nat} (h : n ≤ 4294967295) : (dec n).length ≤ 10 := by
  have key : ∀ k n : Nat, n < 10 ^ (k + 1) → (dec n).length ≤ k + 1 := by
    intro k
    induction k with
    | zero => intro n h; rw [dec_one (by simpa using h)]; simp
    | succ k ih =>
      intro n h
      by_cases h1 : n < 10
      · rw [dec_one h1]; simp
      · rw [dec_more h1, List.length_append]
        have := ih (n / 10) (by rw [Nat.pow_succ] at h; omega)
        simp
        omega
  exact key 9 n (by simp; omega)
theorem txt_len {s g t : Nat} (h1 : s ≤ 4294967295) (h2 : g ≤ 4294967295) (h3 : t ≤ 4294967295) : (txt s g t).length ≤ 32 ∧ 0 < (txt s g t).length := by
  have := dec_len h1
  have := dec_len h2
  have := dec_len h3
  unfold txt
  simp
  omega
theorem txt_byte (s g t : Nat) : ∀ x ∈ txt s g t, x < 256 := fun x hx => by
  unfold txt at hx
  simp only [List.mem_append, List.mem_cons] at hx
  rcases hx with h | h | h | h | h
  · have := dec_dig _ _ h; omega
  · omega
  · have := dec_dig _ _ h; omega
  · omega
  · have := dec_dig _ _ h; omega
theorem ssz {a b : List Nat} (h : a.length + b.length ≤ 1000) : (bstr a).size + (bstr b).size ≤ 9223372036854775807 := by rw [bstr_size, bstr_size]; omega
set_option maxRecDepth 100000 in
theorem sHFmt1 : type_of% (And.intro @slash_eq @bstr_app) := (And.intro @slash_eq @bstr_app)
set_option maxHeartbeats 1000000 in
theorem format_any (h : Nat) (hh : h < 18446744073709551616) (W : World) (hv : HV W) :
    Calls Tryd.prog 20 #[.int .u64 (h : Int)] W fun e w' => e = .returned (.string (bstr (txt (slotF h) (genF h) (tagF h)))) ∧ Below W.heap.size W w' := by
  obtain ⟨r1, r2, r3⟩ := parts_rng hh
  obtain ⟨s, hs⟩ : ∃ s, slotF h = s := ⟨_, rfl⟩
  obtain ⟨g, hg⟩ : ∃ g, genF h = g := ⟨_, rfl⟩
  obtain ⟨t, ht⟩ : ∃ t, tagF h = t := ⟨_, rfl⟩
  rw [hs] at r1
  rw [hg] at r2
  rw [ht] at r3
  have l1 := dec_len (n := s) (by omega)
  have l2 := dec_len (n := g) (by omega)
  have l3 := dec_len (n := t) (by omega)
  rw [hs, hg, ht]
  refine calls_cv (M := []) (n := 16) [.tmp 2] rfl Tryd.func20 rfl rfl (Nat.le_of_ble_eq_true rfl) (St.nil _ _) ?_
  refine cv_seq_k fun K hK => ?_
  refine cv_region_then rfl ?_
  simp -implicitDefEqProofs (disch := first | omega | decide) only [seval, -Int.reducePow, -Nat.reducePow, cC, pv, binv, sHFmt1, undef]
  refine hK _ _ ?_
  clear hK K
  refine cv_seq_k fun K hK => ?_
  refine cv_region_then rfl ?_
  simp -implicitDefEqProofs (disch := first | omega | decide) only [seval, -Int.reducePow, -Nat.reducePow, cC, pv, binv, sHFmt1, undef]
  refine callV_ret (fun w hw => slot_any h hh w) ?_
  try simp -implicitDefEqProofs (disch := first | omega | decide) only [seval, -Int.reducePow, -Nat.reducePow, cC, pv, binv, sHFmt1, undef, hs]
  refine callV_ret (fun w hw => itoa_any s (by omega) w (hv.at hw)) ?_
  try simp -implicitDefEqProofs (disch := first | omega | decide) only [seval, -Int.reducePow, -Nat.reducePow, cC, pv, binv, sHFmt1, undef]
  refine ⟨ssz (by simp; omega), ?_⟩
  refine callV_ret (fun w hw => gen_any h hh w) ?_
  try simp -implicitDefEqProofs (disch := first | omega | decide) only [seval, -Int.reducePow, -Nat.reducePow, cC, pv, binv, sHFmt1, undef, hg]
  refine callV_ret (fun w hw => itoa_any g (by omega) w (hv.at hw)) ?_
  try simp -implicitDefEqProofs (disch := first | omega | decide) only [seval, -Int.reducePow, -Nat.reducePow, cC, pv, binv, sHFmt1, undef]
  refine ⟨ssz (by simp; omega), ?_⟩
  refine ⟨ssz (by simp; omega), ?_⟩
  refine callV_ret (fun w hw => tag_any h hh w) ?_
  try simp -implicitDefEqProofs (disch := first | omega | decide) only [seval, -Int.reducePow, -Nat.reducePow, cC, pv, binv, sHFmt1, undef, ht]
  refine callV_ret (fun w hw => itoa_any t (by omega) w (hv.at hw)) ?_
  try simp -implicitDefEqProofs (disch := first | omega | decide) only [seval, -Int.reducePow, -Nat.reducePow, cC, pv, binv, sHFmt1, undef]
  refine ⟨ssz (by simp; omega), ?_⟩
  refine hK _ _ ?_
  clear hK K
  refine cv_ret ⟨_, (by simp -implicitDefEqProofs (disch := first | omega | decide) only [seval, -Int.reducePow, -Nat.reducePow, cC, pv, binv, sHFmt1, undef]; rfl), fun w hw => ?_⟩
  exact ⟨by unfold txt; simp [bstr_app], hw.below⟩
theorem u64w {x : Int} (h0 : 0 ≤ x) (h1 : x < 18446744073709551616) : IntKind.u64.wrap x = x := by rw [IntKind.wrap_u64]; omega
theorem i32w {x : Int} (h0 : 0 ≤ x) (h1 : x < 2147483648) : IntKind.i32.wrap x = x := by
  rw [IntKind.wrap_i32]
  omega
theorem empty_eq : ByteArray.mk #[] = bstr [] := by rw [bstr_eq]; rfl
set_option maxRecDepth 100000 in
theorem sHFmt2 : type_of% (And.intro (And.intro @slash_eq @bstr_app) (And.intro @u64w (And.intro @i32w @empty_eq))) := (And.intro (And.intro @slash_eq @bstr_app) (And.intro @u64w (And.intro @i32w @empty_eq)))
set_option maxHeartbeats 1000000 in
theorem rdec_any (n : Nat) (hn : n ≤ 4294967295) (W : World) :
    Calls Tryd.prog 28 #[.int .u64 (n : Int)] W fun e w' => e = .returned (.string (bstr (dec n))) ∧ Below W.heap.size W w' := by
  have hdl := dec_len hn
  refine calls_cv (M := []) (n := 21) [.tmp 2] rfl Tryd.func28 rfl rfl (Nat.le_of_ble_eq_true rfl) (St.nil _ _) ?_
  refine cv_seq_k fun K hK => ?_
  refine cv_region_then rfl ?_
  simp -implicitDefEqProofs (disch := first | omega | decide) only [seval, -Int.reducePow, -Nat.reducePow, cC, pv, binv, sHFmt2, undef]
  refine hK _ _ ?_
  clear hK K
  refine cv_seq_k fun K hK => ?_
  refine cv_region_then rfl ?_
  simp -implicitDefEqProofs (disch := first | omega | decide) only [seval, -Int.reducePow, -Nat.reducePow, cC, pv, binv, sHFmt2, undef]
  refine hK _ _ ?_
  clear hK K
  refine cv_seq_k fun K hK => ?_
  refine cv_gen fun G1 hG => ?_
  have g1_0 := congrFun hG 0
  have g1_3 := congrFun hG 3
  clear hG
  try simp -implicitDefEqProofs (disch := first | omega | decide) only [seval, -Int.reducePow, -Nat.reducePow, cC, pv, binv, sHFmt2, undef] at g1_0 g1_3
  have g1 := And.intro g1_0 g1_3
  refine cv_block ?_
  refine cv_loop (fun F' L' => ∃ (m : Nat) (t : List Nat), F' 0 = .int .u64 (m : Int) ∧ F' 3 = .string (bstr t) ∧ L' = [] ∧ m ≤ n ∧ dec n = dec m ++ t) (fun F' L' => (intOf (F' 0)).toNat) ?_ ?_
  · refine ⟨n, [], ?_⟩
    simp -implicitDefEqProofs (disch := first | omega | decide) only [seval, -Int.reducePow, -Nat.reducePow, cC, pv, binv, sHFmt2, undef, g1]
  intro G2 L' hI
  obtain ⟨m, t, q0, q3, rfl, ⟨hm, hd⟩⟩ := hI
  have g2_0 := q0
  have g2_3 := q3
  clear q0 q3
  have g2 := And.intro g2_0 g2_3
  have htl : t.length ≤ 10 := by rw [hd, List.length_append] at hdl; omega
  refine cv_seq_k fun K hK => ?_
  refine cv_seq_k fun K hK => ?_
  refine cv_region_then rfl ?_
  simp -implicitDefEqProofs (disch := first | omega | decide) only [seval, -Int.reducePow, -Nat.reducePow, cC, pv, binv, sHFmt2, undef, g1, g2]
  refine hK _ _ ?_
  clear hK K
  refine cv_cond ?_
  simp -implicitDefEqProofs (disch := first | omega | decide) only [seval, -Int.reducePow, -Nat.reducePow, cC, pv, binv, sHFmt2, undef, g1, g2]
  refine ⟨fun hc => ?_, fun hc => ?_⟩
  · have h10 : ¬ m < 10 := by have := of_decide_eq_true hc; omega
    have e1 : (m : Int) % 10 = ((m % 10 : Nat) : Int) := by omega
    have e2 : (m : Int) / 10 = ((m / 10 : Nat) : Int) := by omega
    have e3 : (48 : Int) + ((m % 10 : Nat) : Int) = ((48 + m % 10 : Nat) : Int) := by omega
    refine cv_skip ?_
    try simp only [blockQ, thenQ]
    refine hK _ _ ?_
    clear hK K
    refine cv_block ?_
    refine cv_seq_k fun K hK => ?_
    refine cv_region_then rfl ?_
    simp -implicitDefEqProofs (disch := first | omega | decide) only [seval, -Int.reducePow, -Nat.reducePow, cC, pv, binv, sHFmt2, undef, e1, e3, g1, g2]
    refine xv_rune .i32 (48 + m % 10) (by kernel_rfl) (by kernel_rfl) (by simp -implicitDefEqProofs (disch := first | omega | decide) only [seval, -Int.reducePow, -Nat.reducePow, cC, pv, binv, sHFmt2, undef, e1, e3, g1, g2]; rfl) (by omega) ?_
    simp -implicitDefEqProofs (disch := first | omega | decide) only [seval, -Int.reducePow, -Nat.reducePow, cC, pv, binv, sHFmt2, undef, g1, g2]
    refine ⟨ssz (by simp; omega), ?_⟩
    refine hK _ _ ?_
    clear hK K
    refine cv_region_q rfl ?_
    simp -implicitDefEqProofs (disch := first | omega | decide) only [seval, -Int.reducePow, -Nat.reducePow, cC, pv, binv, sHFmt2, undef, e2, g1, g2]
    refine ⟨⟨m / 10, (48 + m % 10) :: t, ?_⟩, ?_⟩
    · simp -implicitDefEqProofs (disch := first | omega | decide) only [seval, -Int.reducePow, -Nat.reducePow, cC, pv, binv, sHFmt2, undef, g1, g2]
      refine ⟨by omega, ?_⟩
      rw [hd, dec_more h10]
      simp
    · simp only [intOf]; omega
  refine cv_exit ?_
  simp only [blockQ, thenQ, if_true, ite_true]
  clear hK K
  refine hK _ _ ?_
  clear hK K
  have h10 : m < 10 := by have := of_decide_eq_false hc; omega
  have e3 : (48 : Int) + ((m : Nat) : Int) = ((48 + m : Nat) : Int) := by omega
  refine cv_seq_k fun K hK => ?_
  refine cv_region_then rfl ?_
  simp -implicitDefEqProofs (disch := first | omega | decide) only [seval, -Int.reducePow, -Nat.reducePow, cC, pv, binv, sHFmt2, undef, e3, g1, g2]
  refine xv_rune .i32 (48 + m) (by kernel_rfl) (by kernel_rfl) (by simp -implicitDefEqProofs (disch := first | omega | decide) only [seval, -Int.reducePow, -Nat.reducePow, cC, pv, binv, sHFmt2, undef, e3, g1, g2]; rfl) (by omega) ?_
  simp -implicitDefEqProofs (disch := first | omega | decide) only [seval, -Int.reducePow, -Nat.reducePow, cC, pv, binv, sHFmt2, undef, g1, g2]
  refine ⟨ssz (by simp; omega), ?_⟩
  refine hK _ _ ?_
  clear hK K
  refine cv_ret ⟨_, (by simp -implicitDefEqProofs (disch := first | omega | decide) only [seval, -Int.reducePow, -Nat.reducePow, cC, pv, binv, sHFmt2, undef, g1, g2]; rfl), fun w hw => ?_⟩
  exact ⟨by rw [hd, dec_one h10]; rfl, hw.below⟩
set_option maxHeartbeats 1000000 in
theorem rformat_any (h : Nat) (hh : h < 18446744073709551616) (W : World) :
    Calls Tryd.prog 22 #[.int .u64 (h : Int)] W fun e w' => e = .returned (.string (bstr (txt (slotF h) (genF h) (tagF h)))) ∧ Below W.heap.size W w' := by
  obtain ⟨r1, r2, r3⟩ := parts_rng hh
  obtain ⟨s, hs⟩ : ∃ s, slotF h = s := ⟨_, rfl⟩
  obtain ⟨g, hg⟩ : ∃ g, genF h = g := ⟨_, rfl⟩
  obtain ⟨t, ht⟩ : ∃ t, tagF h = t := ⟨_, rfl⟩
  rw [hs] at r1
  rw [hg] at r2
  rw [ht] at r3
  have l1 := dec_len (n := s) (by omega)
  have l2 := dec_len (n := g) (by omega)
  have l3 := dec_len (n := t) (by omega)
  rw [hs, hg, ht]
  refine calls_cv (M := []) (n := 19) [.tmp 2] rfl Tryd.func22 rfl rfl (Nat.le_of_ble_eq_true rfl) (St.nil _ _) ?_
  refine cv_seq_k fun K hK => ?_
  refine cv_region_then rfl ?_
  simp -implicitDefEqProofs (disch := first | omega | decide) only [seval, -Int.reducePow, -Nat.reducePow, cC, pv, binv, sHFmt2, undef]
  refine hK _ _ ?_
  clear hK K
  refine cv_seq_k fun K hK => ?_
  refine cv_region_then rfl ?_
  simp -implicitDefEqProofs (disch := first | omega | decide) only [seval, -Int.reducePow, -Nat.reducePow, cC, pv, binv, sHFmt2, undef]
  refine callV_ret (fun w hw => rslot_any h hh w) ?_
  try simp -implicitDefEqProofs (disch := first | omega | decide) only [seval, -Int.reducePow, -Nat.reducePow, cC, pv, binv, sHFmt2, undef, hs]
  refine callV_ret (fun w hw => rdec_any s (by omega) w) ?_
  try simp -implicitDefEqProofs (disch := first | omega | decide) only [seval, -Int.reducePow, -Nat.reducePow, cC, pv, binv, sHFmt2, undef]
  refine ⟨ssz (by simp; omega), ?_⟩
  refine callV_ret (fun w hw => rgen_any h hh w) ?_
  try simp -implicitDefEqProofs (disch := first | omega | decide) only [seval, -Int.reducePow, -Nat.reducePow, cC, pv, binv, sHFmt2, undef, hg]
  refine callV_ret (fun w hw => rdec_any g (by omega) w) ?_
  try simp -implicitDefEqProofs (disch := first | omega | decide) only [seval, -Int.reducePow, -Nat.reducePow, cC, pv, binv, sHFmt2, undef]
  refine ⟨ssz (by simp; omega), ?_⟩
  refine ⟨ssz (by simp; omega), ?_⟩
  refine callV_ret (fun w hw => rtag_any h hh w) ?_
  try simp -implicitDefEqProofs (disch := first | omega | decide) only [seval, -Int.reducePow, -Nat.reducePow, cC, pv, binv, sHFmt2, undef, ht]
  refine callV_ret (fun w hw => rdec_any t (by omega) w) ?_
  try simp -implicitDefEqProofs (disch := first | omega | decide) only [seval, -Int.reducePow, -Nat.reducePow, cC, pv, binv, sHFmt2, undef]
  refine ⟨ssz (by simp; omega), ?_⟩
  refine hK _ _ ?_
  clear hK K
  refine cv_ret ⟨_, (by simp -implicitDefEqProofs (disch := first | omega | decide) only [seval, -Int.reducePow, -Nat.reducePow, cC, pv, binv, sHFmt2, undef]; rfl), fun w hw => ?_⟩
  exact ⟨by unfold txt; simp [bstr_app], hw.below⟩
end Go.Proofs.YtddofamkmcgfmaaDoor
