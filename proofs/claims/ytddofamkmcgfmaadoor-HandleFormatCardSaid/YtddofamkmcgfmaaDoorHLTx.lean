/- The laws HandleFormat and HandleParse, walked; what they ask of the library's variables. -/
import Derived.Test.YtddofamkmcgfmaaDoorHPar
namespace Go.Proofs.YtddofamkmcgfmaaDoor
open Go.RowKit Go.Shelf Go.Sort
set_option linter.unusedVariables false
set_option linter.unusedSimpArgs false
set_option maxRecDepth 100000
theorem back_word2 {h : Nat} (hh : h < 18446744073709551616) : (tagF h : Int) * 72057594037927936 + (genF h : Int) * 16777216 + (slotF h : Int) = (h : Int) := by unfold slotF genF tagF; omega
set_option maxRecDepth 100000 in
theorem sHLTx1 : type_of% (And.intro (And.intro (And.intro @slash_eq @bstr_app) (And.intro @u64w @i32w)) (And.intro (And.intro @u8w @empty_eq) (And.intro @bstr_size @wrap_in))) := (And.intro (And.intro (And.intro @slash_eq @bstr_app) (And.intro @u64w @i32w)) (And.intro (And.intro @u8w @empty_eq) (And.intro @bstr_size @wrap_in)))
set_option maxHeartbeats 2000000 in
theorem hFormat_walk (W : World) (hv : HV W) (h : Int) (hr : 0 ≤ h ∧ h ≤ 18446744073709551615) : Calls Tryd.prog 7 #[.int .u64 h] W fun e w' => e = .returned (.bool true) ∧ Below W.heap.size W w' := by
  obtain ⟨h, rfl⟩ : ∃ a : Nat, h = a := ⟨h.toNat, by omega⟩
  have hh : h < 18446744073709551616 := by omega
  obtain ⟨r1, r2, r3⟩ := parts_rng hh
  have hp := prsF_txt (s := slotF h) (g := genF h) (t := tagF h) (by omega) (by omega) (by omega)
  obtain ⟨l1, l2⟩ := txt_len (s := slotF h) (g := genF h) (t := tagF h) (by omega) (by omega) (by omega)
  have hb := txt_byte (slotF h) (genF h) (tagF h)
  have e0 : prV (prsF (txt (slotF h) (genF h) (tagF h))) = .tuple #[.int .u64 (h : Int), .int .i64 0] := by
    rw [hp]
    show Value.tuple #[.int .u64 ((tagF h : Int) * 72057594037927936 + (genF h : Int) * 16777216 + (slotF h : Int)), .int .i64 0] = _
    rw [back_word2 hh]
  obtain ⟨T, hT⟩ : ∃ T, txt (slotF h) (genF h) (tagF h) = T := ⟨_, rfl⟩
  have hf := fun W hv => format_any h hh W hv
  have hrf := fun W => rformat_any h hh W
  rw [hT] at l1 l2 hb e0
  simp only [hT] at hf hrf
  have hpr := fun W hv => parse_any T (by omega) hb W hv
  rw [e0] at hpr
  refine calls_cv (M := []) (n := 29) [.tmp 2] rfl Tryd.func7 rfl rfl (Nat.le_of_ble_eq_true rfl) (St.nil _ _) ?_
  refine cv_seq_k fun K hK => ?_
  refine cv_region_then rfl ?_
  simp -implicitDefEqProofs (disch := first | omega | decide) only [seval, -Int.reducePow, -Nat.reducePow, cC, pv, binv, sHLTx1, undef, Int.toNat_natCast]
  refine hK _ _ ?_
  clear hK K
  refine cv_seq_k fun K hK => ?_
  refine cv_region_then rfl ?_
  simp -implicitDefEqProofs (disch := first | omega | decide) only [seval, -Int.reducePow, -Nat.reducePow, cC, pv, binv, sHLTx1, undef, Int.toNat_natCast]
  refine callV_ret (fun w hw => hf w (hv.at hw)) ?_
  try simp -implicitDefEqProofs (disch := first | omega | decide) only [seval, -Int.reducePow, -Nat.reducePow, cC, pv, binv, sHLTx1, undef, Int.toNat_natCast]
  refine hK _ _ ?_
  clear hK K
  refine cv_seq_k fun K hK => ?_
  refine cv_region_then rfl ?_
  simp -implicitDefEqProofs (disch := first | omega | decide) only [seval, -Int.reducePow, -Nat.reducePow, cC, pv, binv, sHLTx1, undef, Int.toNat_natCast]
  refine callV_ret (fun w hw => hpr w (hv.at hw)) ?_
  try simp -implicitDefEqProofs (disch := first | omega | decide) only [seval, -Int.reducePow, -Nat.reducePow, cC, pv, binv, sHLTx1, undef, Int.toNat_natCast]
  refine hK _ _ ?_
  clear hK K
  refine cv_seq_k fun K hK => ?_
  refine cv_region_then rfl ?_
  simp -implicitDefEqProofs (disch := first | omega | decide) only [seval, -Int.reducePow, -Nat.reducePow, cC, pv, binv, sHLTx1, undef, Int.toNat_natCast]
  refine callV_ret (fun w hw => awake_any w) ?_
  try simp -implicitDefEqProofs (disch := first | omega | decide) only [seval, -Int.reducePow, -Nat.reducePow, cC, pv, binv, sHLTx1, undef, Int.toNat_natCast]
  refine callV_ret (fun w hw => hrf w) ?_
  try simp -implicitDefEqProofs (disch := first | omega | decide) only [seval, -Int.reducePow, -Nat.reducePow, cC, pv, binv, sHLTx1, undef, Int.toNat_natCast]
  refine hK _ _ ?_
  clear hK K
  refine cv_ret ⟨_, (by simp -implicitDefEqProofs (disch := first | omega | decide) only [seval, -Int.reducePow, -Nat.reducePow, cC, pv, binv, sHLTx1, undef, Int.toNat_natCast]; rfl), fun w hw => ?_⟩
  exact ⟨rfl, hw.below⟩
section
variable {P : Program} {M : List Nat} {W : World} {L L0 : List Res} {F : Fr}
theorem rx_rn {d0 : Option Nat} {s d ty : TypeId} {x : Operand} {pos : String} {af : Array Edge} {gd : Option (Nat × Bool)} {k : IntKind} (k0 : IntKind) (r : Nat) {K : Bool → Value → Prop} (hs : P.underlying s = some (.int k0)) (hd : P.underlying d = some .string) (hx : ev F x = .int k (r : Int)) (hr : r < 128)
    (hK : K true (.string (bstr [r]))) : RX P M W ⟨d0, .convert s d x, ty, pos, af, gd⟩ F L0 K := ⟨_, fun w _ => exec_rune rfl hs hd hx hr, fun tok htok => by subst htok; exact hK⟩
end
theorem str_bstr (s : ByteArray) : ∃ l : List Nat, (∀ x ∈ l, x < 256) ∧ s = bstr l := by
  obtain ⟨⟨d⟩⟩ := s
  refine ⟨d.map UInt8.toNat, fun x hx => ?_, ?_⟩
  · obtain ⟨y, -, rfl⟩ := List.mem_map.1 hx
    exact y.toNat_lt
  · rw [bstr_eq]
    simp [List.map_map, Function.comp_def]
theorem prV_two (o : Option (Nat × Nat × Nat)) : ∃ u e : Int, prV o = .tuple #[.int .u64 u, .int .i64 e] := by
  cases o with
  | none => exact ⟨_, _, rfl⟩
  | some p => exact ⟨_, _, rfl⟩
theorem bytes3 {T : List Nat} (hb : ∀ x ∈ T, x < 256) {r : Nat} (hr : r < 128) (k j : Nat) : (∀ x ∈ T.take k ++ [r] ++ T.drop j, x < 256) ∧ ∀ x ∈ T.take k ++ T.drop j, x < 256 := by
  refine ⟨fun x hx => ?_, fun x hx => ?_⟩
  · simp only [List.mem_append, List.mem_singleton] at hx
    rcases hx with (hx | hx) | hx
    · exact hb x (List.mem_of_mem_take hx)
    · omega
    · exact hb x (List.mem_of_mem_drop hx)
  · rcases List.mem_append.1 hx with hx | hx
    · exact hb x (List.mem_of_mem_take hx)
    · exact hb x (List.mem_of_mem_drop hx)
set_option maxRecDepth 100000 in
theorem sHLTx2 : type_of% (And.intro (And.intro (And.intro @slash_eq @bstr_app) (And.intro @u64w @i32w)) (And.intro (And.intro @u8w @empty_eq) (And.intro @bstr_size (And.intro @bstr_cut @wrap_in)))) := (And.intro (And.intro (And.intro @slash_eq @bstr_app) (And.intro @u64w @i32w)) (And.intro (And.intro @u8w @empty_eq) (And.intro @bstr_size (And.intro @bstr_cut @wrap_in))))
set_option maxHeartbeats 4000000 in
theorem hParse_walk (W : World) (hv : HV W) (s : ByteArray) (h : Int) (hr : 0 ≤ h ∧ h ≤ 18446744073709551615) (at' : Int) (hat : 0 ≤ at' ∧ at' ≤ 255) (c : Int) (hc0 : 0 ≤ c ∧ c ≤ 255) (how : Int) (hhow : 0 ≤ how ∧ how ≤ 255) :
    Calls Tryd.prog 8 #[.string s, .int .u64 h, .int .u8 at', .int .u8 c, .int .u8 how] W fun e w' => e = .returned (.bool true) ∧ Below W.heap.size W w' := by
  obtain ⟨l, hb, rfl⟩ := str_bstr s
  obtain ⟨h, rfl⟩ : ∃ a : Nat, h = a := ⟨h.toNat, by omega⟩
  obtain ⟨p, rfl⟩ : ∃ a : Nat, at' = a := ⟨at'.toNat, by omega⟩
  obtain ⟨x, rfl⟩ : ∃ a : Nat, c = a := ⟨c.toNat, by omega⟩
  obtain ⟨q, rfl⟩ : ∃ a : Nat, how = a := ⟨how.toNat, by omega⟩
  have hh : h < 18446744073709551616 := by omega
  obtain ⟨r1, r2, r3⟩ := parts_rng hh
  obtain ⟨l1, l2⟩ := txt_len (s := slotF h) (g := genF h) (t := tagF h) (by omega) (by omega) (by omega)
  have hbT := txt_byte (slotF h) (genF h) (tagF h)
  have hrf := fun W => rformat_any h hh W
  obtain ⟨T, hT⟩ : ∃ T, txt (slotF h) (genF h) (tagF h) = T := ⟨_, rfl⟩
  rw [hT] at l1 l2 hbT
  simp only [hT] at hrf
  obtain ⟨r, hrr⟩ : ∃ r : Nat, x % 128 = r := ⟨_, rfl⟩
  have hr128 : r < 128 := by omega
  have ex : (x : Int) % 128 = (r : Int) := by omega
  obtain ⟨m, hmm⟩ : ∃ m : Int, (q : Int) % 3 = m := ⟨_, rfl⟩
  have hm3 : m = 0 ∨ m = 1 ∨ m = 2 := by omega
  refine calls_cv (M := []) (n := 114) [.tmp 10] rfl Tryd.func8 rfl rfl (Nat.le_of_ble_eq_true rfl) (St.nil _ _) ?_
  refine cv_seq_k fun K hK => ?_
  refine cv_region_then rfl ?_
  simp -implicitDefEqProofs (disch := first | omega | decide) only [seval, -Int.reducePow, -Nat.reducePow, cC, pv, binv, sHLTx2, undef, Int.toNat_natCast, List.length_take, List.length_drop, List.length_append, List.length_cons, List.length_nil, List.drop_zero, List.take_length]
  refine hK _ _ ?_
  clear hK K
  refine cv_seq_k fun K hK => ?_
  refine cv_seq_k fun K hK => ?_
  refine cv_region_then rfl ?_
  simp -implicitDefEqProofs (disch := first | omega | decide) only [seval, -Int.reducePow, -Nat.reducePow, cC, pv, binv, sHLTx2, undef, Int.toNat_natCast, List.length_take, List.length_drop, List.length_append, List.length_cons, List.length_nil, List.drop_zero, List.take_length]
  refine hK _ _ ?_
  clear hK K
  refine cv_cond ?_
  simp -implicitDefEqProofs (disch := first | omega | decide) only [seval, -Int.reducePow, -Nat.reducePow, cC, pv, binv, sHLTx2, undef, Int.toNat_natCast, List.length_take, List.length_drop, List.length_append, List.length_cons, List.length_nil, List.drop_zero, List.take_length]
  refine ⟨fun hc => ?_, fun hc => ?_⟩
  · refine cv_seq_k fun K hK => ?_
    refine cv_region_then rfl ?_
    simp -implicitDefEqProofs (disch := first | omega | decide) only [seval, -Int.reducePow, -Nat.reducePow, cC, pv, binv, sHLTx2, undef, Int.toNat_natCast, List.length_take, List.length_drop, List.length_append, List.length_cons, List.length_nil, List.drop_zero, List.take_length]
    refine callV_ret (fun w hw => awake_any w) ?_
    try simp -implicitDefEqProofs (disch := first | omega | decide) only [seval, -Int.reducePow, -Nat.reducePow, cC, pv, binv, sHLTx2, undef, Int.toNat_natCast, List.length_take, List.length_drop, List.length_append, List.length_cons, List.length_nil, List.drop_zero, List.take_length]
    refine hK _ _ ?_
    clear hK K
    refine cv_ret ⟨_, (by simp -implicitDefEqProofs (disch := first | omega | decide) only [seval, -Int.reducePow, -Nat.reducePow, cC, pv, binv, sHLTx2, undef, Int.toNat_natCast, List.length_take, List.length_drop, List.length_append, List.length_cons, List.length_nil, List.drop_zero, List.take_length]; rfl), fun w hw => ?_⟩
    exact ⟨rfl, hw.below⟩
  have hl : l.length ≤ 60 := by have := of_decide_eq_false hc; omega
  obtain ⟨u1, z1, hp1⟩ := prV_two (prsF l)
  have hpr := fun W hv => parse_any l (by omega) hb W hv
  have hrp := fun W => rparse_any l (by omega) hb W
  rw [hp1] at hpr hrp
  refine cv_skip ?_
  try simp only [blockQ, thenQ]
  refine hK _ _ ?_
  clear hK K
  refine cv_seq_k fun K hK => ?_
  refine cv_region_then rfl ?_
  simp -implicitDefEqProofs (disch := first | omega | decide) only [seval, -Int.reducePow, -Nat.reducePow, cC, pv, binv, sHLTx2, undef, Int.toNat_natCast, List.length_take, List.length_drop, List.length_append, List.length_cons, List.length_nil, List.drop_zero, List.take_length]
  refine callV_ret (fun w hw => hpr w (hv.at hw)) ?_
  try simp -implicitDefEqProofs (disch := first | omega | decide) only [seval, -Int.reducePow, -Nat.reducePow, cC, pv, binv, sHLTx2, undef, Int.toNat_natCast, List.length_take, List.length_drop, List.length_append, List.length_cons, List.length_nil, List.drop_zero, List.take_length]
  refine hK _ _ ?_
  clear hK K
  refine cv_seq_k fun K hK => ?_
  refine cv_region_then rfl ?_
  simp -implicitDefEqProofs (disch := first | omega | decide) only [seval, -Int.reducePow, -Nat.reducePow, cC, pv, binv, sHLTx2, undef, Int.toNat_natCast, List.length_take, List.length_drop, List.length_append, List.length_cons, List.length_nil, List.drop_zero, List.take_length]
  refine callV_ret (fun w hw => hrp w) ?_
  try simp -implicitDefEqProofs (disch := first | omega | decide) only [seval, -Int.reducePow, -Nat.reducePow, cC, pv, binv, sHLTx2, undef, Int.toNat_natCast, List.length_take, List.length_drop, List.length_append, List.length_cons, List.length_nil, List.drop_zero, List.take_length]
  refine hK _ _ ?_
  clear hK K
  refine cv_seq_k fun K hK => ?_
  refine cv_region_then rfl ?_
  simp -implicitDefEqProofs (disch := first | omega | decide) only [seval, -Int.reducePow, -Nat.reducePow, cC, pv, binv, sHLTx2, undef, Int.toNat_natCast, List.length_take, List.length_drop, List.length_append, List.length_cons, List.length_nil, List.drop_zero, List.take_length]
  refine callV_ret (fun w hw => hrf w) ?_
  try simp -implicitDefEqProofs (disch := first | omega | decide) only [seval, -Int.reducePow, -Nat.reducePow, cC, pv, binv, sHLTx2, undef, Int.toNat_natCast, List.length_take, List.length_drop, List.length_append, List.length_cons, List.length_nil, List.drop_zero, List.take_length]
  refine hK _ _ ?_
  clear hK K
  obtain ⟨k, hk⟩ : ∃ k : Nat, (p : Int) % (T.length : Int) = (k : Int) := ⟨p % T.length, by rw [Int.natCast_emod]⟩
  have hkn : k < T.length := by
    have := Int.emod_lt_of_pos (p : Int) (show (0 : Int) < T.length by omega)
    omega
  have hTne : ¬ (T.length : Int) = 0 := by omega
  refine cv_seq_k fun K hK => ?_
  refine cv_region_then rfl ?_
  simp -implicitDefEqProofs (disch := first | omega | decide) only [seval, -Int.reducePow, -Nat.reducePow, cC, pv, binv, sHLTx2, undef, Int.toNat_natCast, List.length_take, List.length_drop, List.length_append, List.length_cons, List.length_nil, List.drop_zero, List.take_length, hk]
  refine hK _ _ ?_
  clear hK K
  refine cv_gen fun G1 hG => ?_
  have g1_3 := congrFun hG 3
  have g1_4 := congrFun hG 4
  have g1_11 := congrFun hG 11
  have g1_12 := congrFun hG 12
  have g1_13 := congrFun hG 13
  have g1_14 := congrFun hG 14
  have g1_15 := congrFun hG 15
  have g1_16 := congrFun hG 16
  clear hG
  try simp -implicitDefEqProofs (disch := first | omega | decide) only [seval, -Int.reducePow, -Nat.reducePow, cC, pv, binv, sHLTx2, undef, Int.toNat_natCast, List.length_take, List.length_drop, List.length_append, List.length_cons, List.length_nil, List.drop_zero, List.take_length] at g1_3 g1_4 g1_11 g1_12 g1_13 g1_14 g1_15 g1_16
  have g1 := And.intro g1_3 (And.intro g1_4 (And.intro g1_11 (And.intro g1_12 (And.intro g1_13 (And.intro g1_14 (And.intro g1_15 g1_16))))))
  refine cv_seq_k fun K hK => ?_
  refine cv_cut (fun _ _ => True) (fun F' L' => ∃ (T2 : List Nat), F' 11 = G1 11 ∧ F' 12 = G1 12 ∧ F' 13 = G1 13 ∧ F' 14 = G1 14 ∧ F' 15 = .string (bstr T2) ∧ L' = [] ∧ (∀ x ∈ T2, x < 256) ∧ T2.length ≤ 100) ?_ ?_
  · refine cv_seq_k fun K hK => ?_
    refine cv_region_then rfl ?_
    simp -implicitDefEqProofs (disch := first | omega | decide) only [seval, -Int.reducePow, -Nat.reducePow, cC, pv, binv, sHLTx2, undef, Int.toNat_natCast, List.length_take, List.length_drop, List.length_append, List.length_cons, List.length_nil, List.drop_zero, List.take_length, hmm, g1]
    refine hK _ _ ?_
    clear hK K
    refine cv_block ?_
    rcases hm3 with rfl | rfl | rfl
    · refine cv_seq_k fun K hK => ?_
      refine cv_region_then rfl ?_
      simp -implicitDefEqProofs (disch := first | omega | decide) only [seval, -Int.reducePow, -Nat.reducePow, cC, pv, binv, sHLTx2, undef, Int.toNat_natCast, List.length_take, List.length_drop, List.length_append, List.length_cons, List.length_nil, List.drop_zero, List.take_length, g1]
      refine hK _ _ ?_
      clear hK K
      refine cv_cond ?_
      simp -implicitDefEqProofs (disch := first | omega | decide) only [seval, -Int.reducePow, -Nat.reducePow, cC, pv, binv, sHLTx2, undef, Int.toNat_natCast, List.length_take, List.length_drop, List.length_append, List.length_cons, List.length_nil, List.drop_zero, List.take_length, g1]
      refine cv_q ?_
      refine cv_draw_of (pickL [] _) (fun w hw => hw.pick (by decide)) (by simp only [pickL, nth, suf_cons, suf_nil, List.mem_cons, true_or, or_true, and_true, eq_self]) [(true, 0), (true, 1), (true, 2), (true, 3), (true, 4), (true, 5), (true, 6), (true, 7), (true, 8), (true, 9), (true, 10), (true, 11), (true, 12), (true, 13)] [] mixA rfl (by kernel_rfl) (by kernel_rfl) rfl rfl ?_
      simp -implicitDefEqProofs (disch := first | omega | decide) only [seval, -Int.reducePow, -Nat.reducePow, cC, pv, binv, sHLTx2, undef, Int.toNat_natCast, List.length_take, List.length_drop, List.length_append, List.length_cons, List.length_nil, List.drop_zero, List.take_length, ex, g1]
      refine rx_rn .i32 r (by kernel_rfl) (by kernel_rfl) (by simp -implicitDefEqProofs (disch := first | omega | decide) only [seval, -Int.reducePow, -Nat.reducePow, cC, pv, binv, sHLTx2, undef, Int.toNat_natCast, List.length_take, List.length_drop, List.length_append, List.length_cons, List.length_nil, List.drop_zero, List.take_length, ex, g1]; rfl) hr128 ?_
      simp -implicitDefEqProofs (disch := first | omega | decide) only [seval, -Int.reducePow, -Nat.reducePow, cC, pv, binv, sHLTx2, undef, Int.toNat_natCast, List.length_take, List.length_drop, List.length_append, List.length_cons, List.length_nil, List.drop_zero, List.take_length, ex, g1]
      exact ⟨_, rfl, (bytes3 hbT hr128 k (k + 1)).1, by simp; omega⟩
    · refine cv_seq_k fun K hK => ?_
      refine cv_region_then rfl ?_
      simp -implicitDefEqProofs (disch := first | omega | decide) only [seval, -Int.reducePow, -Nat.reducePow, cC, pv, binv, sHLTx2, undef, Int.toNat_natCast, List.length_take, List.length_drop, List.length_append, List.length_cons, List.length_nil, List.drop_zero, List.take_length, g1]
      refine hK _ _ ?_
      clear hK K
      refine cv_cond ?_
      simp -implicitDefEqProofs (disch := first | omega | decide) only [seval, -Int.reducePow, -Nat.reducePow, cC, pv, binv, sHLTx2, undef, Int.toNat_natCast, List.length_take, List.length_drop, List.length_append, List.length_cons, List.length_nil, List.drop_zero, List.take_length, g1]
      refine cv_seq_k fun K hK => ?_
      refine cv_region_then rfl ?_
      simp -implicitDefEqProofs (disch := first | omega | decide) only [seval, -Int.reducePow, -Nat.reducePow, cC, pv, binv, sHLTx2, undef, Int.toNat_natCast, List.length_take, List.length_drop, List.length_append, List.length_cons, List.length_nil, List.drop_zero, List.take_length, g1]
      refine hK _ _ ?_
      clear hK K
      refine cv_cond ?_
      simp -implicitDefEqProofs (disch := first | omega | decide) only [seval, -Int.reducePow, -Nat.reducePow, cC, pv, binv, sHLTx2, undef, Int.toNat_natCast, List.length_take, List.length_drop, List.length_append, List.length_cons, List.length_nil, List.drop_zero, List.take_length, g1]
      refine cv_q ?_
      refine cv_draw_of (pickL [] _) (fun w hw => hw.pick (by decide)) (by simp only [pickL, nth, suf_cons, suf_nil, List.mem_cons, true_or, or_true, and_true, eq_self]) [(true, 0), (true, 1), (true, 2), (true, 3), (true, 4), (true, 5), (true, 6), (true, 7), (true, 8), (true, 9), (true, 10), (true, 11), (true, 12)] [] mixA rfl (by kernel_rfl) (by kernel_rfl) rfl rfl ?_
      simp -implicitDefEqProofs (disch := first | omega | decide) only [seval, -Int.reducePow, -Nat.reducePow, cC, pv, binv, sHLTx2, undef, Int.toNat_natCast, List.length_take, List.length_drop, List.length_append, List.length_cons, List.length_nil, List.drop_zero, List.take_length, ex, g1]
      refine rx_rn .i32 r (by kernel_rfl) (by kernel_rfl) (by simp -implicitDefEqProofs (disch := first | omega | decide) only [seval, -Int.reducePow, -Nat.reducePow, cC, pv, binv, sHLTx2, undef, Int.toNat_natCast, List.length_take, List.length_drop, List.length_append, List.length_cons, List.length_nil, List.drop_zero, List.take_length, ex, g1]; rfl) hr128 ?_
      simp -implicitDefEqProofs (disch := first | omega | decide) only [seval, -Int.reducePow, -Nat.reducePow, cC, pv, binv, sHLTx2, undef, Int.toNat_natCast, List.length_take, List.length_drop, List.length_append, List.length_cons, List.length_nil, List.drop_zero, List.take_length, ex, g1]
      exact ⟨_, rfl, (bytes3 hbT hr128 k k).1, by simp; omega⟩
    · refine cv_seq_k fun K hK => ?_
      refine cv_region_then rfl ?_
      simp -implicitDefEqProofs (disch := first | omega | decide) only [seval, -Int.reducePow, -Nat.reducePow, cC, pv, binv, sHLTx2, undef, Int.toNat_natCast, List.length_take, List.length_drop, List.length_append, List.length_cons, List.length_nil, List.drop_zero, List.take_length, g1]
      refine hK _ _ ?_
      clear hK K
      refine cv_cond ?_
      simp -implicitDefEqProofs (disch := first | omega | decide) only [seval, -Int.reducePow, -Nat.reducePow, cC, pv, binv, sHLTx2, undef, Int.toNat_natCast, List.length_take, List.length_drop, List.length_append, List.length_cons, List.length_nil, List.drop_zero, List.take_length, g1]
      refine cv_seq_k fun K hK => ?_
      refine cv_region_then rfl ?_
      simp -implicitDefEqProofs (disch := first | omega | decide) only [seval, -Int.reducePow, -Nat.reducePow, cC, pv, binv, sHLTx2, undef, Int.toNat_natCast, List.length_take, List.length_drop, List.length_append, List.length_cons, List.length_nil, List.drop_zero, List.take_length, g1]
      refine hK _ _ ?_
      clear hK K
      refine cv_cond ?_
      simp -implicitDefEqProofs (disch := first | omega | decide) only [seval, -Int.reducePow, -Nat.reducePow, cC, pv, binv, sHLTx2, undef, Int.toNat_natCast, List.length_take, List.length_drop, List.length_append, List.length_cons, List.length_nil, List.drop_zero, List.take_length, g1]
      refine cv_seq_k fun K hK => ?_
      refine cv_region_then rfl ?_
      simp -implicitDefEqProofs (disch := first | omega | decide) only [seval, -Int.reducePow, -Nat.reducePow, cC, pv, binv, sHLTx2, undef, Int.toNat_natCast, List.length_take, List.length_drop, List.length_append, List.length_cons, List.length_nil, List.drop_zero, List.take_length, g1]
      refine hK _ _ ?_
      clear hK K
      refine cv_cond ?_
      simp -implicitDefEqProofs (disch := first | omega | decide) only [seval, -Int.reducePow, -Nat.reducePow, cC, pv, binv, sHLTx2, undef, Int.toNat_natCast, List.length_take, List.length_drop, List.length_append, List.length_cons, List.length_nil, List.drop_zero, List.take_length, g1]
      refine cv_q ?_
      refine cv_draw_of (pickL [] _) (fun w hw => hw.pick (by decide)) (by simp only [pickL, nth, suf_cons, suf_nil, List.mem_cons, true_or, or_true, and_true, eq_self]) [(true, 0), (true, 1), (true, 2), (true, 3), (true, 4), (true, 5), (true, 6), (true, 7), (true, 8)] [] mixA rfl (by kernel_rfl) (by kernel_rfl) rfl rfl ?_
      simp -implicitDefEqProofs (disch := first | omega | decide) only [seval, -Int.reducePow, -Nat.reducePow, cC, pv, binv, sHLTx2, undef, Int.toNat_natCast, List.length_take, List.length_drop, List.length_append, List.length_cons, List.length_nil, List.drop_zero, List.take_length, g1]
      exact ⟨_, rfl, (bytes3 hbT hr128 k (k + 1)).2, by simp; omega⟩
  intro G2 L' _ hF
  obtain ⟨T2, q11, q12, q13, q14, q15, rfl, ⟨hb2, hl2⟩⟩ := hF
  have g2_11 := q11.trans g1_11
  have g2_12 := q12.trans g1_12
  have g2_13 := q13.trans g1_13
  have g2_14 := q14.trans g1_14
  have g2_15 := q15
  clear q11 q12 q13 q14 q15
  have g2 := And.intro g2_11 (And.intro g2_12 (And.intro g2_13 (And.intro g2_14 g2_15)))
  refine hK _ _ ?_
  clear hK K
  obtain ⟨u2, z2, hp2⟩ := prV_two (prsF T2)
  have hpr2 := fun W hv => parse_any T2 (by omega) hb2 W hv
  have hrp2 := fun W => rparse_any T2 (by omega) hb2 W
  rw [hp2] at hpr2 hrp2
  refine cv_seq_k fun K hK => ?_
  refine cv_region_then rfl ?_
  simp -implicitDefEqProofs (disch := first | omega | decide) only [seval, -Int.reducePow, -Nat.reducePow, cC, pv, binv, sHLTx2, undef, Int.toNat_natCast, List.length_take, List.length_drop, List.length_append, List.length_cons, List.length_nil, List.drop_zero, List.take_length, g2]
  refine callV_ret (fun w hw => hpr2 w (hv.at hw)) ?_
  try simp -implicitDefEqProofs (disch := first | omega | decide) only [seval, -Int.reducePow, -Nat.reducePow, cC, pv, binv, sHLTx2, undef, Int.toNat_natCast, List.length_take, List.length_drop, List.length_append, List.length_cons, List.length_nil, List.drop_zero, List.take_length, g2]
  refine hK _ _ ?_
  clear hK K
  refine cv_seq_k fun K hK => ?_
  refine cv_region_then rfl ?_
  simp -implicitDefEqProofs (disch := first | omega | decide) only [seval, -Int.reducePow, -Nat.reducePow, cC, pv, binv, sHLTx2, undef, Int.toNat_natCast, List.length_take, List.length_drop, List.length_append, List.length_cons, List.length_nil, List.drop_zero, List.take_length, g2]
  refine callV_ret (fun w hw => hrp2 w) ?_
  try simp -implicitDefEqProofs (disch := first | omega | decide) only [seval, -Int.reducePow, -Nat.reducePow, cC, pv, binv, sHLTx2, undef, Int.toNat_natCast, List.length_take, List.length_drop, List.length_append, List.length_cons, List.length_nil, List.drop_zero, List.take_length, g2]
  refine hK _ _ ?_
  clear hK K
  refine cv_seq_k fun K hK => ?_
  refine cv_region_then rfl ?_
  simp -implicitDefEqProofs (disch := first | omega | decide) only [seval, -Int.reducePow, -Nat.reducePow, cC, pv, binv, sHLTx2, undef, Int.toNat_natCast, List.length_take, List.length_drop, List.length_append, List.length_cons, List.length_nil, List.drop_zero, List.take_length, g2]
  refine callV_ret (fun w hw => awake_any w) ?_
  try simp -implicitDefEqProofs (disch := first | omega | decide) only [seval, -Int.reducePow, -Nat.reducePow, cC, pv, binv, sHLTx2, undef, Int.toNat_natCast, List.length_take, List.length_drop, List.length_append, List.length_cons, List.length_nil, List.drop_zero, List.take_length, g2]
  refine hK _ _ ?_
  clear hK K
  refine cv_ret ⟨_, (by simp -implicitDefEqProofs (disch := first | omega | decide) only [seval, -Int.reducePow, -Nat.reducePow, cC, pv, binv, sHLTx2, undef, Int.toNat_natCast, List.length_take, List.length_drop, List.length_append, List.length_cons, List.length_nil, List.drop_zero, List.take_length, g2]; rfl), fun w hw => ?_⟩
  exact ⟨rfl, hw.below⟩
end Go.Proofs.YtddofamkmcgfmaaDoor
