/- The arena's code that reads bytes. -/
import Derived.Test.YtfaanphjaghbpaaArCode
import Derived.Test.YtfaanphjaghbpaaArNum
namespace Go.Proofs.Ytfaanphjaghbpaa
open Go.RowKit Go.Shelf
set_option linter.unusedVariables false
set_option linter.unusedSimpArgs false
set_option maxRecDepth 100000
theorem within_any (A : Option Addr) (n c : Nat) (off k : Int) (W : World) (hk : 0 ≤ k) (hn : n ≤ 9223372036854775807) : Calls Try.prog 37 #[.slice A n c, .int .i64 off, .int .i64 k] W
    fun e w' => e = .returned (.bool (decide (0 ≤ off ∧ k ≤ n ∧ off ≤ n - k))) ∧ Below W.heap.size W w' := by
  refine calls_cv (M := []) (n := 23) [.tmp 6] rfl Try.func37 rfl rfl (Nat.le_of_ble_eq_true rfl) (St.nil _ _) ?_
  refine cv_seq_k fun K hK => ?_
  refine cv_region_then rfl ?_
  simp -implicitDefEqProofs (disch := first | omega | decide) only [seval, -Int.reducePow, -Nat.reducePow, cC, pv, binv]
  refine hK _ _ ?_
  clear hK K
  by_cases a1 : 0 ≤ off
  · have a1' : decide (0 ≤ off) = true := decide_eq_true a1
    by_cases a2 : k ≤ n
    · have a2' : decide (k ≤ (n : Int)) = true := decide_eq_true a2
      have w1 : IntKind.i64.wrap ((n : Int) - k) = (n : Int) - k := wrap_in (by omega) (by omega)
      refine cv_seq_k fun K hK => ?_
      refine cv_region_then rfl ?_
      simp -implicitDefEqProofs (disch := first | omega | decide) only [seval, -Int.reducePow, -Nat.reducePow, cC, pv, binv, a1', a2', w1]
      refine hK _ _ ?_
      clear hK K
      refine cv_ret ⟨_, (by simp -implicitDefEqProofs (disch := first | omega | decide) only [seval, -Int.reducePow, -Nat.reducePow, cC, pv, binv]; rfl), fun w hw => ?_⟩
      exact ⟨by rw [show decide (0 ≤ off ∧ k ≤ (n : Int) ∧ off ≤ (n : Int) - k) = decide (off ≤ (n : Int) - k) by simp [a1, a2]], hw.below⟩
    · have a2' : decide (k ≤ (n : Int)) = false := decide_eq_false a2
      refine cv_seq_k fun K hK => ?_
      refine cv_region_then rfl ?_
      simp -implicitDefEqProofs (disch := first | omega | decide) only [seval, -Int.reducePow, -Nat.reducePow, cC, pv, binv, a1', a2']
      refine hK _ _ ?_
      clear hK K
      refine cv_ret ⟨_, (by simp -implicitDefEqProofs (disch := first | omega | decide) only [seval, -Int.reducePow, -Nat.reducePow, cC, pv, binv]; rfl), fun w hw => ?_⟩
      exact ⟨by rw [decide_eq_false fun h => a2 h.2.1], hw.below⟩
  · have a1' : decide (0 ≤ off) = false := decide_eq_false a1
    refine cv_seq_k fun K hK => ?_
    refine cv_region_then rfl ?_
    simp -implicitDefEqProofs (disch := first | omega | decide) only [seval, -Int.reducePow, -Nat.reducePow, cC, pv, binv, a1']
    refine hK _ _ ?_
    clear hK K
    refine cv_ret ⟨_, (by simp -implicitDefEqProofs (disch := first | omega | decide) only [seval, -Int.reducePow, -Nat.reducePow, cC, pv, binv]; rfl), fun w hw => ?_⟩
    exact ⟨by rw [decide_eq_false fun h => a1 h.1], hw.below⟩
/-- An extent that is taken, by numbers. -/
theorem Ex.Inv.nat {N : Nat} {us fr : List Ext} {tk : List (Int × Int)} (h : Ex.Inv (N : Int) us fr tk) {e : Ext} (he : e ∈ us) : ∃ o l : Nat, e = ⟨(o : Int), (l : Int)⟩ ∧ 0 < l ∧ o + l ≤ N := by
  obtain ⟨hp, hN⟩ := h.prop e he
  unfold Ext.prop at hp
  exact ⟨e.off.toNat, e.len.toNat, by cases e; simp at *; omega, by omega, by omega⟩
set_option maxRecDepth 100000 in
theorem sArRead1 : type_of% (And.intro (And.intro (And.intro @eBox.eq_1 @exV.eq_1) (And.intro @alL.eq_1 @arL.eq_1)) (And.intro (And.intro @Nat.mul_one @wrap_in) (And.intro @cMp @cM))) := (And.intro (And.intro (And.intro @eBox.eq_1 @exV.eq_1) (And.intro @alL.eq_1 @arL.eq_1)) (And.intro (And.intro @Nat.mul_one @wrap_in) (And.intro @cMp @cM)))
section
variable (x : ArR) (us : List Ext) (W : World)
set_option maxHeartbeats 1000000 in
theorem arSlice_no (e : Ext) (h : ArW W W.heap.size x) (hI : Ex.Inv (x.N : Int) us x.al.fr x.al.tk) (he : e ∉ us) : Calls Try.prog 36 #[.pointer (some ⟨x.bR, 0, none⟩), exV e] W
    fun en w' => en = .returned (.tuple #[.slice none 0 0, .int .i64 6]) ∧ Below W.heap.size W w' := by
  have hn : decide (mget x.al.tk e.off = some e.len) = false := decide_eq_false fun h => he ((hI.has e).1 h)
  refine calls_cv (M := []) (n := 23) [.tmp 4, .tmp 5] rfl Try.func36 rfl rfl (Nat.le_of_ble_eq_true rfl) (St.nil _ _) ?_
  refine cv_seq_k fun K hK => ?_
  refine cv_region_then rfl ?_
  simp -implicitDefEqProofs (disch := first | omega | decide) only [seval, -Int.reducePow, -Nat.reducePow, cC, pv, binv, sArRead1, undef]
  intro b3 hb3
  refine hK _ _ ?_
  clear hK K
  refine cv_seq_k fun K hK => ?_
  refine cv_seq_k fun K hK => ?_
  refine cv_draw_of (pickL [0] _) (fun w hw => hw.pick (by decide)) (by simp only [pickL, nth, suf_cons, suf_nil, List.mem_cons, true_or, or_true, and_true, eq_self]) [(true, 0), (true, 2), (false, 1), (false, 3), (true, 4)] [] mixA rfl (by kernel_rfl) (by kernel_rfl) rfl rfl ?_
  simp -implicitDefEqProofs (disch := first | omega | decide) only [seval, -Int.reducePow, -Nat.reducePow, cC, pv, binv, sArRead1, undef]
  refine callV_ret (fun w hw => parts_any x w (h.at hw)) ?_
  try simp -implicitDefEqProofs (disch := first | omega | decide) only [seval, -Int.reducePow, -Nat.reducePow, cC, pv, binv, sArRead1, undef]
  refine callV_ret (fun w hw => aHas_any x.al e w (h.at hw).al) ?_
  try simp -implicitDefEqProofs (disch := first | omega | decide) only [seval, -Int.reducePow, -Nat.reducePow, cC, pv, binv, sArRead1, undef, hn]
  refine hK _ _ ?_
  clear hK K
  refine cv_cond ?_
  simp -implicitDefEqProofs (disch := first | omega | decide) only [seval, -Int.reducePow, -Nat.reducePow, cC, pv, binv, sArRead1, undef]
  refine cv_seq_k fun K hK => ?_
  refine cv_region_then rfl ?_
  simp -implicitDefEqProofs (disch := first | omega | decide) only [seval, -Int.reducePow, -Nat.reducePow, cC, pv, binv, sArRead1, undef]
  refine hK _ _ ?_
  clear hK K
  refine cv_ret ⟨_, (by simp -implicitDefEqProofs (disch := first | omega | decide) only [seval, -Int.reducePow, -Nat.reducePow, cC, pv, binv, sArRead1, undef]; rfl), fun w hw => ?_⟩
  exact ⟨rfl, hw.below⟩
set_option maxHeartbeats 1000000 in
theorem arSlice_yes (o l : Nat) (h : ArW W W.heap.size x) (hI : Ex.Inv (x.N : Int) us x.al.fr x.al.tk) (he : (⟨(o : Int), (l : Int)⟩ : Ext) ∈ us) (hl : 0 < l) (hN : o + l ≤ x.N) : Calls Try.prog 36 #[.pointer (some ⟨x.bR, 0, none⟩), .agg #[.int .i64 (o : Int), .int .i64 (l : Int)]] W
    fun en w' => en = .returned (.tuple #[.slice (some ⟨x.bB, o, none⟩) l (x.N - o), .int .i64 0]) ∧ Below W.heap.size W w' := by
  have hn : decide (mget x.al.tk o = some (l : Int)) = true := decide_eq_true ((hI.has ⟨o, l⟩).2 he)
  have hbR := h.lt
  have h20 := h.len
  have hsb : sbase x.N o 1 (some ⟨x.bB, 0, none⟩) = some ⟨x.bB, o, none⟩ := by rw [sbase_some (by omega), Addr.add_lit]; simp
  have hto : ((o : Int) + (l : Int)).toNat - o = l := by omega
  refine calls_cv (M := []) (n := 23) [.tmp 4, .tmp 5] rfl Try.func36 rfl rfl (Nat.le_of_ble_eq_true rfl) (St.nil _ _) ?_
  refine cv_seq_k fun K hK => ?_
  refine cv_region_then rfl ?_
  simp -implicitDefEqProofs (disch := first | omega | decide) only [seval, -Int.reducePow, -Nat.reducePow, cC, pv, binv, sArRead1, undef]
  intro b3 hb3
  refine hK _ _ ?_
  clear hK K
  refine cv_seq_k fun K hK => ?_
  refine cv_seq_k fun K hK => ?_
  refine cv_draw_of (pickL [0] _) (fun w hw => hw.pick (by decide)) (by simp only [pickL, nth, suf_cons, suf_nil, List.mem_cons, true_or, or_true, and_true, eq_self]) [(true, 0), (true, 2), (false, 1), (false, 3), (true, 4)] [] mixA rfl (by kernel_rfl) (by kernel_rfl) rfl rfl ?_
  simp -implicitDefEqProofs (disch := first | omega | decide) only [seval, -Int.reducePow, -Nat.reducePow, cC, pv, binv, sArRead1, undef]
  refine callV_ret (fun w hw => parts_any x w (h.at hw)) ?_
  try simp -implicitDefEqProofs (disch := first | omega | decide) only [seval, -Int.reducePow, -Nat.reducePow, cC, pv, binv, sArRead1, undef]
  refine callV_ret (fun w hw => aHas_any x.al ⟨(o : Int), (l : Int)⟩ w (h.at hw).al) ?_
  try simp -implicitDefEqProofs (disch := first | omega | decide) only [seval, -Int.reducePow, -Nat.reducePow, cC, pv, binv, sArRead1, undef, hn]
  refine hK _ _ ?_
  clear hK K
  refine cv_cond ?_
  simp -implicitDefEqProofs (disch := first | omega | decide) only [seval, -Int.reducePow, -Nat.reducePow, cC, pv, binv, sArRead1, undef]
  refine cv_skip ?_
  try simp only [blockQ, thenQ]
  refine hK _ _ ?_
  clear hK K
  refine cv_seq_k fun K hK => ?_
  refine cv_draw_of (pickL [0] _) (fun w hw => hw.pick (by decide)) (by simp only [pickL, nth, suf_cons, suf_nil, List.mem_cons, true_or, or_true, and_true, eq_self]) [(true, 0), (true, 1), (true, 2), (true, 3), (true, 4), (true, 5), (true, 6), (true, 7), (true, 8), (true, 9), (true, 10), (true, 11), (true, 12), (true, 13)] [] mixA rfl (by kernel_rfl) (by kernel_rfl) rfl rfl ?_
  simp -implicitDefEqProofs (disch := first | omega | decide) only [seval, -Int.reducePow, -Nat.reducePow, cC, pv, binv, sArRead1, undef]
  refine ⟨_, h.blk.ld1 (m := 1) (i := 1) (by kernel_rfl) rfl, fun tok htok => ?_⟩
  subst htok
  simp -implicitDefEqProofs (disch := first | omega | decide) only [seval, -Int.reducePow, -Nat.reducePow, cC, pv, binv, sArRead1, undef, hsb, hto]
  refine hK _ _ ?_
  clear hK K
  refine cv_ret ⟨_, (by simp -implicitDefEqProofs (disch := first | omega | decide) only [seval, -Int.reducePow, -Nat.reducePow, cC, pv, binv, sArRead1, undef]; rfl), fun w hw => ?_⟩
  exact ⟨rfl, hw.below⟩
def fErr (us : List Ext) (e : Ext) (k w : Int) : Int := if e ∈ us then (if w = 1 ∨ w = 2 ∨ w = 4 ∨ w = 8 then (if 0 ≤ k ∧ w ≤ e.len ∧ k ≤ e.len - w then 0 else 7) else 1) else 6
def fV (x : ArR) (e : Ext) (k w f : Int) : Value := if f = 0 then .slice (some ⟨x.bB, (e.off + k).toNat, none⟩) w.toNat (x.N - (e.off + k).toNat) else .slice none 0 0
set_option maxHeartbeats 1000000 in
theorem field_any (e : Ext) (k wd : Int) (h : ArW W W.heap.size x) (hI : Ex.Inv (x.N : Int) us x.al.fr x.al.tk) : Calls Try.prog 35 #[.pointer (some ⟨x.bR, 0, none⟩), exV e, .int .i64 k, .int .i64 wd] W
    fun en w' => en = .returned (.tuple #[fV x e k wd (fErr us e k wd), .int .i64 (fErr us e k wd)]) ∧ Below W.heap.size W w' := by
  have hbR := h.lt
  have h20 := h.len
  obtain ⟨F, hF⟩ : ∃ F, fErr us e k wd = F := ⟨_, rfl⟩
  have hF2 := hF
  unfold fErr at hF2
  refine calls_cv (M := []) (n := 46) [.tmp 8, .tmp 9] rfl Try.func35 rfl rfl (Nat.le_of_ble_eq_true rfl) (St.nil _ _) ?_
  refine cv_seq_k fun K hK => ?_
  refine cv_region_then rfl ?_
  simp -implicitDefEqProofs (disch := first | omega | decide) only [seval, -Int.reducePow, -Nat.reducePow, cC, pv, binv, sArRead1, undef]
  intro b5 hb5
  refine hK _ _ ?_
  clear hK K
  by_cases he : e ∈ us
  · rw [if_pos he] at hF2
    obtain ⟨o, l, rfl, hl, hN⟩ := hI.nat he
    dsimp only at hF2
    refine cv_seq_k fun K hK => ?_
    refine cv_region_then rfl ?_
    simp -implicitDefEqProofs (disch := first | omega | decide) only [seval, -Int.reducePow, -Nat.reducePow, cC, pv, binv, sArRead1, undef]
    refine callV_ret (fun w hw => arSlice_yes x us w o l (h.at hw) hI he hl hN) ?_
    try simp -implicitDefEqProofs (disch := first | omega | decide) only [seval, -Int.reducePow, -Nat.reducePow, cC, pv, binv, sArRead1, undef]
    refine hK _ _ ?_
    clear hK K
    refine cv_seq_k fun K hK => ?_
    refine cv_seq_k fun K hK => ?_
    refine cv_region_then rfl ?_
    simp -implicitDefEqProofs (disch := first | omega | decide) only [seval, -Int.reducePow, -Nat.reducePow, cC, pv, binv, sArRead1, undef]
    refine hK _ _ ?_
    clear hK K
    refine cv_cond ?_
    simp -implicitDefEqProofs (disch := first | omega | decide) only [seval, -Int.reducePow, -Nat.reducePow, cC, pv, binv, sArRead1, undef]
    refine cv_skip ?_
    try simp only [blockQ, thenQ]
    refine hK _ _ ?_
    clear hK K
    refine cv_gen fun G1 hG => ?_
    have g1_2 := congrFun hG 2
    have g1_3 := congrFun hG 3
    have g1_10 := congrFun hG 10
    clear hG
    try simp -implicitDefEqProofs (disch := first | omega | decide) only [seval, -Int.reducePow, -Nat.reducePow, cC, pv, binv, sArRead1, undef] at g1_2 g1_3 g1_10
    have g1 := And.intro g1_2 (And.intro g1_3 g1_10)
    refine cv_seq_k fun K hK => ?_
    refine cv_seq_k fun K hK => ?_
    refine cv_cut (fun _ _ => True) (fun F' L' => F' 2 = G1 2 ∧ F' 3 = G1 3 ∧ F' 10 = G1 10 ∧ F' 34 = .bool (decide (¬ (wd = 1 ∨ wd = 2 ∨ wd = 4 ∨ wd = 8))) ∧ L' = [eBox b5 ⟨(o : Int), (l : Int)⟩]) ?_ ?_
    · refine cv_region_then rfl ?_
      simp -implicitDefEqProofs (disch := first | omega | decide) only [seval, -Int.reducePow, -Nat.reducePow, cC, pv, binv, sArRead1, undef, g1]
      repeat' ((first | refine vcg_cases (fun hg => ?_) (fun hg => ?_) | refine vdg_cases (fun hg => ?_) (fun hg => ?_)) <;> ((try simp only [Bool.not_eq_true', Bool.not_eq_false', decide_eq_true_eq, decide_eq_false_iff_not] at hg); (try simp -implicitDefEqProofs (disch := first | omega | decide) only [seval, -Int.reducePow, -Nat.reducePow, cC, pv, binv, sArRead1, undef, hg, g1])))
      all_goals (repeat' refine And.intro ?_ ?_)
      all_goals (first | with_reducible rfl | (refine congrArg Value.bool ?_; rw [Bool.eq_iff_iff]; (try simp only [decide_eq_true_eq, eq_self, true_and, and_true, false_and, and_false, true_or, or_true, false_or, or_false, not_true_eq_false, not_false_eq_true, true_iff, iff_true, false_iff, iff_false, Bool.false_eq_true, Bool.not_eq_true', Bool.not_eq_true, decide_eq_false_iff_not, Bool.and_eq_true, Bool.or_eq_true]) <;> omega) | (refine congrArg (Value.int _) ?_; omega) | omega)
    intro G2 L' _ hF
    obtain ⟨q2, q3, q10, q34, rfl⟩ := hF
    have g2_2 := q2.trans g1_2
    have g2_3 := q3.trans g1_3
    have g2_10 := q10.trans g1_10
    have g2_34 := q34
    clear q2 q3 q10 q34
    have g2 := And.intro g2_2 (And.intro g2_3 (And.intro g2_10 g2_34))
    refine hK _ _ ?_
    clear hK K
    refine cv_cond ?_
    simp -implicitDefEqProofs (disch := first | omega | decide) only [seval, -Int.reducePow, -Nat.reducePow, cC, pv, binv, sArRead1, undef, g2]
    refine ⟨fun hc => ?_, fun hc => ?_⟩
    · have q1 := of_decide_eq_true hc
      rw [if_neg q1] at hF2
      refine cv_seq_k fun K hK => ?_
      refine cv_region_then rfl ?_
      simp -implicitDefEqProofs (disch := first | omega | decide) only [seval, -Int.reducePow, -Nat.reducePow, cC, pv, binv, sArRead1, undef, g2]
      refine hK _ _ ?_
      clear hK K
      refine cv_ret ⟨_, (by simp -implicitDefEqProofs (disch := first | omega | decide) only [seval, -Int.reducePow, -Nat.reducePow, cC, pv, binv, sArRead1, undef, g2]; rfl), fun w hw => ?_⟩
      rw [hF, ← hF2]
      exact ⟨rfl, hw.below⟩
    have q1 : wd = 1 ∨ wd = 2 ∨ wd = 4 ∨ wd = 8 := Decidable.not_not.1 (of_decide_eq_false hc)
    rw [if_pos q1] at hF2
    refine cv_skip ?_
    try simp only [blockQ, thenQ]
    refine hK _ _ ?_
    clear hK K
    refine cv_seq_k fun K hK => ?_
    refine cv_seq_k fun K hK => ?_
    refine cv_region_then rfl ?_
    simp -implicitDefEqProofs (disch := first | omega | decide) only [seval, -Int.reducePow, -Nat.reducePow, cC, pv, binv, sArRead1, undef, g2]
    refine callV_ret (fun w hw => within_any (some ⟨x.bB, o, none⟩) l (x.N - o) k wd w (by omega) (by omega)) ?_
    try simp -implicitDefEqProofs (disch := first | omega | decide) only [seval, -Int.reducePow, -Nat.reducePow, cC, pv, binv, sArRead1, undef, g2]
    refine hK _ _ ?_
    clear hK K
    refine cv_cond ?_
    simp -implicitDefEqProofs (disch := first | omega | decide) only [seval, -Int.reducePow, -Nat.reducePow, cC, pv, binv, sArRead1, undef, g2]
    refine ⟨fun hc => ?_, fun hc => ?_⟩
    · have q2 := nd_true hc
      rw [if_neg q2] at hF2
      refine cv_seq_k fun K hK => ?_
      refine cv_region_then rfl ?_
      simp -implicitDefEqProofs (disch := first | omega | decide) only [seval, -Int.reducePow, -Nat.reducePow, cC, pv, binv, sArRead1, undef, g2]
      refine hK _ _ ?_
      clear hK K
      refine cv_ret ⟨_, (by simp -implicitDefEqProofs (disch := first | omega | decide) only [seval, -Int.reducePow, -Nat.reducePow, cC, pv, binv, sArRead1, undef, g2]; rfl), fun w hw => ?_⟩
      rw [hF, ← hF2]
      exact ⟨rfl, hw.below⟩
    have q2 := Decidable.not_not.1 (nd_false hc)
    rw [if_pos q2] at hF2
    obtain ⟨k, rfl⟩ : ∃ k' : Nat, k = (k' : Int) := ⟨k.toNat, by omega⟩
    obtain ⟨wn, rfl⟩ : ∃ w' : Nat, wd = (w' : Int) := ⟨wd.toNat, by omega⟩
    have hsb : sbase (x.N - o) k 1 (some ⟨x.bB, o, none⟩) = some ⟨x.bB, o + k, none⟩ := by rw [sbase_some (by omega), Addr.add_lit]; simp
    have hto : ((k : Int) + (wn : Int)).toNat - k = wn := by omega
    refine cv_skip ?_
    try simp only [blockQ, thenQ]
    refine hK _ _ ?_
    clear hK K
    refine cv_seq_k fun K hK => ?_
    refine cv_region_then rfl ?_
    simp -implicitDefEqProofs (disch := first | omega | decide) only [seval, -Int.reducePow, -Nat.reducePow, cC, pv, binv, sArRead1, undef, hsb, hto, g2]
    refine hK _ _ ?_
    clear hK K
    refine cv_ret ⟨_, (by simp -implicitDefEqProofs (disch := first | omega | decide) only [seval, -Int.reducePow, -Nat.reducePow, cC, pv, binv, sArRead1, undef, g2]; rfl), fun w hw => ?_⟩
    rw [hF, ← hF2]
    unfold fV
    rw [if_pos rfl, show ((⟨(o : Int), (l : Int)⟩ : Ext).off + (k : Int)).toNat = o + k by dsimp only; omega, show ((wn : Int)).toNat = wn by omega, show x.N - (o + k) = x.N - o - k by omega]
    exact ⟨rfl, hw.below⟩
  · rw [if_neg he] at hF2
    refine cv_seq_k fun K hK => ?_
    refine cv_region_then rfl ?_
    simp -implicitDefEqProofs (disch := first | omega | decide) only [seval, -Int.reducePow, -Nat.reducePow, cC, pv, binv, sArRead1, undef]
    refine callV_ret (fun w hw => arSlice_no x us w e (h.at hw) hI he) ?_
    try simp -implicitDefEqProofs (disch := first | omega | decide) only [seval, -Int.reducePow, -Nat.reducePow, cC, pv, binv, sArRead1, undef]
    refine hK _ _ ?_
    clear hK K
    refine cv_seq_k fun K hK => ?_
    refine cv_seq_k fun K hK => ?_
    refine cv_region_then rfl ?_
    simp -implicitDefEqProofs (disch := first | omega | decide) only [seval, -Int.reducePow, -Nat.reducePow, cC, pv, binv, sArRead1, undef]
    refine hK _ _ ?_
    clear hK K
    refine cv_cond ?_
    simp -implicitDefEqProofs (disch := first | omega | decide) only [seval, -Int.reducePow, -Nat.reducePow, cC, pv, binv, sArRead1, undef]
    refine cv_seq_k fun K hK => ?_
    refine cv_region_then rfl ?_
    simp -implicitDefEqProofs (disch := first | omega | decide) only [seval, -Int.reducePow, -Nat.reducePow, cC, pv, binv, sArRead1, undef]
    refine hK _ _ ?_
    clear hK K
    refine cv_ret ⟨_, (by simp -implicitDefEqProofs (disch := first | omega | decide) only [seval, -Int.reducePow, -Nat.reducePow, cC, pv, binv, sArRead1, undef]; rfl), fun w hw => ?_⟩
    rw [hF, ← hF2]
    exact ⟨rfl, hw.below⟩
theorem ArW.win {x : ArR} {w : World} {B : Nat} (h : ArW w B x) {p n : Nat} (hp : p + n ≤ x.N) : Sl w B 1 (some ⟨x.bB, p, none⟩) n (x.N - p) (byt ((x.bs.drop p).take n)) := by
  have hl := byt_row h.bs.len
  have h20 := h.len
  refine ⟨by rw [byt_len, List.length_take, List.length_drop]; omega, by omega, by omega, fun hn => ?_⟩
  obtain ⟨b', o', e, hb, hc⟩ := h.bs.cells (by omega)
  cases e
  refine ⟨_, _, rfl, hb, fun i v hv => ?_⟩
  have := hc (p + i) v (by
    unfold byt at hv ⊢
    rw [List.getElem?_map, List.getElem?_take] at hv
    split at hv
    · rw [List.getElem?_drop, ← List.getElem?_map] at hv
      exact hv
    · cases hv)
  rwa [Nat.zero_add] at this
def winF (bs : List Nat) (e : Ext) (k w : Int) : List Nat := (bs.drop (e.off + k).toNat).take w.toNat
def loadF (bs : List Nat) (e : Ext) (k w f : Int) : Nat := if f = 0 then leN (winF bs e k w) else 0
theorem winF_lt {bs : List Nat} (hb : ∀ b ∈ bs, b < 256) (e : Ext) (k w : Int) : ∀ b ∈ winF bs e k w, b < 256 := fun b h => hb b (List.mem_of_mem_drop (List.mem_of_mem_take h))
/-- Where the field's bytes lie. -/
theorem fErr_ok {x : ArR} {us fr : List Ext} {tk : List (Int × Int)} (hI : Ex.Inv (x.N : Int) us fr tk) {e : Ext} {k w : Int} (h : fErr us e k w = 0) : ∃ p n : Nat, (e.off + k).toNat = p ∧ w = (n : Int) ∧ p + n ≤ x.N ∧ (n = 1 ∨ n = 2 ∨ n = 4 ∨ n = 8) ∧ e ∈ us ∧ 0 ≤ k ∧ k + w ≤ e.len ∧ e.off + k = (p : Int) := by
  unfold fErr at h
  split at h
  · rename_i he
    split at h
    · rename_i hw
      split at h
      · rename_i hk
        obtain ⟨hp, hN⟩ := hI.prop e he
        unfold Ext.prop at hp
        exact ⟨(e.off + k).toNat, w.toNat, rfl, by omega, by omega, by omega, he, by omega, by omega, by omega⟩
      · cases h
    · cases h
  · cases h
set_option maxHeartbeats 1000000 in
theorem arLoad_any (e : Ext) (k wd : Int) (h : ArW W W.heap.size x) (hI : Ex.Inv (x.N : Int) us x.al.fr x.al.tk) (hb : ∀ b ∈ x.bs, b < 256) : Calls Try.prog 14 #[.pointer (some ⟨x.bR, 0, none⟩), exV e, .int .i64 k, .int .i64 wd] W
    fun en w' => en = .returned (.tuple #[.int .u64 (loadF x.bs e k wd (fErr us e k wd) : Int), .int .i64 (fErr us e k wd)]) ∧ Below W.heap.size W w' := by
  have hln := byt_row h.bs.len
  obtain ⟨F, hF⟩ : ∃ F, fErr us e k wd = F := ⟨_, rfl⟩
  have hok := fun h => fErr_ok (x := x) hI (e := e) (k := k) (w := wd) h
  rw [hF] at hok
  refine calls_cv (M := []) (n := 40) [.tmp 8, .tmp 9] rfl Try.func14 rfl rfl (Nat.le_of_ble_eq_true rfl) (St.nil _ _) ?_
  refine cv_seq_k fun K hK => ?_
  refine cv_region_then rfl ?_
  simp -implicitDefEqProofs (disch := first | omega | decide) only [seval, -Int.reducePow, -Nat.reducePow, cC, pv, binv, sArRead1, undef]
  intro b5 hb5
  refine hK _ _ ?_
  clear hK K
  refine cv_seq_k fun K hK => ?_
  refine cv_region_then rfl ?_
  simp -implicitDefEqProofs (disch := first | omega | decide) only [seval, -Int.reducePow, -Nat.reducePow, cC, pv, binv, sArRead1, undef]
  refine callV_ret (fun w hw => field_any x us w e k wd (h.at hw) hI) ?_
  try simp -implicitDefEqProofs (disch := first | omega | decide) only [seval, -Int.reducePow, -Nat.reducePow, cC, pv, binv, sArRead1, undef, hF]
  refine hK _ _ ?_
  clear hK K
  refine cv_seq_k fun K hK => ?_
  refine cv_region_then rfl ?_
  simp -implicitDefEqProofs (disch := first | omega | decide) only [seval, -Int.reducePow, -Nat.reducePow, cC, pv, binv, sArRead1, undef]
  refine hK _ _ ?_
  clear hK K
  by_cases hz : F = 0
  · obtain ⟨p, n, hp, rfl, hpn, hn, he, -⟩ := hok hz
    have hW := h.win hpn
    have hwl := winF_lt hb e k (n : Int)
    obtain ⟨win, hwin⟩ : ∃ win, (x.bs.drop p).take n = win := ⟨_, rfl⟩
    have hwl2 : ∀ b ∈ win, b < 256 := by rw [← hwin]; exact fun b h => hb b (List.mem_of_mem_drop (List.mem_of_mem_take h))
    rw [hwin] at hW
    have hwn : win.length = n := byt_row hW.len
    obtain ⟨_, _, hcc, hbB, -⟩ := hW.cells (by omega)
    cases hcc
    have hfv : fV x e k (n : Int) F = .slice (some ⟨x.bB, p, none⟩) n (x.N - p) := by unfold fV; rw [if_pos hz, hp]; simp
    have hld : loadF x.bs e k (n : Int) F = leN win := by unfold loadF winF; rw [if_pos hz, hp, ← hwin]; simp
    refine cv_seq_k fun K hK => ?_
    refine cv_seq_k fun K hK => ?_
    refine cv_region_then rfl ?_
    simp -implicitDefEqProofs (disch := first | omega | decide) only [seval, -Int.reducePow, -Nat.reducePow, cC, pv, binv, sArRead1, undef, hfv]
    refine hK _ _ ?_
    clear hK K
    refine cv_gen fun G3 hG => ?_
    have g3_11 := congrFun hG 11
    have g3_12 := congrFun hG 12
    have g3_23 := congrFun hG 23
    have g3_24 := congrFun hG 24
    have g3_25 := congrFun hG 25
    clear hG
    try simp -implicitDefEqProofs (disch := first | omega | decide) only [seval, -Int.reducePow, -Nat.reducePow, cC, pv, binv, sArRead1, undef] at g3_11 g3_12 g3_23 g3_24 g3_25
    have g3 := And.intro g3_11 (And.intro g3_12 (And.intro g3_23 (And.intro g3_24 g3_25)))
    refine cv_block ?_
    refine cv_loop (fun F' L' => ∃ (i : Nat), F' 11 = G3 11 ∧ F' 12 = .int .u64 (leN (win.take i) : Int) ∧ F' 23 = G3 23 ∧ F' 24 = G3 24 ∧ F' 25 = .int .i64 (i : Int) ∧ L' = [eBox b5 e] ∧ i ≤ n) (fun F' L' => 20 - (intOf (F' 25)).toNat) ?_ ?_
    · refine ⟨0, ?_⟩
      simp -implicitDefEqProofs (disch := first | omega | decide) only [seval, -Int.reducePow, -Nat.reducePow, cC, pv, binv, sArRead1, undef, g3]
      exact ⟨rfl, by omega⟩
    intro G4 L' hI
    obtain ⟨i, q11, q12, q23, q24, q25, rfl, hi⟩ := hI
    have g4_11 := q11.trans g3_11
    have g4_12 := q12
    have g4_23 := q23.trans g3_23
    have g4_24 := q24.trans g3_24
    have g4_25 := q25
    clear q11 q12 q23 q24 q25
    have g4 := And.intro g4_11 (And.intro g4_12 (And.intro g4_23 (And.intro g4_24 g4_25)))
    refine cv_seq_k fun K hK => ?_
    refine cv_region_then rfl ?_
    simp -implicitDefEqProofs (disch := first | omega | decide) only [seval, -Int.reducePow, -Nat.reducePow, cC, pv, binv, sArRead1, undef, g3, g4]
    refine hK _ _ ?_
    clear hK K
    refine cv_seq_k fun K hK => ?_
    refine cv_cond ?_
    simp -implicitDefEqProofs (disch := first | omega | decide) only [seval, -Int.reducePow, -Nat.reducePow, cC, pv, binv, sArRead1, undef, g3, g4]
    refine ⟨fun hc => ?_, fun hc => ?_⟩
    · refine cv_skip ?_
      try simp only [blockQ, thenQ]
      have hit : i < n := by have := of_decide_eq_true ‹decide ((i : Int) < (n : Int)) = true›; omega
      obtain ⟨c, hc⟩ := some_of (l := win) (i := i) (by omega)
      have hc2 := hwl2 c (List.mem_of_getElem? hc)
      have hlt := leN_lt (win.take i) fun b hb => hwl2 b (List.mem_of_mem_take hb)
      rw [List.length_take, Nat.min_eq_left (by omega)] at hlt
      obtain ⟨o1, o2, o3⟩ := or_hi hlt hc2 (by omega)
      have o4 : ((8 : Int) * (i : Int)).toNat = 8 * i := by omega
      have o5 := leN_take hc
      have o6 : IntKind.u64.wrap (c : Int) = (c : Int) := IntWalk.u64_in _ (by omega)
      refine hK _ _ ?_
      clear hK K
      refine cv_seq_k fun K hK => ?_
      refine cv_block ?_
      refine cv_seq_k fun K hK => ?_
      refine cv_region_then rfl ?_
      simp -implicitDefEqProofs (disch := first | omega | decide) only [seval, -Int.reducePow, -Nat.reducePow, cC, pv, binv, sArRead1, undef, g3, g4]
      refine ⟨_, hW.ld1 (m := 1) (v := .int .u8 (c : Int)) (i := i) rfl (byt_get hc), fun tok htok => ?_⟩
      subst htok
      simp -implicitDefEqProofs (disch := first | omega | decide) only [seval, -Int.reducePow, -Nat.reducePow, cC, pv, binv, sArRead1, undef, g3, g4]
      refine hK _ _ ?_
      clear hK K
      refine cv_region_q rfl ?_
      simp -implicitDefEqProofs (disch := first | omega | decide) only [seval, -Int.reducePow, -Nat.reducePow, cC, pv, binv, sArRead1, undef, bits64, o6, o4, o1, o2, g3, g4]
      refine hK _ _ ?_
      clear hK K
      refine cv_region_then rfl ?_
      simp -implicitDefEqProofs (disch := first | omega | decide) only [seval, -Int.reducePow, -Nat.reducePow, cC, pv, binv, sArRead1, undef, wrap_in, g3, g4]
      refine ⟨⟨i + 1, ?_⟩, ?_⟩
      · simp -implicitDefEqProofs (disch := first | omega | decide) only [seval, -Int.reducePow, -Nat.reducePow, cC, pv, binv, sArRead1, undef, Int.natCast_add, o5, g3, g4]
        omega
      · simp only [intOf]; omega
    refine cv_exit ?_
    simp only [blockQ, thenQ, if_true, ite_true]
    clear hK K
    refine hK _ _ ?_
    clear hK K
    have hit : ¬ i < n := by have := of_decide_eq_false ‹decide ((i : Int) < (n : Int)) = false›; omega
    refine cv_seq_k fun K hK => ?_
    refine cv_region_then rfl ?_
    simp -implicitDefEqProofs (disch := first | omega | decide) only [seval, -Int.reducePow, -Nat.reducePow, cC, pv, binv, sArRead1, undef, g3, g4]
    refine hK _ _ ?_
    clear hK K
    refine cv_ret ⟨_, (by simp -implicitDefEqProofs (disch := first | omega | decide) only [seval, -Int.reducePow, -Nat.reducePow, cC, pv, binv, sArRead1, undef, g3, g4]; rfl), fun w hw => ?_⟩
    rw [hF, hld, List.take_of_length_le (by omega)]
    exact ⟨rfl, hw.below⟩
  · have hfv : fV x e k wd F = .slice none 0 0 := by unfold fV; rw [if_neg hz]
    have hld : loadF x.bs e k wd F = 0 := by unfold loadF; rw [if_neg hz]
    refine cv_seq_k fun K hK => ?_
    refine cv_seq_k fun K hK => ?_
    refine cv_region_then rfl ?_
    simp -implicitDefEqProofs (disch := first | omega | decide) only [seval, -Int.reducePow, -Nat.reducePow, cC, pv, binv, sArRead1, undef, hfv]
    refine hK _ _ ?_
    clear hK K
    refine cv_gen fun G5 hG => ?_
    have g5_11 := congrFun hG 11
    have g5_12 := congrFun hG 12
    have g5_23 := congrFun hG 23
    have g5_24 := congrFun hG 24
    have g5_25 := congrFun hG 25
    clear hG
    try simp -implicitDefEqProofs (disch := first | omega | decide) only [seval, -Int.reducePow, -Nat.reducePow, cC, pv, binv, sArRead1, undef] at g5_11 g5_12 g5_23 g5_24 g5_25
    have g5 := And.intro g5_11 (And.intro g5_12 (And.intro g5_23 (And.intro g5_24 g5_25)))
    refine cv_block ?_
    refine cv_loop (fun F' L' => F' 11 = G5 11 ∧ F' 12 = .int .u64 0 ∧ F' 23 = G5 23 ∧ F' 24 = G5 24 ∧ F' 25 = .int .i64 0 ∧ L' = [eBox b5 e]) (fun F' L' => 0) ?_ ?_
    · simp -implicitDefEqProofs (disch := first | omega | decide) only [seval, -Int.reducePow, -Nat.reducePow, cC, pv, binv, sArRead1, undef, g5]
    intro G6 L' hI
    obtain ⟨q11, q12, q23, q24, q25, rfl⟩ := hI
    have g6_11 := q11.trans g5_11
    have g6_12 := q12
    have g6_23 := q23.trans g5_23
    have g6_24 := q24.trans g5_24
    have g6_25 := q25
    clear q11 q12 q23 q24 q25
    have g6 := And.intro g6_11 (And.intro g6_12 (And.intro g6_23 (And.intro g6_24 g6_25)))
    refine cv_seq_k fun K hK => ?_
    refine cv_region_then rfl ?_
    simp -implicitDefEqProofs (disch := first | omega | decide) only [seval, -Int.reducePow, -Nat.reducePow, cC, pv, binv, sArRead1, undef, g5, g6]
    refine hK _ _ ?_
    clear hK K
    refine cv_seq_k fun K hK => ?_
    refine cv_cond ?_
    simp -implicitDefEqProofs (disch := first | omega | decide) only [seval, -Int.reducePow, -Nat.reducePow, cC, pv, binv, sArRead1, undef, g5, g6]
    refine cv_exit ?_
    simp only [blockQ, thenQ, if_true, ite_true]
    clear hK K
    refine hK _ _ ?_
    clear hK K
    refine cv_seq_k fun K hK => ?_
    refine cv_region_then rfl ?_
    simp -implicitDefEqProofs (disch := first | omega | decide) only [seval, -Int.reducePow, -Nat.reducePow, cC, pv, binv, sArRead1, undef, g5, g6]
    refine hK _ _ ?_
    clear hK K
    refine cv_ret ⟨_, (by simp -implicitDefEqProofs (disch := first | omega | decide) only [seval, -Int.reducePow, -Nat.reducePow, cC, pv, binv, sArRead1, undef, g5, g6]; rfl), fun w hw => ?_⟩
    rw [hF, hld]
    exact ⟨rfl, hw.below⟩
def rdErr (us : List Ext) (e : Ext) (k n : Int) : Int := if e ∈ us then (if n < 0 then 1 else if 0 ≤ k ∧ n ≤ e.len ∧ k ≤ e.len - n then 0 else 7) else 6
def rdF (bs : List Nat) (e : Ext) (k n f : Int) : List Nat := if f = 0 then winF bs e k n else []
set_option maxHeartbeats 1000000 in
theorem arRead_any (e : Ext) (k n : Int) (h : ArW W W.heap.size x) (hI : Ex.Inv (x.N : Int) us x.al.fr x.al.tk) : Calls Try.prog 16 #[.pointer (some ⟨x.bR, 0, none⟩), exV e, .int .i64 k, .int .i64 n] W
    (rowPost 5 1 (fun v => .tuple #[v, .int .i64 (rdErr us e k n)]) (byt (rdF x.bs e k n (rdErr us e k n))) W) := by
  have hbR := h.lt
  have h20 := h.len
  obtain ⟨F, hF⟩ : ∃ F, rdErr us e k n = F := ⟨_, rfl⟩
  have hF2 := hF
  unfold rdErr at hF2
  have hno : ¬ F = 0 → rdF x.bs e k n F = [] := fun h => by unfold rdF; rw [if_neg h]
  refine calls_cv (M := []) (n := 38) [.tmp 8, .tmp 9] rfl Try.func16 rfl rfl (Nat.le_of_ble_eq_true rfl) (St.nil _ _) ?_
  refine cv_seq_k fun K hK => ?_
  refine cv_region_then rfl ?_
  simp -implicitDefEqProofs (disch := first | omega | decide) only [seval, -Int.reducePow, -Nat.reducePow, cC, pv, binv, sArRead1, undef]
  intro b5 hb5
  refine hK _ _ ?_
  clear hK K
  by_cases he : e ∈ us
  · rw [if_pos he] at hF2
    obtain ⟨o, l, rfl, hl, hN⟩ := hI.nat he
    dsimp only at hF2
    refine cv_seq_k fun K hK => ?_
    refine cv_region_then rfl ?_
    simp -implicitDefEqProofs (disch := first | omega | decide) only [seval, -Int.reducePow, -Nat.reducePow, cC, pv, binv, sArRead1, undef]
    refine callV_ret (fun w hw => arSlice_yes x us w o l (h.at hw) hI he hl hN) ?_
    try simp -implicitDefEqProofs (disch := first | omega | decide) only [seval, -Int.reducePow, -Nat.reducePow, cC, pv, binv, sArRead1, undef]
    refine hK _ _ ?_
    clear hK K
    refine cv_seq_k fun K hK => ?_
    refine cv_block ?_
    refine cv_seq_k fun K hK => ?_
    refine cv_region_then rfl ?_
    simp -implicitDefEqProofs (disch := first | omega | decide) only [seval, -Int.reducePow, -Nat.reducePow, cC, pv, binv, sArRead1, undef]
    refine hK _ _ ?_
    clear hK K
    refine cv_cond ?_
    simp -implicitDefEqProofs (disch := first | omega | decide) only [seval, -Int.reducePow, -Nat.reducePow, cC, pv, binv, sArRead1, undef]
    refine cv_seq_k fun K hK => ?_
    refine cv_region_then rfl ?_
    simp -implicitDefEqProofs (disch := first | omega | decide) only [seval, -Int.reducePow, -Nat.reducePow, cC, pv, binv, sArRead1, undef]
    refine hK _ _ ?_
    clear hK K
    refine cv_cond ?_
    simp -implicitDefEqProofs (disch := first | omega | decide) only [seval, -Int.reducePow, -Nat.reducePow, cC, pv, binv, sArRead1, undef]
    refine ⟨fun hc => ?_, fun hc => ?_⟩
    · have q1 := of_decide_eq_true hc
      rw [if_pos q1] at hF2
      refine cv_seq_k fun K hK => ?_
      refine cv_region_then rfl ?_
      simp -implicitDefEqProofs (disch := first | omega | decide) only [seval, -Int.reducePow, -Nat.reducePow, cC, pv, binv, sArRead1, undef]
      refine hK _ _ ?_
      clear hK K
      refine cv_ret ⟨_, (by simp -implicitDefEqProofs (disch := first | omega | decide) only [seval, -Int.reducePow, -Nat.reducePow, cC, pv, binv, sArRead1, undef]; rfl), fun w hw => ?_⟩
      rw [hF, hno (by omega), ← hF2]
      exact ⟨none, 0, 0, rfl, ⟨rfl, .inl ⟨rfl, rfl⟩⟩, hw.below⟩
    have q1 := of_decide_eq_false hc
    rw [if_neg q1] at hF2
    refine cv_seq_k fun K hK => ?_
    refine cv_region_then rfl ?_
    simp -implicitDefEqProofs (disch := first | omega | decide) only [seval, -Int.reducePow, -Nat.reducePow, cC, pv, binv, sArRead1, undef]
    refine callV_ret (fun w hw => within_any (some ⟨x.bB, o, none⟩) l (x.N - o) k n w (by omega) (by omega)) ?_
    try simp -implicitDefEqProofs (disch := first | omega | decide) only [seval, -Int.reducePow, -Nat.reducePow, cC, pv, binv, sArRead1, undef]
    refine hK _ _ ?_
    clear hK K
    refine cv_cond ?_
    simp -implicitDefEqProofs (disch := first | omega | decide) only [seval, -Int.reducePow, -Nat.reducePow, cC, pv, binv, sArRead1, undef]
    refine ⟨fun hc => ?_, fun hc => ?_⟩
    · have q2 := nd_true hc
      rw [if_neg q2] at hF2
      refine cv_seq_k fun K hK => ?_
      refine cv_region_then rfl ?_
      simp -implicitDefEqProofs (disch := first | omega | decide) only [seval, -Int.reducePow, -Nat.reducePow, cC, pv, binv, sArRead1, undef]
      refine hK _ _ ?_
      clear hK K
      refine cv_ret ⟨_, (by simp -implicitDefEqProofs (disch := first | omega | decide) only [seval, -Int.reducePow, -Nat.reducePow, cC, pv, binv, sArRead1, undef]; rfl), fun w hw => ?_⟩
      rw [hF, hno (by omega), ← hF2]
      exact ⟨none, 0, 0, rfl, ⟨rfl, .inl ⟨rfl, rfl⟩⟩, hw.below⟩
    have q2 := Decidable.not_not.1 (nd_false hc)
    rw [if_pos q2] at hF2
    obtain ⟨k, rfl⟩ : ∃ k' : Nat, k = (k' : Int) := ⟨k.toNat, by omega⟩
    obtain ⟨n, rfl⟩ : ∃ n' : Nat, n = (n' : Int) := ⟨n.toNat, by omega⟩
    have hto : ((k : Int) + (n : Int)).toNat - k = n := by omega
    have hwin : Sl W W.heap.size 1 (sbase (x.N - o) k 1 (some ⟨x.bB, o, none⟩)) n (x.N - o - k) (byt (winF x.bs ⟨(o : Int), (l : Int)⟩ (k : Int) (n : Int))) := by
      have h1 := ((h.win (p := o) (n := l) hN).drop (k := k) (by omega)).take (k := n) (by omega)
      have e : (((byt ((x.bs.drop o).take l)).drop (k * 1)).take (n * 1)) = byt (winF x.bs ⟨(o : Int), (l : Int)⟩ (k : Int) (n : Int)) := by
        unfold winF byt
        rw [show ((⟨(o : Int), (l : Int)⟩ : Ext).off + (k : Int)).toNat = o + k by dsimp only; omega, Int.toNat_natCast, Nat.mul_one, Nat.mul_one, ← List.map_drop, ← List.map_take, List.drop_take, List.take_take, List.drop_drop, Nat.min_eq_left (by omega)]
      rwa [e] at h1
    have hrd : rdF x.bs ⟨(o : Int), (l : Int)⟩ (k : Int) (n : Int) F = winF x.bs ⟨(o : Int), (l : Int)⟩ (k : Int) (n : Int) := by unfold rdF; rw [if_pos hF2.symm]
    refine cv_skip ?_
    try simp only [blockQ, thenQ]
    refine hK _ _ ?_
    clear hK K
    refine cv_seq_k fun K hK => ?_
    refine cv_region_then rfl ?_
    simp -implicitDefEqProofs (disch := first | omega | decide) only [seval, -Int.reducePow, -Nat.reducePow, cC, pv, binv, sArRead1, undef, hto]
    refine callV_row (fun A n c => .slice A n c) (fun w hw => bclone_any (sbase (x.N - o) k 1 (some ⟨x.bB, o, none⟩)) n (x.N - o - k) _ w (hwin.at hw) (by omega)) ?_
    intro A m c hl hr
    simp -implicitDefEqProofs (disch := first | omega | decide) only [seval, -Int.reducePow, -Nat.reducePow, cC, pv, binv, sArRead1, undef]
    refine hK _ _ ?_
    clear hK K
    refine cv_ret ⟨_, (by simp -implicitDefEqProofs (disch := first | omega | decide) only [seval, -Int.reducePow, -Nat.reducePow, cC, pv, binv, sArRead1, undef]; rfl), fun w hw => ?_⟩
    rw [hF, hrd, ← hF2]
    exact ⟨_, _, _, rfl, hw.rowNew (by simp), hw.below⟩
  · rw [if_neg he] at hF2
    refine cv_seq_k fun K hK => ?_
    refine cv_region_then rfl ?_
    simp -implicitDefEqProofs (disch := first | omega | decide) only [seval, -Int.reducePow, -Nat.reducePow, cC, pv, binv, sArRead1, undef]
    refine callV_ret (fun w hw => arSlice_no x us w e (h.at hw) hI he) ?_
    try simp -implicitDefEqProofs (disch := first | omega | decide) only [seval, -Int.reducePow, -Nat.reducePow, cC, pv, binv, sArRead1, undef]
    refine hK _ _ ?_
    clear hK K
    refine cv_seq_k fun K hK => ?_
    refine cv_block ?_
    refine cv_seq_k fun K hK => ?_
    refine cv_region_then rfl ?_
    simp -implicitDefEqProofs (disch := first | omega | decide) only [seval, -Int.reducePow, -Nat.reducePow, cC, pv, binv, sArRead1, undef]
    refine hK _ _ ?_
    clear hK K
    refine cv_cond ?_
    simp -implicitDefEqProofs (disch := first | omega | decide) only [seval, -Int.reducePow, -Nat.reducePow, cC, pv, binv, sArRead1, undef]
    refine cv_seq_k fun K hK => ?_
    refine cv_region_then rfl ?_
    simp -implicitDefEqProofs (disch := first | omega | decide) only [seval, -Int.reducePow, -Nat.reducePow, cC, pv, binv, sArRead1, undef]
    refine hK _ _ ?_
    clear hK K
    refine cv_ret ⟨_, (by simp -implicitDefEqProofs (disch := first | omega | decide) only [seval, -Int.reducePow, -Nat.reducePow, cC, pv, binv, sArRead1, undef]; rfl), fun w hw => ?_⟩
    rw [hF, hno (by omega), ← hF2]
    exact ⟨none, 0, 0, rfl, ⟨rfl, .inl ⟨rfl, rfl⟩⟩, hw.below⟩
end
end Go.Proofs.Ytfaanphjaghbpaa
