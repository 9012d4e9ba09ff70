/- The arena's model: what only reads. -/
import Derived.Test.YtfaanphjaghbpaaZ4
import Derived.Test.YtfaanphjaghbpaaZ5
import Derived.Test.YtfaanphjaghbpaaZ6
import Derived.Test.YtfaanphjaghbpaaZ1
namespace Go.Proofs.Ytfaanphjaghbpaa
open Go.RowKit Go.Shelf
set_option linter.unusedVariables false
set_option linter.unusedSimpArgs false
set_option maxRecDepth 100000
/-- A model arena's memory. -/
structure MrR where
  ml : MlR
  bB : Nat
  n : Nat
  bs : List Nat
def mrT (x : MrR) : List Value := [.slice (some ⟨x.bB, 0, none⟩) x.n x.n]
def mrL (x : MrR) : List Res := [.blk x.ml.bM 84 [.int .i64 x.ml.N, .slice x.ml.UA x.ml.un x.ml.uc, .slice (some ⟨x.bB, 0, none⟩) x.n x.n], .row (.slice x.ml.UA x.ml.un x.ml.uc) 28 2 x.ml.un (exCells x.ml.us), .blk x.bB 5 (byt x.bs)]
structure MrW (w : World) (B : Nat) (x : MrR) : Prop where
  blk : Sl w B 1 (some ⟨x.ml.bM, 0, none⟩) 3 3 [.int .i64 x.ml.N, .slice x.ml.UA x.ml.un x.ml.uc, .slice (some ⟨x.bB, 0, none⟩) x.n x.n]
  bs : Sl w B 1 (some ⟨x.bB, 0, none⟩) x.n x.n (byt x.bs)
  ml : MlW w B x.ml
  len : x.n ≤ 1048576
section
variable {M : List Nat} {W w : World} {L : List Res} {x : MrR}
theorem MrW.at (h : MrW W W.heap.size x) (hw : St [] W L w) : MrW w w.heap.size x := ⟨h.blk.at hw, h.bs.at hw, h.ml.at hw, h.len⟩
theorem MrW.lt {w : World} {B : Nat} (h : MrW w B x) : x.ml.bM < B := h.ml.lt
theorem MrW.of (hw : St M W L w) (i1 i2 i3 : Nat) (h1 : nth L i1 = some (.blk x.ml.bM 84 [.int .i64 x.ml.N, .slice x.ml.UA x.ml.un x.ml.uc, .slice (some ⟨x.bB, 0, none⟩) x.n x.n]))
    (h2 : nth L i2 = some (.row (.slice x.ml.UA x.ml.un x.ml.uc) 28 2 x.ml.un (exCells x.ml.us))) (h3 : nth L i3 = some (.blk x.bB 5 (byt x.bs)))
    (hl : x.ml.us.length ≤ 100) (hp : ∀ e ∈ x.ml.us, e.prop) (hb : x.bs.length = x.n) (hN : x.n ≤ 1048576) : MrW w w.heap.size x :=
  ⟨Sl.of_blk hw (nth_mem h1) rfl (by omega), Sl.of_blk hw (nth_mem h3) (by rw [byt_len]; omega) (by omega), MlW.of hw i1 i2 h1 h2 hl hp, hN⟩
theorem MrW.win {w : World} {B : Nat} (h : MrW w B x) {p n : Nat} (hp : p + n ≤ x.n) : Sl w B 1 (some ⟨x.bB, p, none⟩) n (x.n - p) (byt ((x.bs.drop p).take n)) := by
  have hl := byt_row h.bs.len
  have h20 := h.len
  refine ⟨by rw [byt_len, List.length_take, List.length_drop]; omega, by omega, by omega, fun hn => ?_⟩
  obtain ⟨b', o', e, hb, hc⟩ := h.bs.cells (by omega)
  cases e
  refine ⟨_, _, rfl, hb, fun i v hv => ?_⟩
  have := hc (p + i) v (by
    unfold byt at hv ⊢
    rw [List.getElem?_map, List.getElem?_take] at hv
    split at hv
    · rw [List.getElem?_drop, ← List.getElem?_map] at hv
      exact hv
    · cases hv)
  rwa [Nat.zero_add] at this
end
set_option maxRecDepth 100000 in
theorem sMrCode1 : type_of% (And.intro (And.intro @eBox.eq_1 (And.intro @exV.eq_1 @mlL.eq_1)) (And.intro (And.intro @Nat.mul_one @wrap_in) (And.intro @cMp @cM))) := (And.intro (And.intro @eBox.eq_1 (And.intro @exV.eq_1 @mlL.eq_1)) (And.intro (And.intro @Nat.mul_one @wrap_in) (And.intro @cMp @cM)))
theorem rwithin_any (k n s : Int) (W : World) (hn : 0 ≤ n) (hs : s ≤ 1048576) : Calls Try.prog 46 #[.int .i64 k, .int .i64 n, .int .i64 s] W
    fun e w' => e = .returned (.bool (decide (0 ≤ k ∧ n ≤ s ∧ k ≤ s - n))) ∧ Below W.heap.size W w' := by
  refine calls_cv (M := []) (n := 21) [.tmp 6] rfl Try.func46 rfl rfl (Nat.le_of_ble_eq_true rfl) (St.nil _ _) ?_
  refine cv_seq_k fun K hK => ?_
  refine cv_region_then rfl ?_
  simp -implicitDefEqProofs (disch := first | omega | decide) only [seval, -Int.reducePow, -Nat.reducePow, cC, pv, binv, sMrCode1, undef]
  refine hK _ _ ?_
  clear hK K
  by_cases a1 : 0 ≤ k
  · have a1' : decide (0 ≤ k) = true := decide_eq_true a1
    by_cases a2 : k ≤ s
    · have a2' : decide (k ≤ s) = true := decide_eq_true a2
      have w1 : IntKind.i64.wrap (s - k) = s - k := wrap_in (by omega) (by omega)
      refine cv_seq_k fun K hK => ?_
      refine cv_region_then rfl ?_
      simp -implicitDefEqProofs (disch := first | omega | decide) only [seval, -Int.reducePow, -Nat.reducePow, cC, pv, binv, sMrCode1, undef, a1', a2', w1]
      refine hK _ _ ?_
      clear hK K
      refine cv_ret ⟨_, (by simp -implicitDefEqProofs (disch := first | omega | decide) only [seval, -Int.reducePow, -Nat.reducePow, cC, pv, binv, sMrCode1, undef]; rfl), fun w hw => ?_⟩
      exact ⟨by rw [show decide (0 ≤ k ∧ n ≤ s ∧ k ≤ s - n) = decide (n ≤ s - k) by apply decide_eq_decide.2; constructor <;> intro h <;> omega], hw.below⟩
    · have a2' : decide (k ≤ s) = false := decide_eq_false a2
      refine cv_seq_k fun K hK => ?_
      refine cv_region_then rfl ?_
      simp -implicitDefEqProofs (disch := first | omega | decide) only [seval, -Int.reducePow, -Nat.reducePow, cC, pv, binv, sMrCode1, undef, a1', a2']
      refine hK _ _ ?_
      clear hK K
      refine cv_ret ⟨_, (by simp -implicitDefEqProofs (disch := first | omega | decide) only [seval, -Int.reducePow, -Nat.reducePow, cC, pv, binv, sMrCode1, undef]; rfl), fun w hw => ?_⟩
      exact ⟨by rw [decide_eq_false (fun h : 0 ≤ k ∧ n ≤ s ∧ k ≤ s - n => a2 (by omega))], hw.below⟩
  · have a1' : decide (0 ≤ k) = false := decide_eq_false a1
    refine cv_seq_k fun K hK => ?_
    refine cv_region_then rfl ?_
    simp -implicitDefEqProofs (disch := first | omega | decide) only [seval, -Int.reducePow, -Nat.reducePow, cC, pv, binv, sMrCode1, undef, a1']
    refine hK _ _ ?_
    clear hK K
    refine cv_ret ⟨_, (by simp -implicitDefEqProofs (disch := first | omega | decide) only [seval, -Int.reducePow, -Nat.reducePow, cC, pv, binv, sMrCode1, undef]; rfl), fun w hw => ?_⟩
    exact ⟨by rw [decide_eq_false (fun h : 0 ≤ k ∧ n ≤ s ∧ k ≤ s - n => a1 h.1)], hw.below⟩
theorem Little_any (A : Option Addr) (n c : Nat) (l : List Nat) (W : World) (hE : Sl W W.heap.size 1 A n c (byt l)) (hn : n ≤ 8) (hb : ∀ b ∈ l, b < 256) : Calls Try.prog 44 #[.slice A n c] W
    fun e w' => e = .returned (.int .u64 (leN l : Int)) ∧ Below W.heap.size W w' := by
  have hln := byt_row hE.len
  have hmx := hE.max
  have hcp := hE.cap
  have hdn : l.drop n = [] := List.drop_of_length_le (by omega)
  refine calls_cv (M := []) (n := 21) [.tmp 2] rfl Try.func44 rfl rfl (Nat.le_of_ble_eq_true rfl) (St.nil _ _) ?_
  refine cv_seq_k fun K hK => ?_
  refine cv_region_then rfl ?_
  simp -implicitDefEqProofs (disch := first | omega | decide) only [seval, -Int.reducePow, -Nat.reducePow, cC, pv, binv, sMrCode1, undef]
  refine hK _ _ ?_
  clear hK K
  refine cv_seq_k fun K hK => ?_
  refine cv_region_then rfl ?_
  simp -implicitDefEqProofs (disch := first | omega | decide) only [seval, -Int.reducePow, -Nat.reducePow, cC, pv, binv, sMrCode1, undef]
  refine hK _ _ ?_
  clear hK K
  refine cv_seq_k fun K hK => ?_
  refine cv_seq_k fun K hK => ?_
  refine cv_region_then rfl ?_
  simp -implicitDefEqProofs (disch := first | omega | decide) only [seval, -Int.reducePow, -Nat.reducePow, cC, pv, binv, sMrCode1, undef]
  refine hK _ _ ?_
  clear hK K
  refine cv_gen fun G1 hG => ?_
  have g1_0 := congrFun hG 0
  have g1_3 := congrFun hG 3
  have g1_4 := congrFun hG 4
  clear hG
  try simp -implicitDefEqProofs (disch := first | omega | decide) only [seval, -Int.reducePow, -Nat.reducePow, cC, pv, binv, sMrCode1, undef] at g1_0 g1_3 g1_4
  have g1 := And.intro g1_0 (And.intro g1_3 g1_4)
  refine cv_block ?_
  refine cv_loop (fun F' L' => ∃ (j : Nat), F' 0 = G1 0 ∧ F' 3 = .int .u64 (leN (l.drop j) : Int) ∧ F' 4 = .int .i64 ((j : Int) - 1) ∧ L' = [] ∧ j ≤ n) (fun F' L' => (intOf (F' 4) + 1).toNat) ?_ ?_
  · refine ⟨n, ?_⟩
    simp -implicitDefEqProofs (disch := first | omega | decide) only [seval, -Int.reducePow, -Nat.reducePow, cC, pv, binv, sMrCode1, undef, hdn, g1]
    rfl
  intro G2 L' hI
  obtain ⟨j, q0, q3, q4, rfl, hj⟩ := hI
  have g2_0 := q0.trans g1_0
  have g2_3 := q3
  have g2_4 := q4
  clear q0 q3 q4
  have g2 := And.intro g2_0 (And.intro g2_3 g2_4)
  refine cv_seq_k fun K hK => ?_
  refine cv_seq_k fun K hK => ?_
  refine cv_region_then rfl ?_
  simp -implicitDefEqProofs (disch := first | omega | decide) only [seval, -Int.reducePow, -Nat.reducePow, cC, pv, binv, sMrCode1, undef, g1, g2]
  refine hK _ _ ?_
  clear hK K
  refine cv_cond ?_
  simp -implicitDefEqProofs (disch := first | omega | decide) only [seval, -Int.reducePow, -Nat.reducePow, cC, pv, binv, sMrCode1, undef, g1, g2]
  refine ⟨fun hc => ?_, fun hc => ?_⟩
  · refine cv_skip ?_
    try simp only [blockQ, thenQ]
    have hjt := of_decide_eq_true ‹_›
    obtain ⟨i, rfl⟩ : ∃ i, j = i + 1 := ⟨j - 1, by omega⟩
    have e1 : (((i + 1 : Nat) : Int)) - 1 = (i : Int) := by omega
    obtain ⟨ch, hc⟩ := some_of (l := l) (i := i) (by omega)
    have hc2 := hb ch (List.mem_of_getElem? hc)
    obtain ⟨bF, oF, rfl, hbF, -⟩ := hE.cells (by omega)
    have hlt := leN_lt (l.drop (i + 1)) fun b h => hb b (List.mem_of_mem_drop h)
    have hlt7 : leN (l.drop (i + 1)) < 72057594037927936 := by
      have h1 : 256 ^ (l.drop (i + 1)).length ≤ 256 ^ 7 := Nat.pow_le_pow_right (by omega) (by rw [List.length_drop]; omega)
      have e : (256 : Nat) ^ 7 = 72057594037927936 := by decide
      omega
    obtain ⟨o1, o2⟩ := or_lo hlt7 hc2
    rw [show (256 : Int) = 2 ^ 8 from rfl] at o1
    have o5 := leN_drop hc
    have o6 : IntKind.u64.wrap (ch : Int) = (ch : Int) := IntWalk.u64_in _ (by omega)
    refine hK _ _ ?_
    clear hK K
    refine cv_seq_k fun K hK => ?_
    refine cv_block ?_
    refine cv_region_q rfl ?_
    simp -implicitDefEqProofs (disch := first | omega | decide) only [seval, -Int.reducePow, -Nat.reducePow, cC, pv, binv, sMrCode1, undef, e1, g1, g2]
    refine ⟨_, hE.ld1 (m := 1) (v := .int .u8 (ch : Int)) (i := i) rfl (byt_get hc), fun tok htok => ?_⟩
    subst htok
    simp -implicitDefEqProofs (disch := first | omega | decide) only [seval, -Int.reducePow, -Nat.reducePow, cC, pv, binv, sMrCode1, undef, bits64, o6, o1, o2, g1, g2]
    refine hK _ _ ?_
    clear hK K
    refine cv_region_then rfl ?_
    simp -implicitDefEqProofs (disch := first | omega | decide) only [seval, -Int.reducePow, -Nat.reducePow, cC, pv, binv, sMrCode1, undef, wrap_in, e1, g1, g2]
    refine ⟨⟨i, ?_⟩, ?_⟩
    · simp -implicitDefEqProofs (disch := first | omega | decide) only [seval, -Int.reducePow, -Nat.reducePow, cC, pv, binv, sMrCode1, undef, o5, g1, g2]
      omega
    · simp only [intOf]; omega
  refine cv_exit ?_
  simp only [blockQ, thenQ, if_true, ite_true]
  clear hK K
  refine hK _ _ ?_
  clear hK K
  have hit := of_decide_eq_false ‹_›
  obtain rfl : j = 0 := by omega
  refine cv_seq_k fun K hK => ?_
  refine cv_region_then rfl ?_
  simp -implicitDefEqProofs (disch := first | omega | decide) only [seval, -Int.reducePow, -Nat.reducePow, cC, pv, binv, sMrCode1, undef, g1, g2]
  refine hK _ _ ?_
  clear hK K
  refine cv_ret ⟨_, (by simp -implicitDefEqProofs (disch := first | omega | decide) only [seval, -Int.reducePow, -Nat.reducePow, cC, pv, binv, sMrCode1, undef, g1, g2]; rfl), fun w hw => ?_⟩
  exact ⟨rfl, hw.below⟩
set_option maxHeartbeats 2000000 in
theorem number_any (x : MrR) (e : Ext) (k wd : Int) (fr : List Ext) (tk : List (Int × Int)) (W : World) (h : MrW W W.heap.size x) (hI : Ex.Inv (x.n : Int) x.ml.us fr tk) : Calls Try.prog 43 #[.pointer (some ⟨x.ml.bM, 0, none⟩), exV e, .int .i64 k, .int .i64 wd] W
    fun en w' => en = .returned (.int .i64 (fErr x.ml.us e k wd)) ∧ Below W.heap.size W w' := by
  have hbM := h.lt
  obtain ⟨F, hF⟩ : ∃ F, fErr x.ml.us e k wd = F := ⟨_, rfl⟩
  have hF2 := hF
  unfold fErr at hF2
  obtain ⟨q, hq⟩ : ∃ q : Bool, decide (e ∈ x.ml.us) = q := ⟨_, rfl⟩
  refine calls_cv (M := []) (n := 35) [.tmp 8] rfl Try.func43 rfl rfl (Nat.le_of_ble_eq_true rfl) (St.nil _ _) ?_
  refine cv_seq_k fun K hK => ?_
  refine cv_region_then rfl ?_
  simp -implicitDefEqProofs (disch := first | omega | decide) only [seval, -Int.reducePow, -Nat.reducePow, cC, pv, binv, sMrCode1, undef]
  intro b5 hb5
  refine hK _ _ ?_
  clear hK K
  refine cv_seq_k fun K hK => ?_
  refine cv_seq_k fun K hK => ?_
  refine cv_draw [(true, 0), (true, 1), (true, 2), (true, 3), (false, 4), (true, 5)] [] mixA rfl (by kernel_rfl) (by kernel_rfl) rfl rfl ?_
  simp -implicitDefEqProofs (disch := first | omega | decide) only [seval, -Int.reducePow, -Nat.reducePow, cC, pv, binv, sMrCode1, undef]
  refine callV_ret (fun w hw => rHas_any x.ml e w (h.at hw).ml) ?_
  try simp -implicitDefEqProofs (disch := first | omega | decide) only [seval, -Int.reducePow, -Nat.reducePow, cC, pv, binv, sMrCode1, undef, hq]
  refine hK _ _ ?_
  clear hK K
  cases q
  · have he : e ∉ x.ml.us := of_decide_eq_false hq
    rw [if_neg he] at hF2
    refine cv_cond ?_
    simp -implicitDefEqProofs (disch := first | omega | decide) only [seval, -Int.reducePow, -Nat.reducePow, cC, pv, binv, sMrCode1, undef]
    refine cv_seq_k fun K hK => ?_
    refine cv_region_then rfl ?_
    simp -implicitDefEqProofs (disch := first | omega | decide) only [seval, -Int.reducePow, -Nat.reducePow, cC, pv, binv, sMrCode1, undef]
    refine hK _ _ ?_
    clear hK K
    refine cv_ret ⟨_, (by simp -implicitDefEqProofs (disch := first | omega | decide) only [seval, -Int.reducePow, -Nat.reducePow, cC, pv, binv, sMrCode1, undef]; rfl), fun w hw => ?_⟩
    rw [hF, ← hF2]
    exact ⟨rfl, hw.below⟩
  · have he : e ∈ x.ml.us := of_decide_eq_true hq
    rw [if_pos he] at hF2
    obtain ⟨hp, -⟩ := hI.prop e he
    unfold Ext.prop at hp
    refine cv_cond ?_
    simp -implicitDefEqProofs (disch := first | omega | decide) only [seval, -Int.reducePow, -Nat.reducePow, cC, pv, binv, sMrCode1, undef]
    refine cv_skip ?_
    try simp only [blockQ, thenQ]
    refine hK _ _ ?_
    clear hK K
    refine cv_gen fun G3 hG => ?_
    have g3_2 := congrFun hG 2
    have g3_3 := congrFun hG 3
    have g3_5 := congrFun hG 5
    clear hG
    try simp -implicitDefEqProofs (disch := first | omega | decide) only [seval, -Int.reducePow, -Nat.reducePow, cC, pv, binv, sMrCode1, undef] at g3_2 g3_3 g3_5
    have g3 := And.intro g3_2 (And.intro g3_3 g3_5)
    refine cv_seq_k fun K hK => ?_
    refine cv_seq_k fun K hK => ?_
    refine cv_cut (fun _ _ => True) (fun F' L' => F' 2 = G3 2 ∧ F' 3 = G3 3 ∧ F' 5 = G3 5 ∧ F' 28 = .bool (decide (¬ (wd = 1 ∨ wd = 2 ∨ wd = 4 ∨ wd = 8))) ∧ L' = [eBox b5 e]) ?_ ?_
    · refine cv_region_then rfl ?_
      simp -implicitDefEqProofs (disch := first | omega | decide) only [seval, -Int.reducePow, -Nat.reducePow, cC, pv, binv, sMrCode1, undef, g3]
      repeat' ((first | refine vcg_cases (fun hg => ?_) (fun hg => ?_) | refine vdg_cases (fun hg => ?_) (fun hg => ?_)) <;> ((try simp only [Bool.not_eq_true', Bool.not_eq_false', decide_eq_true_eq, decide_eq_false_iff_not] at hg); (try simp -implicitDefEqProofs (disch := first | omega | decide) only [seval, -Int.reducePow, -Nat.reducePow, cC, pv, binv, sMrCode1, undef, hg, g3])))
      all_goals (repeat' refine And.intro ?_ ?_)
      all_goals (first | with_reducible rfl | (refine congrArg Value.bool ?_; rw [Bool.eq_iff_iff]; (try simp only [decide_eq_true_eq, eq_self, true_and, and_true, false_and, and_false, true_or, or_true, false_or, or_false, not_true_eq_false, not_false_eq_true, true_iff, iff_true, false_iff, iff_false, Bool.false_eq_true, Bool.not_eq_true', Bool.not_eq_true, decide_eq_false_iff_not, Bool.and_eq_true, Bool.or_eq_true]) <;> omega) | (refine congrArg (Value.int _) ?_; omega) | omega)
    intro G4 L' _ hF
    obtain ⟨q2, q3, q5, q28, rfl⟩ := hF
    have g4_2 := q2.trans g3_2
    have g4_3 := q3.trans g3_3
    have g4_5 := q5.trans g3_5
    have g4_28 := q28
    clear q2 q3 q5 q28
    have g4 := And.intro g4_2 (And.intro g4_3 (And.intro g4_5 g4_28))
    refine hK _ _ ?_
    clear hK K
    refine cv_cond ?_
    simp -implicitDefEqProofs (disch := first | omega | decide) only [seval, -Int.reducePow, -Nat.reducePow, cC, pv, binv, sMrCode1, undef, g4]
    refine ⟨fun hc => ?_, fun hc => ?_⟩
    · have q1 := of_decide_eq_true hc
      rw [if_neg q1] at hF2
      refine cv_seq_k fun K hK => ?_
      refine cv_region_then rfl ?_
      simp -implicitDefEqProofs (disch := first | omega | decide) only [seval, -Int.reducePow, -Nat.reducePow, cC, pv, binv, sMrCode1, undef, g4]
      refine hK _ _ ?_
      clear hK K
      refine cv_ret ⟨_, (by simp -implicitDefEqProofs (disch := first | omega | decide) only [seval, -Int.reducePow, -Nat.reducePow, cC, pv, binv, sMrCode1, undef, g4]; rfl), fun w hw => ?_⟩
      rw [hF, ← hF2]
      exact ⟨rfl, hw.below⟩
    have q1 : wd = 1 ∨ wd = 2 ∨ wd = 4 ∨ wd = 8 := Decidable.not_not.1 (of_decide_eq_false hc)
    rw [if_pos q1] at hF2
    refine cv_skip ?_
    try simp only [blockQ, thenQ]
    refine hK _ _ ?_
    clear hK K
    refine cv_seq_k fun K hK => ?_
    refine cv_seq_k fun K hK => ?_
    refine cv_region_then rfl ?_
    simp -implicitDefEqProofs (disch := first | omega | decide) only [seval, -Int.reducePow, -Nat.reducePow, cC, pv, binv, sMrCode1, undef, g4]
    refine callV_ret (fun w hw => rwithin_any k wd e.len w (by omega) (by omega)) ?_
    try simp -implicitDefEqProofs (disch := first | omega | decide) only [seval, -Int.reducePow, -Nat.reducePow, cC, pv, binv, sMrCode1, undef, g4]
    refine hK _ _ ?_
    clear hK K
    refine cv_cond ?_
    simp -implicitDefEqProofs (disch := first | omega | decide) only [seval, -Int.reducePow, -Nat.reducePow, cC, pv, binv, sMrCode1, undef, g4]
    refine ⟨fun hc => ?_, fun hc => ?_⟩
    · have q2 := nd_true hc
      rw [if_neg q2] at hF2
      refine cv_seq_k fun K hK => ?_
      refine cv_region_then rfl ?_
      simp -implicitDefEqProofs (disch := first | omega | decide) only [seval, -Int.reducePow, -Nat.reducePow, cC, pv, binv, sMrCode1, undef, g4]
      refine hK _ _ ?_
      clear hK K
      refine cv_ret ⟨_, (by simp -implicitDefEqProofs (disch := first | omega | decide) only [seval, -Int.reducePow, -Nat.reducePow, cC, pv, binv, sMrCode1, undef, g4]; rfl), fun w hw => ?_⟩
      rw [hF, ← hF2]
      exact ⟨rfl, hw.below⟩
    have q2 := Decidable.not_not.1 (nd_false hc)
    rw [if_pos q2] at hF2
    refine cv_skip ?_
    try simp only [blockQ, thenQ]
    refine hK _ _ ?_
    clear hK K
    refine cv_seq_k fun K hK => ?_
    refine cv_region_then rfl ?_
    simp -implicitDefEqProofs (disch := first | omega | decide) only [seval, -Int.reducePow, -Nat.reducePow, cC, pv, binv, sMrCode1, undef, g4]
    refine hK _ _ ?_
    clear hK K
    refine cv_ret ⟨_, (by simp -implicitDefEqProofs (disch := first | omega | decide) only [seval, -Int.reducePow, -Nat.reducePow, cC, pv, binv, sMrCode1, undef, g4]; rfl), fun w hw => ?_⟩
    rw [hF, ← hF2]
    exact ⟨rfl, hw.below⟩
end Go.Proofs.Ytfaanphjaghbpaa
/- The arena's model: Load, Read. -/
namespace Go.Proofs.Ytfaanphjaghbpaa
open Go.RowKit Go.Shelf
set_option linter.unusedVariables false
set_option linter.unusedSimpArgs false
set_option maxRecDepth 100000
set_option maxRecDepth 100000 in
theorem sMrRead1 : type_of% (And.intro (And.intro @eBox.eq_1 (And.intro @exV.eq_1 @mlL.eq_1)) (And.intro (And.intro @Nat.mul_one @wrap_in) (And.intro @cMp @cM))) := (And.intro (And.intro @eBox.eq_1 (And.intro @exV.eq_1 @mlL.eq_1)) (And.intro (And.intro @Nat.mul_one @wrap_in) (And.intro @cMp @cM)))
set_option maxHeartbeats 2000000 in
theorem rLoad_any (x : MrR) (e : Ext) (k wd : Int) (fr : List Ext) (tk : List (Int × Int)) (W : World) (h : MrW W W.heap.size x) (hI : Ex.Inv (x.n : Int) x.ml.us fr tk) (hb : ∀ b ∈ x.bs, b < 256) : Calls Try.prog 23 #[.pointer (some ⟨x.ml.bM, 0, none⟩), exV e, .int .i64 k, .int .i64 wd] W
    fun en w' => en = .returned (.tuple #[.int .u64 (loadF x.bs e k wd (fErr x.ml.us e k wd) : Int), .int .i64 (fErr x.ml.us e k wd)]) ∧ Below W.heap.size W w' := by
  have hbM := h.lt
  have hln := byt_row h.bs.len
  have h20 := h.len
  obtain ⟨F, hF⟩ : ∃ F, fErr x.ml.us e k wd = F := ⟨_, rfl⟩
  have hok := fun h => fErr_ok (x := ⟨⟨0, 0, none, 0, 0, [], []⟩, 0, 0, x.n, []⟩) hI (e := e) (k := k) (w := wd) h
  rw [hF] at hok
  dsimp only at hok
  refine calls_cv (M := []) (n := 35) [.tmp 8, .tmp 9] rfl Try.func23 rfl rfl (Nat.le_of_ble_eq_true rfl) (St.nil _ _) ?_
  refine cv_seq_k fun K hK => ?_
  refine cv_region_then rfl ?_
  simp -implicitDefEqProofs (disch := first | omega | decide) only [seval, -Int.reducePow, -Nat.reducePow, cC, pv, binv, sMrRead1, undef]
  intro b5 hb5
  refine hK _ _ ?_
  clear hK K
  refine cv_seq_k fun K hK => ?_
  refine cv_seq_k fun K hK => ?_
  refine cv_region_then rfl ?_
  simp -implicitDefEqProofs (disch := first | omega | decide) only [seval, -Int.reducePow, -Nat.reducePow, cC, pv, binv, sMrRead1, undef]
  refine callV_ret (fun w hw => number_any x e k wd fr tk w (h.at hw) hI) ?_
  try simp -implicitDefEqProofs (disch := first | omega | decide) only [seval, -Int.reducePow, -Nat.reducePow, cC, pv, binv, sMrRead1, undef, hF]
  refine hK _ _ ?_
  clear hK K
  by_cases hz : F = 0
  · obtain ⟨p, n, hp, rfl, hpn, hn, he, hk0, hkl, hpe⟩ := hok hz
    obtain ⟨hprop, -⟩ := hI.prop e he
    unfold Ext.prop at hprop
    have hwin := h.win hpn
    have hwl2 : ∀ b ∈ (x.bs.drop p).take n, b < 256 := fun b h => hb b (List.mem_of_mem_drop (List.mem_of_mem_take h))
    have hz' : decide (F = 0) = true := decide_eq_true hz
    have hld : loadF x.bs e k (n : Int) F = leN ((x.bs.drop p).take n) := by unfold loadF winF; rw [if_pos hz, hp]; simp
    have hsb : sbase x.n p 1 (some ⟨x.bB, 0, none⟩) = some ⟨x.bB, p, none⟩ := by rw [sbase_some (by omega), Addr.add_lit]; simp
    have hto : ((p : Int) + (n : Int)).toNat - p = n := by omega
    refine cv_seq_k fun K hK => ?_
    refine cv_region_then rfl ?_
    simp -implicitDefEqProofs (disch := first | omega | decide) only [seval, -Int.reducePow, -Nat.reducePow, cC, pv, binv, sMrRead1, undef, hz']
    refine hK _ _ ?_
    clear hK K
    refine cv_cond ?_
    simp -implicitDefEqProofs (disch := first | omega | decide) only [seval, -Int.reducePow, -Nat.reducePow, cC, pv, binv, sMrRead1, undef]
    refine cv_skip ?_
    try simp only [blockQ, thenQ]
    refine hK _ _ ?_
    clear hK K
    refine cv_seq_k fun K hK => ?_
    refine cv_draw [(true, 0), (true, 1), (true, 2), (true, 3), (true, 4), (true, 5), (true, 6), (true, 7), (true, 8), (true, 9), (true, 10), (true, 11), (true, 12), (true, 13), (true, 14), (false, 15), (true, 16), (true, 17)] [] mixA rfl (by kernel_rfl) (by kernel_rfl) rfl rfl ?_
    simp -implicitDefEqProofs (disch := first | omega | decide) only [seval, -Int.reducePow, -Nat.reducePow, cC, pv, binv, sMrRead1, undef, hpe]
    refine ⟨_, h.blk.ld1 (m := 1) (i := 2) (by kernel_rfl) rfl, fun tok htok => ?_⟩
    subst htok
    simp -implicitDefEqProofs (disch := first | omega | decide) only [seval, -Int.reducePow, -Nat.reducePow, cC, pv, binv, sMrRead1, undef, hpe, hsb, hto]
    refine callV_ret (fun w hw => Little_any (some ⟨x.bB, p, none⟩) n (x.n - p) _ w (hwin.at hw) (by omega) hwl2) ?_
    try simp -implicitDefEqProofs (disch := first | omega | decide) only [seval, -Int.reducePow, -Nat.reducePow, cC, pv, binv, sMrRead1, undef]
    refine hK _ _ ?_
    clear hK K
    refine cv_ret ⟨_, (by simp -implicitDefEqProofs (disch := first | omega | decide) only [seval, -Int.reducePow, -Nat.reducePow, cC, pv, binv, sMrRead1, undef]; rfl), fun w hw => ?_⟩
    rw [hF, hld, hz]
    exact ⟨rfl, hw.below⟩
  · have hz' : decide (F = 0) = false := decide_eq_false hz
    have hld : loadF x.bs e k wd F = 0 := by unfold loadF; rw [if_neg hz]
    refine cv_seq_k fun K hK => ?_
    refine cv_region_then rfl ?_
    simp -implicitDefEqProofs (disch := first | omega | decide) only [seval, -Int.reducePow, -Nat.reducePow, cC, pv, binv, sMrRead1, undef, hz']
    refine hK _ _ ?_
    clear hK K
    refine cv_cond ?_
    simp -implicitDefEqProofs (disch := first | omega | decide) only [seval, -Int.reducePow, -Nat.reducePow, cC, pv, binv, sMrRead1, undef]
    refine cv_seq_k fun K hK => ?_
    refine cv_region_then rfl ?_
    simp -implicitDefEqProofs (disch := first | omega | decide) only [seval, -Int.reducePow, -Nat.reducePow, cC, pv, binv, sMrRead1, undef]
    refine hK _ _ ?_
    clear hK K
    refine cv_ret ⟨_, (by simp -implicitDefEqProofs (disch := first | omega | decide) only [seval, -Int.reducePow, -Nat.reducePow, cC, pv, binv, sMrRead1, undef]; rfl), fun w hw => ?_⟩
    rw [hF, hld]
    exact ⟨rfl, hw.below⟩
set_option maxHeartbeats 2000000 in
theorem rRead_any (x : MrR) (e : Ext) (k n : Int) (fr : List Ext) (tk : List (Int × Int)) (W : World) (h : MrW W W.heap.size x) (hI : Ex.Inv (x.n : Int) x.ml.us fr tk) : Calls Try.prog 24 #[.pointer (some ⟨x.ml.bM, 0, none⟩), exV e, .int .i64 k, .int .i64 n] W
    (rowPost 5 1 (fun v => .tuple #[v, .int .i64 (rdErr x.ml.us e k n)]) (byt (rdF x.bs e k n (rdErr x.ml.us e k n))) W) := by
  have hbM := h.lt
  have hln := byt_row h.bs.len
  have h20 := h.len
  obtain ⟨F, hF⟩ : ∃ F, rdErr x.ml.us e k n = F := ⟨_, rfl⟩
  have hF2 := hF
  unfold rdErr at hF2
  have hno : ¬ F = 0 → rdF x.bs e k n F = [] := fun h => by unfold rdF; rw [if_neg h]
  obtain ⟨q, hq⟩ : ∃ q : Bool, decide (e ∈ x.ml.us) = q := ⟨_, rfl⟩
  refine calls_cv (M := []) (n := 41) [.tmp 8, .tmp 9] rfl Try.func24 rfl rfl (Nat.le_of_ble_eq_true rfl) (St.nil _ _) ?_
  refine cv_seq_k fun K hK => ?_
  refine cv_region_then rfl ?_
  simp -implicitDefEqProofs (disch := first | omega | decide) only [seval, -Int.reducePow, -Nat.reducePow, cC, pv, binv, sMrRead1, undef]
  intro b5 hb5
  refine hK _ _ ?_
  clear hK K
  refine cv_seq_k fun K hK => ?_
  refine cv_seq_k fun K hK => ?_
  refine cv_draw [(true, 0), (true, 1), (true, 2), (true, 3), (false, 4), (true, 5)] [] mixA rfl (by kernel_rfl) (by kernel_rfl) rfl rfl ?_
  simp -implicitDefEqProofs (disch := first | omega | decide) only [seval, -Int.reducePow, -Nat.reducePow, cC, pv, binv, sMrRead1, undef]
  refine callV_ret (fun w hw => rHas_any x.ml e w (h.at hw).ml) ?_
  try simp -implicitDefEqProofs (disch := first | omega | decide) only [seval, -Int.reducePow, -Nat.reducePow, cC, pv, binv, sMrRead1, undef, hq]
  refine hK _ _ ?_
  clear hK K
  cases q
  · have he : e ∉ x.ml.us := of_decide_eq_false hq
    rw [if_neg he] at hF2
    refine cv_cond ?_
    simp -implicitDefEqProofs (disch := first | omega | decide) only [seval, -Int.reducePow, -Nat.reducePow, cC, pv, binv, sMrRead1, undef]
    refine cv_seq_k fun K hK => ?_
    refine cv_region_then rfl ?_
    simp -implicitDefEqProofs (disch := first | omega | decide) only [seval, -Int.reducePow, -Nat.reducePow, cC, pv, binv, sMrRead1, undef]
    refine hK _ _ ?_
    clear hK K
    refine cv_ret ⟨_, (by simp -implicitDefEqProofs (disch := first | omega | decide) only [seval, -Int.reducePow, -Nat.reducePow, cC, pv, binv, sMrRead1, undef]; rfl), fun w hw => ?_⟩
    rw [hF, hno (by omega), ← hF2]
    exact ⟨none, 0, 0, rfl, ⟨rfl, .inl ⟨rfl, rfl⟩⟩, hw.below⟩
  · have he : e ∈ x.ml.us := of_decide_eq_true hq
    rw [if_pos he] at hF2
    obtain ⟨hp, -⟩ := hI.prop e he
    have hp2 := (hI.prop e he).2
    unfold Ext.prop at hp
    refine cv_cond ?_
    simp -implicitDefEqProofs (disch := first | omega | decide) only [seval, -Int.reducePow, -Nat.reducePow, cC, pv, binv, sMrRead1, undef]
    refine cv_skip ?_
    try simp only [blockQ, thenQ]
    refine hK _ _ ?_
    clear hK K
    refine cv_gen fun G1 hG => ?_
    have g1_0 := congrFun hG 0
    have g1_2 := congrFun hG 2
    have g1_3 := congrFun hG 3
    have g1_5 := congrFun hG 5
    clear hG
    try simp -implicitDefEqProofs (disch := first | omega | decide) only [seval, -Int.reducePow, -Nat.reducePow, cC, pv, binv, sMrRead1, undef] at g1_0 g1_2 g1_3 g1_5
    have g1 := And.intro g1_0 (And.intro g1_2 (And.intro g1_3 g1_5))
    refine cv_seq_k fun K hK => ?_
    refine cv_seq_k fun K hK => ?_
    refine cv_region_then rfl ?_
    simp -implicitDefEqProofs (disch := first | omega | decide) only [seval, -Int.reducePow, -Nat.reducePow, cC, pv, binv, sMrRead1, undef, g1]
    refine hK _ _ ?_
    clear hK K
    refine cv_cond ?_
    simp -implicitDefEqProofs (disch := first | omega | decide) only [seval, -Int.reducePow, -Nat.reducePow, cC, pv, binv, sMrRead1, undef, g1]
    refine ⟨fun hc => ?_, fun hc => ?_⟩
    · have q1 := of_decide_eq_true hc
      rw [if_pos q1] at hF2
      refine cv_seq_k fun K hK => ?_
      refine cv_region_then rfl ?_
      simp -implicitDefEqProofs (disch := first | omega | decide) only [seval, -Int.reducePow, -Nat.reducePow, cC, pv, binv, sMrRead1, undef, g1]
      refine hK _ _ ?_
      clear hK K
      refine cv_ret ⟨_, (by simp -implicitDefEqProofs (disch := first | omega | decide) only [seval, -Int.reducePow, -Nat.reducePow, cC, pv, binv, sMrRead1, undef, g1]; rfl), fun w hw => ?_⟩
      rw [hF, hno (by omega), ← hF2]
      exact ⟨none, 0, 0, rfl, ⟨rfl, .inl ⟨rfl, rfl⟩⟩, hw.below⟩
    have q1 := of_decide_eq_false hc
    rw [if_neg q1] at hF2
    refine cv_skip ?_
    try simp only [blockQ, thenQ]
    refine hK _ _ ?_
    clear hK K
    refine cv_seq_k fun K hK => ?_
    refine cv_seq_k fun K hK => ?_
    refine cv_region_then rfl ?_
    simp -implicitDefEqProofs (disch := first | omega | decide) only [seval, -Int.reducePow, -Nat.reducePow, cC, pv, binv, sMrRead1, undef, g1]
    refine callV_ret (fun w hw => rwithin_any k n e.len w (by omega) (by omega)) ?_
    try simp -implicitDefEqProofs (disch := first | omega | decide) only [seval, -Int.reducePow, -Nat.reducePow, cC, pv, binv, sMrRead1, undef, g1]
    refine hK _ _ ?_
    clear hK K
    refine cv_cond ?_
    simp -implicitDefEqProofs (disch := first | omega | decide) only [seval, -Int.reducePow, -Nat.reducePow, cC, pv, binv, sMrRead1, undef, g1]
    refine ⟨fun hc => ?_, fun hc => ?_⟩
    · have q2 := nd_true hc
      rw [if_neg q2] at hF2
      refine cv_seq_k fun K hK => ?_
      refine cv_region_then rfl ?_
      simp -implicitDefEqProofs (disch := first | omega | decide) only [seval, -Int.reducePow, -Nat.reducePow, cC, pv, binv, sMrRead1, undef, g1]
      refine hK _ _ ?_
      clear hK K
      refine cv_ret ⟨_, (by simp -implicitDefEqProofs (disch := first | omega | decide) only [seval, -Int.reducePow, -Nat.reducePow, cC, pv, binv, sMrRead1, undef, g1]; rfl), fun w hw => ?_⟩
      rw [hF, hno (by omega), ← hF2]
      exact ⟨none, 0, 0, rfl, ⟨rfl, .inl ⟨rfl, rfl⟩⟩, hw.below⟩
    have q2 := Decidable.not_not.1 (nd_false hc)
    rw [if_pos q2] at hF2
    obtain ⟨n, rfl⟩ : ∃ n' : Nat, n = (n' : Int) := ⟨n.toNat, by omega⟩
    obtain ⟨p, hp⟩ : ∃ p : Nat, e.off + k = (p : Int) := ⟨(e.off + k).toNat, by omega⟩
    have hwin := (h.bs.bdrop (k := p) (by omega)).btake (k := n) (by omega)
    have hrd : rdF x.bs e k (n : Int) F = (x.bs.drop p).take n := by unfold rdF winF; rw [if_pos hF2.symm, hp]; simp
    have hto : ((p : Int) + (n : Int)).toNat - p = n := by omega
    refine cv_skip ?_
    try simp only [blockQ, thenQ]
    refine hK _ _ ?_
    clear hK K
    refine cv_seq_k fun K hK => ?_
    refine cv_draw_of (pickL [0, 1] _) (fun w hw => hw.pick (by decide)) (by simp only [pickL, nth, suf_cons, suf_nil, List.mem_cons, true_or, or_true, and_true, eq_self]) [(true, 1), (true, 2), (true, 3), (true, 4), (true, 5), (true, 6), (true, 7), (true, 8), (true, 9), (true, 10), (true, 11), (true, 12), (true, 13), (true, 14), (true, 15), (false, 0), (false, 16), (true, 17), (true, 18)] [] mixA rfl (by kernel_rfl) (by kernel_rfl) rfl rfl ?_
    simp -implicitDefEqProofs (disch := first | omega | decide) only [seval, -Int.reducePow, -Nat.reducePow, cC, pv, binv, sMrRead1, undef, hp, g1]
    refine ⟨_, h.blk.ld1 (m := 1) (i := 2) (by kernel_rfl) rfl, fun tok htok => ?_⟩
    subst htok
    simp -implicitDefEqProofs (disch := first | omega | decide) only [seval, -Int.reducePow, -Nat.reducePow, cC, pv, binv, sMrRead1, undef, hp, hto, g1]
    intro b24 hb24 hf24
    refine appV_lit 0 tap36 rfl rfl (fun w hw => (hwin.at hw).reads) (ones_byt _) (by omega) (by omega) ?_
    intro A' c' hl _
    simp -implicitDefEqProofs (disch := first | omega | decide) only [seval, -Int.reducePow, -Nat.reducePow, cC, pv, binv, sMrRead1, undef, g1]
    refine hK _ _ ?_
    clear hK K
    refine cv_ret ⟨_, (by simp -implicitDefEqProofs (disch := first | omega | decide) only [seval, -Int.reducePow, -Nat.reducePow, cC, pv, binv, sMrRead1, undef, g1]; rfl), fun w hw => ?_⟩
    rw [Nat.zero_add] at *
    rw [hF, hrd, ← hF2]
    exact ⟨A', _, c', rfl, ownsRow_new (hw.holds _ (.head _)) (hw.own _ (.head _)), hw.below⟩
end Go.Proofs.Ytfaanphjaghbpaa
/- The arena's model: Store, Write. -/
namespace Go.Proofs.Ytfaanphjaghbpaa
open Go.RowKit Go.Shelf
set_option linter.unusedVariables false
set_option linter.unusedSimpArgs false
set_option maxRecDepth 100000
set_option maxRecDepth 100000 in
theorem sMrWr1 : type_of% (And.intro (And.intro @eBox.eq_1 (And.intro @exV.eq_1 @mlL.eq_1)) (And.intro (And.intro @Nat.mul_one @wrap_in) (And.intro @cMp @cM))) := (And.intro (And.intro @eBox.eq_1 (And.intro @exV.eq_1 @mlL.eq_1)) (And.intro (And.intro @Nat.mul_one @wrap_in) (And.intro @cMp @cM)))
theorem Fit_any (v : Nat) (n : Nat) (W : World) (hn : n ≤ 8) : Calls Try.prog 47 #[.int .u64 (v : Int), .int .i64 (n : Int)] W
    fun e w' => e = .returned (.bool (!decide ((n : Int) < 8 ∧ ¬ v / 256 ^ n = 0))) ∧ Below W.heap.size W w' := by
  have o4 : ((8 : Int) * (n : Int)).toNat = 8 * n := by omega
  have o5 := shr_nat v n
  refine calls_cv (M := []) (n := 14) [.tmp 4] rfl Try.func47 rfl rfl (Nat.le_of_ble_eq_true rfl) (St.nil _ _) ?_
  refine cv_seq_k fun K hK => ?_
  refine cv_region_then rfl ?_
  simp -implicitDefEqProofs (disch := first | omega | decide) only [seval, -Int.reducePow, -Nat.reducePow, cC, pv, binv, sMrWr1, undef]
  refine hK _ _ ?_
  clear hK K
  by_cases a1 : (8 : Int) ≤ (n : Int)
  · have a1' : decide ((8 : Int) ≤ (n : Int)) = true := decide_eq_true a1
    refine cv_seq_k fun K hK => ?_
    refine cv_region_then rfl ?_
    simp -implicitDefEqProofs (disch := first | omega | decide) only [seval, -Int.reducePow, -Nat.reducePow, cC, pv, binv, sMrWr1, undef, a1']
    refine hK _ _ ?_
    clear hK K
    refine cv_ret ⟨_, (by simp -implicitDefEqProofs (disch := first | omega | decide) only [seval, -Int.reducePow, -Nat.reducePow, cC, pv, binv, sMrWr1, undef]; rfl), fun w hw => ?_⟩
    exact ⟨by rw [show decide ((n : Int) < 8 ∧ ¬ v / 256 ^ n = 0) = false from decide_eq_false fun h => by omega]; rfl, hw.below⟩
  · have a1' : decide ((8 : Int) ≤ (n : Int)) = false := decide_eq_false a1
    refine cv_seq_k fun K hK => ?_
    refine cv_region_then rfl ?_
    simp -implicitDefEqProofs (disch := first | omega | decide) only [seval, -Int.reducePow, -Nat.reducePow, cC, pv, binv, sMrWr1, undef, a1', bits64, o4, o5]
    refine hK _ _ ?_
    clear hK K
    refine cv_ret ⟨_, (by simp -implicitDefEqProofs (disch := first | omega | decide) only [seval, -Int.reducePow, -Nat.reducePow, cC, pv, binv, sMrWr1, undef]; rfl), fun w hw => ?_⟩
    exact ⟨by rw [show decide ((n : Int) < 8 ∧ ¬ v / 256 ^ n = 0) = !decide (((v / 256 ^ n : Nat) : Int) = 0) by generalize v / 256 ^ n = Q; rw [← decide_not]; apply decide_eq_decide.2; constructor <;> intro h <;> omega]; simp, hw.below⟩
set_option maxHeartbeats 2000000 in
theorem rStore_any (x : MrR) (e : Ext) (k wd : Int) (v : Nat) (fr : List Ext) (tk : List (Int × Int)) (W : World) (hst : St (feet (mrL x)) W (mrL x) W) (hI : Ex.Inv (x.n : Int) x.ml.us fr tk) (hl : x.ml.us.length ≤ 90) (hbs : x.bs.length = x.n) (hv : v < 18446744073709551616) :
    Calls Try.prog 25 #[.pointer (some ⟨x.ml.bM, 0, none⟩), exV e, .int .i64 k, .int .i64 wd, .int .u64 (v : Int)] W
    fun en w' => ∃ _ : Unit, en = .returned (.int .i64 (stErr x.ml.us e k wd v)) ∧ True ∧ St (feet (mrL x)) W (mrL { x with bs := stF x.bs e k wd v (stErr x.ml.us e k wd v) }) w' := by
  have hN1 := hI.N1
  have hpp := fun e he => (hI.prop e he).1
  obtain ⟨M, hM⟩ : ∃ M, feet (mrL x) = M := ⟨_, rfl⟩
  rw [hM] at hst ⊢
  clear hM
  obtain ⟨F, hF⟩ : ∃ F, fErr x.ml.us e k wd = F := ⟨_, rfl⟩
  have hok := fun h => fErr_ok (x := ⟨⟨0, 0, none, 0, 0, [], []⟩, 0, 0, x.n, []⟩) hI (e := e) (k := k) (w := wd) h
  obtain ⟨⟨bM, N, UA, un, uc, us⟩, bB, n0, bs⟩ := x
  dsimp only at hI hbs hN1 hok hF hl hpp
  dsimp only
  have hSt : stErr us e k wd v = if F = 0 then (if wd < 8 ∧ ¬ v / 256 ^ wd.toNat = 0 then 9 else 0) else F := by rw [← hF]; rfl
  rw [hF] at hok
  unfold mrL at hst
  dsimp only at hst
  refine calls_cv (M := M) (n := 46) [.tmp 10] rfl Try.func25 rfl rfl (Nat.le_of_ble_eq_true rfl)  hst ?_
  refine cv_seq_k fun K hK => ?_
  refine cv_region_then rfl ?_
  simp -implicitDefEqProofs (disch := first | omega | decide) only [seval, -Int.reducePow, -Nat.reducePow, cC, pv, binv, sMrWr1, undef]
  intro b6 hb6 hf6
  refine hK _ _ ?_
  clear hK K
  refine cv_seq_k fun K hK => ?_
  refine cv_seq_k fun K hK => ?_
  refine cv_region_then rfl ?_
  simp -implicitDefEqProofs (disch := first | omega | decide) only [seval, -Int.reducePow, -Nat.reducePow, cC, pv, binv, sMrWr1, undef]
  refine callV_ret (fun w hw => number_any ⟨⟨bM, N, UA, un, uc, us⟩, bB, n0, bs⟩ e k wd fr tk w (MrW.of hw 1 2 3 rfl rfl rfl (by dsimp only; omega) hpp hbs (by dsimp only; omega)) hI) ?_
  try simp -implicitDefEqProofs (disch := first | omega | decide) only [seval, -Int.reducePow, -Nat.reducePow, cC, pv, binv, sMrWr1, undef, hF]
  refine hK _ _ ?_
  clear hK K
  by_cases hz : F = 0
  · rw [if_pos hz] at hSt
    obtain ⟨p, n, hp, rfl, hpn, hn, he, hk0, hkl, hpe⟩ := hok hz
    rw [Int.toNat_natCast] at hSt
    have hz' : decide (F = 0) = true := decide_eq_true hz
    have hlB := leB_len v n
    refine cv_seq_k fun K hK => ?_
    refine cv_region_then rfl ?_
    simp -implicitDefEqProofs (disch := first | omega | decide) only [seval, -Int.reducePow, -Nat.reducePow, cC, pv, binv, sMrWr1, undef, hz']
    refine hK _ _ ?_
    clear hK K
    refine cv_cond ?_
    simp -implicitDefEqProofs (disch := first | omega | decide) only [seval, -Int.reducePow, -Nat.reducePow, cC, pv, binv, sMrWr1, undef]
    refine cv_skip ?_
    try simp only [blockQ, thenQ]
    refine hK _ _ ?_
    clear hK K
    refine cv_gen fun G1 hG => ?_
    have g1_0 := congrFun hG 0
    have g1_2 := congrFun hG 2
    have g1_3 := congrFun hG 3
    have g1_4 := congrFun hG 4
    have g1_6 := congrFun hG 6
    clear hG
    try simp -implicitDefEqProofs (disch := first | omega | decide) only [seval, -Int.reducePow, -Nat.reducePow, cC, pv, binv, sMrWr1, undef] at g1_0 g1_2 g1_3 g1_4 g1_6
    have g1 := And.intro g1_0 (And.intro g1_2 (And.intro g1_3 (And.intro g1_4 g1_6)))
    refine cv_seq_k fun K hK => ?_
    refine cv_seq_k fun K hK => ?_
    refine cv_region_then rfl ?_
    simp -implicitDefEqProofs (disch := first | omega | decide) only [seval, -Int.reducePow, -Nat.reducePow, cC, pv, binv, sMrWr1, undef, g1]
    refine callV_ret (fun w hw => Fit_any v n w (by omega)) ?_
    try simp -implicitDefEqProofs (disch := first | omega | decide) only [seval, -Int.reducePow, -Nat.reducePow, cC, pv, binv, sMrWr1, undef, g1]
    refine hK _ _ ?_
    clear hK K
    refine cv_cond ?_
    simp -implicitDefEqProofs (disch := first | omega | decide) only [seval, -Int.reducePow, -Nat.reducePow, cC, pv, binv, sMrWr1, undef, g1]
    refine ⟨fun hc => ?_, fun hc => ?_⟩
    · have q1 : (n : Int) < 8 ∧ ¬ v / 256 ^ n = 0 := by simpa using hc
      rw [if_pos q1] at hSt
      refine cv_seq_k fun K hK => ?_
      refine cv_region_then rfl ?_
      simp -implicitDefEqProofs (disch := first | omega | decide) only [seval, -Int.reducePow, -Nat.reducePow, cC, pv, binv, sMrWr1, undef, g1]
      refine hK _ _ ?_
      clear hK K
      refine cv_ret ⟨_, (by simp -implicitDefEqProofs (disch := first | omega | decide) only [seval, -Int.reducePow, -Nat.reducePow, cC, pv, binv, sMrWr1, undef, g1]; rfl), fun w hw => ?_⟩
      have hS9 : stF bs e k (n : Int) v 9 = bs := by unfold stF; rw [if_neg (by decide)]
      rw [hSt, hS9]
      first | exact ⟨(), rfl, hw.tail⟩ | exact ⟨(), rfl, trivial, hw.tail⟩
    have q1 : ¬ ((n : Int) < 8 ∧ ¬ v / 256 ^ n = 0) := fun h => by rw [decide_eq_true h] at hc; cases hc
    rw [if_neg q1] at hSt
    have hStF : stF bs e k (n : Int) v 0 = splice bs p (leB v n) := by unfold stF; rw [if_pos rfl, hp]; simp
    refine cv_skip ?_
    try simp only [blockQ, thenQ]
    refine hK _ _ ?_
    clear hK K
    refine cv_seq_k fun K hK => ?_
    refine cv_seq_k fun K hK => ?_
    refine cv_region_then rfl ?_
    simp -implicitDefEqProofs (disch := first | omega | decide) only [seval, -Int.reducePow, -Nat.reducePow, cC, pv, binv, sMrWr1, undef, g1]
    refine hK _ _ ?_
    clear hK K
    refine cv_gen fun G2 hG => ?_
    have g2_0 := congrFun hG 0
    have g2_2 := congrFun hG 2
    have g2_3 := congrFun hG 3
    have g2_4 := congrFun hG 4
    have g2_6 := congrFun hG 6
    have g2_12 := congrFun hG 12
    clear hG
    try simp -implicitDefEqProofs (disch := first | omega | decide) only [seval, -Int.reducePow, -Nat.reducePow, cC, pv, binv, sMrWr1, undef, g1] at g2_0 g2_2 g2_3 g2_4 g2_6 g2_12
    have g2 := And.intro g2_0 (And.intro g2_2 (And.intro g2_3 (And.intro g2_4 (And.intro g2_6 g2_12))))
    refine cv_block ?_
    refine cv_loop (fun F' L' => ∃ (i : Nat), F' 0 = G2 0 ∧ F' 2 = G2 2 ∧ F' 3 = G2 3 ∧ F' 4 = G2 4 ∧ F' 6 = G2 6 ∧ F' 12 = .int .i64 (i : Int) ∧ L' = [eBox b6 e, .blk bM 84 [.int .i64 N, .slice UA un uc, .slice (some ⟨bB, 0, none⟩) n0 n0], .row (.slice UA un uc) 28 2 un (exCells us), .blk bB 5 (byt (splice bs p ((leB v n).take i)))] ∧ i ≤ n) (fun F' L' => 20 - (intOf (F' 12)).toNat) ?_ ?_
    · refine ⟨0, ?_⟩
      simp -implicitDefEqProofs (disch := first | omega | decide) only [seval, -Int.reducePow, -Nat.reducePow, cC, pv, binv, sMrWr1, undef, List.take_zero, splice_nil, g2]
      omega
    intro G3 L' hI
    obtain ⟨i, q0, q2, q3, q4, q6, q12, rfl, hi⟩ := hI
    have g3_0 := q0.trans g2_0
    have g3_2 := q2.trans g2_2
    have g3_3 := q3.trans g2_3
    have g3_4 := q4.trans g2_4
    have g3_6 := q6.trans g2_6
    have g3_12 := q12
    clear q0 q2 q3 q4 q6 q12
    have g3 := And.intro g3_0 (And.intro g3_2 (And.intro g3_3 (And.intro g3_4 (And.intro g3_6 g3_12))))
    refine cv_apart fun hap => ?_
    simp only [factL_nil, factL_blk, factL_row, neR_nil, neR_blk, neR_row, neB_nil, neB_blk, neB_row, and_true, true_and, List.not_mem_nil, or_false, sMrWr1, undef] at hap
    obtain hap2 := hap
    refine cv_seq_k fun K hK => ?_
    refine cv_seq_k fun K hK => ?_
    refine cv_region_then rfl ?_
    simp -implicitDefEqProofs (disch := first | omega | decide) only [seval, -Int.reducePow, -Nat.reducePow, cC, pv, binv, sMrWr1, undef, g2, g3]
    refine hK _ _ ?_
    clear hK K
    refine cv_cond ?_
    simp -implicitDefEqProofs (disch := first | omega | decide) only [seval, -Int.reducePow, -Nat.reducePow, cC, pv, binv, sMrWr1, undef, g2, g3]
    refine ⟨fun hc => ?_, fun hc => ?_⟩
    · refine cv_skip ?_
      try simp only [blockQ, thenQ]
      have hit : i < n := by have := of_decide_eq_true ‹decide ((i : Int) < (n : Int)) = true›; omega
      have hgi := leB_get (v := v) hit
      have hst2 := splice_step (bs := bs) (p := p) (by omega) hgi
      have hsl : (splice bs p ((leB v n).take i)).length = bs.length := splice_len (by rw [List.length_take]; omega)
      have hpu := byt_put2 (bs := splice bs p ((leB v n).take i)) (j := p + i) (c := v / 256 ^ i % 256) (by omega)
      have hpu1 := byt_put (bs := splice bs p ((leB v n).take i)) (j := p + i) (c := v / 256 ^ i % 256) (by omega)
      rw [hst2] at hpu hpu1
      have o6 : ((8 : Int) * (i : Int)).toNat = 8 * i := by omega
      have o7 := shr_byte v i
      have o8 : ((p : Int) + (i : Int)).toNat = p + i := by omega
      refine hK _ _ ?_
      clear hK K
      refine cv_seq_k fun K hK => ?_
      refine cv_block ?_
      refine cv_q ?_
      refine cv_draw_of (pickL [0, 1, 2] _) (fun w hw => hw.pick (by decide)) (by simp only [pickL, nth, suf_cons, suf_nil, List.mem_cons, true_or, or_true, and_true, eq_self]) [(true, 0), (true, 1), (true, 2), (true, 3), (true, 4), (true, 5), (true, 6), (true, 7), (true, 8), (true, 9), (true, 10), (true, 11), (true, 12), (true, 13), (true, 14), (true, 15), (false, 16)] [16] mixA rfl (by kernel_rfl) (by kernel_rfl) rfl rfl ?_
      simp -implicitDefEqProofs (disch := first | omega | decide) only [seval, -Int.reducePow, -Nat.reducePow, cC, pv, binv, sMrWr1, undef, bits64, o6, o7, hpe, o8, g2, g3]
      refine ⟨by rw [byt_len]; omega, ?_⟩
      first | rw [hpu] | rw [hpu1]
      refine hK _ _ ?_
      clear hK K
      refine cv_region_then rfl ?_
      simp -implicitDefEqProofs (disch := first | omega | decide) only [seval, -Int.reducePow, -Nat.reducePow, cC, pv, binv, sMrWr1, undef, wrap_in, g2, g3]
      refine ⟨⟨i + 1, ?_⟩, ?_⟩
      · simp -implicitDefEqProofs (disch := first | omega | decide) only [seval, -Int.reducePow, -Nat.reducePow, cC, pv, binv, sMrWr1, undef, Int.natCast_add, g2, g3]
        omega
      · simp only [intOf]; omega
    refine cv_exit ?_
    simp only [blockQ, thenQ, if_true, ite_true]
    clear hK K
    refine hK _ _ ?_
    clear hK K
    have hit : ¬ i < n := by have := of_decide_eq_false ‹decide ((i : Int) < (n : Int)) = false›; omega
    refine cv_seq_k fun K hK => ?_
    refine cv_region_then rfl ?_
    simp -implicitDefEqProofs (disch := first | omega | decide) only [seval, -Int.reducePow, -Nat.reducePow, cC, pv, binv, sMrWr1, undef, g2, g3]
    refine hK _ _ ?_
    clear hK K
    refine cv_ret ⟨_, (by simp -implicitDefEqProofs (disch := first | omega | decide) only [seval, -Int.reducePow, -Nat.reducePow, cC, pv, binv, sMrWr1, undef, g2, g3]; rfl), fun w hw => ?_⟩
    rw [hSt, hStF, List.take_of_length_le (by omega)] at *
    first | exact ⟨(), rfl, hw.tail⟩ | exact ⟨(), rfl, trivial, hw.tail⟩
  · rw [if_neg hz] at hSt
    have hz' : decide (F = 0) = false := decide_eq_false hz
    have hStF : stF bs e k wd v F = bs := by unfold stF; rw [if_neg hz]
    refine cv_seq_k fun K hK => ?_
    refine cv_region_then rfl ?_
    simp -implicitDefEqProofs (disch := first | omega | decide) only [seval, -Int.reducePow, -Nat.reducePow, cC, pv, binv, sMrWr1, undef, hz']
    refine hK _ _ ?_
    clear hK K
    refine cv_cond ?_
    simp -implicitDefEqProofs (disch := first | omega | decide) only [seval, -Int.reducePow, -Nat.reducePow, cC, pv, binv, sMrWr1, undef]
    refine cv_seq_k fun K hK => ?_
    refine cv_region_then rfl ?_
    simp -implicitDefEqProofs (disch := first | omega | decide) only [seval, -Int.reducePow, -Nat.reducePow, cC, pv, binv, sMrWr1, undef]
    refine hK _ _ ?_
    clear hK K
    refine cv_ret ⟨_, (by simp -implicitDefEqProofs (disch := first | omega | decide) only [seval, -Int.reducePow, -Nat.reducePow, cC, pv, binv, sMrWr1, undef]; rfl), fun w hw => ?_⟩
    rw [hSt, hStF]
    first | exact ⟨(), rfl, hw.tail⟩ | exact ⟨(), rfl, trivial, hw.tail⟩
end Go.Proofs.Ytfaanphjaghbpaa
/- The arena's model: Write, Copy, Free, NewArena. -/
namespace Go.Proofs.Ytfaanphjaghbpaa
open Go.RowKit Go.Shelf
set_option linter.unusedVariables false
set_option linter.unusedSimpArgs false
set_option maxRecDepth 100000
theorem St.foot_apart {M : List Nat} {W w : World} {L : List Res} {r s : Res} {b : Nat} (hw : St M W (r :: L) w) (hs : s ∈ L) (h : b ∈ r.foot) : b ∉ s.foot := (List.pairwise_cons.1 hw.apart).1 s hs b h
set_option maxRecDepth 100000 in
theorem sMrWr21 : type_of% (And.intro (And.intro @eBox.eq_1 (And.intro @exV.eq_1 @mlL.eq_1)) (And.intro (And.intro @Nat.mul_one @wrap_in) (And.intro @cMp @cM))) := (And.intro (And.intro @eBox.eq_1 (And.intro @exV.eq_1 @mlL.eq_1)) (And.intro (And.intro @Nat.mul_one @wrap_in) (And.intro @cMp @cM)))
set_option maxHeartbeats 2000000 in
theorem rWrite_any (x : MrR) (e : Ext) (k : Int) (A : Option Addr) (m d : Nat) (l : List Nat) (fr : List Ext) (tk : List (Int × Int)) (W : World) (hst : St (feet (mrL x)) W (mrL x) W) (hI : Ex.Inv (x.n : Int) x.ml.us fr tk) (hl : x.ml.us.length ≤ 90) (hbs : x.bs.length = x.n)
    (hS : Sl W W.heap.size 1 A m d (byt l)) (hA : 0 < m → ∀ a, A = some a → a.block ∉ feet (mrL x)) :
    Calls Try.prog 27 #[.pointer (some ⟨x.ml.bM, 0, none⟩), exV e, .int .i64 k, .slice A m d] W
    fun en w' => ∃ _ : Unit, en = .returned (.int .i64 (wrErr x.ml.us e k m)) ∧ True ∧ St (feet (mrL x)) W (mrL { x with bs := wrF x.bs e k l (wrErr x.ml.us e k m) }) w' := by
  have hN1 := hI.N1
  have hlm := byt_row hS.len
  have hmx := hS.cap
  have hmx2 := hS.max
  have hpp := fun e he => (hI.prop e he).1
  have hpp2 := fun e he => (hI.prop e he).2
  have hA0 := hA
  obtain ⟨M, hM⟩ : ∃ M, feet (mrL x) = M := ⟨_, rfl⟩
  rw [hM] at hst hA ⊢
  clear hM
  obtain ⟨F, hF⟩ : ∃ F, wrErr x.ml.us e k m = F := ⟨_, rfl⟩
  have hF2 := hF
  unfold wrErr at hF2
  obtain ⟨q, hq⟩ : ∃ q : Bool, decide (e ∈ x.ml.us) = q := ⟨_, rfl⟩
  obtain ⟨⟨bM, N, UA, un, uc, us⟩, bB, n0, bs⟩ := x
  dsimp only at hI hbs hN1 hl hpp hpp2 hq hF hF2
  dsimp only
  have hno : ¬ F = 0 → wrF bs e k l F = bs := fun h => by unfold wrF; rw [if_neg h]
  unfold mrL at hst
  dsimp only at hst
  refine calls_cv (M := M) (n := 44) [.tmp 8] rfl Try.func27 rfl rfl (Nat.le_of_ble_eq_true rfl)  hst ?_
  refine cv_seq_k fun K hK => ?_
  refine cv_region_then rfl ?_
  simp -implicitDefEqProofs (disch := first | omega | decide) only [seval, -Int.reducePow, -Nat.reducePow, cC, pv, binv, sMrWr21, undef]
  intro b5 hb5 hf5
  refine hK _ _ ?_
  clear hK K
  refine cv_seq_k fun K hK => ?_
  refine cv_seq_k fun K hK => ?_
  refine cv_draw_of (pickL [0, 1, 2, 3] _) (fun w hw => hw.pick (by decide)) (by simp only [pickL, nth, suf_cons, suf_nil, List.mem_cons, true_or, or_true, and_true, eq_self]) [(true, 0), (true, 1), (true, 2), (true, 3), (false, 4), (true, 5)] [] mixA rfl (by kernel_rfl) (by kernel_rfl) rfl rfl ?_
  simp -implicitDefEqProofs (disch := first | omega | decide) only [seval, -Int.reducePow, -Nat.reducePow, cC, pv, binv, sMrWr21, undef]
  refine callV_ret (fun w hw => rHas_any ⟨bM, N, UA, un, uc, us⟩ e w (MrW.of (x := ⟨⟨bM, N, UA, un, uc, us⟩, bB, n0, bs⟩) hw 1 2 3 rfl rfl rfl (by dsimp only; omega) hpp hbs (by dsimp only; omega)).ml) ?_
  try simp -implicitDefEqProofs (disch := first | omega | decide) only [seval, -Int.reducePow, -Nat.reducePow, cC, pv, binv, sMrWr21, undef, hq]
  refine hK _ _ ?_
  clear hK K
  cases q
  · have he : e ∉ us := of_decide_eq_false hq
    rw [if_neg he] at hF2
    refine cv_cond ?_
    simp -implicitDefEqProofs (disch := first | omega | decide) only [seval, -Int.reducePow, -Nat.reducePow, cC, pv, binv, sMrWr21, undef]
    refine cv_seq_k fun K hK => ?_
    refine cv_region_then rfl ?_
    simp -implicitDefEqProofs (disch := first | omega | decide) only [seval, -Int.reducePow, -Nat.reducePow, cC, pv, binv, sMrWr21, undef]
    refine hK _ _ ?_
    clear hK K
    refine cv_ret ⟨_, (by simp -implicitDefEqProofs (disch := first | omega | decide) only [seval, -Int.reducePow, -Nat.reducePow, cC, pv, binv, sMrWr21, undef]; rfl), fun w hw => ?_⟩
    rw [hF, hno (by omega), ← hF2]
    first | exact ⟨(), rfl, hw.tail⟩ | exact ⟨(), rfl, trivial, hw.tail⟩
  · have he : e ∈ us := of_decide_eq_true hq
    rw [if_pos he] at hF2
    have hp := hpp e he
    have hp2 := hpp2 e he
    unfold Ext.prop at hp
    refine cv_cond ?_
    simp -implicitDefEqProofs (disch := first | omega | decide) only [seval, -Int.reducePow, -Nat.reducePow, cC, pv, binv, sMrWr21, undef]
    refine cv_skip ?_
    try simp only [blockQ, thenQ]
    refine hK _ _ ?_
    clear hK K
    refine cv_gen fun G1 hG => ?_
    have g1_0 := congrFun hG 0
    have g1_2 := congrFun hG 2
    have g1_3 := congrFun hG 3
    have g1_5 := congrFun hG 5
    clear hG
    try simp -implicitDefEqProofs (disch := first | omega | decide) only [seval, -Int.reducePow, -Nat.reducePow, cC, pv, binv, sMrWr21, undef] at g1_0 g1_2 g1_3 g1_5
    have g1 := And.intro g1_0 (And.intro g1_2 (And.intro g1_3 g1_5))
    refine cv_seq_k fun K hK => ?_
    refine cv_seq_k fun K hK => ?_
    refine cv_region_then rfl ?_
    simp -implicitDefEqProofs (disch := first | omega | decide) only [seval, -Int.reducePow, -Nat.reducePow, cC, pv, binv, sMrWr21, undef, g1]
    refine callV_ret (fun w hw => rwithin_any k (m : Int) e.len w (by omega) (by omega)) ?_
    try simp -implicitDefEqProofs (disch := first | omega | decide) only [seval, -Int.reducePow, -Nat.reducePow, cC, pv, binv, sMrWr21, undef, g1]
    refine hK _ _ ?_
    clear hK K
    refine cv_cond ?_
    simp -implicitDefEqProofs (disch := first | omega | decide) only [seval, -Int.reducePow, -Nat.reducePow, cC, pv, binv, sMrWr21, undef, g1]
    refine ⟨fun hc => ?_, fun hc => ?_⟩
    · have q2 := nd_true hc
      rw [if_neg q2] at hF2
      refine cv_seq_k fun K hK => ?_
      refine cv_region_then rfl ?_
      simp -implicitDefEqProofs (disch := first | omega | decide) only [seval, -Int.reducePow, -Nat.reducePow, cC, pv, binv, sMrWr21, undef, g1]
      refine hK _ _ ?_
      clear hK K
      refine cv_ret ⟨_, (by simp -implicitDefEqProofs (disch := first | omega | decide) only [seval, -Int.reducePow, -Nat.reducePow, cC, pv, binv, sMrWr21, undef, g1]; rfl), fun w hw => ?_⟩
      rw [hF, hno (by omega), ← hF2]
      first | exact ⟨(), rfl, hw.tail⟩ | exact ⟨(), rfl, trivial, hw.tail⟩
    have q2 := Decidable.not_not.1 (nd_false hc)
    rw [if_pos q2] at hF2
    obtain ⟨p, hpe⟩ : ∃ p : Nat, e.off + k = (p : Int) := ⟨(e.off + k).toNat, by omega⟩
    have hwr : wrF bs e k l F = splice bs p l := by unfold wrF; rw [if_pos hF2.symm, hpe]; rfl
    refine cv_skip ?_
    try simp only [blockQ, thenQ]
    refine hK _ _ ?_
    clear hK K
    refine cv_seq_k fun K hK => ?_
    refine cv_seq_k fun K hK => ?_
    refine cv_region_then rfl ?_
    simp -implicitDefEqProofs (disch := first | omega | decide) only [seval, -Int.reducePow, -Nat.reducePow, cC, pv, binv, sMrWr21, undef, g1]
    refine hK _ _ ?_
    clear hK K
    refine cv_gen fun G2 hG => ?_
    have g2_0 := congrFun hG 0
    have g2_2 := congrFun hG 2
    have g2_3 := congrFun hG 3
    have g2_5 := congrFun hG 5
    have g2_9 := congrFun hG 9
    clear hG
    try simp -implicitDefEqProofs (disch := first | omega | decide) only [seval, -Int.reducePow, -Nat.reducePow, cC, pv, binv, sMrWr21, undef, g1] at g2_0 g2_2 g2_3 g2_5 g2_9
    have g2 := And.intro g2_0 (And.intro g2_2 (And.intro g2_3 (And.intro g2_5 g2_9)))
    refine cv_block ?_
    refine cv_loop (fun F' L' => ∃ (i : Nat), F' 0 = G2 0 ∧ F' 2 = G2 2 ∧ F' 3 = G2 3 ∧ F' 5 = G2 5 ∧ F' 9 = .int .i64 (i : Int) ∧ L' = [eBox b5 e, .blk bM 84 [.int .i64 N, .slice UA un uc, .slice (some ⟨bB, 0, none⟩) n0 n0], .row (.slice UA un uc) 28 2 un (exCells us), .blk bB 5 (byt (splice bs p (l.take i)))] ∧ i ≤ m) (fun F' L' => (m : Int).toNat + 1 - (intOf (F' 9)).toNat) ?_ ?_
    · refine ⟨0, ?_⟩
      simp -implicitDefEqProofs (disch := first | omega | decide) only [seval, -Int.reducePow, -Nat.reducePow, cC, pv, binv, sMrWr21, undef, List.take_zero, splice_nil, g2]
      omega
    intro G3 L' hI
    obtain ⟨i, q0, q2, q3, q5, q9, rfl, hi⟩ := hI
    have g3_0 := q0.trans g2_0
    have g3_2 := q2.trans g2_2
    have g3_3 := q3.trans g2_3
    have g3_5 := q5.trans g2_5
    have g3_9 := q9
    clear q0 q2 q3 q5 q9
    have g3 := And.intro g3_0 (And.intro g3_2 (And.intro g3_3 (And.intro g3_5 g3_9)))
    refine cv_apart fun hap => ?_
    simp only [factL_nil, factL_blk, factL_row, neR_nil, neR_blk, neR_row, neB_nil, neB_blk, neB_row, and_true, true_and, List.not_mem_nil, or_false, sMrWr21, undef] at hap
    obtain hap2 := hap
    refine cv_fact (un = us.length) (fun w hw => (Exts.of_row hw (.tail _ (.tail _ (.head _)))).len.symm) fun hun => ?_
    have hu0 := List.length_pos_of_mem he
    refine cv_rowA 2 rfl (by omega) fun g hAA hg hNN => ?_
    subst hAA
    simp only [List.eraseIdx_cons_zero, List.eraseIdx_cons_succ, neB_nil, neB_blk, neB_row, neB_snap, and_true, List.not_mem_nil, or_false] at hNN hg
    replace hg := And.intro hg hNN
    clear hNN
    refine cv_seq_k fun K hK => ?_
    refine cv_seq_k fun K hK => ?_
    refine cv_region_then rfl ?_
    simp -implicitDefEqProofs (disch := first | omega | decide) only [seval, -Int.reducePow, -Nat.reducePow, cC, pv, binv, sMrWr21, undef, g2, g3]
    refine hK _ _ ?_
    clear hK K
    refine cv_cond ?_
    simp -implicitDefEqProofs (disch := first | omega | decide) only [seval, -Int.reducePow, -Nat.reducePow, cC, pv, binv, sMrWr21, undef, g2, g3]
    refine ⟨fun hc => ?_, fun hc => ?_⟩
    · refine cv_skip ?_
      try simp only [blockQ, thenQ]
      have hit : i < m := by have := of_decide_eq_true ‹decide ((i : Int) < (m : Int)) = true›; omega
      obtain ⟨c, hc⟩ := some_of (l := l) (i := i) (by omega)
      obtain ⟨bS, oS, rfl, hbS, -⟩ := hS.cells (by omega)
      have hne : bS ≠ bM ∧ bS ≠ g ∧ bS ≠ bB := by simpa [feet, mrL, Res.foot, Value.ownBlock] using hA0 (by omega) _ rfl
      have hapt : Apt (some ⟨bS, oS, none⟩) M := fun b o h => by cases h; exact hA (by omega) _ rfl
      have hst2 := splice_step (bs := bs) (p := p) (by omega) hc
      have hsl : (splice bs p (l.take i)).length = bs.length := splice_len (by rw [List.length_take]; omega)
      have hpu := byt_put2 (bs := splice bs p (l.take i)) (j := p + i) (c := c) (by omega)
      have hpu1 := byt_put (bs := splice bs p (l.take i)) (j := p + i) (c := c) (by omega)
      rw [hst2] at hpu hpu1
      have o8 : ((p : Int) + (i : Int)).toNat = p + i := by omega
      refine hK _ _ ?_
      clear hK K
      refine cv_seq_k fun K hK => ?_
      refine cv_block ?_
      refine cv_q ?_
      refine cv_draw_of (pickL [0, 1, 2] _) (fun w hw => hw.pick (by decide)) (by simp only [pickL, nth, suf_cons, suf_nil, List.mem_cons, true_or, or_true, and_true, eq_self]) [(true, 0), (true, 1), (true, 2), (true, 3), (true, 4), (true, 5), (true, 6), (true, 7), (true, 8), (true, 9), (true, 10), (true, 11), (true, 12), (true, 13), (true, 14), (false, 15)] [15] mixA rfl (by kernel_rfl) (by kernel_rfl) rfl rfl ?_
      simp -implicitDefEqProofs (disch := first | omega | decide) only [seval, -Int.reducePow, -Nat.reducePow, cC, pv, binv, sMrWr21, undef, hpe, o8, g2, g3]
      refine ⟨_, hS.ld1M hapt (m := 1) (v := .int .u8 (c : Int)) (i := i) rfl (byt_get hc), fun tok htok => ?_⟩
      subst htok
      simp -implicitDefEqProofs (disch := first | omega | decide) only [seval, -Int.reducePow, -Nat.reducePow, cC, pv, binv, sMrWr21, undef, hpe, o8, g2, g3]
      refine ⟨by rw [byt_len]; omega, ?_⟩
      first | rw [hpu] | rw [hpu1]
      refine hK _ _ ?_
      clear hK K
      refine cv_region_then rfl ?_
      simp -implicitDefEqProofs (disch := first | omega | decide) only [seval, -Int.reducePow, -Nat.reducePow, cC, pv, binv, sMrWr21, undef, wrap_in, g2, g3]
      refine ⟨⟨i + 1, ?_⟩, ?_⟩
      · simp -implicitDefEqProofs (disch := first | omega | decide) only [seval, -Int.reducePow, -Nat.reducePow, cC, pv, binv, sMrWr21, undef, Int.natCast_add, g2, g3]
        omega
      · simp only [intOf]; omega
    refine cv_exit ?_
    simp only [blockQ, thenQ, if_true, ite_true]
    clear hK K
    refine hK _ _ ?_
    clear hK K
    have hit : ¬ i < m := by have := of_decide_eq_false ‹decide ((i : Int) < (m : Int)) = false›; omega
    refine cv_seq_k fun K hK => ?_
    refine cv_region_then rfl ?_
    simp -implicitDefEqProofs (disch := first | omega | decide) only [seval, -Int.reducePow, -Nat.reducePow, cC, pv, binv, sMrWr21, undef, g2, g3]
    refine hK _ _ ?_
    clear hK K
    refine cv_ret ⟨_, (by simp -implicitDefEqProofs (disch := first | omega | decide) only [seval, -Int.reducePow, -Nat.reducePow, cC, pv, binv, sMrWr21, undef, g2, g3]; rfl), fun w hw => ?_⟩
    rw [hF, hwr, ← hF2]
    rw [List.take_of_length_le (by omega)] at *
    first | exact ⟨(), rfl, hw.tail⟩ | exact ⟨(), rfl, trivial, hw.tail⟩
set_option maxHeartbeats 2000000 in
theorem rCopy_any (x : MrR) (e : Ext) (k : Int) (s : Ext) (j n : Int) (fr : List Ext) (tk : List (Int × Int)) (W : World) (hst : St (feet (mrL x)) W (mrL x) W) (hI : Ex.Inv (x.n : Int) x.ml.us fr tk) (hl : x.ml.us.length ≤ 90) (hbs : x.bs.length = x.n) :
    Calls Try.prog 26 #[.pointer (some ⟨x.ml.bM, 0, none⟩), exV e, .int .i64 k, exV s, .int .i64 j, .int .i64 n] W
    fun en w' => ∃ _ : Unit, en = .returned (.int .i64 (cpErr x.ml.us e k s j n)) ∧ True ∧ St (feet (mrL x)) W (mrL { x with bs := cpF x.bs e k s j n (cpErr x.ml.us e k s j n) }) w' := by
  have hN1 := hI.N1
  have hpp := fun e he => (hI.prop e he).1
  have hpp2 := fun e he => (hI.prop e he).2
  obtain ⟨M, hM⟩ : ∃ M, feet (mrL x) = M := ⟨_, rfl⟩
  rw [hM] at hst ⊢
  clear hM
  obtain ⟨F, hF⟩ : ∃ F, cpErr x.ml.us e k s j n = F := ⟨_, rfl⟩
  have hF2 := hF
  unfold cpErr at hF2
  obtain ⟨q1, hq1⟩ : ∃ q : Bool, decide (e ∈ x.ml.us) = q := ⟨_, rfl⟩
  obtain ⟨q2, hq2⟩ : ∃ q : Bool, decide (s ∈ x.ml.us) = q := ⟨_, rfl⟩
  obtain ⟨⟨bM, N, UA, un, uc, us⟩, bB, n0, bs⟩ := x
  dsimp only at hI hbs hN1 hl hpp hpp2 hq1 hq2 hF hF2
  dsimp only
  have hno : ¬ F = 0 → cpF bs e k s j n F = bs := fun h => by unfold cpF; rw [if_neg h]
  unfold mrL at hst
  dsimp only at hst
  refine calls_cv (M := M) (n := 58) [.tmp 12] rfl Try.func26 rfl rfl (Nat.le_of_ble_eq_true rfl)  hst ?_
  refine cv_seq_k fun K hK => ?_
  refine cv_region_then rfl ?_
  simp -implicitDefEqProofs (disch := first | omega | decide) only [seval, -Int.reducePow, -Nat.reducePow, cC, pv, binv, sMrWr21, undef]
  intro b7 hb7 hf7 b9 hb9 hf9
  refine hK _ _ ?_
  clear hK K
  cases q1
  · have he : e ∉ us := of_decide_eq_false hq1
    rw [if_neg fun h => he h.1] at hF2
    refine cv_seq_k fun K hK => ?_
    refine cv_seq_k fun K hK => ?_
    refine cv_draw_of (pickL [0, 1, 2, 3, 4] _) (fun w hw => hw.pick (by decide)) (by simp only [pickL, nth, suf_cons, suf_nil, List.mem_cons, true_or, or_true, and_true, eq_self]) [(true, 0), (true, 1), (true, 2), (true, 3), (false, 4), (true, 5), (true, 6), (true, 7), (true, 8), (true, 9), (true, 10), (false, 11), (true, 12), (true, 13)] [] mixA rfl (by kernel_rfl) (by kernel_rfl) rfl rfl ?_
    simp -implicitDefEqProofs (disch := first | omega | decide) only [seval, -Int.reducePow, -Nat.reducePow, cC, pv, binv, sMrWr21, undef]
    refine callV_ret (fun w hw => rHas_any ⟨bM, N, UA, un, uc, us⟩ e w (MrW.of (x := ⟨⟨bM, N, UA, un, uc, us⟩, bB, n0, bs⟩) hw 2 3 4 rfl rfl rfl (by dsimp only; omega) hpp hbs (by dsimp only; omega)).ml) ?_
    try simp -implicitDefEqProofs (disch := first | omega | decide) only [seval, -Int.reducePow, -Nat.reducePow, cC, pv, binv, sMrWr21, undef, hq1]
    refine hK _ _ ?_
    clear hK K
    refine cv_cond ?_
    simp -implicitDefEqProofs (disch := first | omega | decide) only [seval, -Int.reducePow, -Nat.reducePow, cC, pv, binv, sMrWr21, undef]
    refine cv_seq_k fun K hK => ?_
    refine cv_region_then rfl ?_
    simp -implicitDefEqProofs (disch := first | omega | decide) only [seval, -Int.reducePow, -Nat.reducePow, cC, pv, binv, sMrWr21, undef]
    refine hK _ _ ?_
    clear hK K
    refine cv_ret ⟨_, (by simp -implicitDefEqProofs (disch := first | omega | decide) only [seval, -Int.reducePow, -Nat.reducePow, cC, pv, binv, sMrWr21, undef]; rfl), fun w hw => ?_⟩
    rw [hF, hno (by omega), ← hF2]
    first | exact ⟨(), rfl, hw.tail.tail⟩ | exact ⟨(), rfl, trivial, hw.tail.tail⟩
  cases q2
  · have he : s ∉ us := of_decide_eq_false hq2
    rw [if_neg fun h => he h.2] at hF2
    refine cv_seq_k fun K hK => ?_
    refine cv_seq_k fun K hK => ?_
    refine cv_draw_of (pickL [0, 1, 2, 3, 4] _) (fun w hw => hw.pick (by decide)) (by simp only [pickL, nth, suf_cons, suf_nil, List.mem_cons, true_or, or_true, and_true, eq_self]) [(true, 0), (true, 1), (true, 2), (true, 3), (false, 4), (true, 5), (true, 6), (true, 7), (true, 8), (true, 9), (true, 10), (false, 11), (true, 12), (true, 13)] [] mixA rfl (by kernel_rfl) (by kernel_rfl) rfl rfl ?_
    simp -implicitDefEqProofs (disch := first | omega | decide) only [seval, -Int.reducePow, -Nat.reducePow, cC, pv, binv, sMrWr21, undef]
    refine callV_ret (fun w hw => rHas_any ⟨bM, N, UA, un, uc, us⟩ e w (MrW.of (x := ⟨⟨bM, N, UA, un, uc, us⟩, bB, n0, bs⟩) hw 2 3 4 rfl rfl rfl (by dsimp only; omega) hpp hbs (by dsimp only; omega)).ml) ?_
    try simp -implicitDefEqProofs (disch := first | omega | decide) only [seval, -Int.reducePow, -Nat.reducePow, cC, pv, binv, sMrWr21, undef, hq1]
    refine callV_ret (fun w hw => rHas_any ⟨bM, N, UA, un, uc, us⟩ s w (MrW.of (x := ⟨⟨bM, N, UA, un, uc, us⟩, bB, n0, bs⟩) hw 2 3 4 rfl rfl rfl (by dsimp only; omega) hpp hbs (by dsimp only; omega)).ml) ?_
    try simp -implicitDefEqProofs (disch := first | omega | decide) only [seval, -Int.reducePow, -Nat.reducePow, cC, pv, binv, sMrWr21, undef, hq2]
    refine hK _ _ ?_
    clear hK K
    refine cv_cond ?_
    simp -implicitDefEqProofs (disch := first | omega | decide) only [seval, -Int.reducePow, -Nat.reducePow, cC, pv, binv, sMrWr21, undef]
    refine cv_seq_k fun K hK => ?_
    refine cv_region_then rfl ?_
    simp -implicitDefEqProofs (disch := first | omega | decide) only [seval, -Int.reducePow, -Nat.reducePow, cC, pv, binv, sMrWr21, undef]
    refine hK _ _ ?_
    clear hK K
    refine cv_ret ⟨_, (by simp -implicitDefEqProofs (disch := first | omega | decide) only [seval, -Int.reducePow, -Nat.reducePow, cC, pv, binv, sMrWr21, undef]; rfl), fun w hw => ?_⟩
    rw [hF, hno (by omega), ← hF2]
    first | exact ⟨(), rfl, hw.tail.tail⟩ | exact ⟨(), rfl, trivial, hw.tail.tail⟩
  have he : e ∈ us := of_decide_eq_true hq1
  have hs : s ∈ us := of_decide_eq_true hq2
  rw [if_pos ⟨he, hs⟩] at hF2
  have hp := hpp e he
  have hp2 := hpp2 e he
  have hs1 := hpp s hs
  have hs2 := hpp2 s hs
  unfold Ext.prop at hp hs1
  refine cv_seq_k fun K hK => ?_
  refine cv_seq_k fun K hK => ?_
  refine cv_draw_of (pickL [0, 1, 2, 3, 4] _) (fun w hw => hw.pick (by decide)) (by simp only [pickL, nth, suf_cons, suf_nil, List.mem_cons, true_or, or_true, and_true, eq_self]) [(true, 0), (true, 1), (true, 2), (true, 3), (false, 4), (true, 5), (true, 6), (true, 7), (true, 8), (true, 9), (true, 10), (false, 11), (true, 12), (true, 13)] [] mixA rfl (by kernel_rfl) (by kernel_rfl) rfl rfl ?_
  simp -implicitDefEqProofs (disch := first | omega | decide) only [seval, -Int.reducePow, -Nat.reducePow, cC, pv, binv, sMrWr21, undef]
  refine callV_ret (fun w hw => rHas_any ⟨bM, N, UA, un, uc, us⟩ e w (MrW.of (x := ⟨⟨bM, N, UA, un, uc, us⟩, bB, n0, bs⟩) hw 2 3 4 rfl rfl rfl (by dsimp only; omega) hpp hbs (by dsimp only; omega)).ml) ?_
  try simp -implicitDefEqProofs (disch := first | omega | decide) only [seval, -Int.reducePow, -Nat.reducePow, cC, pv, binv, sMrWr21, undef, hq1]
  refine callV_ret (fun w hw => rHas_any ⟨bM, N, UA, un, uc, us⟩ s w (MrW.of (x := ⟨⟨bM, N, UA, un, uc, us⟩, bB, n0, bs⟩) hw 2 3 4 rfl rfl rfl (by dsimp only; omega) hpp hbs (by dsimp only; omega)).ml) ?_
  try simp -implicitDefEqProofs (disch := first | omega | decide) only [seval, -Int.reducePow, -Nat.reducePow, cC, pv, binv, sMrWr21, undef, hq2]
  refine hK _ _ ?_
  clear hK K
  refine cv_cond ?_
  simp -implicitDefEqProofs (disch := first | omega | decide) only [seval, -Int.reducePow, -Nat.reducePow, cC, pv, binv, sMrWr21, undef]
  refine cv_skip ?_
  try simp only [blockQ, thenQ]
  refine hK _ _ ?_
  clear hK K
  refine cv_gen fun G4 hG => ?_
  have g4_0 := congrFun hG 0
  have g4_2 := congrFun hG 2
  have g4_4 := congrFun hG 4
  have g4_5 := congrFun hG 5
  have g4_7 := congrFun hG 7
  have g4_9 := congrFun hG 9
  clear hG
  try simp -implicitDefEqProofs (disch := first | omega | decide) only [seval, -Int.reducePow, -Nat.reducePow, cC, pv, binv, sMrWr21, undef] at g4_0 g4_2 g4_4 g4_5 g4_7 g4_9
  have g4 := And.intro g4_0 (And.intro g4_2 (And.intro g4_4 (And.intro g4_5 (And.intro g4_7 g4_9))))
  refine cv_seq_k fun K hK => ?_
  refine cv_seq_k fun K hK => ?_
  refine cv_region_then rfl ?_
  simp -implicitDefEqProofs (disch := first | omega | decide) only [seval, -Int.reducePow, -Nat.reducePow, cC, pv, binv, sMrWr21, undef, g4]
  refine hK _ _ ?_
  clear hK K
  refine cv_cond ?_
  simp -implicitDefEqProofs (disch := first | omega | decide) only [seval, -Int.reducePow, -Nat.reducePow, cC, pv, binv, sMrWr21, undef, g4]
  refine ⟨fun hc => ?_, fun hc => ?_⟩
  · have q1 := of_decide_eq_true hc
    rw [if_pos q1] at hF2
    refine cv_seq_k fun K hK => ?_
    refine cv_region_then rfl ?_
    simp -implicitDefEqProofs (disch := first | omega | decide) only [seval, -Int.reducePow, -Nat.reducePow, cC, pv, binv, sMrWr21, undef, g4]
    refine hK _ _ ?_
    clear hK K
    refine cv_ret ⟨_, (by simp -implicitDefEqProofs (disch := first | omega | decide) only [seval, -Int.reducePow, -Nat.reducePow, cC, pv, binv, sMrWr21, undef, g4]; rfl), fun w hw => ?_⟩
    rw [hF, hno (by omega), ← hF2]
    first | exact ⟨(), rfl, hw.tail.tail⟩ | exact ⟨(), rfl, trivial, hw.tail.tail⟩
  have q1 := of_decide_eq_false hc
  rw [if_neg q1] at hF2
  refine cv_skip ?_
  try simp only [blockQ, thenQ]
  refine hK _ _ ?_
  clear hK K
  by_cases a1 : 0 ≤ k ∧ n ≤ e.len ∧ k ≤ e.len - n
  · have a1' : decide (0 ≤ k ∧ n ≤ e.len ∧ k ≤ e.len - n) = true := decide_eq_true a1
    by_cases a2 : 0 ≤ j ∧ n ≤ s.len ∧ j ≤ s.len - n
    · have a2' : decide (0 ≤ j ∧ n ≤ s.len ∧ j ≤ s.len - n) = true := decide_eq_true a2
      rw [if_pos ⟨a1, a2⟩] at hF2
      obtain ⟨n, rfl⟩ : ∃ n' : Nat, n = (n' : Int) := ⟨n.toNat, by omega⟩
      have hrd : rdErr us s j (n : Int) = 0 := by unfold rdErr; rw [if_pos hs, if_neg (by omega), if_pos a2]
      have hrf : rdF bs s j (n : Int) 0 = winF bs s j (n : Int) := by unfold rdF; rw [if_pos rfl]
      have hwe : wrErr us e k (n : Int) = 0 := by unfold wrErr; rw [if_pos he, if_pos a1]
      have hwf : wrF bs e k (winF bs s j (n : Int)) 0 = cpF bs e k s j (n : Int) F := by unfold wrF cpF; rw [if_pos rfl, if_pos hF2.symm]
      have hwl : (winF bs s j (n : Int)).length = n := by
        unfold winF
        rw [Int.toNat_natCast, List.length_take, List.length_drop]
        omega
      refine cv_seq_k fun K hK => ?_
      refine cv_seq_k fun K hK => ?_
      refine cv_region_then rfl ?_
      simp -implicitDefEqProofs (disch := first | omega | decide) only [seval, -Int.reducePow, -Nat.reducePow, cC, pv, binv, sMrWr21, undef, g4]
      refine callV_ret (fun w hw => rwithin_any k (n : Int) e.len w (by omega) (by omega)) ?_
      try simp -implicitDefEqProofs (disch := first | omega | decide) only [seval, -Int.reducePow, -Nat.reducePow, cC, pv, binv, sMrWr21, undef, a1', g4]
      refine callV_ret (fun w hw => rwithin_any j (n : Int) s.len w (by omega) (by omega)) ?_
      try simp -implicitDefEqProofs (disch := first | omega | decide) only [seval, -Int.reducePow, -Nat.reducePow, cC, pv, binv, sMrWr21, undef, a2', g4]
      refine hK _ _ ?_
      clear hK K
      refine cv_cond ?_
      simp -implicitDefEqProofs (disch := first | omega | decide) only [seval, -Int.reducePow, -Nat.reducePow, cC, pv, binv, sMrWr21, undef, g4]
      refine cv_skip ?_
      try simp only [blockQ, thenQ]
      refine hK _ _ ?_
      clear hK K
      refine cv_seq_k fun K hK => ?_
      refine cv_region_then rfl ?_
      simp -implicitDefEqProofs (disch := first | omega | decide) only [seval, -Int.reducePow, -Nat.reducePow, cC, pv, binv, sMrWr21, undef, g4]
      refine callV_row (fun A n c => .tuple #[.slice A n c, .int .i64 0]) (fun w hw => (by have := rRead_any ⟨⟨bM, N, UA, un, uc, us⟩, bB, n0, bs⟩ s j (n : Int) fr tk w (MrW.of hw 2 3 4 rfl rfl rfl (by dsimp only; omega) hpp hbs (by dsimp only; omega)) hI; dsimp only at this; rw [hrd, hrf] at this; exact this)) ?_
      intro A m c hlr hr
      simp -implicitDefEqProofs (disch := first | omega | decide) only [seval, -Int.reducePow, -Nat.reducePow, cC, pv, binv, sMrWr21, undef, g4]
      refine hK _ _ ?_
      clear hK K
      have hm : m = n := by have := byt_row hlr; omega
      subst hm
      refine cv_seq_k fun K hK => ?_
      refine cv_region_then rfl ?_
      simp -implicitDefEqProofs (disch := first | omega | decide) only [seval, -Int.reducePow, -Nat.reducePow, cC, pv, binv, sMrWr21, undef, g4]
      refine callV_grp [3, 4, 5] [0, 1, 2] (by decide) (fun _ : Unit => .int .i64 0) (fun _ => mrL ⟨⟨bM, N, UA, un, uc, us⟩, bB, n0, cpF bs e k s j (m : Int) F⟩) (fun _ => True) (fun w hw hs => by
        have := rWrite_any ⟨⟨bM, N, UA, un, uc, us⟩, bB, n0, bs⟩ e k A m c (winF bs s j (m : Int)) fr tk w hs hI hl hbs (hw.slr 0 rfl) (fun hm0 a ha hf => by
          obtain ⟨r, hr5, hrb⟩ := List.mem_flatMap.1 hf
          subst ha
          exact hw.foot_apart (.tail _ (.tail _ hr5)) (by simp [Res.foot, Value.ownBlock]) hrb)
        dsimp only at this
        rw [hwe] at this
        rw [hwf] at this
        exact this) ?_
      intro _ _
      simp only [pickL, nth]
      simp -implicitDefEqProofs (disch := first | omega | decide) only [seval, -Int.reducePow, -Nat.reducePow, cC, pv, binv, sMrWr21, undef, g4]
      refine hK _ _ ?_
      clear hK K
      refine cv_ret ⟨_, (by simp -implicitDefEqProofs (disch := first | omega | decide) only [seval, -Int.reducePow, -Nat.reducePow, cC, pv, binv, sMrWr21, undef, g4]; rfl), fun w hw => ?_⟩
      rw [hF, ← hF2]
      rw [hF2] at *
      first | exact ⟨(), rfl, hw.pick (ix := [0, 1, 2]) (by decide)⟩ | exact ⟨(), rfl, trivial, hw.pick (ix := [0, 1, 2]) (by decide)⟩
    · have a2' : decide (0 ≤ j ∧ n ≤ s.len ∧ j ≤ s.len - n) = false := decide_eq_false a2
      rw [if_neg fun h => a2 h.2] at hF2
      refine cv_seq_k fun K hK => ?_
      refine cv_seq_k fun K hK => ?_
      refine cv_region_then rfl ?_
      simp -implicitDefEqProofs (disch := first | omega | decide) only [seval, -Int.reducePow, -Nat.reducePow, cC, pv, binv, sMrWr21, undef, g4]
      refine callV_ret (fun w hw => rwithin_any k n e.len w (by omega) (by omega)) ?_
      try simp -implicitDefEqProofs (disch := first | omega | decide) only [seval, -Int.reducePow, -Nat.reducePow, cC, pv, binv, sMrWr21, undef, a1', g4]
      refine callV_ret (fun w hw => rwithin_any j n s.len w (by omega) (by omega)) ?_
      try simp -implicitDefEqProofs (disch := first | omega | decide) only [seval, -Int.reducePow, -Nat.reducePow, cC, pv, binv, sMrWr21, undef, a2', g4]
      refine hK _ _ ?_
      clear hK K
      refine cv_cond ?_
      simp -implicitDefEqProofs (disch := first | omega | decide) only [seval, -Int.reducePow, -Nat.reducePow, cC, pv, binv, sMrWr21, undef, g4]
      refine cv_seq_k fun K hK => ?_
      refine cv_region_then rfl ?_
      simp -implicitDefEqProofs (disch := first | omega | decide) only [seval, -Int.reducePow, -Nat.reducePow, cC, pv, binv, sMrWr21, undef, g4]
      refine hK _ _ ?_
      clear hK K
      refine cv_ret ⟨_, (by simp -implicitDefEqProofs (disch := first | omega | decide) only [seval, -Int.reducePow, -Nat.reducePow, cC, pv, binv, sMrWr21, undef, g4]; rfl), fun w hw => ?_⟩
      rw [hF, hno (by omega), ← hF2]
      first | exact ⟨(), rfl, hw.tail.tail⟩ | exact ⟨(), rfl, trivial, hw.tail.tail⟩
  · have a1' : decide (0 ≤ k ∧ n ≤ e.len ∧ k ≤ e.len - n) = false := decide_eq_false a1
    rw [if_neg fun h => a1 h.1] at hF2
    refine cv_seq_k fun K hK => ?_
    refine cv_seq_k fun K hK => ?_
    refine cv_region_then rfl ?_
    simp -implicitDefEqProofs (disch := first | omega | decide) only [seval, -Int.reducePow, -Nat.reducePow, cC, pv, binv, sMrWr21, undef, g4]
    refine callV_ret (fun w hw => rwithin_any k n e.len w (by omega) (by omega)) ?_
    try simp -implicitDefEqProofs (disch := first | omega | decide) only [seval, -Int.reducePow, -Nat.reducePow, cC, pv, binv, sMrWr21, undef, a1', g4]
    refine hK _ _ ?_
    clear hK K
    refine cv_cond ?_
    simp -implicitDefEqProofs (disch := first | omega | decide) only [seval, -Int.reducePow, -Nat.reducePow, cC, pv, binv, sMrWr21, undef, g4]
    refine cv_seq_k fun K hK => ?_
    refine cv_region_then rfl ?_
    simp -implicitDefEqProofs (disch := first | omega | decide) only [seval, -Int.reducePow, -Nat.reducePow, cC, pv, binv, sMrWr21, undef, g4]
    refine hK _ _ ?_
    clear hK K
    refine cv_ret ⟨_, (by simp -implicitDefEqProofs (disch := first | omega | decide) only [seval, -Int.reducePow, -Nat.reducePow, cC, pv, binv, sMrWr21, undef, g4]; rfl), fun w hw => ?_⟩
    rw [hF, hno (by omega), ← hF2]
    first | exact ⟨(), rfl, hw.tail.tail⟩ | exact ⟨(), rfl, trivial, hw.tail.tail⟩
end Go.Proofs.Ytfaanphjaghbpaa
/- The arena's model: Free, NewArena, Alloc. -/
namespace Go.Proofs.Ytfaanphjaghbpaa
open Go.RowKit Go.Shelf
set_option linter.unusedVariables false
set_option linter.unusedSimpArgs false
set_option maxRecDepth 100000
set_option maxRecDepth 100000 in
theorem sMrFree1 : type_of% (And.intro (And.intro @eBox.eq_1 (And.intro @exV.eq_1 @mlL.eq_1)) (And.intro (And.intro @Nat.mul_one @wrap_in) (And.intro @cMp @cM))) := (And.intro (And.intro @eBox.eq_1 (And.intro @exV.eq_1 @mlL.eq_1)) (And.intro (And.intro @Nat.mul_one @wrap_in) (And.intro @cMp @cM)))
set_option maxHeartbeats 2000000 in
theorem mrFree_any (x : MrR) (e : Ext) (fr : List Ext) (tk : List (Int × Int)) (W : World) (hst : St (feet (mrL x)) W (mrL x) W) (hI : Ex.Inv (x.n : Int) x.ml.us fr tk) (hl : x.ml.us.length ≤ 90) (hbs : x.bs.length = x.n) :
    Calls Try.prog 58 #[.pointer (some ⟨x.ml.bM, 0, none⟩), exV e] W
    fun en w' => ∃ z : MlR, en = .returned (.int .i64 (if e ∈ x.ml.us then 0 else 6)) ∧ (z.bM = x.ml.bM ∧ z.N = x.ml.N ∧ z.us = (x.ml.us.filter fun x => decide (x ≠ e))) ∧
      St (feet (mrL x)) W (mrL { x with ml := z, bs := if e ∈ x.ml.us then splice x.bs e.off.toNat (List.replicate e.len.toNat 0) else x.bs }) w' := by
  have hN1 := hI.N1
  have hpp := fun e he => (hI.prop e he).1
  have hpp2 := fun e he => (hI.prop e he).2
  obtain ⟨M, hM⟩ : ∃ M, feet (mrL x) = M := ⟨_, rfl⟩
  rw [hM] at hst ⊢
  clear hM
  obtain ⟨⟨bM, N, UA, un, uc, us⟩, bB, n0, bs⟩ := x
  dsimp only at hI hbs hN1 hl hpp hpp2
  dsimp only
  unfold mrL at hst
  dsimp only at hst
  obtain ⟨F, hF⟩ : ∃ F : Int, (if e ∈ us then (0 : Int) else 6) = F := ⟨_, rfl⟩
  rw [hF]
  refine calls_cv (M := M) (n := 32) [.tmp 4] rfl Try.func58 rfl rfl (Nat.le_of_ble_eq_true rfl)  hst ?_
  refine cv_seq_k fun K hK => ?_
  refine cv_region_then rfl ?_
  simp -implicitDefEqProofs (disch := first | omega | decide) only [seval, -Int.reducePow, -Nat.reducePow, cC, pv, binv, sMrFree1, undef]
  intro b3 hb3 hf3
  refine hK _ _ ?_
  clear hK K
  refine cv_seq_k fun K hK => ?_
  refine cv_seq_k fun K hK => ?_
  refine cv_draw_of (pickL [0, 3] _) (fun w hw => hw.pick (by decide)) (by simp only [pickL, nth, suf_cons, suf_nil, List.mem_cons, true_or, or_true, and_true, eq_self]) [(true, 0), (true, 1), (true, 2), (true, 3), (false, 4), (true, 5)] [] mixA rfl (by kernel_rfl) (by kernel_rfl) rfl rfl ?_
  simp -implicitDefEqProofs (disch := first | omega | decide) only [seval, -Int.reducePow, -Nat.reducePow, cC, pv, binv, sMrFree1, undef]
  refine callV_grp [1, 2] [0, 3] (by decide) (fun _ : MlR => .int .i64 F) (fun z => mlL 84 [.slice (some ⟨bB, 0, none⟩) n0 n0] z) (fun z => z.bM = bM ∧ z.N = N ∧ z.us = (us.filter fun x => decide (x ≠ e))) (fun w hw hs => by
    have := rFree_any 84 [.slice (some ⟨bB, 0, none⟩) n0 n0] ⟨bM, N, UA, un, uc, us⟩ e w hs hl
    dsimp only at this
    rw [hF] at this
    exact this) ?_
  rintro ⟨bM', N', UA2, un2, uc2, us2⟩ ⟨hz1, hz2, hz3⟩
  dsimp only at hz1 hz2 hz3
  subst hz1 hz2
  simp only [pickL, nth]
  simp -implicitDefEqProofs (disch := first | omega | decide) only [seval, -Int.reducePow, -Nat.reducePow, cC, pv, binv, sMrFree1, undef]
  refine hK _ _ ?_
  clear hK K
  by_cases he : e ∈ us
  · rw [if_pos he] at hF
    subst hF
    have hp := hpp e he
    have hp2 := hpp2 e he
    unfold Ext.prop at hp
    obtain ⟨o, q, rfl⟩ : ∃ o q : Nat, e = ⟨(o : Int), (q : Int)⟩ := ⟨e.off.toNat, e.len.toNat, by cases e; simp at *; omega⟩
    dsimp only at hp hp2
    obtain ⟨l, hl0⟩ : ∃ l : List Nat, List.replicate q 0 = l := ⟨_, rfl⟩
    have hll : l.length = q := by rw [← hl0]; simp
    refine cv_seq_k fun K hK => ?_
    refine cv_region_then rfl ?_
    simp -implicitDefEqProofs (disch := first | omega | decide) only [seval, -Int.reducePow, -Nat.reducePow, cC, pv, binv, sMrFree1, undef]
    refine hK _ _ ?_
    clear hK K
    refine cv_cond ?_
    simp -implicitDefEqProofs (disch := first | omega | decide) only [seval, -Int.reducePow, -Nat.reducePow, cC, pv, binv, sMrFree1, undef]
    refine cv_skip ?_
    try simp only [blockQ, thenQ]
    refine hK _ _ ?_
    clear hK K
    refine cv_gen fun G1 hG => ?_
    have g1_0 := congrFun hG 0
    have g1_3 := congrFun hG 3
    clear hG
    try simp -implicitDefEqProofs (disch := first | omega | decide) only [seval, -Int.reducePow, -Nat.reducePow, cC, pv, binv, sMrFree1, undef] at g1_0 g1_3
    have g1 := And.intro g1_0 g1_3
    refine cv_seq_k fun K hK => ?_
    refine cv_seq_k fun K hK => ?_
    refine cv_region_then rfl ?_
    simp -implicitDefEqProofs (disch := first | omega | decide) only [seval, -Int.reducePow, -Nat.reducePow, cC, pv, binv, sMrFree1, undef, g1]
    refine hK _ _ ?_
    clear hK K
    refine cv_gen fun G2 hG => ?_
    have g2_0 := congrFun hG 0
    have g2_3 := congrFun hG 3
    have g2_6 := congrFun hG 6
    clear hG
    try simp -implicitDefEqProofs (disch := first | omega | decide) only [seval, -Int.reducePow, -Nat.reducePow, cC, pv, binv, sMrFree1, undef, g1] at g2_0 g2_3 g2_6
    have g2 := And.intro g2_0 (And.intro g2_3 g2_6)
    refine cv_block ?_
    refine cv_loop (fun F' L' => ∃ (i : Nat), F' 0 = G2 0 ∧ F' 3 = G2 3 ∧ F' 6 = .int .i64 ((o : Int) + (i : Int)) ∧ L' = [.blk bM' 84 [.int .i64 N', .slice UA2 un2 uc2, .slice (some ⟨bB, 0, none⟩) n0 n0], .row (.slice UA2 un2 uc2) 28 2 un2 (exCells us2), .blk b3 28 [.int .i64 (o : Int), .int .i64 (q : Int)], .blk bB 5 (byt (splice bs o (l.take i)))] ∧ i ≤ q) (fun F' L' => ((o : Int) + (q : Int)).toNat + 1 - (intOf (F' 6)).toNat) ?_ ?_
    · refine ⟨0, ?_⟩
      simp -implicitDefEqProofs (disch := first | omega | decide) only [seval, -Int.reducePow, -Nat.reducePow, cC, pv, binv, sMrFree1, undef, List.take_zero, splice_nil, g2]
      simp
    intro G3 L' hI
    obtain ⟨i, q0, q3, q6, rfl, hi⟩ := hI
    have g3_0 := q0.trans g2_0
    have g3_3 := q3.trans g2_3
    have g3_6 := q6
    clear q0 q3 q6
    have g3 := And.intro g3_0 (And.intro g3_3 g3_6)
    refine cv_apart fun hap => ?_
    simp only [factL_nil, factL_blk, factL_row, neR_nil, neR_blk, neR_row, neB_nil, neB_blk, neB_row, and_true, true_and, List.not_mem_nil, or_false, sMrFree1, undef] at hap
    obtain hap2 := hap
    refine cv_seq_k fun K hK => ?_
    refine cv_seq_k fun K hK => ?_
    refine cv_region_then rfl ?_
    simp -implicitDefEqProofs (disch := first | omega | decide) only [seval, -Int.reducePow, -Nat.reducePow, cC, pv, binv, sMrFree1, undef, g2, g3]
    refine hK _ _ ?_
    clear hK K
    refine cv_cond ?_
    simp -implicitDefEqProofs (disch := first | omega | decide) only [seval, -Int.reducePow, -Nat.reducePow, cC, pv, binv, sMrFree1, undef, g2, g3]
    refine ⟨fun hc => ?_, fun hc => ?_⟩
    · refine cv_skip ?_
      try simp only [blockQ, thenQ]
      have hit : i < q := by have := of_decide_eq_true ‹_›; omega
      have hgi : l[i]? = some 0 := by rw [← hl0, List.getElem?_replicate, if_pos hit]
      have hst2 := splice_step (bs := bs) (p := o) (by omega) hgi
      have hsl : (splice bs o (l.take i)).length = bs.length := splice_len (by rw [List.length_take]; omega)
      have hpu := byt_put2 (bs := splice bs o (l.take i)) (j := o + i) (c := 0) (by omega)
      have hpu1 := byt_put (bs := splice bs o (l.take i)) (j := o + i) (c := 0) (by omega)
      rw [hst2] at hpu hpu1
      have o8 : ((o : Int) + (i : Int)).toNat = o + i := by omega
      refine hK _ _ ?_
      clear hK K
      refine cv_seq_k fun K hK => ?_
      refine cv_block ?_
      refine cv_region_q rfl ?_
      simp -implicitDefEqProofs (disch := first | omega | decide) only [seval, -Int.reducePow, -Nat.reducePow, cC, pv, binv, sMrFree1, undef, o8, g2, g3]
      refine ⟨by rw [byt_len]; omega, ?_⟩
      first | rw [show ((0 : Int)) = ((0 : Nat) : Int) from rfl, hpu] | rw [show ((0 : Int)) = ((0 : Nat) : Int) from rfl, hpu1] | trace_state
      refine hK _ _ ?_
      clear hK K
      refine cv_region_then rfl ?_
      simp -implicitDefEqProofs (disch := first | omega | decide) only [seval, -Int.reducePow, -Nat.reducePow, cC, pv, binv, sMrFree1, undef, wrap_in, g2, g3]
      refine ⟨⟨i + 1, ?_⟩, ?_⟩
      · simp -implicitDefEqProofs (disch := first | omega | decide) only [seval, -Int.reducePow, -Nat.reducePow, cC, pv, binv, sMrFree1, undef, Int.natCast_add, Int.add_assoc, g2, g3]
        omega
      · simp only [intOf]; omega
    refine cv_exit ?_
    simp only [blockQ, thenQ, if_true, ite_true]
    clear hK K
    refine hK _ _ ?_
    clear hK K
    have hit : ¬ i < q := by have := of_decide_eq_false ‹_›; omega
    refine cv_seq_k fun K hK => ?_
    refine cv_region_then rfl ?_
    simp -implicitDefEqProofs (disch := first | omega | decide) only [seval, -Int.reducePow, -Nat.reducePow, cC, pv, binv, sMrFree1, undef, g2, g3]
    refine hK _ _ ?_
    clear hK K
    refine cv_ret ⟨_, (by simp -implicitDefEqProofs (disch := first | omega | decide) only [seval, -Int.reducePow, -Nat.reducePow, cC, pv, binv, sMrFree1, undef, g2, g3]; rfl), fun w hw => ?_⟩
    rw [List.take_of_length_le (by omega)] at *
    have h9 := hw.pick (ix := [0, 1, 3]) (by decide)
    refine ⟨⟨bM', N', UA2, un2, uc2, us2⟩, rfl, ⟨rfl, rfl, hz3⟩, ?_⟩
    rw [if_pos he, Int.toNat_natCast, Int.toNat_natCast, hl0]
    exact h9
  · rw [if_neg he] at hF
    subst hF
    refine cv_seq_k fun K hK => ?_
    refine cv_region_then rfl ?_
    simp -implicitDefEqProofs (disch := first | omega | decide) only [seval, -Int.reducePow, -Nat.reducePow, cC, pv, binv, sMrFree1, undef]
    refine hK _ _ ?_
    clear hK K
    refine cv_cond ?_
    simp -implicitDefEqProofs (disch := first | omega | decide) only [seval, -Int.reducePow, -Nat.reducePow, cC, pv, binv, sMrFree1, undef]
    refine cv_seq_k fun K hK => ?_
    refine cv_region_then rfl ?_
    simp -implicitDefEqProofs (disch := first | omega | decide) only [seval, -Int.reducePow, -Nat.reducePow, cC, pv, binv, sMrFree1, undef]
    refine hK _ _ ?_
    clear hK K
    refine cv_ret ⟨_, (by simp -implicitDefEqProofs (disch := first | omega | decide) only [seval, -Int.reducePow, -Nat.reducePow, cC, pv, binv, sMrFree1, undef]; rfl), fun w hw => ?_⟩
    have h9 := hw.pick (ix := [0, 1, 3]) (by decide)
    refine ⟨⟨bM', N', UA2, un2, uc2, us2⟩, rfl, ⟨rfl, rfl, hz3⟩, ?_⟩
    rw [if_neg he]
    exact h9
set_option maxHeartbeats 2000000 in
theorem newArena_any (n : Nat) (W : World) (hn : n ≤ 1048576) : Calls Try.prog 39 #[.int .i64 (n : Int)] W
    fun en w' => ∃ x : MrR, en = .returned (.pointer (some ⟨x.ml.bM, 0, none⟩)) ∧ (x.n = n ∧ x.ml.N = (n : Int) ∧ x.ml.us = [] ∧ x.bs = List.replicate n 0) ∧ St [] W (mrL x) w' := by
  refine calls_cv (M := []) (n := 9) [.tmp 2] rfl Try.func39 rfl rfl (Nat.le_of_ble_eq_true rfl) (St.nil _ _) ?_
  refine cv_seq_k fun K hK => ?_
  refine cv_region_then rfl ?_
  simp -implicitDefEqProofs (disch := first | omega | decide) only [seval, -Int.reducePow, -Nat.reducePow, cC, pv, binv, sMrFree1, undef]
  refine hK _ _ ?_
  clear hK K
  refine cv_nil 28 2 ?_
  refine cv_seq_k fun K hK => ?_
  refine cv_region_then rfl ?_
  simp -implicitDefEqProofs (disch := first | omega | decide) only [seval, -Int.reducePow, -Nat.reducePow, cC, pv, binv, sMrFree1, undef]
  refine xv_make (u := .int .u8 0) tap36 rfl rfl rfl (by omega) (by omega) ?_
  intro bB hbB hfB
  simp -implicitDefEqProofs (disch := first | omega | decide) only [seval, -Int.reducePow, -Nat.reducePow, cC, pv, binv, sMrFree1, undef]
  intro bM hbM hfM
  rw [byt_rep]
  refine hK _ _ ?_
  clear hK K
  refine cv_ret ⟨_, (by simp -implicitDefEqProofs (disch := first | omega | decide) only [seval, -Int.reducePow, -Nat.reducePow, cC, pv, binv, sMrFree1, undef]; rfl), fun w hw => ?_⟩
  exact ⟨⟨⟨bM, n, none, 0, 0, []⟩, bB, n, List.replicate n 0⟩, rfl, ⟨rfl, rfl, rfl, rfl⟩, hw.pick (ix := [0, 2, 1]) (by decide)⟩
end Go.Proofs.Ytfaanphjaghbpaa
/- An arena and its model, side by side: plain. -/
namespace Go.Proofs.Ytfaanphjaghbpaa
open Go.RowKit Go.Shelf
set_option linter.unusedVariables false
set_option linter.unusedSimpArgs false
structure Pr (x : ArR) (y : MrR) : Prop where
  n : y.n = x.N
  N : y.ml.N = (x.N : Int)
  bs : y.bs = x.bs
  len : x.bs.length = x.N
  lt : ∀ b ∈ x.bs, b < 256
  inv : Ex.Inv (x.N : Int) y.ml.us x.al.fr x.al.tk
  zero : ∀ i : Nat, i < x.N → ¬ Ex.mem y.ml.us (i : Int) → x.bs[i]? = some 0
/-- A change of bytes within an allocated extent. -/
structure Chg (us : List Ext) (e : Ext) (bs bs' : List Nat) : Prop where
  len : bs'.length = bs.length
  lt : (∀ b ∈ bs, b < 256) → ∀ b ∈ bs', b < 256
  out : bs' = bs ∨ (e ∈ us ∧ ∀ i : Nat, ¬ Ex.inn e (i : Int) → bs'[i]? = bs[i]?)
theorem Chg.refl (us : List Ext) (e : Ext) (bs : List Nat) : Chg us e bs bs := ⟨rfl, id, .inl rfl⟩
theorem splice_out {bs ns : List Nat} {p : Nat} {e : Ext} (h : p + ns.length ≤ bs.length) (h1 : e.off ≤ (p : Int)) (h2 : (p : Int) + ns.length ≤ e.off + e.len) (i : Nat) (hi : ¬ Ex.inn e (i : Int)) : (splice bs p ns)[i]? = bs[i]? := by
  have hi : ¬ (e.off ≤ (i : Int) ∧ (i : Int) < e.off + e.len) := hi
  rw [splice_get h]
  by_cases a : i < p
  · rw [if_pos a]
  · rw [if_neg a, if_neg (by omega)]
theorem chg_splice {us : List Ext} {e : Ext} {bs ns : List Nat} {p : Nat} (he : e ∈ us) (h : p + ns.length ≤ bs.length) (h1 : e.off ≤ (p : Int)) (h2 : (p : Int) + ns.length ≤ e.off + e.len) (hn : (∀ b ∈ bs, b < 256) → ∀ b ∈ ns, b < 256) : Chg us e bs (splice bs p ns) :=
  ⟨splice_len h, fun hb => splice_lt hb (hn hb), .inr ⟨he, splice_out h h1 h2⟩⟩
section
variable {N : Nat} {us fr : List Ext} {tk : List (Int × Int)} {bs : List Nat}
theorem stF_chg (hI : Ex.Inv (N : Int) us fr tk) (hbs : bs.length = N) (e : Ext) (k w : Int) (v : Nat) : Chg us e bs (stF bs e k w v (stErr us e k w v)) := by
  unfold stF
  split
  · rename_i h0
    have hf : fErr us e k w = 0 := by
      unfold stErr at h0
      split at h0
      · assumption
      · exact h0
    obtain ⟨p, n, hp, hw, hpn, hn, he, hk0, hkl, hpe⟩ := fErr_ok (x := ⟨⟨0, 0, none, 0, 0, [], []⟩, 0, 0, N, []⟩) hI hf
    dsimp only at hpn
    have hlb := leB_len v w.toNat
    rw [hp]
    exact chg_splice he (by omega) (by omega) (by omega) fun _ => leB_lt
  · exact Chg.refl _ _ _
theorem wrF_chg (hI : Ex.Inv (N : Int) us fr tk) (hbs : bs.length = N) (e : Ext) (k : Int) (l : List Nat) (hl : ∀ b ∈ l, b < 256) : Chg us e bs (wrF bs e k l (wrErr us e k l.length)) := by
  unfold wrF
  split
  · rename_i h0
    unfold wrErr at h0
    split at h0
    · rename_i he
      split at h0
      · rename_i hk
        obtain ⟨hp, hN⟩ := hI.prop e he
        unfold Ext.prop at hp
        exact chg_splice he (by omega) (by omega) (by omega) fun _ => hl
      · cases h0
    · cases h0
  · exact Chg.refl _ _ _
theorem cpF_chg (hI : Ex.Inv (N : Int) us fr tk) (hbs : bs.length = N) (e : Ext) (k : Int) (s : Ext) (j n : Int) : Chg us e bs (cpF bs e k s j n (cpErr us e k s j n)) := by
  unfold cpF
  split
  · rename_i h0
    unfold cpErr at h0
    split at h0
    · rename_i he
      split at h0
      · cases h0
      · split at h0
        · rename_i hn hk
          obtain ⟨hp, hN⟩ := hI.prop e he.1
          obtain ⟨hs, hsN⟩ := hI.prop s he.2
          unfold Ext.prop at hp hs
          have hwl : (winF bs s j n).length = n.toNat := by
            unfold winF
            rw [List.length_take, List.length_drop]
            omega
          exact chg_splice he.1 (by omega) (by omega) (by omega) fun hb => winF_lt hb s j n
        · cases h0
    · cases h0
  · exact Chg.refl _ _ _
end
variable {x : ArR} {y : MrR}
theorem Pr.chg (h : Pr x y) {e : Ext} {bs : List Nat} (c : Chg y.ml.us e x.bs bs) : Pr { x with bs := bs } { y with bs := bs } := by
  refine ⟨h.n, h.N, rfl, c.len.trans h.len, c.lt h.lt, h.inv, fun i hi hm => ?_⟩
  have h0 := h.zero i hi hm
  rcases c.out with ho | ⟨he, ho⟩
  · show bs[i]? = some 0
    rw [ho, h0]
  · show bs[i]? = some 0
    rw [ho i fun q => hm ⟨e, he, q⟩, h0]
theorem Pr.alloc (h : Pr x y) {e : Ext} {al : AlR} {z : MlR} (hI : Ex.Inv (x.N : Int) (y.ml.us ++ [e]) al.fr al.tk) (hN : z.N = y.ml.N) (hu : z.us = y.ml.us ++ [e]) : Pr { x with al := al } { y with ml := z } := by
  refine ⟨h.n, hN.trans h.N, h.bs, h.len, h.lt, by dsimp only; rw [hu]; exact hI, fun i hi hm => h.zero i hi fun q => hm ?_⟩
  show Ex.mem z.us _
  rw [hu, Ex.mem_app]
  exact .inl q
theorem Pr.free (h : Pr x y) {e : Ext} {al : AlR} {z : MlR} (he : e ∈ y.ml.us) (hI : Ex.Inv (x.N : Int) (y.ml.us.filter fun x => decide (x ≠ e)) al.fr al.tk) (hN : z.N = y.ml.N) (hu : z.us = y.ml.us.filter fun x => decide (x ≠ e)) :
    Pr { x with al := al, bs := splice x.bs e.off.toNat (List.replicate e.len.toNat 0) } { y with ml := z, bs := splice x.bs e.off.toNat (List.replicate e.len.toNat 0) } := by
  obtain ⟨hp, hpN⟩ := h.inv.prop e he
  unfold Ext.prop at hp
  have hln := h.len
  have hL : e.off.toNat + (List.replicate e.len.toNat 0).length ≤ x.bs.length := by rw [List.length_replicate]; omega
  refine ⟨h.n, hN.trans h.N, rfl, (splice_len hL).trans h.len, splice_lt h.lt fun b hb => by rw [List.eq_of_mem_replicate hb]; omega, by dsimp only; rw [hu]; exact hI, fun i hi hm => ?_⟩
  show (splice x.bs e.off.toNat (List.replicate e.len.toNat 0))[i]? = some 0
  have hm : ¬ Ex.mem (y.ml.us.filter fun x => decide (x ≠ e)) (i : Int) := fun q => hm (by show Ex.mem z.us _; rw [hu]; exact q)
  by_cases hin : Ex.inn e (i : Int)
  · have hin : e.off ≤ (i : Int) ∧ (i : Int) < e.off + e.len := hin
    rw [splice_get hL, if_neg (by omega), if_pos (by rw [List.length_replicate]; omega), List.getElem?_replicate, if_pos (by omega)]
  · rw [splice_out (e := e) hL (by omega) (by rw [List.length_replicate]; omega) i hin]
    refine h.zero i hi fun ⟨u, hu1, hu2⟩ => ?_
    by_cases hue : u = e
    · exact hin (hue ▸ hu2)
    · exact hm ⟨u, List.mem_filter.2 ⟨hu1, by simpa using hue⟩, hu2⟩
theorem Pr.new {al : AlR} {bR bB N : Nat} {ml : MlR} {bB2 : Nat} (hI : Ex.Inv (N : Int) [] al.fr al.tk) (hN : ml.N = (N : Int)) (hu : ml.us = []) : Pr ⟨al, bR, bB, N, List.replicate N 0⟩ ⟨ml, bB2, N, List.replicate N 0⟩ := by
  refine ⟨rfl, hN, rfl, by simp, fun b hb => by rw [List.eq_of_mem_replicate hb]; omega, by dsimp only; rw [hu]; exact hI, fun i hi _ => ?_⟩
  dsimp only at hi ⊢
  rw [List.getElem?_replicate, if_pos hi]
end Go.Proofs.Ytfaanphjaghbpaa
/- The arena laws' helpers: extent, off, alike. -/
namespace Go.Proofs.Ytfaanphjaghbpaa
open Go.RowKit Go.Shelf
set_option linter.unusedVariables false
set_option linter.unusedSimpArgs false
set_option maxRecDepth 100000
def extP (us : List Ext) (k : Nat) : Ext := if us.length = 0 then ⟨(k : Int), 16⟩ else Ex.get us (k % us.length)
def extF (us : List Ext) (k how : Nat) : Ext := if how % 12 = 11 then ⟨(extP us k).off, (extP us k).len + 16⟩ else extP us k
def offF (x : Nat) : Int := ((x % 24 : Nat) : Int) - ((x / 240 : Nat) : Int) * 9
set_option maxRecDepth 100000 in
theorem sArHelp1 : type_of% (And.intro (And.intro @eBox.eq_1 (And.intro @exV.eq_1 @mlL.eq_1)) (And.intro (And.intro @Nat.mul_one @wrap_in) (And.intro @cMp @cM))) := (And.intro (And.intro @eBox.eq_1 (And.intro @exV.eq_1 @mlL.eq_1)) (And.intro (And.intro @Nat.mul_one @wrap_in) (And.intro @cMp @cM)))
theorem off_any (x : Nat) (W : World) (hx : x < 256) : Calls Try.prog 21 #[.int .u8 (x : Int)] W
    fun e w' => e = .returned (.int .i64 (offF x)) ∧ Below W.heap.size W w' := by
  refine calls_cv (M := []) (n := 11) [.tmp 2] rfl Try.func21 rfl rfl (Nat.le_of_ble_eq_true rfl) (St.nil _ _) ?_
  refine cv_seq_k fun K hK => ?_
  refine cv_region_then rfl ?_
  simp -implicitDefEqProofs (disch := first | omega | decide) only [seval, -Int.reducePow, -Nat.reducePow, cC, pv, binv, sArHelp1, undef]
  refine hK _ _ ?_
  clear hK K
  have e1 : (x : Int) % 24 = ((x % 24 : Nat) : Int) := by omega
  have e2 : IntKind.u8.wrap ((x : Int) / 240) = ((x / 240 : Nat) : Int) := by rw [IntKind.wrap_u8]; omega
  refine cv_seq_k fun K hK => ?_
  refine cv_region_then rfl ?_
  simp -implicitDefEqProofs (disch := first | omega | decide) only [seval, -Int.reducePow, -Nat.reducePow, cC, pv, binv, sArHelp1, undef, e1, e2]
  refine hK _ _ ?_
  clear hK K
  refine cv_ret ⟨_, (by simp -implicitDefEqProofs (disch := first | omega | decide) only [seval, -Int.reducePow, -Nat.reducePow, cC, pv, binv, sArHelp1, undef]; rfl), fun w hw => ?_⟩
  exact ⟨rfl, hw.below⟩
set_option maxHeartbeats 1000000 in
theorem extent_any (x : MrR) (k how : Nat) (W : World) (hk : k < 256) (hh : how < 256) (h : MrW W W.heap.size x) : Calls Try.prog 19 #[.pointer (some ⟨x.ml.bM, 0, none⟩), .int .u8 (k : Int), .int .u8 (how : Int)] W
    fun e w' => e = .returned (exV (extF x.ml.us k how)) ∧ Below W.heap.size W w' := by
  have hbM := h.lt
  obtain ⟨⟨bM, N, UA, un, uc, us⟩, bB, n0, bs⟩ := x
  have hE := h.ml.us
  have hl := hE.len
  have h100 := h.ml.len
  have hpr := h.ml.prop
  dsimp only at *
  obtain ⟨P, hP⟩ : ∃ P, extP us k = P := ⟨_, rfl⟩
  refine calls_cv2 (M := []) (n := 42) [.cell 6 28] rfl Try.func19 rfl rfl (Nat.le_of_ble_eq_true rfl) (St.nil _ _) ?_
  refine cv_seq_k fun K hK => ?_
  refine cv_region_then rfl ?_
  simp -implicitDefEqProofs (disch := first | omega | decide) only [seval, -Int.reducePow, -Nat.reducePow, cC, pv, binv, sArHelp1, undef]
  intro b6 hb6
  refine hK _ _ ?_
  clear hK K
  refine cv_seq_k fun K hK => ?_
  refine cv_region_then rfl ?_
  simp -implicitDefEqProofs (disch := first | omega | decide) only [seval, -Int.reducePow, -Nat.reducePow, cC, pv, binv, sArHelp1, undef]
  intro b7 hb7 hf7
  refine hK _ _ ?_
  clear hK K
  refine cv_gen fun G1 hG => ?_
  have g1_0 := congrFun hG 0
  have g1_1 := congrFun hG 1
  have g1_2 := congrFun hG 2
  have g1_6 := congrFun hG 6
  have g1_7 := congrFun hG 7
  clear hG
  try simp -implicitDefEqProofs (disch := first | omega | decide) only [seval, -Int.reducePow, -Nat.reducePow, cC, pv, binv, sArHelp1, undef] at g1_0 g1_1 g1_2 g1_6 g1_7
  have g1 := And.intro g1_0 (And.intro g1_1 (And.intro g1_2 (And.intro g1_6 g1_7)))
  refine cv_seq_k fun K hK => ?_
  refine cv_cut (fun _ _ => True) (fun F' L' => F' 2 = G1 2 ∧ F' 6 = G1 6 ∧ F' 7 = G1 7 ∧ L' = [eBox b7 P, eBox b6 ⟨0, 0⟩]) ?_ ?_
  · refine cv_seq_k fun K hK => ?_
    refine cv_region_then rfl ?_
    simp -implicitDefEqProofs (disch := first | omega | decide) only [seval, -Int.reducePow, -Nat.reducePow, cC, pv, binv, sArHelp1, undef, g1]
    refine ⟨_, h.blk.ld1 (m := 1) (i := 1) (by kernel_rfl) rfl, fun tok htok => ?_⟩
    subst htok
    simp -implicitDefEqProofs (disch := first | omega | decide) only [seval, -Int.reducePow, -Nat.reducePow, cC, pv, binv, sArHelp1, undef, g1]
    refine hK _ _ ?_
    clear hK K
    refine cv_cond ?_
    simp -implicitDefEqProofs (disch := first | omega | decide) only [seval, -Int.reducePow, -Nat.reducePow, cC, pv, binv, sArHelp1, undef, g1]
    refine ⟨fun hc => ?_, fun hc => ?_⟩
    · have hpos : 0 < un := by have := of_decide_eq_true hc; omega
      obtain ⟨j, hj⟩ : ∃ j, k % un = j := ⟨_, rfl⟩
      have hjl : j < un := by rw [← hj]; exact Nat.mod_lt _ hpos
      obtain ⟨bF, oF, rfl, hbF, -⟩ := hE.cells hpos
      have hPe : P = Ex.get us j := by rw [← hP, ← hj]; unfold extP; rw [if_neg (by omega), hl]
      have hm : (k : Int) % (un : Int) = (j : Int) := by rw [← hj]; omega
      refine cv_q ?_
      refine cv_draw_of (pickL [0, 1] _) (fun w hw => hw.pick (by decide)) (by simp only [pickL, nth, suf_cons, suf_nil, List.mem_cons, true_or, or_true, and_true, eq_self]) [(true, 0), (true, 1), (true, 2), (true, 3), (true, 4), (true, 5), (true, 6), (true, 7), (true, 8), (true, 9), (true, 10), (true, 11), (true, 12), (true, 13), (true, 14), (true, 15), (false, 16)] [16] mixA rfl (by kernel_rfl) (by kernel_rfl) rfl rfl ?_
      simp -implicitDefEqProofs (disch := first | omega | decide) only [seval, -Int.reducePow, -Nat.reducePow, cC, pv, binv, sArHelp1, undef, g1]
      refine ⟨_, h.blk.ld1 (m := 1) (i := 1) (by kernel_rfl) rfl, fun tok htok => ?_⟩
      subst htok
      simp -implicitDefEqProofs (disch := first | omega | decide) only [seval, -Int.reducePow, -Nat.reducePow, cC, pv, binv, sArHelp1, undef, g1]
      refine ⟨_, h.blk.ld1 (m := 1) (i := 1) (by kernel_rfl) rfl, fun tok htok => ?_⟩
      subst htok
      simp -implicitDefEqProofs (disch := first | omega | decide) only [seval, -Int.reducePow, -Nat.reducePow, cC, pv, binv, sArHelp1, undef, hm, g1]
      refine ⟨_, hE.ld hjl, fun tok htok => ?_⟩
      subst htok
      simp -implicitDefEqProofs (disch := first | omega | decide) only [seval, -Int.reducePow, -Nat.reducePow, cC, pv, binv, sArHelp1, undef, hm, hPe, g1]
    · have hz : un = 0 := by have := of_decide_eq_false hc; omega
      have hPe : P = ⟨(k : Int), 16⟩ := by rw [← hP]; unfold extP; rw [if_pos (by omega)]
      refine cv_skip ?_
      try simp only [blockQ, thenQ]
      simp -implicitDefEqProofs (disch := first | omega | decide) only [seval, -Int.reducePow, -Nat.reducePow, cC, pv, binv, sArHelp1, undef, hPe, g1]
  intro G2 L' _ hF
  obtain ⟨q2, q6, q7, rfl⟩ := hF
  have g2_2 := q2.trans g1_2
  have g2_6 := q6.trans g1_6
  have g2_7 := q7.trans g1_7
  clear q2 q6 q7
  have g2 := And.intro g2_2 (And.intro g2_6 g2_7)
  refine hK _ _ ?_
  clear hK K
  have e1 : (how : Int) % 12 = ((how % 12 : Nat) : Int) := by omega
  have hPl : -9223372036854775808 ≤ P.len + 16 ∧ P.len + 16 ≤ 9223372036854775807 := by
    rw [← hP]
    unfold extP
    split
    · simp
    · rename_i hz
      have hj : k % us.length < us.length := Nat.mod_lt _ (by omega)
      have := hpr (Ex.get us (k % us.length)) (by rw [Ex.get_eq hj]; exact List.getElem_mem _)
      unfold Ext.prop at this
      omega
  have hw16 : IntKind.i64.wrap (P.len + 16) = P.len + 16 := wrap_in hPl.1 hPl.2
  by_cases h11 : how % 12 = 11
  · have hE : extF us k how = ⟨P.off, P.len + 16⟩ := by unfold extF; rw [if_pos h11, hP]
    refine cv_seq_k fun K hK => ?_
    refine cv_seq_k fun K hK => ?_
    refine cv_region_then rfl ?_
    simp -implicitDefEqProofs (disch := first | omega | decide) only [seval, -Int.reducePow, -Nat.reducePow, cC, pv, binv, sArHelp1, undef, e1, h11, g2]
    refine hK _ _ ?_
    clear hK K
    refine cv_cond ?_
    simp -implicitDefEqProofs (disch := first | omega | decide) only [seval, -Int.reducePow, -Nat.reducePow, cC, pv, binv, sArHelp1, undef, g2]
    refine cv_region_then rfl ?_
    simp -implicitDefEqProofs (disch := first | omega | decide) only [seval, -Int.reducePow, -Nat.reducePow, cC, pv, binv, sArHelp1, undef, hw16, g2]
    refine hK _ _ ?_
    clear hK K
    refine cv_seq_k fun K hK => ?_
    refine cv_region_then rfl ?_
    simp -implicitDefEqProofs (disch := first | omega | decide) only [seval, -Int.reducePow, -Nat.reducePow, cC, pv, binv, sArHelp1, undef, g2]
    refine hK _ _ ?_
    clear hK K
    refine cv_ret ?_
    simp -implicitDefEqProofs (disch := first | omega | decide) only [seval, -Int.reducePow, -Nat.reducePow, cC, pv, binv, sArHelp1, undef, retQ2, ressV, packV, g2]
    intro w hw
    rw [hE]
    exact ⟨rfl, hw.below⟩
  · have hE : extF us k how = P := by unfold extF; rw [if_neg h11, hP]
    have h11' : decide (((how % 12 : Nat) : Int) = 11) = false := decide_eq_false (by omega)
    refine cv_seq_k fun K hK => ?_
    refine cv_seq_k fun K hK => ?_
    refine cv_region_then rfl ?_
    simp -implicitDefEqProofs (disch := first | omega | decide) only [seval, -Int.reducePow, -Nat.reducePow, cC, pv, binv, sArHelp1, undef, e1, h11', g2]
    refine hK _ _ ?_
    clear hK K
    refine cv_cond ?_
    simp -implicitDefEqProofs (disch := first | omega | decide) only [seval, -Int.reducePow, -Nat.reducePow, cC, pv, binv, sArHelp1, undef, g2]
    refine cv_skip ?_
    try simp only [blockQ, thenQ]
    refine hK _ _ ?_
    clear hK K
    refine cv_seq_k fun K hK => ?_
    refine cv_region_then rfl ?_
    simp -implicitDefEqProofs (disch := first | omega | decide) only [seval, -Int.reducePow, -Nat.reducePow, cC, pv, binv, sArHelp1, undef, g2]
    refine hK _ _ ?_
    clear hK K
    refine cv_ret ?_
    simp -implicitDefEqProofs (disch := first | omega | decide) only [seval, -Int.reducePow, -Nat.reducePow, cC, pv, binv, sArHelp1, undef, retQ2, ressV, packV, g2]
    intro w hw
    rw [hE]
    exact ⟨rfl, hw.below⟩
theorem Pr.mrW {x : ArR} {y : MrR} (h : Pr x y) {M : List Nat} {W w : World} {L : List Res} (hw : St M W L w) (i1 i2 i3 : Nat) (h1 : nth L i1 = some (.blk y.ml.bM 84 [.int .i64 y.ml.N, .slice y.ml.UA y.ml.un y.ml.uc, .slice (some ⟨y.bB, 0, none⟩) y.n y.n]))
    (h2 : nth L i2 = some (.row (.slice y.ml.UA y.ml.un y.ml.uc) 28 2 y.ml.un (exCells y.ml.us))) (h3 : nth L i3 = some (.blk y.bB 5 (byt y.bs))) (hl : y.ml.us.length ≤ 100) : MrW w w.heap.size y :=
  MrW.of hw i1 i2 i3 h1 h2 h3 hl (fun e he => (h.inv.prop e he).1) (by rw [h.bs, h.len, h.n]) (by have := h.inv.N1; rw [h.n]; omega)
theorem Pr.arW {x : ArR} {y : MrR} (h : Pr x y) {M : List Nat} {W w : World} {L : List Res} (hw : St M W L w) (i1 i2 i3 i4 i5 : Nat) (h1 : nth L i1 = some (.blk x.bR 64 [.pointer (some ⟨x.al.bA, 0, none⟩), .slice (some ⟨x.bB, 0, none⟩) x.N x.N])) (h2 : nth L i2 = some (.blk x.bB 5 (byt x.bs)))
    (h3 : nth L i3 = some (.blk x.al.bA 99 [.slice x.al.FA x.al.fn x.al.fc, .map (some x.al.bm)])) (h4 : nth L i4 = some (mpR x.al.bm x.al.tk))
    (h5 : nth L i5 = some (.row (.slice x.al.FA x.al.fn x.al.fc) 28 2 x.al.fn (exCells x.al.fr))) (hl : y.ml.us.length ≤ 100) : ArW w w.heap.size x :=
  ArW.of hw i1 i2 i3 i4 i5 h1 h2 h3 h4 h5 (by have := h.inv.frLen; omega) h.len (by have := h.inv.N1; omega)
set_option maxHeartbeats 1000000 in
theorem alike_any (x : ArR) (y : MrR) (W : World) (hP : Pr x y) (hl : y.ml.us.length ≤ 90) (h1 : ArW W W.heap.size x) (h2 : MrW W W.heap.size y) : Calls Try.prog 22 #[.pointer (some ⟨x.bR, 0, none⟩), .pointer (some ⟨y.ml.bM, 0, none⟩)] W
    fun e w' => e = .returned (.bool true) ∧ Below W.heap.size W w' := by
  have hbM := h2.lt
  have hfr : Ex.freeM y.ml.N y.ml.us = x.al.fr := by rw [hP.N]; exact hP.inv.fr.symm
  have hfl := hP.inv.frLen
  have hs : sameB x.al.fr x.al.fr = true := decide_eq_true rfl
  refine calls_cv (M := []) (n := 23) [.tmp 4] rfl Try.func22 rfl rfl (Nat.le_of_ble_eq_true rfl) (St.nil _ _) ?_
  refine cv_seq_k fun K hK => ?_
  refine cv_region_then rfl ?_
  simp -implicitDefEqProofs (disch := first | omega | decide) only [seval, -Int.reducePow, -Nat.reducePow, cC, pv, binv, sArHelp1, undef]
  refine hK _ _ ?_
  clear hK K
  refine cv_seq_k fun K hK => ?_
  refine cv_draw [(true, 0), (true, 2), (true, 3), (true, 4), (false, 1), (false, 5), (false, 6), (true, 7), (true, 8), (true, 11), (true, 12), (true, 13), (true, 14), (true, 15), (false, 9), (false, 10), (true, 16), (true, 17), (true, 18)] [] mixA rfl (by kernel_rfl) (by kernel_rfl) rfl rfl ?_
  simp -implicitDefEqProofs (disch := first | omega | decide) only [seval, -Int.reducePow, -Nat.reducePow, cC, pv, binv, sArHelp1, undef]
  refine callV_row (fun A n c => .slice A n c) (fun w hw => arFreeList_any x w (h1.at hw)) ?_
  intro A n c hl1 hr1
  simp -implicitDefEqProofs (disch := first | omega | decide) only [seval, -Int.reducePow, -Nat.reducePow, cC, pv, binv, sArHelp1, undef]
  refine callV_row (fun A n c => .slice A n c) (fun w hw => (by have := rFreeList_any y.ml w (h2.at hw).ml; rw [hfr] at this; exact this)) ?_
  intro A2 n2 c2 hl2 hr2
  simp -implicitDefEqProofs (disch := first | omega | decide) only [seval, -Int.reducePow, -Nat.reducePow, cC, pv, binv, sArHelp1, undef]
  refine callV_ret (fun w hw => same_any A A2 n c n2 c2 x.al.fr x.al.fr w (Exts.of_row hw (.tail _ (.head _))) (Exts.of_row hw (.head _))) ?_
  try simp -implicitDefEqProofs (disch := first | omega | decide) only [seval, -Int.reducePow, -Nat.reducePow, cC, pv, binv, sArHelp1, undef, hs]
  refine ⟨_, h2.blk.ld1 (m := 1) (i := 2) (by kernel_rfl) rfl, fun tok htok => ?_⟩
  subst htok
  simp -implicitDefEqProofs (disch := first | omega | decide) only [seval, -Int.reducePow, -Nat.reducePow, cC, pv, binv, sArHelp1, undef]
  refine ⟨_, fun w hw => (h2.at hw).bs.reads, fun tok htok => ?_⟩
  subst htok
  simp -implicitDefEqProofs (disch := first | omega | decide) only [seval, -Int.reducePow, -Nat.reducePow, cC, pv, binv, sArHelp1, undef]
  refine callV_row (fun A n c => .slice A n c) (fun w hw => arBytes_any x w (h1.at hw)) ?_
  intro A3 n3 c3 hl3 hr3
  simp -implicitDefEqProofs (disch := first | omega | decide) only [seval, -Int.reducePow, -Nat.reducePow, cC, pv, binv, sArHelp1, undef]
  refine ⟨_, fun w hw => hw.strk 0 rfl, fun tok htok => ?_⟩
  subst htok
  simp -implicitDefEqProofs (disch := first | omega | decide) only [seval, -Int.reducePow, -Nat.reducePow, cC, pv, binv, sArHelp1, undef, hP.bs]
  refine hK _ _ ?_
  clear hK K
  refine cv_ret ⟨_, (by simp -implicitDefEqProofs (disch := first | omega | decide) only [seval, -Int.reducePow, -Nat.reducePow, cC, pv, binv, sArHelp1, undef]; rfl), fun w hw => ?_⟩
  exact ⟨rfl, hw.below⟩
theorem Pr.re {x : ArR} {y : MrR} (h : Pr x y) {z : MlR} (hN : z.N = y.ml.N) (hu : z.us = y.ml.us) : Pr x { y with ml := z } :=
  ⟨h.n, hN.trans h.N, h.bs, h.len, h.lt, by dsimp only; rw [hu]; exact h.inv, fun i hi hm => h.zero i hi (by rw [← hu]; exact hm)⟩
/-- What a step leaves. -/
structure Nx (x : ArR) (y : MrR) (x' : ArR) (y' : MrR) : Prop where
  bR : x'.bR = x.bR
  bB : x'.bB = x.bB
  N : x'.N = x.N
  bA : x'.al.bA = x.al.bA
  bM : y'.ml.bM = y.ml.bM
  bC : y'.bB = y.bB
  pr : Pr x' y'
  us : y'.ml.us.length ≤ y.ml.us.length + 1
def StepPost (x : ArR) (y : MrR) (W : World) : Ending → World → Prop := fun en w' => ∃ i : ArR × MrR, en = .returned (.bool true) ∧ Nx x y i.1 i.2 ∧ St (feet (arL x ++ mrL y)) W (arL i.1 ++ mrL i.2) w'
end Go.Proofs.Ytfaanphjaghbpaa
/- The arena laws' step: Alloc. -/
namespace Go.Proofs.Ytfaanphjaghbpaa
open Go.RowKit Go.Shelf
set_option linter.unusedVariables false
set_option linter.unusedSimpArgs false
set_option maxRecDepth 100000
set_option maxRecDepth 100000 in
theorem sArS01 : type_of% (And.intro (And.intro (And.intro @eBox.eq_1 @exV.eq_1) (And.intro @alL.eq_1 @arL.eq_1)) (And.intro (And.intro @mrL.eq_1 @Nat.mul_one) (And.intro @wrap_in (And.intro @cMp @cM)))) := (And.intro (And.intro (And.intro @eBox.eq_1 @exV.eq_1) (And.intro @alL.eq_1 @arL.eq_1)) (And.intro (And.intro @mrL.eq_1 @Nat.mul_one) (And.intro @wrap_in (And.intro @cMp @cM))))
set_option maxHeartbeats 4000000 in
theorem step_0 (x : ArR) (y : MrR) (a b c d e f : Nat) (W : World) (hst : St (feet (arL x ++ mrL y)) W (arL x ++ mrL y) W) (hP : Pr x y) (hl : y.ml.us.length ≤ 80) (ha : a < 256) (hb : b < 256) (hc : c < 256) (hd : d < 256) (he : e < 256) (hf : f < 256) (hs : a % 9 = 0) :
    Calls Try.prog 40 #[.pointer (some ⟨x.bR, 0, none⟩), .pointer (some ⟨y.ml.bM, 0, none⟩), .agg #[.int .u8 (a : Int), .int .u8 (b : Int), .int .u8 (c : Int), .int .u8 (d : Int), .int .u8 (e : Int), .int .u8 (f : Int)]] W (StepPost x y W) := by
  unfold StepPost
  obtain ⟨M, hM⟩ : ∃ M, feet (arL x ++ mrL y) = M := ⟨_, rfl⟩
  rw [hM] at hst ⊢
  clear hM
  obtain ⟨al, bR, bB, N, bs⟩ := x
  obtain ⟨⟨bM, NN, UA, un, uc, us⟩, bC, n0, bs0⟩ := y
  obtain rfl : n0 = N := hP.n
  obtain rfl : bs0 = bs := hP.bs
  obtain rfl : NN = (n0 : Int) := hP.N
  have hI := hP.inv
  have hN1 := hI.N1
  have hfl := hI.frLen
  have hbl := hP.len
  have hb256 := hP.lt
  dsimp only at hI hN1 hfl hl hbl hb256
  dsimp only
  unfold arL alL mrL at hst
  dsimp only [List.cons_append, List.nil_append] at hst
  have h9 : (a : Int) % 9 = 0 := by omega
  have hk := off_any d
  obtain ⟨E, hE⟩ : ∃ E, extF us b c = E := ⟨_, rfl⟩
  obtain ⟨k, hkk⟩ : ∃ k, offF d = k := ⟨_, rfl⟩
  have hMr := fun {w : World} {L : List Res} (hw : St M W L w) (i1 i2 i3 : Nat) h1 h2 h3 => hP.mrW hw i1 i2 i3 h1 h2 h3 (by dsimp only; omega)
  have hAr := fun {w : World} {L : List Res} (hw : St M W L w) (i1 i2 i3 i4 i5 : Nat) h1 h2 h3 h4 h5 => hP.arW hw i1 i2 i3 i4 i5 h1 h2 h3 h4 h5 (by dsimp only; omega)
  refine calls_cv (M := M) (n := 267) [.tmp 6] rfl Try.func40 rfl rfl (Nat.le_of_ble_eq_true rfl)  hst ?_
  refine cv_seq_k fun K hK => ?_
  refine cv_region_then rfl ?_
  simp -implicitDefEqProofs (disch := first | omega | decide) only [seval, -Int.reducePow, -Nat.reducePow, cC, pv, binv, sArS01, undef]
  intro b5 hb5 hf5
  refine hK _ _ ?_
  clear hK K
  refine cv_seq_k fun K hK => ?_
  refine cv_region_then rfl ?_
  simp -implicitDefEqProofs (disch := first | omega | decide) only [seval, -Int.reducePow, -Nat.reducePow, cC, pv, binv, sArS01, undef]
  refine callV_ret (fun w hw => extent_any ⟨⟨bM, n0, UA, un, uc, us⟩, bC, n0, bs0⟩ b c w hb hc (hMr hw 6 7 8 rfl rfl rfl)) ?_
  try simp -implicitDefEqProofs (disch := first | omega | decide) only [seval, -Int.reducePow, -Nat.reducePow, cC, pv, binv, sArS01, undef, hE]
  intro b7 hb7 hf7
  refine hK _ _ ?_
  clear hK K
  refine cv_seq_k fun K hK => ?_
  refine cv_region_then rfl ?_
  simp -implicitDefEqProofs (disch := first | omega | decide) only [seval, -Int.reducePow, -Nat.reducePow, cC, pv, binv, sArS01, undef]
  refine callV_ret (fun w hw => off_any d w hd) ?_
  try simp -implicitDefEqProofs (disch := first | omega | decide) only [seval, -Int.reducePow, -Nat.reducePow, cC, pv, binv, sArS01, undef, hkk]
  refine hK _ _ ?_
  clear hK K
  refine cv_seq_k fun K hK => ?_
  refine cv_seq_k fun K hK => ?_
  refine cv_region_then rfl ?_
  simp -implicitDefEqProofs (disch := first | omega | decide) only [seval, -Int.reducePow, -Nat.reducePow, cC, pv, binv, sArS01, undef, h9]
  refine hK _ _ ?_
  clear hK K
  refine cv_block ?_
  refine cv_seq_k fun K hK => ?_
  refine cv_seq_k fun K hK => ?_
  refine cv_region_then rfl ?_
  simp -implicitDefEqProofs (disch := first | omega | decide) only [seval, -Int.reducePow, -Nat.reducePow, cC, pv, binv, sArS01, undef]
  refine hK _ _ ?_
  clear hK K
  refine cv_cond ?_
  simp -implicitDefEqProofs (disch := first | omega | decide) only [seval, -Int.reducePow, -Nat.reducePow, cC, pv, binv, sArS01, undef]
  refine cv_skip ?_
  try simp only [blockQ, thenQ]
  refine hK _ _ ?_
  clear hK K
  refine cv_cond ?_
  simp -implicitDefEqProofs (disch := first | omega | decide) only [seval, -Int.reducePow, -Nat.reducePow, cC, pv, binv, sArS01, undef]
  refine cv_gen fun G1 hG => ?_
  have g1_0 := congrFun hG 0
  have g1_1 := congrFun hG 1
  have g1_5 := congrFun hG 5
  clear hG
  try simp -implicitDefEqProofs (disch := first | omega | decide) only [seval, -Int.reducePow, -Nat.reducePow, cC, pv, binv, sArS01, undef] at g1_0 g1_1 g1_5
  have g1 := And.intro g1_0 (And.intro g1_1 g1_5)
  obtain ⟨n, hn⟩ : ∃ n : Int, (b : Int) % 40 - (c : Int) / 250 = n := ⟨_, rfl⟩
  have e2 : IntKind.u8.wrap ((c : Int) / 250) = (c : Int) / 250 := by rw [IntKind.wrap_u8]; omega
  obtain ⟨q, hq⟩ : ∃ q, Ex.findF al.fr n = q := ⟨_, rfl⟩
  refine cv_seq_k fun K hK => ?_
  refine cv_region_then rfl ?_
  simp -implicitDefEqProofs (disch := first | omega | decide) only [seval, -Int.reducePow, -Nat.reducePow, cC, pv, binv, sArS01, undef, e2, hn, g1]
  refine hK _ _ ?_
  clear hK K
  refine cv_seq_k fun K hK => ?_
  refine cv_region_then rfl ?_
  simp -implicitDefEqProofs (disch := first | omega | decide) only [seval, -Int.reducePow, -Nat.reducePow, cC, pv, binv, sArS01, undef, g1]
  refine callV_grp [2, 3, 4, 5, 6] [0, 1, 7, 8, 9] (by decide) (fun _ : AlR => .tuple #[exV q.1, .int .i64 q.2]) (fun al' => arL ⟨al', bR, bB, n0, bs0⟩) (fun al' => al'.bA = al.bA ∧ (¬ q.2 = 0 → al' = al) ∧ (q.2 = 0 → Ex.Inv (n0 : Int) (us ++ [q.1]) al'.fr al'.tk)) (fun w hw hs => by
    have := arAlloc_any ⟨al, bR, bB, n0, bs0⟩ us n w hs hI (by omega) hbl
    dsimp only at this
    rw [hq] at this
    exact this) ?_
  intro al' hal
  simp only [pickL, nth]
  simp -implicitDefEqProofs (disch := first | omega | decide) only [seval, -Int.reducePow, -Nat.reducePow, cC, pv, binv, sArS01, undef, g1]
  intro b10 hb10 hf10
  refine hK _ _ ?_
  clear hK K
  refine cv_seq_k fun K hK => ?_
  refine cv_region_then rfl ?_
  simp -implicitDefEqProofs (disch := first | omega | decide) only [seval, -Int.reducePow, -Nat.reducePow, cC, pv, binv, sArS01, undef, g1]
  refine callV_grp [8, 9] [0, 1, 2, 3, 4, 5, 6, 7, 10] (by decide) (fun _ : MlR => .tuple #[exV q.1, .int .i64 q.2]) (fun z => mlL 84 [.slice (some ⟨bC, 0, none⟩) n0 n0] z) (fun z => z.bM = bM ∧ z.N = (n0 : Int) ∧ z.us = (if q.2 = 0 then us ++ [q.1] else us)) (fun w hw hs => by
    have := rAlloc_any 84 [.slice (some ⟨bC, 0, none⟩) n0 n0] ⟨bM, n0, UA, un, uc, us⟩ n al.fr al.tk w hs hI (by dsimp only; omega)
    dsimp only at this
    rw [hq] at this
    exact this) ?_
  rintro ⟨bM', N', UA', un', uc', us'⟩ ⟨hz1, hz2, hz3⟩
  dsimp only at hz1 hz2 hz3
  subst hz1 hz2
  simp only [pickL, nth]
  simp -implicitDefEqProofs (disch := first | omega | decide) only [seval, -Int.reducePow, -Nat.reducePow, cC, pv, binv, sArS01, undef, mlL, g1]
  intro b12 hb12 hf12
  refine hK _ _ ?_
  clear hK K
  have hP' : Pr ⟨al', bR, bB, n0, bs0⟩ ⟨⟨bM', n0, UA', un', uc', us'⟩, bC, n0, bs0⟩ := by
    by_cases h0 : q.2 = 0
    · rw [if_pos h0] at hz3
      exact hP.alloc (z := ⟨bM', n0, UA', un', uc', us'⟩) (hal.2.2 h0) rfl hz3
    · rw [if_neg h0] at hz3
      obtain rfl := hal.2.1 h0
      exact hP.re (z := ⟨bM', n0, UA', un', uc', us'⟩) rfl hz3
  have hl' : us'.length ≤ us.length + 1 := by
    rw [hz3]
    split
    · simp
    · omega
  have hbA := hal.1
  refine cv_gen fun G2 hG => ?_
  have g2_0 := congrFun hG 0
  have g2_1 := congrFun hG 1
  have g2_9 := congrFun hG 9
  have g2_10 := congrFun hG 10
  have g2_11 := congrFun hG 11
  have g2_12 := congrFun hG 12
  have g2_13 := congrFun hG 13
  clear hG
  try simp -implicitDefEqProofs (disch := first | omega | decide) only [seval, -Int.reducePow, -Nat.reducePow, cC, pv, binv, sArS01, undef, g1] at g2_0 g2_1 g2_9 g2_10 g2_11 g2_12 g2_13
  have g2 := And.intro g2_0 (And.intro g2_1 (And.intro g2_9 (And.intro g2_10 (And.intro g2_11 (And.intro g2_12 g2_13)))))
  refine cv_seq_k fun K hK => ?_
  refine cv_draw_of (pickL [0, 3] _) (fun w hw => hw.pick (by decide)) (by simp only [pickL, nth, suf_cons, suf_nil, List.mem_cons, true_or, or_true, and_true, eq_self]) [(true, 0), (true, 1), (true, 2), (true, 3), (true, 4), (true, 5), (true, 6), (true, 7), (true, 8), (true, 9), (true, 10), (true, 12), (true, 13), (true, 14), (true, 15), (false, 11), (false, 16), (true, 17), (true, 18), (true, 19)] [] mixA rfl (by kernel_rfl) (by kernel_rfl) rfl rfl ?_
  simp -implicitDefEqProofs (disch := first | omega | decide) only [seval, -Int.reducePow, -Nat.reducePow, cC, pv, binv, sArS01, undef, g2]
  refine callV_ret (fun w hw => arFits_any ⟨al', bR, bB, n0, bs0⟩ n w (hP'.arW hw 4 5 6 7 8 rfl rfl rfl rfl rfl (by dsimp only; omega))) ?_
  try simp -implicitDefEqProofs (disch := first | omega | decide) only [seval, -Int.reducePow, -Nat.reducePow, cC, pv, binv, sArS01, undef, g2]
  refine callV_ret (fun w hw => rFits_any ⟨bM', n0, UA', un', uc', us'⟩ n al'.fr al'.tk w (hP'.mrW hw 1 2 11 rfl rfl rfl (by dsimp only; omega)).ml hP'.inv) ?_
  try simp -implicitDefEqProofs (disch := first | omega | decide) only [seval, -Int.reducePow, -Nat.reducePow, cC, pv, binv, sArS01, undef, g2]
  refine hK _ _ ?_
  clear hK K
  refine cv_ret ⟨_, (by simp -implicitDefEqProofs (disch := first | omega | decide) only [seval, -Int.reducePow, -Nat.reducePow, cC, pv, binv, sArS01, undef, g2]; rfl), fun w hw => ?_⟩
  have h9 := hw.pick (ix := [4, 5, 6, 7, 8, 1, 2, 11]) (by decide)
  simp only [pickL, nth] at h9
  exact ⟨(⟨al', bR, bB, n0, _⟩, ⟨⟨bM', n0, UA', un', uc', us'⟩, bC, n0, _⟩), rfl, ⟨rfl, rfl, rfl, hal.1, rfl, rfl, hP', hl'⟩, h9⟩
end Go.Proofs.Ytfaanphjaghbpaa
/- The arena laws' step: Alloc. -/
namespace Go.Proofs.Ytfaanphjaghbpaa
open Go.RowKit Go.Shelf
set_option linter.unusedVariables false
set_option linter.unusedSimpArgs false
set_option maxRecDepth 100000
set_option maxRecDepth 100000 in
theorem sArS11 : type_of% (And.intro (And.intro (And.intro @eBox.eq_1 @exV.eq_1) (And.intro @alL.eq_1 @arL.eq_1)) (And.intro (And.intro @mrL.eq_1 @Nat.mul_one) (And.intro @wrap_in (And.intro @cMp @cM)))) := (And.intro (And.intro (And.intro @eBox.eq_1 @exV.eq_1) (And.intro @alL.eq_1 @arL.eq_1)) (And.intro (And.intro @mrL.eq_1 @Nat.mul_one) (And.intro @wrap_in (And.intro @cMp @cM))))
set_option maxHeartbeats 4000000 in
theorem step_1 (x : ArR) (y : MrR) (a b c d e f : Nat) (W : World) (hst : St (feet (arL x ++ mrL y)) W (arL x ++ mrL y) W) (hP : Pr x y) (hl : y.ml.us.length ≤ 80) (ha : a < 256) (hb : b < 256) (hc : c < 256) (hd : d < 256) (he : e < 256) (hf : f < 256) (hs : a % 9 = 1) :
    Calls Try.prog 40 #[.pointer (some ⟨x.bR, 0, none⟩), .pointer (some ⟨y.ml.bM, 0, none⟩), .agg #[.int .u8 (a : Int), .int .u8 (b : Int), .int .u8 (c : Int), .int .u8 (d : Int), .int .u8 (e : Int), .int .u8 (f : Int)]] W (StepPost x y W) := by
  unfold StepPost
  obtain ⟨M, hM⟩ : ∃ M, feet (arL x ++ mrL y) = M := ⟨_, rfl⟩
  rw [hM] at hst ⊢
  clear hM
  obtain ⟨al, bR, bB, N, bs⟩ := x
  obtain ⟨⟨bM, NN, UA, un, uc, us⟩, bC, n0, bs0⟩ := y
  obtain rfl : n0 = N := hP.n
  obtain rfl : bs0 = bs := hP.bs
  obtain rfl : NN = (n0 : Int) := hP.N
  have hI := hP.inv
  have hN1 := hI.N1
  have hfl := hI.frLen
  have hbl := hP.len
  have hb256 := hP.lt
  dsimp only at hI hN1 hfl hl hbl hb256
  dsimp only
  unfold arL alL mrL at hst
  dsimp only [List.cons_append, List.nil_append] at hst
  have h9 : (a : Int) % 9 = 1 := by omega
  have hk := off_any d
  obtain ⟨E, hE⟩ : ∃ E, extF us b c = E := ⟨_, rfl⟩
  obtain ⟨k, hkk⟩ : ∃ k, offF d = k := ⟨_, rfl⟩
  have hMr := fun {w : World} {L : List Res} (hw : St M W L w) (i1 i2 i3 : Nat) h1 h2 h3 => hP.mrW hw i1 i2 i3 h1 h2 h3 (by dsimp only; omega)
  have hAr := fun {w : World} {L : List Res} (hw : St M W L w) (i1 i2 i3 i4 i5 : Nat) h1 h2 h3 h4 h5 => hP.arW hw i1 i2 i3 i4 i5 h1 h2 h3 h4 h5 (by dsimp only; omega)
  refine calls_cv (M := M) (n := 267) [.tmp 6] rfl Try.func40 rfl rfl (Nat.le_of_ble_eq_true rfl)  hst ?_
  refine cv_seq_k fun K hK => ?_
  refine cv_region_then rfl ?_
  simp -implicitDefEqProofs (disch := first | omega | decide) only [seval, -Int.reducePow, -Nat.reducePow, cC, pv, binv, sArS11, undef]
  intro b5 hb5 hf5
  refine hK _ _ ?_
  clear hK K
  refine cv_seq_k fun K hK => ?_
  refine cv_region_then rfl ?_
  simp -implicitDefEqProofs (disch := first | omega | decide) only [seval, -Int.reducePow, -Nat.reducePow, cC, pv, binv, sArS11, undef]
  refine callV_ret (fun w hw => extent_any ⟨⟨bM, n0, UA, un, uc, us⟩, bC, n0, bs0⟩ b c w hb hc (hMr hw 6 7 8 rfl rfl rfl)) ?_
  try simp -implicitDefEqProofs (disch := first | omega | decide) only [seval, -Int.reducePow, -Nat.reducePow, cC, pv, binv, sArS11, undef, hE]
  intro b7 hb7 hf7
  refine hK _ _ ?_
  clear hK K
  refine cv_seq_k fun K hK => ?_
  refine cv_region_then rfl ?_
  simp -implicitDefEqProofs (disch := first | omega | decide) only [seval, -Int.reducePow, -Nat.reducePow, cC, pv, binv, sArS11, undef]
  refine callV_ret (fun w hw => off_any d w hd) ?_
  try simp -implicitDefEqProofs (disch := first | omega | decide) only [seval, -Int.reducePow, -Nat.reducePow, cC, pv, binv, sArS11, undef, hkk]
  refine hK _ _ ?_
  clear hK K
  refine cv_seq_k fun K hK => ?_
  refine cv_seq_k fun K hK => ?_
  refine cv_region_then rfl ?_
  simp -implicitDefEqProofs (disch := first | omega | decide) only [seval, -Int.reducePow, -Nat.reducePow, cC, pv, binv, sArS11, undef, h9]
  refine hK _ _ ?_
  clear hK K
  refine cv_block ?_
  refine cv_seq_k fun K hK => ?_
  refine cv_seq_k fun K hK => ?_
  refine cv_region_then rfl ?_
  simp -implicitDefEqProofs (disch := first | omega | decide) only [seval, -Int.reducePow, -Nat.reducePow, cC, pv, binv, sArS11, undef]
  refine hK _ _ ?_
  clear hK K
  refine cv_cond ?_
  simp -implicitDefEqProofs (disch := first | omega | decide) only [seval, -Int.reducePow, -Nat.reducePow, cC, pv, binv, sArS11, undef]
  refine cv_seq_k fun K hK => ?_
  refine cv_region_then rfl ?_
  simp -implicitDefEqProofs (disch := first | omega | decide) only [seval, -Int.reducePow, -Nat.reducePow, cC, pv, binv, sArS11, undef]
  refine hK _ _ ?_
  clear hK K
  refine cv_cond ?_
  simp -implicitDefEqProofs (disch := first | omega | decide) only [seval, -Int.reducePow, -Nat.reducePow, cC, pv, binv, sArS11, undef]
  refine cv_skip ?_
  try simp only [blockQ, thenQ]
  refine hK _ _ ?_
  clear hK K
  refine cv_cond ?_
  simp -implicitDefEqProofs (disch := first | omega | decide) only [seval, -Int.reducePow, -Nat.reducePow, cC, pv, binv, sArS11, undef]
  refine cv_gen fun G1 hG => ?_
  have g1_0 := congrFun hG 0
  have g1_1 := congrFun hG 1
  have g1_5 := congrFun hG 5
  clear hG
  try simp -implicitDefEqProofs (disch := first | omega | decide) only [seval, -Int.reducePow, -Nat.reducePow, cC, pv, binv, sArS11, undef] at g1_0 g1_1 g1_5
  have g1 := And.intro g1_0 (And.intro g1_1 g1_5)
  obtain ⟨n, hn⟩ : ∃ n : Int, (b : Int) % 40 - (c : Int) / 250 = n := ⟨_, rfl⟩
  have e2 : IntKind.u8.wrap ((c : Int) / 250) = (c : Int) / 250 := by rw [IntKind.wrap_u8]; omega
  obtain ⟨q, hq⟩ : ∃ q, Ex.findF al.fr n = q := ⟨_, rfl⟩
  refine cv_seq_k fun K hK => ?_
  refine cv_region_then rfl ?_
  simp -implicitDefEqProofs (disch := first | omega | decide) only [seval, -Int.reducePow, -Nat.reducePow, cC, pv, binv, sArS11, undef, e2, hn, g1]
  refine hK _ _ ?_
  clear hK K
  refine cv_seq_k fun K hK => ?_
  refine cv_region_then rfl ?_
  simp -implicitDefEqProofs (disch := first | omega | decide) only [seval, -Int.reducePow, -Nat.reducePow, cC, pv, binv, sArS11, undef, g1]
  refine callV_grp [2, 3, 4, 5, 6] [0, 1, 7, 8, 9] (by decide) (fun _ : AlR => .tuple #[exV q.1, .int .i64 q.2]) (fun al' => arL ⟨al', bR, bB, n0, bs0⟩) (fun al' => al'.bA = al.bA ∧ (¬ q.2 = 0 → al' = al) ∧ (q.2 = 0 → Ex.Inv (n0 : Int) (us ++ [q.1]) al'.fr al'.tk)) (fun w hw hs => by
    have := arAlloc_any ⟨al, bR, bB, n0, bs0⟩ us n w hs hI (by omega) hbl
    dsimp only at this
    rw [hq] at this
    exact this) ?_
  intro al' hal
  simp only [pickL, nth]
  simp -implicitDefEqProofs (disch := first | omega | decide) only [seval, -Int.reducePow, -Nat.reducePow, cC, pv, binv, sArS11, undef, g1]
  intro b10 hb10 hf10
  refine hK _ _ ?_
  clear hK K
  refine cv_seq_k fun K hK => ?_
  refine cv_region_then rfl ?_
  simp -implicitDefEqProofs (disch := first | omega | decide) only [seval, -Int.reducePow, -Nat.reducePow, cC, pv, binv, sArS11, undef, g1]
  refine callV_grp [8, 9] [0, 1, 2, 3, 4, 5, 6, 7, 10] (by decide) (fun _ : MlR => .tuple #[exV q.1, .int .i64 q.2]) (fun z => mlL 84 [.slice (some ⟨bC, 0, none⟩) n0 n0] z) (fun z => z.bM = bM ∧ z.N = (n0 : Int) ∧ z.us = (if q.2 = 0 then us ++ [q.1] else us)) (fun w hw hs => by
    have := rAlloc_any 84 [.slice (some ⟨bC, 0, none⟩) n0 n0] ⟨bM, n0, UA, un, uc, us⟩ n al.fr al.tk w hs hI (by dsimp only; omega)
    dsimp only at this
    rw [hq] at this
    exact this) ?_
  rintro ⟨bM', N', UA', un', uc', us'⟩ ⟨hz1, hz2, hz3⟩
  dsimp only at hz1 hz2 hz3
  subst hz1 hz2
  simp only [pickL, nth]
  simp -implicitDefEqProofs (disch := first | omega | decide) only [seval, -Int.reducePow, -Nat.reducePow, cC, pv, binv, sArS11, undef, mlL, g1]
  intro b12 hb12 hf12
  refine hK _ _ ?_
  clear hK K
  have hP' : Pr ⟨al', bR, bB, n0, bs0⟩ ⟨⟨bM', n0, UA', un', uc', us'⟩, bC, n0, bs0⟩ := by
    by_cases h0 : q.2 = 0
    · rw [if_pos h0] at hz3
      exact hP.alloc (z := ⟨bM', n0, UA', un', uc', us'⟩) (hal.2.2 h0) rfl hz3
    · rw [if_neg h0] at hz3
      obtain rfl := hal.2.1 h0
      exact hP.re (z := ⟨bM', n0, UA', un', uc', us'⟩) rfl hz3
  have hl' : us'.length ≤ us.length + 1 := by
    rw [hz3]
    split
    · simp
    · omega
  have hbA := hal.1
  refine cv_gen fun G2 hG => ?_
  have g2_0 := congrFun hG 0
  have g2_1 := congrFun hG 1
  have g2_9 := congrFun hG 9
  have g2_10 := congrFun hG 10
  have g2_11 := congrFun hG 11
  have g2_12 := congrFun hG 12
  have g2_13 := congrFun hG 13
  clear hG
  try simp -implicitDefEqProofs (disch := first | omega | decide) only [seval, -Int.reducePow, -Nat.reducePow, cC, pv, binv, sArS11, undef, g1] at g2_0 g2_1 g2_9 g2_10 g2_11 g2_12 g2_13
  have g2 := And.intro g2_0 (And.intro g2_1 (And.intro g2_9 (And.intro g2_10 (And.intro g2_11 (And.intro g2_12 g2_13)))))
  refine cv_seq_k fun K hK => ?_
  refine cv_draw_of (pickL [0, 3] _) (fun w hw => hw.pick (by decide)) (by simp only [pickL, nth, suf_cons, suf_nil, List.mem_cons, true_or, or_true, and_true, eq_self]) [(true, 0), (true, 1), (true, 2), (true, 3), (true, 4), (true, 5), (true, 6), (true, 7), (true, 8), (true, 9), (true, 10), (true, 12), (true, 13), (true, 14), (true, 15), (false, 11), (false, 16), (true, 17), (true, 18), (true, 19)] [] mixA rfl (by kernel_rfl) (by kernel_rfl) rfl rfl ?_
  simp -implicitDefEqProofs (disch := first | omega | decide) only [seval, -Int.reducePow, -Nat.reducePow, cC, pv, binv, sArS11, undef, g2]
  refine callV_ret (fun w hw => arFits_any ⟨al', bR, bB, n0, bs0⟩ n w (hP'.arW hw 4 5 6 7 8 rfl rfl rfl rfl rfl (by dsimp only; omega))) ?_
  try simp -implicitDefEqProofs (disch := first | omega | decide) only [seval, -Int.reducePow, -Nat.reducePow, cC, pv, binv, sArS11, undef, g2]
  refine callV_ret (fun w hw => rFits_any ⟨bM', n0, UA', un', uc', us'⟩ n al'.fr al'.tk w (hP'.mrW hw 1 2 11 rfl rfl rfl (by dsimp only; omega)).ml hP'.inv) ?_
  try simp -implicitDefEqProofs (disch := first | omega | decide) only [seval, -Int.reducePow, -Nat.reducePow, cC, pv, binv, sArS11, undef, g2]
  refine hK _ _ ?_
  clear hK K
  refine cv_ret ⟨_, (by simp -implicitDefEqProofs (disch := first | omega | decide) only [seval, -Int.reducePow, -Nat.reducePow, cC, pv, binv, sArS11, undef, g2]; rfl), fun w hw => ?_⟩
  have h9 := hw.pick (ix := [4, 5, 6, 7, 8, 1, 2, 11]) (by decide)
  simp only [pickL, nth] at h9
  exact ⟨(⟨al', bR, bB, n0, _⟩, ⟨⟨bM', n0, UA', un', uc', us'⟩, bC, n0, _⟩), rfl, ⟨rfl, rfl, rfl, hal.1, rfl, rfl, hP', hl'⟩, h9⟩
end Go.Proofs.Ytfaanphjaghbpaa
/- The arena laws' step: Alloc. -/
namespace Go.Proofs.Ytfaanphjaghbpaa
open Go.RowKit Go.Shelf
set_option linter.unusedVariables false
set_option linter.unusedSimpArgs false
set_option maxRecDepth 100000
set_option maxRecDepth 100000 in
theorem sArS21 : type_of% (And.intro (And.intro (And.intro @eBox.eq_1 @exV.eq_1) (And.intro @alL.eq_1 @arL.eq_1)) (And.intro (And.intro @mrL.eq_1 @Nat.mul_one) (And.intro @wrap_in (And.intro @cMp @cM)))) := (And.intro (And.intro (And.intro @eBox.eq_1 @exV.eq_1) (And.intro @alL.eq_1 @arL.eq_1)) (And.intro (And.intro @mrL.eq_1 @Nat.mul_one) (And.intro @wrap_in (And.intro @cMp @cM))))
set_option maxHeartbeats 4000000 in
theorem step_2 (x : ArR) (y : MrR) (a b c d e f : Nat) (W : World) (hst : St (feet (arL x ++ mrL y)) W (arL x ++ mrL y) W) (hP : Pr x y) (hl : y.ml.us.length ≤ 80) (ha : a < 256) (hb : b < 256) (hc : c < 256) (hd : d < 256) (he : e < 256) (hf : f < 256) (hs : a % 9 = 2) :
    Calls Try.prog 40 #[.pointer (some ⟨x.bR, 0, none⟩), .pointer (some ⟨y.ml.bM, 0, none⟩), .agg #[.int .u8 (a : Int), .int .u8 (b : Int), .int .u8 (c : Int), .int .u8 (d : Int), .int .u8 (e : Int), .int .u8 (f : Int)]] W (StepPost x y W) := by
  unfold StepPost
  obtain ⟨M, hM⟩ : ∃ M, feet (arL x ++ mrL y) = M := ⟨_, rfl⟩
  rw [hM] at hst ⊢
  clear hM
  obtain ⟨al, bR, bB, N, bs⟩ := x
  obtain ⟨⟨bM, NN, UA, un, uc, us⟩, bC, n0, bs0⟩ := y
  obtain rfl : n0 = N := hP.n
  obtain rfl : bs0 = bs := hP.bs
  obtain rfl : NN = (n0 : Int) := hP.N
  have hI := hP.inv
  have hN1 := hI.N1
  have hfl := hI.frLen
  have hbl := hP.len
  have hb256 := hP.lt
  dsimp only at hI hN1 hfl hl hbl hb256
  dsimp only
  unfold arL alL mrL at hst
  dsimp only [List.cons_append, List.nil_append] at hst
  have h9 : (a : Int) % 9 = 2 := by omega
  have hk := off_any d
  obtain ⟨E, hE⟩ : ∃ E, extF us b c = E := ⟨_, rfl⟩
  obtain ⟨k, hkk⟩ : ∃ k, offF d = k := ⟨_, rfl⟩
  have hMr := fun {w : World} {L : List Res} (hw : St M W L w) (i1 i2 i3 : Nat) h1 h2 h3 => hP.mrW hw i1 i2 i3 h1 h2 h3 (by dsimp only; omega)
  have hAr := fun {w : World} {L : List Res} (hw : St M W L w) (i1 i2 i3 i4 i5 : Nat) h1 h2 h3 h4 h5 => hP.arW hw i1 i2 i3 i4 i5 h1 h2 h3 h4 h5 (by dsimp only; omega)
  refine calls_cv (M := M) (n := 267) [.tmp 6] rfl Try.func40 rfl rfl (Nat.le_of_ble_eq_true rfl)  hst ?_
  refine cv_seq_k fun K hK => ?_
  refine cv_region_then rfl ?_
  simp -implicitDefEqProofs (disch := first | omega | decide) only [seval, -Int.reducePow, -Nat.reducePow, cC, pv, binv, sArS21, undef]
  intro b5 hb5 hf5
  refine hK _ _ ?_
  clear hK K
  refine cv_seq_k fun K hK => ?_
  refine cv_region_then rfl ?_
  simp -implicitDefEqProofs (disch := first | omega | decide) only [seval, -Int.reducePow, -Nat.reducePow, cC, pv, binv, sArS21, undef]
  refine callV_ret (fun w hw => extent_any ⟨⟨bM, n0, UA, un, uc, us⟩, bC, n0, bs0⟩ b c w hb hc (hMr hw 6 7 8 rfl rfl rfl)) ?_
  try simp -implicitDefEqProofs (disch := first | omega | decide) only [seval, -Int.reducePow, -Nat.reducePow, cC, pv, binv, sArS21, undef, hE]
  intro b7 hb7 hf7
  refine hK _ _ ?_
  clear hK K
  refine cv_seq_k fun K hK => ?_
  refine cv_region_then rfl ?_
  simp -implicitDefEqProofs (disch := first | omega | decide) only [seval, -Int.reducePow, -Nat.reducePow, cC, pv, binv, sArS21, undef]
  refine callV_ret (fun w hw => off_any d w hd) ?_
  try simp -implicitDefEqProofs (disch := first | omega | decide) only [seval, -Int.reducePow, -Nat.reducePow, cC, pv, binv, sArS21, undef, hkk]
  refine hK _ _ ?_
  clear hK K
  refine cv_seq_k fun K hK => ?_
  refine cv_seq_k fun K hK => ?_
  refine cv_region_then rfl ?_
  simp -implicitDefEqProofs (disch := first | omega | decide) only [seval, -Int.reducePow, -Nat.reducePow, cC, pv, binv, sArS21, undef, h9]
  refine hK _ _ ?_
  clear hK K
  refine cv_block ?_
  refine cv_seq_k fun K hK => ?_
  refine cv_seq_k fun K hK => ?_
  refine cv_region_then rfl ?_
  simp -implicitDefEqProofs (disch := first | omega | decide) only [seval, -Int.reducePow, -Nat.reducePow, cC, pv, binv, sArS21, undef]
  refine hK _ _ ?_
  clear hK K
  refine cv_cond ?_
  simp -implicitDefEqProofs (disch := first | omega | decide) only [seval, -Int.reducePow, -Nat.reducePow, cC, pv, binv, sArS21, undef]
  refine cv_seq_k fun K hK => ?_
  refine cv_region_then rfl ?_
  simp -implicitDefEqProofs (disch := first | omega | decide) only [seval, -Int.reducePow, -Nat.reducePow, cC, pv, binv, sArS21, undef]
  refine hK _ _ ?_
  clear hK K
  refine cv_cond ?_
  simp -implicitDefEqProofs (disch := first | omega | decide) only [seval, -Int.reducePow, -Nat.reducePow, cC, pv, binv, sArS21, undef]
  refine cv_region_then rfl ?_
  simp -implicitDefEqProofs (disch := first | omega | decide) only [seval, -Int.reducePow, -Nat.reducePow, cC, pv, binv, sArS21, undef]
  refine hK _ _ ?_
  clear hK K
  refine cv_cond ?_
  simp -implicitDefEqProofs (disch := first | omega | decide) only [seval, -Int.reducePow, -Nat.reducePow, cC, pv, binv, sArS21, undef]
  refine cv_gen fun G1 hG => ?_
  have g1_0 := congrFun hG 0
  have g1_1 := congrFun hG 1
  have g1_5 := congrFun hG 5
  clear hG
  try simp -implicitDefEqProofs (disch := first | omega | decide) only [seval, -Int.reducePow, -Nat.reducePow, cC, pv, binv, sArS21, undef] at g1_0 g1_1 g1_5
  have g1 := And.intro g1_0 (And.intro g1_1 g1_5)
  obtain ⟨n, hn⟩ : ∃ n : Int, (b : Int) % 40 - (c : Int) / 250 = n := ⟨_, rfl⟩
  have e2 : IntKind.u8.wrap ((c : Int) / 250) = (c : Int) / 250 := by rw [IntKind.wrap_u8]; omega
  obtain ⟨q, hq⟩ : ∃ q, Ex.findF al.fr n = q := ⟨_, rfl⟩
  refine cv_seq_k fun K hK => ?_
  refine cv_region_then rfl ?_
  simp -implicitDefEqProofs (disch := first | omega | decide) only [seval, -Int.reducePow, -Nat.reducePow, cC, pv, binv, sArS21, undef, e2, hn, g1]
  refine hK _ _ ?_
  clear hK K
  refine cv_seq_k fun K hK => ?_
  refine cv_region_then rfl ?_
  simp -implicitDefEqProofs (disch := first | omega | decide) only [seval, -Int.reducePow, -Nat.reducePow, cC, pv, binv, sArS21, undef, g1]
  refine callV_grp [2, 3, 4, 5, 6] [0, 1, 7, 8, 9] (by decide) (fun _ : AlR => .tuple #[exV q.1, .int .i64 q.2]) (fun al' => arL ⟨al', bR, bB, n0, bs0⟩) (fun al' => al'.bA = al.bA ∧ (¬ q.2 = 0 → al' = al) ∧ (q.2 = 0 → Ex.Inv (n0 : Int) (us ++ [q.1]) al'.fr al'.tk)) (fun w hw hs => by
    have := arAlloc_any ⟨al, bR, bB, n0, bs0⟩ us n w hs hI (by omega) hbl
    dsimp only at this
    rw [hq] at this
    exact this) ?_
  intro al' hal
  simp only [pickL, nth]
  simp -implicitDefEqProofs (disch := first | omega | decide) only [seval, -Int.reducePow, -Nat.reducePow, cC, pv, binv, sArS21, undef, g1]
  intro b10 hb10 hf10
  refine hK _ _ ?_
  clear hK K
  refine cv_seq_k fun K hK => ?_
  refine cv_region_then rfl ?_
  simp -implicitDefEqProofs (disch := first | omega | decide) only [seval, -Int.reducePow, -Nat.reducePow, cC, pv, binv, sArS21, undef, g1]
  refine callV_grp [8, 9] [0, 1, 2, 3, 4, 5, 6, 7, 10] (by decide) (fun _ : MlR => .tuple #[exV q.1, .int .i64 q.2]) (fun z => mlL 84 [.slice (some ⟨bC, 0, none⟩) n0 n0] z) (fun z => z.bM = bM ∧ z.N = (n0 : Int) ∧ z.us = (if q.2 = 0 then us ++ [q.1] else us)) (fun w hw hs => by
    have := rAlloc_any 84 [.slice (some ⟨bC, 0, none⟩) n0 n0] ⟨bM, n0, UA, un, uc, us⟩ n al.fr al.tk w hs hI (by dsimp only; omega)
    dsimp only at this
    rw [hq] at this
    exact this) ?_
  rintro ⟨bM', N', UA', un', uc', us'⟩ ⟨hz1, hz2, hz3⟩
  dsimp only at hz1 hz2 hz3
  subst hz1 hz2
  simp only [pickL, nth]
  simp -implicitDefEqProofs (disch := first | omega | decide) only [seval, -Int.reducePow, -Nat.reducePow, cC, pv, binv, sArS21, undef, mlL, g1]
  intro b12 hb12 hf12
  refine hK _ _ ?_
  clear hK K
  have hP' : Pr ⟨al', bR, bB, n0, bs0⟩ ⟨⟨bM', n0, UA', un', uc', us'⟩, bC, n0, bs0⟩ := by
    by_cases h0 : q.2 = 0
    · rw [if_pos h0] at hz3
      exact hP.alloc (z := ⟨bM', n0, UA', un', uc', us'⟩) (hal.2.2 h0) rfl hz3
    · rw [if_neg h0] at hz3
      obtain rfl := hal.2.1 h0
      exact hP.re (z := ⟨bM', n0, UA', un', uc', us'⟩) rfl hz3
  have hl' : us'.length ≤ us.length + 1 := by
    rw [hz3]
    split
    · simp
    · omega
  have hbA := hal.1
  refine cv_gen fun G2 hG => ?_
  have g2_0 := congrFun hG 0
  have g2_1 := congrFun hG 1
  have g2_9 := congrFun hG 9
  have g2_10 := congrFun hG 10
  have g2_11 := congrFun hG 11
  have g2_12 := congrFun hG 12
  have g2_13 := congrFun hG 13
  clear hG
  try simp -implicitDefEqProofs (disch := first | omega | decide) only [seval, -Int.reducePow, -Nat.reducePow, cC, pv, binv, sArS21, undef, g1] at g2_0 g2_1 g2_9 g2_10 g2_11 g2_12 g2_13
  have g2 := And.intro g2_0 (And.intro g2_1 (And.intro g2_9 (And.intro g2_10 (And.intro g2_11 (And.intro g2_12 g2_13)))))
  refine cv_seq_k fun K hK => ?_
  refine cv_draw_of (pickL [0, 3] _) (fun w hw => hw.pick (by decide)) (by simp only [pickL, nth, suf_cons, suf_nil, List.mem_cons, true_or, or_true, and_true, eq_self]) [(true, 0), (true, 1), (true, 2), (true, 3), (true, 4), (true, 5), (true, 6), (true, 7), (true, 8), (true, 9), (true, 10), (true, 12), (true, 13), (true, 14), (true, 15), (false, 11), (false, 16), (true, 17), (true, 18), (true, 19)] [] mixA rfl (by kernel_rfl) (by kernel_rfl) rfl rfl ?_
  simp -implicitDefEqProofs (disch := first | omega | decide) only [seval, -Int.reducePow, -Nat.reducePow, cC, pv, binv, sArS21, undef, g2]
  refine callV_ret (fun w hw => arFits_any ⟨al', bR, bB, n0, bs0⟩ n w (hP'.arW hw 4 5 6 7 8 rfl rfl rfl rfl rfl (by dsimp only; omega))) ?_
  try simp -implicitDefEqProofs (disch := first | omega | decide) only [seval, -Int.reducePow, -Nat.reducePow, cC, pv, binv, sArS21, undef, g2]
  refine callV_ret (fun w hw => rFits_any ⟨bM', n0, UA', un', uc', us'⟩ n al'.fr al'.tk w (hP'.mrW hw 1 2 11 rfl rfl rfl (by dsimp only; omega)).ml hP'.inv) ?_
  try simp -implicitDefEqProofs (disch := first | omega | decide) only [seval, -Int.reducePow, -Nat.reducePow, cC, pv, binv, sArS21, undef, g2]
  refine hK _ _ ?_
  clear hK K
  refine cv_ret ⟨_, (by simp -implicitDefEqProofs (disch := first | omega | decide) only [seval, -Int.reducePow, -Nat.reducePow, cC, pv, binv, sArS21, undef, g2]; rfl), fun w hw => ?_⟩
  have h9 := hw.pick (ix := [4, 5, 6, 7, 8, 1, 2, 11]) (by decide)
  simp only [pickL, nth] at h9
  exact ⟨(⟨al', bR, bB, n0, _⟩, ⟨⟨bM', n0, UA', un', uc', us'⟩, bC, n0, _⟩), rfl, ⟨rfl, rfl, rfl, hal.1, rfl, rfl, hP', hl'⟩, h9⟩
end Go.Proofs.Ytfaanphjaghbpaa
/- The arena laws' step: Free. -/
namespace Go.Proofs.Ytfaanphjaghbpaa
open Go.RowKit Go.Shelf
set_option linter.unusedVariables false
set_option linter.unusedSimpArgs false
set_option maxRecDepth 100000
set_option maxRecDepth 100000 in
theorem sArS31 : type_of% (And.intro (And.intro (And.intro @eBox.eq_1 @exV.eq_1) (And.intro @alL.eq_1 @arL.eq_1)) (And.intro (And.intro @mrL.eq_1 @Nat.mul_one) (And.intro @wrap_in (And.intro @cMp @cM)))) := (And.intro (And.intro (And.intro @eBox.eq_1 @exV.eq_1) (And.intro @alL.eq_1 @arL.eq_1)) (And.intro (And.intro @mrL.eq_1 @Nat.mul_one) (And.intro @wrap_in (And.intro @cMp @cM))))
set_option maxHeartbeats 4000000 in
theorem step_3 (x : ArR) (y : MrR) (a b c d e f : Nat) (W : World) (hst : St (feet (arL x ++ mrL y)) W (arL x ++ mrL y) W) (hP : Pr x y) (hl : y.ml.us.length ≤ 80) (ha : a < 256) (hb : b < 256) (hc : c < 256) (hd : d < 256) (he : e < 256) (hf : f < 256) (hs : a % 9 = 3) :
    Calls Try.prog 40 #[.pointer (some ⟨x.bR, 0, none⟩), .pointer (some ⟨y.ml.bM, 0, none⟩), .agg #[.int .u8 (a : Int), .int .u8 (b : Int), .int .u8 (c : Int), .int .u8 (d : Int), .int .u8 (e : Int), .int .u8 (f : Int)]] W (StepPost x y W) := by
  unfold StepPost
  obtain ⟨M, hM⟩ : ∃ M, feet (arL x ++ mrL y) = M := ⟨_, rfl⟩
  rw [hM] at hst ⊢
  clear hM
  obtain ⟨al, bR, bB, N, bs⟩ := x
  obtain ⟨⟨bM, NN, UA, un, uc, us⟩, bC, n0, bs0⟩ := y
  obtain rfl : n0 = N := hP.n
  obtain rfl : bs0 = bs := hP.bs
  obtain rfl : NN = (n0 : Int) := hP.N
  have hI := hP.inv
  have hN1 := hI.N1
  have hfl := hI.frLen
  have hbl := hP.len
  have hb256 := hP.lt
  dsimp only at hI hN1 hfl hl hbl hb256
  dsimp only
  unfold arL alL mrL at hst
  dsimp only [List.cons_append, List.nil_append] at hst
  have h9 : (a : Int) % 9 = 3 := by omega
  have hk := off_any d
  obtain ⟨E, hE⟩ : ∃ E, extF us b c = E := ⟨_, rfl⟩
  obtain ⟨k, hkk⟩ : ∃ k, offF d = k := ⟨_, rfl⟩
  have hMr := fun {w : World} {L : List Res} (hw : St M W L w) (i1 i2 i3 : Nat) h1 h2 h3 => hP.mrW hw i1 i2 i3 h1 h2 h3 (by dsimp only; omega)
  have hAr := fun {w : World} {L : List Res} (hw : St M W L w) (i1 i2 i3 i4 i5 : Nat) h1 h2 h3 h4 h5 => hP.arW hw i1 i2 i3 i4 i5 h1 h2 h3 h4 h5 (by dsimp only; omega)
  refine calls_cv (M := M) (n := 267) [.tmp 6] rfl Try.func40 rfl rfl (Nat.le_of_ble_eq_true rfl)  hst ?_
  refine cv_seq_k fun K hK => ?_
  refine cv_region_then rfl ?_
  simp -implicitDefEqProofs (disch := first | omega | decide) only [seval, -Int.reducePow, -Nat.reducePow, cC, pv, binv, sArS31, undef]
  intro b5 hb5 hf5
  refine hK _ _ ?_
  clear hK K
  refine cv_seq_k fun K hK => ?_
  refine cv_region_then rfl ?_
  simp -implicitDefEqProofs (disch := first | omega | decide) only [seval, -Int.reducePow, -Nat.reducePow, cC, pv, binv, sArS31, undef]
  refine callV_ret (fun w hw => extent_any ⟨⟨bM, n0, UA, un, uc, us⟩, bC, n0, bs0⟩ b c w hb hc (hMr hw 6 7 8 rfl rfl rfl)) ?_
  try simp -implicitDefEqProofs (disch := first | omega | decide) only [seval, -Int.reducePow, -Nat.reducePow, cC, pv, binv, sArS31, undef, hE]
  intro b7 hb7 hf7
  refine hK _ _ ?_
  clear hK K
  refine cv_seq_k fun K hK => ?_
  refine cv_region_then rfl ?_
  simp -implicitDefEqProofs (disch := first | omega | decide) only [seval, -Int.reducePow, -Nat.reducePow, cC, pv, binv, sArS31, undef]
  refine callV_ret (fun w hw => off_any d w hd) ?_
  try simp -implicitDefEqProofs (disch := first | omega | decide) only [seval, -Int.reducePow, -Nat.reducePow, cC, pv, binv, sArS31, undef, hkk]
  refine hK _ _ ?_
  clear hK K
  refine cv_seq_k fun K hK => ?_
  refine cv_seq_k fun K hK => ?_
  refine cv_region_then rfl ?_
  simp -implicitDefEqProofs (disch := first | omega | decide) only [seval, -Int.reducePow, -Nat.reducePow, cC, pv, binv, sArS31, undef, h9]
  refine hK _ _ ?_
  clear hK K
  refine cv_block ?_
  refine cv_seq_k fun K hK => ?_
  refine cv_seq_k fun K hK => ?_
  refine cv_region_then rfl ?_
  simp -implicitDefEqProofs (disch := first | omega | decide) only [seval, -Int.reducePow, -Nat.reducePow, cC, pv, binv, sArS31, undef]
  refine hK _ _ ?_
  clear hK K
  refine cv_cond ?_
  simp -implicitDefEqProofs (disch := first | omega | decide) only [seval, -Int.reducePow, -Nat.reducePow, cC, pv, binv, sArS31, undef]
  refine cv_seq_k fun K hK => ?_
  refine cv_region_then rfl ?_
  simp -implicitDefEqProofs (disch := first | omega | decide) only [seval, -Int.reducePow, -Nat.reducePow, cC, pv, binv, sArS31, undef]
  refine hK _ _ ?_
  clear hK K
  refine cv_cond ?_
  simp -implicitDefEqProofs (disch := first | omega | decide) only [seval, -Int.reducePow, -Nat.reducePow, cC, pv, binv, sArS31, undef]
  refine cv_region_then rfl ?_
  simp -implicitDefEqProofs (disch := first | omega | decide) only [seval, -Int.reducePow, -Nat.reducePow, cC, pv, binv, sArS31, undef]
  refine hK _ _ ?_
  clear hK K
  refine cv_cond ?_
  simp -implicitDefEqProofs (disch := first | omega | decide) only [seval, -Int.reducePow, -Nat.reducePow, cC, pv, binv, sArS31, undef]
  refine cv_seq_k fun K hK => ?_
  refine cv_region_then rfl ?_
  simp -implicitDefEqProofs (disch := first | omega | decide) only [seval, -Int.reducePow, -Nat.reducePow, cC, pv, binv, sArS31, undef]
  refine hK _ _ ?_
  clear hK K
  refine cv_cond ?_
  simp -implicitDefEqProofs (disch := first | omega | decide) only [seval, -Int.reducePow, -Nat.reducePow, cC, pv, binv, sArS31, undef]
  refine cv_gen fun G1 hG => ?_
  have g1_0 := congrFun hG 0
  have g1_1 := congrFun hG 1
  have g1_7 := congrFun hG 7
  clear hG
  try simp -implicitDefEqProofs (disch := first | omega | decide) only [seval, -Int.reducePow, -Nat.reducePow, cC, pv, binv, sArS31, undef] at g1_0 g1_1 g1_7
  have g1 := And.intro g1_0 (And.intro g1_1 g1_7)
  obtain ⟨F, hF⟩ : ∃ F : Int, (if E ∈ us then (0 : Int) else 6) = F := ⟨_, rfl⟩
  obtain ⟨bs1, hbs1⟩ : ∃ bs1, (if E ∈ us then splice bs0 E.off.toNat (List.replicate E.len.toNat 0) else bs0) = bs1 := ⟨_, rfl⟩
  refine cv_seq_k fun K hK => ?_
  refine cv_draw_of (pickL [0] _) (fun w hw => hw.pick (by decide)) (by simp only [pickL, nth, suf_cons, suf_nil, List.mem_cons, true_or, or_true, and_true, eq_self]) [(true, 0), (true, 1), (true, 3), (true, 4), (false, 2), (false, 5), (true, 6), (true, 7)] [] mixA rfl (by kernel_rfl) (by kernel_rfl) rfl rfl ?_
  simp -implicitDefEqProofs (disch := first | omega | decide) only [seval, -Int.reducePow, -Nat.reducePow, cC, pv, binv, sArS31, undef, g1]
  refine callV_grp [2, 3, 4, 5, 6] [0, 1, 7, 8, 9] (by decide) (fun _ : AlR => .int .i64 F) (fun al' => arL ⟨al', bR, bB, n0, bs1⟩) (fun al' => al'.bA = al.bA ∧ (E ∉ us → al' = al) ∧ (E ∈ us → Ex.Inv (n0 : Int) (us.filter fun x => decide (x ≠ E)) al'.fr al'.tk)) (fun w hw hs => by
    have := arFree_any ⟨al, bR, bB, n0, bs0⟩ us E w hs hI (by omega) hbl
    dsimp only at this
    rw [hF, hbs1] at this
    exact this) ?_
  intro al' hal
  simp only [pickL, nth]
  simp -implicitDefEqProofs (disch := first | omega | decide) only [seval, -Int.reducePow, -Nat.reducePow, cC, pv, binv, sArS31, undef, g1]
  refine callV_grp [7, 8, 9] [0, 1, 2, 3, 4, 5, 6] (by decide) (fun _ : MlR => .int .i64 F) (fun z => mrL ⟨z, bC, n0, bs1⟩) (fun z => z.bM = bM ∧ z.N = (n0 : Int) ∧ z.us = (us.filter fun x => decide (x ≠ E))) (fun w hw hs => by
    have := mrFree_any ⟨⟨bM, n0, UA, un, uc, us⟩, bC, n0, bs0⟩ E al.fr al.tk w hs hI (by dsimp only; omega) hbl
    dsimp only at this
    rw [hF, hbs1] at this
    exact this) ?_
  rintro ⟨bM', N', UA', un', uc', us'⟩ ⟨hz1, hz2, hz3⟩
  dsimp only at hz1 hz2 hz3
  subst hz1 hz2
  simp only [pickL, nth]
  simp -implicitDefEqProofs (disch := first | omega | decide) only [seval, -Int.reducePow, -Nat.reducePow, cC, pv, binv, sArS31, undef, g1]
  refine hK _ _ ?_
  clear hK K
  refine cv_ret ⟨_, (by simp -implicitDefEqProofs (disch := first | omega | decide) only [seval, -Int.reducePow, -Nat.reducePow, cC, pv, binv, sArS31, undef, g1]; rfl), fun w hw => ?_⟩
  have h9 := hw.pick (ix := [3, 4, 5, 6, 7, 0, 1, 2]) (by decide)
  simp only [pickL, nth] at h9
  by_cases hEm : E ∈ us
  · rw [if_pos hEm] at hF hbs1
    subst hbs1
    refine ⟨(⟨al', bR, bB, n0, _⟩, ⟨⟨bM', n0, UA', un', uc', us'⟩, bC, n0, _⟩), rfl, ⟨rfl, rfl, rfl, hal.1, rfl, rfl, hP.free (z := ⟨bM', n0, UA', un', uc', us'⟩) hEm (hal.2.2 hEm) rfl hz3, ?_⟩, h9⟩
    dsimp only
    rw [hz3]
    exact Nat.le_succ_of_le (List.length_filter_le _ _)
  · rw [if_neg hEm] at hF hbs1
    subst hbs1
    obtain rfl := hal.2.1 hEm
    have hfe : (us.filter fun x => decide (x ≠ E)) = us := List.filter_eq_self.2 fun x hx => by simp; rintro rfl; exact hEm hx
    rw [hfe] at hz3
    exact ⟨(⟨al', bR, bB, n0, _⟩, ⟨⟨bM', n0, UA', un', uc', us'⟩, bC, n0, _⟩), rfl, ⟨rfl, rfl, rfl, rfl, rfl, rfl, hP.re (z := ⟨bM', n0, UA', un', uc', us'⟩) rfl hz3, by dsimp only; rw [hz3]; exact Nat.le_succ _⟩, h9⟩
end Go.Proofs.Ytfaanphjaghbpaa
/- The arena laws' step: Store. -/
namespace Go.Proofs.Ytfaanphjaghbpaa
open Go.RowKit Go.Shelf
set_option linter.unusedVariables false
set_option linter.unusedSimpArgs false
set_option maxRecDepth 100000
set_option maxRecDepth 100000 in
theorem sArS41 : type_of% (And.intro (And.intro (And.intro @eBox.eq_1 @exV.eq_1) (And.intro @alL.eq_1 @arL.eq_1)) (And.intro (And.intro @mrL.eq_1 @Nat.mul_one) (And.intro @wrap_in (And.intro @cMp @cM)))) := (And.intro (And.intro (And.intro @eBox.eq_1 @exV.eq_1) (And.intro @alL.eq_1 @arL.eq_1)) (And.intro (And.intro @mrL.eq_1 @Nat.mul_one) (And.intro @wrap_in (And.intro @cMp @cM))))
set_option maxHeartbeats 4000000 in
theorem step_4 (x : ArR) (y : MrR) (a b c d e f : Nat) (W : World) (hst : St (feet (arL x ++ mrL y)) W (arL x ++ mrL y) W) (hP : Pr x y) (hl : y.ml.us.length ≤ 80) (ha : a < 256) (hb : b < 256) (hc : c < 256) (hd : d < 256) (he : e < 256) (hf : f < 256) (hs : a % 9 = 4) :
    Calls Try.prog 40 #[.pointer (some ⟨x.bR, 0, none⟩), .pointer (some ⟨y.ml.bM, 0, none⟩), .agg #[.int .u8 (a : Int), .int .u8 (b : Int), .int .u8 (c : Int), .int .u8 (d : Int), .int .u8 (e : Int), .int .u8 (f : Int)]] W (StepPost x y W) := by
  unfold StepPost
  obtain ⟨M, hM⟩ : ∃ M, feet (arL x ++ mrL y) = M := ⟨_, rfl⟩
  rw [hM] at hst ⊢
  clear hM
  obtain ⟨al, bR, bB, N, bs⟩ := x
  obtain ⟨⟨bM, NN, UA, un, uc, us⟩, bC, n0, bs0⟩ := y
  obtain rfl : n0 = N := hP.n
  obtain rfl : bs0 = bs := hP.bs
  obtain rfl : NN = (n0 : Int) := hP.N
  have hI := hP.inv
  have hN1 := hI.N1
  have hfl := hI.frLen
  have hbl := hP.len
  have hb256 := hP.lt
  dsimp only at hI hN1 hfl hl hbl hb256
  dsimp only
  unfold arL alL mrL at hst
  dsimp only [List.cons_append, List.nil_append] at hst
  have h9 : (a : Int) % 9 = 4 := by omega
  have hk := off_any d
  obtain ⟨E, hE⟩ : ∃ E, extF us b c = E := ⟨_, rfl⟩
  obtain ⟨k, hkk⟩ : ∃ k, offF d = k := ⟨_, rfl⟩
  have hMr := fun {w : World} {L : List Res} (hw : St M W L w) (i1 i2 i3 : Nat) h1 h2 h3 => hP.mrW hw i1 i2 i3 h1 h2 h3 (by dsimp only; omega)
  have hAr := fun {w : World} {L : List Res} (hw : St M W L w) (i1 i2 i3 i4 i5 : Nat) h1 h2 h3 h4 h5 => hP.arW hw i1 i2 i3 i4 i5 h1 h2 h3 h4 h5 (by dsimp only; omega)
  refine calls_cv (M := M) (n := 267) [.tmp 6] rfl Try.func40 rfl rfl (Nat.le_of_ble_eq_true rfl)  hst ?_
  refine cv_seq_k fun K hK => ?_
  refine cv_region_then rfl ?_
  simp -implicitDefEqProofs (disch := first | omega | decide) only [seval, -Int.reducePow, -Nat.reducePow, cC, pv, binv, sArS41, undef]
  intro b5 hb5 hf5
  refine hK _ _ ?_
  clear hK K
  refine cv_seq_k fun K hK => ?_
  refine cv_region_then rfl ?_
  simp -implicitDefEqProofs (disch := first | omega | decide) only [seval, -Int.reducePow, -Nat.reducePow, cC, pv, binv, sArS41, undef]
  refine callV_ret (fun w hw => extent_any ⟨⟨bM, n0, UA, un, uc, us⟩, bC, n0, bs0⟩ b c w hb hc (hMr hw 6 7 8 rfl rfl rfl)) ?_
  try simp -implicitDefEqProofs (disch := first | omega | decide) only [seval, -Int.reducePow, -Nat.reducePow, cC, pv, binv, sArS41, undef, hE]
  intro b7 hb7 hf7
  refine hK _ _ ?_
  clear hK K
  refine cv_seq_k fun K hK => ?_
  refine cv_region_then rfl ?_
  simp -implicitDefEqProofs (disch := first | omega | decide) only [seval, -Int.reducePow, -Nat.reducePow, cC, pv, binv, sArS41, undef]
  refine callV_ret (fun w hw => off_any d w hd) ?_
  try simp -implicitDefEqProofs (disch := first | omega | decide) only [seval, -Int.reducePow, -Nat.reducePow, cC, pv, binv, sArS41, undef, hkk]
  refine hK _ _ ?_
  clear hK K
  refine cv_seq_k fun K hK => ?_
  refine cv_seq_k fun K hK => ?_
  refine cv_region_then rfl ?_
  simp -implicitDefEqProofs (disch := first | omega | decide) only [seval, -Int.reducePow, -Nat.reducePow, cC, pv, binv, sArS41, undef, h9]
  refine hK _ _ ?_
  clear hK K
  refine cv_block ?_
  refine cv_seq_k fun K hK => ?_
  refine cv_seq_k fun K hK => ?_
  refine cv_region_then rfl ?_
  simp -implicitDefEqProofs (disch := first | omega | decide) only [seval, -Int.reducePow, -Nat.reducePow, cC, pv, binv, sArS41, undef]
  refine hK _ _ ?_
  clear hK K
  refine cv_cond ?_
  simp -implicitDefEqProofs (disch := first | omega | decide) only [seval, -Int.reducePow, -Nat.reducePow, cC, pv, binv, sArS41, undef]
  refine cv_seq_k fun K hK => ?_
  refine cv_region_then rfl ?_
  simp -implicitDefEqProofs (disch := first | omega | decide) only [seval, -Int.reducePow, -Nat.reducePow, cC, pv, binv, sArS41, undef]
  refine hK _ _ ?_
  clear hK K
  refine cv_cond ?_
  simp -implicitDefEqProofs (disch := first | omega | decide) only [seval, -Int.reducePow, -Nat.reducePow, cC, pv, binv, sArS41, undef]
  refine cv_region_then rfl ?_
  simp -implicitDefEqProofs (disch := first | omega | decide) only [seval, -Int.reducePow, -Nat.reducePow, cC, pv, binv, sArS41, undef]
  refine hK _ _ ?_
  clear hK K
  refine cv_cond ?_
  simp -implicitDefEqProofs (disch := first | omega | decide) only [seval, -Int.reducePow, -Nat.reducePow, cC, pv, binv, sArS41, undef]
  refine cv_seq_k fun K hK => ?_
  refine cv_region_then rfl ?_
  simp -implicitDefEqProofs (disch := first | omega | decide) only [seval, -Int.reducePow, -Nat.reducePow, cC, pv, binv, sArS41, undef]
  refine hK _ _ ?_
  clear hK K
  refine cv_cond ?_
  simp -implicitDefEqProofs (disch := first | omega | decide) only [seval, -Int.reducePow, -Nat.reducePow, cC, pv, binv, sArS41, undef]
  refine cv_seq_k fun K hK => ?_
  refine cv_region_then rfl ?_
  simp -implicitDefEqProofs (disch := first | omega | decide) only [seval, -Int.reducePow, -Nat.reducePow, cC, pv, binv, sArS41, undef]
  refine hK _ _ ?_
  clear hK K
  refine cv_cond ?_
  simp -implicitDefEqProofs (disch := first | omega | decide) only [seval, -Int.reducePow, -Nat.reducePow, cC, pv, binv, sArS41, undef]
  refine cv_gen fun G1 hG => ?_
  have g1_0 := congrFun hG 0
  have g1_1 := congrFun hG 1
  have g1_5 := congrFun hG 5
  have g1_7 := congrFun hG 7
  have g1_8 := congrFun hG 8
  clear hG
  try simp -implicitDefEqProofs (disch := first | omega | decide) only [seval, -Int.reducePow, -Nat.reducePow, cC, pv, binv, sArS41, undef] at g1_0 g1_1 g1_5 g1_7 g1_8
  have g1 := And.intro g1_0 (And.intro g1_1 (And.intro g1_5 (And.intro g1_7 g1_8)))
  refine cv_seq_k fun K hK => ?_
  refine cv_cut (fun _ _ => True) (fun F' L' => ∃ (wd : Int) (R : Res), F' 0 = G1 0 ∧ F' 1 = G1 1 ∧ F' 5 = G1 5 ∧ F' 7 = G1 7 ∧ F' 8 = G1 8 ∧ F' 14 = .int .i64 wd ∧ L' = [R, eBox b7 E, .blk b5 48 [.int .u8 (a : Int), .int .u8 (b : Int), .int .u8 (c : Int), .int .u8 (d : Int), .int .u8 (e : Int), .int .u8 (f : Int)], .blk bR 64 [.pointer (some ⟨al.bA, 0, none⟩), .slice (some ⟨bB, 0, none⟩) n0 n0], .blk bB 5 (byt bs0), .blk al.bA 99 [.slice al.FA al.fn al.fc, .map (some al.bm)], mpR al.bm al.tk, .row (.slice al.FA al.fn al.fc) 28 2 al.fn (exCells al.fr), .blk bM 84 [.int .i64 (n0 : Int), .slice UA un uc, .slice (some ⟨bC, 0, none⟩) n0 n0], .row (.slice UA un uc) 28 2 un (exCells us), .blk bC 5 (byt bs0)]) ?_ ?_
  · obtain ⟨j5, hj5⟩ : ∃ j, e % 5 = j := ⟨_, rfl⟩
    have h5' : (e : Int) % 5 = (j5 : Int) := by omega
    have h5l : j5 < 5 := by omega
    have h11 : 0 ≤ (e : Int) % 11 ∧ (e : Int) % 11 < 11 := by omega
    obtain ⟨w11, hw11⟩ : ∃ w : Int, (e : Int) % 11 = w := ⟨_, rfl⟩
    refine cv_region_then rfl ?_
    simp -implicitDefEqProofs (disch := first | omega | decide) only [seval, -Int.reducePow, -Nat.reducePow, cC, pv, binv, sArS41, undef, h5', hw11, g1]
    intro bS hbS hfS
    rcases (show j5 = 0 ∨ j5 = 1 ∨ j5 = 2 ∨ j5 = 3 ∨ j5 = 4 by omega) with rfl | rfl | rfl | rfl | rfl
    all_goals
      simp -implicitDefEqProofs (disch := first | omega | decide) only [seval, -Int.reducePow, -Nat.reducePow, cC, pv, binv, sArS41, undef, h5', g1]
      exact ⟨_, _, rfl, rfl⟩
  intro G2 L' _ hF
  obtain ⟨wd, R, q0, q1, q5, q7, q8, q14, rfl⟩ := hF
  have g2_0 := q0.trans g1_0
  have g2_1 := q1.trans g1_1
  have g2_5 := q5.trans g1_5
  have g2_7 := q7.trans g1_7
  have g2_8 := q8.trans g1_8
  have g2_14 := q14
  clear q0 q1 q5 q7 q8 q14
  have g2 := And.intro g2_0 (And.intro g2_1 (And.intro g2_5 (And.intro g2_7 (And.intro g2_8 g2_14))))
  refine hK _ _ ?_
  clear hK K
  refine cv_pick [1, 2, 3, 4, 5, 6, 7, 8, 9, 10] (by decide) ?_
  simp only [pickL, nth]
  refine cv_seq_k fun K hK => ?_
  refine cv_cut (fun _ _ => True) (fun F' L' => ∃ (v : Nat), F' 0 = G2 0 ∧ F' 1 = G2 1 ∧ F' 7 = G2 7 ∧ F' 8 = G2 8 ∧ F' 14 = G2 14 ∧ F' 15 = .int .u64 (v : Int) ∧ L' = [eBox b7 E, .blk b5 48 [.int .u8 (a : Int), .int .u8 (b : Int), .int .u8 (c : Int), .int .u8 (d : Int), .int .u8 (e : Int), .int .u8 (f : Int)], .blk bR 64 [.pointer (some ⟨al.bA, 0, none⟩), .slice (some ⟨bB, 0, none⟩) n0 n0], .blk bB 5 (byt bs0), .blk al.bA 99 [.slice al.FA al.fn al.fc, .map (some al.bm)], mpR al.bm al.tk, .row (.slice al.FA al.fn al.fc) 28 2 al.fn (exCells al.fr), .blk bM 84 [.int .i64 (n0 : Int), .slice UA un uc, .slice (some ⟨bC, 0, none⟩) n0 n0], .row (.slice UA un uc) 28 2 un (exCells us), .blk bC 5 (byt bs0)] ∧ v < 18446744073709551616) ?_ ?_
  · refine cv_region_then rfl ?_
    simp -implicitDefEqProofs (disch := first | omega | decide) only [seval, -Int.reducePow, -Nat.reducePow, cC, pv, binv, sArS41, undef, g2]
    have q0 : 0 ≤ IntKind.u8.wrap ((e : Int) / 5) := by rw [IntKind.wrap_u8]; omega
    rw [Int.tmod_eq_emod_of_nonneg q0]
    obtain ⟨z, hz⟩ : ∃ z, IntKind.u64.wrap (IntKind.u64.wrap (f : Int) * 72340172838076673) = z := ⟨_, rfl⟩
    have hz1 : 0 ≤ z ∧ z < 18446744073709551616 := by rw [← hz, IntKind.wrap_u64]; omega
    rw [hz]
    have hq : 0 ≤ IntKind.u8.wrap (8 * (IntKind.u8.wrap ((e : Int) / 5) % 8)) ∧ IntKind.u8.wrap (8 * (IntKind.u8.wrap ((e : Int) / 5) % 8)) ≤ 64 := by rw [IntKind.wrap_u8]; omega
    obtain ⟨p, hp⟩ : ∃ p, IntKind.u8.wrap (8 * (IntKind.u8.wrap ((e : Int) / 5) % 8)) = p := ⟨_, rfl⟩
    rw [hp] at hq ⊢
    have h1 := Int.ediv_nonneg hz1.1 (show (0 : Int) ≤ 2 ^ p.toNat from Int.le_of_lt (Int.pow_pos (by omega)))
    have h2 := Int.ediv_le_self (2 ^ p.toNat) hz1.1
    refine ⟨hq, (z / 2 ^ p.toNat).toNat, congrArg (Value.int .u64) (Int.toNat_of_nonneg h1).symm, by omega⟩
  intro G3 L' _ hF
  obtain ⟨v, q0, q1, q7, q8, q14, q15, rfl, hv⟩ := hF
  have g3_0 := q0.trans g2_0
  have g3_1 := q1.trans g2_1
  have g3_7 := q7.trans g2_7
  have g3_8 := q8.trans g2_8
  have g3_14 := q14.trans g2_14
  have g3_15 := q15
  clear q0 q1 q7 q8 q14 q15
  have g3 := And.intro g3_0 (And.intro g3_1 (And.intro g3_7 (And.intro g3_8 (And.intro g3_14 g3_15))))
  refine hK _ _ ?_
  clear hK K
  obtain ⟨F, hF⟩ : ∃ F, stErr us E k wd v = F := ⟨_, rfl⟩
  obtain ⟨bs1, hbs1⟩ : ∃ bs1, stF bs0 E k wd v F = bs1 := ⟨_, rfl⟩
  refine cv_seq_k fun K hK => ?_
  refine cv_draw_of (pickL [0] _) (fun w hw => hw.pick (by decide)) (by simp only [pickL, nth, suf_cons, suf_nil, List.mem_cons, true_or, or_true, and_true, eq_self]) [(true, 0), (true, 1), (true, 2), (true, 3), (true, 4), (true, 6), (true, 7), (true, 8), (true, 9), (true, 10), (false, 5), (false, 11), (true, 12), (true, 13)] [] mixA rfl (by kernel_rfl) (by kernel_rfl) rfl rfl ?_
  simp -implicitDefEqProofs (disch := first | omega | decide) only [seval, -Int.reducePow, -Nat.reducePow, cC, pv, binv, sArS41, undef, g3]
  refine callV_grp [2, 3, 4, 5, 6] [0, 1, 7, 8, 9] (by decide) (fun _ : Unit => .int .i64 F) (fun _ => arL ⟨al, bR, bB, n0, bs1⟩) (fun _ => True) (fun w hw hs => by
    have := arStore_any ⟨al, bR, bB, n0, bs0⟩ us E k wd v w hs hI (by omega) hbl hv
    dsimp only at this
    rw [hF, hbs1] at this
    exact this) ?_
  intro _ _
  simp only [pickL, nth]
  simp -implicitDefEqProofs (disch := first | omega | decide) only [seval, -Int.reducePow, -Nat.reducePow, cC, pv, binv, sArS41, undef, g3]
  refine callV_grp [7, 8, 9] [0, 1, 2, 3, 4, 5, 6] (by decide) (fun _ : Unit => .int .i64 F) (fun _ => mrL ⟨⟨bM, n0, UA, un, uc, us⟩, bC, n0, bs1⟩) (fun _ => True) (fun w hw hs => by
    have := rStore_any ⟨⟨bM, n0, UA, un, uc, us⟩, bC, n0, bs0⟩ E k wd v al.fr al.tk w hs hI (by dsimp only; omega) hbl hv
    dsimp only at this
    rw [hF, hbs1] at this
    exact this) ?_
  intro _ _
  simp only [pickL, nth]
  simp -implicitDefEqProofs (disch := first | omega | decide) only [seval, -Int.reducePow, -Nat.reducePow, cC, pv, binv, sArS41, undef, g3]
  have hP' : Pr ⟨al, bR, bB, n0, bs1⟩ ⟨⟨bM, n0, UA, un, uc, us⟩, bC, n0, bs1⟩ := hP.chg (e := E) (by have := stF_chg hI hbl E k wd v; rw [hF, hbs1] at this; exact this)
  refine hK _ _ ?_
  clear hK K
  refine cv_ret ⟨_, (by simp -implicitDefEqProofs (disch := first | omega | decide) only [seval, -Int.reducePow, -Nat.reducePow, cC, pv, binv, sArS41, undef, g3]; rfl), fun w hw => ?_⟩
  have h9 := hw.pick (ix := [3, 4, 5, 6, 7, 0, 1, 2]) (by decide)
  simp only [pickL, nth] at h9
  exact ⟨(⟨al, bR, bB, n0, bs1⟩, ⟨⟨bM, n0, UA, un, uc, us⟩, bC, n0, bs1⟩), rfl, ⟨rfl, rfl, rfl, rfl, rfl, rfl, hP', Nat.le_succ _⟩, h9⟩
end Go.Proofs.Ytfaanphjaghbpaa
/- The arena laws' step: Load. -/
namespace Go.Proofs.Ytfaanphjaghbpaa
open Go.RowKit Go.Shelf
set_option linter.unusedVariables false
set_option linter.unusedSimpArgs false
set_option maxRecDepth 100000
set_option maxRecDepth 100000 in
theorem sArS51 : type_of% (And.intro (And.intro (And.intro @eBox.eq_1 @exV.eq_1) (And.intro @alL.eq_1 @arL.eq_1)) (And.intro (And.intro @mrL.eq_1 @Nat.mul_one) (And.intro @wrap_in (And.intro @cMp @cM)))) := (And.intro (And.intro (And.intro @eBox.eq_1 @exV.eq_1) (And.intro @alL.eq_1 @arL.eq_1)) (And.intro (And.intro @mrL.eq_1 @Nat.mul_one) (And.intro @wrap_in (And.intro @cMp @cM))))
set_option maxHeartbeats 4000000 in
theorem step_5 (x : ArR) (y : MrR) (a b c d e f : Nat) (W : World) (hst : St (feet (arL x ++ mrL y)) W (arL x ++ mrL y) W) (hP : Pr x y) (hl : y.ml.us.length ≤ 80) (ha : a < 256) (hb : b < 256) (hc : c < 256) (hd : d < 256) (he : e < 256) (hf : f < 256) (hs : a % 9 = 5) :
    Calls Try.prog 40 #[.pointer (some ⟨x.bR, 0, none⟩), .pointer (some ⟨y.ml.bM, 0, none⟩), .agg #[.int .u8 (a : Int), .int .u8 (b : Int), .int .u8 (c : Int), .int .u8 (d : Int), .int .u8 (e : Int), .int .u8 (f : Int)]] W (StepPost x y W) := by
  unfold StepPost
  obtain ⟨M, hM⟩ : ∃ M, feet (arL x ++ mrL y) = M := ⟨_, rfl⟩
  rw [hM] at hst ⊢
  clear hM
  obtain ⟨al, bR, bB, N, bs⟩ := x
  obtain ⟨⟨bM, NN, UA, un, uc, us⟩, bC, n0, bs0⟩ := y
  obtain rfl : n0 = N := hP.n
  obtain rfl : bs0 = bs := hP.bs
  obtain rfl : NN = (n0 : Int) := hP.N
  have hI := hP.inv
  have hN1 := hI.N1
  have hfl := hI.frLen
  have hbl := hP.len
  have hb256 := hP.lt
  dsimp only at hI hN1 hfl hl hbl hb256
  dsimp only
  unfold arL alL mrL at hst
  dsimp only [List.cons_append, List.nil_append] at hst
  have h9 : (a : Int) % 9 = 5 := by omega
  have hk := off_any d
  obtain ⟨E, hE⟩ : ∃ E, extF us b c = E := ⟨_, rfl⟩
  obtain ⟨k, hkk⟩ : ∃ k, offF d = k := ⟨_, rfl⟩
  have hMr := fun {w : World} {L : List Res} (hw : St M W L w) (i1 i2 i3 : Nat) h1 h2 h3 => hP.mrW hw i1 i2 i3 h1 h2 h3 (by dsimp only; omega)
  have hAr := fun {w : World} {L : List Res} (hw : St M W L w) (i1 i2 i3 i4 i5 : Nat) h1 h2 h3 h4 h5 => hP.arW hw i1 i2 i3 i4 i5 h1 h2 h3 h4 h5 (by dsimp only; omega)
  refine calls_cv (M := M) (n := 267) [.tmp 6] rfl Try.func40 rfl rfl (Nat.le_of_ble_eq_true rfl)  hst ?_
  refine cv_seq_k fun K hK => ?_
  refine cv_region_then rfl ?_
  simp -implicitDefEqProofs (disch := first | omega | decide) only [seval, -Int.reducePow, -Nat.reducePow, cC, pv, binv, sArS51, undef]
  intro b5 hb5 hf5
  refine hK _ _ ?_
  clear hK K
  refine cv_seq_k fun K hK => ?_
  refine cv_region_then rfl ?_
  simp -implicitDefEqProofs (disch := first | omega | decide) only [seval, -Int.reducePow, -Nat.reducePow, cC, pv, binv, sArS51, undef]
  refine callV_ret (fun w hw => extent_any ⟨⟨bM, n0, UA, un, uc, us⟩, bC, n0, bs0⟩ b c w hb hc (hMr hw 6 7 8 rfl rfl rfl)) ?_
  try simp -implicitDefEqProofs (disch := first | omega | decide) only [seval, -Int.reducePow, -Nat.reducePow, cC, pv, binv, sArS51, undef, hE]
  intro b7 hb7 hf7
  refine hK _ _ ?_
  clear hK K
  refine cv_seq_k fun K hK => ?_
  refine cv_region_then rfl ?_
  simp -implicitDefEqProofs (disch := first | omega | decide) only [seval, -Int.reducePow, -Nat.reducePow, cC, pv, binv, sArS51, undef]
  refine callV_ret (fun w hw => off_any d w hd) ?_
  try simp -implicitDefEqProofs (disch := first | omega | decide) only [seval, -Int.reducePow, -Nat.reducePow, cC, pv, binv, sArS51, undef, hkk]
  refine hK _ _ ?_
  clear hK K
  refine cv_seq_k fun K hK => ?_
  refine cv_seq_k fun K hK => ?_
  refine cv_region_then rfl ?_
  simp -implicitDefEqProofs (disch := first | omega | decide) only [seval, -Int.reducePow, -Nat.reducePow, cC, pv, binv, sArS51, undef, h9]
  refine hK _ _ ?_
  clear hK K
  refine cv_block ?_
  refine cv_seq_k fun K hK => ?_
  refine cv_seq_k fun K hK => ?_
  refine cv_region_then rfl ?_
  simp -implicitDefEqProofs (disch := first | omega | decide) only [seval, -Int.reducePow, -Nat.reducePow, cC, pv, binv, sArS51, undef]
  refine hK _ _ ?_
  clear hK K
  refine cv_cond ?_
  simp -implicitDefEqProofs (disch := first | omega | decide) only [seval, -Int.reducePow, -Nat.reducePow, cC, pv, binv, sArS51, undef]
  refine cv_seq_k fun K hK => ?_
  refine cv_region_then rfl ?_
  simp -implicitDefEqProofs (disch := first | omega | decide) only [seval, -Int.reducePow, -Nat.reducePow, cC, pv, binv, sArS51, undef]
  refine hK _ _ ?_
  clear hK K
  refine cv_cond ?_
  simp -implicitDefEqProofs (disch := first | omega | decide) only [seval, -Int.reducePow, -Nat.reducePow, cC, pv, binv, sArS51, undef]
  refine cv_region_then rfl ?_
  simp -implicitDefEqProofs (disch := first | omega | decide) only [seval, -Int.reducePow, -Nat.reducePow, cC, pv, binv, sArS51, undef]
  refine hK _ _ ?_
  clear hK K
  refine cv_cond ?_
  simp -implicitDefEqProofs (disch := first | omega | decide) only [seval, -Int.reducePow, -Nat.reducePow, cC, pv, binv, sArS51, undef]
  refine cv_seq_k fun K hK => ?_
  refine cv_region_then rfl ?_
  simp -implicitDefEqProofs (disch := first | omega | decide) only [seval, -Int.reducePow, -Nat.reducePow, cC, pv, binv, sArS51, undef]
  refine hK _ _ ?_
  clear hK K
  refine cv_cond ?_
  simp -implicitDefEqProofs (disch := first | omega | decide) only [seval, -Int.reducePow, -Nat.reducePow, cC, pv, binv, sArS51, undef]
  refine cv_seq_k fun K hK => ?_
  refine cv_region_then rfl ?_
  simp -implicitDefEqProofs (disch := first | omega | decide) only [seval, -Int.reducePow, -Nat.reducePow, cC, pv, binv, sArS51, undef]
  refine hK _ _ ?_
  clear hK K
  refine cv_cond ?_
  simp -implicitDefEqProofs (disch := first | omega | decide) only [seval, -Int.reducePow, -Nat.reducePow, cC, pv, binv, sArS51, undef]
  refine cv_seq_k fun K hK => ?_
  refine cv_region_then rfl ?_
  simp -implicitDefEqProofs (disch := first | omega | decide) only [seval, -Int.reducePow, -Nat.reducePow, cC, pv, binv, sArS51, undef]
  refine hK _ _ ?_
  clear hK K
  refine cv_cond ?_
  simp -implicitDefEqProofs (disch := first | omega | decide) only [seval, -Int.reducePow, -Nat.reducePow, cC, pv, binv, sArS51, undef]
  refine cv_gen fun G1 hG => ?_
  have g1_0 := congrFun hG 0
  have g1_1 := congrFun hG 1
  have g1_5 := congrFun hG 5
  have g1_7 := congrFun hG 7
  have g1_8 := congrFun hG 8
  clear hG
  try simp -implicitDefEqProofs (disch := first | omega | decide) only [seval, -Int.reducePow, -Nat.reducePow, cC, pv, binv, sArS51, undef] at g1_0 g1_1 g1_5 g1_7 g1_8
  have g1 := And.intro g1_0 (And.intro g1_1 (And.intro g1_5 (And.intro g1_7 g1_8)))
  refine cv_seq_k fun K hK => ?_
  refine cv_cut (fun _ _ => True) (fun F' L' => ∃ (wd : Int) (R : Res), F' 0 = G1 0 ∧ F' 1 = G1 1 ∧ F' 7 = G1 7 ∧ F' 8 = G1 8 ∧ F' 16 = .int .i64 wd ∧ L' = [R, eBox b7 E, .blk b5 48 [.int .u8 (a : Int), .int .u8 (b : Int), .int .u8 (c : Int), .int .u8 (d : Int), .int .u8 (e : Int), .int .u8 (f : Int)], .blk bR 64 [.pointer (some ⟨al.bA, 0, none⟩), .slice (some ⟨bB, 0, none⟩) n0 n0], .blk bB 5 (byt bs0), .blk al.bA 99 [.slice al.FA al.fn al.fc, .map (some al.bm)], mpR al.bm al.tk, .row (.slice al.FA al.fn al.fc) 28 2 al.fn (exCells al.fr), .blk bM 84 [.int .i64 (n0 : Int), .slice UA un uc, .slice (some ⟨bC, 0, none⟩) n0 n0], .row (.slice UA un uc) 28 2 un (exCells us), .blk bC 5 (byt bs0)]) ?_ ?_
  · obtain ⟨j5, hj5⟩ : ∃ j, e % 5 = j := ⟨_, rfl⟩
    have h5' : (e : Int) % 5 = (j5 : Int) := by omega
    have h5l : j5 < 5 := by omega
    have h11 : 0 ≤ (e : Int) % 11 ∧ (e : Int) % 11 < 11 := by omega
    obtain ⟨w11, hw11⟩ : ∃ w : Int, (e : Int) % 11 = w := ⟨_, rfl⟩
    refine cv_region_then rfl ?_
    simp -implicitDefEqProofs (disch := first | omega | decide) only [seval, -Int.reducePow, -Nat.reducePow, cC, pv, binv, sArS51, undef, h5', hw11, g1]
    intro bS hbS hfS
    rcases (show j5 = 0 ∨ j5 = 1 ∨ j5 = 2 ∨ j5 = 3 ∨ j5 = 4 by omega) with rfl | rfl | rfl | rfl | rfl
    all_goals
      simp -implicitDefEqProofs (disch := first | omega | decide) only [seval, -Int.reducePow, -Nat.reducePow, cC, pv, binv, sArS51, undef, h5', g1]
      exact ⟨_, _, rfl, rfl⟩
  intro G2 L' _ hF
  obtain ⟨wd, R, q0, q1, q7, q8, q16, rfl⟩ := hF
  have g2_0 := q0.trans g1_0
  have g2_1 := q1.trans g1_1
  have g2_7 := q7.trans g1_7
  have g2_8 := q8.trans g1_8
  have g2_16 := q16
  clear q0 q1 q7 q8 q16
  have g2 := And.intro g2_0 (And.intro g2_1 (And.intro g2_7 (And.intro g2_8 g2_16)))
  refine hK _ _ ?_
  clear hK K
  refine cv_pick [1, 2, 3, 4, 5, 6, 7, 8, 9, 10] (by decide) ?_
  simp only [pickL, nth]
  refine cv_seq_k fun K hK => ?_
  refine cv_region_then rfl ?_
  simp -implicitDefEqProofs (disch := first | omega | decide) only [seval, -Int.reducePow, -Nat.reducePow, cC, pv, binv, sArS51, undef, g2]
  refine callV_ret (fun w hw => arLoad_any ⟨al, bR, bB, n0, bs0⟩ us w E k wd (hAr hw 2 3 4 5 6 rfl rfl rfl rfl rfl) hI hb256) ?_
  try simp -implicitDefEqProofs (disch := first | omega | decide) only [seval, -Int.reducePow, -Nat.reducePow, cC, pv, binv, sArS51, undef, g2]
  refine hK _ _ ?_
  clear hK K
  refine cv_seq_k fun K hK => ?_
  refine cv_region_then rfl ?_
  simp -implicitDefEqProofs (disch := first | omega | decide) only [seval, -Int.reducePow, -Nat.reducePow, cC, pv, binv, sArS51, undef, g2]
  refine callV_ret (fun w hw => rLoad_any ⟨⟨bM, n0, UA, un, uc, us⟩, bC, n0, bs0⟩ E k wd al.fr al.tk w (hMr hw 7 8 9 rfl rfl rfl) hI hb256) ?_
  try simp -implicitDefEqProofs (disch := first | omega | decide) only [seval, -Int.reducePow, -Nat.reducePow, cC, pv, binv, sArS51, undef, g2]
  refine hK _ _ ?_
  clear hK K
  refine cv_seq_k fun K hK => ?_
  refine cv_region_then rfl ?_
  simp -implicitDefEqProofs (disch := first | omega | decide) only [seval, -Int.reducePow, -Nat.reducePow, cC, pv, binv, sArS51, undef, g2]
  refine hK _ _ ?_
  clear hK K
  refine cv_ret ⟨_, (by simp -implicitDefEqProofs (disch := first | omega | decide) only [seval, -Int.reducePow, -Nat.reducePow, cC, pv, binv, sArS51, undef, g2]; rfl), fun w hw => ?_⟩
  have h9 := hw.pick (ix := [2, 3, 4, 5, 6, 7, 8, 9]) (by decide)
  simp only [pickL, nth] at h9
  exact ⟨(⟨al, bR, bB, n0, bs0⟩, ⟨⟨bM, n0, UA, un, uc, us⟩, bC, n0, bs0⟩), rfl, ⟨rfl, rfl, rfl, rfl, rfl, rfl, hP, Nat.le_succ _⟩, h9⟩
end Go.Proofs.Ytfaanphjaghbpaa
/- The arena laws' step: Write. -/
namespace Go.Proofs.Ytfaanphjaghbpaa
open Go.RowKit Go.Shelf
set_option linter.unusedVariables false
set_option linter.unusedSimpArgs false
set_option maxRecDepth 100000
set_option maxRecDepth 100000 in
theorem sArS61 : type_of% (And.intro (And.intro (And.intro @eBox.eq_1 @exV.eq_1) (And.intro @alL.eq_1 @arL.eq_1)) (And.intro (And.intro @mrL.eq_1 @Nat.mul_one) (And.intro @wrap_in (And.intro @cMp @cM)))) := (And.intro (And.intro (And.intro @eBox.eq_1 @exV.eq_1) (And.intro @alL.eq_1 @arL.eq_1)) (And.intro (And.intro @mrL.eq_1 @Nat.mul_one) (And.intro @wrap_in (And.intro @cMp @cM))))
set_option maxHeartbeats 4000000 in
theorem step_6 (x : ArR) (y : MrR) (a b c d e f : Nat) (W : World) (hst : St (feet (arL x ++ mrL y)) W (arL x ++ mrL y) W) (hP : Pr x y) (hl : y.ml.us.length ≤ 80) (ha : a < 256) (hb : b < 256) (hc : c < 256) (hd : d < 256) (he : e < 256) (hf : f < 256) (hs : a % 9 = 6) :
    Calls Try.prog 40 #[.pointer (some ⟨x.bR, 0, none⟩), .pointer (some ⟨y.ml.bM, 0, none⟩), .agg #[.int .u8 (a : Int), .int .u8 (b : Int), .int .u8 (c : Int), .int .u8 (d : Int), .int .u8 (e : Int), .int .u8 (f : Int)]] W (StepPost x y W) := by
  unfold StepPost
  obtain ⟨M, hM⟩ : ∃ M, feet (arL x ++ mrL y) = M := ⟨_, rfl⟩
  rw [hM] at hst ⊢
  clear hM
  obtain ⟨al, bR, bB, N, bs⟩ := x
  obtain ⟨⟨bM, NN, UA, un, uc, us⟩, bC, n0, bs0⟩ := y
  obtain rfl : n0 = N := hP.n
  obtain rfl : bs0 = bs := hP.bs
  obtain rfl : NN = (n0 : Int) := hP.N
  have hI := hP.inv
  have hN1 := hI.N1
  have hfl := hI.frLen
  have hbl := hP.len
  have hb256 := hP.lt
  dsimp only at hI hN1 hfl hl hbl hb256
  dsimp only
  unfold arL alL mrL at hst
  dsimp only [List.cons_append, List.nil_append] at hst
  have h9 : (a : Int) % 9 = 6 := by omega
  have hk := off_any d
  obtain ⟨E, hE⟩ : ∃ E, extF us b c = E := ⟨_, rfl⟩
  obtain ⟨k, hkk⟩ : ∃ k, offF d = k := ⟨_, rfl⟩
  have hMr := fun {w : World} {L : List Res} (hw : St M W L w) (i1 i2 i3 : Nat) h1 h2 h3 => hP.mrW hw i1 i2 i3 h1 h2 h3 (by dsimp only; omega)
  have hAr := fun {w : World} {L : List Res} (hw : St M W L w) (i1 i2 i3 i4 i5 : Nat) h1 h2 h3 h4 h5 => hP.arW hw i1 i2 i3 i4 i5 h1 h2 h3 h4 h5 (by dsimp only; omega)
  refine calls_cv (M := M) (n := 267) [.tmp 6] rfl Try.func40 rfl rfl (Nat.le_of_ble_eq_true rfl)  hst ?_
  refine cv_seq_k fun K hK => ?_
  refine cv_region_then rfl ?_
  simp -implicitDefEqProofs (disch := first | omega | decide) only [seval, -Int.reducePow, -Nat.reducePow, cC, pv, binv, sArS61, undef]
  intro b5 hb5 hf5
  refine hK _ _ ?_
  clear hK K
  refine cv_seq_k fun K hK => ?_
  refine cv_region_then rfl ?_
  simp -implicitDefEqProofs (disch := first | omega | decide) only [seval, -Int.reducePow, -Nat.reducePow, cC, pv, binv, sArS61, undef]
  refine callV_ret (fun w hw => extent_any ⟨⟨bM, n0, UA, un, uc, us⟩, bC, n0, bs0⟩ b c w hb hc (hMr hw 6 7 8 rfl rfl rfl)) ?_
  try simp -implicitDefEqProofs (disch := first | omega | decide) only [seval, -Int.reducePow, -Nat.reducePow, cC, pv, binv, sArS61, undef, hE]
  intro b7 hb7 hf7
  refine hK _ _ ?_
  clear hK K
  refine cv_seq_k fun K hK => ?_
  refine cv_region_then rfl ?_
  simp -implicitDefEqProofs (disch := first | omega | decide) only [seval, -Int.reducePow, -Nat.reducePow, cC, pv, binv, sArS61, undef]
  refine callV_ret (fun w hw => off_any d w hd) ?_
  try simp -implicitDefEqProofs (disch := first | omega | decide) only [seval, -Int.reducePow, -Nat.reducePow, cC, pv, binv, sArS61, undef, hkk]
  refine hK _ _ ?_
  clear hK K
  refine cv_seq_k fun K hK => ?_
  refine cv_seq_k fun K hK => ?_
  refine cv_region_then rfl ?_
  simp -implicitDefEqProofs (disch := first | omega | decide) only [seval, -Int.reducePow, -Nat.reducePow, cC, pv, binv, sArS61, undef, h9]
  refine hK _ _ ?_
  clear hK K
  refine cv_block ?_
  refine cv_seq_k fun K hK => ?_
  refine cv_seq_k fun K hK => ?_
  refine cv_region_then rfl ?_
  simp -implicitDefEqProofs (disch := first | omega | decide) only [seval, -Int.reducePow, -Nat.reducePow, cC, pv, binv, sArS61, undef]
  refine hK _ _ ?_
  clear hK K
  refine cv_cond ?_
  simp -implicitDefEqProofs (disch := first | omega | decide) only [seval, -Int.reducePow, -Nat.reducePow, cC, pv, binv, sArS61, undef]
  refine cv_seq_k fun K hK => ?_
  refine cv_region_then rfl ?_
  simp -implicitDefEqProofs (disch := first | omega | decide) only [seval, -Int.reducePow, -Nat.reducePow, cC, pv, binv, sArS61, undef]
  refine hK _ _ ?_
  clear hK K
  refine cv_cond ?_
  simp -implicitDefEqProofs (disch := first | omega | decide) only [seval, -Int.reducePow, -Nat.reducePow, cC, pv, binv, sArS61, undef]
  refine cv_region_then rfl ?_
  simp -implicitDefEqProofs (disch := first | omega | decide) only [seval, -Int.reducePow, -Nat.reducePow, cC, pv, binv, sArS61, undef]
  refine hK _ _ ?_
  clear hK K
  refine cv_cond ?_
  simp -implicitDefEqProofs (disch := first | omega | decide) only [seval, -Int.reducePow, -Nat.reducePow, cC, pv, binv, sArS61, undef]
  refine cv_seq_k fun K hK => ?_
  refine cv_region_then rfl ?_
  simp -implicitDefEqProofs (disch := first | omega | decide) only [seval, -Int.reducePow, -Nat.reducePow, cC, pv, binv, sArS61, undef]
  refine hK _ _ ?_
  clear hK K
  refine cv_cond ?_
  simp -implicitDefEqProofs (disch := first | omega | decide) only [seval, -Int.reducePow, -Nat.reducePow, cC, pv, binv, sArS61, undef]
  refine cv_seq_k fun K hK => ?_
  refine cv_region_then rfl ?_
  simp -implicitDefEqProofs (disch := first | omega | decide) only [seval, -Int.reducePow, -Nat.reducePow, cC, pv, binv, sArS61, undef]
  refine hK _ _ ?_
  clear hK K
  refine cv_cond ?_
  simp -implicitDefEqProofs (disch := first | omega | decide) only [seval, -Int.reducePow, -Nat.reducePow, cC, pv, binv, sArS61, undef]
  refine cv_seq_k fun K hK => ?_
  refine cv_region_then rfl ?_
  simp -implicitDefEqProofs (disch := first | omega | decide) only [seval, -Int.reducePow, -Nat.reducePow, cC, pv, binv, sArS61, undef]
  refine hK _ _ ?_
  clear hK K
  refine cv_cond ?_
  simp -implicitDefEqProofs (disch := first | omega | decide) only [seval, -Int.reducePow, -Nat.reducePow, cC, pv, binv, sArS61, undef]
  refine cv_seq_k fun K hK => ?_
  refine cv_region_then rfl ?_
  simp -implicitDefEqProofs (disch := first | omega | decide) only [seval, -Int.reducePow, -Nat.reducePow, cC, pv, binv, sArS61, undef]
  refine hK _ _ ?_
  clear hK K
  refine cv_cond ?_
  simp -implicitDefEqProofs (disch := first | omega | decide) only [seval, -Int.reducePow, -Nat.reducePow, cC, pv, binv, sArS61, undef]
  refine cv_gen fun G1 hG => ?_
  have g1_0 := congrFun hG 0
  have g1_1 := congrFun hG 1
  have g1_5 := congrFun hG 5
  have g1_7 := congrFun hG 7
  have g1_8 := congrFun hG 8
  clear hG
  try simp -implicitDefEqProofs (disch := first | omega | decide) only [seval, -Int.reducePow, -Nat.reducePow, cC, pv, binv, sArS61, undef] at g1_0 g1_1 g1_5 g1_7 g1_8
  have g1 := And.intro g1_0 (And.intro g1_1 (And.intro g1_5 (And.intro g1_7 g1_8)))
  obtain ⟨m, hm⟩ : ∃ m, e % 12 = m := ⟨_, rfl⟩
  have hm' : (e : Int) % 12 = (m : Int) := by omega
  refine cv_seq_k fun K hK => ?_
  refine cv_region_then rfl ?_
  simp -implicitDefEqProofs (disch := first | omega | decide) only [seval, -Int.reducePow, -Nat.reducePow, cC, pv, binv, sArS61, undef, hm', g1]
  refine xv_make (u := .int .u8 0) tap36 rfl rfl rfl (by omega) (by omega) ?_
  intro bS hbS hfS
  simp -implicitDefEqProofs (disch := first | omega | decide) only [seval, -Int.reducePow, -Nat.reducePow, cC, pv, binv, sArS61, undef, g1] at hfS
  simp -implicitDefEqProofs (disch := first | omega | decide) only [seval, -Int.reducePow, -Nat.reducePow, cC, pv, binv, sArS61, undef, g1]
  rw [byt_rep]
  refine hK _ _ ?_
  clear hK K
  refine cv_seq_k fun K hK => ?_
  refine cv_seq_k fun K hK => ?_
  refine cv_region_then rfl ?_
  simp -implicitDefEqProofs (disch := first | omega | decide) only [seval, -Int.reducePow, -Nat.reducePow, cC, pv, binv, sArS61, undef, g1]
  refine hK _ _ ?_
  clear hK K
  refine cv_gen fun G2 hG => ?_
  have g2_0 := congrFun hG 0
  have g2_1 := congrFun hG 1
  have g2_5 := congrFun hG 5
  have g2_7 := congrFun hG 7
  have g2_8 := congrFun hG 8
  have g2_21 := congrFun hG 21
  have g2_174 := congrFun hG 174
  have g2_175 := congrFun hG 175
  clear hG
  try simp -implicitDefEqProofs (disch := first | omega | decide) only [seval, -Int.reducePow, -Nat.reducePow, cC, pv, binv, sArS61, undef, g1] at g2_0 g2_1 g2_5 g2_7 g2_8 g2_21 g2_174 g2_175
  have g2 := And.intro g2_0 (And.intro g2_1 (And.intro g2_5 (And.intro g2_7 (And.intro g2_8 (And.intro g2_21 (And.intro g2_174 g2_175))))))
  refine cv_block ?_
  refine cv_loop (fun F' L' => ∃ (i : Nat) (l : List Nat), F' 0 = G2 0 ∧ F' 1 = G2 1 ∧ F' 5 = G2 5 ∧ F' 7 = G2 7 ∧ F' 8 = G2 8 ∧ F' 21 = G2 21 ∧ F' 174 = G2 174 ∧ F' 175 = .int .i64 (i : Int) ∧ L' = [.blk bS 5 (byt l), eBox b7 E, .blk b5 48 [.int .u8 (a : Int), .int .u8 (b : Int), .int .u8 (c : Int), .int .u8 (d : Int), .int .u8 (e : Int), .int .u8 (f : Int)], .blk bR 64 [.pointer (some ⟨al.bA, 0, none⟩), .slice (some ⟨bB, 0, none⟩) n0 n0], .blk bB 5 (byt bs0), .blk al.bA 99 [.slice al.FA al.fn al.fc, .map (some al.bm)], mpR al.bm al.tk, .row (.slice al.FA al.fn al.fc) 28 2 al.fn (exCells al.fr), .blk bM 84 [.int .i64 (n0 : Int), .slice UA un uc, .slice (some ⟨bC, 0, none⟩) n0 n0], .row (.slice UA un uc) 28 2 un (exCells us), .blk bC 5 (byt bs0)] ∧ i ≤ m ∧ l.length = m ∧ ∀ b ∈ l, b < 256) (fun F' L' => 30 - (intOf (F' 175)).toNat) ?_ ?_
  · refine ⟨0, List.replicate m 0, ?_⟩
    simp -implicitDefEqProofs (disch := first | omega | decide) only [seval, -Int.reducePow, -Nat.reducePow, cC, pv, binv, sArS61, undef, g2]
    exact ⟨by omega, by simp, fun b hb => by rw [List.eq_of_mem_replicate hb]; omega⟩
  intro G3 L' hI
  obtain ⟨i, l, q0, q1, q5, q7, q8, q21, q174, q175, rfl, ⟨hi, hlm, hlb⟩⟩ := hI
  have g3_0 := q0.trans g2_0
  have g3_1 := q1.trans g2_1
  have g3_5 := q5.trans g2_5
  have g3_7 := q7.trans g2_7
  have g3_8 := q8.trans g2_8
  have g3_21 := q21.trans g2_21
  have g3_174 := q174.trans g2_174
  have g3_175 := q175
  clear q0 q1 q5 q7 q8 q21 q174 q175
  have g3 := And.intro g3_0 (And.intro g3_1 (And.intro g3_5 (And.intro g3_7 (And.intro g3_8 (And.intro g3_21 (And.intro g3_174 g3_175))))))
  refine cv_seq_k fun K hK => ?_
  refine cv_region_then rfl ?_
  simp -implicitDefEqProofs (disch := first | omega | decide) only [seval, -Int.reducePow, -Nat.reducePow, cC, pv, binv, sArS61, undef, g2, g3]
  refine hK _ _ ?_
  clear hK K
  refine cv_seq_k fun K hK => ?_
  refine cv_cond ?_
  simp -implicitDefEqProofs (disch := first | omega | decide) only [seval, -Int.reducePow, -Nat.reducePow, cC, pv, binv, sArS61, undef, g2, g3]
  refine ⟨fun hc => ?_, fun hc => ?_⟩
  · refine cv_skip ?_
    try simp only [blockQ, thenQ]
    have hit : i < m := by have := of_decide_eq_true ‹decide ((i : Int) < (m : Int)) = true›; omega
    obtain ⟨z, hz⟩ : ∃ z : Nat, IntKind.u8.wrap ((f : Int) + IntKind.u8.wrap (i : Int)) = (z : Int) := ⟨(IntKind.u8.wrap ((f : Int) + IntKind.u8.wrap (i : Int))).toNat, by rw [IntKind.wrap_u8]; omega⟩
    have hz256 : z < 256 := by rw [IntKind.wrap_u8] at hz; omega
    have hpu := byt_put2 (bs := l) (j := i) (c := z) (by omega)
    have hpu1 := byt_put (bs := l) (j := i) (c := z) (by omega)
    refine hK _ _ ?_
    clear hK K
    refine cv_seq_k fun K hK => ?_
    refine cv_block ?_
    refine cv_seq_k fun K hK => ?_
    refine cv_region_then rfl ?_
    simp -implicitDefEqProofs (disch := first | omega | decide) only [seval, -Int.reducePow, -Nat.reducePow, cC, pv, binv, sArS61, undef, g2, g3]
    refine hK _ _ ?_
    clear hK K
    refine cv_region_q rfl ?_
    simp -implicitDefEqProofs (disch := first | omega | decide) only [seval, -Int.reducePow, -Nat.reducePow, cC, pv, binv, sArS61, undef, hz, g2, g3]
    refine ⟨by rw [byt_len]; omega, ?_⟩
    first | rw [hpu] | rw [hpu1]
    refine hK _ _ ?_
    clear hK K
    refine cv_region_then rfl ?_
    simp -implicitDefEqProofs (disch := first | omega | decide) only [seval, -Int.reducePow, -Nat.reducePow, cC, pv, binv, sArS61, undef, wrap_in, g2, g3]
    refine ⟨⟨i + 1, l.set i z, ?_⟩, ?_⟩
    · simp -implicitDefEqProofs (disch := first | omega | decide) only [seval, -Int.reducePow, -Nat.reducePow, cC, pv, binv, sArS61, undef, Int.natCast_add, g2, g3]
      exact ⟨by omega, by rw [List.length_set]; exact hlm, fun b hb => by
        rcases List.mem_or_eq_of_mem_set hb with h | h
        · exact hlb b h
        · omega⟩
    · simp only [intOf]; omega
  refine cv_exit ?_
  simp only [blockQ, thenQ, if_true, ite_true]
  clear hK K
  refine hK _ _ ?_
  clear hK K
  obtain ⟨F, hF⟩ : ∃ F, wrErr us E k (m : Int) = F := ⟨_, rfl⟩
  obtain ⟨bs1, hbs1⟩ : ∃ bs1, wrF bs0 E k l F = bs1 := ⟨_, rfl⟩
  refine cv_seq_k fun K hK => ?_
  refine cv_draw_of (pickL [1] _) (fun w hw => hw.pick (by decide)) (by simp only [pickL, nth, suf_cons, suf_nil, List.mem_cons, true_or, or_true, and_true, eq_self]) [(true, 0), (true, 1), (true, 2), (true, 3), (true, 5), (true, 6), (true, 7), (true, 8), (false, 4), (false, 9), (true, 10), (true, 11)] [] mixA rfl (by kernel_rfl) (by kernel_rfl) rfl rfl ?_
  simp -implicitDefEqProofs (disch := first | omega | decide) only [seval, -Int.reducePow, -Nat.reducePow, cC, pv, binv, sArS61, undef, g2, g3]
  refine callV_grp [3, 4, 5, 6, 7] [0, 1, 2, 8, 9, 10] (by decide) (fun _ : Unit => .int .i64 F) (fun _ => arL ⟨al, bR, bB, n0, bs1⟩) (fun _ => True) (fun w hw hs => by
    have := arWrite_any ⟨al, bR, bB, n0, bs0⟩ us E k (some ⟨bS, 0, none⟩) m m l w hs hI (by omega) hbl (Sl.of_blk hw (.head _) (by rw [byt_len]; omega) (by omega)) (fun _ a ha hf => by cases ha; obtain ⟨r, hr5, hrb⟩ := List.mem_flatMap.1 hf; exact hw.foot_apart (.tail _ (.tail _ (List.mem_append.2 (.inl hr5)))) (by simp [Res.foot]) hrb)
    dsimp only at this
    rw [hF, hbs1] at this
    exact this) ?_
  intro _ _
  simp only [pickL, nth]
  simp -implicitDefEqProofs (disch := first | omega | decide) only [seval, -Int.reducePow, -Nat.reducePow, cC, pv, binv, sArS61, undef, g2, g3]
  refine callV_grp [8, 9, 10] [0, 1, 2, 3, 4, 5, 6, 7] (by decide) (fun _ : Unit => .int .i64 F) (fun _ => mrL ⟨⟨bM, n0, UA, un, uc, us⟩, bC, n0, bs1⟩) (fun _ => True) (fun w hw hs => by
    have := rWrite_any ⟨⟨bM, n0, UA, un, uc, us⟩, bC, n0, bs0⟩ E k (some ⟨bS, 0, none⟩) m m l al.fr al.tk w hs hI (by dsimp only; omega) hbl (Sl.of_blk hw (.tail _ (.tail _ (.tail _ (.tail _ (.tail _ (.head _)))))) (by rw [byt_len]; omega) (by omega)) (fun _ a ha hf => by cases ha; obtain ⟨r, hr5, hrb⟩ := List.mem_flatMap.1 hf; exact (hw.pick (ix := [5, 8, 9, 10]) (by decide)).foot_apart hr5 (by simp [Res.foot]) hrb)
    dsimp only at this
    rw [hF, hbs1] at this
    exact this) ?_
  intro _ _
  simp only [pickL, nth]
  simp -implicitDefEqProofs (disch := first | omega | decide) only [seval, -Int.reducePow, -Nat.reducePow, cC, pv, binv, sArS61, undef, g2, g3]
  have hP' : Pr ⟨al, bR, bB, n0, bs1⟩ ⟨⟨bM, n0, UA, un, uc, us⟩, bC, n0, bs1⟩ := hP.chg (e := E) (by have := wrF_chg hI hbl E k l hlb; rw [hlm, hF, hbs1] at this; exact this)
  refine hK _ _ ?_
  clear hK K
  refine cv_ret ⟨_, (by simp -implicitDefEqProofs (disch := first | omega | decide) only [seval, -Int.reducePow, -Nat.reducePow, cC, pv, binv, sArS61, undef, g2, g3]; rfl), fun w hw => ?_⟩
  have h9 := hw.pick (ix := [3, 4, 5, 6, 7, 0, 1, 2]) (by decide)
  simp only [pickL, nth] at h9
  exact ⟨(⟨al, bR, bB, n0, bs1⟩, ⟨⟨bM, n0, UA, un, uc, us⟩, bC, n0, bs1⟩), rfl, ⟨rfl, rfl, rfl, rfl, rfl, rfl, hP', Nat.le_succ _⟩, h9⟩
end Go.Proofs.Ytfaanphjaghbpaa
/- The arena laws' step: Read. -/
namespace Go.Proofs.Ytfaanphjaghbpaa
open Go.RowKit Go.Shelf
set_option linter.unusedVariables false
set_option linter.unusedSimpArgs false
set_option maxRecDepth 100000
set_option maxRecDepth 100000 in
theorem sArS71 : type_of% (And.intro (And.intro (And.intro @eBox.eq_1 @exV.eq_1) (And.intro @alL.eq_1 @arL.eq_1)) (And.intro (And.intro @mrL.eq_1 @Nat.mul_one) (And.intro @wrap_in (And.intro @cMp @cM)))) := (And.intro (And.intro (And.intro @eBox.eq_1 @exV.eq_1) (And.intro @alL.eq_1 @arL.eq_1)) (And.intro (And.intro @mrL.eq_1 @Nat.mul_one) (And.intro @wrap_in (And.intro @cMp @cM))))
set_option maxHeartbeats 4000000 in
theorem step_7 (x : ArR) (y : MrR) (a b c d e f : Nat) (W : World) (hst : St (feet (arL x ++ mrL y)) W (arL x ++ mrL y) W) (hP : Pr x y) (hl : y.ml.us.length ≤ 80) (ha : a < 256) (hb : b < 256) (hc : c < 256) (hd : d < 256) (he : e < 256) (hf : f < 256) (hs : a % 9 = 7) :
    Calls Try.prog 40 #[.pointer (some ⟨x.bR, 0, none⟩), .pointer (some ⟨y.ml.bM, 0, none⟩), .agg #[.int .u8 (a : Int), .int .u8 (b : Int), .int .u8 (c : Int), .int .u8 (d : Int), .int .u8 (e : Int), .int .u8 (f : Int)]] W (StepPost x y W) := by
  unfold StepPost
  obtain ⟨M, hM⟩ : ∃ M, feet (arL x ++ mrL y) = M := ⟨_, rfl⟩
  rw [hM] at hst ⊢
  clear hM
  obtain ⟨al, bR, bB, N, bs⟩ := x
  obtain ⟨⟨bM, NN, UA, un, uc, us⟩, bC, n0, bs0⟩ := y
  obtain rfl : n0 = N := hP.n
  obtain rfl : bs0 = bs := hP.bs
  obtain rfl : NN = (n0 : Int) := hP.N
  have hI := hP.inv
  have hN1 := hI.N1
  have hfl := hI.frLen
  have hbl := hP.len
  have hb256 := hP.lt
  dsimp only at hI hN1 hfl hl hbl hb256
  dsimp only
  unfold arL alL mrL at hst
  dsimp only [List.cons_append, List.nil_append] at hst
  have h9 : (a : Int) % 9 = 7 := by omega
  have hk := off_any d
  obtain ⟨E, hE⟩ : ∃ E, extF us b c = E := ⟨_, rfl⟩
  obtain ⟨k, hkk⟩ : ∃ k, offF d = k := ⟨_, rfl⟩
  have hMr := fun {w : World} {L : List Res} (hw : St M W L w) (i1 i2 i3 : Nat) h1 h2 h3 => hP.mrW hw i1 i2 i3 h1 h2 h3 (by dsimp only; omega)
  have hAr := fun {w : World} {L : List Res} (hw : St M W L w) (i1 i2 i3 i4 i5 : Nat) h1 h2 h3 h4 h5 => hP.arW hw i1 i2 i3 i4 i5 h1 h2 h3 h4 h5 (by dsimp only; omega)
  refine calls_cv (M := M) (n := 267) [.tmp 6] rfl Try.func40 rfl rfl (Nat.le_of_ble_eq_true rfl)  hst ?_
  refine cv_seq_k fun K hK => ?_
  refine cv_region_then rfl ?_
  simp -implicitDefEqProofs (disch := first | omega | decide) only [seval, -Int.reducePow, -Nat.reducePow, cC, pv, binv, sArS71, undef]
  intro b5 hb5 hf5
  refine hK _ _ ?_
  clear hK K
  refine cv_seq_k fun K hK => ?_
  refine cv_region_then rfl ?_
  simp -implicitDefEqProofs (disch := first | omega | decide) only [seval, -Int.reducePow, -Nat.reducePow, cC, pv, binv, sArS71, undef]
  refine callV_ret (fun w hw => extent_any ⟨⟨bM, n0, UA, un, uc, us⟩, bC, n0, bs0⟩ b c w hb hc (hMr hw 6 7 8 rfl rfl rfl)) ?_
  try simp -implicitDefEqProofs (disch := first | omega | decide) only [seval, -Int.reducePow, -Nat.reducePow, cC, pv, binv, sArS71, undef, hE]
  intro b7 hb7 hf7
  refine hK _ _ ?_
  clear hK K
  refine cv_seq_k fun K hK => ?_
  refine cv_region_then rfl ?_
  simp -implicitDefEqProofs (disch := first | omega | decide) only [seval, -Int.reducePow, -Nat.reducePow, cC, pv, binv, sArS71, undef]
  refine callV_ret (fun w hw => off_any d w hd) ?_
  try simp -implicitDefEqProofs (disch := first | omega | decide) only [seval, -Int.reducePow, -Nat.reducePow, cC, pv, binv, sArS71, undef, hkk]
  refine hK _ _ ?_
  clear hK K
  refine cv_seq_k fun K hK => ?_
  refine cv_seq_k fun K hK => ?_
  refine cv_region_then rfl ?_
  simp -implicitDefEqProofs (disch := first | omega | decide) only [seval, -Int.reducePow, -Nat.reducePow, cC, pv, binv, sArS71, undef, h9]
  refine hK _ _ ?_
  clear hK K
  refine cv_block ?_
  refine cv_seq_k fun K hK => ?_
  refine cv_seq_k fun K hK => ?_
  refine cv_region_then rfl ?_
  simp -implicitDefEqProofs (disch := first | omega | decide) only [seval, -Int.reducePow, -Nat.reducePow, cC, pv, binv, sArS71, undef]
  refine hK _ _ ?_
  clear hK K
  refine cv_cond ?_
  simp -implicitDefEqProofs (disch := first | omega | decide) only [seval, -Int.reducePow, -Nat.reducePow, cC, pv, binv, sArS71, undef]
  refine cv_seq_k fun K hK => ?_
  refine cv_region_then rfl ?_
  simp -implicitDefEqProofs (disch := first | omega | decide) only [seval, -Int.reducePow, -Nat.reducePow, cC, pv, binv, sArS71, undef]
  refine hK _ _ ?_
  clear hK K
  refine cv_cond ?_
  simp -implicitDefEqProofs (disch := first | omega | decide) only [seval, -Int.reducePow, -Nat.reducePow, cC, pv, binv, sArS71, undef]
  refine cv_region_then rfl ?_
  simp -implicitDefEqProofs (disch := first | omega | decide) only [seval, -Int.reducePow, -Nat.reducePow, cC, pv, binv, sArS71, undef]
  refine hK _ _ ?_
  clear hK K
  refine cv_cond ?_
  simp -implicitDefEqProofs (disch := first | omega | decide) only [seval, -Int.reducePow, -Nat.reducePow, cC, pv, binv, sArS71, undef]
  refine cv_seq_k fun K hK => ?_
  refine cv_region_then rfl ?_
  simp -implicitDefEqProofs (disch := first | omega | decide) only [seval, -Int.reducePow, -Nat.reducePow, cC, pv, binv, sArS71, undef]
  refine hK _ _ ?_
  clear hK K
  refine cv_cond ?_
  simp -implicitDefEqProofs (disch := first | omega | decide) only [seval, -Int.reducePow, -Nat.reducePow, cC, pv, binv, sArS71, undef]
  refine cv_seq_k fun K hK => ?_
  refine cv_region_then rfl ?_
  simp -implicitDefEqProofs (disch := first | omega | decide) only [seval, -Int.reducePow, -Nat.reducePow, cC, pv, binv, sArS71, undef]
  refine hK _ _ ?_
  clear hK K
  refine cv_cond ?_
  simp -implicitDefEqProofs (disch := first | omega | decide) only [seval, -Int.reducePow, -Nat.reducePow, cC, pv, binv, sArS71, undef]
  refine cv_seq_k fun K hK => ?_
  refine cv_region_then rfl ?_
  simp -implicitDefEqProofs (disch := first | omega | decide) only [seval, -Int.reducePow, -Nat.reducePow, cC, pv, binv, sArS71, undef]
  refine hK _ _ ?_
  clear hK K
  refine cv_cond ?_
  simp -implicitDefEqProofs (disch := first | omega | decide) only [seval, -Int.reducePow, -Nat.reducePow, cC, pv, binv, sArS71, undef]
  refine cv_seq_k fun K hK => ?_
  refine cv_region_then rfl ?_
  simp -implicitDefEqProofs (disch := first | omega | decide) only [seval, -Int.reducePow, -Nat.reducePow, cC, pv, binv, sArS71, undef]
  refine hK _ _ ?_
  clear hK K
  refine cv_cond ?_
  simp -implicitDefEqProofs (disch := first | omega | decide) only [seval, -Int.reducePow, -Nat.reducePow, cC, pv, binv, sArS71, undef]
  refine cv_seq_k fun K hK => ?_
  refine cv_region_then rfl ?_
  simp -implicitDefEqProofs (disch := first | omega | decide) only [seval, -Int.reducePow, -Nat.reducePow, cC, pv, binv, sArS71, undef]
  refine hK _ _ ?_
  clear hK K
  refine cv_cond ?_
  simp -implicitDefEqProofs (disch := first | omega | decide) only [seval, -Int.reducePow, -Nat.reducePow, cC, pv, binv, sArS71, undef]
  refine cv_gen fun G1 hG => ?_
  have g1_0 := congrFun hG 0
  have g1_1 := congrFun hG 1
  have g1_5 := congrFun hG 5
  have g1_7 := congrFun hG 7
  have g1_8 := congrFun hG 8
  clear hG
  try simp -implicitDefEqProofs (disch := first | omega | decide) only [seval, -Int.reducePow, -Nat.reducePow, cC, pv, binv, sArS71, undef] at g1_0 g1_1 g1_5 g1_7 g1_8
  have g1 := And.intro g1_0 (And.intro g1_1 (And.intro g1_5 (And.intro g1_7 g1_8)))
  obtain ⟨n, hn⟩ : ∃ n : Int, (e : Int) % 20 - 1 = n := ⟨_, rfl⟩
  refine cv_seq_k fun K hK => ?_
  refine cv_region_then rfl ?_
  simp -implicitDefEqProofs (disch := first | omega | decide) only [seval, -Int.reducePow, -Nat.reducePow, cC, pv, binv, sArS71, undef, hn, g1]
  refine callV_row (fun A n' c => .tuple #[.slice A n' c, .int .i64 (rdErr us E k n)]) (fun w hw => arRead_any ⟨al, bR, bB, n0, bs0⟩ us w E k n (hAr hw 2 3 4 5 6 rfl rfl rfl rfl rfl) hI) ?_
  intro A1 n1 c1 hl1 hr1
  simp -implicitDefEqProofs (disch := first | omega | decide) only [seval, -Int.reducePow, -Nat.reducePow, cC, pv, binv, sArS71, undef, g1]
  refine hK _ _ ?_
  clear hK K
  refine cv_seq_k fun K hK => ?_
  refine cv_region_then rfl ?_
  simp -implicitDefEqProofs (disch := first | omega | decide) only [seval, -Int.reducePow, -Nat.reducePow, cC, pv, binv, sArS71, undef, hn, g1]
  refine callV_row (fun A n' c => .tuple #[.slice A n' c, .int .i64 (rdErr us E k n)]) (fun w hw => rRead_any ⟨⟨bM, n0, UA, un, uc, us⟩, bC, n0, bs0⟩ E k n al.fr al.tk w (hMr hw 8 9 10 rfl rfl rfl) hI) ?_
  intro A2 n2 c2 hl2 hr2
  simp -implicitDefEqProofs (disch := first | omega | decide) only [seval, -Int.reducePow, -Nat.reducePow, cC, pv, binv, sArS71, undef, g1]
  refine hK _ _ ?_
  clear hK K
  refine cv_seq_k fun K hK => ?_
  refine cv_region_then rfl ?_
  simp -implicitDefEqProofs (disch := first | omega | decide) only [seval, -Int.reducePow, -Nat.reducePow, cC, pv, binv, sArS71, undef, g1]
  refine ⟨_, fun w hw => hw.strk 1 rfl, fun tok htok => ?_⟩
  subst htok
  simp -implicitDefEqProofs (disch := first | omega | decide) only [seval, -Int.reducePow, -Nat.reducePow, cC, pv, binv, sArS71, undef, g1]
  refine ⟨_, fun w hw => hw.strk 0 rfl, fun tok htok => ?_⟩
  subst htok
  simp -implicitDefEqProofs (disch := first | omega | decide) only [seval, -Int.reducePow, -Nat.reducePow, cC, pv, binv, sArS71, undef, g1]
  refine hK _ _ ?_
  clear hK K
  refine cv_ret ⟨_, (by simp -implicitDefEqProofs (disch := first | omega | decide) only [seval, -Int.reducePow, -Nat.reducePow, cC, pv, binv, sArS71, undef, g1]; rfl), fun w hw => ?_⟩
  have h9 := hw.pick (ix := [4, 5, 6, 7, 8, 9, 10, 11]) (by decide)
  simp only [pickL, nth] at h9
  exact ⟨(⟨al, bR, bB, n0, bs0⟩, ⟨⟨bM, n0, UA, un, uc, us⟩, bC, n0, bs0⟩), rfl, ⟨rfl, rfl, rfl, rfl, rfl, rfl, hP, Nat.le_succ _⟩, h9⟩
end Go.Proofs.Ytfaanphjaghbpaa
/- The arena laws' step: Copy. -/
namespace Go.Proofs.Ytfaanphjaghbpaa
open Go.RowKit Go.Shelf
set_option linter.unusedVariables false
set_option linter.unusedSimpArgs false
set_option maxRecDepth 100000
set_option maxRecDepth 100000 in
theorem sArS81 : type_of% (And.intro (And.intro (And.intro @eBox.eq_1 @exV.eq_1) (And.intro @alL.eq_1 @arL.eq_1)) (And.intro (And.intro @mrL.eq_1 @Nat.mul_one) (And.intro @wrap_in (And.intro @cMp @cM)))) := (And.intro (And.intro (And.intro @eBox.eq_1 @exV.eq_1) (And.intro @alL.eq_1 @arL.eq_1)) (And.intro (And.intro @mrL.eq_1 @Nat.mul_one) (And.intro @wrap_in (And.intro @cMp @cM))))
set_option maxHeartbeats 4000000 in
theorem step_8 (x : ArR) (y : MrR) (a b c d e f : Nat) (W : World) (hst : St (feet (arL x ++ mrL y)) W (arL x ++ mrL y) W) (hP : Pr x y) (hl : y.ml.us.length ≤ 80) (ha : a < 256) (hb : b < 256) (hc : c < 256) (hd : d < 256) (he : e < 256) (hf : f < 256) (hs : a % 9 = 8) :
    Calls Try.prog 40 #[.pointer (some ⟨x.bR, 0, none⟩), .pointer (some ⟨y.ml.bM, 0, none⟩), .agg #[.int .u8 (a : Int), .int .u8 (b : Int), .int .u8 (c : Int), .int .u8 (d : Int), .int .u8 (e : Int), .int .u8 (f : Int)]] W (StepPost x y W) := by
  unfold StepPost
  obtain ⟨M, hM⟩ : ∃ M, feet (arL x ++ mrL y) = M := ⟨_, rfl⟩
  rw [hM] at hst ⊢
  clear hM
  obtain ⟨al, bR, bB, N, bs⟩ := x
  obtain ⟨⟨bM, NN, UA, un, uc, us⟩, bC, n0, bs0⟩ := y
  obtain rfl : n0 = N := hP.n
  obtain rfl : bs0 = bs := hP.bs
  obtain rfl : NN = (n0 : Int) := hP.N
  have hI := hP.inv
  have hN1 := hI.N1
  have hfl := hI.frLen
  have hbl := hP.len
  have hb256 := hP.lt
  dsimp only at hI hN1 hfl hl hbl hb256
  dsimp only
  unfold arL alL mrL at hst
  dsimp only [List.cons_append, List.nil_append] at hst
  have h9 : (a : Int) % 9 = 8 := by omega
  have hk := off_any d
  obtain ⟨E, hE⟩ : ∃ E, extF us b c = E := ⟨_, rfl⟩
  obtain ⟨k, hkk⟩ : ∃ k, offF d = k := ⟨_, rfl⟩
  have hMr := fun {w : World} {L : List Res} (hw : St M W L w) (i1 i2 i3 : Nat) h1 h2 h3 => hP.mrW hw i1 i2 i3 h1 h2 h3 (by dsimp only; omega)
  have hAr := fun {w : World} {L : List Res} (hw : St M W L w) (i1 i2 i3 i4 i5 : Nat) h1 h2 h3 h4 h5 => hP.arW hw i1 i2 i3 i4 i5 h1 h2 h3 h4 h5 (by dsimp only; omega)
  refine calls_cv (M := M) (n := 267) [.tmp 6] rfl Try.func40 rfl rfl (Nat.le_of_ble_eq_true rfl)  hst ?_
  refine cv_seq_k fun K hK => ?_
  refine cv_region_then rfl ?_
  simp -implicitDefEqProofs (disch := first | omega | decide) only [seval, -Int.reducePow, -Nat.reducePow, cC, pv, binv, sArS81, undef]
  intro b5 hb5 hf5
  refine hK _ _ ?_
  clear hK K
  refine cv_seq_k fun K hK => ?_
  refine cv_region_then rfl ?_
  simp -implicitDefEqProofs (disch := first | omega | decide) only [seval, -Int.reducePow, -Nat.reducePow, cC, pv, binv, sArS81, undef]
  refine callV_ret (fun w hw => extent_any ⟨⟨bM, n0, UA, un, uc, us⟩, bC, n0, bs0⟩ b c w hb hc (hMr hw 6 7 8 rfl rfl rfl)) ?_
  try simp -implicitDefEqProofs (disch := first | omega | decide) only [seval, -Int.reducePow, -Nat.reducePow, cC, pv, binv, sArS81, undef, hE]
  intro b7 hb7 hf7
  refine hK _ _ ?_
  clear hK K
  refine cv_seq_k fun K hK => ?_
  refine cv_region_then rfl ?_
  simp -implicitDefEqProofs (disch := first | omega | decide) only [seval, -Int.reducePow, -Nat.reducePow, cC, pv, binv, sArS81, undef]
  refine callV_ret (fun w hw => off_any d w hd) ?_
  try simp -implicitDefEqProofs (disch := first | omega | decide) only [seval, -Int.reducePow, -Nat.reducePow, cC, pv, binv, sArS81, undef, hkk]
  refine hK _ _ ?_
  clear hK K
  refine cv_seq_k fun K hK => ?_
  refine cv_seq_k fun K hK => ?_
  refine cv_region_then rfl ?_
  simp -implicitDefEqProofs (disch := first | omega | decide) only [seval, -Int.reducePow, -Nat.reducePow, cC, pv, binv, sArS81, undef, h9]
  refine hK _ _ ?_
  clear hK K
  refine cv_block ?_
  refine cv_seq_k fun K hK => ?_
  refine cv_seq_k fun K hK => ?_
  refine cv_region_then rfl ?_
  simp -implicitDefEqProofs (disch := first | omega | decide) only [seval, -Int.reducePow, -Nat.reducePow, cC, pv, binv, sArS81, undef]
  refine hK _ _ ?_
  clear hK K
  refine cv_cond ?_
  simp -implicitDefEqProofs (disch := first | omega | decide) only [seval, -Int.reducePow, -Nat.reducePow, cC, pv, binv, sArS81, undef]
  refine cv_seq_k fun K hK => ?_
  refine cv_region_then rfl ?_
  simp -implicitDefEqProofs (disch := first | omega | decide) only [seval, -Int.reducePow, -Nat.reducePow, cC, pv, binv, sArS81, undef]
  refine hK _ _ ?_
  clear hK K
  refine cv_cond ?_
  simp -implicitDefEqProofs (disch := first | omega | decide) only [seval, -Int.reducePow, -Nat.reducePow, cC, pv, binv, sArS81, undef]
  refine cv_region_then rfl ?_
  simp -implicitDefEqProofs (disch := first | omega | decide) only [seval, -Int.reducePow, -Nat.reducePow, cC, pv, binv, sArS81, undef]
  refine hK _ _ ?_
  clear hK K
  refine cv_cond ?_
  simp -implicitDefEqProofs (disch := first | omega | decide) only [seval, -Int.reducePow, -Nat.reducePow, cC, pv, binv, sArS81, undef]
  refine cv_seq_k fun K hK => ?_
  refine cv_region_then rfl ?_
  simp -implicitDefEqProofs (disch := first | omega | decide) only [seval, -Int.reducePow, -Nat.reducePow, cC, pv, binv, sArS81, undef]
  refine hK _ _ ?_
  clear hK K
  refine cv_cond ?_
  simp -implicitDefEqProofs (disch := first | omega | decide) only [seval, -Int.reducePow, -Nat.reducePow, cC, pv, binv, sArS81, undef]
  refine cv_seq_k fun K hK => ?_
  refine cv_region_then rfl ?_
  simp -implicitDefEqProofs (disch := first | omega | decide) only [seval, -Int.reducePow, -Nat.reducePow, cC, pv, binv, sArS81, undef]
  refine hK _ _ ?_
  clear hK K
  refine cv_cond ?_
  simp -implicitDefEqProofs (disch := first | omega | decide) only [seval, -Int.reducePow, -Nat.reducePow, cC, pv, binv, sArS81, undef]
  refine cv_seq_k fun K hK => ?_
  refine cv_region_then rfl ?_
  simp -implicitDefEqProofs (disch := first | omega | decide) only [seval, -Int.reducePow, -Nat.reducePow, cC, pv, binv, sArS81, undef]
  refine hK _ _ ?_
  clear hK K
  refine cv_cond ?_
  simp -implicitDefEqProofs (disch := first | omega | decide) only [seval, -Int.reducePow, -Nat.reducePow, cC, pv, binv, sArS81, undef]
  refine cv_seq_k fun K hK => ?_
  refine cv_region_then rfl ?_
  simp -implicitDefEqProofs (disch := first | omega | decide) only [seval, -Int.reducePow, -Nat.reducePow, cC, pv, binv, sArS81, undef]
  refine hK _ _ ?_
  clear hK K
  refine cv_cond ?_
  simp -implicitDefEqProofs (disch := first | omega | decide) only [seval, -Int.reducePow, -Nat.reducePow, cC, pv, binv, sArS81, undef]
  refine cv_seq_k fun K hK => ?_
  refine cv_region_then rfl ?_
  simp -implicitDefEqProofs (disch := first | omega | decide) only [seval, -Int.reducePow, -Nat.reducePow, cC, pv, binv, sArS81, undef]
  refine hK _ _ ?_
  clear hK K
  refine cv_cond ?_
  simp -implicitDefEqProofs (disch := first | omega | decide) only [seval, -Int.reducePow, -Nat.reducePow, cC, pv, binv, sArS81, undef]
  refine cv_skip ?_
  try simp only [blockQ, thenQ]
  refine hK _ _ ?_
  clear hK K
  refine cv_gen fun G1 hG => ?_
  have g1_0 := congrFun hG 0
  have g1_1 := congrFun hG 1
  have g1_5 := congrFun hG 5
  have g1_7 := congrFun hG 7
  have g1_8 := congrFun hG 8
  clear hG
  try simp -implicitDefEqProofs (disch := first | omega | decide) only [seval, -Int.reducePow, -Nat.reducePow, cC, pv, binv, sArS81, undef] at g1_0 g1_1 g1_5 g1_7 g1_8
  have g1 := And.intro g1_0 (And.intro g1_1 (And.intro g1_5 (And.intro g1_7 g1_8)))
  obtain ⟨D, hD⟩ : ∃ D, extF us f f = D := ⟨_, rfl⟩
  obtain ⟨j, hj⟩ : ∃ j, offF e = j := ⟨_, rfl⟩
  obtain ⟨n, hn⟩ : ∃ n : Int, (f : Int) % 14 - 1 = n := ⟨_, rfl⟩
  obtain ⟨F, hF⟩ : ∃ F, cpErr us E k D j n = F := ⟨_, rfl⟩
  obtain ⟨bs1, hbs1⟩ : ∃ bs1, cpF bs0 E k D j n F = bs1 := ⟨_, rfl⟩
  refine cv_seq_k fun K hK => ?_
  refine cv_region_then rfl ?_
  simp -implicitDefEqProofs (disch := first | omega | decide) only [seval, -Int.reducePow, -Nat.reducePow, cC, pv, binv, sArS81, undef, g1]
  refine callV_ret (fun w hw => extent_any ⟨⟨bM, n0, UA, un, uc, us⟩, bC, n0, bs0⟩ f f w hf hf (hMr hw 7 8 9 rfl rfl rfl)) ?_
  try simp -implicitDefEqProofs (disch := first | omega | decide) only [seval, -Int.reducePow, -Nat.reducePow, cC, pv, binv, sArS81, undef, hD, g1]
  intro b27 hb27 hf27
  refine hK _ _ ?_
  clear hK K
  refine cv_seq_k fun K hK => ?_
  refine cv_draw_of (pickL [0, 1, 2] _) (fun w hw => hw.pick (by decide)) (by simp only [pickL, nth, suf_cons, suf_nil, List.mem_cons, true_or, or_true, and_true, eq_self]) [(true, 0), (true, 1), (true, 2), (true, 3), (true, 4), (true, 5), (true, 7), (true, 8), (true, 9), (true, 10), (true, 11), (true, 13), (true, 14), (true, 15), (true, 16), (true, 17), (true, 18), (true, 20), (true, 21), (true, 22), (true, 23), (true, 24), (false, 6), (false, 12), (false, 19), (false, 25), (true, 26), (true, 27)] [] mixA rfl (by kernel_rfl) (by kernel_rfl) rfl rfl ?_
  simp -implicitDefEqProofs (disch := first | omega | decide) only [seval, -Int.reducePow, -Nat.reducePow, cC, pv, binv, sArS81, undef, hn, g1]
  refine callV_ret (fun w hw => off_any e w he) ?_
  try simp -implicitDefEqProofs (disch := first | omega | decide) only [seval, -Int.reducePow, -Nat.reducePow, cC, pv, binv, sArS81, undef, hj, hn, g1]
  refine callV_grp [3, 4, 5, 6, 7] [0, 1, 2, 8, 9, 10] (by decide) (fun _ : Unit => .int .i64 F) (fun _ => arL ⟨al, bR, bB, n0, bs1⟩) (fun _ => True) (fun w hw hs => by
    have := arCopy_any ⟨al, bR, bB, n0, bs0⟩ us E k D j n w hs hI (by omega) hbl
    dsimp only at this
    rw [hF, hbs1] at this
    exact this) ?_
  intro _ _
  simp only [pickL, nth]
  simp -implicitDefEqProofs (disch := first | omega | decide) only [seval, -Int.reducePow, -Nat.reducePow, cC, pv, binv, sArS81, undef, hn, g1]
  refine callV_ret (fun w hw => off_any e w he) ?_
  try simp -implicitDefEqProofs (disch := first | omega | decide) only [seval, -Int.reducePow, -Nat.reducePow, cC, pv, binv, sArS81, undef, hj, hn, g1]
  refine callV_grp [8, 9, 10] [0, 1, 2, 3, 4, 5, 6, 7] (by decide) (fun _ : Unit => .int .i64 F) (fun _ => mrL ⟨⟨bM, n0, UA, un, uc, us⟩, bC, n0, bs1⟩) (fun _ => True) (fun w hw hs => by
    have := rCopy_any ⟨⟨bM, n0, UA, un, uc, us⟩, bC, n0, bs0⟩ E k D j n al.fr al.tk w hs hI (by dsimp only; omega) hbl
    dsimp only at this
    rw [hF, hbs1] at this
    exact this) ?_
  intro _ _
  simp only [pickL, nth]
  simp -implicitDefEqProofs (disch := first | omega | decide) only [seval, -Int.reducePow, -Nat.reducePow, cC, pv, binv, sArS81, undef, g1]
  have hP' : Pr ⟨al, bR, bB, n0, bs1⟩ ⟨⟨bM, n0, UA, un, uc, us⟩, bC, n0, bs1⟩ := hP.chg (e := E) (by have := cpF_chg hI hbl E k D j n; rw [hF, hbs1] at this; exact this)
  refine hK _ _ ?_
  clear hK K
  refine cv_ret ⟨_, (by simp -implicitDefEqProofs (disch := first | omega | decide) only [seval, -Int.reducePow, -Nat.reducePow, cC, pv, binv, sArS81, undef, g1]; rfl), fun w hw => ?_⟩
  have h9 := hw.pick (ix := [3, 4, 5, 6, 7, 0, 1, 2]) (by decide)
  simp only [pickL, nth] at h9
  exact ⟨(⟨al, bR, bB, n0, bs1⟩, ⟨⟨bM, n0, UA, un, uc, us⟩, bC, n0, bs1⟩), rfl, ⟨rfl, rfl, rfl, rfl, rfl, rfl, hP', Nat.le_succ _⟩, h9⟩
end Go.Proofs.Ytfaanphjaghbpaa
/- The arena laws: any step; built. -/
namespace Go.Proofs.Ytfaanphjaghbpaa
open Go.RowKit Go.Shelf
set_option linter.unusedVariables false
set_option linter.unusedSimpArgs false
set_option maxRecDepth 100000
theorem arStep_any (x : ArR) (y : MrR) (s : S6) (W : World) (hst : St (feet (arL x ++ mrL y)) W (arL x ++ mrL y) W) (hP : Pr x y) (hl : y.ml.us.length ≤ 80) (hs : s.ok) :
    Calls Try.prog 40 #[.pointer (some ⟨x.bR, 0, none⟩), .pointer (some ⟨y.ml.bM, 0, none⟩), .agg (s6V s).toArray] W (StepPost x y W) := by
  obtain ⟨a, b, c, d, e, f⟩ := s
  obtain ⟨ha, hb, hc, hd, he, hf⟩ := hs
  dsimp only at ha hb hc hd he hf
  rcases (show a % 9 = 0 ∨ a % 9 = 1 ∨ a % 9 = 2 ∨ a % 9 = 3 ∨ a % 9 = 4 ∨ a % 9 = 5 ∨ a % 9 = 6 ∨ a % 9 = 7 ∨ a % 9 = 8 by omega) with h | h | h | h | h | h | h | h | h
  · exact step_0 x y a b c d e f W hst hP hl ha hb hc hd he hf h
  · exact step_1 x y a b c d e f W hst hP hl ha hb hc hd he hf h
  · exact step_2 x y a b c d e f W hst hP hl ha hb hc hd he hf h
  · exact step_3 x y a b c d e f W hst hP hl ha hb hc hd he hf h
  · exact step_4 x y a b c d e f W hst hP hl ha hb hc hd he hf h
  · exact step_5 x y a b c d e f W hst hP hl ha hb hc hd he hf h
  · exact step_6 x y a b c d e f W hst hP hl ha hb hc hd he hf h
  · exact step_7 x y a b c d e f W hst hP hl ha hb hc hd he hf h
  · exact step_8 x y a b c d e f W hst hP hl ha hb hc hd he hf h
theorem s6_len (s : S6) : (s6V s).length = 6 := rfl
set_option maxRecDepth 100000 in
theorem sArBuilt1 : type_of% (And.intro (And.intro (And.intro @eBox.eq_1 @exV.eq_1) (And.intro @alL.eq_1 @arL.eq_1)) (And.intro (And.intro @mrL.eq_1 @Nat.mul_one) (And.intro @wrap_in (And.intro @cMp @cM)))) := (And.intro (And.intro (And.intro @eBox.eq_1 @exV.eq_1) (And.intro @alL.eq_1 @arL.eq_1)) (And.intro (And.intro @mrL.eq_1 @Nat.mul_one) (And.intro @wrap_in (And.intro @cMp @cM))))
set_option maxHeartbeats 4000000 in
theorem built_any (room : Nat) (hr : room < 256) (A : Option Addr) (n c : Nat) (l : List S6) (W : World) (hE : Sl W W.heap.size 6 A n c (cl s6V l)) (hb : ∀ s ∈ l, s.ok) :
    Calls Try.prog 18 #[.int .u8 (room : Int), .slice A n c] W fun en w' => ∃ i : ArR × MrR, en = .returned (.tuple #[.pointer (some ⟨i.1.bR, 0, none⟩), .pointer (some ⟨i.2.ml.bM, 0, none⟩), .bool true]) ∧ (Pr i.1 i.2 ∧ i.2.ml.us.length ≤ 30) ∧ St [] W (arL i.1 ++ mrL i.2) w' := by
  have hlen := cl_row s6_len (by omega) hE.len
  refine calls_cv (M := []) (n := 48) [.tmp 4, .tmp 5, .tmp 6] rfl Try.func18 rfl rfl (Nat.le_of_ble_eq_true rfl) (St.nil _ _) ?_
  refine cv_seq_k fun K hK => ?_
  refine cv_region_then rfl ?_
  simp -implicitDefEqProofs (disch := first | omega | decide) only [seval, -Int.reducePow, -Nat.reducePow, cC, pv, binv, sArBuilt1, undef, List.cons_append, List.nil_append]
  refine hK _ _ ?_
  clear hK K
  refine cv_seq_k fun K hK => ?_
  refine cv_region_then rfl ?_
  simp -implicitDefEqProofs (disch := first | omega | decide) only [seval, -Int.reducePow, -Nat.reducePow, cC, pv, binv, sArBuilt1, undef, List.cons_append, List.nil_append]
  obtain ⟨N, hN⟩ : ∃ N : Nat, (room : Int) * 4 = (N : Int) := ⟨room * 4, by omega⟩
  rw [hN]
  refine hK _ _ ?_
  clear hK K
  have hN1 : N ≤ 1048576 := by omega
  refine cv_seq_k fun K hK => ?_
  refine cv_region_then rfl ?_
  simp -implicitDefEqProofs (disch := first | omega | decide) only [seval, -Int.reducePow, -Nat.reducePow, cC, pv, binv, sArBuilt1, undef, List.cons_append, List.nil_append]
  refine callV_grp [] [] (by decide) (fun x : ArR => .tuple #[.pointer (some ⟨x.bR, 0, none⟩), .int .i64 0]) (fun x => arL x) (fun x => x.N = N ∧ x.bs = List.replicate N 0 ∧ Ex.Inv (N : Int) [] x.al.fr x.al.tk) (fun w hw hs => arNew_ok N w hN1) ?_
  rintro x ⟨hx1, hx2, hx3⟩
  simp only [pickL, nth]
  simp -implicitDefEqProofs (disch := first | omega | decide) only [seval, -Int.reducePow, -Nat.reducePow, cC, pv, binv, sArBuilt1, undef, List.cons_append, List.nil_append]
  refine hK _ _ ?_
  clear hK K
  refine cv_seq_k fun K hK => ?_
  refine cv_region_then rfl ?_
  simp -implicitDefEqProofs (disch := first | omega | decide) only [seval, -Int.reducePow, -Nat.reducePow, cC, pv, binv, sArBuilt1, undef, List.cons_append, List.nil_append]
  refine callV_grp [] [0, 1, 2, 3, 4] (by decide) (fun y : MrR => .pointer (some ⟨y.ml.bM, 0, none⟩)) (fun y => mrL y) (fun y => y.n = N ∧ y.ml.N = (N : Int) ∧ y.ml.us = [] ∧ y.bs = List.replicate N 0) (fun w hw hs => newArena_any N w hN1) ?_
  rintro y ⟨hy1, hy2, hy3, hy4⟩
  simp only [pickL, nth]
  simp -implicitDefEqProofs (disch := first | omega | decide) only [seval, -Int.reducePow, -Nat.reducePow, cC, pv, binv, sArBuilt1, undef, List.cons_append, List.nil_append]
  refine hK _ _ ?_
  clear hK K
  have hP0 : Pr x y := by
    obtain ⟨al, bR, bB, N', bs⟩ := x
    obtain ⟨ml, bB2, n0, bs0⟩ := y
    dsimp only at hx1 hx2 hx3 hy1 hy2 hy3 hy4
    subst hx1 hx2 hy1 hy4
    exact Pr.new hx3 hy2 hy3
  clear hx1 hx2 hx3 hy1 hy2 hy4
  refine cv_seq_k fun K hK => ?_
  refine cv_seq_k fun K hK => ?_
  refine cv_region_then rfl ?_
  simp -implicitDefEqProofs (disch := first | omega | decide) only [seval, -Int.reducePow, -Nat.reducePow, cC, pv, binv, sArBuilt1, undef, List.cons_append, List.nil_append]
  refine hK _ _ ?_
  clear hK K
  refine cv_cond ?_
  simp -implicitDefEqProofs (disch := first | omega | decide) only [seval, -Int.reducePow, -Nat.reducePow, cC, pv, binv, sArBuilt1, undef, List.cons_append, List.nil_append]
  refine cv_skip ?_
  try simp only [blockQ, thenQ]
  refine hK _ _ ?_
  clear hK K
  refine cv_seq_k fun K hK => ?_
  refine cv_seq_k fun K hK => ?_
  refine cv_region_then rfl ?_
  simp -implicitDefEqProofs (disch := first | omega | decide) only [seval, -Int.reducePow, -Nat.reducePow, cC, pv, binv, sArBuilt1, undef, List.cons_append, List.nil_append]
  refine hK _ _ ?_
  clear hK K
  refine cv_gen fun G1 hG => ?_
  have g1_1 := congrFun hG 1
  have g1_8 := congrFun hG 8
  have g1_10 := congrFun hG 10
  have g1_11 := congrFun hG 11
  clear hG
  try simp -implicitDefEqProofs (disch := first | omega | decide) only [seval, -Int.reducePow, -Nat.reducePow, cC, pv, binv, sArBuilt1, undef, List.cons_append, List.nil_append] at g1_1 g1_8 g1_10 g1_11
  have g1 := And.intro g1_1 (And.intro g1_8 (And.intro g1_10 g1_11))
  refine cv_pick [3, 4, 5, 6, 7, 0, 1, 2] (by decide) ?_
  simp only [pickL, nth]
  refine cv_block ?_
  refine cv_loop (fun F' L' => ∃ (i : Nat) (x : ArR) (y : MrR), F' 1 = G1 1 ∧ F' 8 = .pointer (some ⟨x.bR, 0, none⟩) ∧ F' 10 = .pointer (some ⟨y.ml.bM, 0, none⟩) ∧ F' 11 = .int .i64 (i : Int) ∧ L' = arL x ++ mrL y ∧ Pr x y ∧ y.ml.us.length ≤ i ∧ i ≤ 30) (fun F' L' => 40 - (intOf (F' 11)).toNat) ?_ ?_
  · refine ⟨0, x, y, ?_⟩
    simp -implicitDefEqProofs (disch := first | omega | decide) only [seval, -Int.reducePow, -Nat.reducePow, cC, pv, binv, sArBuilt1, undef, List.cons_append, List.nil_append, g1]
    exact ⟨hP0, by rw [hy3]; exact Nat.le_refl _⟩
  intro G2 L' hI
  obtain ⟨i, x, y, q1, q8, q10, q11, rfl, ⟨hP, hl, hi⟩⟩ := hI
  have g2_1 := q1.trans g1_1
  have g2_8 := q8
  have g2_10 := q10
  have g2_11 := q11
  clear q1 q8 q10 q11
  have g2 := And.intro g2_1 (And.intro g2_8 (And.intro g2_10 g2_11))
  refine cv_seq_k fun K hK => ?_
  by_cases hc1 : i < n ∧ i < 30
  · have a1 : decide ((i : Int) < (n : Int)) = true := decide_eq_true (by omega)
    have a2 : decide ((i : Int) < 30) = true := decide_eq_true (by omega)
    obtain ⟨s, hs⟩ : ∃ s, l[i]? = some s := ⟨_, List.getElem?_eq_getElem (by omega)⟩
    have hpos : 0 < n := by omega
    obtain ⟨bF, oF, rfl, hbF, -⟩ := hE.cells hpos
    refine cv_apart fun hap => ?_
    simp only [factL_nil, factL_blk, factL_row, neR_nil, neR_blk, neR_row, neB_nil, neB_blk, neB_row, and_true, true_and, List.not_mem_nil, or_false, sArBuilt1, undef, List.cons_append, List.nil_append] at hap
    obtain hap := hap
    refine cv_seq_k fun K hK => ?_
    refine cv_region_then rfl ?_
    simp -implicitDefEqProofs (disch := first | omega | decide) only [seval, -Int.reducePow, -Nat.reducePow, cC, pv, binv, sArBuilt1, undef, List.cons_append, List.nil_append, a1, a2, g1, g2]
    refine hK _ _ ?_
    clear hK K
    refine cv_cond ?_
    simp -implicitDefEqProofs (disch := first | omega | decide) only [seval, -Int.reducePow, -Nat.reducePow, cC, pv, binv, sArBuilt1, undef, List.cons_append, List.nil_append, g1, g2]
    refine cv_skip ?_
    try simp only [blockQ, thenQ]
    refine hK _ _ ?_
    clear hK K
    refine cv_seq_k fun K hK => ?_
    refine cv_block ?_
    refine cv_seq_k fun K hK => ?_
    refine cv_region_then rfl ?_
    simp -implicitDefEqProofs (disch := first | omega | decide) only [seval, -Int.reducePow, -Nat.reducePow, cC, pv, binv, sArBuilt1, undef, List.cons_append, List.nil_append, g1, g2]
    refine ⟨_, hE.ld (vs := s6V s) hpos (show tsz Try.prog 48 = some (true, 6) from by kernel_rfl) (cl_at s6_len hs), fun tok htok => ?_⟩
    subst htok
    simp -implicitDefEqProofs (disch := first | omega | decide) only [seval, -Int.reducePow, -Nat.reducePow, cC, pv, binv, sArBuilt1, undef, List.cons_append, List.nil_append, g1, g2]
    refine callV_grp [0, 1, 2, 3, 4, 5, 6, 7] [] (by decide) (fun _ : ArR × MrR => .bool true) (fun i => arL i.1 ++ mrL i.2) (fun i => Nx x y i.1 i.2) (fun w hw hq => arStep_any x y s w hq hP (by omega) (hb s (List.mem_of_getElem? hs))) ?_
    rintro ⟨x2, y2⟩ hN2
    simp only [pickL, nth]
    simp -implicitDefEqProofs (disch := first | omega | decide) only [seval, -Int.reducePow, -Nat.reducePow, cC, pv, binv, sArBuilt1, undef, List.cons_append, List.nil_append, g1, g2]
    refine hK _ _ ?_
    clear hK K
    refine cv_cond ?_
    simp -implicitDefEqProofs (disch := first | omega | decide) only [seval, -Int.reducePow, -Nat.reducePow, cC, pv, binv, sArBuilt1, undef, List.cons_append, List.nil_append, g1, g2]
    refine cv_skip ?_
    try simp only [blockQ, thenQ]
    refine hK _ _ ?_
    clear hK K
    refine cv_region_then rfl ?_
    simp -implicitDefEqProofs (disch := first | omega | decide) only [seval, -Int.reducePow, -Nat.reducePow, cC, pv, binv, sArBuilt1, undef, List.cons_append, List.nil_append, g1, g2]
    refine ⟨⟨i + 1, x2, y2, ?_⟩, ?_⟩
    · have e1 := hN2.bR
      have e2 := hN2.bM
      have e3 := hN2.us
      dsimp only at e1 e2 e3
      simp -implicitDefEqProofs (disch := first | omega | decide) only [seval, -Int.reducePow, -Nat.reducePow, cC, pv, binv, sArBuilt1, undef, List.cons_append, List.nil_append, e1, e2, Int.natCast_add, g1, g2]
      exact ⟨hN2.pr, by omega, by omega⟩
    · simp only [intOf]; omega
  · have hn : (decide ((i : Int) < (n : Int)) && decide ((i : Int) < 30)) = false := by
      rw [← Bool.not_eq_true, Bool.and_eq_true, decide_eq_true_eq, decide_eq_true_eq]
      omega
    refine cv_seq_k fun K hK => ?_
    refine cv_region_then rfl ?_
    by_cases h1 : i < n
    · have a1 : decide ((i : Int) < (n : Int)) = true := decide_eq_true (by omega)
      have a2 : decide ((i : Int) < 30) = false := decide_eq_false (by omega)
      simp -implicitDefEqProofs (disch := first | omega | decide) only [seval, -Int.reducePow, -Nat.reducePow, cC, pv, binv, sArBuilt1, undef, List.cons_append, List.nil_append, a1, a2, g1, g2]
      refine hK _ _ ?_
      clear hK K
      refine cv_cond ?_
      simp -implicitDefEqProofs (disch := first | omega | decide) only [seval, -Int.reducePow, -Nat.reducePow, cC, pv, binv, sArBuilt1, undef, List.cons_append, List.nil_append, g1, g2]
      refine cv_exit ?_
      simp only [blockQ, thenQ, if_true, ite_true]
      clear hK K
      refine hK _ _ ?_
      clear hK K
      refine cv_seq_k fun K hK => ?_
      refine cv_region_then rfl ?_
      simp -implicitDefEqProofs (disch := first | omega | decide) only [seval, -Int.reducePow, -Nat.reducePow, cC, pv, binv, sArBuilt1, undef, List.cons_append, List.nil_append, g1, g2]
      refine hK _ _ ?_
      clear hK K
      refine cv_ret ⟨_, (by simp -implicitDefEqProofs (disch := first | omega | decide) only [seval, -Int.reducePow, -Nat.reducePow, cC, pv, binv, sArBuilt1, undef, List.cons_append, List.nil_append, g1, g2]; rfl), fun w hw => ?_⟩
      exact ⟨(x, y), rfl, ⟨hP, by dsimp only; omega⟩, hw⟩
    · have a1 : decide ((i : Int) < (n : Int)) = false := decide_eq_false (by omega)
      simp -implicitDefEqProofs (disch := first | omega | decide) only [seval, -Int.reducePow, -Nat.reducePow, cC, pv, binv, sArBuilt1, undef, List.cons_append, List.nil_append, a1, g1, g2]
      refine hK _ _ ?_
      clear hK K
      refine cv_cond ?_
      simp -implicitDefEqProofs (disch := first | omega | decide) only [seval, -Int.reducePow, -Nat.reducePow, cC, pv, binv, sArBuilt1, undef, List.cons_append, List.nil_append, g1, g2]
      refine cv_exit ?_
      simp only [blockQ, thenQ, if_true, ite_true]
      clear hK K
      refine hK _ _ ?_
      clear hK K
      refine cv_seq_k fun K hK => ?_
      refine cv_region_then rfl ?_
      simp -implicitDefEqProofs (disch := first | omega | decide) only [seval, -Int.reducePow, -Nat.reducePow, cC, pv, binv, sArBuilt1, undef, List.cons_append, List.nil_append, g1, g2]
      refine hK _ _ ?_
      clear hK K
      refine cv_ret ⟨_, (by simp -implicitDefEqProofs (disch := first | omega | decide) only [seval, -Int.reducePow, -Nat.reducePow, cC, pv, binv, sArBuilt1, undef, List.cons_append, List.nil_append, g1, g2]; rfl), fun w hw => ?_⟩
      exact ⟨(x, y), rfl, ⟨hP, by dsimp only; omega⟩, hw⟩
end Go.Proofs.Ytfaanphjaghbpaa
