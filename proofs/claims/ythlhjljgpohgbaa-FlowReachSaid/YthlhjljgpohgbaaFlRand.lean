/- The flow laws' random modules. -/
import Derived.Test.YthlhjljgpohgbaaFlAw
namespace Go.Proofs.Ythlhjljgpohgbaa
open Go.RowKit Go.Shelf
set_option linter.unusedVariables false
set_option linter.unusedSimpArgs false
set_option maxRecDepth 100000
set_option maxRecDepth 100000 in
theorem sFlRand1 : type_of% (And.intro (And.intro (And.intro (And.intro @fBox.eq_1 @tBox.eq_1) (And.intro @iBox.eq_1 @mBox.eq_1)) (And.intro (And.intro @gBox.eq_1 @flBox.eq_1) (And.intro @fdV.eq_1 @tyV.eq_1))) (And.intro (And.intro (And.intro @insV.eq_1 @fnV.eq_1) (And.intro @modV.eq_1 @fltV.eq_1)) (And.intro (And.intro @fineF.eq_1 @Nat.mul_one) (And.intro @wrap_in @wrapu)))) := (And.intro (And.intro (And.intro (And.intro @fBox.eq_1 @tBox.eq_1) (And.intro @iBox.eq_1 @mBox.eq_1)) (And.intro (And.intro @gBox.eq_1 @flBox.eq_1) (And.intro @fdV.eq_1 @tyV.eq_1))) (And.intro (And.intro (And.intro @insV.eq_1 @fnV.eq_1) (And.intro @modV.eq_1 @fltV.eq_1)) (And.intro (And.intro @fineF.eq_1 @Nat.mul_one) (And.intro @wrap_in @wrapu))))
def u8r (r : List Nat) : List Value := r.map fun x : Nat => Value.int .u8 (x : Int)
theorem insc_snoc (is : List Ins) (op : Int) (a : Nat) : cl insc is ++ [Value.int .i64 op, Value.int .u64 (a : Int)] = cl insc (is ++ [⟨op, a⟩]) := (cl_snoc (f := insc) is ⟨op, a⟩).symm
theorem u8_at {l : List (List Nat)} {i j x : Nat} {r : List Nat} (h2 : ∀ r ∈ l, r.length = 2 ∧ ∀ x ∈ r, (x : Int) < 256) (hr : l[i]? = some r) (hx : r[j]? = some x) : (cl u8r l)[i * 2 + j]? = some (.int .u8 (x : Int)) := by
  have hj : j < 2 := by have := (List.getElem?_eq_some_iff.1 hx).1; have := (h2 r (List.mem_of_getElem? hr)).1; omega
  have key : ∀ (l : List (List Nat)) (i : Nat), (∀ r ∈ l, r.length = 2) → l[i]? = some r → (cl u8r l)[i * 2 + j]? = (u8r r)[j]? := by
    intro l
    induction l with
    | nil => intro i _ h; simp at h
    | cons y l ih =>
      intro i hl h
      have hy : (u8r y).length = 2 := by simp [u8r, hl y (by simp)]
      cases i with
      | zero =>
        simp at h
        subst h
        show (u8r y ++ l.flatMap u8r)[0 * 2 + j]? = _
        rw [List.getElem?_append_left (by omega), Nat.zero_mul, Nat.zero_add]
      | succ i =>
        show (u8r y ++ l.flatMap u8r)[(i + 1) * 2 + j]? = _
        rw [List.getElem?_append_right (by omega), hy, show (i + 1) * 2 + j - 2 = i * 2 + j by omega]
        exact ih i (fun r hr => hl r (by simp [hr])) (by simpa using h)
  rw [key l i (fun r hr => (h2 r hr).1) hr]
  simp [u8r, hx]
section
variable {W w : World} {L : List Res} {size n c b : Nat} {A : Option Addr} {xs cs : List Value} {t : TypeId}
theorem St.sdN (hw : St [] W L w) (k : Nat) (hk : nth L k = some (.row (.slice A n c) t size n xs)) : Sd w (Nw W w) size A n c xs :=
  Sd.of_own (hw.holds _ (nth_mem hk)) fun g hg => by
    have := hw.own _ (nth_mem hk) g (by simpa [Res.foot] using hg)
    simpa [Nw] using this
theorem St.sdNb (hw : St [] W L w) (k : Nat) (hk : nth L k = some (.blk b t cs)) (hl : cs.length = n * size) (hn : n ≤ 9223372036854775807) : Sd w (Nw W w) size (some ⟨b, 0, none⟩) n n cs :=
  ⟨hl, Nat.le_refl _, hn, fun _ => ⟨b, 0, rfl, by have := hw.own _ (nth_mem hk) b (by simp [Res.foot]); simpa [Nw] using this, fun i v hv => by rw [Nat.zero_add, hw.blk_cell (nth_mem hk)]; exact hv⟩⟩
end
/-- The random module. -/
def rndM (b93 : Nat) (f g : FnR) : ModR := ⟨none, 0, 0, [], some ⟨b93, 0, none⟩, 2, 2, [f, g]⟩
theorem rnd_mod {w : World} {D : Nat → Prop} {b93 : Nat} {f g : FnR} (h0 : Sd w D 4 (some ⟨b93, 0, none⟩) 2 2 (cl fnc [f, g])) (h1 : Sd w D 2 f.A f.n f.c (cl insc f.code)) (h2 : Sd w D 2 g.A g.n g.c (cl insc g.code)) (h3 : ∀ i ∈ f.code, i.arg < 256) (h4 : ∀ i ∈ g.code, i.arg < 256) : ModD w D (rndM b93 f g) :=
  ⟨Sd.nil, fun t ht => by simp [rndM] at ht, h0, fun x hx => by
    simp [rndM] at hx
    rcases hx with rfl | rfl
    · exact h1
    · exact h2, fun x hx i hi => by
    simp [rndM] at hx
    rcases hx with rfl | rfl
    · have := h3 i hi; omega
    · have := h4 i hi; omega⟩
set_option maxHeartbeats 4000000 in
theorem flRandom_any (A : Option Addr) (n c : Nat) (l : List (List Nat)) (s0 s1 s2 s3 : Nat) (W : World) (hE : Sl W W.heap.size 2 A n c (cl u8r l)) (h2 : ∀ r ∈ l, r.length = 2 ∧ ∀ x ∈ r, (x : Int) < 256) (h0 : s0 < 256) (h1 : s1 < 256) (h22 : s2 < 256) (h3 : s3 < 256) :
    Calls Try.prog 11 #[.slice A n c, .agg #[.int .u8 (s0 : Int), .int .u8 (s1 : Int), .int .u8 (s2 : Int), .int .u8 (s3 : Int)]] W fun e w' => ∃ k : ModR, e = .returned (modV k) ∧ ModD w' (Nw W w') k ∧ Below W.heap.size W w' := by
  have hln : l.length = n := by
    have := hE.len
    have key : ∀ (l : List (List Nat)), (∀ r ∈ l, r.length = 2) → (cl u8r l).length = l.length * 2 := by
      intro l
      induction l with
      | nil => intro _; rfl
      | cons y l ih =>
        intro hl
        show (u8r y ++ l.flatMap u8r).length = _
        rw [List.length_append]
        have h1 : (u8r y).length = 2 := by simp [u8r, hl y (by simp)]
        have h3 : (l.flatMap u8r).length = l.length * 2 := ih fun r hr => hl r (by simp [hr])
        rw [h1, h3, List.length_cons]
        omega
    rw [key l fun r hr => (h2 r hr).1] at this
    omega
  have hcap := hE.cap
  have hmax := hE.max
  refine calls_cv2 (M := []) (n := 107) [.cell 4 35] rfl Try.func11 rfl rfl (Nat.le_of_ble_eq_true rfl) (St.nil _ _) ?_
  refine cv_seq_k fun K hK => ?_
  refine cv_region_then rfl ?_
  simp -implicitDefEqProofs (disch := first | omega | decide) only [seval, -Int.reducePow, -Nat.reducePow, cC, pv, binv, sFlRand1, undef]
  intro b3 hb3 b4 hb4 hf4
  refine hK _ _ ?_
  clear hK K
  refine cv_seq_k fun K hK => ?_
  refine cv_region_then rfl ?_
  simp -implicitDefEqProofs (disch := first | omega | decide) only [seval, -Int.reducePow, -Nat.reducePow, cC, pv, binv, sFlRand1, undef]
  refine hK _ _ ?_
  clear hK K
  refine cv_nil 25 2 ?_
  refine cv_seq_k fun K hK => ?_
  refine cv_seq_k fun K hK => ?_
  refine cv_region_then rfl ?_
  simp -implicitDefEqProofs (disch := first | omega | decide) only [seval, -Int.reducePow, -Nat.reducePow, cC, pv, binv, sFlRand1, undef]
  refine hK _ _ ?_
  clear hK K
  refine cv_gen fun G1 hG => ?_
  have g1_0 := congrFun hG 0
  have g1_3 := congrFun hG 3
  have g1_4 := congrFun hG 4
  have g1_5 := congrFun hG 5
  have g1_6 := congrFun hG 6
  clear hG
  try simp -implicitDefEqProofs (disch := first | omega | decide) only [seval, -Int.reducePow, -Nat.reducePow, cC, pv, binv, sFlRand1, undef] at g1_0 g1_3 g1_4 g1_5 g1_6
  have g1 := And.intro g1_0 (And.intro g1_3 (And.intro g1_4 (And.intro g1_5 g1_6)))
  refine cv_block ?_
  refine cv_loop (fun F' L' => ∃ (i : Nat) (A5 : Option Addr) (n5 c5 : Nat) (is : List Ins), F' 0 = G1 0 ∧ F' 3 = G1 3 ∧ F' 4 = G1 4 ∧ F' 5 = .slice A5 n5 c5 ∧ F' 6 = .int .i64 (i : Int) ∧ L' = [.row (.slice A5 n5 c5) 25 2 n5 (cl insc is), .blk b4 35 [.slice none 0 0, .slice none 0 0], .blk b3 40 [.int .u8 (s0 : Int), .int .u8 (s1 : Int), .int .u8 (s2 : Int), .int .u8 (s3 : Int)]] ∧ i ≤ n ∧ i ≤ 16 ∧ n5 ≤ i ∧ ∀ y ∈ is, y.arg < 256) (fun F' L' => 20 - (intOf (F' 6)).toNat) ?_ ?_
  · refine ⟨0, none, 0, 0, [], ?_⟩
    simp -implicitDefEqProofs (disch := first | omega | decide) only [seval, -Int.reducePow, -Nat.reducePow, cC, pv, binv, sFlRand1, undef, g1]
    exact ⟨rfl, by omega, by simp⟩
  intro G2 L' hI
  obtain ⟨i, A5, n5, c5, is, q0, q3, q4, q5, q6, rfl, ⟨hi, hi16, hn5, hia⟩⟩ := hI
  have g2_0 := q0.trans g1_0
  have g2_3 := q3.trans g1_3
  have g2_4 := q4.trans g1_4
  have g2_5 := q5
  have g2_6 := q6
  clear q0 q3 q4 q5 q6
  have g2 := And.intro g2_0 (And.intro g2_3 (And.intro g2_4 (And.intro g2_5 g2_6)))
  refine cv_seq_k fun K hK => ?_
  refine cv_seq_k fun K hK => ?_
  refine cv_cut (fun _ _ => True) (fun F' L' => F' 0 = G2 0 ∧ F' 3 = G2 3 ∧ F' 4 = G2 4 ∧ F' 5 = G2 5 ∧ F' 6 = G2 6 ∧ F' 17 = .bool (decide (i < n ∧ i < 16)) ∧ L' = [.row (.slice A5 n5 c5) 25 2 n5 (cl insc is), .blk b4 35 [.slice none 0 0, .slice none 0 0], .blk b3 40 [.int .u8 (s0 : Int), .int .u8 (s1 : Int), .int .u8 (s2 : Int), .int .u8 (s3 : Int)]]) ?_ ?_
  · refine cv_region_then rfl ?_
    simp -implicitDefEqProofs (disch := first | omega | decide) only [seval, -Int.reducePow, -Nat.reducePow, cC, pv, binv, sFlRand1, undef, g1, g2]
    repeat' ((first | refine vcg_cases (fun hg => ?_) (fun hg => ?_) | refine vdg_cases (fun hg => ?_) (fun hg => ?_)) <;> ((try simp only [Bool.not_eq_true', Bool.not_eq_false', decide_eq_true_eq, decide_eq_false_iff_not] at hg); (try simp -implicitDefEqProofs (disch := first | omega | decide) only [seval, -Int.reducePow, -Nat.reducePow, cC, pv, binv, sFlRand1, undef, hg, g1, g2])))
    all_goals (repeat' refine And.intro ?_ ?_)
    all_goals (first | with_reducible rfl | (refine congrArg Value.bool ?_; rw [Bool.eq_iff_iff]; (try simp only [decide_eq_true_eq, eq_self, true_and, and_true, false_and, and_false, true_or, or_true, false_or, or_false, not_true_eq_false, not_false_eq_true, true_iff, iff_true, false_iff, iff_false, Bool.false_eq_true, Bool.not_eq_true', Bool.not_eq_true, decide_eq_false_iff_not, Bool.and_eq_true, Bool.or_eq_true]) <;> omega) | (refine congrArg (Value.int _) ?_; omega) | omega)
  intro G3 L' _ hF
  obtain ⟨q0, q3, q4, q5, q6, q17, rfl⟩ := hF
  have g3_0 := q0.trans g2_0
  have g3_3 := q3.trans g2_3
  have g3_4 := q4.trans g2_4
  have g3_5 := q5.trans g2_5
  have g3_6 := q6.trans g2_6
  have g3_17 := q17
  clear q0 q3 q4 q5 q6 q17
  have g3 := And.intro g3_0 (And.intro g3_3 (And.intro g3_4 (And.intro g3_5 (And.intro g3_6 g3_17))))
  refine hK _ _ ?_
  clear hK K
  refine cv_cond ?_
  simp -implicitDefEqProofs (disch := first | omega | decide) only [seval, -Int.reducePow, -Nat.reducePow, cC, pv, binv, sFlRand1, undef, g1, g2, g3]
  refine ⟨fun hc => ?_, fun hc => ?_⟩
  · refine cv_skip ?_
    try simp only [blockQ, thenQ]
    obtain ⟨hin, hi6⟩ : i < n ∧ i < 16 := of_decide_eq_true ‹_›
    obtain ⟨r, hr⟩ := some_of (l := l) (i := i) (by omega)
    obtain ⟨hr2, hr256⟩ := h2 r (List.mem_of_getElem? hr)
    obtain ⟨x0, hx0⟩ := some_of (l := r) (i := 0) (by omega)
    obtain ⟨x1, hx1⟩ := some_of (l := r) (i := 1) (by omega)
    have hx0b := hr256 x0 (List.mem_of_getElem? hx0)
    have hx1b := hr256 x1 (List.mem_of_getElem? hx1)
    obtain ⟨bA, oA, rfl, hbA, -⟩ := hE.cells (by omega)
    refine hK _ _ ?_
    clear hK K
    refine cv_seq_k fun K hK => ?_
    refine cv_block ?_
    refine cv_pick_post [0, 3, 4] (by decide) ?_
    refine cv_seq_k fun K hK => ?_
    refine cv_region_then rfl ?_
    simp -implicitDefEqProofs (disch := first | omega | decide) only [seval, -Int.reducePow, -Nat.reducePow, cC, pv, binv, sFlRand1, undef, g1, g2, g3]
    refine ⟨_, hE.ld1 (m := 1) (i := i * 2 + 0) rfl (u8_at h2 hr hx0), fun tok htok => ?_⟩
    subst htok
    simp -implicitDefEqProofs (disch := first | omega | decide) only [seval, -Int.reducePow, -Nat.reducePow, cC, pv, binv, sFlRand1, undef, g1, g2, g3]
    obtain ⟨op, hop⟩ : ∃ op, 1 + (x0 : Int) % 25 = op := ⟨_, rfl⟩
    rw [hop]
    intro b7 hb7 hf7
    refine hK _ _ ?_
    clear hK K
    refine cv_gen fun G4 hG => ?_
    have g4_0 := congrFun hG 0
    have g4_3 := congrFun hG 3
    have g4_4 := congrFun hG 4
    have g4_5 := congrFun hG 5
    have g4_6 := congrFun hG 6
    have g4_7 := congrFun hG 7
    clear hG
    try simp -implicitDefEqProofs (disch := first | omega | decide) only [seval, -Int.reducePow, -Nat.reducePow, cC, pv, binv, sFlRand1, undef, g1, g2, g3] at g4_0 g4_3 g4_4 g4_5 g4_6 g4_7
    have g4 := And.intro g4_0 (And.intro g4_3 (And.intro g4_4 (And.intro g4_5 (And.intro g4_6 g4_7))))
    refine cv_seq_k fun K hK => ?_
    refine cv_cut (fun _ _ => True) (fun F' L' => ∃ (a : Nat), F' 0 = G4 0 ∧ F' 3 = G4 3 ∧ F' 4 = G4 4 ∧ F' 5 = G4 5 ∧ F' 6 = G4 6 ∧ F' 7 = G4 7 ∧ L' = [.blk b7 25 [.int .i64 op, .int .u64 (a : Int)], .row (.slice A5 n5 c5) 25 2 n5 (cl insc is), .blk b4 35 [.slice none 0 0, .slice none 0 0], .blk b3 40 [.int .u8 (s0 : Int), .int .u8 (s1 : Int), .int .u8 (s2 : Int), .int .u8 (s3 : Int)]] ∧ a < 256) ?_ ?_
    · refine cv_seq_k fun K hK => ?_
      refine cv_region_then rfl ?_
      simp -implicitDefEqProofs (disch := first | omega | decide) only [seval, -Int.reducePow, -Nat.reducePow, cC, pv, binv, sFlRand1, undef, g1, g2, g4]
      refine callV_ret (fun w hw => r_hasArg_any op w) ?_
      try simp -implicitDefEqProofs (disch := first | omega | decide) only [seval, -Int.reducePow, -Nat.reducePow, cC, pv, binv, sFlRand1, undef, g1, g2, g4]
      refine hK _ _ ?_
      clear hK K
      refine cv_cond ?_
      simp -implicitDefEqProofs (disch := first | omega | decide) only [seval, -Int.reducePow, -Nat.reducePow, cC, pv, binv, sFlRand1, undef, g1, g2, g4]
      refine ⟨fun hc => ?_, fun hc => ?_⟩
      · refine cv_region_q rfl ?_
        simp -implicitDefEqProofs (disch := first | omega | decide) only [seval, -Int.reducePow, -Nat.reducePow, cC, pv, binv, sFlRand1, undef, g1, g2, g4]
        refine ⟨_, hE.ld1 (m := 1) (i := i * 2 + 1) rfl (u8_at h2 hr hx1), fun tok htok => ?_⟩
        subst htok
        simp -implicitDefEqProofs (disch := first | omega | decide) only [seval, -Int.reducePow, -Nat.reducePow, cC, pv, binv, sFlRand1, undef, g1, g2, g4]
        refine ⟨x1 % 18, ?_⟩
        rw [Int.natCast_emod]
        exact ⟨rfl, by omega⟩
      refine cv_skip ?_
      try simp only [blockQ, thenQ]
      simp -implicitDefEqProofs (disch := first | omega | decide) only [seval, -Int.reducePow, -Nat.reducePow, cC, pv, binv, sFlRand1, undef, g1, g2, g4]
      exact ⟨0, rfl, by omega⟩
    intro G5 L' _ hF
    obtain ⟨a, q0, q3, q4, q5, q6, q7, rfl, ha⟩ := hF
    have g5_0 := q0.trans g4_0
    have g5_3 := q3.trans g4_3
    have g5_4 := q4.trans g4_4
    have g5_5 := q5.trans g4_5
    have g5_6 := q6.trans g4_6
    have g5_7 := q7.trans g4_7
    clear q0 q3 q4 q5 q6 q7
    have g5 := And.intro g5_0 (And.intro g5_3 (And.intro g5_4 (And.intro g5_5 (And.intro g5_6 g5_7))))
    refine hK _ _ ?_
    clear hK K
    refine cv_seq_k fun K hK => ?_
    refine cv_cut (fun _ _ => True) (fun F' L' => ∃ (a : Nat), F' 0 = G5 0 ∧ F' 3 = G5 3 ∧ F' 4 = G5 4 ∧ F' 5 = G5 5 ∧ F' 6 = G5 6 ∧ F' 7 = G5 7 ∧ L' = [.blk b7 25 [.int .i64 op, .int .u64 (a : Int)], .row (.slice A5 n5 c5) 25 2 n5 (cl insc is), .blk b4 35 [.slice none 0 0, .slice none 0 0], .blk b3 40 [.int .u8 (s0 : Int), .int .u8 (s1 : Int), .int .u8 (s2 : Int), .int .u8 (s3 : Int)]] ∧ a < 256) ?_ ?_
    · refine cv_seq_k fun K hK => ?_
      refine cv_cut (fun _ _ => True) (fun F' L' => F' 0 = G5 0 ∧ F' 3 = G5 3 ∧ F' 4 = G5 4 ∧ F' 5 = G5 5 ∧ F' 6 = G5 6 ∧ F' 7 = G5 7 ∧ F' 52 = .bool (decide (op = 21 ∨ op = 2 ∨ op = 3)) ∧ L' = [.blk b7 25 [.int .i64 op, .int .u64 (a : Int)], .row (.slice A5 n5 c5) 25 2 n5 (cl insc is), .blk b4 35 [.slice none 0 0, .slice none 0 0], .blk b3 40 [.int .u8 (s0 : Int), .int .u8 (s1 : Int), .int .u8 (s2 : Int), .int .u8 (s3 : Int)]]) ?_ ?_
      · refine cv_region_then rfl ?_
        simp -implicitDefEqProofs (disch := first | omega | decide) only [seval, -Int.reducePow, -Nat.reducePow, cC, pv, binv, sFlRand1, undef, g1, g2, g5]
        repeat' ((first | refine vcg_cases (fun hg => ?_) (fun hg => ?_) | refine vdg_cases (fun hg => ?_) (fun hg => ?_)) <;> ((try simp only [Bool.not_eq_true', Bool.not_eq_false', decide_eq_true_eq, decide_eq_false_iff_not] at hg); (try simp -implicitDefEqProofs (disch := first | omega | decide) only [seval, -Int.reducePow, -Nat.reducePow, cC, pv, binv, sFlRand1, undef, hg, g1, g2, g5])))
        all_goals (repeat' refine And.intro ?_ ?_)
        all_goals (first | with_reducible rfl | (refine congrArg Value.bool ?_; rw [Bool.eq_iff_iff]; (try simp only [decide_eq_true_eq, eq_self, true_and, and_true, false_and, and_false, true_or, or_true, false_or, or_false, not_true_eq_false, not_false_eq_true, true_iff, iff_true, false_iff, iff_false, Bool.false_eq_true, Bool.not_eq_true', Bool.not_eq_true, decide_eq_false_iff_not, Bool.and_eq_true, Bool.or_eq_true]) <;> omega) | (refine congrArg (Value.int _) ?_; omega) | omega)
      intro G6 L' _ hF
      obtain ⟨q0, q3, q4, q5, q6, q7, q52, rfl⟩ := hF
      have g6_0 := q0.trans g5_0
      have g6_3 := q3.trans g5_3
      have g6_4 := q4.trans g5_4
      have g6_5 := q5.trans g5_5
      have g6_6 := q6.trans g5_6
      have g6_7 := q7.trans g5_7
      have g6_52 := q52
      clear q0 q3 q4 q5 q6 q7 q52
      have g6 := And.intro g6_0 (And.intro g6_3 (And.intro g6_4 (And.intro g6_5 (And.intro g6_6 (And.intro g6_7 g6_52)))))
      refine hK _ _ ?_
      clear hK K
      refine cv_cond ?_
      simp -implicitDefEqProofs (disch := first | omega | decide) only [seval, -Int.reducePow, -Nat.reducePow, cC, pv, binv, sFlRand1, undef, g1, g2, g5, g6]
      refine ⟨fun hc => ?_, fun hc => ?_⟩
      · refine cv_region_q rfl ?_
        simp -implicitDefEqProofs (disch := first | omega | decide) only [seval, -Int.reducePow, -Nat.reducePow, cC, pv, binv, sFlRand1, undef, g1, g2, g5, g6]
        refine ⟨_, hE.ld1 (m := 1) (i := i * 2 + 1) rfl (u8_at h2 hr hx1), fun tok htok => ?_⟩
        subst htok
        simp -implicitDefEqProofs (disch := first | omega | decide) only [seval, -Int.reducePow, -Nat.reducePow, cC, pv, binv, sFlRand1, undef, g1, g2, g5, g6]
        refine ⟨x1 % 3, ?_⟩
        rw [Int.natCast_emod]
        exact ⟨rfl, by omega⟩
      refine cv_skip ?_
      try simp only [blockQ, thenQ]
      simp -implicitDefEqProofs (disch := first | omega | decide) only [seval, -Int.reducePow, -Nat.reducePow, cC, pv, binv, sFlRand1, undef, g1, g2, g5, g6]
      exact ⟨a, rfl, ha⟩
    intro G7 L' _ hF
    obtain ⟨a, q0, q3, q4, q5, q6, q7, rfl, ha'⟩ := hF
    have g7_0 := q0.trans g5_0
    have g7_3 := q3.trans g5_3
    have g7_4 := q4.trans g5_4
    have g7_5 := q5.trans g5_5
    have g7_6 := q6.trans g5_6
    have g7_7 := q7.trans g5_7
    clear q0 q3 q4 q5 q6 q7
    have g7 := And.intro g7_0 (And.intro g7_3 (And.intro g7_4 (And.intro g7_5 (And.intro g7_6 g7_7))))
    refine hK _ _ ?_
    clear hK K
    refine cv_region_q rfl ?_
    simp -implicitDefEqProofs (disch := first | omega | decide) only [seval, -Int.reducePow, -Nat.reducePow, cC, pv, binv, sFlRand1, undef, g1, g2, g7]
    intro b63 hb63 hf63
    refine appV_at 2 tap22 rfl (fun w hw => src_blk (size := 2) (.head _) rfl hw) rfl (by omega) (by omega) ?_
    intro A6 c6 hl6 hr6
    rw [insc_snoc]
    simp -implicitDefEqProofs (disch := first | omega | decide) only [seval, -Int.reducePow, -Nat.reducePow, cC, pv, binv, sFlRand1, undef, g1, g2, g7]
    refine hK _ _ ?_
    clear hK K
    refine cv_region_then rfl ?_
    simp -implicitDefEqProofs (disch := first | omega | decide) only [seval, -Int.reducePow, -Nat.reducePow, cC, pv, binv, sFlRand1, undef, g1, g2, g7]
    refine ⟨⟨i + 1, A6, n5 + 1, c6, is ++ [⟨op, a⟩], ?_⟩, ?_⟩
    · simp -implicitDefEqProofs (disch := first | omega | decide) only [seval, -Int.reducePow, -Nat.reducePow, cC, pv, binv, sFlRand1, undef, Int.natCast_add, g1, g2, g7]
      refine ⟨by omega, by omega, by omega, fun y hy => ?_⟩
      rcases List.mem_append.1 hy with hy | hy
      · exact hia y hy
      · obtain rfl : y = ⟨op, a⟩ := by simpa using hy
        exact ha'
    · simp only [intOf]; omega
  refine cv_exit ?_
  simp only [blockQ, thenQ, if_true, ite_true]
  clear hK K
  refine hK _ _ ?_
  clear hK K
  refine cv_gen fun G8 hG => ?_
  have g8_3 := congrFun hG 3
  have g8_4 := congrFun hG 4
  have g8_5 := congrFun hG 5
  clear hG
  try simp -implicitDefEqProofs (disch := first | omega | decide) only [seval, -Int.reducePow, -Nat.reducePow, cC, pv, binv, sFlRand1, undef, g1, g2, g3] at g8_3 g8_4 g8_5
  have g8 := And.intro g8_3 (And.intro g8_4 g8_5)
  obtain ⟨z, hz⟩ : ∃ z : Nat, (s0 : Int) % 5 = (z : Int) := ⟨s0 % 5, by rw [Int.natCast_emod]; rfl⟩
  have hz5 : z < 5 := by omega
  obtain ⟨e, he⟩ : ∃ e : Int, ([.int .i64 25, .int .i64 22, .int .i64 19, .int .i64 24, .int .i64 4] : List Value)[z]? = some (.int .i64 e) := by
    rcases (by omega : z = 0 ∨ z = 1 ∨ z = 2 ∨ z = 3 ∨ z = 4) with rfl | rfl | rfl | rfl | rfl
    · exact ⟨_, rfl⟩
    · exact ⟨_, rfl⟩
    · exact ⟨_, rfl⟩
    · exact ⟨_, rfl⟩
    · exact ⟨_, rfl⟩
  refine cv_seq_k fun K hK => ?_
  refine cv_region_then rfl ?_
  simp -implicitDefEqProofs (disch := first | omega | decide) only [seval, -Int.reducePow, -Nat.reducePow, cC, pv, binv, sFlRand1, undef, g1, g2, g8]
  intro b65 hb65 hf65
  refine hK _ _ ?_
  clear hK K
  refine cv_seq_k fun K hK => ?_
  refine cv_region_then rfl ?_
  simp -implicitDefEqProofs (disch := first | omega | decide) only [seval, -Int.reducePow, -Nat.reducePow, cC, pv, binv, sFlRand1, undef, hz, he, g1, g2, g8]
  intro b74 hb74 hf74
  refine appV_at 2 tap22 rfl (fun w hw => src_blk (size := 2) (.head _) rfl hw) rfl (by omega) (by omega) ?_
  intro A6 c6 hl6 hr6
  rw [show cl insc is ++ [Value.int .i64 e, Value.int .u64 0] = cl insc (is ++ [⟨e, 0⟩]) from insc_snoc is e 0]
  simp -implicitDefEqProofs (disch := first | omega | decide) only [seval, -Int.reducePow, -Nat.reducePow, cC, pv, binv, sFlRand1, undef, g1, g2, g8]
  refine hK _ _ ?_
  clear hK K
  refine cv_pick [0, 3, 4] (by decide) ?_
  simp only [pickL, nth]
  refine cv_gen fun G9 hG => ?_
  have g9_3 := congrFun hG 3
  have g9_4 := congrFun hG 4
  have g9_5 := congrFun hG 5
  clear hG
  try simp -implicitDefEqProofs (disch := first | omega | decide) only [seval, -Int.reducePow, -Nat.reducePow, cC, pv, binv, sFlRand1, undef, g1, g2, g8] at g9_3 g9_4 g9_5
  have g9 := And.intro g9_3 (And.intro g9_4 g9_5)
  obtain ⟨z1, hz1⟩ : ∃ z : Nat, (s1 : Int) % 4 = (z : Int) := ⟨s1 % 4, by rw [Int.natCast_emod]; rfl⟩
  obtain ⟨z2, hz2⟩ : ∃ z : Nat, (s2 : Int) % 3 = (z : Int) := ⟨s2 % 3, by rw [Int.natCast_emod]; rfl⟩
  obtain ⟨z3, hz3⟩ : ∃ z : Nat, (s3 : Int) % 3 = (z : Int) := ⟨s3 % 3, by rw [Int.natCast_emod]; rfl⟩
  refine cv_seq_k fun K hK => ?_
  refine cv_region_then rfl ?_
  simp -implicitDefEqProofs (disch := first | omega | decide) only [seval, -Int.reducePow, -Nat.reducePow, cC, pv, binv, sFlRand1, undef, hz1, hz2, hz3, g1, g2, g9]
  intro b91 hb91 hf91 b93 hb93 hf93 b9 hb9 hf9
  refine hK _ _ ?_
  clear hK K
  refine cv_gen fun G10 hG => ?_
  have g10_3 := congrFun hG 3
  have g10_4 := congrFun hG 4
  have g10_9 := congrFun hG 9
  clear hG
  try simp -implicitDefEqProofs (disch := first | omega | decide) only [seval, -Int.reducePow, -Nat.reducePow, cC, pv, binv, sFlRand1, undef, g1, g2, g9] at g10_3 g10_4 g10_9
  have g10 := And.intro g10_3 (And.intro g10_4 g10_9)
  refine cv_seq_k fun K hK => ?_
  refine cv_seq_k fun K hK => ?_
  refine cv_region_then rfl ?_
  simp -implicitDefEqProofs (disch := first | omega | decide) only [seval, -Int.reducePow, -Nat.reducePow, cC, pv, binv, sFlRand1, undef, g1, g2, g10]
  refine hK _ _ ?_
  clear hK K
  refine cv_cond ?_
  simp -implicitDefEqProofs (disch := first | omega | decide) only [seval, -Int.reducePow, -Nat.reducePow, cC, pv, binv, sFlRand1, undef, g1, g2, g10]
  refine ⟨fun hc => ?_, fun hc => ?_⟩
  · refine cv_region_q rfl ?_
    simp -implicitDefEqProofs (disch := first | omega | decide) only [seval, -Int.reducePow, -Nat.reducePow, cC, pv, binv, sFlRand1, undef, g1, g2, g10]
    intro b103 hb103 hf103
    simp -implicitDefEqProofs (disch := first | omega | decide) only [seval, -Int.reducePow, -Nat.reducePow, cC, pv, binv, sFlRand1, undef, g1, g2, g10]
    refine hK _ _ ?_
    clear hK K
    refine cv_seq_k fun K hK => ?_
    refine cv_region_then rfl ?_
    simp -implicitDefEqProofs (disch := first | omega | decide) only [seval, -Int.reducePow, -Nat.reducePow, cC, pv, binv, sFlRand1, undef, g1, g2, g10]
    refine hK _ _ ?_
    clear hK K
    refine cv_ret ?_
    simp -implicitDefEqProofs (disch := first | omega | decide) only [seval, -Int.reducePow, -Nat.reducePow, cC, pv, binv, sFlRand1, undef, retQ2, ressV, packV, g1, g2, g10]
    intro w hw
    refine ⟨rndM b93 ⟨0, 0, (z1 : Int), A6, n5 + 1, c6, is ++ [⟨e, 0⟩]⟩ ⟨(z2 : Int), (z3 : Int), 0, some ⟨b103, 0, none⟩, 2, 2, [⟨1, 0⟩, ⟨22, 0⟩]⟩, rfl, rnd_mod (hw.sdNb (n := 2) 2 rfl rfl (by omega)) (hw.sdN 4 rfl) (hw.sdNb (n := 2) 0 rfl rfl (by omega)) (fun y hy => ?_) (by simp), hw.below⟩
    rcases List.mem_append.1 hy with hy | hy
    · exact hia y hy
    · obtain rfl : y = ⟨e, 0⟩ := by simpa using hy
      exact Nat.zero_lt_succ _
  refine cv_skip ?_
  try simp only [blockQ, thenQ]
  refine hK _ _ ?_
  clear hK K
  refine cv_seq_k fun K hK => ?_
  refine cv_region_then rfl ?_
  simp -implicitDefEqProofs (disch := first | omega | decide) only [seval, -Int.reducePow, -Nat.reducePow, cC, pv, binv, sFlRand1, undef, g1, g2, g10]
  refine hK _ _ ?_
  clear hK K
  refine cv_ret ?_
  simp -implicitDefEqProofs (disch := first | omega | decide) only [seval, -Int.reducePow, -Nat.reducePow, cC, pv, binv, sFlRand1, undef, retQ2, ressV, packV, g1, g2, g10]
  intro w hw
  refine ⟨rndM b93 ⟨0, 0, (z1 : Int), A6, n5 + 1, c6, is ++ [⟨e, 0⟩]⟩ ⟨(z2 : Int), (z3 : Int), 0, some ⟨b91, 0, none⟩, 1, 1, [⟨22, 0⟩]⟩, rfl, rnd_mod (hw.sdNb (n := 2) 1 rfl rfl (by omega)) (hw.sdN 3 rfl) (hw.sdNb (n := 1) 2 rfl rfl (by omega)) (fun y hy => ?_) (by simp), hw.below⟩
  rcases List.mem_append.1 hy with hy | hy
  · exact hia y hy
  · obtain rfl : y = ⟨e, 0⟩ := by simpa using hy
    exact Nat.zero_lt_succ _
end Go.Proofs.Ythlhjljgpohgbaa
