/- The arena's code that writes bytes: Store, Write, Copy. -/
import Derived.Test.YtfaanphjaghbpaaArMut
namespace Go.Proofs.Ytfaanphjaghbpaa
open Go.RowKit Go.Shelf
set_option linter.unusedVariables false
set_option linter.unusedSimpArgs false
set_option maxRecDepth 100000
theorem splice_get {bs ns : List Nat} {p : Nat} (h : p + ns.length ≤ bs.length) (j : Nat) : (splice bs p ns)[j]? = if j < p then bs[j]? else if j < p + ns.length then ns[j - p]? else bs[j]? := by
  unfold splice
  rcases Nat.lt_or_ge j p with h1 | h1
  · rw [if_pos h1, List.append_assoc, List.getElem?_append_left (by rw [List.length_take]; omega), List.getElem?_take, if_pos h1]
  · rw [if_neg (by omega)]
    rcases Nat.lt_or_ge j (p + ns.length) with h2 | h2
    · rw [if_pos h2, List.getElem?_append_left (by simp; omega), List.getElem?_append_right (by simp; omega), List.length_take, Nat.min_eq_left (by omega)]
    · rw [if_neg (by omega), List.getElem?_append_right (by simp; omega), List.getElem?_drop]
      congr 1
      simp
      omega
theorem splice_step {bs ns : List Nat} {p i c : Nat} (h : p + ns.length ≤ bs.length) (hc : ns[i]? = some c) : (splice bs p (ns.take i)).set (p + i) c = splice bs p (ns.take (i + 1)) := by
  have hi := (List.getElem?_eq_some_iff.1 hc).1
  apply List.ext_getElem?
  intro j
  have hl1 : (ns.take i).length = i := by rw [List.length_take]; omega
  have hl2 : (ns.take (i + 1)).length = i + 1 := by rw [List.length_take]; omega
  rw [List.getElem?_set, splice_get (by omega), splice_get (by omega), splice_len (by omega), hl1, hl2]
  by_cases h1 : p + i = j
  · subst h1
    rw [if_pos rfl, if_pos (by omega), if_neg (by omega), if_pos (by omega), show p + i - p = i by omega, List.getElem?_take, if_pos (by omega), hc]
  · rw [if_neg h1]
    by_cases h2 : j < p
    · rw [if_pos h2, if_pos h2]
    · rw [if_neg h2, if_neg h2]
      by_cases h3 : j < p + i
      · rw [if_pos h3, if_pos (by omega), List.getElem?_take, List.getElem?_take, if_pos (by omega), if_pos (by omega)]
      · rw [if_neg h3, if_neg (by omega)]
theorem splice_nil (bs : List Nat) (p : Nat) : splice bs p [] = bs := by simp [splice]
theorem byt_put {bs : List Nat} {j c : Nat} (h : j < bs.length) : (byt bs).take j ++ [Value.int .u8 (c : Int)] ++ (byt bs).drop (j + 1) = byt (bs.set j c) := by
  unfold byt
  rw [← List.map_take, ← List.map_drop, List.set_eq_take_append_cons_drop, if_pos h]
  simp
theorem byt_put2 {bs : List Nat} {j c : Nat} (h : j < bs.length) : (byt bs).take j ++ Value.int .u8 (c : Int) :: (byt bs).drop (j + 1) = byt (bs.set j c) := by
  rw [← byt_put h]
  simp
def stErr (us : List Ext) (e : Ext) (k w : Int) (v : Nat) : Int := if fErr us e k w = 0 then (if w < 8 ∧ ¬ v / 256 ^ w.toNat = 0 then 9 else 0) else fErr us e k w
def stF (bs : List Nat) (e : Ext) (k w : Int) (v : Nat) (f : Int) : List Nat := if f = 0 then splice bs (e.off + k).toNat (leB v w.toNat) else bs
theorem shr_nat (v n : Nat) : (v : Int) / 2 ^ (8 * n) = ((v / 256 ^ n : Nat) : Int) := by
  have e : ((2 : Int) ^ (8 * n)) = ((256 ^ n : Nat) : Int) := by
    rw [show (256 : Nat) ^ n = 2 ^ (8 * n) by rw [Nat.pow_mul]]
    push_cast
    rfl
  rw [e, Int.natCast_ediv]
set_option maxRecDepth 100000 in
theorem sArWr1 : type_of% (And.intro (And.intro (And.intro @eBox.eq_1 @exV.eq_1) (And.intro @alL.eq_1 @arL.eq_1)) (And.intro (And.intro @Nat.mul_one @wrap_in) (And.intro @cMp @cM))) := (And.intro (And.intro (And.intro @eBox.eq_1 @exV.eq_1) (And.intro @alL.eq_1 @arL.eq_1)) (And.intro (And.intro @Nat.mul_one @wrap_in) (And.intro @cMp @cM)))
set_option maxHeartbeats 2000000 in
theorem arStore_any (x : ArR) (us : List Ext) (e : Ext) (k wd : Int) (v : Nat) (W : World) (hst : St (feet (arL x)) W (arL x) W) (hI : Ex.Inv (x.N : Int) us x.al.fr x.al.tk) (hl : us.length ≤ 90) (hbs : x.bs.length = x.N) (hv : v < 18446744073709551616) :
    Calls Try.prog 12 #[.pointer (some ⟨x.bR, 0, none⟩), exV e, .int .i64 k, .int .i64 wd, .int .u64 (v : Int)] W
    fun en w' => ∃ _ : Unit, en = .returned (.int .i64 (stErr us e k wd v)) ∧ True ∧ St (feet (arL x)) W (arL { x with bs := stF x.bs e k wd v (stErr us e k wd v) }) w' := by
  have hfl := hI.frLen
  have hN1 := hI.N1
  obtain ⟨M, hM⟩ : ∃ M, feet (arL x) = M := ⟨_, rfl⟩
  rw [hM] at hst ⊢
  clear hM
  obtain ⟨F, hF⟩ : ∃ F, fErr us e k wd = F := ⟨_, rfl⟩
  have hok := fun h => fErr_ok (x := x) hI (e := e) (k := k) (w := wd) h
  obtain ⟨al, bR, bB, N, bs⟩ := x
  dsimp only at hfl hI hbs hN1 hok
  dsimp only
  have hSt : stErr us e k wd v = if F = 0 then (if wd < 8 ∧ ¬ v / 256 ^ wd.toNat = 0 then 9 else 0) else F := by rw [← hF]; rfl
  rw [hF] at hok
  unfold arL alL at hst
  dsimp only at hst
  refine calls_cv (M := M) (n := 48) [.tmp 10] rfl Try.func12 rfl rfl (Nat.le_of_ble_eq_true rfl)  hst ?_
  refine cv_seq_k fun K hK => ?_
  refine cv_region_then rfl ?_
  simp -implicitDefEqProofs (disch := first | omega | decide) only [seval, -Int.reducePow, -Nat.reducePow, cC, pv, binv, sArWr1, undef]
  intro b6 hb6 hf6
  refine hK _ _ ?_
  clear hK K
  refine cv_seq_k fun K hK => ?_
  refine cv_region_then rfl ?_
  simp -implicitDefEqProofs (disch := first | omega | decide) only [seval, -Int.reducePow, -Nat.reducePow, cC, pv, binv, sArWr1, undef]
  refine callV_ret (fun w hw => field_any ⟨al, bR, bB, N, bs⟩ us w e k wd (ArW.of hw 1 2 3 4 5 rfl rfl rfl rfl rfl (by dsimp only; omega) hbs (by dsimp only; omega)) hI) ?_
  try simp -implicitDefEqProofs (disch := first | omega | decide) only [seval, -Int.reducePow, -Nat.reducePow, cC, pv, binv, sArWr1, undef, hF]
  refine hK _ _ ?_
  clear hK K
  by_cases hz : F = 0
  · rw [if_pos hz] at hSt
    obtain ⟨p, n, hp, rfl, hpn, hn, he, -⟩ := hok hz
    rw [Int.toNat_natCast] at hSt
    have hfv : fV ⟨al, bR, bB, N, bs⟩ e k (n : Int) F = .slice (some ⟨bB, p, none⟩) n (N - p) := by unfold fV; rw [if_pos hz, hp]; simp
    have o4 : ((8 : Int) * (n : Int)).toNat = 8 * n := by omega
    have o5 := shr_nat v n
    have hz' : decide (F = 0) = true := decide_eq_true hz
    have hlB := leB_len v n
    refine cv_seq_k fun K hK => ?_
    refine cv_seq_k fun K hK => ?_
    refine cv_region_then rfl ?_
    simp -implicitDefEqProofs (disch := first | omega | decide) only [seval, -Int.reducePow, -Nat.reducePow, cC, pv, binv, sArWr1, undef, hfv, hz']
    refine hK _ _ ?_
    clear hK K
    refine cv_cond ?_
    simp -implicitDefEqProofs (disch := first | omega | decide) only [seval, -Int.reducePow, -Nat.reducePow, cC, pv, binv, sArWr1, undef]
    refine cv_skip ?_
    try simp only [blockQ, thenQ]
    refine hK _ _ ?_
    clear hK K
    refine cv_gen fun G1 hG => ?_
    have g1_3 := congrFun hG 3
    have g1_4 := congrFun hG 4
    have g1_11 := congrFun hG 11
    clear hG
    try simp -implicitDefEqProofs (disch := first | omega | decide) only [seval, -Int.reducePow, -Nat.reducePow, cC, pv, binv, sArWr1, undef, hfv] at g1_3 g1_4 g1_11
    have g1 := And.intro g1_3 (And.intro g1_4 g1_11)
    refine cv_seq_k fun K hK => ?_
    refine cv_seq_k fun K hK => ?_
    refine cv_cut (fun _ _ => True) (fun F' L' => F' 4 = G1 4 ∧ F' 11 = G1 11 ∧ F' 33 = .bool (decide ((n : Int) < 8 ∧ ¬ v / 256 ^ n = 0)) ∧ L' = [eBox b6 e, .blk bR 64 [.pointer (some ⟨al.bA, 0, none⟩), .slice (some ⟨bB, 0, none⟩) N N], .blk bB 5 (byt bs), .blk al.bA 99 [.slice al.FA al.fn al.fc, .map (some al.bm)], mpR al.bm al.tk, .row (.slice al.FA al.fn al.fc) 28 2 al.fn (exCells al.fr)]) ?_ ?_
    · by_cases a1 : (n : Int) < 8
      · have a1' : decide ((n : Int) < 8) = true := decide_eq_true a1
        refine cv_region_then rfl ?_
        simp -implicitDefEqProofs (disch := first | omega | decide) only [seval, -Int.reducePow, -Nat.reducePow, cC, pv, binv, sArWr1, undef, a1', bits64, o4, o5, g1]
        rw [show decide ((n : Int) < 8 ∧ ¬ v / 256 ^ n = 0) = !decide (((v / 256 ^ n : Nat) : Int) = 0) by generalize v / 256 ^ n = Q; rw [← decide_not]; apply decide_eq_decide.2; constructor <;> intro h <;> omega]
        all_goals (repeat' refine And.intro ?_ ?_)
        all_goals (first | with_reducible rfl | (refine congrArg Value.bool ?_; rw [Bool.eq_iff_iff]; (try simp only [decide_eq_true_eq, eq_self, true_and, and_true, false_and, and_false, true_or, or_true, false_or, or_false, not_true_eq_false, not_false_eq_true, true_iff, iff_true, false_iff, iff_false, Bool.false_eq_true, Bool.not_eq_true', Bool.not_eq_true, decide_eq_false_iff_not, Bool.and_eq_true, Bool.or_eq_true]) <;> omega) | (refine congrArg (Value.int _) ?_; omega) | omega)
      · have a1' : decide ((n : Int) < 8) = false := decide_eq_false a1
        refine cv_region_then rfl ?_
        simp -implicitDefEqProofs (disch := first | omega | decide) only [seval, -Int.reducePow, -Nat.reducePow, cC, pv, binv, sArWr1, undef, a1', g1]
        rw [show decide ((n : Int) < 8 ∧ ¬ v / 256 ^ n = 0) = false from decide_eq_false fun h => a1 h.1]
        all_goals (repeat' refine And.intro ?_ ?_)
        all_goals (first | with_reducible rfl | (refine congrArg Value.bool ?_; rw [Bool.eq_iff_iff]; (try simp only [decide_eq_true_eq, eq_self, true_and, and_true, false_and, and_false, true_or, or_true, false_or, or_false, not_true_eq_false, not_false_eq_true, true_iff, iff_true, false_iff, iff_false, Bool.false_eq_true, Bool.not_eq_true', Bool.not_eq_true, decide_eq_false_iff_not, Bool.and_eq_true, Bool.or_eq_true]) <;> omega) | (refine congrArg (Value.int _) ?_; omega) | omega)
    intro G2 L' _ hF
    obtain ⟨q4, q11, q33, rfl⟩ := hF
    have g2_4 := q4.trans g1_4
    have g2_11 := q11.trans g1_11
    have g2_33 := q33
    clear q4 q11 q33
    have g2 := And.intro g2_4 (And.intro g2_11 g2_33)
    refine hK _ _ ?_
    clear hK K
    refine cv_cond ?_
    simp -implicitDefEqProofs (disch := first | omega | decide) only [seval, -Int.reducePow, -Nat.reducePow, cC, pv, binv, sArWr1, undef, g2]
    refine ⟨fun hc => ?_, fun hc => ?_⟩
    · have q1 := of_decide_eq_true hc
      rw [if_pos q1] at hSt
      refine cv_seq_k fun K hK => ?_
      refine cv_region_then rfl ?_
      simp -implicitDefEqProofs (disch := first | omega | decide) only [seval, -Int.reducePow, -Nat.reducePow, cC, pv, binv, sArWr1, undef, g2]
      refine hK _ _ ?_
      clear hK K
      refine cv_ret ⟨_, (by simp -implicitDefEqProofs (disch := first | omega | decide) only [seval, -Int.reducePow, -Nat.reducePow, cC, pv, binv, sArWr1, undef, g2]; rfl), fun w hw => ?_⟩
      have hS9 : stF bs e k (n : Int) v 9 = bs := by unfold stF; rw [if_neg (by decide)]
      rw [hSt, hS9]
      first | exact ⟨(), rfl, hw.tail⟩ | exact ⟨(), rfl, trivial, hw.tail⟩
    have q1 := of_decide_eq_false hc
    rw [if_neg q1] at hSt
    have hStF : stF bs e k (n : Int) v 0 = splice bs p (leB v n) := by unfold stF; rw [if_pos rfl, hp]; simp
    refine cv_skip ?_
    try simp only [blockQ, thenQ]
    refine hK _ _ ?_
    clear hK K
    refine cv_seq_k fun K hK => ?_
    refine cv_seq_k fun K hK => ?_
    refine cv_region_then rfl ?_
    simp -implicitDefEqProofs (disch := first | omega | decide) only [seval, -Int.reducePow, -Nat.reducePow, cC, pv, binv, sArWr1, undef, g2]
    refine hK _ _ ?_
    clear hK K
    refine cv_gen fun G3 hG => ?_
    have g3_4 := congrFun hG 4
    have g3_11 := congrFun hG 11
    have g3_35 := congrFun hG 35
    have g3_36 := congrFun hG 36
    clear hG
    try simp -implicitDefEqProofs (disch := first | omega | decide) only [seval, -Int.reducePow, -Nat.reducePow, cC, pv, binv, sArWr1, undef, g2] at g3_4 g3_11 g3_35 g3_36
    have g3 := And.intro g3_4 (And.intro g3_11 (And.intro g3_35 g3_36))
    refine cv_block ?_
    refine cv_loop (fun F' L' => ∃ (i : Nat), F' 4 = G3 4 ∧ F' 11 = G3 11 ∧ F' 35 = G3 35 ∧ F' 36 = .int .i64 (i : Int) ∧ L' = [eBox b6 e, .blk bR 64 [.pointer (some ⟨al.bA, 0, none⟩), .slice (some ⟨bB, 0, none⟩) N N], .blk bB 5 (byt (splice bs p ((leB v n).take i))), .blk al.bA 99 [.slice al.FA al.fn al.fc, .map (some al.bm)], mpR al.bm al.tk, .row (.slice al.FA al.fn al.fc) 28 2 al.fn (exCells al.fr)] ∧ i ≤ n) (fun F' L' => 20 - (intOf (F' 36)).toNat) ?_ ?_
    · refine ⟨0, ?_⟩
      simp -implicitDefEqProofs (disch := first | omega | decide) only [seval, -Int.reducePow, -Nat.reducePow, cC, pv, binv, sArWr1, undef, List.take_zero, splice_nil, g3]
      omega
    intro G4 L' hI
    obtain ⟨i, q4, q11, q35, q36, rfl, hi⟩ := hI
    have g4_4 := q4.trans g3_4
    have g4_11 := q11.trans g3_11
    have g4_35 := q35.trans g3_35
    have g4_36 := q36
    clear q4 q11 q35 q36
    have g4 := And.intro g4_4 (And.intro g4_11 (And.intro g4_35 g4_36))
    refine cv_apart fun hap => ?_
    simp only [factL_nil, factL_blk, factL_row, neR_nil, neR_blk, neR_row, neB_nil, neB_blk, neB_row, and_true, true_and, List.not_mem_nil, or_false, sArWr1, undef] at hap
    obtain hap2 := hap
    refine cv_seq_k fun K hK => ?_
    refine cv_region_then rfl ?_
    simp -implicitDefEqProofs (disch := first | omega | decide) only [seval, -Int.reducePow, -Nat.reducePow, cC, pv, binv, sArWr1, undef, g3, g4]
    refine hK _ _ ?_
    clear hK K
    refine cv_seq_k fun K hK => ?_
    refine cv_cond ?_
    simp -implicitDefEqProofs (disch := first | omega | decide) only [seval, -Int.reducePow, -Nat.reducePow, cC, pv, binv, sArWr1, undef, g3, g4]
    refine ⟨fun hc => ?_, fun hc => ?_⟩
    · refine cv_skip ?_
      try simp only [blockQ, thenQ]
      have hit : i < n := by have := of_decide_eq_true ‹decide ((i : Int) < (n : Int)) = true›; omega
      have hgi := leB_get (v := v) hit
      have hst2 := splice_step (bs := bs) (p := p) (by omega) hgi
      have hsl : (splice bs p ((leB v n).take i)).length = bs.length := splice_len (by rw [List.length_take]; omega)
      have hpu := byt_put2 (bs := splice bs p ((leB v n).take i)) (j := p + i) (c := v / 256 ^ i % 256) (by omega)
      have hpu1 := byt_put (bs := splice bs p ((leB v n).take i)) (j := p + i) (c := v / 256 ^ i % 256) (by omega)
      rw [hst2] at hpu hpu1
      have o6 : ((8 : Int) * (i : Int)).toNat = 8 * i := by omega
      have o7 := shr_byte v i
      refine hK _ _ ?_
      clear hK K
      refine cv_seq_k fun K hK => ?_
      refine cv_block ?_
      refine cv_seq_k fun K hK => ?_
      refine cv_region_then rfl ?_
      simp -implicitDefEqProofs (disch := first | omega | decide) only [seval, -Int.reducePow, -Nat.reducePow, cC, pv, binv, sArWr1, undef, g3, g4]
      refine hK _ _ ?_
      clear hK K
      refine cv_region_q rfl ?_
      simp -implicitDefEqProofs (disch := first | omega | decide) only [seval, -Int.reducePow, -Nat.reducePow, cC, pv, binv, sArWr1, undef, bits64, o6, o7, g3, g4]
      refine ⟨by rw [byt_len]; omega, ?_⟩
      first | rw [hpu] | rw [hpu1]
      refine hK _ _ ?_
      clear hK K
      refine cv_region_then rfl ?_
      simp -implicitDefEqProofs (disch := first | omega | decide) only [seval, -Int.reducePow, -Nat.reducePow, cC, pv, binv, sArWr1, undef, wrap_in, g3, g4]
      refine ⟨⟨i + 1, ?_⟩, ?_⟩
      · simp -implicitDefEqProofs (disch := first | omega | decide) only [seval, -Int.reducePow, -Nat.reducePow, cC, pv, binv, sArWr1, undef, Int.natCast_add, g3, g4]
        omega
      · simp only [intOf]; omega
    refine cv_exit ?_
    simp only [blockQ, thenQ, if_true, ite_true]
    clear hK K
    refine hK _ _ ?_
    clear hK K
    have hit : ¬ i < n := by have := of_decide_eq_false ‹decide ((i : Int) < (n : Int)) = false›; omega
    refine cv_seq_k fun K hK => ?_
    refine cv_region_then rfl ?_
    simp -implicitDefEqProofs (disch := first | omega | decide) only [seval, -Int.reducePow, -Nat.reducePow, cC, pv, binv, sArWr1, undef, g3, g4]
    refine hK _ _ ?_
    clear hK K
    refine cv_ret ⟨_, (by simp -implicitDefEqProofs (disch := first | omega | decide) only [seval, -Int.reducePow, -Nat.reducePow, cC, pv, binv, sArWr1, undef, g3, g4]; rfl), fun w hw => ?_⟩
    rw [hSt, hStF, List.take_of_length_le (by omega)] at *
    first | exact ⟨(), rfl, hw.tail⟩ | exact ⟨(), rfl, trivial, hw.tail⟩
  · rw [if_neg hz] at hSt
    have hfv : fV ⟨al, bR, bB, N, bs⟩ e k wd F = .slice none 0 0 := by unfold fV; rw [if_neg hz]
    have hz' : decide (F = 0) = false := decide_eq_false hz
    have hStF : stF bs e k wd v F = bs := by unfold stF; rw [if_neg hz]
    refine cv_seq_k fun K hK => ?_
    refine cv_seq_k fun K hK => ?_
    refine cv_region_then rfl ?_
    simp -implicitDefEqProofs (disch := first | omega | decide) only [seval, -Int.reducePow, -Nat.reducePow, cC, pv, binv, sArWr1, undef, hfv, hz']
    refine hK _ _ ?_
    clear hK K
    refine cv_cond ?_
    simp -implicitDefEqProofs (disch := first | omega | decide) only [seval, -Int.reducePow, -Nat.reducePow, cC, pv, binv, sArWr1, undef]
    refine cv_seq_k fun K hK => ?_
    refine cv_region_then rfl ?_
    simp -implicitDefEqProofs (disch := first | omega | decide) only [seval, -Int.reducePow, -Nat.reducePow, cC, pv, binv, sArWr1, undef]
    refine hK _ _ ?_
    clear hK K
    refine cv_ret ⟨_, (by simp -implicitDefEqProofs (disch := first | omega | decide) only [seval, -Int.reducePow, -Nat.reducePow, cC, pv, binv, sArWr1, undef]; rfl), fun w hw => ?_⟩
    rw [hSt, hStF]
    first | exact ⟨(), rfl, hw.tail⟩ | exact ⟨(), rfl, trivial, hw.tail⟩
theorem Sl.keepM {M : List Nat} {W w : World} {L : List Res} {size n c : Nat} {A : Option Addr} {xs : List Value} (h : Sl W W.heap.size size A n c xs) (hA : ∀ a, A = some a → a.block ∉ M) (hw : St M W L w) : Sl w w.heap.size size A n c xs :=
  ⟨h.len, h.cap, h.max, fun hn => by
    obtain ⟨b, off, e, hb, hc⟩ := h.cells hn
    exact ⟨b, off, e, Nat.lt_of_lt_of_le hb hw.pres.size, fun i v hv => (World.cell?_of_block (a := ⟨b, off + i, none⟩) (hw.pres.block b hb (hA _ e))).trans (hc i v hv)⟩⟩
theorem xv_copy0 {P : Program} {M : List Nat} {W : World} {L : List Res} {F : Fr} {d : Option Nat} {dT sT e ty : TypeId} {pos : String} {af : Array Edge} {gd : Option (Nat × Bool)} {x y : Operand} {K : Bool → Value → List Res → Prop} {bytes n c m c' : Nat} {D A : Option Addr}
    (ht : tap P dT = some (e, 1, bytes)) (hx : ev F x = .slice D n c) (hy : ev F y = .slice A m c') (h0 : m = 0 ∨ n = 0) (hK : K true (.int .i64 0) L) :
    XV P M W ⟨d, .call { callee := .builtin .copy, args := #[x, y], argTypes := #[dT, sT] }, ty, pos, af, gd⟩ F L K := by
  intro w hw
  obtain ⟨hut, i, z, hi, hz, hsz, hby, hzs, hsz0⟩ := tap_run ht
  have hr := run_copy_none (P := P) w dT sT ty e D A n c m c' hut (by rw [hi]; simp [hsz]) (by rcases h0 with h | h <;> subst h <;> simp [Nat.min_def])
  refine ⟨_, _, w, ?_, hw, hK⟩
  simp only [execOp, resolve, Sem.run_bind, Sem.run_pure, Result.andThen_ok, invoke, builtin, List.map_toArray, List.map_cons, List.map_nil, hx, hy, hr]
  rfl
def wrErr (us : List Ext) (e : Ext) (k n : Int) : Int := if e ∈ us then (if 0 ≤ k ∧ n ≤ e.len ∧ k ≤ e.len - n then 0 else 7) else 6
def wrF (bs : List Nat) (e : Ext) (k : Int) (l : List Nat) (f : Int) : List Nat := if f = 0 then splice bs (e.off + k).toNat l else bs
set_option maxHeartbeats 2000000 in
theorem arWrite_any (x : ArR) (us : List Ext) (e : Ext) (k : Int) (A : Option Addr) (m d : Nat) (l : List Nat) (W : World) (hst : St (feet (arL x)) W (arL x) W) (hI : Ex.Inv (x.N : Int) us x.al.fr x.al.tk) (hl : us.length ≤ 90) (hbs : x.bs.length = x.N)
    (hS : Sl W W.heap.size 1 A m d (byt l)) (hA : 0 < m → ∀ a, A = some a → a.block ∉ feet (arL x)) :
    Calls Try.prog 15 #[.pointer (some ⟨x.bR, 0, none⟩), exV e, .int .i64 k, .slice A m d] W
    fun en w' => ∃ _ : Unit, en = .returned (.int .i64 (wrErr us e k m)) ∧ True ∧ St (feet (arL x)) W (arL { x with bs := wrF x.bs e k l (wrErr us e k m) }) w' := by
  have hfl := hI.frLen
  have hN1 := hI.N1
  have hlm := byt_row hS.len
  have hmx := hS.cap
  have hmx2 := hS.max
  obtain ⟨M, hM⟩ : ∃ M, feet (arL x) = M := ⟨_, rfl⟩
  rw [hM] at hst hA ⊢
  clear hM
  obtain ⟨F, hF⟩ : ∃ F, wrErr us e k m = F := ⟨_, rfl⟩
  have hF2 := hF
  unfold wrErr at hF2
  have hnat := fun h => hI.nat (e := e) h
  obtain ⟨al, bR, bB, N, bs⟩ := x
  dsimp only at hfl hI hbs hN1 hnat
  dsimp only
  have hno : ¬ F = 0 → wrF bs e k l F = bs := fun h => by unfold wrF; rw [if_neg h]
  unfold arL alL at hst
  dsimp only at hst
  by_cases he : e ∈ us
  · rw [if_pos he] at hF2
    obtain ⟨o, q, rfl, hl0, hoN⟩ := hnat he
    dsimp only at hF2
    refine calls_cv (M := M) (n := 31) [.tmp 8] rfl Try.func15 rfl rfl (Nat.le_of_ble_eq_true rfl)  hst ?_
    refine cv_seq_k fun K hK => ?_
    refine cv_region_then rfl ?_
    simp -implicitDefEqProofs (disch := first | omega | decide) only [seval, -Int.reducePow, -Nat.reducePow, cC, pv, binv, sArWr1, undef]
    intro b5 hb5 hf5
    refine hK _ _ ?_
    clear hK K
    refine cv_seq_k fun K hK => ?_
    refine cv_region_then rfl ?_
    simp -implicitDefEqProofs (disch := first | omega | decide) only [seval, -Int.reducePow, -Nat.reducePow, cC, pv, binv, sArWr1, undef]
    refine callV_ret (fun w hw => arSlice_yes ⟨al, bR, bB, N, bs⟩ us w o q (ArW.of hw 1 2 3 4 5 rfl rfl rfl rfl rfl (by dsimp only; omega) hbs (by dsimp only; omega)) hI he hl0 hoN) ?_
    try simp -implicitDefEqProofs (disch := first | omega | decide) only [seval, -Int.reducePow, -Nat.reducePow, cC, pv, binv, sArWr1, undef]
    refine hK _ _ ?_
    clear hK K
    refine cv_seq_k fun K hK => ?_
    refine cv_seq_k fun K hK => ?_
    refine cv_region_then rfl ?_
    simp -implicitDefEqProofs (disch := first | omega | decide) only [seval, -Int.reducePow, -Nat.reducePow, cC, pv, binv, sArWr1, undef]
    refine hK _ _ ?_
    clear hK K
    refine cv_cond ?_
    simp -implicitDefEqProofs (disch := first | omega | decide) only [seval, -Int.reducePow, -Nat.reducePow, cC, pv, binv, sArWr1, undef]
    refine cv_skip ?_
    try simp only [blockQ, thenQ]
    refine hK _ _ ?_
    clear hK K
    refine cv_seq_k fun K hK => ?_
    refine cv_seq_k fun K hK => ?_
    refine cv_region_then rfl ?_
    simp -implicitDefEqProofs (disch := first | omega | decide) only [seval, -Int.reducePow, -Nat.reducePow, cC, pv, binv, sArWr1, undef]
    refine callV_ret (fun w hw => within_any (some ⟨bB, o, none⟩) q (N - o) k (m : Int) w (by omega) (by omega)) ?_
    try simp -implicitDefEqProofs (disch := first | omega | decide) only [seval, -Int.reducePow, -Nat.reducePow, cC, pv, binv, sArWr1, undef]
    refine hK _ _ ?_
    clear hK K
    refine cv_cond ?_
    simp -implicitDefEqProofs (disch := first | omega | decide) only [seval, -Int.reducePow, -Nat.reducePow, cC, pv, binv, sArWr1, undef]
    refine ⟨fun hc => ?_, fun hc => ?_⟩
    · have q2 := nd_true hc
      rw [if_neg q2] at hF2
      refine cv_seq_k fun K hK => ?_
      refine cv_region_then rfl ?_
      simp -implicitDefEqProofs (disch := first | omega | decide) only [seval, -Int.reducePow, -Nat.reducePow, cC, pv, binv, sArWr1, undef]
      refine hK _ _ ?_
      clear hK K
      refine cv_ret ⟨_, (by simp -implicitDefEqProofs (disch := first | omega | decide) only [seval, -Int.reducePow, -Nat.reducePow, cC, pv, binv, sArWr1, undef]; rfl), fun w hw => ?_⟩
      rw [hF, hno (by omega), ← hF2]
      first | exact ⟨(), rfl, hw.tail⟩ | exact ⟨(), rfl, trivial, hw.tail⟩
    have q2 := Decidable.not_not.1 (nd_false hc)
    rw [if_pos q2] at hF2
    obtain ⟨k, rfl⟩ : ∃ k' : Nat, k = (k' : Int) := ⟨k.toNat, by omega⟩
    have hwr : wrF bs ⟨(o : Int), (q : Int)⟩ (k : Int) l F = splice bs (o + k) l := by unfold wrF; rw [if_pos hF2.symm, show ((⟨(o : Int), (q : Int)⟩ : Ext).off + (k : Int)).toNat = o + k by dsimp only; omega]
    refine cv_skip ?_
    try simp only [blockQ, thenQ]
    refine hK _ _ ?_
    clear hK K
    by_cases hm0 : m = 0
    · obtain rfl : l = [] := List.eq_nil_of_length_eq_zero (by omega)
      refine cv_seq_k fun K hK => ?_
      refine cv_region_then rfl ?_
      simp -implicitDefEqProofs (disch := first | omega | decide) only [seval, -Int.reducePow, -Nat.reducePow, cC, pv, binv, sArWr1, undef]
      refine xv_copy0 tap36 rfl rfl (.inl hm0) ?_
      simp -implicitDefEqProofs (disch := first | omega | decide) only [seval, -Int.reducePow, -Nat.reducePow, cC, pv, binv, sArWr1, undef]
      refine hK _ _ ?_
      clear hK K
      refine cv_seq_k fun K hK => ?_
      refine cv_region_then rfl ?_
      simp -implicitDefEqProofs (disch := first | omega | decide) only [seval, -Int.reducePow, -Nat.reducePow, cC, pv, binv, sArWr1, undef]
      refine hK _ _ ?_
      clear hK K
      refine cv_ret ⟨_, (by simp -implicitDefEqProofs (disch := first | omega | decide) only [seval, -Int.reducePow, -Nat.reducePow, cC, pv, binv, sArWr1, undef]; rfl), fun w hw => ?_⟩
      rw [hF, hwr, splice_nil, ← hF2]
      first | exact ⟨(), rfl, hw.tail⟩ | exact ⟨(), rfl, trivial, hw.tail⟩
    · obtain ⟨a, rfl⟩ : ∃ a, A = some a := by
        obtain ⟨b, off, rfl, -⟩ := hS.cells (by omega)
        exact ⟨_, rfl⟩
      have hsb : sbase (N - o) k 1 (some ⟨bB, o, none⟩) = some ⟨bB, o + k, none⟩ := by rw [sbase_some (by omega), Addr.add_lit]; simp
      have hsp := byt_splice bs (o + k) l
      refine cv_seq_k fun K hK => ?_
      refine cv_region_then rfl ?_
      simp -implicitDefEqProofs (disch := first | omega | decide) only [seval, -Int.reducePow, -Nat.reducePow, cC, pv, binv, sArWr1, undef, hsb]
      refine xv_copy 2 (T := 5) (news := byt l) tap36 rfl rfl rfl (by rw [byt_len, hlm]; exact (Nat.min_eq_left (by omega)).symm) (fun w hw j v hj => by
        obtain ⟨b, off, e, hb, hc⟩ := (hS.keepM (hA (by omega)) hw).cells (by omega)
        cases e
        rw [Addr.add_lit]
        exact hc j v hj) (by rw [byt_len, byt_len]; omega) (ones_byt _) ?_
      simp -implicitDefEqProofs (disch := first | omega | decide) only [seval, -Int.reducePow, -Nat.reducePow, cC, pv, binv, sArWr1, undef, byt_len, hsp]
      refine hK _ _ ?_
      clear hK K
      refine cv_seq_k fun K hK => ?_
      refine cv_region_then rfl ?_
      simp -implicitDefEqProofs (disch := first | omega | decide) only [seval, -Int.reducePow, -Nat.reducePow, cC, pv, binv, sArWr1, undef]
      refine hK _ _ ?_
      clear hK K
      refine cv_ret ⟨_, (by simp -implicitDefEqProofs (disch := first | omega | decide) only [seval, -Int.reducePow, -Nat.reducePow, cC, pv, binv, sArWr1, undef]; rfl), fun w hw => ?_⟩
      rw [hF, hwr, ← hF2]
      first | exact ⟨(), rfl, hw.tail⟩ | exact ⟨(), rfl, trivial, hw.tail⟩
  · rw [if_neg he] at hF2
    refine calls_cv (M := M) (n := 31) [.tmp 8] rfl Try.func15 rfl rfl (Nat.le_of_ble_eq_true rfl)  hst ?_
    refine cv_seq_k fun K hK => ?_
    refine cv_region_then rfl ?_
    simp -implicitDefEqProofs (disch := first | omega | decide) only [seval, -Int.reducePow, -Nat.reducePow, cC, pv, binv, sArWr1, undef]
    intro b5 hb5 hf5
    refine hK _ _ ?_
    clear hK K
    refine cv_seq_k fun K hK => ?_
    refine cv_region_then rfl ?_
    simp -implicitDefEqProofs (disch := first | omega | decide) only [seval, -Int.reducePow, -Nat.reducePow, cC, pv, binv, sArWr1, undef]
    refine callV_ret (fun w hw => arSlice_no ⟨al, bR, bB, N, bs⟩ us w e (ArW.of hw 1 2 3 4 5 rfl rfl rfl rfl rfl (by dsimp only; omega) hbs (by dsimp only; omega)) hI he) ?_
    try simp -implicitDefEqProofs (disch := first | omega | decide) only [seval, -Int.reducePow, -Nat.reducePow, cC, pv, binv, sArWr1, undef]
    refine hK _ _ ?_
    clear hK K
    refine cv_seq_k fun K hK => ?_
    refine cv_seq_k fun K hK => ?_
    refine cv_region_then rfl ?_
    simp -implicitDefEqProofs (disch := first | omega | decide) only [seval, -Int.reducePow, -Nat.reducePow, cC, pv, binv, sArWr1, undef]
    refine hK _ _ ?_
    clear hK K
    refine cv_cond ?_
    simp -implicitDefEqProofs (disch := first | omega | decide) only [seval, -Int.reducePow, -Nat.reducePow, cC, pv, binv, sArWr1, undef]
    refine cv_seq_k fun K hK => ?_
    refine cv_region_then rfl ?_
    simp -implicitDefEqProofs (disch := first | omega | decide) only [seval, -Int.reducePow, -Nat.reducePow, cC, pv, binv, sArWr1, undef]
    refine hK _ _ ?_
    clear hK K
    refine cv_ret ⟨_, (by simp -implicitDefEqProofs (disch := first | omega | decide) only [seval, -Int.reducePow, -Nat.reducePow, cC, pv, binv, sArWr1, undef]; rfl), fun w hw => ?_⟩
    rw [hF, hno (by omega), ← hF2]
    first | exact ⟨(), rfl, hw.tail⟩ | exact ⟨(), rfl, trivial, hw.tail⟩
end Go.Proofs.Ytfaanphjaghbpaa
