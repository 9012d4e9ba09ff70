/- The reference's ledger: what changes it (EndHolder, EndObject, put, Release, Lend). -/
import Derived.Test.YtaifnipgefkemaaZ3
namespace Go.Proofs.Ytaifnipgefkemaa
open Go.RowKit Go.Shelf
set_option linter.unusedVariables false
set_option linter.unusedSimpArgs false
set_option maxRecDepth 100000
structure LgR where
  A : Option Addr
  n : Nat
  c : Nat
  l : List Bw
def lgL (b : Nat) (s0 s1 : Value) (x : LgR) : List Res := [.blk b 78 [s0, s1, .slice x.A x.n x.c], .row (.slice x.A x.n x.c) 82 4 x.n (bwCells x.l)]
theorem LgW.of {M : List Nat} {W w : World} {L : List Res} {b : Nat} {t : TypeId} {s0 s1 : Value} {A : Option Addr} {n c : Nat} {l : List Bw} (hw : St M W L w) (i j : Nat) (hi : nth L i = some (.blk b t [s0, s1, .slice A n c])) (hj : nth L j = some (.row (.slice A n c) 82 4 n (bwCells l))) (hl : l.length ≤ 100000) : LgW w w.heap.size b 2 A n c l := by
  have hr := Sl.of_row hw (nth_mem hj)
  refine ⟨Sl.cell1 (by rw [hw.blk_cell (nth_mem hi)]; rfl) (hw.own _ (nth_mem hi) b (by simp [Res.foot])).2, hr, ?_⟩
  have := hr.len
  rw [bwCells_len] at this
  omega
def ltB (a b : Bw) : Bool := decide (a.ob < b.ob) || (decide (a.ob = b.ob) && decide (a.ho < b.ho))
structure PutOk (e : Bw) (rest out P Q : List Bw) : Prop where
  rest : rest = P ++ Q
  out : out = P ++ e :: Q
  gt : ∀ q ∈ Q, ltB q e = false
  lt : ∀ p, P.getLast? = some p → ltB p e = true
theorem flPut {α : Type} {f : α → List Value} {s : Nat} (hf : ∀ a, (f a).length = s) (P Q : List α) (x y : α) : ((P ++ x :: Q).flatMap f).take (P.length * s) ++ f y ++ ((P ++ x :: Q).flatMap f).drop (P.length * s + s) = (P ++ y :: Q).flatMap f := by
  have h := flLen hf P
  rw [List.flatMap_append, List.flatMap_append, List.take_left' h, ← List.drop_drop, List.drop_left' h, List.flatMap_cons, List.flatMap_cons, List.drop_left' (hf x)]
  simp [List.append_assoc]
theorem nil_snoc {α : Type} (P : List α) : P = [] ∨ ∃ P' p, P = P' ++ [p] := (List.eq_nil_or_concat P).imp id fun ⟨P', p, h⟩ => ⟨P', p, h.trans (List.concat_eq_append ..)⟩
theorem mid_get {α : Type} (P Q : List α) (x : α) : (P ++ x :: Q)[P.length]? = some x := by simp
theorem mid_get2 {α : Type} (P Q : List α) (p x : α) : ((P ++ [p]) ++ x :: Q)[P.length]? = some p := by simp
set_option maxRecDepth 100000 in
theorem sHjB1 : type_of% (And.intro (And.intro @Nat.mul_one @wrap_in) (And.intro @cMv @cM)) := (And.intro (And.intro @Nat.mul_one @wrap_in) (And.intro @cMv @cM))
set_option maxHeartbeats 1000000 in
theorem rEndHolder_any (b : Nat) (s0 s1 : Value) (x : LgR) (ho : Int) (hl : x.l.length ≤ 100000) (W : World) (hst : St (feet (lgL b s0 s1 x)) W (lgL b s0 s1 x) W) :
    Calls Try.prog 74 #[.pointer (some ⟨b, 2, none⟩), .int .i64 ho] W
    fun en w' => ∃ y : LgR, en = .returned (.int .i64 (heldB x.l ho : Int)) ∧ y.l = (x.l.filter fun b => !decide (b.ho = ho)) ∧ St (feet (lgL b s0 s1 x)) W (lgL b s0 s1 y) w' := by
  obtain ⟨M, hM⟩ : ∃ M, feet (lgL b s0 s1 x) = M := ⟨_, rfl⟩
  rw [hM] at hst ⊢
  obtain ⟨A, n, c, l⟩ := x
  unfold lgL at hst
  dsimp only at hst hl ⊢
  clear hM
  have hlen : l.length = n := by have := (Sl.of_row hst (nth_mem (k := 1) rfl)).len; rw [bwCells_len] at this; omega
  refine calls_cv (M := M) (n := 45) [.tmp 4] rfl Try.func74 rfl rfl (Nat.le_of_ble_eq_true rfl)  hst ?_
  refine cv_seq_k fun K hK => ?_
  refine cv_region_then rfl ?_
  simp -implicitDefEqProofs (disch := first | omega | decide) only [seval, -Int.reducePow, -Nat.reducePow, cC, pv, binv, sHjB1, undef]
  refine hK _ _ ?_
  clear hK K
  refine cv_seq_k fun K hK => ?_
  refine cv_region_then rfl ?_
  simp -implicitDefEqProofs (disch := first | omega | decide) only [seval, -Int.reducePow, -Nat.reducePow, cC, pv, binv, sHjB1, undef]
  refine callV_ret (fun w hw => rHeld_any (LgW.of hw 0 1 rfl rfl hl) ho) ?_
  try simp -implicitDefEqProofs (disch := first | omega | decide) only [seval, -Int.reducePow, -Nat.reducePow, cC, pv, binv, sHjB1, undef]
  refine hK _ _ ?_
  clear hK K
  refine cv_seq_k fun K hK => ?_
  refine cv_region_then rfl ?_
  simp -implicitDefEqProofs (disch := first | omega | decide) only [seval, -Int.reducePow, -Nat.reducePow, cC, pv, binv, sHjB1, undef]
  refine hK _ _ ?_
  clear hK K
  refine cv_seq_k fun K hK => ?_
  refine cv_seq_k fun K hK => ?_
  refine cv_region_then rfl ?_
  simp -implicitDefEqProofs (disch := first | omega | decide) only [seval, -Int.reducePow, -Nat.reducePow, cC, pv, binv, sHjB1, undef]
  refine hK _ _ ?_
  clear hK K
  refine cv_gen fun G1 hG => ?_
  have g1_0 := congrFun hG 0
  have g1_1 := congrFun hG 1
  have g1_5 := congrFun hG 5
  have g1_6 := congrFun hG 6
  have g1_7 := congrFun hG 7
  clear hG
  try simp -implicitDefEqProofs (disch := first | omega | decide) only [seval, -Int.reducePow, -Nat.reducePow, cC, pv, binv, sHjB1, undef] at g1_0 g1_1 g1_5 g1_6 g1_7
  have g1 := And.intro g1_0 (And.intro g1_1 (And.intro g1_5 (And.intro g1_6 g1_7)))
  refine cv_nil 82 4 ?_
  refine cv_block ?_
  refine cv_loop (fun F' L' => ∃ (i : Nat) (A1 : Option Addr) (n1 c1 : Nat), F' 0 = G1 0 ∧ F' 1 = G1 1 ∧ F' 5 = G1 5 ∧ F' 6 = .slice A1 n1 c1 ∧ F' 7 = .int .i64 (i : Int) ∧ L' = [.row (.slice A1 n1 c1) 82 4 n1 (bwCells ((l.take i).filter fun b => !decide (b.ho = ho))), .blk b 78 [s0, s1, .slice A n c], .row (.slice A n c) 82 4 n (bwCells l)] ∧ i ≤ n) (fun F' L' => 200000 - (intOf (F' 7)).toNat) ?_ ?_
  · refine ⟨0, none, 0, 0, ?_⟩
    simp -implicitDefEqProofs (disch := first | omega | decide) only [seval, -Int.reducePow, -Nat.reducePow, cC, pv, binv, sHjB1, undef, g1]
    exact ⟨rfl, Nat.zero_le _⟩
  intro G2 L' hI
  obtain ⟨i, A1, n1, c1, q0, q1, q5, q6, q7, rfl, hi⟩ := hI
  have g2_0 := q0.trans g1_0
  have g2_1 := q1.trans g1_1
  have g2_5 := q5.trans g1_5
  have g2_6 := q6
  have g2_7 := q7
  clear q0 q1 q5 q6 q7
  have g2 := And.intro g2_0 (And.intro g2_1 (And.intro g2_5 (And.intro g2_6 g2_7)))
  refine cv_seq_k fun K hK => ?_
  refine cv_seq_k fun K hK => ?_
  refine cv_region_then rfl ?_
  simp -implicitDefEqProofs (disch := first | omega | decide) only [seval, -Int.reducePow, -Nat.reducePow, cC, pv, binv, sHjB1, undef, g1, g2]
  refine hK _ _ ?_
  clear hK K
  refine cv_cond ?_
  simp -implicitDefEqProofs (disch := first | omega | decide) only [seval, -Int.reducePow, -Nat.reducePow, cC, pv, binv, sHjB1, undef, g1, g2]
  refine ⟨fun hc => ?_, fun hc => ?_⟩
  · refine cv_skip ?_
    try simp only [blockQ, thenQ]
    have hit : i < n := by have := of_decide_eq_true ‹decide ((i : Int) < (n : Int)) = true›; omega
    obtain ⟨e, he⟩ : ∃ e, l[i]? = some e := ⟨_, List.getElem?_eq_getElem (by omega)⟩
    have hld := flAt bwc_len he
    have hfs := filter_step he (fun b => !decide (b.ho = ho))
    refine hK _ _ ?_
    clear hK K
    refine cv_len 0 rfl fun hlA => ?_
    have hn1 : n1 ≤ 100000 := by
      rw [bwCells_len] at hlA
      have h1 : ((l.take i).filter fun b => !decide (b.ho = ho)).length ≤ (l.take i).length := List.length_filter_le _ _
      rw [List.length_take] at h1
      omega
    refine cv_rowA 2 rfl (by omega) fun g hAA hg hNN => ?_
    subst hAA
    simp only [List.eraseIdx_cons_zero, List.eraseIdx_cons_succ, neB_nil, neB_blk, neB_row, neB_snap, and_true, List.not_mem_nil, or_false, sHjB1, undef] at hNN hg
    replace hg := And.intro hg hNN
    clear hNN
    refine cv_seq_k fun K hK => ?_
    refine cv_block ?_
    refine cv_seq_k fun K hK => ?_
    refine cv_region_then rfl ?_
    simp -implicitDefEqProofs (disch := first | omega | decide) only [seval, -Int.reducePow, -Nat.reducePow, cC, pv, binv, sHjB1, undef, g1, g2]
    refine ⟨_, ld_row1 (i := i * 4 + 1) (v := .int .i64 e.ho) (.tail _ (.tail _ (.head _))) rfl (flGet bwc_len he (by omega)), fun tok htok => ?_⟩
    subst htok
    simp -implicitDefEqProofs (disch := first | omega | decide) only [seval, -Int.reducePow, -Nat.reducePow, cC, pv, binv, sHjB1, undef, g1, g2]
    refine hK _ _ ?_
    clear hK K
    refine cv_cond ?_
    by_cases he1 : e.ho = ho
    · have hof : ((l.take (i + 1)).filter fun b => !decide (b.ho = ho)) = ((l.take i).filter fun b => !decide (b.ho = ho)) := by rw [hfs]; simp [he1]
      simp -implicitDefEqProofs (disch := first | omega | decide) only [seval, -Int.reducePow, -Nat.reducePow, cC, pv, binv, sHjB1, undef, he1, g1, g2]
      refine cv_skip ?_
      try simp only [blockQ, thenQ]
      refine hK _ _ ?_
      clear hK K
      refine cv_region_then rfl ?_
      simp -implicitDefEqProofs (disch := first | omega | decide) only [seval, -Int.reducePow, -Nat.reducePow, cC, pv, binv, sHjB1, undef, g1, g2]
      refine ⟨⟨i + 1, A1, n1, c1, ?_⟩, ?_⟩
      · rw [hof]
        simp -implicitDefEqProofs (disch := first | omega | decide) only [seval, -Int.reducePow, -Nat.reducePow, cC, pv, binv, sHjB1, undef, Int.natCast_add, g1, g2]
        omega
      · simp only [intOf]; omega
    · have hof : ((l.take (i + 1)).filter fun b => !decide (b.ho = ho)) = ((l.take i).filter fun b => !decide (b.ho = ho)) ++ [e] := by rw [hfs]; simp [he1]
      simp -implicitDefEqProofs (disch := first | omega | decide) only [seval, -Int.reducePow, -Nat.reducePow, cC, pv, binv, sHjB1, undef, he1, g1, g2]
      refine cv_pick_post [0, 2, 3] (by decide) ?_
      refine cv_region_q rfl ?_
      simp -implicitDefEqProofs (disch := first | omega | decide) only [seval, -Int.reducePow, -Nat.reducePow, cC, pv, binv, sHjB1, undef, g1, g2]
      refine ⟨_, ld_row (i := i * 4) (vs := bwc e) (.tail _ (.tail _ (.head _))) (by kernel_rfl) hld, fun tok htok => ?_⟩
      subst htok
      simp -implicitDefEqProofs (disch := first | omega | decide) only [seval, -Int.reducePow, -Nat.reducePow, cC, pv, binv, sHjB1, undef, g1, g2]
      simp only [bwc, List.length_cons, List.length_nil, true_and]
      simp -implicitDefEqProofs (disch := first | omega | decide) only [seval, -Int.reducePow, -Nat.reducePow, cC, pv, binv, sHjB1, undef, g1, g2]
      intro bE hbE hfE
      refine appV_at 1 tap41 rfl (fun w hw => src_blk (size := 4) (.head _) rfl hw) rfl (by omega) (by omega) ?_
      intro A2 c2 hl2 hr2
      simp -implicitDefEqProofs (disch := first | omega | decide) only [seval, -Int.reducePow, -Nat.reducePow, cC, pv, binv, sHjB1, undef, g1, g2]
      refine hK _ _ ?_
      clear hK K
      refine cv_region_then rfl ?_
      simp -implicitDefEqProofs (disch := first | omega | decide) only [seval, -Int.reducePow, -Nat.reducePow, cC, pv, binv, sHjB1, undef, g1, g2]
      refine ⟨⟨i + 1, A2, n1 + 1, c2, ?_⟩, ?_⟩
      · rw [hof, bwCells_snoc]
        simp -implicitDefEqProofs (disch := first | omega | decide) only [seval, -Int.reducePow, -Nat.reducePow, cC, pv, binv, sHjB1, undef, Int.natCast_add, g1, g2]
        omega
      · simp only [intOf]; omega
  refine cv_exit ?_
  simp only [blockQ, thenQ, if_true, ite_true]
  clear hK K
  refine hK _ _ ?_
  clear hK K
  have hin : i = n := by have := of_decide_eq_false ‹decide ((i : Int) < (n : Int)) = false›; omega
  subst hin
  rw [List.take_of_length_le (by omega)]
  refine cv_seq_k fun K hK => ?_
  refine cv_region_then rfl ?_
  simp -implicitDefEqProofs (disch := first | omega | decide) only [seval, -Int.reducePow, -Nat.reducePow, cC, pv, binv, sHjB1, undef, g1, g2]
  refine hK _ _ ?_
  clear hK K
  refine cv_seq_k fun K hK => ?_
  refine cv_region_then rfl ?_
  simp -implicitDefEqProofs (disch := first | omega | decide) only [seval, -Int.reducePow, -Nat.reducePow, cC, pv, binv, sHjB1, undef, g1, g2]
  refine hK _ _ ?_
  clear hK K
  refine cv_ret ⟨_, (by simp -implicitDefEqProofs (disch := first | omega | decide) only [seval, -Int.reducePow, -Nat.reducePow, cC, pv, binv, sHjB1, undef, g1, g2]; rfl), fun w hw => ?_⟩
  have h9 := hw.pick (ix := [1, 0]) (by decide)
  simp only [pickL, nth] at h9
  exact ⟨⟨A1, n1, c1, _⟩, rfl, rfl, h9⟩
set_option maxHeartbeats 2000000 in
theorem rPut_any (b : Nat) (s0 s1 : Value) (x : LgR) (e : Bw) (hl : x.l.length ≤ 100000) (W : World) (hst : St (feet (lgL b s0 s1 x)) W (lgL b s0 s1 x) W) :
    Calls Try.prog 91 #[.pointer (some ⟨b, 2, none⟩), bwV e] W
    fun en w' => ∃ y : LgR, en = .returned (.tuple #[]) ∧ (∃ P Q, PutOk e (wtoB x.l e.ob e.ho) y.l P Q) ∧ St (feet (lgL b s0 s1 x)) W (lgL b s0 s1 y) w' := by
  obtain ⟨M, hM⟩ : ∃ M, feet (lgL b s0 s1 x) = M := ⟨_, rfl⟩
  rw [hM] at hst ⊢
  obtain ⟨A, n, c, l⟩ := x
  unfold lgL at hst
  dsimp only at hst hl ⊢
  clear hM
  obtain ⟨l0, hl0⟩ : ∃ l0, wtoB l e.ob e.ho = l0 := ⟨_, rfl⟩
  have hl0l : l0.length ≤ 100000 := by
    have h1 : (wtoB l e.ob e.ho).length ≤ l.length := List.length_filter_le _ _
    rw [hl0] at h1
    omega
  rw [hl0]
  refine calls_cv (M := M) (n := 82) [] rfl Try.func91 rfl rfl (Nat.le_of_ble_eq_true rfl)  hst ?_
  refine cv_seq_k fun K hK => ?_
  refine cv_region_then rfl ?_
  simp -implicitDefEqProofs (disch := first | omega | decide) only [seval, -Int.reducePow, -Nat.reducePow, cC, pv, binv, sHjB1, undef, bwV]
  intro b3 hb3 hf3
  refine hK _ _ ?_
  clear hK K
  refine cv_gen fun G3 hG => ?_
  have g3_0 := congrFun hG 0
  have g3_3 := congrFun hG 3
  clear hG
  try simp -implicitDefEqProofs (disch := first | omega | decide) only [seval, -Int.reducePow, -Nat.reducePow, cC, pv, binv, sHjB1, undef] at g3_0 g3_3
  have g3 := And.intro g3_0 g3_3
  refine cv_seq_k fun K hK => ?_
  refine cv_cut (fun _ _ => True) (fun F' L' => ∃ (A2 : Option Addr) (n2 c2 : Nat), F' 0 = G3 0 ∧ F' 4 = .slice A2 n2 c2 ∧ L' = [.row (.slice A2 n2 c2) 82 4 n2 (bwCells (l0 ++ [e])), .blk b 78 [s0, s1, .slice A n c]] ∧ n2 = l0.length + 1) ?_ ?_
  · refine cv_more [0] (by decide) (by simp only [pickL, nth, suf_cons, suf_nil, List.mem_cons, true_or, or_true, and_true, eq_self]) (.rd 0 (.rd 1 (.rd 2 (.rd 3 (.rd 4 (.rd 6 (.more 5 (.act 7 (.act 8 (.rd 9 (.done)))) (.act 7 (.act 5 (.act 8 (.rd 9 (.done)))))))))))) [] mixA rfl (by kernel_rfl) (by kernel_rfl) (by kernel_rfl) (by kernel_rfl) ?_
    simp only [pickL, nth]
    simp -implicitDefEqProofs (disch := first | omega | decide) only [seval, -Int.reducePow, -Nat.reducePow, cC, pv, binv, sHjB1, undef, g3]
    refine And.intro ?_ ?_
    · refine callV_row (fun A n c => .slice A n c) (fun w hw => (hl0 ▸ rWithout_any (LgW.of hw 1 2 rfl rfl hl) e.ob e.ho)) ?_
      intro A1 n1 c1 hl1 hr1
      have hn1 : l0.length = n1 := by rw [bwCells_len] at hl1; omega
      simp -implicitDefEqProofs (disch := first | omega | decide) only [seval, -Int.reducePow, -Nat.reducePow, cC, pv, binv, sHjB1, undef, g3]
      intro bE hbE hfE
      refine appV_at 1 tap41 rfl (fun w hw => src_blk (size := 4) (.head _) rfl hw) rfl (by omega) (by omega) ?_
      intro A2 c2 hl2 hr2
      simp -implicitDefEqProofs (disch := first | omega | decide) only [seval, -Int.reducePow, -Nat.reducePow, cC, pv, binv, sHjB1, undef, g3]
      refine ⟨[0, 3], by decide, ?_⟩
      simp only [pickL, nth]
      refine ⟨A2, n1 + 1, c2, ?_⟩
      rw [bwCells_snoc]
      simp -implicitDefEqProofs (disch := first | omega | decide) only [seval, -Int.reducePow, -Nat.reducePow, cC, pv, binv, sHjB1, undef, g3]
      omega
    · intro bE hbE hfE
      refine callV_row (fun A n c => .slice A n c) (fun w hw => (hl0 ▸ rWithout_any (LgW.of hw 2 3 rfl rfl hl) e.ob e.ho)) ?_
      intro A1 n1 c1 hl1 hr1
      have hn1 : l0.length = n1 := by rw [bwCells_len] at hl1; omega
      simp -implicitDefEqProofs (disch := first | omega | decide) only [seval, -Int.reducePow, -Nat.reducePow, cC, pv, binv, sHjB1, undef, g3]
      refine appV_at 0 tap41 rfl (fun w hw => src_blk (size := 4) (.tail _ (.head _)) rfl hw) rfl (by omega) (by omega) ?_
      intro A2 c2 hl2 hr2
      simp -implicitDefEqProofs (disch := first | omega | decide) only [seval, -Int.reducePow, -Nat.reducePow, cC, pv, binv, sHjB1, undef, g3]
      refine ⟨[0, 3], by decide, ?_⟩
      simp only [pickL, nth]
      refine ⟨A2, n1 + 1, c2, ?_⟩
      rw [bwCells_snoc]
      simp -implicitDefEqProofs (disch := first | omega | decide) only [seval, -Int.reducePow, -Nat.reducePow, cC, pv, binv, sHjB1, undef, g3]
      omega
  intro G4 L' _ hF
  obtain ⟨A2, n2, c2, q0, q4, rfl, hn2⟩ := hF
  have g4_0 := q0.trans g3_0
  have g4_4 := q4
  clear q0 q4
  have g4 := And.intro g4_0 g4_4
  refine hK _ _ ?_
  clear hK K
  refine cv_seq_k fun K hK => ?_
  refine cv_seq_k fun K hK => ?_
  refine cv_region_then rfl ?_
  simp -implicitDefEqProofs (disch := first | omega | decide) only [seval, -Int.reducePow, -Nat.reducePow, cC, pv, binv, sHjB1, undef, g4]
  refine hK _ _ ?_
  clear hK K
  refine cv_gen fun G5 hG => ?_
  have g5_0 := congrFun hG 0
  have g5_4 := congrFun hG 4
  have g5_5 := congrFun hG 5
  clear hG
  try simp -implicitDefEqProofs (disch := first | omega | decide) only [seval, -Int.reducePow, -Nat.reducePow, cC, pv, binv, sHjB1, undef, g4] at g5_0 g5_4 g5_5
  have g5 := And.intro g5_0 (And.intro g5_4 g5_5)
  refine cv_rowA 0 rfl (by omega) fun g hAA hg hNN => ?_
  subst hAA
  simp only [List.eraseIdx_cons_zero, List.eraseIdx_cons_succ, neB_nil, neB_blk, neB_row, neB_snap, and_true, List.not_mem_nil, or_false, sHjB1, undef] at hNN hg
  replace hg := And.intro hg hNN
  clear hNN
  refine cv_block ?_
  refine cv_loop (fun F' L' => ∃ (k : Nat) (P Q : List Bw), F' 0 = G5 0 ∧ F' 4 = G5 4 ∧ F' 5 = .int .i64 (k : Int) ∧ L' = [.row (.slice (some ⟨g, 0, none⟩) n2 c2) 82 4 n2 (bwCells (P ++ e :: Q)), .blk b 78 [s0, s1, .slice A n c]] ∧ k = P.length ∧ l0 = P ++ Q ∧ ∀ q ∈ Q, ltB q e = false) (fun F' L' => (intOf (F' 5)).toNat) ?_ ?_
  · refine ⟨l0.length, l0, [], ?_⟩
    simp -implicitDefEqProofs (disch := first | omega | decide) only [seval, -Int.reducePow, -Nat.reducePow, cC, pv, binv, sHjB1, undef, hn2, Int.natCast_add, g5]
    exact ⟨congrArg (Value.int _) (by omega), fun q hq => by cases hq⟩
  intro G6 L' hI
  obtain ⟨k, P, Q, q0, q4, q5, rfl, ⟨hk, hPQ, hQ⟩⟩ := hI
  have g6_0 := q0.trans g5_0
  have g6_4 := q4.trans g5_4
  have g6_5 := q5
  clear q0 q4 q5
  have g6 := And.intro g6_0 (And.intro g6_4 g6_5)
  have hPl : P.length + Q.length = l0.length := by rw [hPQ, List.length_append]
  refine cv_seq_k fun K hK => ?_
  refine cv_seq_k fun K hK => ?_
  refine cv_region_then rfl ?_
  simp -implicitDefEqProofs (disch := first | omega | decide) only [seval, -Int.reducePow, -Nat.reducePow, cC, pv, binv, sHjB1, undef, g5, g6]
  refine hK _ _ ?_
  clear hK K
  refine cv_cond ?_
  simp -implicitDefEqProofs (disch := first | omega | decide) only [seval, -Int.reducePow, -Nat.reducePow, cC, pv, binv, sHjB1, undef, g5, g6]
  refine ⟨fun hc => ?_, fun hc => ?_⟩
  case refine_2 =>
    have hk0 : P = [] := List.eq_nil_of_length_eq_zero (by have := of_decide_eq_false hc; omega)
    subst hk0
    refine cv_exit ?_
    simp only [blockQ, thenQ, if_true, ite_true]
    clear hK K
    refine hK _ _ ?_
    clear hK K
    refine cv_region_q rfl ?_
    simp -implicitDefEqProofs (disch := first | omega | decide) only [seval, -Int.reducePow, -Nat.reducePow, cC, pv, binv, sHjB1, undef, g5, g6]
    refine ⟨_, rfl, fun w hw => ?_⟩
    have h9 := hw.pick (ix := [1, 0]) (by decide)
    simp only [pickL, nth] at h9
    exact ⟨⟨some ⟨g, 0, none⟩, n2, c2, _⟩, rfl, ⟨[], Q, hPQ, rfl, hQ, fun q hq => by simp at hq⟩, h9⟩
  have hkp := of_decide_eq_true hc
  rcases nil_snoc P with rfl | ⟨P', p, rfl⟩
  · simp at hk; omega
  have hk2 : k = P'.length + 1 := by simpa using hk
  have ek : IntKind.i64.wrap ((k : Int) - 1) = (P'.length : Int) := by rw [wrap_in (by omega) (by omega)]; omega
  have hP2 : P'.length < n2 ∧ k < n2 := by simp at hPl; omega
  refine cv_skip ?_
  try simp only [blockQ, thenQ]
  refine hK _ _ ?_
  clear hK K
  refine cv_seq_k fun K hK => ?_
  refine cv_block ?_
  refine cv_seq_k fun K hK => ?_
  refine cv_seq_k fun K hK => ?_
  refine cv_cut (fun _ _ => True) (fun F' L' => F' 0 = G6 0 ∧ F' 4 = G6 4 ∧ F' 5 = G6 5 ∧ F' 61 = .bool (ltB p e) ∧ L' = [.row (.slice (some ⟨g, 0, none⟩) n2 c2) 82 4 n2 (bwCells ((P' ++ [p]) ++ e :: Q)), .blk b 78 [s0, s1, .slice A n c]]) ?_ ?_
  · have r1 : ((P' ++ [p]) ++ e :: Q)[P'.length]? = some p := mid_get2 P' Q p e
    have r2 : ((P' ++ [p]) ++ e :: Q)[k]? = some e := by
      have := mid_get (P' ++ [p]) Q e
      rwa [← hk] at this
    have q10 := flGet (k := 0) bwc_len r1 (by omega)
    have q11 := flGet (k := 1) bwc_len r1 (by omega)
    have q20 := flGet (k := 0) bwc_len r2 (by omega)
    have q21 := flGet (k := 1) bwc_len r2 (by omega)
    obtain ⟨E, hE1⟩ : ∃ E, bwCells ((P' ++ [p]) ++ e :: Q) = E := ⟨_, rfl⟩
    rw [hE1]
    rw [← bwCells, hE1] at q10 q11 q20 q21
    refine cv_draw [(true, 0), (true, 1), (true, 2), (true, 3), (true, 4), (true, 5), (true, 6), (true, 7), (true, 8), (true, 9), (true, 10), (true, 11), (true, 12), (true, 13), (true, 14), (true, 15), (true, 16), (true, 17), (true, 18), (true, 19), (true, 20), (true, 21), (true, 22), (true, 23), (true, 24), (true, 25), (true, 26), (true, 27), (true, 28), (true, 29), (true, 30), (true, 31), (true, 32), (true, 33), (true, 34), (true, 35), (true, 36), (true, 37), (true, 38), (true, 39)] [] mixA rfl (by kernel_rfl) (by kernel_rfl) rfl rfl ?_
    simp -implicitDefEqProofs (disch := first | omega | decide) only [seval, -Int.reducePow, -Nat.reducePow, cC, pv, binv, sHjB1, undef, ek, g5, g6]
    refine ⟨_, ld_row1 (m := 1) (v := .int .i64 p.ob) (i := P'.length * 4 + 0) (.head _) rfl q10, fun tok htok => ?_⟩
    subst htok
    simp -implicitDefEqProofs (disch := first | omega | decide) only [seval, -Int.reducePow, -Nat.reducePow, cC, pv, binv, sHjB1, undef, ek, g5, g6]
    refine ⟨_, ld_row1 (m := 1) (v := .int .i64 e.ob) (i := k * 4 + 0) (.head _) rfl q20, fun tok htok => ?_⟩
    subst htok
    simp -implicitDefEqProofs (disch := first | omega | decide) only [seval, -Int.reducePow, -Nat.reducePow, cC, pv, binv, sHjB1, undef, ek, g5, g6]
    by_cases c1 : p.ob < e.ob
    · simp -implicitDefEqProofs (disch := first | omega | decide) only [seval, -Int.reducePow, -Nat.reducePow, cC, pv, binv, sHjB1, undef, c1, g5, g6]
      unfold ltB
      simp [c1]
    simp -implicitDefEqProofs (disch := first | omega | decide) only [seval, -Int.reducePow, -Nat.reducePow, cC, pv, binv, sHjB1, undef, c1, ek, g5, g6]
    refine ⟨_, ld_row1 (m := 1) (v := .int .i64 p.ob) (i := P'.length * 4 + 0) (.head _) rfl q10, fun tok htok => ?_⟩
    subst htok
    simp -implicitDefEqProofs (disch := first | omega | decide) only [seval, -Int.reducePow, -Nat.reducePow, cC, pv, binv, sHjB1, undef, ek, c1, g5, g6]
    refine ⟨_, ld_row1 (m := 1) (v := .int .i64 e.ob) (i := k * 4 + 0) (.head _) rfl q20, fun tok htok => ?_⟩
    subst htok
    simp -implicitDefEqProofs (disch := first | omega | decide) only [seval, -Int.reducePow, -Nat.reducePow, cC, pv, binv, sHjB1, undef, ek, c1, g5, g6]
    by_cases c2 : p.ob = e.ob
    · have c2' : decide (p.ob = e.ob) = true := decide_eq_true c2
      simp -implicitDefEqProofs (disch := first | omega | decide) only [seval, -Int.reducePow, -Nat.reducePow, cC, pv, binv, sHjB1, undef, c1, c2', ek, g5, g6]
      refine ⟨_, ld_row1 (m := 1) (v := .int .i64 p.ho) (i := P'.length * 4 + 1) (.head _) rfl q11, fun tok htok => ?_⟩
      subst htok
      simp -implicitDefEqProofs (disch := first | omega | decide) only [seval, -Int.reducePow, -Nat.reducePow, cC, pv, binv, sHjB1, undef, ek, c1, c2', g5, g6]
      refine ⟨_, ld_row1 (m := 1) (v := .int .i64 e.ho) (i := k * 4 + 1) (.head _) rfl q21, fun tok htok => ?_⟩
      subst htok
      simp -implicitDefEqProofs (disch := first | omega | decide) only [seval, -Int.reducePow, -Nat.reducePow, cC, pv, binv, sHjB1, undef, ek, c1, c2', g5, g6]
      unfold ltB
      simp [c2]
    simp -implicitDefEqProofs (disch := first | omega | decide) only [seval, -Int.reducePow, -Nat.reducePow, cC, pv, binv, sHjB1, undef, c1, c2, g5, g6]
    unfold ltB
    simp [c1, c2]
  intro G7 L' _ hF
  obtain ⟨q0, q4, q5, q61, rfl⟩ := hF
  have g7_0 := q0.trans g6_0
  have g7_4 := q4.trans g6_4
  have g7_5 := q5.trans g6_5
  have g7_61 := q61
  clear q0 q4 q5 q61
  have g7 := And.intro g7_0 (And.intro g7_4 (And.intro g7_5 g7_61))
  refine hK _ _ ?_
  clear hK K
  refine cv_cond ?_
  cases hlt : ltB p e with
  | true =>
    simp -implicitDefEqProofs (disch := first | omega | decide) only [seval, -Int.reducePow, -Nat.reducePow, cC, pv, binv, sHjB1, undef, hlt, g5, g6, g7]
    refine cv_exit ?_
    simp only [blockQ, thenQ]
    rw [if_neg (by decide)]
    simp only [if_true]
    clear hK K
    clear hK K
    refine hK _ _ ?_
    clear hK K
    refine cv_region_q rfl ?_
    simp -implicitDefEqProofs (disch := first | omega | decide) only [seval, -Int.reducePow, -Nat.reducePow, cC, pv, binv, sHjB1, undef, g5, g6, g7]
    refine ⟨_, rfl, fun w hw => ?_⟩
    have h9 := hw.pick (ix := [1, 0]) (by decide)
    simp only [pickL, nth] at h9
    exact ⟨⟨some ⟨g, 0, none⟩, n2, c2, _⟩, rfl, ⟨P' ++ [p], Q, hPQ, rfl, hQ, fun q hq => by simp at hq; exact hq ▸ hlt⟩, h9⟩
  | false =>
    simp -implicitDefEqProofs (disch := first | omega | decide) only [seval, -Int.reducePow, -Nat.reducePow, cC, pv, binv, sHjB1, undef, hlt, g5, g6, g7]
    refine cv_skip ?_
    try simp only [blockQ, thenQ]
    refine hK _ _ ?_
    clear hK K
    have r1 : ((P' ++ [p]) ++ e :: Q)[P'.length]? = some p := mid_get2 P' Q p e
    have r2 : ((P' ++ [p]) ++ e :: Q)[k]? = some e := by
      have := mid_get (P' ++ [p]) Q e
      rwa [← hk] at this
    have q3 := flAt bwc_len r1
    have q4 := flAt bwc_len r2
    have hQ2 : ∀ q ∈ p :: Q, ltB q e = false := fun q hq => by
      rcases List.mem_cons.1 hq with rfl | hq
      · exact hlt
      · exact hQ q hq
    obtain ⟨E, hE1⟩ : ∃ E, bwCells ((P' ++ [p]) ++ e :: Q) = E := ⟨_, rfl⟩
    obtain ⟨E1, hE2⟩ : ∃ E1, bwCells (P' ++ e :: e :: Q) = E1 := ⟨_, rfl⟩
    rw [hE1]
    rw [← bwCells, hE1] at q3 q4
    have w1 : E.take (P'.length * 4) ++ [Value.int .i64 e.ob, .int .i64 e.ho, .int .i64 e.mo, .int .i64 e.co] ++ E.drop (P'.length * 4 + 4) = E1 := by
      have := flPut bwc_len P' (e :: Q) p e
      rw [show P' ++ p :: e :: Q = (P' ++ [p]) ++ e :: Q by simp, ← bwCells, ← bwCells, hE1, hE2] at this
      exact this
    have w2 : E1.take (k * 4) ++ [Value.int .i64 p.ob, .int .i64 p.ho, .int .i64 p.mo, .int .i64 p.co] ++ E1.drop (k * 4 + 4) = bwCells (P' ++ e :: p :: Q) := by
      have := flPut bwc_len (P' ++ [e]) Q e p
      rw [show (P' ++ [e]).length = k by simp; omega, show (P' ++ [e]) ++ e :: Q = P' ++ e :: e :: Q by simp, show (P' ++ [e]) ++ p :: Q = P' ++ e :: p :: Q by simp, ← bwCells, ← bwCells, hE2] at this
      exact this
    have l1 : E.length = n2 * 4 := by rw [← hE1, bwCells_len]; simp at hPl ⊢; omega
    have l2 : E1.length = n2 * 4 := by rw [← hE2, bwCells_len]; simp at hPl ⊢; omega
    refine cv_q ?_
    refine cv_more [] (by decide) (by simp only [pickL, nth, suf_cons, suf_nil, List.mem_cons, true_or, or_true, and_true, eq_self]) (.rd 0 (.rd 1 (.rd 2 (.rd 3 (.rd 4 (.rd 5 (.rd 6 (.rd 7 (.rd 9 (.rd 10 (.rd 11 (.rd 12 (.more 8 (.act 13 (.rd 14 (.act 15 (.rd 16 (.act 17 (.done)))))) (.act 13 (.act 8 (.rd 14 (.act 15 (.rd 16 (.act 17 (.done)))))))))))))))))))) [17] mixA rfl (by kernel_rfl) (by kernel_rfl) (by kernel_rfl) (by kernel_rfl) ?_
    simp only [pickL, nth]
    simp -implicitDefEqProofs (disch := first | omega | decide) only [seval, -Int.reducePow, -Nat.reducePow, cC, pv, binv, sHjB1, undef, ek, g5, g6, g7]
    refine ⟨?_, ?_⟩
    · refine ⟨_, ld_row (i := k * 4) (vs := [.int .i64 e.ob, .int .i64 e.ho, .int .i64 e.mo, .int .i64 e.co]) (.head _) (by kernel_rfl) q4, fun tok htok => ?_⟩
      subst htok
      simp -implicitDefEqProofs (disch := first | omega | decide) only [seval, -Int.reducePow, -Nat.reducePow, cC, pv, binv, sHjB1, undef, ek, g5, g6, g7]
      refine ⟨_, ld_row (i := P'.length * 4) (vs := [.int .i64 p.ob, .int .i64 p.ho, .int .i64 p.mo, .int .i64 p.co]) (.head _) (by kernel_rfl) q3, fun tok htok => ?_⟩
      subst htok
      simp -implicitDefEqProofs (disch := first | omega | decide) only [seval, -Int.reducePow, -Nat.reducePow, cC, pv, binv, sHjB1, undef, ek, g5, g6, g7]
      refine ⟨_, sv_rows 0 (i := P'.length * 4) (vs := [.int .i64 e.ob, .int .i64 e.ho, .int .i64 e.mo, .int .i64 e.co]) rfl (by rw [l1]; show _ + 4 ≤ _; omega) (by kernel_rfl) rfl, fun tok htok => ?_⟩
      subst htok
      simp -implicitDefEqProofs (disch := first | omega | decide) only [seval, -Int.reducePow, -Nat.reducePow, cC, pv, binv, sHjB1, undef, w1, ek, g5, g6, g7]
      refine ⟨_, sv_rows 0 (i := k * 4) (vs := [.int .i64 p.ob, .int .i64 p.ho, .int .i64 p.mo, .int .i64 p.co]) rfl (by rw [l2]; show _ + 4 ≤ _; omega) (by kernel_rfl) rfl, fun tok htok => ?_⟩
      subst htok
      simp -implicitDefEqProofs (disch := first | omega | decide) only [seval, -Int.reducePow, -Nat.reducePow, cC, pv, binv, sHjB1, undef, w2, ek, g5, g6, g7]
      refine ⟨[0, 1], by decide, ?_⟩
      simp only [pickL, nth]
      refine hK _ _ ?_
      clear hK K
      refine cv_region_then rfl ?_
      simp -implicitDefEqProofs (disch := first | omega | decide) only [seval, -Int.reducePow, -Nat.reducePow, cC, pv, binv, sHjB1, undef, ek, g5, g6, g7]
      refine ⟨⟨P'.length, P', p :: Q, ?_⟩, ?_⟩
      · simp -implicitDefEqProofs (disch := first | omega | decide) only [seval, -Int.reducePow, -Nat.reducePow, cC, pv, binv, sHjB1, undef, g5, g6, g7]
        exact ⟨by rw [hPQ]; simp, fun q hq => hQ2 q (by simpa using hq)⟩
      · simp only [intOf]; omega
    · refine ⟨_, ld_row (i := P'.length * 4) (vs := [.int .i64 p.ob, .int .i64 p.ho, .int .i64 p.mo, .int .i64 p.co]) (.head _) (by kernel_rfl) q3, fun tok htok => ?_⟩
      subst htok
      simp -implicitDefEqProofs (disch := first | omega | decide) only [seval, -Int.reducePow, -Nat.reducePow, cC, pv, binv, sHjB1, undef, ek, g5, g6, g7]
      refine ⟨_, ld_row (i := k * 4) (vs := [.int .i64 e.ob, .int .i64 e.ho, .int .i64 e.mo, .int .i64 e.co]) (.head _) (by kernel_rfl) q4, fun tok htok => ?_⟩
      subst htok
      simp -implicitDefEqProofs (disch := first | omega | decide) only [seval, -Int.reducePow, -Nat.reducePow, cC, pv, binv, sHjB1, undef, ek, g5, g6, g7]
      refine ⟨_, sv_rows 0 (i := P'.length * 4) (vs := [.int .i64 e.ob, .int .i64 e.ho, .int .i64 e.mo, .int .i64 e.co]) rfl (by rw [l1]; show _ + 4 ≤ _; omega) (by kernel_rfl) rfl, fun tok htok => ?_⟩
      subst htok
      simp -implicitDefEqProofs (disch := first | omega | decide) only [seval, -Int.reducePow, -Nat.reducePow, cC, pv, binv, sHjB1, undef, w1, ek, g5, g6, g7]
      refine ⟨_, sv_rows 0 (i := k * 4) (vs := [.int .i64 p.ob, .int .i64 p.ho, .int .i64 p.mo, .int .i64 p.co]) rfl (by rw [l2]; show _ + 4 ≤ _; omega) (by kernel_rfl) rfl, fun tok htok => ?_⟩
      subst htok
      simp -implicitDefEqProofs (disch := first | omega | decide) only [seval, -Int.reducePow, -Nat.reducePow, cC, pv, binv, sHjB1, undef, w2, ek, g5, g6, g7]
      refine ⟨[0, 1], by decide, ?_⟩
      simp only [pickL, nth]
      refine hK _ _ ?_
      clear hK K
      refine cv_region_then rfl ?_
      simp -implicitDefEqProofs (disch := first | omega | decide) only [seval, -Int.reducePow, -Nat.reducePow, cC, pv, binv, sHjB1, undef, ek, g5, g6, g7]
      refine ⟨⟨P'.length, P', p :: Q, ?_⟩, ?_⟩
      · simp -implicitDefEqProofs (disch := first | omega | decide) only [seval, -Int.reducePow, -Nat.reducePow, cC, pv, binv, sHjB1, undef, g5, g6, g7]
        exact ⟨by rw [hPQ]; simp, fun q hq => hQ2 q (by simpa using hq)⟩
      · simp only [intOf]; omega
def tupU (_ : LgR) : Value := .tuple #[]
theorem cutB_step {l : List Bw} {ob ho : Int} {p : Bw → Bool} : wtoB (l.filter p) ob ho = l.filter fun b => p b && !isB ob ho b := by
  unfold wtoB
  rw [List.filter_filter]
  exact List.filter_congr fun b _ => Bool.and_comm _ _
def endV3 (i : (Option Addr × Nat × Nat) × LgR) : Value := .slice i.1.1 i.1.2.1 i.1.2.2
def cutP (l : List Bw) (ob : Int) (i : Nat) (b : Bw) : Bool := !(decide (b.ob = ob) && ((ofB l ob).take i).any fun o => decide (o.ho = b.ho))
set_option maxHeartbeats 1000000 in
theorem rEndObject_any (b : Nat) (s0 s1 : Value) (x : LgR) (ob : Int) (hl : x.l.length ≤ 100000) (W : World) (hst : St (feet (lgL b s0 s1 x)) W (lgL b s0 s1 x) W) :
    Calls Try.prog 88 #[.pointer (some ⟨b, 2, none⟩), .int .i64 ob] W
    fun en w' => ∃ i : (Option Addr × Nat × Nat) × LgR, en = .returned (endV3 i) ∧ i.2.l = (x.l.filter fun b => !decide (b.ob = ob)) ∧ St (feet (lgL b s0 s1 x)) W (lgL b s0 s1 i.2) w' := by
  obtain ⟨M, hM⟩ : ∃ M, feet (lgL b s0 s1 x) = M := ⟨_, rfl⟩
  rw [hM] at hst ⊢
  obtain ⟨A, n, c, l⟩ := x
  unfold lgL at hst
  dsimp only at hst hl ⊢
  clear hM
  obtain ⟨lo, hlo⟩ : ∃ lo, ofB l ob = lo := ⟨_, rfl⟩
  have hlol : lo.length ≤ 100000 := by
    have h1 : (ofB l ob).length ≤ l.length := List.length_filter_le _ _
    rw [hlo] at h1
    omega
  refine calls_cv (M := M) (n := 28) [.tmp 4] rfl Try.func88 rfl rfl (Nat.le_of_ble_eq_true rfl)  hst ?_
  refine cv_seq_k fun K hK => ?_
  refine cv_region_then rfl ?_
  simp -implicitDefEqProofs (disch := first | omega | decide) only [seval, -Int.reducePow, -Nat.reducePow, cC, pv, binv, sHjB1, undef]
  refine hK _ _ ?_
  clear hK K
  refine cv_seq_k fun K hK => ?_
  refine cv_region_then rfl ?_
  simp -implicitDefEqProofs (disch := first | omega | decide) only [seval, -Int.reducePow, -Nat.reducePow, cC, pv, binv, sHjB1, undef]
  refine callV_row (fun A n c => .slice A n c) (fun w hw => (hlo ▸ rOf_any (LgW.of hw 0 1 rfl rfl hl) ob)) ?_
  intro A1 n1 c1 hl1 hr1
  have hn1 : lo.length = n1 := by rw [bwCells_len] at hl1; omega
  simp -implicitDefEqProofs (disch := first | omega | decide) only [seval, -Int.reducePow, -Nat.reducePow, cC, pv, binv, sHjB1, undef]
  refine hK _ _ ?_
  clear hK K
  refine cv_seq_k fun K hK => ?_
  refine cv_seq_k fun K hK => ?_
  refine cv_region_then rfl ?_
  simp -implicitDefEqProofs (disch := first | omega | decide) only [seval, -Int.reducePow, -Nat.reducePow, cC, pv, binv, sHjB1, undef]
  refine hK _ _ ?_
  clear hK K
  refine cv_gen fun G8 hG => ?_
  have g8_0 := congrFun hG 0
  have g8_1 := congrFun hG 1
  have g8_5 := congrFun hG 5
  have g8_6 := congrFun hG 6
  clear hG
  try simp -implicitDefEqProofs (disch := first | omega | decide) only [seval, -Int.reducePow, -Nat.reducePow, cC, pv, binv, sHjB1, undef] at g8_0 g8_1 g8_5 g8_6
  have g8 := And.intro g8_0 (And.intro g8_1 (And.intro g8_5 g8_6))
  refine cv_block ?_
  refine cv_loop (fun F' L' => ∃ (i : Nat) (A2 : Option Addr) (n2 c2 : Nat), F' 0 = G8 0 ∧ F' 1 = G8 1 ∧ F' 5 = G8 5 ∧ F' 6 = .int .i64 (i : Int) ∧ L' = [.row (.slice A1 n1 c1) 82 4 n1 (bwCells lo), .blk b 78 [s0, s1, .slice A2 n2 c2], .row (.slice A2 n2 c2) 82 4 n2 (bwCells (l.filter (cutP l ob i)))] ∧ i ≤ n1) (fun F' L' => 200000 - (intOf (F' 6)).toNat) ?_ ?_
  · refine ⟨0, A, n, c, ?_⟩
    have : l.filter (cutP l ob 0) = l := List.filter_eq_self.2 fun b _ => by simp [cutP]
    rw [this]
    simp -implicitDefEqProofs (disch := first | omega | decide) only [seval, -Int.reducePow, -Nat.reducePow, cC, pv, binv, sHjB1, undef, g8]
    exact Nat.zero_le _
  intro G9 L' hI
  obtain ⟨i, A2, n2, c2, q0, q1, q5, q6, rfl, hi⟩ := hI
  have g9_0 := q0.trans g8_0
  have g9_1 := q1.trans g8_1
  have g9_5 := q5.trans g8_5
  have g9_6 := q6
  clear q0 q1 q5 q6
  have g9 := And.intro g9_0 (And.intro g9_1 (And.intro g9_5 g9_6))
  refine cv_seq_k fun K hK => ?_
  refine cv_seq_k fun K hK => ?_
  refine cv_region_then rfl ?_
  simp -implicitDefEqProofs (disch := first | omega | decide) only [seval, -Int.reducePow, -Nat.reducePow, cC, pv, binv, sHjB1, undef, g8, g9]
  refine hK _ _ ?_
  clear hK K
  refine cv_cond ?_
  simp -implicitDefEqProofs (disch := first | omega | decide) only [seval, -Int.reducePow, -Nat.reducePow, cC, pv, binv, sHjB1, undef, g8, g9]
  refine ⟨fun hc => ?_, fun hc => ?_⟩
  · refine cv_skip ?_
    try simp only [blockQ, thenQ]
    have hit : i < n1 := by have := of_decide_eq_true ‹decide ((i : Int) < (n1 : Int)) = true›; omega
    obtain ⟨e, he⟩ : ∃ e, lo[i]? = some e := ⟨_, List.getElem?_eq_getElem (by omega)⟩
    have hcl : (l.filter (cutP l ob i)).length ≤ 100000 := Nat.le_trans (List.length_filter_le _ _) hl
    have hcs : wtoB (l.filter (cutP l ob i)) ob e.ho = l.filter (cutP l ob (i + 1)) := by
      rw [cutB_step]
      refine List.filter_congr fun b _ => ?_
      unfold cutP isB
      rw [hlo, List.take_add_one, he]
      simp only [Option.toList_some, List.any_append, List.any_cons, List.any_nil, Bool.or_false]
      rw [show decide (b.ho = e.ho) = decide (e.ho = b.ho) from decide_eq_decide.2 ⟨Eq.symm, Eq.symm⟩]
      cases decide (b.ob = ob) <;> simp
    refine hK _ _ ?_
    clear hK K
    refine cv_rowA 0 rfl (by omega) fun g hAA hg hNN => ?_
    subst hAA
    simp only [List.eraseIdx_cons_zero, List.eraseIdx_cons_succ, neB_nil, neB_blk, neB_row, neB_snap, and_true, List.not_mem_nil, or_false, sHjB1, undef] at hNN hg
    replace hg := And.intro hg hNN
    clear hNN
    refine cv_seq_k fun K hK => ?_
    refine cv_block ?_
    refine cv_region_q rfl ?_
    simp -implicitDefEqProofs (disch := first | omega | decide) only [seval, -Int.reducePow, -Nat.reducePow, cC, pv, binv, sHjB1, undef, g8, g9]
    refine ⟨_, ld_row1 (i := i * 4 + 1) (v := .int .i64 e.ho) (.head _) rfl (flGet bwc_len he (by omega)), fun tok htok => ?_⟩
    subst htok
    simp -implicitDefEqProofs (disch := first | omega | decide) only [seval, -Int.reducePow, -Nat.reducePow, cC, pv, binv, sHjB1, undef, g8, g9]
    refine callV_row (fun A n c => .slice A n c) (fun w hw => (hcs ▸ rWithout_any (LgW.of hw 1 2 rfl rfl hcl) ob e.ho)) ?_
    intro A3 n3 c3 hl3 hr3
    simp -implicitDefEqProofs (disch := first | omega | decide) only [seval, -Int.reducePow, -Nat.reducePow, cC, pv, binv, sHjB1, undef, g8, g9]
    refine hK _ _ ?_
    clear hK K
    refine cv_pick [1, 2, 0] (by decide) ?_
    simp only [pickL, nth]
    refine cv_region_then rfl ?_
    simp -implicitDefEqProofs (disch := first | omega | decide) only [seval, -Int.reducePow, -Nat.reducePow, cC, pv, binv, sHjB1, undef, g8, g9]
    refine ⟨⟨i + 1, A3, n3, c3, ?_⟩, ?_⟩
    · simp -implicitDefEqProofs (disch := first | omega | decide) only [seval, -Int.reducePow, -Nat.reducePow, cC, pv, binv, sHjB1, undef, Int.natCast_add, g8, g9]
      omega
    · simp only [intOf]; omega
  refine cv_exit ?_
  simp only [blockQ, thenQ, if_true, ite_true]
  clear hK K
  refine hK _ _ ?_
  clear hK K
  have hin : i = n1 := by have := of_decide_eq_false ‹decide ((i : Int) < (n1 : Int)) = false›; omega
  subst hin
  have hfin : l.filter (cutP l ob i) = l.filter fun b => !decide (b.ob = ob) := by
    refine List.filter_congr fun b hb => ?_
    unfold cutP
    rw [hlo, List.take_of_length_le (by omega), ← hlo]
    by_cases h : b.ob = ob
    · have : (ofB l ob).any (fun o => decide (o.ho = b.ho)) = true := List.any_eq_true.2 ⟨b, List.mem_filter.2 ⟨hb, by simpa using h⟩, by simp⟩
      rw [this]
      simp [h]
    · simp [h]
  rw [hfin]
  refine cv_seq_k fun K hK => ?_
  refine cv_region_then rfl ?_
  simp -implicitDefEqProofs (disch := first | omega | decide) only [seval, -Int.reducePow, -Nat.reducePow, cC, pv, binv, sHjB1, undef, g8, g9]
  refine hK _ _ ?_
  clear hK K
  refine cv_ret ⟨_, (by simp -implicitDefEqProofs (disch := first | omega | decide) only [seval, -Int.reducePow, -Nat.reducePow, cC, pv, binv, sHjB1, undef, g8, g9]; rfl), fun w hw => ?_⟩
  exact ⟨((A1, i, c1), ⟨A2, n2, c2, _⟩), rfl, rfl, hw.tail⟩
end Go.Proofs.Ytaifnipgefkemaa
/- The reference's ledger: Release and Lend. -/
namespace Go.Proofs.Ytaifnipgefkemaa
open Go.RowKit Go.Shelf
set_option linter.unusedVariables false
set_option linter.unusedSimpArgs false
set_option maxRecDepth 100000
def RelOk (l : List Bw) (ob ho : Int) (r : Int) (l' : List Bw) : Prop := match holdB l ob ho with
  | none => r = 13
  | some e => r = 0 ∧ (if e.co - 1 = 0 then l' = wtoB l ob ho else ∃ P Q, PutOk { e with co := e.co - 1 } (wtoB l e.ob e.ho) l' P Q)
def lgV (i : Int × LgR) : Value := .int .i64 i.1
theorem hold_mem {l : List Bw} {ob ho : Int} {e : Bw} (h : holdB l ob ho = some e) : e ∈ l ∧ e.ob = ob ∧ e.ho = ho := by
  have h1 := List.mem_of_find?_eq_some h
  have h2 := List.find?_some h
  unfold isB at h2
  simp only [Bool.and_eq_true, decide_eq_true_eq] at h2
  exact ⟨h1, h2⟩
set_option maxRecDepth 100000 in
theorem sHjC1 : type_of% (And.intro (And.intro @Nat.mul_one @wrap_in) (And.intro @cMv @cM)) := (And.intro (And.intro @Nat.mul_one @wrap_in) (And.intro @cMv @cM))
set_option maxHeartbeats 1000000 in
theorem rRelease_any (b : Nat) (s0 s1 : Value) (x : LgR) (ob ho : Int) (hl : x.l.length ≤ 100000) (hc : ∀ e ∈ x.l, 0 ≤ e.co ∧ e.co ≤ 4611686018427387904) (W : World) (hst : St (feet (lgL b s0 s1 x)) W (lgL b s0 s1 x) W) :
    Calls Try.prog 80 #[.pointer (some ⟨b, 2, none⟩), .int .i64 ob, .int .i64 ho] W
    fun en w' => ∃ i : Int × LgR, en = .returned (lgV i) ∧ RelOk x.l ob ho i.1 i.2.l ∧ St (feet (lgL b s0 s1 x)) W (lgL b s0 s1 i.2) w' := by
  obtain ⟨M, hM⟩ : ∃ M, feet (lgL b s0 s1 x) = M := ⟨_, rfl⟩
  rw [hM] at hst ⊢
  obtain ⟨A, n, c, l⟩ := x
  unfold lgL at hst
  dsimp only at hst hl hc ⊢
  clear hM
  refine calls_cv (M := M) (n := 35) [.tmp 6] rfl Try.func80 rfl rfl (Nat.le_of_ble_eq_true rfl)  hst ?_
  refine cv_seq_k fun K hK => ?_
  refine cv_region_then rfl ?_
  simp -implicitDefEqProofs (disch := first | omega | decide) only [seval, -Int.reducePow, -Nat.reducePow, cC, pv, binv, sHjC1, undef]
  refine hK _ _ ?_
  clear hK K
  cases hh : holdB l ob ho with
  | none =>
    refine cv_seq_k fun K hK => ?_
    refine cv_region_then rfl ?_
    simp -implicitDefEqProofs (disch := first | omega | decide) only [seval, -Int.reducePow, -Nat.reducePow, cC, pv, binv, sHjC1, undef]
    refine callV_ret (fun w hw => rHolds_any (LgW.of hw 0 1 rfl rfl hl) ob ho) ?_
    try simp -implicitDefEqProofs (disch := first | omega | decide) only [seval, -Int.reducePow, -Nat.reducePow, cC, pv, binv, sHjC1, undef]
    simp -implicitDefEqProofs (disch := first | omega | decide) only [seval, -Int.reducePow, -Nat.reducePow, cC, pv, binv, sHjC1, undef, holdV, hh, bwV, bw0]
    intro b7 hb7 hf7
    refine hK _ _ ?_
    clear hK K
    refine cv_seq_k fun K hK => ?_
    refine cv_seq_k fun K hK => ?_
    refine cv_region_then rfl ?_
    simp -implicitDefEqProofs (disch := first | omega | decide) only [seval, -Int.reducePow, -Nat.reducePow, cC, pv, binv, sHjC1, undef]
    refine hK _ _ ?_
    clear hK K
    refine cv_cond ?_
    simp -implicitDefEqProofs (disch := first | omega | decide) only [seval, -Int.reducePow, -Nat.reducePow, cC, pv, binv, sHjC1, undef]
    refine cv_seq_k fun K hK => ?_
    refine cv_region_then rfl ?_
    simp -implicitDefEqProofs (disch := first | omega | decide) only [seval, -Int.reducePow, -Nat.reducePow, cC, pv, binv, sHjC1, undef]
    refine hK _ _ ?_
    clear hK K
    refine cv_ret ⟨_, (by simp -implicitDefEqProofs (disch := first | omega | decide) only [seval, -Int.reducePow, -Nat.reducePow, cC, pv, binv, sHjC1, undef]; rfl), fun w hw => ?_⟩
    exact ⟨(13, ⟨A, n, c, l⟩), rfl, (by unfold RelOk; rw [hh]), hw.tail⟩
  | some e =>
    obtain ⟨he1, he2, he3⟩ := hold_mem hh
    have hb := hc e he1
    have hwr := wrap_in (x := e.co - 1) (by omega) (by omega)
    refine cv_seq_k fun K hK => ?_
    refine cv_region_then rfl ?_
    simp -implicitDefEqProofs (disch := first | omega | decide) only [seval, -Int.reducePow, -Nat.reducePow, cC, pv, binv, sHjC1, undef]
    refine callV_ret (fun w hw => rHolds_any (LgW.of hw 0 1 rfl rfl hl) ob ho) ?_
    try simp -implicitDefEqProofs (disch := first | omega | decide) only [seval, -Int.reducePow, -Nat.reducePow, cC, pv, binv, sHjC1, undef]
    simp -implicitDefEqProofs (disch := first | omega | decide) only [seval, -Int.reducePow, -Nat.reducePow, cC, pv, binv, sHjC1, undef, holdV, hh, bwV]
    intro b7 hb7 hf7
    refine hK _ _ ?_
    clear hK K
    refine cv_seq_k fun K hK => ?_
    refine cv_seq_k fun K hK => ?_
    refine cv_region_then rfl ?_
    simp -implicitDefEqProofs (disch := first | omega | decide) only [seval, -Int.reducePow, -Nat.reducePow, cC, pv, binv, sHjC1, undef]
    refine hK _ _ ?_
    clear hK K
    refine cv_cond ?_
    simp -implicitDefEqProofs (disch := first | omega | decide) only [seval, -Int.reducePow, -Nat.reducePow, cC, pv, binv, sHjC1, undef]
    refine cv_skip ?_
    try simp only [blockQ, thenQ]
    refine hK _ _ ?_
    clear hK K
    refine cv_gen fun G1 hG => ?_
    have g1_0 := congrFun hG 0
    have g1_1 := congrFun hG 1
    have g1_2 := congrFun hG 2
    have g1_7 := congrFun hG 7
    clear hG
    try simp -implicitDefEqProofs (disch := first | omega | decide) only [seval, -Int.reducePow, -Nat.reducePow, cC, pv, binv, sHjC1, undef] at g1_0 g1_1 g1_2 g1_7
    have g1 := And.intro g1_0 (And.intro g1_1 (And.intro g1_2 g1_7))
    refine cv_seq_k fun K hK => ?_
    refine cv_region_then rfl ?_
    simp -implicitDefEqProofs (disch := first | omega | decide) only [seval, -Int.reducePow, -Nat.reducePow, cC, pv, binv, sHjC1, undef, hwr, g1]
    refine hK _ _ ?_
    clear hK K
    refine cv_seq_k fun K hK => ?_
    refine cv_seq_k fun K hK => ?_
    refine cv_region_then rfl ?_
    simp -implicitDefEqProofs (disch := first | omega | decide) only [seval, -Int.reducePow, -Nat.reducePow, cC, pv, binv, sHjC1, undef, g1]
    refine hK _ _ ?_
    clear hK K
    refine cv_cond ?_
    by_cases h0 : e.co - 1 = 0
    · simp -implicitDefEqProofs (disch := first | omega | decide) only [seval, -Int.reducePow, -Nat.reducePow, cC, pv, binv, sHjC1, undef, h0, g1]
      refine cv_region_q rfl ?_
      simp -implicitDefEqProofs (disch := first | omega | decide) only [seval, -Int.reducePow, -Nat.reducePow, cC, pv, binv, sHjC1, undef, g1]
      refine callV_row (fun A n c => .slice A n c) (fun w hw => (rWithout_any (LgW.of hw 1 2 rfl rfl hl) ob ho)) ?_
      intro A3 n3 c3 hl3 hr3
      simp -implicitDefEqProofs (disch := first | omega | decide) only [seval, -Int.reducePow, -Nat.reducePow, cC, pv, binv, sHjC1, undef, g1]
      refine hK _ _ ?_
      clear hK K
      refine cv_seq_k fun K hK => ?_
      refine cv_region_then rfl ?_
      simp -implicitDefEqProofs (disch := first | omega | decide) only [seval, -Int.reducePow, -Nat.reducePow, cC, pv, binv, sHjC1, undef, g1]
      refine hK _ _ ?_
      clear hK K
      refine cv_ret ⟨_, (by simp -implicitDefEqProofs (disch := first | omega | decide) only [seval, -Int.reducePow, -Nat.reducePow, cC, pv, binv, sHjC1, undef, g1]; rfl), fun w hw => ?_⟩
      have h9 := hw.pick (ix := [2, 0]) (by decide)
      simp only [pickL, nth] at h9
      exact ⟨(0, ⟨A3, n3, c3, wtoB l ob ho⟩), rfl, (by unfold RelOk; rw [hh]; exact ⟨rfl, by rw [if_pos h0]⟩), h9⟩
    · simp -implicitDefEqProofs (disch := first | omega | decide) only [seval, -Int.reducePow, -Nat.reducePow, cC, pv, binv, sHjC1, undef, h0, g1]
      refine cv_region_q rfl ?_
      simp -implicitDefEqProofs (disch := first | omega | decide) only [seval, -Int.reducePow, -Nat.reducePow, cC, pv, binv, sHjC1, undef, g1]
      refine callV_sub [.blk b7 82 [.int .i64 e.ob, .int .i64 e.ho, .int .i64 e.mo, .int .i64 (e.co - 1)]] (lgL b s0 s1 ⟨A, n, c, l⟩) (List.Perm.refl _) tupU (lgL b s0 s1) _ (fun w hw => rPut_any b s0 s1 ⟨A, n, c, l⟩ { e with co := e.co - 1 } hl w hw) ?_
      intro y hy
      simp -implicitDefEqProofs (disch := first | omega | decide) only [seval, -Int.reducePow, -Nat.reducePow, cC, pv, binv, sHjC1, undef, tupU, g1]
      refine hK _ _ ?_
      clear hK K
      refine cv_seq_k fun K hK => ?_
      refine cv_region_then rfl ?_
      simp -implicitDefEqProofs (disch := first | omega | decide) only [seval, -Int.reducePow, -Nat.reducePow, cC, pv, binv, sHjC1, undef, g1]
      refine hK _ _ ?_
      clear hK K
      refine cv_ret ⟨_, (by simp -implicitDefEqProofs (disch := first | omega | decide) only [seval, -Int.reducePow, -Nat.reducePow, cC, pv, binv, sHjC1, undef, g1]; rfl), fun w hw => ?_⟩
      exact ⟨(0, y), rfl, (by unfold RelOk; rw [hh]; exact ⟨rfl, by rw [if_neg h0]; exact hy⟩), hw.sub (List.sublist_append_left _ _)⟩
def LendOk (l : List Bw) (ob ho mo : Int) (r : Int) (l' : List Bw) : Prop :=
  if ofB l ob ≠ [] ∧ (mo = 2 ∨ ((ofB l ob).head?.map Bw.mo) = some 2) then r = 14
  else r = 0 ∧ ∃ P Q, PutOk ⟨ob, ho, mo, ((holdB l ob ho).getD bw0).co + 1⟩ (wtoB l ob ho) l' P Q
set_option maxHeartbeats 1000000 in
theorem rLend_any (b : Nat) (s0 s1 : Value) (x : LgR) (ob ho mo : Int) (hmo : mo = 1 ∨ mo = 2) (hl : x.l.length ≤ 100000) (hc : ∀ e ∈ x.l, 0 ≤ e.co ∧ e.co ≤ 4611686018427387904) (W : World) (hst : St (feet (lgL b s0 s1 x)) W (lgL b s0 s1 x) W) :
    Calls Try.prog 81 #[.pointer (some ⟨b, 2, none⟩), .int .i64 ob, .int .i64 ho, .int .i64 mo] W
    fun en w' => ∃ i : Int × LgR, en = .returned (lgV i) ∧ LendOk x.l ob ho mo i.1 i.2.l ∧ St (feet (lgL b s0 s1 x)) W (lgL b s0 s1 i.2) w' := by
  obtain ⟨M, hM⟩ : ∃ M, feet (lgL b s0 s1 x) = M := ⟨_, rfl⟩
  rw [hM] at hst ⊢
  obtain ⟨A, n, c, l⟩ := x
  unfold lgL at hst
  dsimp only at hst hl hc ⊢
  clear hM
  obtain ⟨lo, hlo⟩ : ∃ lo, ofB l ob = lo := ⟨_, rfl⟩
  have hlol : lo.length ≤ 100000 := by
    have h1 : (ofB l ob).length ≤ l.length := List.length_filter_le _ _
    rw [hlo] at h1
    omega
  have hhc : 0 ≤ ((holdB l ob ho).getD bw0).co ∧ ((holdB l ob ho).getD bw0).co ≤ 4611686018427387904 := by
    cases hh : holdB l ob ho with
    | none => simp [bw0]
    | some e => exact hc e (hold_mem hh).1
  have hwr := wrap_in (x := ((holdB l ob ho).getD bw0).co + 1) (by omega) (by omega)
  have hm1 : (mo ≠ 1 → mo ≠ 2 → False) := by omega
  refine calls_cv (M := M) (n := 51) [.tmp 8] rfl Try.func81 rfl rfl (Nat.le_of_ble_eq_true rfl)  hst ?_
  refine cv_seq_k fun K hK => ?_
  refine cv_region_then rfl ?_
  simp -implicitDefEqProofs (disch := first | omega | decide) only [seval, -Int.reducePow, -Nat.reducePow, cC, pv, binv, sHjC1, undef]
  refine hK _ _ ?_
  clear hK K
  refine cv_gen fun G2 hG => ?_
  have g2_0 := congrFun hG 0
  have g2_1 := congrFun hG 1
  have g2_2 := congrFun hG 2
  have g2_3 := congrFun hG 3
  clear hG
  try simp -implicitDefEqProofs (disch := first | omega | decide) only [seval, -Int.reducePow, -Nat.reducePow, cC, pv, binv, sHjC1, undef] at g2_0 g2_1 g2_2 g2_3
  have g2 := And.intro g2_0 (And.intro g2_1 (And.intro g2_2 g2_3))
  refine cv_seq_k fun K hK => ?_
  refine cv_seq_k fun K hK => ?_
  refine cv_cut (fun _ _ => True) (fun F' L' => F' 0 = G2 0 ∧ F' 1 = G2 1 ∧ F' 2 = G2 2 ∧ F' 3 = G2 3 ∧ F' 17 = .bool false ∧ L' = [.blk b 78 [s0, s1, .slice A n c], .row (.slice A n c) 82 4 n (bwCells l)]) ?_ ?_
  · rcases hmo with rfl | rfl
    · refine cv_region_then rfl ?_
      simp -implicitDefEqProofs (disch := first | omega | decide) only [seval, -Int.reducePow, -Nat.reducePow, cC, pv, binv, sHjC1, undef, g2]
    · refine cv_region_then rfl ?_
      simp -implicitDefEqProofs (disch := first | omega | decide) only [seval, -Int.reducePow, -Nat.reducePow, cC, pv, binv, sHjC1, undef, g2]
  intro G3 L' _ hF
  obtain ⟨q0, q1, q2, q3, q17, rfl⟩ := hF
  have g3_0 := q0.trans g2_0
  have g3_1 := q1.trans g2_1
  have g3_2 := q2.trans g2_2
  have g3_3 := q3.trans g2_3
  have g3_17 := q17
  clear q0 q1 q2 q3 q17
  have g3 := And.intro g3_0 (And.intro g3_1 (And.intro g3_2 (And.intro g3_3 g3_17)))
  refine hK _ _ ?_
  clear hK K
  refine cv_cond ?_
  simp -implicitDefEqProofs (disch := first | omega | decide) only [seval, -Int.reducePow, -Nat.reducePow, cC, pv, binv, sHjC1, undef, g3]
  refine cv_skip ?_
  try simp only [blockQ, thenQ]
  refine hK _ _ ?_
  clear hK K
  refine cv_seq_k fun K hK => ?_
  refine cv_region_then rfl ?_
  simp -implicitDefEqProofs (disch := first | omega | decide) only [seval, -Int.reducePow, -Nat.reducePow, cC, pv, binv, sHjC1, undef, g3]
  refine callV_row (fun A n c => .slice A n c) (fun w hw => (hlo ▸ rOf_any (LgW.of hw 0 1 rfl rfl hl) ob)) ?_
  intro A1 n1 c1 hl1 hr1
  have hn1 : lo.length = n1 := by rw [bwCells_len] at hl1; omega
  simp -implicitDefEqProofs (disch := first | omega | decide) only [seval, -Int.reducePow, -Nat.reducePow, cC, pv, binv, sHjC1, undef, g3]
  refine hK _ _ ?_
  clear hK K
  refine cv_gen fun G4 hG => ?_
  have g4_0 := congrFun hG 0
  have g4_1 := congrFun hG 1
  have g4_2 := congrFun hG 2
  have g4_3 := congrFun hG 3
  have g4_9 := congrFun hG 9
  clear hG
  try simp -implicitDefEqProofs (disch := first | omega | decide) only [seval, -Int.reducePow, -Nat.reducePow, cC, pv, binv, sHjC1, undef, g3] at g4_0 g4_1 g4_2 g4_3 g4_9
  have g4 := And.intro g4_0 (And.intro g4_1 (And.intro g4_2 (And.intro g4_3 g4_9)))
  refine cv_seq_k fun K hK => ?_
  refine cv_seq_k fun K hK => ?_
  refine cv_cut (fun _ _ => True) (fun F' L' => F' 0 = G4 0 ∧ F' 1 = G4 1 ∧ F' 2 = G4 2 ∧ F' 3 = G4 3 ∧ F' 34 = .bool (decide (lo ≠ [] ∧ (mo = 2 ∨ (lo.head?.map Bw.mo) = some 2))) ∧ L' = [.blk b 78 [s0, s1, .slice A n c], .row (.slice A n c) 82 4 n (bwCells l)]) ?_ ?_
  · refine cv_pick_post [1, 2] (by decide) ?_
    rcases lo with _ | ⟨e0, lo⟩
    · simp at hn1
      subst hn1
      refine cv_region_q rfl ?_
      simp -implicitDefEqProofs (disch := first | omega | decide) only [seval, -Int.reducePow, -Nat.reducePow, cC, pv, binv, sHjC1, undef, g4]
    · simp only [List.length_cons] at hn1
      have hpos : decide ((0 : Int) < (n1 : Int)) = true := decide_eq_true (by omega)
      refine cv_rowA 0 rfl (by omega) fun g hAA hg hNN => ?_
      subst hAA
      simp only [List.eraseIdx_cons_zero, List.eraseIdx_cons_succ, neB_nil, neB_blk, neB_row, neB_snap, and_true, List.not_mem_nil, or_false, sHjC1, undef] at hNN hg
      replace hg := And.intro hg hNN
      clear hNN
      by_cases hm2 : mo = 2
      · have hd2 : decide (mo = 2) = true := decide_eq_true hm2
        refine cv_region_q rfl ?_
        simp -implicitDefEqProofs (disch := first | omega | decide) only [seval, -Int.reducePow, -Nat.reducePow, cC, pv, binv, sHjC1, undef, hpos, hd2, g4]
        simp [hm2]
      · refine cv_region_q rfl ?_
        simp -implicitDefEqProofs (disch := first | omega | decide) only [seval, -Int.reducePow, -Nat.reducePow, cC, pv, binv, sHjC1, undef, hpos, hm2, g4]
        refine ⟨_, ld_row1 (m := 1) (i := 0 * 4 + 2) (v := .int .i64 e0.mo) (.head _) rfl (flGet bwc_len (l := e0 :: lo) (i := 0) rfl (by omega)), fun tok htok => ?_⟩
        subst htok
        simp -implicitDefEqProofs (disch := first | omega | decide) only [seval, -Int.reducePow, -Nat.reducePow, cC, pv, binv, sHjC1, undef, g4]
        simp [hm2]
  intro G5 L' _ hF
  obtain ⟨q0, q1, q2, q3, q34, rfl⟩ := hF
  have g5_0 := q0.trans g4_0
  have g5_1 := q1.trans g4_1
  have g5_2 := q2.trans g4_2
  have g5_3 := q3.trans g4_3
  have g5_34 := q34
  clear q0 q1 q2 q3 q34
  have g5 := And.intro g5_0 (And.intro g5_1 (And.intro g5_2 (And.intro g5_3 g5_34)))
  refine hK _ _ ?_
  clear hK K
  refine cv_cond ?_
  by_cases hcd : lo ≠ [] ∧ (mo = 2 ∨ (lo.head?.map Bw.mo) = some 2)
  · have hd : decide (lo ≠ [] ∧ (mo = 2 ∨ (lo.head?.map Bw.mo) = some 2)) = true := decide_eq_true hcd
    simp -implicitDefEqProofs (disch := first | omega | decide) only [seval, -Int.reducePow, -Nat.reducePow, cC, pv, binv, sHjC1, undef, hd, g5]
    refine cv_seq_k fun K hK => ?_
    refine cv_region_then rfl ?_
    simp -implicitDefEqProofs (disch := first | omega | decide) only [seval, -Int.reducePow, -Nat.reducePow, cC, pv, binv, sHjC1, undef, g5]
    refine hK _ _ ?_
    clear hK K
    refine cv_ret ⟨_, (by simp -implicitDefEqProofs (disch := first | omega | decide) only [seval, -Int.reducePow, -Nat.reducePow, cC, pv, binv, sHjC1, undef, g5]; rfl), fun w hw => ?_⟩
    exact ⟨(14, ⟨A, n, c, l⟩), rfl, (by unfold LendOk; rw [hlo, if_pos hcd]), hw⟩
  have hd : decide (lo ≠ [] ∧ (mo = 2 ∨ (lo.head?.map Bw.mo) = some 2)) = false := decide_eq_false hcd
  simp -implicitDefEqProofs (disch := first | omega | decide) only [seval, -Int.reducePow, -Nat.reducePow, cC, pv, binv, sHjC1, undef, hd, g5]
  refine cv_skip ?_
  try simp only [blockQ, thenQ]
  refine hK _ _ ?_
  clear hK K
  obtain ⟨e, he⟩ : ∃ e, (holdB l ob ho).getD bw0 = e := ⟨_, rfl⟩
  rw [he] at hwr
  refine cv_seq_k fun K hK => ?_
  refine cv_region_then rfl ?_
  simp -implicitDefEqProofs (disch := first | omega | decide) only [seval, -Int.reducePow, -Nat.reducePow, cC, pv, binv, sHjC1, undef, g5]
  refine callV_ret (fun w hw => rHolds_any (LgW.of hw 0 1 rfl rfl hl) ob ho) ?_
  try simp -implicitDefEqProofs (disch := first | omega | decide) only [seval, -Int.reducePow, -Nat.reducePow, cC, pv, binv, sHjC1, undef, g5]
  simp -implicitDefEqProofs (disch := first | omega | decide) only [seval, -Int.reducePow, -Nat.reducePow, cC, pv, binv, sHjC1, undef, holdV, he, bwV, g5]
  intro b10 hb10 hf10
  refine hK _ _ ?_
  clear hK K
  refine cv_gen fun G6 hG => ?_
  have g6_0 := congrFun hG 0
  have g6_1 := congrFun hG 1
  have g6_2 := congrFun hG 2
  have g6_3 := congrFun hG 3
  have g6_10 := congrFun hG 10
  clear hG
  try simp -implicitDefEqProofs (disch := first | omega | decide) only [seval, -Int.reducePow, -Nat.reducePow, cC, pv, binv, sHjC1, undef, g5] at g6_0 g6_1 g6_2 g6_3 g6_10
  have g6 := And.intro g6_0 (And.intro g6_1 (And.intro g6_2 (And.intro g6_3 g6_10)))
  refine cv_seq_k fun K hK => ?_
  refine cv_region_then rfl ?_
  simp -implicitDefEqProofs (disch := first | omega | decide) only [seval, -Int.reducePow, -Nat.reducePow, cC, pv, binv, sHjC1, undef, hwr, g6]
  refine callV_sub [.blk b10 82 [.int .i64 e.ob, .int .i64 e.ho, .int .i64 e.mo, .int .i64 e.co]] (lgL b s0 s1 ⟨A, n, c, l⟩) (List.Perm.refl _) tupU (lgL b s0 s1) _ (fun w hw => rPut_any b s0 s1 ⟨A, n, c, l⟩ ⟨ob, ho, mo, e.co + 1⟩ hl w hw) ?_
  intro y hy
  simp -implicitDefEqProofs (disch := first | omega | decide) only [seval, -Int.reducePow, -Nat.reducePow, cC, pv, binv, sHjC1, undef, tupU, g6]
  refine hK _ _ ?_
  clear hK K
  refine cv_seq_k fun K hK => ?_
  refine cv_region_then rfl ?_
  simp -implicitDefEqProofs (disch := first | omega | decide) only [seval, -Int.reducePow, -Nat.reducePow, cC, pv, binv, sHjC1, undef, g6]
  refine hK _ _ ?_
  clear hK K
  refine cv_ret ⟨_, (by simp -implicitDefEqProofs (disch := first | omega | decide) only [seval, -Int.reducePow, -Nat.reducePow, cC, pv, binv, sHjC1, undef, g6]; rfl), fun w hw => ?_⟩
  exact ⟨(0, y), rfl, (by unfold LendOk; rw [hlo, if_neg hcd, he]; exact ⟨rfl, hy⟩), hw.sub (List.sublist_append_left _ _)⟩
end Go.Proofs.Ytaifnipgefkemaa
/- The reference's book: what it tells (find, busy, alive). -/
namespace Go.Proofs.Ytaifnipgefkemaa
open Go.RowKit Go.Shelf
set_option linter.unusedVariables false
set_option linter.unusedSimpArgs false
set_option maxRecDepth 100000
structure BO where
  h : Nat
  ow : Int
def boc (o : BO) : List Value := [.int .u64 (o.h : Int), .int .i64 o.ow, .int .i64 0, .int .i64 0, .slice none 0 0, .slice none 0 0]
theorem boc_len (o : BO) : (boc o).length = 6 := rfl
def boCells (l : List BO) : List Value := l.flatMap boc
theorem boCells_len (l : List BO) : (boCells l).length = l.length * 6 := flLen boc_len l
structure BkR where
  b : Nat
  sb : Nat
  LA : Option Addr
  ln : Nat
  lc : Nat
  EA : Option Addr
  en : Nat
  ec : Nat
  st : List Int
  l : List BO
  E : List Bw
def stCells (st : List Int) : List Value := st.map (Value.int .i64)
def bkL (x : BkR) : List Res := [.blk x.b 78 [.slice (some ⟨x.sb, 0, none⟩) 65 65, .slice x.LA x.ln x.lc, .slice x.EA x.en x.ec], .row (.slice (some ⟨x.sb, 0, none⟩) 65 65) 3 1 65 (stCells x.st), .row (.slice x.LA x.ln x.lc) 43 6 x.ln (boCells x.l), .row (.slice x.EA x.en x.ec) 82 4 x.en (bwCells x.E)]
def findI (l : List BO) (h : Nat) : Int := match l.findIdx? (fun o => decide (o.h = h)) with
  | some i => i
  | none => -1
def busyB (l : List BO) (s : Int) : Bool := l.any fun o => decide ((slotF o.h : Int) = s)
theorem findIdx_take {l : List BO} {p : BO → Bool} {i : Nat} {e : BO} (he : l[i]? = some e) (hp : (l.take i).findIdx? p = none) (h : p e = true) : l.findIdx? p = some i := by
  have hlt := (List.getElem?_eq_some_iff.1 he).1
  have hge := (List.getElem?_eq_some_iff.1 he).2
  rw [List.findIdx?_eq_some_iff_getElem]
  refine ⟨hlt, by rw [hge]; exact h, fun j hj => ?_⟩
  rw [List.findIdx?_eq_none_iff] at hp
  have := hp (l[j]'(by omega)) (by rw [List.mem_take_iff_getElem]; exact ⟨j, by omega, rfl⟩)
  simpa using this
theorem findIdx_step {l : List BO} {p : BO → Bool} {i : Nat} {e : BO} (he : l[i]? = some e) (hp : (l.take i).findIdx? p = none) (h : p e = false) : (l.take (i + 1)).findIdx? p = none := by
  rw [List.findIdx?_eq_none_iff] at hp ⊢
  intro x hx
  rw [List.take_add_one, he] at hx
  rcases List.mem_append.1 hx with hx | hx
  · exact hp x hx
  · have : x = e := by simpa using hx
    rw [this, h]
set_option maxRecDepth 100000 in
theorem sHjD1 : type_of% (And.intro (And.intro @Nat.mul_one @wrap_in) (And.intro @cMv @cM)) := (And.intro (And.intro @Nat.mul_one @wrap_in) (And.intro @cMv @cM))
set_option maxHeartbeats 1000000 in
theorem bFind_any (x : BkR) (h : Nat) (hl : x.l.length ≤ 100000) (W : World) (hst : St (feet (bkL x)) W (bkL x) W) :
    Calls Try.prog 78 #[.pointer (some ⟨x.b, 0, none⟩), .int .u64 (h : Int)] W
    fun en w' => ∃ i : Unit, en = .returned (.int .i64 (findI x.l h)) ∧ True ∧ St (feet (bkL x)) W (bkL x) w' := by
  obtain ⟨M, hM⟩ : ∃ M, feet (bkL x) = M := ⟨_, rfl⟩
  rw [hM] at hst ⊢
  obtain ⟨b, sb, LA, ln, lc, EA, en, ec, st, l, E⟩ := x
  unfold bkL at hst
  dsimp only at hst hl ⊢
  clear hM
  have hlen : l.length = ln := by have := (Sl.of_row hst (nth_mem (k := 2) rfl)).len; rw [boCells_len] at this; omega
  refine calls_cv (M := M) (n := 26) [.tmp 4] rfl Try.func78 rfl rfl (Nat.le_of_ble_eq_true rfl)  hst ?_
  refine cv_seq_k fun K hK => ?_
  refine cv_region_then rfl ?_
  simp -implicitDefEqProofs (disch := first | omega | decide) only [seval, -Int.reducePow, -Nat.reducePow, cC, pv, binv, sHjD1, undef]
  refine hK _ _ ?_
  clear hK K
  refine cv_seq_k fun K hK => ?_
  refine cv_seq_k fun K hK => ?_
  refine cv_region_then rfl ?_
  simp -implicitDefEqProofs (disch := first | omega | decide) only [seval, -Int.reducePow, -Nat.reducePow, cC, pv, binv, sHjD1, undef]
  refine hK _ _ ?_
  clear hK K
  refine cv_gen fun G1 hG => ?_
  have g1_0 := congrFun hG 0
  have g1_1 := congrFun hG 1
  have g1_5 := congrFun hG 5
  clear hG
  try simp -implicitDefEqProofs (disch := first | omega | decide) only [seval, -Int.reducePow, -Nat.reducePow, cC, pv, binv, sHjD1, undef] at g1_0 g1_1 g1_5
  have g1 := And.intro g1_0 (And.intro g1_1 g1_5)
  refine cv_block ?_
  refine cv_loop (fun F' L' => ∃ (i : Nat), F' 0 = G1 0 ∧ F' 1 = G1 1 ∧ F' 5 = .int .i64 (i : Int) ∧ L' = bkL ⟨b, sb, LA, ln, lc, EA, en, ec, st, l, E⟩ ∧ i ≤ ln ∧ (l.take i).findIdx? (fun o => decide (o.h = h)) = none) (fun F' L' => 200000 - (intOf (F' 5)).toNat) ?_ ?_
  · refine ⟨0, ?_⟩
    simp -implicitDefEqProofs (disch := first | omega | decide) only [seval, -Int.reducePow, -Nat.reducePow, cC, pv, binv, sHjD1, undef, g1]
    exact ⟨rfl, Nat.zero_le _, rfl⟩
  intro G2 L' hI
  obtain ⟨i, q0, q1, q5, rfl, ⟨hi, hfn⟩⟩ := hI
  have g2_0 := q0.trans g1_0
  have g2_1 := q1.trans g1_1
  have g2_5 := q5
  clear q0 q1 q5
  have g2 := And.intro g2_0 (And.intro g2_1 g2_5)
  unfold bkL
  dsimp only
  refine cv_seq_k fun K hK => ?_
  refine cv_seq_k fun K hK => ?_
  refine cv_region_then rfl ?_
  simp -implicitDefEqProofs (disch := first | omega | decide) only [seval, -Int.reducePow, -Nat.reducePow, cC, pv, binv, sHjD1, undef, g1, g2]
  refine hK _ _ ?_
  clear hK K
  refine cv_cond ?_
  simp -implicitDefEqProofs (disch := first | omega | decide) only [seval, -Int.reducePow, -Nat.reducePow, cC, pv, binv, sHjD1, undef, g1, g2]
  refine ⟨fun hc => ?_, fun hc => ?_⟩
  · refine cv_skip ?_
    try simp only [blockQ, thenQ]
    have hit : i < ln := by have := of_decide_eq_true ‹decide ((i : Int) < (ln : Int)) = true›; omega
    obtain ⟨e, he⟩ : ∃ e, l[i]? = some e := ⟨_, List.getElem?_eq_getElem (by omega)⟩
    refine hK _ _ ?_
    clear hK K
    refine cv_rowA 2 rfl (by omega) fun g hAA hg hNN => ?_
    subst hAA
    simp only [List.eraseIdx_cons_zero, List.eraseIdx_cons_succ, neB_nil, neB_blk, neB_row, neB_snap, and_true, List.not_mem_nil, or_false, sHjD1, undef] at hNN hg
    replace hg := And.intro hg hNN
    clear hNN
    refine cv_seq_k fun K hK => ?_
    refine cv_block ?_
    refine cv_seq_k fun K hK => ?_
    refine cv_region_then rfl ?_
    simp -implicitDefEqProofs (disch := first | omega | decide) only [seval, -Int.reducePow, -Nat.reducePow, cC, pv, binv, sHjD1, undef, g1, g2]
    refine ⟨_, ld_row1 (m := 1) (i := i * 6 + 0) (v := .int .u64 (e.h : Int)) (.tail _ (.tail _ (.head _))) rfl (flGet boc_len he (by omega)), fun tok htok => ?_⟩
    subst htok
    simp -implicitDefEqProofs (disch := first | omega | decide) only [seval, -Int.reducePow, -Nat.reducePow, cC, pv, binv, sHjD1, undef, g1, g2]
    refine hK _ _ ?_
    clear hK K
    refine cv_cond ?_
    by_cases hc : e.h = h
    · simp -implicitDefEqProofs (disch := first | omega | decide) only [seval, -Int.reducePow, -Nat.reducePow, cC, pv, binv, sHjD1, undef, hc, g1, g2]
      refine cv_seq_k fun K hK => ?_
      refine cv_region_then rfl ?_
      simp -implicitDefEqProofs (disch := first | omega | decide) only [seval, -Int.reducePow, -Nat.reducePow, cC, pv, binv, sHjD1, undef, g1, g2]
      refine hK _ _ ?_
      clear hK K
      refine cv_ret ⟨_, (by simp -implicitDefEqProofs (disch := first | omega | decide) only [seval, -Int.reducePow, -Nat.reducePow, cC, pv, binv, sHjD1, undef, g1, g2]; rfl), fun w hw => ?_⟩
      have hfd : findI l h = i := by unfold findI; rw [findIdx_take he hfn (by simpa using hc)]
      rw [hfd]
      first | exact ⟨(), rfl, hw⟩ | exact ⟨(), rfl, trivial, hw⟩
    · have hc2 : ¬ (e.h : Int) = (h : Int) := by omega
      simp -implicitDefEqProofs (disch := first | omega | decide) only [seval, -Int.reducePow, -Nat.reducePow, cC, pv, binv, sHjD1, undef, hc2, g1, g2]
      refine cv_skip ?_
      try simp only [blockQ, thenQ]
      refine hK _ _ ?_
      clear hK K
      refine cv_region_then rfl ?_
      simp -implicitDefEqProofs (disch := first | omega | decide) only [seval, -Int.reducePow, -Nat.reducePow, cC, pv, binv, sHjD1, undef, g1, g2]
      refine ⟨⟨i + 1, ?_⟩, ?_⟩
      · simp -implicitDefEqProofs (disch := first | omega | decide) only [seval, -Int.reducePow, -Nat.reducePow, cC, pv, binv, sHjD1, undef, Int.natCast_add, g1, g2]
        exact ⟨by omega, findIdx_step he hfn (by simpa using hc)⟩
      · simp only [intOf]; omega
  refine cv_exit ?_
  simp only [blockQ, thenQ, if_true, ite_true]
  clear hK K
  refine hK _ _ ?_
  clear hK K
  have hin : i = ln := by have := of_decide_eq_false ‹decide ((i : Int) < (ln : Int)) = false›; omega
  subst hin
  rw [List.take_of_length_le (by omega)] at hfn
  have hfd : findI l h = -1 := by unfold findI; rw [hfn]
  refine cv_seq_k fun K hK => ?_
  refine cv_region_then rfl ?_
  simp -implicitDefEqProofs (disch := first | omega | decide) only [seval, -Int.reducePow, -Nat.reducePow, cC, pv, binv, sHjD1, undef, g1, g2]
  refine hK _ _ ?_
  clear hK K
  refine cv_ret ⟨_, (by simp -implicitDefEqProofs (disch := first | omega | decide) only [seval, -Int.reducePow, -Nat.reducePow, cC, pv, binv, sHjD1, undef, g1, g2]; rfl), fun w hw => ?_⟩
  rw [hfd]
  first | exact ⟨(), rfl, hw⟩ | exact ⟨(), rfl, trivial, hw⟩
set_option maxHeartbeats 1000000 in
theorem bBusy_any (x : BkR) (sl : Int) (h64 : ∀ o ∈ x.l, o.h < 18446744073709551616) (hl : x.l.length ≤ 100000) (W : World) (hst : St (feet (bkL x)) W (bkL x) W) :
    Calls Try.prog 58 #[.pointer (some ⟨x.b, 0, none⟩), .int .i64 sl] W
    fun en w' => ∃ i : Unit, en = .returned (.bool (busyB x.l sl)) ∧ True ∧ St (feet (bkL x)) W (bkL x) w' := by
  obtain ⟨M, hM⟩ : ∃ M, feet (bkL x) = M := ⟨_, rfl⟩
  rw [hM] at hst ⊢
  obtain ⟨b, sb, LA, ln, lc, EA, en, ec, st, l, E⟩ := x
  unfold bkL at hst
  dsimp only at hst hl h64 ⊢
  clear hM
  have hlen : l.length = ln := by have := (Sl.of_row hst (nth_mem (k := 2) rfl)).len; rw [boCells_len] at this; omega
  refine calls_cv (M := M) (n := 26) [.tmp 4] rfl Try.func58 rfl rfl (Nat.le_of_ble_eq_true rfl)  hst ?_
  refine cv_seq_k fun K hK => ?_
  refine cv_region_then rfl ?_
  simp -implicitDefEqProofs (disch := first | omega | decide) only [seval, -Int.reducePow, -Nat.reducePow, cC, pv, binv, sHjD1, undef]
  refine hK _ _ ?_
  clear hK K
  refine cv_seq_k fun K hK => ?_
  refine cv_seq_k fun K hK => ?_
  refine cv_region_then rfl ?_
  simp -implicitDefEqProofs (disch := first | omega | decide) only [seval, -Int.reducePow, -Nat.reducePow, cC, pv, binv, sHjD1, undef]
  refine hK _ _ ?_
  clear hK K
  refine cv_gen fun G3 hG => ?_
  have g3_0 := congrFun hG 0
  have g3_1 := congrFun hG 1
  have g3_5 := congrFun hG 5
  clear hG
  try simp -implicitDefEqProofs (disch := first | omega | decide) only [seval, -Int.reducePow, -Nat.reducePow, cC, pv, binv, sHjD1, undef] at g3_0 g3_1 g3_5
  have g3 := And.intro g3_0 (And.intro g3_1 g3_5)
  refine cv_block ?_
  refine cv_loop (fun F' L' => ∃ (i : Nat), F' 0 = G3 0 ∧ F' 1 = G3 1 ∧ F' 5 = .int .i64 (i : Int) ∧ L' = bkL ⟨b, sb, LA, ln, lc, EA, en, ec, st, l, E⟩ ∧ i ≤ ln ∧ (l.take i).findIdx? (fun o => decide ((slotF o.h : Int) = sl)) = none) (fun F' L' => 200000 - (intOf (F' 5)).toNat) ?_ ?_
  · refine ⟨0, ?_⟩
    simp -implicitDefEqProofs (disch := first | omega | decide) only [seval, -Int.reducePow, -Nat.reducePow, cC, pv, binv, sHjD1, undef, g3]
    exact ⟨rfl, Nat.zero_le _, rfl⟩
  intro G4 L' hI
  obtain ⟨i, q0, q1, q5, rfl, ⟨hi, hfn⟩⟩ := hI
  have g4_0 := q0.trans g3_0
  have g4_1 := q1.trans g3_1
  have g4_5 := q5
  clear q0 q1 q5
  have g4 := And.intro g4_0 (And.intro g4_1 g4_5)
  unfold bkL
  dsimp only
  refine cv_seq_k fun K hK => ?_
  refine cv_seq_k fun K hK => ?_
  refine cv_region_then rfl ?_
  simp -implicitDefEqProofs (disch := first | omega | decide) only [seval, -Int.reducePow, -Nat.reducePow, cC, pv, binv, sHjD1, undef, g3, g4]
  refine hK _ _ ?_
  clear hK K
  refine cv_cond ?_
  simp -implicitDefEqProofs (disch := first | omega | decide) only [seval, -Int.reducePow, -Nat.reducePow, cC, pv, binv, sHjD1, undef, g3, g4]
  refine ⟨fun hc => ?_, fun hc => ?_⟩
  · refine cv_skip ?_
    try simp only [blockQ, thenQ]
    have hit : i < ln := by have := of_decide_eq_true ‹decide ((i : Int) < (ln : Int)) = true›; omega
    obtain ⟨e, he⟩ : ∃ e, l[i]? = some e := ⟨_, List.getElem?_eq_getElem (by omega)⟩
    refine hK _ _ ?_
    clear hK K
    refine cv_rowA 2 rfl (by omega) fun g hAA hg hNN => ?_
    subst hAA
    simp only [List.eraseIdx_cons_zero, List.eraseIdx_cons_succ, neB_nil, neB_blk, neB_row, neB_snap, and_true, List.not_mem_nil, or_false, sHjD1, undef] at hNN hg
    replace hg := And.intro hg hNN
    clear hNN
    refine cv_seq_k fun K hK => ?_
    refine cv_block ?_
    refine cv_seq_k fun K hK => ?_
    refine cv_region_then rfl ?_
    simp -implicitDefEqProofs (disch := first | omega | decide) only [seval, -Int.reducePow, -Nat.reducePow, cC, pv, binv, sHjD1, undef, g3, g4]
    refine ⟨_, ld_row1 (m := 1) (i := i * 6 + 0) (v := .int .u64 (e.h : Int)) (.tail _ (.tail _ (.head _))) rfl (flGet boc_len he (by omega)), fun tok htok => ?_⟩
    subst htok
    simp -implicitDefEqProofs (disch := first | omega | decide) only [seval, -Int.reducePow, -Nat.reducePow, cC, pv, binv, sHjD1, undef, g3, g4]
    have he64 := h64 e (List.mem_of_getElem? he)
    refine callV_ret (fun w hw => rslot_any e.h he64 w) ?_
    simp -implicitDefEqProofs (disch := first | omega | decide) only [seval, -Int.reducePow, -Nat.reducePow, cC, pv, binv, sHjD1, undef, g3, g4]
    refine hK _ _ ?_
    clear hK K
    refine cv_cond ?_
    by_cases hc : (slotF e.h : Int) = sl
    · simp -implicitDefEqProofs (disch := first | omega | decide) only [seval, -Int.reducePow, -Nat.reducePow, cC, pv, binv, sHjD1, undef, hc, g3, g4]
      refine cv_seq_k fun K hK => ?_
      refine cv_region_then rfl ?_
      simp -implicitDefEqProofs (disch := first | omega | decide) only [seval, -Int.reducePow, -Nat.reducePow, cC, pv, binv, sHjD1, undef, g3, g4]
      refine hK _ _ ?_
      clear hK K
      refine cv_ret ⟨_, (by simp -implicitDefEqProofs (disch := first | omega | decide) only [seval, -Int.reducePow, -Nat.reducePow, cC, pv, binv, sHjD1, undef, g3, g4]; rfl), fun w hw => ?_⟩
      have hfd : busyB l sl = true := List.any_eq_true.2 ⟨e, List.mem_of_getElem? he, by simpa using hc⟩
      rw [hfd]
      first | exact ⟨(), rfl, hw⟩ | exact ⟨(), rfl, trivial, hw⟩
    · simp -implicitDefEqProofs (disch := first | omega | decide) only [seval, -Int.reducePow, -Nat.reducePow, cC, pv, binv, sHjD1, undef, hc, g3, g4]
      refine cv_skip ?_
      try simp only [blockQ, thenQ]
      refine hK _ _ ?_
      clear hK K
      refine cv_region_then rfl ?_
      simp -implicitDefEqProofs (disch := first | omega | decide) only [seval, -Int.reducePow, -Nat.reducePow, cC, pv, binv, sHjD1, undef, g3, g4]
      refine ⟨⟨i + 1, ?_⟩, ?_⟩
      · simp -implicitDefEqProofs (disch := first | omega | decide) only [seval, -Int.reducePow, -Nat.reducePow, cC, pv, binv, sHjD1, undef, Int.natCast_add, g3, g4]
        exact ⟨by omega, findIdx_step he hfn (by simpa using hc)⟩
      · simp only [intOf]; omega
  refine cv_exit ?_
  simp only [blockQ, thenQ, if_true, ite_true]
  clear hK K
  refine hK _ _ ?_
  clear hK K
  have hin : i = ln := by have := of_decide_eq_false ‹decide ((i : Int) < (ln : Int)) = false›; omega
  subst hin
  rw [List.take_of_length_le (by omega)] at hfn
  have hfd : busyB l sl = false := by
    rw [List.findIdx?_eq_none_iff] at hfn
    exact List.any_eq_false.2 fun o ho => by simpa using hfn o ho
  refine cv_seq_k fun K hK => ?_
  refine cv_region_then rfl ?_
  simp -implicitDefEqProofs (disch := first | omega | decide) only [seval, -Int.reducePow, -Nat.reducePow, cC, pv, binv, sHjD1, undef, g3, g4]
  refine hK _ _ ?_
  clear hK K
  refine cv_ret ⟨_, (by simp -implicitDefEqProofs (disch := first | omega | decide) only [seval, -Int.reducePow, -Nat.reducePow, cC, pv, binv, sHjD1, undef, g3, g4]; rfl), fun w hw => ?_⟩
  rw [hfd]
  first | exact ⟨(), rfl, hw⟩ | exact ⟨(), rfl, trivial, hw⟩
set_option maxHeartbeats 1000000 in
theorem bAlive_any (x : BkR) (p : Nat) (W : World) (hst : St (feet (bkL x)) W (bkL x) W) (hs : x.st.length = 65) :
    Calls Try.prog 79 #[.pointer (some ⟨x.b, 0, none⟩), .int .u64 (p : Int)] W
    fun en w' => ∃ i : Unit, en = .returned (.bool (decide (1 ≤ p) && decide (p ≤ 64) && decide (x.st[p]? = some 1))) ∧ True ∧ St (feet (bkL x)) W (bkL x) w' := by
  obtain ⟨M, hM⟩ : ∃ M, feet (bkL x) = M := ⟨_, rfl⟩
  rw [hM] at hst ⊢
  obtain ⟨b, sb, LA, ln, lc, EA, en, ec, st, l, E⟩ := x
  unfold bkL at hst
  dsimp only at hst hs ⊢
  clear hM
  have hap := hst.facts
  simp only [factL_blk, factL_row, neR_row, neR_nil] at hap
  have hsb : sb ≠ b := hap.2.2.1.1 sb rfl
  clear hap
  refine calls_cv (M := M) (n := 21) [.tmp 4] rfl Try.func79 rfl rfl (Nat.le_of_ble_eq_true rfl)  hst ?_
  refine cv_seq_k fun K hK => ?_
  refine cv_region_then rfl ?_
  simp -implicitDefEqProofs (disch := first | omega | decide) only [seval, -Int.reducePow, -Nat.reducePow, cC, pv, binv, sHjD1, undef]
  refine hK _ _ ?_
  clear hK K
  refine cv_gen fun G5 hG => ?_
  have g5_0 := congrFun hG 0
  have g5_1 := congrFun hG 1
  clear hG
  try simp -implicitDefEqProofs (disch := first | omega | decide) only [seval, -Int.reducePow, -Nat.reducePow, cC, pv, binv, sHjD1, undef] at g5_0 g5_1
  have g5 := And.intro g5_0 g5_1
  refine cv_seq_k fun K hK => ?_
  refine cv_cut (fun _ _ => True) (fun F' L' => F' 4 = .bool (decide (1 ≤ p) && decide (p ≤ 64) && decide (st[p]? = some 1)) ∧ L' = bkL ⟨b, sb, LA, ln, lc, EA, en, ec, st, l, E⟩) ?_ ?_
  · unfold bkL
    dsimp only
    by_cases h1 : 1 ≤ p
    · have h1' : (1 : Int) ≤ (p : Int) := by omega
      by_cases h2 : p ≤ 64
      · have h2' : (p : Int) ≤ 64 := by omega
        obtain ⟨v, hv⟩ : ∃ v, st[p]? = some v := ⟨_, List.getElem?_eq_getElem (by omega)⟩
        have hvc : (stCells st)[p]? = some (.int .i64 v) := by unfold stCells; rw [List.getElem?_map, hv]; rfl
        refine cv_region_then rfl ?_
        simp -implicitDefEqProofs (disch := first | omega | decide) only [seval, -Int.reducePow, -Nat.reducePow, cC, pv, binv, sHjD1, undef, h1', h2', g5]
        refine ⟨_, ld_row1 (m := 1) (i := p) (v := .int .i64 v) (.tail _ (.head _)) rfl hvc, fun tok htok => ?_⟩
        subst htok
        simp -implicitDefEqProofs (disch := first | omega | decide) only [seval, -Int.reducePow, -Nat.reducePow, cC, pv, binv, sHjD1, undef, g5]
        simp [h1, h2, hv]
      · have h2' : ¬ (p : Int) ≤ 64 := by omega
        refine cv_region_then rfl ?_
        simp -implicitDefEqProofs (disch := first | omega | decide) only [seval, -Int.reducePow, -Nat.reducePow, cC, pv, binv, sHjD1, undef, h1', h2', g5]
        simp [h2]
    · have h1' : ¬ (1 : Int) ≤ (p : Int) := by omega
      refine cv_region_then rfl ?_
      simp -implicitDefEqProofs (disch := first | omega | decide) only [seval, -Int.reducePow, -Nat.reducePow, cC, pv, binv, sHjD1, undef, h1', g5]
      simp [h1]
  intro G6 L' _ hF
  obtain ⟨q4, rfl⟩ := hF
  have g6_4 := q4
  clear q4
  have g6 := g6_4
  refine hK _ _ ?_
  clear hK K
  refine cv_ret ⟨_, (by simp -implicitDefEqProofs (disch := first | omega | decide) only [seval, -Int.reducePow, -Nat.reducePow, cC, pv, binv, sHjD1, undef, g6]; rfl), fun w hw => ?_⟩
  first | exact ⟨(), rfl, hw⟩ | exact ⟨(), rfl, trivial, hw⟩
end Go.Proofs.Ytaifnipgefkemaa
/- The reference's book: drop and add. -/
namespace Go.Proofs.Ytaifnipgefkemaa
open Go.RowKit Go.Shelf
set_option linter.unusedVariables false
set_option linter.unusedSimpArgs false
set_option maxRecDepth 100000
def tupB (_ : BkR) : Value := .tuple #[]
/-- What a method leaves alone. -/
structure Bks (x y : BkR) : Prop where
  b : y.b = x.b
  sb : y.sb = x.sb
theorem ones_bo (l : List BO) : ones (boCells l) = true := by
  induction l with
  | nil => rfl
  | cons o l ih => simp only [boCells, List.flatMap_cons, ones, List.all_append, boc, List.all_cons, List.all_nil, Value.oneCell', Bool.and_true, Bool.true_and] at ih ⊢; exact ih
theorem boCells_app (a b : List BO) : boCells (a ++ b) = boCells a ++ boCells b := by simp [boCells]
theorem boCells_take (l : List BO) (i : Nat) : (boCells l).take (i * 6) = boCells (l.take i) := by
  by_cases h : i ≤ l.length
  · conv => lhs; rw [← List.take_append_drop i l, boCells_app]
    exact List.take_left' (by rw [boCells_len, List.length_take, Nat.min_eq_left h])
  · rw [List.take_of_length_le (by rw [boCells_len]; omega), List.take_of_length_le (by omega)]
theorem boCells_drop (l : List BO) (i : Nat) : (boCells l).drop (i * 6) = boCells (l.drop i) := by
  by_cases h : i ≤ l.length
  · conv => lhs; rw [← List.take_append_drop i l, boCells_app]
    exact List.drop_left' (by rw [boCells_len, List.length_take, Nat.min_eq_left h])
  · rw [List.drop_of_length_le (by rw [boCells_len]; omega), List.drop_of_length_le (by omega)]
    rfl
theorem perm_bk (a s l e : Res) : ([s, l] ++ [a, e]).Perm [a, s, l, e] := List.perm_middle (l₁ := [s, l])
def endL3 (b : Nat) (s0 s1 : Value) (i : (Option Addr × Nat × Nat) × LgR) : List Res := lgL b s0 s1 i.2
set_option maxRecDepth 100000 in
theorem sHjE1 : type_of% (And.intro (And.intro @Nat.mul_one @wrap_in) (And.intro @cMv @cM)) := (And.intro (And.intro @Nat.mul_one @wrap_in) (And.intro @cMv @cM))
set_option maxHeartbeats 1000000 in
theorem bDrop_any (x : BkR) (i : Nat) (o : BO) (ho : x.l[i]? = some o) (h64 : o.h < 18446744073709551616) (hl : x.l.length ≤ 100000) (hE : x.E.length ≤ 100000) (W : World) (hst : St (feet (bkL x)) W (bkL x) W) :
    Calls Try.prog 75 #[.pointer (some ⟨x.b, 0, none⟩), .int .i64 (i : Int)] W
    fun en w' => ∃ y : BkR, en = .returned (tupB y) ∧ (Bks x y ∧ y.st = x.st ∧ y.l = x.l.eraseIdx i ∧ y.E = x.E.filter fun b => !decide (b.ob = (slotF o.h : Int))) ∧ St (feet (bkL x)) W (bkL y) w' := by
  obtain ⟨M, hM⟩ : ∃ M, feet (bkL x) = M := ⟨_, rfl⟩
  rw [hM] at hst ⊢
  obtain ⟨b, sb, LA, ln, lc, EA, en, ec, st, l, E⟩ := x
  unfold bkL at hst
  dsimp only at hst hl hE ho ⊢
  clear hM
  have hlen : l.length = ln := by have := (Sl.of_row hst (nth_mem (k := 2) rfl)).len; rw [boCells_len] at this; omega
  have hil : i < ln := by have := (List.getElem?_eq_some_iff.1 ho).1; omega
  refine calls_cv (M := M) (n := 36) [] rfl Try.func75 rfl rfl (Nat.le_of_ble_eq_true rfl)  hst ?_
  refine cv_cap 2 rfl fun hcap hcmx => ?_
  refine cv_rowA 2 rfl (by omega) fun g hAA hg hNN => ?_
  subst hAA
  simp only [List.eraseIdx_cons_zero, List.eraseIdx_cons_succ, neB_nil, neB_blk, neB_row, neB_snap, and_true, List.not_mem_nil, or_false, sHjE1, undef] at hNN hg
  replace hg := And.intro hg hNN
  clear hNN
  have hti : ((i : Int) + 1).toNat = i + 1 := by omega
  refine cv_seq_k fun K hK => ?_
  refine cv_draw [(true, 0), (true, 1), (true, 2), (true, 3), (true, 4), (true, 5), (true, 6), (true, 7), (true, 8), (true, 9), (true, 10), (false, 11), (false, 12)] [12] mixA rfl (by kernel_rfl) (by kernel_rfl) rfl rfl ?_
  simp -implicitDefEqProofs (disch := first | omega | decide) only [seval, -Int.reducePow, -Nat.reducePow, cC, pv, binv, sHjE1, undef]
  refine ⟨_, ld_row1 (m := 1) (i := i * 6 + 0) (v := .int .u64 (o.h : Int)) (.tail _ (.tail _ (.head _))) rfl (flGet boc_len ho (by omega)), fun tok htok => ?_⟩
  subst htok
  simp -implicitDefEqProofs (disch := first | omega | decide) only [seval, -Int.reducePow, -Nat.reducePow, cC, pv, binv, sHjE1, undef]
  refine callV_ret (fun w hw => rslot_any o.h h64 w) ?_
  simp -implicitDefEqProofs (disch := first | omega | decide) only [seval, -Int.reducePow, -Nat.reducePow, cC, pv, binv, sHjE1, undef]
  refine callV_sub [.row (.slice (some ⟨sb, 0, none⟩) 65 65) 3 1 65 (stCells st), .row (.slice (some ⟨g, 0, none⟩) ln lc) 43 6 ln (boCells l)] (lgL b (.slice (some ⟨sb, 0, none⟩) 65 65) (.slice (some ⟨g, 0, none⟩) ln lc) ⟨EA, en, ec, E⟩) (perm_bk _ _ _ _) endV3 (endL3 b (.slice (some ⟨sb, 0, none⟩) 65 65) (.slice (some ⟨g, 0, none⟩) ln lc)) _ (fun w hw => rEndObject_any b _ _ ⟨EA, en, ec, E⟩ (slotF o.h) hE w hw) ?_
  rintro ⟨vv, ⟨A2, n2, c2, E2⟩⟩ hE2
  dsimp only at hE2
  unfold endL3 lgL
  simp -implicitDefEqProofs (disch := first | omega | decide) only [seval, -Int.reducePow, -Nat.reducePow, cC, pv, binv, sHjE1, undef]
  refine hK _ _ ?_
  clear hK K
  refine cv_gen fun G1 hG => ?_
  have g1_0 := congrFun hG 0
  have g1_1 := congrFun hG 1
  clear hG
  try simp -implicitDefEqProofs (disch := first | omega | decide) only [seval, -Int.reducePow, -Nat.reducePow, cC, pv, binv, sHjE1, undef] at g1_0 g1_1
  have g1 := And.intro g1_0 g1_1
  refine cv_q ?_
  refine cv_draw_of (pickL [0] _) (fun w hw => hw.pick (by decide)) (by simp only [pickL, nth, suf_cons, suf_nil, List.mem_cons, true_or, or_true, and_true, eq_self]) [(true, 0), (true, 2), (true, 3), (true, 4), (true, 5), (true, 6), (true, 7), (true, 9), (true, 10), (true, 11), (true, 12), (true, 13), (true, 14), (true, 15), (false, 1), (false, 8), (false, 16), (true, 17), (true, 18), (false, 19)] [19] mixA rfl (by kernel_rfl) (by kernel_rfl) rfl rfl ?_
  simp -implicitDefEqProofs (disch := first | omega | decide) only [seval, -Int.reducePow, -Nat.reducePow, cC, pv, binv, sHjE1, undef, hti, g1]
  intro bD hbD hfD
  refine appV_lit 0 tap30 rfl rfl (fun w hw => ((hw.slr 4 rfl).take (k := i) (by omega)).reads) (by rw [boCells_take]; exact ones_bo _) (by omega) (by omega) ?_
  intro A6 c6 hl6 hr6
  simp -implicitDefEqProofs (disch := first | omega | decide) only [seval, -Int.reducePow, -Nat.reducePow, cC, pv, binv, sHjE1, undef, Nat.zero_add, List.nil_append, g1]
  refine appV_at 0 tap30 rfl (fun w hw => ((hw.slr 4 rfl).drop (k := i + 1) (by omega)).reads) (by rw [boCells_drop]; exact ones_bo _) (by omega) (by omega) ?_
  intro A7 c7 hl7 hr7
  simp -implicitDefEqProofs (disch := first | omega | decide) only [seval, -Int.reducePow, -Nat.reducePow, cC, pv, binv, sHjE1, undef, g1]
  refine ⟨_, rfl, fun w hw => ?_⟩
  have hE3 : boCells (l.eraseIdx i) = (boCells l).take (i * 6) ++ (boCells l).drop ((i + 1) * 6) := by rw [boCells_take, boCells_drop, ← boCells_app, List.eraseIdx_eq_take_drop_succ]
  rw [← hE3] at hw
  have h9 := hw.pick (ix := [1, 3, 0, 2]) (by decide)
  simp only [pickL, nth] at h9
  exact ⟨⟨b, sb, A7, _, c7, A2, n2, c2, st, l.eraseIdx i, E2⟩, rfl, ⟨⟨rfl, rfl⟩, rfl, rfl, hE2⟩, h9⟩
structure AddOk (o : BO) (l out P Q : List BO) : Prop where
  rest : l = P ++ Q
  out : out = P ++ o :: Q
  gt : ∀ q ∈ Q, slotF o.h < slotF q.h
  le : ∀ p, P.getLast? = some p → slotF p.h ≤ slotF o.h
theorem boCells_snoc (l : List BO) (o : BO) : boCells (l ++ [o]) = boCells l ++ [.int .u64 (o.h : Int), .int .i64 o.ow, .int .i64 0, .int .i64 0, .slice none 0 0, .slice none 0 0] := by rw [boCells_app]; rfl
def boV (o : BO) : Value := .agg #[.int .u64 (o.h : Int), .int .i64 o.ow, .int .i64 0, .int .i64 0, .slice none 0 0, .slice none 0 0]
set_option maxHeartbeats 4000000 in
theorem bAdd_any (x : BkR) (o : BO) (h64o : o.h < 18446744073709551616) (h64 : ∀ o ∈ x.l, o.h < 18446744073709551616) (hl : x.l.length ≤ 100000) (W : World) (hst : St (feet (bkL x)) W (bkL x) W) :
    Calls Try.prog 59 #[.pointer (some ⟨x.b, 0, none⟩), boV o] W
    fun en w' => ∃ y : BkR, en = .returned (tupB y) ∧ (Bks x y ∧ y.st = x.st ∧ (∃ P Q, AddOk o x.l y.l P Q) ∧ y.E = x.E) ∧ St (feet (bkL x)) W (bkL y) w' := by
  obtain ⟨M, hM⟩ : ∃ M, feet (bkL x) = M := ⟨_, rfl⟩
  rw [hM] at hst ⊢
  obtain ⟨b, sb, LA, ln, lc, EA, en, ec, st, l, E⟩ := x
  unfold bkL at hst
  dsimp only at hst hl h64 ⊢
  clear hM
  have hlen : l.length = ln := by have := (Sl.of_row hst (nth_mem (k := 2) rfl)).len; rw [boCells_len] at this; omega
  refine calls_cv (M := M) (n := 58) [] rfl Try.func59 rfl rfl (Nat.le_of_ble_eq_true rfl)  hst ?_
  refine cv_seq_k fun K hK => ?_
  refine cv_region_then rfl ?_
  simp -implicitDefEqProofs (disch := first | omega | decide) only [seval, -Int.reducePow, -Nat.reducePow, cC, pv, binv, sHjE1, undef, boV]
  intro b3 hb3 hf3
  refine hK _ _ ?_
  clear hK K
  refine cv_gen fun G2 hG => ?_
  have g2_0 := congrFun hG 0
  have g2_3 := congrFun hG 3
  clear hG
  try simp -implicitDefEqProofs (disch := first | omega | decide) only [seval, -Int.reducePow, -Nat.reducePow, cC, pv, binv, sHjE1, undef] at g2_0 g2_3
  have g2 := And.intro g2_0 g2_3
  refine cv_seq_k fun K hK => ?_
  refine cv_cut (fun _ _ => True) (fun F' L' => ∃ (A2 : Option Addr) (n2 c2 : Nat), F' 0 = G2 0 ∧ F' 4 = .slice A2 n2 c2 ∧ L' = [.row (.slice A2 n2 c2) 43 6 n2 (boCells (l ++ [o])), .blk b 78 [.slice (some ⟨sb, 0, none⟩) 65 65, .slice LA ln lc, .slice EA en ec], .row (.slice (some ⟨sb, 0, none⟩) 65 65) 3 1 65 (stCells st), .row (.slice EA en ec) 82 4 en (bwCells E)] ∧ n2 = ln + 1) ?_ ?_
  · refine cv_more [0, 1] (by decide) (by simp only [pickL, nth, suf_cons, suf_nil, List.mem_cons, true_or, or_true, and_true, eq_self]) (.rd 1 (.rd 2 (.rd 3 (.rd 4 (.rd 6 (.more 0 (.more 5 (.act 7 (.act 8 (.rd 9 (.done)))) (.act 7 (.act 5 (.act 8 (.rd 9 (.done)))))) (.act 7 (.act 0 (.act 5 (.act 8 (.rd 9 (.done)))))))))))) [] mixA rfl (by kernel_rfl) (by kernel_rfl) (by kernel_rfl) (by kernel_rfl) ?_
    simp only [pickL, nth]
    simp -implicitDefEqProofs (disch := first | omega | decide) only [seval, -Int.reducePow, -Nat.reducePow, cC, pv, binv, sHjE1, undef, g2]
    have o1 := ones_bo l
    refine And.intro ?_ ?_
    · intro bA_ hbA_ hfA_
      refine And.intro ?_ ?_
      · refine appV_lit 0 tap30 rfl rfl (fun w hw => src_row (nth_mem (k := 4) rfl) hw) o1 (by omega) (by omega) ?_
        intro A3 c3 hl3_ hr3_
        simp -implicitDefEqProofs (disch := first | omega | decide) only [seval, -Int.reducePow, -Nat.reducePow, cC, pv, binv, sHjE1, undef, Nat.zero_add, List.nil_append, g2]
        intro bE_ hbE_ hfE_
        refine appV_at 1 tap30 rfl (fun w hw => src_blk (size := 6) (nth_mem (k := 0) rfl) rfl hw) rfl (by omega) (by omega) ?_
        intro A4 c4 hl4_ hr4_
        simp -implicitDefEqProofs (disch := first | omega | decide) only [seval, -Int.reducePow, -Nat.reducePow, cC, pv, binv, sHjE1, undef, g2]
        refine ⟨[0, 3, 4, 6], by decide, ?_⟩
        simp only [pickL, nth]
        refine ⟨A4, ln + 1, c4, ?_⟩
        simp -implicitDefEqProofs (disch := first | omega | decide) only [seval, -Int.reducePow, -Nat.reducePow, cC, pv, binv, sHjE1, undef, boCells_snoc, g2]
      · intro bE_ hbE_ hfE_
        refine appV_lit 1 tap30 rfl rfl (fun w hw => src_row (nth_mem (k := 5) rfl) hw) o1 (by omega) (by omega) ?_
        intro A3 c3 hl3_ hr3_
        simp -implicitDefEqProofs (disch := first | omega | decide) only [seval, -Int.reducePow, -Nat.reducePow, cC, pv, binv, sHjE1, undef, Nat.zero_add, List.nil_append, g2]
        refine appV_at 0 tap30 rfl (fun w hw => src_blk (size := 6) (nth_mem (k := 1) rfl) rfl hw) rfl (by omega) (by omega) ?_
        intro A4 c4 hl4_ hr4_
        simp -implicitDefEqProofs (disch := first | omega | decide) only [seval, -Int.reducePow, -Nat.reducePow, cC, pv, binv, sHjE1, undef, g2]
        refine ⟨[0, 3, 4, 6], by decide, ?_⟩
        simp only [pickL, nth]
        refine ⟨A4, ln + 1, c4, ?_⟩
        simp -implicitDefEqProofs (disch := first | omega | decide) only [seval, -Int.reducePow, -Nat.reducePow, cC, pv, binv, sHjE1, undef, boCells_snoc, g2]
    · intro bE_ hbE_ hfE_ bA_ hbA_ hfA_
      refine appV_lit 0 tap30 rfl rfl (fun w hw => src_row (nth_mem (k := 5) rfl) hw) o1 (by omega) (by omega) ?_
      intro A3 c3 hl3_ hr3_
      simp -implicitDefEqProofs (disch := first | omega | decide) only [seval, -Int.reducePow, -Nat.reducePow, cC, pv, binv, sHjE1, undef, Nat.zero_add, List.nil_append, g2]
      refine appV_at 0 tap30 rfl (fun w hw => src_blk (size := 6) (nth_mem (k := 1) rfl) rfl hw) rfl (by omega) (by omega) ?_
      intro A4 c4 hl4_ hr4_
      simp -implicitDefEqProofs (disch := first | omega | decide) only [seval, -Int.reducePow, -Nat.reducePow, cC, pv, binv, sHjE1, undef, g2]
      refine ⟨[0, 3, 4, 6], by decide, ?_⟩
      simp only [pickL, nth]
      refine ⟨A4, ln + 1, c4, ?_⟩
      simp -implicitDefEqProofs (disch := first | omega | decide) only [seval, -Int.reducePow, -Nat.reducePow, cC, pv, binv, sHjE1, undef, boCells_snoc, g2]
  intro G3 L' _ hF
  obtain ⟨A2, n2, c2, q0, q4, rfl, hn2⟩ := hF
  have g3_0 := q0.trans g2_0
  have g3_4 := q4
  clear q0 q4
  have g3 := And.intro g3_0 g3_4
  refine hK _ _ ?_
  clear hK K
  refine cv_seq_k fun K hK => ?_
  refine cv_seq_k fun K hK => ?_
  refine cv_region_then rfl ?_
  simp -implicitDefEqProofs (disch := first | omega | decide) only [seval, -Int.reducePow, -Nat.reducePow, cC, pv, binv, sHjE1, undef, g3]
  refine hK _ _ ?_
  clear hK K
  refine cv_gen fun G4 hG => ?_
  have g4_0 := congrFun hG 0
  have g4_4 := congrFun hG 4
  have g4_5 := congrFun hG 5
  clear hG
  try simp -implicitDefEqProofs (disch := first | omega | decide) only [seval, -Int.reducePow, -Nat.reducePow, cC, pv, binv, sHjE1, undef, g3] at g4_0 g4_4 g4_5
  have g4 := And.intro g4_0 (And.intro g4_4 g4_5)
  refine cv_rowA 0 rfl (by omega) fun g hAA hg hNN => ?_
  subst hAA
  simp only [List.eraseIdx_cons_zero, List.eraseIdx_cons_succ, neB_nil, neB_blk, neB_row, neB_snap, and_true, List.not_mem_nil, or_false, sHjE1, undef] at hNN hg
  replace hg := And.intro hg hNN
  clear hNN
  refine cv_block ?_
  refine cv_loop (fun F' L' => ∃ (k : Nat) (P Q : List BO), F' 0 = G4 0 ∧ F' 4 = G4 4 ∧ F' 5 = .int .i64 (k : Int) ∧ L' = [.row (.slice (some ⟨g, 0, none⟩) n2 c2) 43 6 n2 (boCells (P ++ o :: Q)), .blk b 78 [.slice (some ⟨sb, 0, none⟩) 65 65, .slice LA ln lc, .slice EA en ec], .row (.slice (some ⟨sb, 0, none⟩) 65 65) 3 1 65 (stCells st), .row (.slice EA en ec) 82 4 en (bwCells E)] ∧ k = P.length ∧ l = P ++ Q ∧ ∀ q ∈ Q, slotF o.h < slotF q.h) (fun F' L' => (intOf (F' 5)).toNat) ?_ ?_
  · refine ⟨l.length, l, [], ?_⟩
    simp -implicitDefEqProofs (disch := first | omega | decide) only [seval, -Int.reducePow, -Nat.reducePow, cC, pv, binv, sHjE1, undef, hn2, Int.natCast_add, g4]
    exact ⟨congrArg (Value.int _) (by omega), fun q hq => by cases hq⟩
  intro G5 L' hI
  obtain ⟨k, P, Q, q0, q4, q5, rfl, ⟨hk, hPQ, hQ⟩⟩ := hI
  have g5_0 := q0.trans g4_0
  have g5_4 := q4.trans g4_4
  have g5_5 := q5
  clear q0 q4 q5
  have g5 := And.intro g5_0 (And.intro g5_4 g5_5)
  have hPl : P.length + Q.length = l.length := by rw [hPQ, List.length_append]
  rcases nil_snoc P with rfl | ⟨P', p, rfl⟩
  · have k0 : k = 0 := by simpa using hk
    subst k0
    refine cv_seq_k fun K hK => ?_
    refine cv_seq_k fun K hK => ?_
    refine cv_draw [(true, 0), (true, 1), (true, 2), (true, 3), (true, 4), (true, 5), (true, 6), (true, 7), (true, 8), (true, 10), (true, 11), (true, 12), (true, 13), (true, 14), (false, 9), (false, 15), (true, 16), (true, 17)] [] mixA rfl (by kernel_rfl) (by kernel_rfl) rfl rfl ?_
    simp -implicitDefEqProofs (disch := first | omega | decide) only [seval, -Int.reducePow, -Nat.reducePow, cC, pv, binv, sHjE1, undef, g4, g5]
    refine hK _ _ ?_
    clear hK K
    refine cv_cond ?_
    simp -implicitDefEqProofs (disch := first | omega | decide) only [seval, -Int.reducePow, -Nat.reducePow, cC, pv, binv, sHjE1, undef, g4, g5]
    refine cv_exit ?_
    simp only [blockQ, thenQ, if_true, ite_true]
    clear hK K
    refine hK _ _ ?_
    clear hK K
    refine cv_region_q rfl ?_
    simp -implicitDefEqProofs (disch := first | omega | decide) only [seval, -Int.reducePow, -Nat.reducePow, cC, pv, binv, sHjE1, undef, g4, g5]
    refine ⟨_, rfl, fun w hw => ?_⟩
    have h9 := hw.pick (ix := [1, 2, 0, 3]) (by decide)
    simp only [pickL, nth] at h9
    exact ⟨⟨b, sb, some ⟨g, 0, none⟩, n2, c2, EA, en, ec, st, _, E⟩, rfl, ⟨⟨rfl, rfl⟩, rfl, ⟨[], Q, hPQ, rfl, hQ, fun q hq => by simp at hq⟩, rfl⟩, h9⟩
  have hk2 : k = P'.length + 1 := by simpa using hk
  have hpos : decide ((0 : Int) < (k : Int)) = true := decide_eq_true (by omega)
  have ek : IntKind.i64.wrap ((k : Int) - 1) = (P'.length : Int) := by rw [wrap_in (by omega) (by omega)]; omega
  have hP2 : P'.length < n2 ∧ k < n2 := by simp at hPl; omega
  have hp64 := h64 p (by rw [hPQ]; simp)
  have r1 : ((P' ++ [p]) ++ o :: Q)[P'.length]? = some p := mid_get2 P' Q p o
  have r2 : ((P' ++ [p]) ++ o :: Q)[k]? = some o := by
    have := mid_get (P' ++ [p]) Q o
    rwa [← hk] at this
  have q10 := flGet (k := 0) boc_len r1 (by omega)
  have q20 := flGet (k := 0) boc_len r2 (by omega)
  have q3 := flAt boc_len r1
  have q4 := flAt boc_len r2
  obtain ⟨X, hX1⟩ : ∃ X, boCells ((P' ++ [p]) ++ o :: Q) = X := ⟨_, rfl⟩
  rw [hX1]
  rw [← boCells, hX1] at q10 q20 q3 q4
  refine cv_seq_k fun K hK => ?_
  refine cv_seq_k fun K hK => ?_
  refine cv_draw [(true, 0), (true, 1), (true, 2), (true, 3), (true, 4), (true, 5), (true, 6), (true, 7), (true, 8), (true, 10), (true, 11), (true, 12), (true, 13), (true, 14), (false, 9), (false, 15), (true, 16), (true, 17)] [] mixA rfl (by kernel_rfl) (by kernel_rfl) rfl rfl ?_
  simp -implicitDefEqProofs (disch := first | omega | decide) only [seval, -Int.reducePow, -Nat.reducePow, cC, pv, binv, sHjE1, undef, hpos, ek, g4, g5]
  refine ⟨_, ld_row1 (m := 1) (v := .int .u64 (p.h : Int)) (i := P'.length * 6 + 0) (.head _) rfl q10, fun tok htok => ?_⟩
  subst htok
  simp -implicitDefEqProofs (disch := first | omega | decide) only [seval, -Int.reducePow, -Nat.reducePow, cC, pv, binv, sHjE1, undef, hpos, ek, g4, g5]
  refine ⟨_, ld_row1 (m := 1) (v := .int .u64 (o.h : Int)) (i := k * 6 + 0) (.head _) rfl q20, fun tok htok => ?_⟩
  subst htok
  simp -implicitDefEqProofs (disch := first | omega | decide) only [seval, -Int.reducePow, -Nat.reducePow, cC, pv, binv, sHjE1, undef, hpos, ek, g4, g5]
  refine callV_ret (fun w hw => rslot_any p.h hp64 w) ?_
  simp -implicitDefEqProofs (disch := first | omega | decide) only [seval, -Int.reducePow, -Nat.reducePow, cC, pv, binv, sHjE1, undef, g4, g5]
  refine callV_ret (fun w hw => rslot_any o.h h64o w) ?_
  simp -implicitDefEqProofs (disch := first | omega | decide) only [seval, -Int.reducePow, -Nat.reducePow, cC, pv, binv, sHjE1, undef, g4, g5]
  refine hK _ _ ?_
  clear hK K
  refine cv_cond ?_
  simp -implicitDefEqProofs (disch := first | omega | decide) only [seval, -Int.reducePow, -Nat.reducePow, cC, pv, binv, sHjE1, undef, g4, g5]
  refine ⟨fun hc => ?_, fun hc => ?_⟩
  · have hlt : slotF o.h < slotF p.h := by have := of_decide_eq_true hc; omega
    have hQ2 : ∀ q ∈ p :: Q, slotF o.h < slotF q.h := fun q hq => by
      rcases List.mem_cons.1 hq with rfl | hq
      · exact hlt
      · exact hQ q hq
    obtain ⟨X1, hX2⟩ : ∃ X1, boCells (P' ++ o :: o :: Q) = X1 := ⟨_, rfl⟩
    have w1 : X.take (P'.length * 6) ++ [Value.int .u64 (o.h : Int), .int .i64 o.ow, .int .i64 0, .int .i64 0, .slice none 0 0, .slice none 0 0] ++ X.drop (P'.length * 6 + 6) = X1 := by
      have := flPut boc_len P' (o :: Q) p o
      rw [show P' ++ p :: o :: Q = (P' ++ [p]) ++ o :: Q by simp, ← boCells, ← boCells, hX1, hX2] at this
      exact this
    have w2 : X1.take (k * 6) ++ [Value.int .u64 (p.h : Int), .int .i64 p.ow, .int .i64 0, .int .i64 0, .slice none 0 0, .slice none 0 0] ++ X1.drop (k * 6 + 6) = boCells (P' ++ o :: p :: Q) := by
      have := flPut boc_len (P' ++ [o]) Q o p
      rw [show (P' ++ [o]).length = k by simp; omega, show (P' ++ [o]) ++ o :: Q = P' ++ o :: o :: Q by simp, show (P' ++ [o]) ++ p :: Q = P' ++ o :: p :: Q by simp, ← boCells, ← boCells, hX2] at this
      exact this
    have l1 : X.length = n2 * 6 := by rw [← hX1, boCells_len]; simp at hPl ⊢; omega
    have l2 : X1.length = n2 * 6 := by rw [← hX2, boCells_len]; simp at hPl ⊢; omega
    refine cv_skip ?_
    try simp only [blockQ, thenQ]
    refine hK _ _ ?_
    clear hK K
    refine cv_seq_k fun K hK => ?_
    refine cv_block ?_
    refine cv_q ?_
    refine cv_more [] (by decide) (by simp only [pickL, nth, suf_cons, suf_nil, List.mem_cons, true_or, or_true, and_true, eq_self]) (.rd 0 (.rd 1 (.rd 2 (.rd 3 (.rd 4 (.rd 5 (.rd 6 (.rd 7 (.rd 9 (.rd 10 (.rd 11 (.rd 12 (.more 8 (.act 13 (.rd 14 (.act 15 (.rd 16 (.act 17 (.done)))))) (.act 13 (.act 8 (.rd 14 (.act 15 (.rd 16 (.act 17 (.done)))))))))))))))))))) [17] mixA rfl (by kernel_rfl) (by kernel_rfl) (by kernel_rfl) (by kernel_rfl) ?_
    simp only [pickL, nth]
    simp -implicitDefEqProofs (disch := first | omega | decide) only [seval, -Int.reducePow, -Nat.reducePow, cC, pv, binv, sHjE1, undef, ek, g4, g5]
    refine ⟨?_, ?_⟩
    · refine ⟨_, ld_row (i := k * 6) (vs := [.int .u64 (o.h : Int), .int .i64 o.ow, .int .i64 0, .int .i64 0, .slice none 0 0, .slice none 0 0]) (.head _) (by kernel_rfl) q4, fun tok htok => ?_⟩
      subst htok
      simp -implicitDefEqProofs (disch := first | omega | decide) only [seval, -Int.reducePow, -Nat.reducePow, cC, pv, binv, sHjE1, undef, ek, g4, g5]
      refine ⟨_, ld_row (i := P'.length * 6) (vs := [.int .u64 (p.h : Int), .int .i64 p.ow, .int .i64 0, .int .i64 0, .slice none 0 0, .slice none 0 0]) (.head _) (by kernel_rfl) q3, fun tok htok => ?_⟩
      subst htok
      simp -implicitDefEqProofs (disch := first | omega | decide) only [seval, -Int.reducePow, -Nat.reducePow, cC, pv, binv, sHjE1, undef, ek, g4, g5]
      refine ⟨_, sv_rows 0 (i := P'.length * 6) (vs := [.int .u64 (o.h : Int), .int .i64 o.ow, .int .i64 0, .int .i64 0, .slice none 0 0, .slice none 0 0]) rfl (by rw [l1]; show _ + 6 ≤ _; omega) (by kernel_rfl) rfl, fun tok htok => ?_⟩
      subst htok
      simp -implicitDefEqProofs (disch := first | omega | decide) only [seval, -Int.reducePow, -Nat.reducePow, cC, pv, binv, sHjE1, undef, w1, ek, g4, g5]
      refine ⟨_, sv_rows 0 (i := k * 6) (vs := [.int .u64 (p.h : Int), .int .i64 p.ow, .int .i64 0, .int .i64 0, .slice none 0 0, .slice none 0 0]) rfl (by rw [l2]; show _ + 6 ≤ _; omega) (by kernel_rfl) rfl, fun tok htok => ?_⟩
      subst htok
      simp -implicitDefEqProofs (disch := first | omega | decide) only [seval, -Int.reducePow, -Nat.reducePow, cC, pv, binv, sHjE1, undef, w2, ek, g4, g5]
      refine ⟨[0, 1, 2, 3], by decide, ?_⟩
      simp only [pickL, nth]
      refine hK _ _ ?_
      clear hK K
      refine cv_region_then rfl ?_
      simp -implicitDefEqProofs (disch := first | omega | decide) only [seval, -Int.reducePow, -Nat.reducePow, cC, pv, binv, sHjE1, undef, ek, g4, g5]
      refine ⟨⟨P'.length, P', p :: Q, ?_⟩, ?_⟩
      · simp -implicitDefEqProofs (disch := first | omega | decide) only [seval, -Int.reducePow, -Nat.reducePow, cC, pv, binv, sHjE1, undef, g4, g5]
        exact ⟨by rw [hPQ]; simp, fun q hq => hQ2 q (by simpa using hq)⟩
      · simp only [intOf]; omega
    · refine ⟨_, ld_row (i := P'.length * 6) (vs := [.int .u64 (p.h : Int), .int .i64 p.ow, .int .i64 0, .int .i64 0, .slice none 0 0, .slice none 0 0]) (.head _) (by kernel_rfl) q3, fun tok htok => ?_⟩
      subst htok
      simp -implicitDefEqProofs (disch := first | omega | decide) only [seval, -Int.reducePow, -Nat.reducePow, cC, pv, binv, sHjE1, undef, ek, g4, g5]
      refine ⟨_, ld_row (i := k * 6) (vs := [.int .u64 (o.h : Int), .int .i64 o.ow, .int .i64 0, .int .i64 0, .slice none 0 0, .slice none 0 0]) (.head _) (by kernel_rfl) q4, fun tok htok => ?_⟩
      subst htok
      simp -implicitDefEqProofs (disch := first | omega | decide) only [seval, -Int.reducePow, -Nat.reducePow, cC, pv, binv, sHjE1, undef, ek, g4, g5]
      refine ⟨_, sv_rows 0 (i := P'.length * 6) (vs := [.int .u64 (o.h : Int), .int .i64 o.ow, .int .i64 0, .int .i64 0, .slice none 0 0, .slice none 0 0]) rfl (by rw [l1]; show _ + 6 ≤ _; omega) (by kernel_rfl) rfl, fun tok htok => ?_⟩
      subst htok
      simp -implicitDefEqProofs (disch := first | omega | decide) only [seval, -Int.reducePow, -Nat.reducePow, cC, pv, binv, sHjE1, undef, w1, ek, g4, g5]
      refine ⟨_, sv_rows 0 (i := k * 6) (vs := [.int .u64 (p.h : Int), .int .i64 p.ow, .int .i64 0, .int .i64 0, .slice none 0 0, .slice none 0 0]) rfl (by rw [l2]; show _ + 6 ≤ _; omega) (by kernel_rfl) rfl, fun tok htok => ?_⟩
      subst htok
      simp -implicitDefEqProofs (disch := first | omega | decide) only [seval, -Int.reducePow, -Nat.reducePow, cC, pv, binv, sHjE1, undef, w2, ek, g4, g5]
      refine ⟨[0, 1, 2, 3], by decide, ?_⟩
      simp only [pickL, nth]
      refine hK _ _ ?_
      clear hK K
      refine cv_region_then rfl ?_
      simp -implicitDefEqProofs (disch := first | omega | decide) only [seval, -Int.reducePow, -Nat.reducePow, cC, pv, binv, sHjE1, undef, ek, g4, g5]
      refine ⟨⟨P'.length, P', p :: Q, ?_⟩, ?_⟩
      · simp -implicitDefEqProofs (disch := first | omega | decide) only [seval, -Int.reducePow, -Nat.reducePow, cC, pv, binv, sHjE1, undef, g4, g5]
        exact ⟨by rw [hPQ]; simp, fun q hq => hQ2 q (by simpa using hq)⟩
      · simp only [intOf]; omega
  · have hge : ¬ slotF o.h < slotF p.h := by have := of_decide_eq_false hc; omega
    refine cv_exit ?_
    simp only [blockQ, thenQ, if_true, ite_true]
    clear hK K
    refine hK _ _ ?_
    clear hK K
    rw [← hX1]
    refine cv_region_q rfl ?_
    simp -implicitDefEqProofs (disch := first | omega | decide) only [seval, -Int.reducePow, -Nat.reducePow, cC, pv, binv, sHjE1, undef, g4, g5]
    refine ⟨_, rfl, fun w hw => ?_⟩
    have h9 := hw.pick (ix := [1, 2, 0, 3]) (by decide)
    simp only [pickL, nth] at h9
    exact ⟨⟨b, sb, some ⟨g, 0, none⟩, n2, c2, EA, en, ec, st, (P' ++ [p]) ++ o :: Q, E⟩, rfl, ⟨⟨rfl, rfl⟩, rfl, ⟨P' ++ [p], Q, hPQ, rfl, hQ, fun q hq => by simp at hq; subst hq; omega⟩, rfl⟩, h9⟩
end Go.Proofs.Ytaifnipgefkemaa
/- The reference's book: the end of a plugin. -/
namespace Go.Proofs.Ytaifnipgefkemaa
open Go.RowKit Go.Shelf
set_option linter.unusedVariables false
set_option linter.unusedSimpArgs false
set_option maxRecDepth 100000
def ownB (p : Int) (o : BO) : Bool := decide (o.ow = p)
def goneB (p : Int) (l : List BO) (b : Bw) : Bool := l.any fun o => ownB p o && decide ((slotF o.h : Int) = b.ob)
def endLs (p : Int) (l : List BO) (j : Nat) : List BO := l.take j ++ (l.drop j).filter fun o => !ownB p o
def endEs (p : Int) (l : List BO) (E : List Bw) (j : Nat) : List Bw := E.filter fun b => !goneB p (l.drop j) b
def endCn (p : Int) (l : List BO) (j : Nat) : Nat := ((l.drop j).filter (ownB p)).length
theorem drop_cons {α : Type} {l : List α} {j : Nat} {o : α} (h : l[j]? = some o) : l.drop j = o :: l.drop (j + 1) := by
  rw [List.drop_eq_getElem_cons (List.getElem?_eq_some_iff.1 h).1, (List.getElem?_eq_some_iff.1 h).2]
theorem endLs_get {p : Int} {l : List BO} {j : Nat} {o : BO} (h : l[j]? = some o) : (endLs p l (j + 1))[j]? = some o := by
  unfold endLs
  have := (List.getElem?_eq_some_iff.1 h).1
  rw [List.getElem?_append_left (by rw [List.length_take]; omega), List.getElem?_take, if_pos (by omega), h]
theorem endLs_no {p : Int} {l : List BO} {j : Nat} {o : BO} (h : l[j]? = some o) (ho : ownB p o = false) : endLs p l j = endLs p l (j + 1) := by
  unfold endLs
  rw [drop_cons h, List.filter_cons, ho, List.take_add_one, h]
  simp
theorem endLs_yes {p : Int} {l : List BO} {j : Nat} {o : BO} (h : l[j]? = some o) (ho : ownB p o = true) : endLs p l j = (endLs p l (j + 1)).eraseIdx j := by
  have hlt := (List.getElem?_eq_some_iff.1 h).1
  unfold endLs
  rw [drop_cons h, List.filter_cons, ho, List.take_add_one, h]
  have hl : (l.take j).length = j := by rw [List.length_take]; omega
  simp only [Option.toList_some, Bool.not_true, Bool.false_eq_true, if_false, List.append_assoc, List.cons_append, List.nil_append]
  rw [List.eraseIdx_append_of_length_le (by omega), hl, Nat.sub_self]
  rfl
theorem goneB_cons {p : Int} {l : List BO} {o : BO} {b : Bw} : goneB p (o :: l) b = (ownB p o && decide ((slotF o.h : Int) = b.ob) || goneB p l b) := rfl
theorem endEs_no {p : Int} {l : List BO} {E : List Bw} {j : Nat} {o : BO} (h : l[j]? = some o) (ho : ownB p o = false) : endEs p l E j = endEs p l E (j + 1) := by
  unfold endEs
  refine List.filter_congr fun b _ => ?_
  rw [drop_cons h, goneB_cons, ho]
  simp
theorem endEs_yes {p : Int} {l : List BO} {E : List Bw} {j : Nat} {o : BO} (h : l[j]? = some o) (ho : ownB p o = true) : endEs p l E j = (endEs p l E (j + 1)).filter fun b => !decide (b.ob = (slotF o.h : Int)) := by
  unfold endEs
  rw [List.filter_filter]
  refine List.filter_congr fun b _ => ?_
  rw [drop_cons h, goneB_cons, ho]
  rw [show decide ((slotF o.h : Int) = b.ob) = decide (b.ob = (slotF o.h : Int)) from decide_eq_decide.2 ⟨Eq.symm, Eq.symm⟩]
  simp
theorem endCn_no {p : Int} {l : List BO} {j : Nat} {o : BO} (h : l[j]? = some o) (ho : ownB p o = false) : endCn p l j = endCn p l (j + 1) := by
  unfold endCn
  rw [drop_cons h, List.filter_cons, ho]
  simp
theorem endCn_yes {p : Int} {l : List BO} {j : Nat} {o : BO} (h : l[j]? = some o) (ho : ownB p o = true) : endCn p l j = endCn p l (j + 1) + 1 := by
  unfold endCn
  rw [drop_cons h, List.filter_cons, ho]
  simp
def bkV (i : Bool × BkR) : Value := .bool i.1
def bkL2 (i : Bool × BkR) : List Res := bkL i.2
set_option maxRecDepth 100000 in
theorem sHjF1 : type_of% (And.intro (And.intro @Nat.mul_one @wrap_in) (And.intro @cMv @cM)) := (And.intro (And.intro @Nat.mul_one @wrap_in) (And.intro @cMv @cM))
set_option maxHeartbeats 2000000 in
theorem bEnd_any (x : BkR) (p : Int) (n : Nat) (hp : 1 ≤ p ∧ p ≤ 64) (hs : x.st.length = 65) (h64 : ∀ o ∈ x.l, o.h < 18446744073709551616) (hl : x.l.length ≤ 100000) (hE : x.E.length ≤ 100000) (W : World) (hst : St (feet (bkL x)) W (bkL x) W) :
    Calls Try.prog 56 #[.pointer (some ⟨x.b, 0, none⟩), .int .i64 p, .int .u64 (n : Int)] W
    fun en w' => ∃ i : Bool × BkR, en = .returned (bkV i) ∧ (i.1 = decide ((x.l.filter (ownB p)).length = n) ∧ Bks x i.2 ∧ i.2.st = x.st.set p.toNat 2 ∧ i.2.l = (x.l.filter fun o => !ownB p o) ∧ i.2.E = (x.E.filter fun b => !decide (b.ho = p)).filter fun b => !goneB p x.l b) ∧ St (feet (bkL x)) W (bkL2 i) w' := by
  obtain ⟨M, hM⟩ : ∃ M, feet (bkL x) = M := ⟨_, rfl⟩
  rw [hM] at hst ⊢
  obtain ⟨b, sb, LA, ln, lc, EA, en, ec, st, l, E⟩ := x
  unfold bkL at hst
  dsimp only at hst hl hE hs h64 ⊢
  clear hM
  have hlen : l.length = ln := by have := (Sl.of_row hst (nth_mem (k := 2) rfl)).len; rw [boCells_len] at this; omega
  refine calls_cv (M := M) (n := 48) [.tmp 6] rfl Try.func56 rfl rfl (Nat.le_of_ble_eq_true rfl)  hst ?_
  refine cv_seq_k fun K hK => ?_
  refine cv_region_then rfl ?_
  simp -implicitDefEqProofs (disch := first | omega | decide) only [seval, -Int.reducePow, -Nat.reducePow, cC, pv, binv, sHjF1, undef]
  refine hK _ _ ?_
  clear hK K
  refine cv_seq_k fun K hK => ?_
  refine cv_region_then rfl ?_
  simp -implicitDefEqProofs (disch := first | omega | decide) only [seval, -Int.reducePow, -Nat.reducePow, cC, pv, binv, sHjF1, undef]
  refine callV_sub [.row (.slice (some ⟨sb, 0, none⟩) 65 65) 3 1 65 (stCells st), .row (.slice LA ln lc) 43 6 ln (boCells l)] (lgL b (.slice (some ⟨sb, 0, none⟩) 65 65) (.slice LA ln lc) ⟨EA, en, ec, E⟩) (perm_bk _ _ _ _) (fun _ => .int .i64 (heldB E p : Int)) (lgL b (.slice (some ⟨sb, 0, none⟩) 65 65) (.slice LA ln lc)) _ (fun w hw => rEndHolder_any b _ _ ⟨EA, en, ec, E⟩ p hE w hw) ?_
  rintro ⟨A2, n2, c2, E1⟩ hE1
  dsimp only at hE1
  have hE1l : E1.length ≤ 100000 := by rw [hE1]; exact Nat.le_trans (List.length_filter_le _ _) hE
  unfold lgL
  simp -implicitDefEqProofs (disch := first | omega | decide) only [seval, -Int.reducePow, -Nat.reducePow, cC, pv, binv, sHjF1, undef]
  refine hK _ _ ?_
  clear hK K
  refine cv_seq_k fun K hK => ?_
  refine cv_region_then rfl ?_
  simp -implicitDefEqProofs (disch := first | omega | decide) only [seval, -Int.reducePow, -Nat.reducePow, cC, pv, binv, sHjF1, undef]
  refine hK _ _ ?_
  clear hK K
  refine cv_seq_k fun K hK => ?_
  refine cv_seq_k fun K hK => ?_
  refine cv_region_then rfl ?_
  simp -implicitDefEqProofs (disch := first | omega | decide) only [seval, -Int.reducePow, -Nat.reducePow, cC, pv, binv, sHjF1, undef]
  refine hK _ _ ?_
  clear hK K
  refine cv_gen fun G1 hG => ?_
  have g1_0 := congrFun hG 0
  have g1_1 := congrFun hG 1
  have g1_2 := congrFun hG 2
  have g1_7 := congrFun hG 7
  have g1_8 := congrFun hG 8
  clear hG
  try simp -implicitDefEqProofs (disch := first | omega | decide) only [seval, -Int.reducePow, -Nat.reducePow, cC, pv, binv, sHjF1, undef] at g1_0 g1_1 g1_2 g1_7 g1_8
  have g1 := And.intro g1_0 (And.intro g1_1 (And.intro g1_2 (And.intro g1_7 g1_8)))
  refine cv_pick [0, 2, 3, 1] (by decide) ?_
  simp only [pickL, nth]
  refine cv_block ?_
  refine cv_loop (fun F' L' => ∃ (j : Nat) (LA1 : Option Addr) (ln1 lc1 : Nat) (EA1 : Option Addr) (en1 ec1 : Nat), F' 0 = G1 0 ∧ F' 1 = G1 1 ∧ F' 2 = G1 2 ∧ F' 7 = .int .u64 (endCn p l j : Int) ∧ F' 8 = .int .i64 ((j : Int) - 1) ∧ L' = bkL ⟨b, sb, LA1, ln1, lc1, EA1, en1, ec1, st, endLs p l j, endEs p l E1 j⟩ ∧ j ≤ l.length) (fun F' L' => (intOf (F' 8) + 1).toNat) ?_ ?_
  · refine ⟨l.length, LA, ln, lc, A2, n2, c2, ?_⟩
    have e1 : endLs p l l.length = l := by unfold endLs; simp
    have e2 : endEs p l E1 l.length = E1 := by unfold endEs; rw [List.drop_length]; exact List.filter_eq_self.2 fun b _ => rfl
    have e3 : endCn p l l.length = 0 := by unfold endCn; rw [List.drop_length]; rfl
    rw [e1, e2, e3, hlen]
    simp -implicitDefEqProofs (disch := first | omega | decide) only [seval, -Int.reducePow, -Nat.reducePow, cC, pv, binv, sHjF1, undef, g1]
    rfl
  intro G2 L' hI
  obtain ⟨j, LA1, ln1, lc1, EA1, en1, ec1, q0, q1, q2, q7, q8, rfl, hj⟩ := hI
  have g2_0 := q0.trans g1_0
  have g2_1 := q1.trans g1_1
  have g2_2 := q2.trans g1_2
  have g2_7 := q7
  have g2_8 := q8
  clear q0 q1 q2 q7 q8
  have g2 := And.intro g2_0 (And.intro g2_1 (And.intro g2_2 (And.intro g2_7 g2_8)))
  have hll : (endLs p l j).length ≤ 100000 := by
    unfold endLs
    rw [List.length_append, List.length_take]
    have := List.length_filter_le (fun o => !ownB p o) (l.drop j)
    rw [List.length_drop] at this
    omega
  have hel : (endEs p l E1 j).length ≤ 100000 := Nat.le_trans (List.length_filter_le _ _) hE1l
  have hcl : endCn p l j ≤ 100000 := by
    have : endCn p l j ≤ (l.drop j).length := List.length_filter_le _ _
    rw [List.length_drop] at this
    omega
  refine cv_seq_k fun K hK => ?_
  refine cv_seq_k fun K hK => ?_
  refine cv_region_then rfl ?_
  simp -implicitDefEqProofs (disch := first | omega | decide) only [seval, -Int.reducePow, -Nat.reducePow, cC, pv, binv, sHjF1, undef, g1, g2]
  refine hK _ _ ?_
  clear hK K
  refine cv_cond ?_
  simp -implicitDefEqProofs (disch := first | omega | decide) only [seval, -Int.reducePow, -Nat.reducePow, cC, pv, binv, sHjF1, undef, g1, g2]
  refine ⟨fun hc => ?_, fun hc => ?_⟩
  · have hj0 := of_decide_eq_true hc
    obtain ⟨i, rfl⟩ : ∃ i, j = i + 1 := ⟨j - 1, by omega⟩
    obtain ⟨o, ho⟩ : ∃ o, l[i]? = some o := ⟨_, List.getElem?_eq_getElem (by omega)⟩
    have ho64 := h64 o (List.mem_of_getElem? ho)
    have hog := endLs_get (p := p) ho
    have hi1 : ((i + 1 : Nat) : Int) - 1 = (i : Int) := by omega
    have hwi : IntKind.i64.wrap ((i : Int) - 1) = (i : Int) - 1 := wrap_in (by omega) (by omega)
    refine cv_skip ?_
    try simp only [blockQ, thenQ]
    refine hK _ _ ?_
    clear hK K
    unfold bkL
    dsimp only
    refine cv_len 2 rfl fun hlL => ?_
    rw [boCells_len] at hlL
    have hiL : i < ln1 := by have := (List.getElem?_eq_some_iff.1 hog).1; omega
    refine cv_rowA 2 rfl (by omega) fun g hAA hg hNN => ?_
    subst hAA
    simp only [List.eraseIdx_cons_zero, List.eraseIdx_cons_succ, neB_nil, neB_blk, neB_row, neB_snap, and_true, List.not_mem_nil, or_false, sHjF1, undef] at hNN hg
    replace hg := And.intro hg hNN
    clear hNN
    refine cv_seq_k fun K hK => ?_
    refine cv_block ?_
    refine cv_seq_k fun K hK => ?_
    refine cv_region_then rfl ?_
    simp -implicitDefEqProofs (disch := first | omega | decide) only [seval, -Int.reducePow, -Nat.reducePow, cC, pv, binv, sHjF1, undef, hi1, g1, g2]
    refine ⟨_, ld_row1 (m := 1) (i := i * 6 + 1) (v := .int .i64 o.ow) (.tail _ (.tail _ (.head _))) rfl (flGet boc_len hog (by omega)), fun tok htok => ?_⟩
    subst htok
    simp -implicitDefEqProofs (disch := first | omega | decide) only [seval, -Int.reducePow, -Nat.reducePow, cC, pv, binv, sHjF1, undef, hi1, g1, g2]
    refine hK _ _ ?_
    clear hK K
    refine cv_cond ?_
    by_cases how : o.ow = p
    · have hob : ownB p o = true := decide_eq_true how
      simp -implicitDefEqProofs (disch := first | omega | decide) only [seval, -Int.reducePow, -Nat.reducePow, cC, pv, binv, sHjF1, undef, how, g1, g2]
      refine cv_seq_k fun K hK => ?_
      refine cv_region_then rfl ?_
      simp -implicitDefEqProofs (disch := first | omega | decide) only [seval, -Int.reducePow, -Nat.reducePow, cC, pv, binv, sHjF1, undef, hi1, g1, g2]
      refine callV_sub [] (bkL ⟨b, sb, some ⟨g, 0, none⟩, ln1, lc1, EA1, en1, ec1, st, endLs p l (i + 1), endEs p l E1 (i + 1)⟩) (List.Perm.refl _) tupB bkL _ (fun w hw => bDrop_any ⟨b, sb, some ⟨g, 0, none⟩, ln1, lc1, EA1, en1, ec1, st, endLs p l (i + 1), endEs p l E1 (i + 1)⟩ i o hog ho64 hll hel w hw) ?_
      rintro ⟨b', sb', LA2, ln2, lc2, EA2, en2, ec2, st2, l2, E2⟩ ⟨⟨hy1, hy2⟩, hy3, hy4, hy5⟩
      dsimp only at hy1 hy2 hy3 hy4 hy5
      rw [← endLs_yes ho hob] at hy4
      rw [← endEs_yes ho hob] at hy5
      subst hy1 hy2 hy3 hy4 hy5
      simp -implicitDefEqProofs (disch := first | omega | decide) only [seval, -Int.reducePow, -Nat.reducePow, cC, pv, binv, sHjF1, undef, tupB, g1, g2]
      refine hK _ _ ?_
      clear hK K
      have hcw : ((endCn p l i : Nat) : Int) = (endCn p l (i + 1) : Int) + 1 := by rw [endCn_yes ho hob]; rfl
      have hcw2 : IntKind.u64.wrap ((endCn p l (i + 1) : Int) + 1) = (endCn p l (i + 1) : Int) + 1 := wrap_u64 (by omega) (by omega)
      refine cv_region_q rfl ?_
      simp -implicitDefEqProofs (disch := first | omega | decide) only [seval, -Int.reducePow, -Nat.reducePow, cC, pv, binv, sHjF1, undef, g1, g2]
      refine hK _ _ ?_
      clear hK K
      refine cv_region_then rfl ?_
      simp -implicitDefEqProofs (disch := first | omega | decide) only [seval, -Int.reducePow, -Nat.reducePow, cC, pv, binv, sHjF1, undef, hi1, hwi, g1, g2]
      refine ⟨⟨i, LA2, ln2, lc2, EA2, en2, ec2, ?_⟩, ?_⟩
      · simp -implicitDefEqProofs (disch := first | omega | decide) only [seval, -Int.reducePow, -Nat.reducePow, cC, pv, binv, sHjF1, undef, hcw, hcw2, hwi, List.append_nil, g1, g2]
        exact ⟨rfl, by omega⟩
      · simp only [intOf]; omega
    · have hob : ownB p o = false := decide_eq_false how
      simp -implicitDefEqProofs (disch := first | omega | decide) only [seval, -Int.reducePow, -Nat.reducePow, cC, pv, binv, sHjF1, undef, how, g1, g2]
      refine cv_skip ?_
      try simp only [blockQ, thenQ]
      refine hK _ _ ?_
      clear hK K
      refine cv_region_then rfl ?_
      simp -implicitDefEqProofs (disch := first | omega | decide) only [seval, -Int.reducePow, -Nat.reducePow, cC, pv, binv, sHjF1, undef, hi1, g1, g2]
      refine ⟨⟨i, some ⟨g, 0, none⟩, ln1, lc1, EA1, en1, ec1, ?_⟩, ?_⟩
      · rw [endLs_no ho hob, endEs_no ho hob, endCn_no ho hob]
        simp -implicitDefEqProofs (disch := first | omega | decide) only [seval, -Int.reducePow, -Nat.reducePow, cC, pv, binv, sHjF1, undef, hwi, g1, g2]
        omega
      · simp only [intOf]; omega
  refine cv_exit ?_
  simp only [blockQ, thenQ, if_true, ite_true]
  clear hK K
  refine hK _ _ ?_
  clear hK K
  have hj1 : j = 0 := by have := of_decide_eq_false hc; omega
  subst hj1
  have e1 : endLs p l 0 = l.filter fun o => !ownB p o := by unfold endLs; rw [List.drop_zero]; rfl
  have e2 : endEs p l E1 0 = E1.filter fun b => !goneB p l b := by unfold endEs; rw [List.drop_zero]
  have e3 : endCn p l 0 = (l.filter (ownB p)).length := by unfold endCn; rw [List.drop_zero]
  rw [e1, e2]
  unfold bkL
  dsimp only
  have hput : (stCells st).set p.toNat (Value.int .i64 2) = stCells (st.set p.toNat 2) := by
    unfold stCells
    rw [List.map_set]
  refine cv_rowA 1 rfl (by omega) fun gN_ hAA hgN_ hN => ?_
  cases hAA
  clear hgN_
  simp only [List.eraseIdx_cons_zero, List.eraseIdx_cons_succ, neB_nil, neB_blk, neB_row, neB_snap, and_true, sHjF1, undef] at hN
  refine cv_seq_k fun K hK => ?_
  refine cv_region_then rfl ?_
  simp -implicitDefEqProofs (disch := first | omega | decide) only [seval, -Int.reducePow, -Nat.reducePow, cC, pv, binv, sHjF1, undef, g1, g2]
  refine ⟨_, sv_row 1 (i := p.toNat) (v := .int .i64 2) rfl (by unfold stCells; rw [List.length_map, hs]; omega) (by kernel_rfl) rfl rfl, fun tok htok => ?_⟩
  subst htok
  simp -implicitDefEqProofs (disch := first | omega | decide) only [seval, -Int.reducePow, -Nat.reducePow, cC, pv, binv, sHjF1, undef, hput, g1, g2]
  refine hK _ _ ?_
  clear hK K
  refine cv_seq_k fun K hK => ?_
  refine cv_region_then rfl ?_
  simp -implicitDefEqProofs (disch := first | omega | decide) only [seval, -Int.reducePow, -Nat.reducePow, cC, pv, binv, sHjF1, undef, e3, g1, g2]
  refine hK _ _ ?_
  clear hK K
  refine cv_ret ⟨_, (by simp -implicitDefEqProofs (disch := first | omega | decide) only [seval, -Int.reducePow, -Nat.reducePow, cC, pv, binv, sHjF1, undef, g1, g2]; rfl), fun w hw => ?_⟩
  rw [show decide (((l.filter (ownB p)).length : Int) = (n : Int)) = decide ((l.filter (ownB p)).length = n) from decide_eq_decide.2 Int.ofNat_inj]
  exact ⟨(decide ((l.filter (ownB p)).length = n), ⟨b, sb, LA1, ln1, lc1, EA1, en1, ec1, st.set p.toNat 2, _, _⟩), rfl, ⟨rfl, ⟨rfl, rfl⟩, rfl, rfl, by rw [hE1]⟩, hw⟩
end Go.Proofs.Ytaifnipgefkemaa
