/- The contract of Complement. -/
import Derived.Test.YtabjbghmldiokaaFRem
import Derived.Test.YtabjbghmldiokaaExRInsP
import Derived.Test.YtabjbghmldiokaaEng7
namespace Go.Proofs.Ytabjbghmldiokaa
open Go.RowKit Go.Shelf
set_option linter.unusedVariables false
set_option linter.unusedSimpArgs false
set_option maxRecDepth 100000

namespace Ex
/-- Where the k-th gap may begin. -/
def cAt (xs : List Ext) : Nat → Int
  | 0 => 0
  | k + 1 => (get xs k).end_
def gapAt (xs : List Ext) (k : Nat) : List Ext := if cAt xs k < (get xs k).off then [⟨cAt xs k, (get xs k).off - cAt xs k⟩] else []
def cOut (xs : List Ext) (k : Nat) : List Ext := (List.range k).flatMap (gapAt xs)
theorem cOut_succ (xs : List Ext) (k : Nat) : cOut xs (k + 1) = cOut xs k ++ gapAt xs k := by simp [cOut, List.range_succ]
/-- Complement: the gaps below size and the error's code. -/
def cBad (xs : List Ext) (s : Int) : Bool := !vldB xs || decide (s < 0) || decide (1048576 < s) || (decide (0 < xs.length) && decide (s < (get xs (xs.length - 1)).end_))
def compF (xs : List Ext) (s : Int) : List Ext × Int := if cBad xs s then ([], 1) else (cOut (xs ++ [⟨s, 0⟩]) (xs.length + 1), 0)
theorem get_app {xs ys : List Ext} {i : Nat} (h : i < xs.length) : get (xs ++ ys) i = get xs i := by
  unfold get
  rw [List.getD_eq_getElem?_getD, List.getD_eq_getElem?_getD, List.getElem?_append_left h]
theorem get_last (xs : List Ext) (x : Ext) : get (xs ++ [x]) xs.length = x := by
  unfold get
  rw [List.getD_eq_getElem?_getD]
  simp
theorem cAt_app {xs ys : List Ext} {k : Nat} (h : k ≤ xs.length) : cAt (xs ++ ys) k = cAt xs k := by
  cases k with
  | zero => rfl
  | succ k => show (get (xs ++ ys) k).end_ = (get xs k).end_; rw [get_app (by omega)]
theorem cOut_app {xs ys : List Ext} : ∀ {k : Nat}, k ≤ xs.length → cOut (xs ++ ys) k = cOut xs k
  | 0, _ => rfl
  | k + 1, h => by rw [cOut_succ, cOut_succ, cOut_app (by omega)]; unfold gapAt; rw [cAt_app (by omega), get_app (by omega)]
theorem compF_len (xs : List Ext) (s : Int) : (compF xs s).1.length ≤ xs.length + 1 := by
  have key : ∀ (ys : List Ext) k, (cOut ys k).length ≤ k := by
    intro ys k
    induction k with
    | zero => simp [cOut]
    | succ k ih =>
      rw [cOut_succ, List.length_append]
      unfold gapAt
      split <;> simp <;> omega
  unfold compF
  split
  · simp
  · exact key _ _
theorem cAt_bd {xs : List Ext} (hv : vld xs) {k : Nat} (hk : k ≤ xs.length) : 0 ≤ cAt xs k ∧ cAt xs k ≤ 1048576 := by
  cases k with
  | zero => exact ⟨Int.le_refl 0, show (0 : Int) ≤ 1048576 by omega⟩
  | succ k =>
    have : 0 ≤ (get xs k).off ∧ 0 < (get xs k).len ∧ (get xs k).off + (get xs k).len ≤ 1048576 := (hv k (by omega)).1
    show 0 ≤ (get xs k).off + (get xs k).len ∧ (get xs k).off + (get xs k).len ≤ 1048576
    omega
end Ex
theorem exCells_two : ∀ (xs : List Ext) (i : Nat), i < xs.length → ((exCells xs).drop (i * 2)).take 2 = [.int .i64 (Ex.get xs i).off, .int .i64 (Ex.get xs i).len]
  | x :: xs, 0, _ => rfl
  | x :: xs, i + 1, h => by
    have := exCells_two xs i (by simpa using h)
    rw [show (i + 1) * 2 = i * 2 + 2 by omega]
    exact this

set_option maxHeartbeats 2000000 in
theorem complement_any (A : Option Addr) (n c : Nat) (xs : List Ext) (s : Int) (W : World) (hE : Exts W W.heap.size A n c xs) (hn : n ≤ 1000) :
    Calls Try.prog 24 #[.slice A n c, .int .i64 s] W (rowPost 24 2 (fun v => .tuple #[v, .int .i64 (Ex.compF xs s).2]) (exCells (Ex.compF xs s).1) W) := by
  refine calls_cv (M := []) (n := 65) [.tmp 4, .tmp 5] rfl Try.func24 rfl rfl (Nat.le_of_ble_eq_true rfl) (St.nil _ _) ?_
  refine cv_seq_k fun K hK => ?_
  refine cv_region_then rfl ?_
  simp -implicitDefEqProofs (disch := first | omega | decide) only [seval, -Int.reducePow, -Nat.reducePow, cC, pv, binv, eBox, undef]
  refine hK _ _ ?_
  clear hK K
  refine cv_gen fun G1 hG => ?_
  have g1_0 := congrFun hG 0
  have g1_1 := congrFun hG 1
  clear hG
  try simp -implicitDefEqProofs (disch := first | omega | decide) only [seval, -Int.reducePow, -Nat.reducePow, cC, pv, binv, eBox, undef] at g1_0 g1_1
  have g1 := And.intro g1_0 g1_1
  refine cv_seq_k fun K hK => ?_
  refine cv_seq_k fun K hK => ?_
  refine cv_cut (fun _ _ => True) (fun F' L' => F' 0 = G1 0 ∧ F' 1 = G1 1 ∧ F' 36 = .bool (Ex.cBad xs s) ∧ L' = []) ?_ ?_
  · cases hvb : Ex.vldB xs
    · refine cv_region_then rfl ?_
      simp -implicitDefEqProofs (disch := first | omega | decide) only [seval, -Int.reducePow, -Nat.reducePow, cC, pv, binv, eBox, undef, g1]
      refine callV_ret (fun w hw => valid_any A n c xs w (hE.at hw)) ?_
      try simp -implicitDefEqProofs (disch := first | omega | decide) only [seval, -Int.reducePow, -Nat.reducePow, cC, pv, binv, eBox, undef, hvb, g1]
      all_goals (first | (simp [Ex.cBad, hvb]; done) | (simp [Ex.cBad, hvb]; omega))
    · have hv := (Ex.vldB_iff xs).1 hvb
      have hl := hE.len
      by_cases hpos : 0 < n
      · obtain ⟨b0, off, rfl, hb0, -⟩ := hE.cells (by omega)
        obtain ⟨j, rfl⟩ : ∃ j, n = j + 1 := ⟨n - 1, by omega⟩
        have hlt' : (0 : Int) < ((j + 1 : Nat) : Int) := by omega
        have hj : IntKind.i64.wrap (((j + 1 : Nat) : Int) - 1) = (j : Int) := by rw [wrap_in (by omega) (by omega)]; omega
        refine cv_region_then rfl ?_
        simp -implicitDefEqProofs (disch := first | omega | decide) only [seval, -Int.reducePow, -Nat.reducePow, cC, pv, binv, eBox, undef, g1]
        refine callV_ret (fun w hw => valid_any _ _ c xs w (hE.at hw)) ?_
        try simp -implicitDefEqProofs (disch := first | omega | decide) only [seval, -Int.reducePow, -Nat.reducePow, cC, pv, binv, eBox, undef, hvb, hlt', hj, g1]
        repeat' ((first | refine vcg_cases (fun hg => ?_) (fun hg => ?_) | refine vdg_cases (fun hg => ?_) (fun hg => ?_)) <;> ((try simp only [Bool.not_eq_true', Bool.not_eq_false', decide_eq_true_eq, decide_eq_false_iff_not] at hg); (try simp -implicitDefEqProofs (disch := first | omega | decide) only [seval, -Int.reducePow, -Nat.reducePow, cC, pv, binv, eBox, undef, hg, hlt', hj, g1])))
        refine ⟨_, hE.ld (show j < j + 1 by omega), fun tok htok => ?_⟩
        subst htok
        simp -implicitDefEqProofs (disch := first | omega | decide) only [seval, -Int.reducePow, -Nat.reducePow, cC, pv, binv, eBox, undef, g1]
        refine callV_ret (fun w hw => end_prop (Ex.get xs j) w (vld_prop hv (by omega))) ?_
        try simp -implicitDefEqProofs (disch := first | omega | decide) only [seval, -Int.reducePow, -Nat.reducePow, cC, pv, binv, eBox, undef, g1]
        all_goals (first | (simp [Ex.cBad, hvb, hl]; done) | (simp [Ex.cBad, hvb, hl]; omega))
      · have hlt' : ¬ (0 : Int) < (n : Int) := by omega
        refine cv_region_then rfl ?_
        simp -implicitDefEqProofs (disch := first | omega | decide) only [seval, -Int.reducePow, -Nat.reducePow, cC, pv, binv, eBox, undef, g1]
        refine callV_ret (fun w hw => valid_any _ _ c xs w (hE.at hw)) ?_
        try simp -implicitDefEqProofs (disch := first | omega | decide) only [seval, -Int.reducePow, -Nat.reducePow, cC, pv, binv, eBox, undef, hvb, hlt', g1]
        repeat' ((first | refine vcg_cases (fun hg => ?_) (fun hg => ?_) | refine vdg_cases (fun hg => ?_) (fun hg => ?_)) <;> ((try simp only [Bool.not_eq_true', Bool.not_eq_false', decide_eq_true_eq, decide_eq_false_iff_not] at hg); (try simp -implicitDefEqProofs (disch := first | omega | decide) only [seval, -Int.reducePow, -Nat.reducePow, cC, pv, binv, eBox, undef, hg, hlt', g1])))
        all_goals (first | (simp [Ex.cBad, hvb, hl]; done) | (simp [Ex.cBad, hvb, hl]; omega))
  · intro G2 L' _ hF
    obtain ⟨q0, q1, q36, rfl⟩ := hF
    have g2_0 := q0.trans g1_0
    have g2_1 := q1.trans g1_1
    have g2_36 := q36
    clear q0 q1 q36
    have g2 := And.intro g2_0 (And.intro g2_1 g2_36)
    refine hK _ _ ?_
    clear hK K
    refine cv_cond ?_
    simp -implicitDefEqProofs (disch := first | omega | decide) only [seval, -Int.reducePow, -Nat.reducePow, cC, pv, binv, eBox, undef, g2]
    refine ⟨fun hc => ?_, fun hc => ?_⟩
    · refine cv_seq_k fun K hK => ?_
      refine cv_region_then rfl ?_
      simp -implicitDefEqProofs (disch := first | omega | decide) only [seval, -Int.reducePow, -Nat.reducePow, cC, pv, binv, eBox, undef, g2]
      refine hK _ _ ?_
      clear hK K
      refine cv_ret ⟨_, (by simp -implicitDefEqProofs (disch := first | omega | decide) only [seval, -Int.reducePow, -Nat.reducePow, cC, pv, binv, eBox, undef, g2]; rfl), fun w hw => ?_⟩
      have hF : Ex.compF xs s = ([], 1) := by unfold Ex.compF; rw [hc]; rfl
      exact ⟨none, 0, 0, by rw [hF], by rw [hF]; exact World.ownsRow_nil _ _ _ _, hw.below⟩
    · refine cv_skip ?_
      try simp only [blockQ, thenQ]
      have hF : Ex.compF xs s = (Ex.cOut (xs ++ [⟨s, 0⟩]) (n + 1), 0) := by unfold Ex.compF; rw [hc, hE.len]; rfl
      simp only [Ex.cBad, Bool.or_eq_false_iff, Bool.not_eq_false', decide_eq_false_iff_not] at hc
      obtain ⟨⟨⟨hv, hs0⟩, hs1⟩, -⟩ := hc
      have hv := (Ex.vldB_iff xs).1 hv
      have hl := hE.len
      refine hK _ _ ?_
      clear hK K
      refine cv_seq_k fun K hK => ?_
      refine cv_region_then rfl ?_
      simp -implicitDefEqProofs (disch := first | omega | decide) only [seval, -Int.reducePow, -Nat.reducePow, cC, pv, binv, eBox, undef, g2]
      refine hK _ _ ?_
      clear hK K
      refine cv_seq_k fun K hK => ?_
      refine cv_region_then rfl ?_
      simp -implicitDefEqProofs (disch := first | omega | decide) only [seval, -Int.reducePow, -Nat.reducePow, cC, pv, binv, eBox, undef, g2]
      refine hK _ _ ?_
      clear hK K
      refine cv_gen fun G3 hG => ?_
      have g3_0 := congrFun hG 0
      have g3_1 := congrFun hG 1
      have g3_6 := congrFun hG 6
      have g3_7 := congrFun hG 7
      clear hG
      try simp -implicitDefEqProofs (disch := first | omega | decide) only [seval, -Int.reducePow, -Nat.reducePow, cC, pv, binv, eBox, undef, g2] at g3_0 g3_1 g3_6 g3_7
      have g3 := And.intro g3_0 (And.intro g3_1 (And.intro g3_6 g3_7))
      refine cv_nil 24 2 ?_
      refine cv_seq_k fun K hK => ?_
      refine cv_seq_k fun K hK => ?_
      refine cv_region_then rfl ?_
      simp -implicitDefEqProofs (disch := first | omega | decide) only [seval, -Int.reducePow, -Nat.reducePow, cC, pv, binv, eBox, undef, g3]
      refine callV_row (fun A' n' c' => .slice A' n' c') (fun w hw => clone_ext A n c xs w (hE.at hw) (by omega)) ?_
      intro A1 n1 c1 hl1 hr1
      have hn1 : n1 = n := by have := cells_len hl1; omega
      rw [hn1] at hl1 hr1 ⊢
      clear hn1
      simp -implicitDefEqProofs (disch := first | omega | decide) only [seval, -Int.reducePow, -Nat.reducePow, cC, pv, binv, eBox, undef, g3]
      intro b1 hb1
      refine appV_at 1 tap22 rfl (fun w hw => src_blk (size := 2) (.head _) rfl hw) rfl (by omega) (by omega) ?_
      intro A2 c2 hl2 hr2
      simp -implicitDefEqProofs (disch := first | omega | decide) only [seval, -Int.reducePow, -Nat.reducePow, cC, pv, binv, eBox, undef, g3]
      refine hK _ _ ?_
      clear hK K
      rw [← exCells_snoc xs ⟨s, 0⟩] at hl2 ⊢
      obtain ⟨ys, hys⟩ : ∃ ys, ys = xs ++ [⟨s, 0⟩] := ⟨_, rfl⟩
      rw [← hys] at hl2 ⊢
      rw [← hys] at hF
      have hyl : ys.length = n + 1 := by rw [hys, List.length_append, hl]; rfl
      have hyg : ∀ i, i < n → Ex.get ys i = Ex.get xs i := fun i hi => by rw [hys]; exact Ex.get_app (by omega)
      have hyn : Ex.get ys n = ⟨s, 0⟩ := by rw [hys, ← hl]; exact Ex.get_last _ _
      have hyb : ∀ i, i < n + 1 → 0 ≤ (Ex.get ys i).off ∧ 0 ≤ (Ex.get ys i).len ∧ (Ex.get ys i).off + (Ex.get ys i).len ≤ 1048576 := fun i hi => by
        by_cases h : i < n
        · have : 0 ≤ (Ex.get xs i).off ∧ 0 < (Ex.get xs i).len ∧ (Ex.get xs i).off + (Ex.get xs i).len ≤ 1048576 := vld_prop hv (by omega)
          rw [hyg i h]
          omega
        · have : i = n := by omega
          rw [this, hyn]
          dsimp only
          omega
      have hyc : ∀ i, i ≤ n + 1 → 0 ≤ Ex.cAt ys i ∧ Ex.cAt ys i ≤ 1048576 := fun i hi => by
        cases i with
        | zero => exact ⟨Int.le_refl 0, show (0 : Int) ≤ 1048576 by omega⟩
        | succ i =>
          have := hyb i (by omega)
          show 0 ≤ (Ex.get ys i).off + (Ex.get ys i).len ∧ (Ex.get ys i).off + (Ex.get ys i).len ≤ 1048576
          omega
      rcases hr2 with ⟨-, h⟩ | ⟨g, rfl, hg, hgn⟩
      · omega
      refine cv_pick [2, 0] (by decide) ?_
      simp only [pickL, nth]
      refine cv_gen fun G4 hG => ?_
      have g4_6 := congrFun hG 6
      have g4_7 := congrFun hG 7
      have g4_42 := congrFun hG 42
      have g4_43 := congrFun hG 43
      have g4_44 := congrFun hG 44
      clear hG
      try simp -implicitDefEqProofs (disch := first | omega | decide) only [seval, -Int.reducePow, -Nat.reducePow, cC, pv, binv, eBox, undef, g3] at g4_6 g4_7 g4_42 g4_43 g4_44
      have g4 := And.intro g4_6 (And.intro g4_7 (And.intro g4_42 (And.intro g4_43 g4_44)))
      refine cv_block ?_
      refine cv_loop (fun F' L' => ∃ (k : Nat) (A6 : Option Addr) (n6 c6 : Nat), F' 6 = .slice A6 n6 c6 ∧ F' 7 = .int .i64 (Ex.cAt ys k) ∧ F' 42 = G4 42 ∧ F' 43 = G4 43 ∧ F' 44 = .int .i64 (k : Int) ∧ L' = [.row (.slice A6 n6 c6) 24 2 n6 (exCells (Ex.cOut ys k)), .row (.slice (some ⟨g, 0, none⟩) (n + 1) c2) 24 2 (n + 1) (exCells ys)] ∧ k ≤ n + 1 ∧ n6 ≤ k) (fun F' L' => n + 1 - (intOf (F' 44)).toNat) ?_ ?_
      · refine ⟨0, none, 0, 0, ?_⟩
        have z1 : Ex.cAt ys 0 = 0 := rfl
        have z2 : Ex.cOut ys 0 = [] := rfl
        simp -implicitDefEqProofs (disch := first | omega | decide) only [seval, -Int.reducePow, -Nat.reducePow, cC, pv, binv, eBox, undef, z1, z2, g4]
        rfl
      · intro G5 L' hI
        obtain ⟨k, A6, n6, c6, q6, q7, q42, q43, q44, rfl, ⟨hk, h6⟩⟩ := hI
        have g5_6 := q6
        have g5_7 := q7
        have g5_42 := q42.trans g4_42
        have g5_43 := q43.trans g4_43
        have g5_44 := q44
        clear q6 q7 q42 q43 q44
        have g5 := And.intro g5_6 (And.intro g5_7 (And.intro g5_42 (And.intro g5_43 g5_44)))
        refine cv_seq_k fun K hK => ?_
        refine cv_region_then rfl ?_
        simp -implicitDefEqProofs (disch := first | omega | decide) only [seval, -Int.reducePow, -Nat.reducePow, cC, pv, binv, eBox, undef, g4, g5]
        refine hK _ _ ?_
        clear hK K
        refine cv_seq_k fun K hK => ?_
        refine cv_cond ?_
        simp -implicitDefEqProofs (disch := first | omega | decide) only [seval, -Int.reducePow, -Nat.reducePow, cC, pv, binv, eBox, undef, g4, g5]
        refine ⟨fun hc => ?_, fun hc => ?_⟩
        · refine cv_skip ?_
          try simp only [blockQ, thenQ]
          have hlt : k < n + 1 := by have := of_decide_eq_true hc; omega
          obtain ⟨x, hx⟩ : ∃ x, Ex.get ys k = x := ⟨_, rfl⟩
          have hxb := hyb k hlt
          have hab := hyc k hk
          have hs1 := Ex.cOut_succ ys k
          have hs2 : Ex.cAt ys (k + 1) = x.off + x.len := by rw [← hx]; rfl
          have h22 := exCells_two ys k (by omega)
          unfold Ex.gapAt at hs1
          rw [hx] at hs1 hxb h22
          refine hK _ _ ?_
          clear hK K
          refine cv_seq_k fun K hK => ?_
          refine cv_cut (fun _ _ => True) (fun F' L' => ∃ (A6 : Option Addr) (n6 c6 : Nat), F' 6 = .slice A6 n6 c6 ∧ F' 7 = .int .i64 (Ex.cAt ys (k + 1)) ∧ F' 42 = G5 42 ∧ F' 43 = G5 43 ∧ F' 44 = G5 44 ∧ L' = [.row (.slice A6 n6 c6) 24 2 n6 (exCells (Ex.cOut ys (k + 1))), .row (.slice (some ⟨g, 0, none⟩) (n + 1) c2) 24 2 (n + 1) (exCells ys)] ∧ n6 ≤ k + 1) ?_ ?_
          · refine cv_block ?_
            refine cv_seq_k fun K hK => ?_
            refine cv_region_then rfl ?_
            simp -implicitDefEqProofs (disch := first | omega | decide) only [seval, -Int.reducePow, -Nat.reducePow, cC, pv, binv, eBox, undef, g4, g5]
            refine ⟨_, ld_row (i := k * 2) (vs := [.int .i64 x.off, .int .i64 x.len]) (.tail _ (.head _)) rfl h22, fun tok htok => ?_⟩
            subst htok
            simp -implicitDefEqProofs (disch := first | omega | decide) only [seval, -Int.reducePow, -Nat.reducePow, cC, pv, binv, eBox, undef, g4, g5]
            intro b9 hb9
            refine hK _ _ ?_
            clear hK K
            refine cv_gen fun G6 hG => ?_
            have g6_6 := congrFun hG 6
            have g6_7 := congrFun hG 7
            have g6_9 := congrFun hG 9
            have g6_42 := congrFun hG 42
            have g6_43 := congrFun hG 43
            have g6_44 := congrFun hG 44
            clear hG
            try simp -implicitDefEqProofs (disch := first | omega | decide) only [seval, -Int.reducePow, -Nat.reducePow, cC, pv, binv, eBox, undef, g4, g5] at g6_6 g6_7 g6_9 g6_42 g6_43 g6_44
            have g6 := And.intro g6_6 (And.intro g6_7 (And.intro g6_9 (And.intro g6_42 (And.intro g6_43 g6_44))))
            refine cv_seq_k fun K hK => ?_
            refine cv_cut (fun _ _ => True) (fun F' L' => ∃ (A8 : Option Addr) (n8 c8 : Nat), F' 6 = .slice A8 n8 c8 ∧ F' 9 = G6 9 ∧ F' 42 = G6 42 ∧ F' 43 = G6 43 ∧ F' 44 = G6 44 ∧ L' = [.row (.slice A8 n8 c8) 24 2 n8 (exCells (Ex.cOut ys (k + 1))), eBox b9 x, .row (.slice (some ⟨g, 0, none⟩) (n + 1) c2) 24 2 (n + 1) (exCells ys)] ∧ n8 ≤ n6 + 1) ?_ ?_
            · refine cv_seq_k fun K hK => ?_
              refine cv_region_then rfl ?_
              simp -implicitDefEqProofs (disch := first | omega | decide) only [seval, -Int.reducePow, -Nat.reducePow, cC, pv, binv, eBox, undef, g4, g5, g6]
              refine hK _ _ ?_
              clear hK K
              refine cv_cond ?_
              simp -implicitDefEqProofs (disch := first | omega | decide) only [seval, -Int.reducePow, -Nat.reducePow, cC, pv, binv, eBox, undef, g4, g5, g6]
              refine ⟨fun hc => ?_, fun hc => ?_⟩
              · rw [if_pos (of_decide_eq_true hc)] at hs1
                refine cv_pick_post [0, 2, 3] (by decide) ?_
                refine cv_region_q rfl ?_
                simp -implicitDefEqProofs (disch := first | omega | decide) only [seval, -Int.reducePow, -Nat.reducePow, cC, pv, binv, eBox, undef, wrap_in, g4, g5, g6]
                intro b5 hb5 h5
                refine appV_at 2 tap22 rfl (fun w hw => src_blk (size := 2) (.head _) rfl hw) rfl (by omega) (by omega) ?_
                intro A' c' hl _
                simp -implicitDefEqProofs (disch := first | omega | decide) only [seval, -Int.reducePow, -Nat.reducePow, cC, pv, binv, eBox, undef, g4, g5, g6]
                exact ⟨A', n6 + 1, c', rfl, by rw [hs1, exCells_snoc], by omega⟩
              · rw [if_neg (of_decide_eq_false hc)] at hs1
                refine cv_pick [1, 0, 2] (by decide) ?_
                simp only [pickL, nth]
                refine cv_skip ?_
                try simp only [blockQ, thenQ]
                simp -implicitDefEqProofs (disch := first | omega | decide) only [seval, -Int.reducePow, -Nat.reducePow, cC, pv, binv, eBox, undef, g4, g5, g6]
                exact ⟨A6, n6, c6, rfl, by rw [hs1, List.append_nil], by omega⟩
            · intro G7 L' _ hF
              obtain ⟨A8, n8, c8, q6, q9, q42, q43, q44, rfl, h8⟩ := hF
              have g7_6 := q6
              have g7_9 := q9.trans g6_9
              have g7_42 := q42.trans g6_42
              have g7_43 := q43.trans g6_43
              have g7_44 := q44.trans g6_44
              clear q6 q9 q42 q43 q44
              have g7 := And.intro g7_6 (And.intro g7_9 (And.intro g7_42 (And.intro g7_43 g7_44)))
              refine hK _ _ ?_
              clear hK K
              refine cv_pick_post [0, 2] (by decide) ?_
              refine cv_region_q rfl ?_
              simp -implicitDefEqProofs (disch := first | omega | decide) only [seval, -Int.reducePow, -Nat.reducePow, cC, pv, binv, eBox, undef, g4, g5, g7]
              refine callV_ret (fun w hw => end_any x.off x.len w (by omega) (by omega)) ?_
              try simp -implicitDefEqProofs (disch := first | omega | decide) only [seval, -Int.reducePow, -Nat.reducePow, cC, pv, binv, eBox, undef, g4, g5, g7]
              exact ⟨A8, n8, c8, rfl, by rw [hs2], rfl, by omega⟩
          · intro G8 L' _ hF
            obtain ⟨A6, n6, c6, q6, q7, q42, q43, q44, rfl, h6⟩ := hF
            have g8_6 := q6
            have g8_7 := q7
            have g8_42 := q42.trans g5_42
            have g8_43 := q43.trans g5_43
            have g8_44 := q44.trans g5_44
            clear q6 q7 q42 q43 q44
            have g8 := And.intro g8_6 (And.intro g8_7 (And.intro g8_42 (And.intro g8_43 g8_44)))
            refine hK _ _ ?_
            clear hK K
            refine cv_region_then rfl ?_
            simp -implicitDefEqProofs (disch := first | omega | decide) only [seval, -Int.reducePow, -Nat.reducePow, cC, pv, binv, eBox, undef, wrap_in, g4, g5, g8]
            refine ⟨⟨k + 1, A6, n6, c6, ?_⟩, ?_⟩
            · simp -implicitDefEqProofs (disch := first | omega | decide) only [seval, -Int.reducePow, -Nat.reducePow, cC, pv, binv, eBox, undef, Int.natCast_add, g4, g5, g8]
              omega
            · simp only [intOf]; omega
        · refine cv_exit ?_
          simp only [blockQ, thenQ, if_true, ite_true]
          clear hK K
          refine hK _ _ ?_
          clear hK K
          have hnk : n + 1 = k := by have := of_decide_eq_false hc; omega
          subst hnk
          refine cv_seq_k fun K hK => ?_
          refine cv_region_then rfl ?_
          simp -implicitDefEqProofs (disch := first | omega | decide) only [seval, -Int.reducePow, -Nat.reducePow, cC, pv, binv, eBox, undef, g4, g5]
          refine hK _ _ ?_
          clear hK K
          refine cv_ret ⟨_, (by simp -implicitDefEqProofs (disch := first | omega | decide) only [seval, -Int.reducePow, -Nat.reducePow, cC, pv, binv, eBox, undef, g4, g5]; rfl), fun w hw => ?_⟩
          exact ⟨A6, n6, c6, by rw [hF], by rw [hF]; exact ownsRow_new (hw.holds _ (.head _)) (hw.own _ (.head _)), hw.below⟩
end Go.Proofs.Ytabjbghmldiokaa
