/- Clone, and the contract of Remove. -/
import Derived.Test.YtabjbghmldiokaaFRow
namespace Go.Proofs.Ytabjbghmldiokaa
open Go.RowKit Go.Shelf
set_option linter.unusedVariables false
set_option linter.unusedSimpArgs false
set_option maxRecDepth 100000

theorem clone_ext (A : Option Addr) (n c : Nat) (xs : List Ext) (W : World) (hE : Exts W W.heap.size A n c xs) (hn : n ≤ 1000000) :
    Calls Try.prog 39 #[.slice A n c] W (rowPost 24 2 (fun v => v) (exCells xs) W) := by
  refine calls_cv (M := []) (n := 8) [.tmp 2] rfl Try.func39 rfl rfl (Nat.le_of_ble_eq_true rfl) (St.nil _ _) ?_
  refine cv_seq_k fun K hK => ?_
  refine cv_region_then rfl ?_
  simp -implicitDefEqProofs (disch := first | omega | decide) only [seval, -Int.reducePow, -Nat.reducePow, cC, pv, binv]
  refine hK _ _ ?_
  clear hK K
  refine cv_seq_k fun K hK => ?_
  refine cv_seq_k fun K hK => ?_
  refine cv_region_then rfl ?_
  simp -implicitDefEqProofs (disch := first | omega | decide) only [seval, -Int.reducePow, -Nat.reducePow, cC, pv, binv]
  refine hK _ _ ?_
  clear hK K
  refine cv_cond ?_
  simp -implicitDefEqProofs (disch := first | omega | decide) only [seval, -Int.reducePow, -Nat.reducePow, cC, pv, binv]
  refine ⟨fun hc => ?_, fun hc => ?_⟩
  · refine cv_seq_k fun K hK => ?_
    refine cv_region_then rfl ?_
    simp -implicitDefEqProofs (disch := first | omega | decide) only [seval, -Int.reducePow, -Nat.reducePow, cC, pv, binv]
    refine hK _ _ ?_
    clear hK K
    refine cv_ret ⟨_, (by simp -implicitDefEqProofs (disch := first | omega | decide) only [seval, -Int.reducePow, -Nat.reducePow, cC, pv, binv]; rfl), fun w hw => ?_⟩
    have hn0 : n = 0 := by
      rcases Nat.eq_zero_or_pos n with h | h
      · exact h
      · obtain ⟨b, off, rfl, _⟩ := hE.cells h
        simp at hc
    have hx : xs = [] := List.eq_nil_of_length_eq_zero (by rw [hE.len, hn0])
    exact ⟨none, 0, 0, rfl, by rw [hx]; exact World.ownsRow_nil _ _ _ _, hw.below⟩
  · refine cv_skip ?_
    try simp only [blockQ, thenQ]
    refine hK _ _ ?_
    clear hK K
    refine cv_seq_k fun K hK => ?_
    refine cv_region_then rfl ?_
    simp -implicitDefEqProofs (disch := first | omega | decide) only [seval, -Int.reducePow, -Nat.reducePow, cC, pv, binv]
    intro b hb
    refine appV_lit 0 tap22 rfl rfl (fun w hw => (hE.at hw).reads) (ones_exCells _) (by omega) (by omega) ?_
    intro A' c' hl _
    simp -implicitDefEqProofs (disch := first | omega | decide) only [seval, -Int.reducePow, -Nat.reducePow, cC, pv, binv]
    refine hK _ _ ?_
    clear hK K
    refine cv_ret ⟨_, (by simp -implicitDefEqProofs (disch := first | omega | decide) only [seval, -Int.reducePow, -Nat.reducePow, cC, pv, binv]; rfl), fun w hw => ?_⟩
    rw [Nat.zero_add] at *
    exact ⟨A', _, c', rfl, ownsRow_new (hw.holds _ (.head _)) (hw.own _ (.head _)), hw.below⟩

/-! ## Plain -/
namespace Ex
def remParts (x e : Ext) : List Ext := (if x.off < e.off then [⟨x.off, e.off - x.off⟩] else []) ++ (if e.end_ < x.end_ then [⟨e.end_, x.end_ - e.end_⟩] else [])
/-- Is it not within place i? -/
def remNo (xs : List Ext) (e : Ext) (i : Nat) : Prop := i = xs.length ∨ e.off < (get xs i).off ∨ (get xs i).end_ < e.end_
instance (xs : List Ext) (e : Ext) (i : Nat) : Decidable (remNo xs e i) := by unfold remNo; exact inferInstance
def remF (xs : List Ext) (e : Ext) : List Ext × Int :=
  if ¬ vld xs ∨ ¬ e.prop then ([], 1)
  else if remNo xs e (aft xs e.off) then ([], 6)
  else (xs.take (aft xs e.off) ++ (remParts (get xs (aft xs e.off)) e ++ xs.drop (aft xs e.off + 1)), 0)
end Ex

set_option maxHeartbeats 1000000 in
theorem remove_any (A : Option Addr) (n c : Nat) (xs : List Ext) (e : Ext) (W : World) (hE : Exts W W.heap.size A n c xs) (hn : n ≤ 1000) :
    Calls Try.prog 27 #[.slice A n c, .agg #[.int .i64 e.off, .int .i64 e.len]] W (rowPost 24 2 (fun v => .tuple #[v, .int .i64 (Ex.remF xs e).2]) (exCells (Ex.remF xs e).1) W) := by
  refine calls_cv (M := []) (n := 96) [.tmp 4, .tmp 5] rfl Try.func27 rfl rfl (Nat.le_of_ble_eq_true rfl) (St.nil _ _) ?_
  refine cv_seq_k fun K hK => ?_
  refine cv_region_then rfl ?_
  simp -implicitDefEqProofs (disch := first | omega | decide) only [seval, -Int.reducePow, -Nat.reducePow, cC, pv, binv, eBox]
  intro b hb
  refine hK _ _ ?_
  clear hK K
  refine cv_gen fun G1 hG => ?_
  have g1_0 := congrFun hG 0
  have g1_3 := congrFun hG 3
  clear hG
  try simp -implicitDefEqProofs (disch := first | omega | decide) only [seval, -Int.reducePow, -Nat.reducePow, cC, pv, binv, eBox] at g1_0 g1_3
  have g1 := And.intro g1_0 g1_3
  refine cv_seq_k fun K hK => ?_
  refine cv_seq_k fun K hK => ?_
  refine cv_cut (fun _ _ => True) (fun F' L' => F' 0 = G1 0 ∧ F' 3 = G1 3 ∧ F' 17 = .bool (!Ex.vldB xs || !e.propB) ∧ L' = [eBox b e]) ?_ ?_
  · refine cv_region_then rfl ?_
    simp -implicitDefEqProofs (disch := first | omega | decide) only [seval, -Int.reducePow, -Nat.reducePow, cC, pv, binv, eBox, g1]
    refine callV_ret (fun w hw => valid_any A n c xs w (hE.at hw)) ?_
    try simp -implicitDefEqProofs (disch := first | omega | decide) only [seval, -Int.reducePow, -Nat.reducePow, cC, pv, binv, eBox, g1]
    repeat' ((first | refine vcg_cases (fun hg => ?_) (fun hg => ?_) | refine vdg_cases (fun hg => ?_) (fun hg => ?_)) <;> ((try simp only [Bool.not_eq_true', Bool.not_eq_false', decide_eq_true_eq, decide_eq_false_iff_not] at hg); (try simp -implicitDefEqProofs (disch := first | omega | decide) only [seval, -Int.reducePow, -Nat.reducePow, cC, pv, binv, eBox, hg, g1])))
    refine callV_ret (fun w hw => proper_any _ _ w) ?_
    try simp -implicitDefEqProofs (disch := first | omega | decide) only [seval, -Int.reducePow, -Nat.reducePow, cC, pv, binv, eBox, g1]
    all_goals (first | (simp [hg]; done) | (simp [hg]; omega))
  · intro G2 L' _ hF
    obtain ⟨q0, q3, q17, rfl⟩ := hF
    have g2_0 := q0.trans g1_0
    have g2_3 := q3.trans g1_3
    have g2_17 := q17
    clear q0 q3 q17
    have g2 := And.intro g2_0 (And.intro g2_3 g2_17)
    refine hK _ _ ?_
    clear hK K
    refine cv_cond ?_
    simp -implicitDefEqProofs (disch := first | omega | decide) only [seval, -Int.reducePow, -Nat.reducePow, cC, pv, binv, eBox, g2]
    refine ⟨fun hc => ?_, fun hc => ?_⟩
    · refine cv_seq_k fun K hK => ?_
      refine cv_region_then rfl ?_
      simp -implicitDefEqProofs (disch := first | omega | decide) only [seval, -Int.reducePow, -Nat.reducePow, cC, pv, binv, eBox, g2]
      refine hK _ _ ?_
      clear hK K
      refine cv_ret ⟨_, (by simp -implicitDefEqProofs (disch := first | omega | decide) only [seval, -Int.reducePow, -Nat.reducePow, cC, pv, binv, eBox, g2]; rfl), fun w hw => ?_⟩
      have hF : Ex.remF xs e = ([], 1) := by
        unfold Ex.remF
        rw [if_pos]
        rw [← Ex.vldB_iff]
        have : e.propB = true ↔ e.prop := decide_eq_true_iff
        rw [← this]
        simpa [Bool.or_eq_true] using hc
      exact ⟨none, 0, 0, by rw [hF], by rw [hF]; exact World.ownsRow_nil _ _ _ _, hw.below⟩
    · refine cv_skip ?_
      try simp only [blockQ, thenQ]
      simp only [Bool.or_eq_false_iff, Bool.not_eq_false'] at hc
      obtain ⟨hv, hp⟩ := hc
      have hv := (Ex.vldB_iff xs).1 hv
      have hpp : e.prop := decide_eq_true_iff.1 hp
      have hp := (propB_iff e).1 hp
      refine hK _ _ ?_
      clear hK K
      refine cv_seq_k fun K hK => ?_
      refine cv_region_then rfl ?_
      simp -implicitDefEqProofs (disch := first | omega | decide) only [seval, -Int.reducePow, -Nat.reducePow, cC, pv, binv, eBox, eBox, g2]
      refine callV_ex (fun i : Nat => .int .i64 i) (Aft xs e.off) (fun w hw => after_any A n c xs e.off w (hE.at hw) hv) ?_
      intro i hA
      try simp -implicitDefEqProofs (disch := first | omega | decide) only [seval, -Int.reducePow, -Nat.reducePow, cC, pv, binv, eBox, g2]
      refine hK _ _ ?_
      clear hK K
      have hin : i ≤ n := by have := hA.1; rw [hE.len] at this; exact this
      have hai : Ex.aft xs e.off = i := Ex.aft_eq hA.1 hA.2.1 (fun h => hA.2.2 i (Nat.le_refl _) h)
      refine cv_gen fun G3 hG => ?_
      have g3_0 := congrFun hG 0
      have g3_3 := congrFun hG 3
      have g3_6 := congrFun hG 6
      clear hG
      try simp -implicitDefEqProofs (disch := first | omega | decide) only [seval, -Int.reducePow, -Nat.reducePow, cC, pv, binv, eBox, g2] at g3_0 g3_3 g3_6
      have g3 := And.intro g3_0 (And.intro g3_3 g3_6)
      refine cv_seq_k fun K hK => ?_
      refine cv_seq_k fun K hK => ?_
      refine cv_cut (fun _ _ => True) (fun F' L' => F' 0 = G3 0 ∧ F' 3 = G3 3 ∧ F' 6 = G3 6 ∧ F' 45 = .bool (decide (Ex.remNo xs e i)) ∧ L' = [eBox b e]) ?_ ?_
      · by_cases hlt : i < n
        · obtain ⟨b0, off, rfl, hb0, -⟩ := hE.cells (by omega)
          have hlt' : ¬ (i : Int) = n := by omega
          have hx := (hv i (by rw [hE.len]; omega)).1
          have hil : ¬ i = xs.length := by rw [hE.len]; omega
          refine cv_draw [(true, 0), (true, 1), (true, 2), (true, 3), (true, 4), (true, 5), (true, 6), (true, 7), (true, 8), (true, 9), (true, 10), (true, 11), (true, 12), (true, 13), (true, 14), (true, 15), (true, 16), (true, 17), (true, 18), (true, 20), (false, 19), (false, 21), (true, 22), (true, 23)] [] mixA rfl (by kernel_rfl) (by kernel_rfl) rfl rfl ?_
          simp -implicitDefEqProofs (disch := first | omega | decide) only [seval, -Int.reducePow, -Nat.reducePow, cC, pv, binv, eBox, hlt', g3]
          refine ⟨_, hE.ld0 hlt, fun tok htok => ?_⟩
          subst htok
          simp -implicitDefEqProofs (disch := first | omega | decide) only [seval, -Int.reducePow, -Nat.reducePow, cC, pv, binv, eBox, g3]
          repeat' ((first | refine vcg_cases (fun hg => ?_) (fun hg => ?_) | refine vdg_cases (fun hg => ?_) (fun hg => ?_)) <;> ((try simp only [Bool.not_eq_true', Bool.not_eq_false', decide_eq_true_eq, decide_eq_false_iff_not] at hg); (try simp -implicitDefEqProofs (disch := first | omega | decide) only [seval, -Int.reducePow, -Nat.reducePow, cC, pv, binv, eBox, hg, g3])))
          · refine ⟨_, hE.ld hlt, fun tok htok => ?_⟩
            subst htok
            simp -implicitDefEqProofs (disch := first | omega | decide) only [seval, -Int.reducePow, -Nat.reducePow, cC, pv, binv, eBox, g3]
            refine callV_ret (fun w hw => end_prop (Ex.get xs i) w hx) ?_
            try simp -implicitDefEqProofs (disch := first | omega | decide) only [seval, -Int.reducePow, -Nat.reducePow, cC, pv, binv, eBox, g3]
            refine callV_ret (fun w hw => end_prop e w hpp) ?_
            try simp -implicitDefEqProofs (disch := first | omega | decide) only [seval, -Int.reducePow, -Nat.reducePow, cC, pv, binv, eBox, g3]
            all_goals (first | (simp [Ex.remNo, hg, hil]; done) | (simp [Ex.remNo, hg, hil]; omega))
          · all_goals (first | (simp [Ex.remNo, hg]; done) | (simp [Ex.remNo, hg]; omega))
        · have hlt' : (i : Int) = n := by omega
          have hil : i = xs.length := by rw [hE.len]; omega
          refine cv_draw [(true, 0), (true, 1), (true, 2), (true, 3), (true, 4), (true, 5), (true, 6), (true, 7), (true, 8), (true, 9), (true, 10), (true, 11), (true, 12), (true, 13), (true, 14), (true, 15), (true, 16), (true, 17), (true, 18), (true, 20), (false, 19), (false, 21), (true, 22), (true, 23)] [] mixA rfl (by kernel_rfl) (by kernel_rfl) rfl rfl ?_
          simp -implicitDefEqProofs (disch := first | omega | decide) only [seval, -Int.reducePow, -Nat.reducePow, cC, pv, binv, eBox, hlt', g3]
          all_goals (first | (simp [Ex.remNo, hil]; done) | (simp [Ex.remNo, hil]; omega))
      · intro G4 L' _ hF
        obtain ⟨q0, q3, q6, q45, rfl⟩ := hF
        have g4_0 := q0.trans g3_0
        have g4_3 := q3.trans g3_3
        have g4_6 := q6.trans g3_6
        have g4_45 := q45
        clear q0 q3 q6 q45
        have g4 := And.intro g4_0 (And.intro g4_3 (And.intro g4_6 g4_45))
        refine hK _ _ ?_
        clear hK K
        refine cv_cond ?_
        simp -implicitDefEqProofs (disch := first | omega | decide) only [seval, -Int.reducePow, -Nat.reducePow, cC, pv, binv, eBox, g4]
        refine ⟨fun hc => ?_, fun hc => ?_⟩
        · refine cv_seq_k fun K hK => ?_
          refine cv_region_then rfl ?_
          simp -implicitDefEqProofs (disch := first | omega | decide) only [seval, -Int.reducePow, -Nat.reducePow, cC, pv, binv, eBox, g4]
          refine hK _ _ ?_
          clear hK K
          refine cv_ret ⟨_, (by simp -implicitDefEqProofs (disch := first | omega | decide) only [seval, -Int.reducePow, -Nat.reducePow, cC, pv, binv, eBox, g4]; rfl), fun w hw => ?_⟩
          have hF : Ex.remF xs e = ([], 6) := by
            unfold Ex.remF
            rw [if_neg (by rintro (h | h); exact h hv; exact h hpp), hai, if_pos (of_decide_eq_true hc)]
          exact ⟨none, 0, 0, by rw [hF], by rw [hF]; exact World.ownsRow_nil _ _ _ _, hw.below⟩
        · refine cv_skip ?_
          try simp only [blockQ, thenQ]
          have hno := of_decide_eq_false hc
          have hF : Ex.remF xs e = (xs.take i ++ (Ex.remParts (Ex.get xs i) e ++ xs.drop (i + 1)), 0) := by
            unfold Ex.remF
            rw [if_neg (by rintro (h | h); exact h hv; exact h hpp), hai, if_neg hno]
          have hlt : i < n := by
            unfold Ex.remNo at hno
            rw [hE.len] at hno
            omega
          have hcap := hE.cap
          have hxp := (hv i (by rw [hE.len]; exact hlt)).1
          obtain ⟨x, hx⟩ : ∃ x, Ex.get xs i = x := ⟨_, rfl⟩
          rw [hx] at hxp hF
          have hxb : 0 ≤ x.off ∧ 0 < x.len ∧ x.off + x.len ≤ 1048576 := hxp
          refine hK _ _ ?_
          clear hK K
          refine cv_seq_k fun K hK => ?_
          refine cv_region_then rfl ?_
          simp -implicitDefEqProofs (disch := first | omega | decide) only [seval, -Int.reducePow, -Nat.reducePow, cC, pv, binv, eBox, g4]
          refine callV_row (fun A' n' c' => .slice A' n' c') (fun w hw => clone_ext A i c (xs.take i) w ((hE.at hw).take (by omega)) (by omega)) ?_
          intro A7 n7 c7 hl7 hA7
          simp -implicitDefEqProofs (disch := first | omega | decide) only [seval, -Int.reducePow, -Nat.reducePow, cC, pv, binv, eBox, g4]
          refine hK _ _ ?_
          clear hK K
          refine cv_gen fun G5 hG => ?_
          have g5_0 := congrFun hG 0
          have g5_3 := congrFun hG 3
          have g5_6 := congrFun hG 6
          have g5_7 := congrFun hG 7
          clear hG
          try simp -implicitDefEqProofs (disch := first | omega | decide) only [seval, -Int.reducePow, -Nat.reducePow, cC, pv, binv, eBox, g4] at g5_0 g5_3 g5_6 g5_7
          have g5 := And.intro g5_0 (And.intro g5_3 (And.intro g5_6 g5_7))
          obtain ⟨P1, hP1⟩ : ∃ P1, (if x.off < e.off then [⟨x.off, e.off - x.off⟩] else [] : List Ext) = P1 := ⟨_, rfl⟩
          obtain ⟨P2, hP2⟩ : ∃ P2, (if e.end_ < x.end_ then [⟨e.end_, x.end_ - e.end_⟩] else [] : List Ext) = P2 := ⟨_, rfl⟩
          have hPP : Ex.remParts x e = P1 ++ P2 := by unfold Ex.remParts; rw [hP1, hP2]
          have hn7 : n7 ≤ i := by have := cells_len hl7; rw [List.length_take] at this; omega
          obtain ⟨b0, off, rfl, hb0, -⟩ := hE.cells (by omega)
          refine cv_seq_k fun K hK => ?_
          refine cv_cut (fun _ _ => True) (fun F' L' => ∃ (A8 : Option Addr) (n8 c8 : Nat), F' 0 = G5 0 ∧ F' 3 = G5 3 ∧ F' 6 = G5 6 ∧ F' 7 = .slice A8 n8 c8 ∧ L' = [.row (.slice A8 n8 c8) 24 2 n8 (exCells (xs.take i ++ P1)), eBox b e] ∧ n8 ≤ i + 1) ?_ ?_
          · refine cv_seq_k fun K hK => ?_
            refine cv_region_then rfl ?_
            simp -implicitDefEqProofs (disch := first | omega | decide) only [seval, -Int.reducePow, -Nat.reducePow, cC, pv, binv, eBox, g5]
            refine ⟨_, hE.ld hlt, fun tok htok => ?_⟩
            subst htok
            simp -implicitDefEqProofs (disch := first | omega | decide) only [seval, -Int.reducePow, -Nat.reducePow, cC, pv, binv, eBox, g5]
            rw [hx]
            intro b8 hb8 h8
            refine hK _ _ ?_
            clear hK K
            refine cv_gen fun G6 hG => ?_
            have g6_0 := congrFun hG 0
            have g6_3 := congrFun hG 3
            have g6_6 := congrFun hG 6
            have g6_7 := congrFun hG 7
            have g6_8 := congrFun hG 8
            clear hG
            try simp -implicitDefEqProofs (disch := first | omega | decide) only [seval, -Int.reducePow, -Nat.reducePow, cC, pv, binv, eBox, g5] at g6_0 g6_3 g6_6 g6_7 g6_8
            have g6 := And.intro g6_0 (And.intro g6_3 (And.intro g6_6 (And.intro g6_7 g6_8)))
            refine cv_seq_k fun K hK => ?_
            refine cv_region_then rfl ?_
            simp -implicitDefEqProofs (disch := first | omega | decide) only [seval, -Int.reducePow, -Nat.reducePow, cC, pv, binv, eBox, g5, g6]
            refine hK _ _ ?_
            clear hK K
            refine cv_cond ?_
            simp -implicitDefEqProofs (disch := first | omega | decide) only [seval, -Int.reducePow, -Nat.reducePow, cC, pv, binv, eBox, g5, g6]
            refine ⟨fun hc => ?_, fun hc => ?_⟩
            · rw [if_pos (of_decide_eq_true hc)] at hP1
              refine cv_pick_post [0, 3] (by decide) ?_
              refine cv_region_q rfl ?_
              simp -implicitDefEqProofs (disch := first | omega | decide) only [seval, -Int.reducePow, -Nat.reducePow, cC, pv, binv, eBox, wrap_in, g5, g6]
              intro b9 hb9 h9
              refine appV_at 2 tap22 rfl (fun w hw => src_blk (size := 2) (.head _) rfl hw) rfl (by omega) (by omega) ?_
              intro A' c' hl _
              simp -implicitDefEqProofs (disch := first | omega | decide) only [seval, -Int.reducePow, -Nat.reducePow, cC, pv, binv, eBox, g5, g6]
              exact ⟨A', n7 + 1, c', rfl, by rw [← hP1, exCells_snoc], by omega⟩
            · rw [if_neg (of_decide_eq_false hc)] at hP1
              refine cv_pick [1, 2] (by decide) ?_
              simp only [pickL, nth]
              refine cv_skip ?_
              try simp only [blockQ, thenQ]
              simp -implicitDefEqProofs (disch := first | omega | decide) only [seval, -Int.reducePow, -Nat.reducePow, cC, pv, binv, eBox, g5, g6]
              exact ⟨A7, n7, c7, rfl, by rw [← hP1, List.append_nil], by omega⟩
          · intro G7 L' _ hF
            obtain ⟨A8, n8, c8, q0, q3, q6, q7, rfl, h8⟩ := hF
            have g7_0 := q0.trans g5_0
            have g7_3 := q3.trans g5_3
            have g7_6 := q6.trans g5_6
            have g7_7 := q7
            clear q0 q3 q6 q7
            have g7 := And.intro g7_0 (And.intro g7_3 (And.intro g7_6 g7_7))
            refine hK _ _ ?_
            clear hK K
            refine cv_seq_k fun K hK => ?_
            refine cv_cut (fun _ _ => True) (fun F' L' => ∃ (A9 : Option Addr) (n9 c9 : Nat), F' 0 = G7 0 ∧ F' 6 = G7 6 ∧ F' 7 = .slice A9 n9 c9 ∧ L' = [.row (.slice A9 n9 c9) 24 2 n9 (exCells (xs.take i ++ P1 ++ P2)), eBox b e] ∧ n9 ≤ i + 2) ?_ ?_
            · refine cv_seq_k fun K hK => ?_
              refine cv_region_then rfl ?_
              simp -implicitDefEqProofs (disch := first | omega | decide) only [seval, -Int.reducePow, -Nat.reducePow, cC, pv, binv, eBox, g7]
              refine ⟨_, hE.ld hlt, fun tok htok => ?_⟩
              subst htok
              simp -implicitDefEqProofs (disch := first | omega | decide) only [seval, -Int.reducePow, -Nat.reducePow, cC, pv, binv, eBox, g7]
              rw [hx]
              intro b8 hb8 h8'
              refine hK _ _ ?_
              clear hK K
              refine cv_gen fun G8 hG => ?_
              have g8_0 := congrFun hG 0
              have g8_3 := congrFun hG 3
              have g8_6 := congrFun hG 6
              have g8_7 := congrFun hG 7
              have g8_9 := congrFun hG 9
              clear hG
              try simp -implicitDefEqProofs (disch := first | omega | decide) only [seval, -Int.reducePow, -Nat.reducePow, cC, pv, binv, eBox, g7] at g8_0 g8_3 g8_6 g8_7 g8_9
              have g8 := And.intro g8_0 (And.intro g8_3 (And.intro g8_6 (And.intro g8_7 g8_9)))
              refine cv_seq_k fun K hK => ?_
              refine cv_draw [(true, 0), (true, 2), (false, 1), (false, 3), (true, 4)] [] mixA rfl (by kernel_rfl) (by kernel_rfl) rfl rfl ?_
              simp -implicitDefEqProofs (disch := first | omega | decide) only [seval, -Int.reducePow, -Nat.reducePow, cC, pv, binv, eBox, g7, g8]
              refine callV_ret (fun w hw => end_prop x w hxp) ?_
              try simp -implicitDefEqProofs (disch := first | omega | decide) only [seval, -Int.reducePow, -Nat.reducePow, cC, pv, binv, eBox, g7, g8]
              refine callV_ret (fun w hw => end_prop e w hpp) ?_
              try simp -implicitDefEqProofs (disch := first | omega | decide) only [seval, -Int.reducePow, -Nat.reducePow, cC, pv, binv, eBox, g7, g8]
              refine hK _ _ ?_
              clear hK K
              refine cv_cond ?_
              simp -implicitDefEqProofs (disch := first | omega | decide) only [seval, -Int.reducePow, -Nat.reducePow, cC, pv, binv, eBox, g7, g8]
              refine ⟨fun hc => ?_, fun hc => ?_⟩
              · rw [if_pos (of_decide_eq_true hc)] at hP2
                refine cv_pick_post [0, 3] (by decide) ?_
                refine cv_q ?_
                refine cv_draw_of (pickL [0, 2] _) (fun w hw => hw.pick (by decide)) (by simp only [pickL, nth, suf_cons, suf_nil, List.mem_cons, true_or, or_true, and_true, eq_self]) [(true, 0), (true, 1), (true, 3), (true, 5), (false, 2), (false, 4), (false, 6), (true, 7), (true, 8), (false, 9), (false, 10), (true, 11)] [] mixA rfl (by kernel_rfl) (by kernel_rfl) rfl rfl ?_
                simp -implicitDefEqProofs (disch := first | omega | decide) only [seval, -Int.reducePow, -Nat.reducePow, cC, pv, binv, eBox, g7, g8]
                refine callV_ret (fun w hw => end_prop e w hpp) ?_
                try simp -implicitDefEqProofs (disch := first | omega | decide) only [seval, -Int.reducePow, -Nat.reducePow, cC, pv, binv, eBox, g7, g8]
                refine callV_ret (fun w hw => end_prop x w hxp) ?_
                try simp -implicitDefEqProofs (disch := first | omega | decide) only [seval, -Int.reducePow, -Nat.reducePow, cC, pv, binv, eBox, g7, g8]
                have hwe : IntKind.i64.wrap (x.end_ - e.end_) = x.end_ - e.end_ := wrap_in (by unfold Ext.end_; omega) (by unfold Ext.end_; omega)
                refine callV_ret (fun w hw => end_prop e w hpp) ?_
                try simp -implicitDefEqProofs (disch := first | omega | decide) only [seval, -Int.reducePow, -Nat.reducePow, cC, pv, binv, eBox, hwe, g7, g8]
                intro b9 hb9 h9
                refine appV_at 2 tap22 rfl (fun w hw => src_blk (size := 2) (.head _) rfl hw) rfl (by omega) (by omega) ?_
                intro A' c' hl _
                simp -implicitDefEqProofs (disch := first | omega | decide) only [seval, -Int.reducePow, -Nat.reducePow, cC, pv, binv, eBox, g7, g8]
                exact ⟨A', n8 + 1, c', rfl, by rw [← hP2, exCells_snoc], by omega⟩
              · rw [if_neg (of_decide_eq_false hc)] at hP2
                refine cv_pick [1, 2] (by decide) ?_
                simp only [pickL, nth]
                refine cv_skip ?_
                try simp only [blockQ, thenQ]
                simp -implicitDefEqProofs (disch := first | omega | decide) only [seval, -Int.reducePow, -Nat.reducePow, cC, pv, binv, eBox, g7, g8]
                exact ⟨A8, n8, c8, rfl, by rw [← hP2, List.append_nil], by omega⟩
            · intro G9 L' _ hF
              obtain ⟨A9, n9, c9, q0, q6, q7, rfl, h9⟩ := hF
              have g9_0 := q0.trans g7_0
              have g9_6 := q6.trans g7_6
              have g9_7 := q7
              clear q0 q6 q7
              have g9 := And.intro g9_0 (And.intro g9_6 g9_7)
              refine hK _ _ ?_
              clear hK K
              have hi1 : ((i : Int) + 1).toNat = i + 1 := by omega
              have hw1 : IntKind.i64.wrap ((i : Int) + 1) = (i : Int) + 1 := wrap_in (by omega) (by omega)
              refine cv_seq_k fun K hK => ?_
              refine cv_region_then rfl ?_
              simp -implicitDefEqProofs (disch := first | omega | decide) only [seval, -Int.reducePow, -Nat.reducePow, cC, pv, binv, eBox, hw1, hi1, g9]
              refine appV_at 0 tap22 rfl (fun w hw => ((hE.at hw).drop (k := i + 1) (by omega)).reads) (ones_exCells _) (by omega) (by omega) ?_
              intro A' c' hl _
              simp -implicitDefEqProofs (disch := first | omega | decide) only [seval, -Int.reducePow, -Nat.reducePow, cC, pv, binv, eBox, g9]
              refine hK _ _ ?_
              clear hK K
              refine cv_ret ⟨_, (by simp -implicitDefEqProofs (disch := first | omega | decide) only [seval, -Int.reducePow, -Nat.reducePow, cC, pv, binv, eBox, g9]; rfl), fun w hw => ?_⟩
              have e5 : exCells (xs.take i ++ (Ex.remParts x e ++ xs.drop (i + 1))) = exCells (xs.take i ++ P1 ++ P2) ++ exCells (xs.drop (i + 1)) := by rw [hPP]; simp [exCells]
              exact ⟨A', _, c', by rw [hF], by rw [hF]; dsimp only; rw [e5]; exact ownsRow_new (hw.holds _ (.head _)) (hw.own _ (.head _)), hw.below⟩
end Go.Proofs.Ytabjbghmldiokaa
