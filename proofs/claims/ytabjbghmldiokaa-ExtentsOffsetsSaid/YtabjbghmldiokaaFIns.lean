/- The contract of Insert. -/
import Derived.Test.YtabjbghmldiokaaFExt
namespace Go.Proofs.Ytabjbghmldiokaa
open Go.RowKit Go.Shelf
set_option linter.unusedVariables false
set_option linter.unusedSimpArgs false
set_option maxRecDepth 100000

def rowPost (T : TypeId) (size : Nat) (f : Value → Value) (xs : List Value) (w : World) (e : Ending) (w' : World) : Prop :=
  ∃ A n c, e = .returned (f (.slice A n c)) ∧ w'.ownsRow w.heap.size T size (.slice A n c) n xs ∧ Below w.heap.size w w'
def eBox (b : Nat) (e : Ext) : Res := .blk b 24 [.int .i64 e.off, .int .i64 e.len]
theorem insL_fit {xs : List Ext} {e e1 : Ext} {i f1 : Nat} (hi : i ≤ xs.length) (hv : Ex.vld xs) (hp : e.prop) (h : Ex.insL xs e i = (f1, e1)) : e1.prop ∧ f1 ≤ i := by
  unfold Ex.insL at h
  split at h
  · rename_i hc
    have hx := (hv (i - 1) (by omega)).1
    obtain ⟨rfl, rfl⟩ := Prod.mk.inj h
    have h2 := hc.2
    unfold Ext.end_ at h2
    unfold Ext.prop at *
    dsimp only
    omega
  · obtain ⟨rfl, rfl⟩ := Prod.mk.inj h
    exact ⟨hp, Nat.le_refl _⟩
theorem insR_fit {xs : List Ext} {e1 e2 : Ext} {i l2 : Nat} (hi : i ≤ xs.length) (h : Ex.insR xs e1 i = (l2, e2)) : i ≤ l2 ∧ l2 ≤ xs.length := by
  unfold Ex.insR at h
  split at h
  · rename_i hc
    obtain ⟨rfl, rfl⟩ := Prod.mk.inj h
    omega
  · obtain ⟨rfl, rfl⟩ := Prod.mk.inj h
    omega
theorem concat_ext {W w : World} {L : List Res} {A : Option Addr} {n c f1 l2 i : Nat} {xs : List Ext} {t1 t2 : TypeId} {b1 b2 : Nat} {e2 : Ext} (hw : St [] W L w) (hE : Exts w w.heap.size A n c xs) (hf : f1 ≤ i) (hl : i ≤ l2 ∧ l2 ≤ n)
    (hm2 : Res.blk b2 t2 [.slice A f1 c, .slice (some ⟨b1, 0, none⟩) 1 1, .slice (sbase c l2 2 A) (n - l2) (c - l2)] ∈ L) (hm1 : Res.blk b1 t1 [.int .i64 e2.off, .int .i64 e2.len] ∈ L) (hn : n ≤ 1000) :
    Calls Try.prog 32 #[.slice (some ⟨b2, 0, none⟩) 3 3] w
      (fun e w' => ∃ A' n' c', e = .returned (.slice A' n' c') ∧ w'.ownsRow w.heap.size 24 2 (.slice A' n' c') n' (exCells (xs.take f1 ++ ([e2] ++ xs.drop l2))) ∧ Below w.heap.size w w') := by
  have hE0 := hE.take (k := f1) (by omega)
  have hE1 := Exts.of_blk hw hm1
  have hE2 := hE.drop (k := l2) (by omega)
  have hp := concat_any b2 3 (fun k => match k with | 0 => A | 1 => some ⟨b1, 0, none⟩ | _ => sbase c l2 2 A) (fun k => match k with | 0 => f1 | 1 => 1 | _ => n - l2) (fun k => match k with | 0 => c | 1 => 1 | _ => c - l2)
    (fun k => match k with | 0 => xs.take f1 | 1 => [e2] | _ => xs.drop l2) w ((hw.own _ hm2 b2 (by simp [Res.foot])).2) (by omega) (by simp only [sumTo]; omega)
    (fun k hk => by
      match k, hk with
      | 0, _ => exact hw.blk_cell hm2 0
      | 1, _ => exact hw.blk_cell hm2 1
      | 2, _ => exact hw.blk_cell hm2 2)
    (fun k hk => by
      match k, hk with
      | 0, _ => exact hE0
      | 1, _ => exact hE1
      | 2, _ => exact hE2)
  refine hp.mono ?_
  rintro en w' ⟨A', c', rfl, hown, hB⟩
  refine ⟨A', _, c', rfl, ?_, hB⟩
  have e1 : catTo (fun k => match k with | 0 => xs.take f1 | 1 => [e2] | _ => xs.drop l2) 3 = xs.take f1 ++ ([e2] ++ xs.drop l2) := by simp [catTo]
  rw [← e1]
  exact hown
set_option maxHeartbeats 1000000 in
theorem insert_good (A : Option Addr) (n c : Nat) (xs : List Ext) (e : Ext) (W : World) (hE : Exts W W.heap.size A n c xs) (hn : n ≤ 1000) :
    Calls Try.prog 14 #[.slice A n c, .agg #[.int .i64 e.off, .int .i64 e.len]] W (rowPost 24 2 (fun v => .tuple #[v, .int .i64 (Ex.insF xs e).2]) (exCells (Ex.insF xs e).1) W) := by
  refine calls_cv (M := []) (n := 101) [.tmp 4, .tmp 5] rfl Try.func14 rfl rfl (Nat.le_of_ble_eq_true rfl) (St.nil _ _) ?_
  refine cv_seq_k fun K hK => ?_
  refine cv_region_then rfl ?_
  simp -implicitDefEqProofs (disch := first | omega | decide) only [seval, -Int.reducePow, -Nat.reducePow, cC, pv, binv, eBox]
  intro b hb
  refine hK _ _ ?_
  clear hK K
  refine cv_gen fun G1 hG => ?_
  have g1_0 := congrFun hG 0
  have g1_3 := congrFun hG 3
  clear hG
  try simp -implicitDefEqProofs (disch := first | omega | decide) only [seval, -Int.reducePow, -Nat.reducePow, cC, pv, binv, eBox] at g1_0 g1_3
  have g1 := And.intro g1_0 g1_3
  refine cv_seq_k fun K hK => ?_
  refine cv_seq_k fun K hK => ?_
  refine cv_cut (fun _ _ => True) (fun F' L' => F' 0 = G1 0 ∧ F' 3 = G1 3 ∧ F' 16 = .bool (!Ex.vldB xs || !e.propB) ∧ L' = [eBox b e]) ?_ ?_
  · refine cv_region_then rfl ?_
    simp -implicitDefEqProofs (disch := first | omega | decide) only [seval, -Int.reducePow, -Nat.reducePow, cC, pv, binv, eBox, g1]
    refine callV_ret (fun w hw => valid_any A n c xs w (hE.at hw)) ?_
    try simp -implicitDefEqProofs (disch := first | omega | decide) only [seval, -Int.reducePow, -Nat.reducePow, cC, pv, binv, eBox, g1]
    repeat' ((first | refine vcg_cases (fun hg => ?_) (fun hg => ?_) | refine vdg_cases (fun hg => ?_) (fun hg => ?_)) <;> ((try simp only [Bool.not_eq_true', Bool.not_eq_false', decide_eq_true_eq, decide_eq_false_iff_not] at hg); (try simp -implicitDefEqProofs (disch := first | omega | decide) only [seval, -Int.reducePow, -Nat.reducePow, cC, pv, binv, eBox, hg, g1])))
    refine callV_ret (fun w hw => proper_any _ _ w) ?_
    try simp -implicitDefEqProofs (disch := first | omega | decide) only [seval, -Int.reducePow, -Nat.reducePow, cC, pv, binv, eBox, g1]
    all_goals (first | (simp [hg]; done) | (simp [hg]; omega))
  · intro G2 L' _ hF
    obtain ⟨q0, q3, q16, rfl⟩ := hF
    have g2_0 := q0.trans g1_0
    have g2_3 := q3.trans g1_3
    have g2_16 := q16
    clear q0 q3 q16
    have g2 := And.intro g2_0 (And.intro g2_3 g2_16)
    refine hK _ _ ?_
    clear hK K
    refine cv_cond ?_
    simp -implicitDefEqProofs (disch := first | omega | decide) only [seval, -Int.reducePow, -Nat.reducePow, cC, pv, binv, eBox, g2]
    refine ⟨fun hc => ?_, fun hc => ?_⟩
    · refine cv_seq_k fun K hK => ?_
      refine cv_region_then rfl ?_
      simp -implicitDefEqProofs (disch := first | omega | decide) only [seval, -Int.reducePow, -Nat.reducePow, cC, pv, binv, eBox, g2]
      refine hK _ _ ?_
      clear hK K
      refine cv_ret ⟨_, (by simp -implicitDefEqProofs (disch := first | omega | decide) only [seval, -Int.reducePow, -Nat.reducePow, cC, pv, binv, eBox, g2]; rfl), fun w hw => ?_⟩
      have hF : Ex.insF xs e = ([], 1) := by
        unfold Ex.insF
        rw [if_pos]
        rw [← Ex.vldB_iff]
        have : e.propB = true ↔ e.prop := decide_eq_true_iff
        rw [← this]
        simpa [Bool.or_eq_true] using hc
      exact ⟨none, 0, 0, by rw [hF], by rw [hF]; exact World.ownsRow_nil _ _ _ _, hw.below⟩
    · refine cv_skip ?_
      try simp only [blockQ, thenQ]
      simp only [Bool.or_eq_false_iff, Bool.not_eq_false'] at hc
      obtain ⟨hv, hp⟩ := hc
      have hv := (Ex.vldB_iff xs).1 hv
      have hpp : e.prop := decide_eq_true_iff.1 hp
      have hp := (propB_iff e).1 hp
      refine hK _ _ ?_
      clear hK K
      refine cv_seq_k fun K hK => ?_
      refine cv_region_then rfl ?_
      simp -implicitDefEqProofs (disch := first | omega | decide) only [seval, -Int.reducePow, -Nat.reducePow, cC, pv, binv, eBox, g2]
      refine callV_ex (fun i : Nat => .int .i64 i) (Aft xs e.off) (fun w hw => after_any A n c xs e.off w (hE.at hw) hv) ?_
      intro i hA
      try simp -implicitDefEqProofs (disch := first | omega | decide) only [seval, -Int.reducePow, -Nat.reducePow, cC, pv, binv, eBox, g2]
      refine hK _ _ ?_
      clear hK K
      have hin : i ≤ n := by have := hA.1; rw [hE.len] at this; exact this
      have hai : Ex.aft xs e.off = i := Ex.aft_eq hA.1 hA.2.1 (fun h => hA.2.2 i (Nat.le_refl _) h)
      refine cv_gen fun G3 hG => ?_
      have g3_0 := congrFun hG 0
      have g3_3 := congrFun hG 3
      have g3_6 := congrFun hG 6
      clear hG
      try simp -implicitDefEqProofs (disch := first | omega | decide) only [seval, -Int.reducePow, -Nat.reducePow, cC, pv, binv, eBox, g2] at g3_0 g3_3 g3_6
      have g3 := And.intro g3_0 (And.intro g3_3 g3_6)
      refine cv_seq_k fun K hK => ?_
      refine cv_seq_k fun K hK => ?_
      refine cv_cut (fun _ _ => True) (fun F' L' => F' 0 = G3 0 ∧ F' 3 = G3 3 ∧ F' 6 = G3 6 ∧ F' 34 = .bool (decide (i < n ∧ (Ex.get xs i).off < e.end_)) ∧ L' = [eBox b e]) ?_ ?_
      · by_cases hlt : i < n
        · obtain ⟨b0, off, rfl, hb0, -⟩ := hE.cells (by omega)
          have hlt' : (i : Int) < n := by omega
          refine cv_draw [(true, 0), (true, 1), (true, 2), (true, 3), (true, 4), (true, 5), (true, 6), (true, 7), (true, 8), (true, 9), (true, 10), (false, 11), (true, 12), (true, 13)] [] mixA rfl (by kernel_rfl) (by kernel_rfl) rfl rfl ?_
          simp -implicitDefEqProofs (disch := first | omega | decide) only [seval, -Int.reducePow, -Nat.reducePow, cC, pv, binv, eBox, hlt', g3]
          refine ⟨_, hE.ld0 hlt, fun tok htok => ?_⟩
          subst htok
          simp -implicitDefEqProofs (disch := first | omega | decide) only [seval, -Int.reducePow, -Nat.reducePow, cC, pv, binv, eBox, g3]
          refine callV_ret (fun w hw => end_prop e w hpp) ?_
          try simp -implicitDefEqProofs (disch := first | omega | decide) only [seval, -Int.reducePow, -Nat.reducePow, cC, pv, binv, eBox, g3]
          all_goals (first | (simp [hlt]; done) | (simp [hlt]; omega))
        · have hlt' : ¬ (i : Int) < n := by omega
          refine cv_draw [(true, 0), (true, 1), (true, 2), (true, 3), (true, 4), (true, 5), (true, 6), (true, 7), (true, 8), (true, 9), (true, 10), (false, 11), (true, 12), (true, 13)] [] mixA rfl (by kernel_rfl) (by kernel_rfl) rfl rfl ?_
          simp -implicitDefEqProofs (disch := first | omega | decide) only [seval, -Int.reducePow, -Nat.reducePow, cC, pv, binv, eBox, hlt', g3]
          all_goals (first | (simp [hlt]; done) | (simp [hlt]; omega))
      · intro G4 L' _ hF
        obtain ⟨q0, q3, q6, q34, rfl⟩ := hF
        have g4_0 := q0.trans g3_0
        have g4_3 := q3.trans g3_3
        have g4_6 := q6.trans g3_6
        have g4_34 := q34
        clear q0 q3 q6 q34
        have g4 := And.intro g4_0 (And.intro g4_3 (And.intro g4_6 g4_34))
        refine hK _ _ ?_
        clear hK K
        refine cv_cond ?_
        simp -implicitDefEqProofs (disch := first | omega | decide) only [seval, -Int.reducePow, -Nat.reducePow, cC, pv, binv, eBox, g4]
        refine ⟨fun hc => ?_, fun hc => ?_⟩
        · refine cv_seq_k fun K hK => ?_
          refine cv_region_then rfl ?_
          simp -implicitDefEqProofs (disch := first | omega | decide) only [seval, -Int.reducePow, -Nat.reducePow, cC, pv, binv, eBox, g4]
          refine hK _ _ ?_
          clear hK K
          refine cv_ret ⟨_, (by simp -implicitDefEqProofs (disch := first | omega | decide) only [seval, -Int.reducePow, -Nat.reducePow, cC, pv, binv, eBox, g4]; rfl), fun w hw => ?_⟩
          have hF : Ex.insF xs e = ([], 5) := by
            unfold Ex.insF
            rw [if_neg (by rintro (h | h); exact h hv; exact h hpp), if_pos (by rw [hai, hE.len]; exact of_decide_eq_true hc)]
          exact ⟨none, 0, 0, by rw [hF], by rw [hF]; exact World.ownsRow_nil _ _ _ _, hw.below⟩
        · refine cv_skip ?_
          try simp only [blockQ, thenQ]
          have hF : Ex.insF xs e = (xs.take (Ex.insL xs e i).1 ++ ([(Ex.insR xs (Ex.insL xs e i).2 i).2] ++ xs.drop (Ex.insR xs (Ex.insL xs e i).2 i).1), 0) := by
            unfold Ex.insF
            rw [if_neg (by rintro (h | h); exact h hv; exact h hpp), if_neg (by rw [hai, hE.len]; exact of_decide_eq_false hc), hai]
          refine hK _ _ ?_
          clear hK K
          refine cv_seq_k fun K hK => ?_
          refine cv_region_then rfl ?_
          simp -implicitDefEqProofs (disch := first | omega | decide) only [seval, -Int.reducePow, -Nat.reducePow, cC, pv, binv, eBox, g4]
          refine hK _ _ ?_
          clear hK K
          refine cv_gen fun G5 hG => ?_
          have g5_0 := congrFun hG 0
          have g5_3 := congrFun hG 3
          have g5_6 := congrFun hG 6
          have g5_7 := congrFun hG 7
          have g5_8 := congrFun hG 8
          clear hG
          try simp -implicitDefEqProofs (disch := first | omega | decide) only [seval, -Int.reducePow, -Nat.reducePow, cC, pv, binv, eBox, g4] at g5_0 g5_3 g5_6 g5_7 g5_8
          have g5 := And.intro g5_0 (And.intro g5_3 (And.intro g5_6 (And.intro g5_7 g5_8)))
          refine cv_seq_k fun K hK => ?_
          refine cv_seq_k fun K hK => ?_
          refine cv_cut (fun _ _ => True) (fun F' L' => F' 0 = G5 0 ∧ F' 3 = G5 3 ∧ F' 6 = G5 6 ∧ F' 7 = G5 7 ∧ F' 8 = G5 8 ∧ F' 49 = .bool (decide (0 < i ∧ (Ex.get xs (i - 1)).end_ = e.off)) ∧ L' = [eBox b e]) ?_ ?_
          · by_cases hlt : 0 < i
            · obtain ⟨j, rfl⟩ : ∃ j, i = j + 1 := ⟨i - 1, by omega⟩
              obtain ⟨b0, off, rfl, hb0, -⟩ := hE.cells (by omega)
              have hlt' : (0 : Int) < ((j + 1 : Nat) : Int) := by omega
              have hj : IntKind.i64.wrap (((j + 1 : Nat) : Int) - 1) = (j : Int) := by rw [wrap_in (by omega) (by omega)]; omega
              have hx := (hv j (by rw [hE.len]; omega)).1
              refine cv_draw [(true, 0), (true, 1), (true, 2), (true, 3), (true, 4), (true, 5), (true, 6), (true, 7), (true, 9), (true, 10), (false, 8), (true, 11), (true, 12)] [] mixA rfl (by kernel_rfl) (by kernel_rfl) rfl rfl ?_
              simp -implicitDefEqProofs (disch := first | omega | decide) only [seval, -Int.reducePow, -Nat.reducePow, cC, pv, binv, eBox, hlt', hj, g5]
              refine ⟨_, hE.ld (show j < n by omega), fun tok htok => ?_⟩
              subst htok
              simp -implicitDefEqProofs (disch := first | omega | decide) only [seval, -Int.reducePow, -Nat.reducePow, cC, pv, binv, eBox, g5]
              refine callV_ret (fun w hw => end_prop (Ex.get xs j) w hx) ?_
              try simp -implicitDefEqProofs (disch := first | omega | decide) only [seval, -Int.reducePow, -Nat.reducePow, cC, pv, binv, eBox, g5]
              all_goals (first | (simp; done) | (simp; omega))
            · have hlt' : ¬ (0 : Int) < (i : Int) := by omega
              refine cv_draw [(true, 0), (true, 1), (true, 2), (true, 3), (true, 4), (true, 5), (true, 6), (true, 7), (true, 9), (true, 10), (false, 8), (true, 11), (true, 12)] [] mixA rfl (by kernel_rfl) (by kernel_rfl) rfl rfl ?_
              simp -implicitDefEqProofs (disch := first | omega | decide) only [seval, -Int.reducePow, -Nat.reducePow, cC, pv, binv, eBox, hlt', g5]
              all_goals (first | (simp [hlt]; done) | (simp [hlt]; omega))
          · intro G6 L' _ hF
            obtain ⟨q0, q3, q6, q7, q8, q49, rfl⟩ := hF
            have g6_0 := q0.trans g5_0
            have g6_3 := q3.trans g5_3
            have g6_6 := q6.trans g5_6
            have g6_7 := q7.trans g5_7
            have g6_8 := q8.trans g5_8
            have g6_49 := q49
            clear q0 q3 q6 q7 q8 q49
            have g6 := And.intro g6_0 (And.intro g6_3 (And.intro g6_6 (And.intro g6_7 (And.intro g6_8 g6_49))))
            refine hK _ _ ?_
            clear hK K
            obtain ⟨f1, e1, hf1⟩ : ∃ f1 e1, Ex.insL xs e i = (f1, e1) := ⟨_, _, rfl⟩
            refine cv_cut (fun _ _ => True) (fun F' L' => F' 0 = G6 0 ∧ F' 3 = G6 3 ∧ F' 6 = G6 6 ∧ F' 7 = .int .i64 (f1 : Int) ∧ F' 8 = G6 8 ∧ L' = [eBox b e1]) ?_ ?_
            · refine cv_cond ?_
              simp -implicitDefEqProofs (disch := first | omega | decide) only [seval, -Int.reducePow, -Nat.reducePow, cC, pv, binv, eBox, g6]
              refine ⟨fun hc => ?_, fun hc => ?_⟩
              · obtain ⟨hi, hj⟩ := of_decide_eq_true hc
                obtain ⟨j, rfl⟩ : ∃ j, i = j + 1 := ⟨i - 1, by omega⟩
                simp only [Nat.add_sub_cancel] at hj
                unfold Ex.insL at hf1
                rw [if_pos ⟨hi, hj⟩] at hf1
                simp only [Nat.add_sub_cancel] at hf1
                obtain ⟨hf1, hf1'⟩ := Prod.mk.inj hf1
                subst hf1
                subst hf1'
                obtain ⟨b0, off, rfl, hb0, -⟩ := hE.cells (by omega)
                have hx : 0 ≤ (Ex.get xs j).off ∧ 0 < (Ex.get xs j).len ∧ (Ex.get xs j).off + (Ex.get xs j).len ≤ 1048576 := (hv j (by rw [hE.len]; omega)).1
                have hj : IntKind.i64.wrap (((j + 1 : Nat) : Int) - 1) = (j : Int) := by rw [wrap_in (by omega) (by omega)]; omega
                refine cv_seq_k fun K hK => ?_
                refine cv_region_then rfl ?_
                simp -implicitDefEqProofs (disch := first | omega | decide) only [seval, -Int.reducePow, -Nat.reducePow, cC, pv, binv, eBox, hj, g6]
                refine hK _ _ ?_
                clear hK K
                refine cv_gen fun G7 hG => ?_
                have g7_0 := congrFun hG 0
                have g7_3 := congrFun hG 3
                have g7_6 := congrFun hG 6
                have g7_7 := congrFun hG 7
                have g7_8 := congrFun hG 8
                clear hG
                try simp -implicitDefEqProofs (disch := first | omega | decide) only [seval, -Int.reducePow, -Nat.reducePow, cC, pv, binv, eBox, g6] at g7_0 g7_3 g7_6 g7_7 g7_8
                have g7 := And.intro g7_0 (And.intro g7_3 (And.intro g7_6 (And.intro g7_7 g7_8)))
                refine cv_draw [(true, 0), (true, 1), (true, 2), (true, 3), (true, 4), (true, 5), (true, 6), (true, 7), (true, 8), (true, 9), (true, 10), (true, 11), (true, 12), (true, 13), (false, 14)] [14] mixA rfl (by kernel_rfl) (by kernel_rfl) rfl rfl ?_
                simp -implicitDefEqProofs (disch := first | omega | decide) only [seval, -Int.reducePow, -Nat.reducePow, cC, pv, binv, eBox, g6, g7]
                refine ⟨_, hE.ld0 (show j < n by omega), fun tok htok => ?_⟩
                subst htok
                simp -implicitDefEqProofs (disch := first | omega | decide) only [seval, -Int.reducePow, -Nat.reducePow, cC, pv, binv, eBox, g6, g7]
                refine ⟨_, hE.ld1 (show j < n by omega), fun tok htok => ?_⟩
                subst htok
                simp -implicitDefEqProofs (disch := first | omega | decide) only [seval, -Int.reducePow, -Nat.reducePow, cC, pv, binv, eBox, wrap_in, g6, g7]
                all_goals (first | (simp; done) | (simp; omega))
              · refine cv_skip ?_
                try simp only [blockQ, thenQ]
                unfold Ex.insL at hf1
                rw [if_neg (of_decide_eq_false hc)] at hf1
                cases hf1
                simp -implicitDefEqProofs (disch := first | omega | decide) only [seval, -Int.reducePow, -Nat.reducePow, cC, pv, binv, eBox, g6]
            · intro G8 L' _ hF
              obtain ⟨q0, q3, q6, q7, q8, rfl⟩ := hF
              have g8_0 := q0.trans g6_0
              have g8_3 := q3.trans g6_3
              have g8_6 := q6.trans g6_6
              have g8_7 := q7
              have g8_8 := q8.trans g6_8
              clear q0 q3 q6 q7 q8
              have g8 := And.intro g8_0 (And.intro g8_3 (And.intro g8_6 (And.intro g8_7 g8_8)))
              refine hK _ _ ?_
              clear hK K
              have hL1 := insL_fit (by rw [hE.len]; exact hin) hv hpp hf1
              have hf1i := hL1.2
              have hcap := hE.cap
              have hp1 : 0 ≤ e1.off ∧ 0 < e1.len ∧ e1.off + e1.len ≤ 1048576 := hL1.1
              refine cv_seq_k fun K hK => ?_
              refine cv_seq_k fun K hK => ?_
              refine cv_cut (fun _ _ => True) (fun F' L' => F' 0 = G8 0 ∧ F' 3 = G8 3 ∧ F' 6 = G8 6 ∧ F' 7 = G8 7 ∧ F' 8 = G8 8 ∧ F' 79 = .bool (decide (i < n ∧ (Ex.get xs i).off = e1.end_)) ∧ L' = [eBox b e1]) ?_ ?_
              · by_cases hlt : i < n
                · obtain ⟨b0, off, rfl, hb0, -⟩ := hE.cells (by omega)
                  have hlt' : (i : Int) < n := by omega
                  refine cv_draw [(true, 0), (true, 1), (true, 2), (true, 3), (true, 4), (true, 5), (true, 6), (true, 7), (true, 8), (true, 9), (true, 10), (false, 11), (true, 12), (true, 13)] [] mixA rfl (by kernel_rfl) (by kernel_rfl) rfl rfl ?_
                  simp -implicitDefEqProofs (disch := first | omega | decide) only [seval, -Int.reducePow, -Nat.reducePow, cC, pv, binv, eBox, hlt', g8]
                  refine ⟨_, hE.ld0 hlt, fun tok htok => ?_⟩
                  subst htok
                  simp -implicitDefEqProofs (disch := first | omega | decide) only [seval, -Int.reducePow, -Nat.reducePow, cC, pv, binv, eBox, g8]
                  refine callV_ret (fun w hw => end_prop e1 w hL1.1) ?_
                  try simp -implicitDefEqProofs (disch := first | omega | decide) only [seval, -Int.reducePow, -Nat.reducePow, cC, pv, binv, eBox, g8]
                  all_goals (first | (simp [hlt]; done) | (simp [hlt]; omega))
                · have hlt' : ¬ (i : Int) < n := by omega
                  refine cv_draw [(true, 0), (true, 1), (true, 2), (true, 3), (true, 4), (true, 5), (true, 6), (true, 7), (true, 8), (true, 9), (true, 10), (false, 11), (true, 12), (true, 13)] [] mixA rfl (by kernel_rfl) (by kernel_rfl) rfl rfl ?_
                  simp -implicitDefEqProofs (disch := first | omega | decide) only [seval, -Int.reducePow, -Nat.reducePow, cC, pv, binv, eBox, hlt', g8]
                  all_goals (first | (simp [hlt]; done) | (simp [hlt]; omega))
              · intro G9 L' _ hF
                obtain ⟨q0, q3, q6, q7, q8, q79, rfl⟩ := hF
                have g9_0 := q0.trans g8_0
                have g9_3 := q3.trans g8_3
                have g9_6 := q6.trans g8_6
                have g9_7 := q7.trans g8_7
                have g9_8 := q8.trans g8_8
                have g9_79 := q79
                clear q0 q3 q6 q7 q8 q79
                have g9 := And.intro g9_0 (And.intro g9_3 (And.intro g9_6 (And.intro g9_7 (And.intro g9_8 g9_79))))
                refine hK _ _ ?_
                clear hK K
                obtain ⟨l2, e2, hf2⟩ : ∃ l2 e2, Ex.insR xs e1 i = (l2, e2) := ⟨_, _, rfl⟩
                refine cv_cut (fun _ _ => True) (fun F' L' => F' 0 = G9 0 ∧ F' 3 = G9 3 ∧ F' 7 = G9 7 ∧ F' 8 = .int .i64 (l2 : Int) ∧ L' = [eBox b e2]) ?_ ?_
                · refine cv_cond ?_
                  simp -implicitDefEqProofs (disch := first | omega | decide) only [seval, -Int.reducePow, -Nat.reducePow, cC, pv, binv, eBox, g9]
                  refine ⟨fun hc => ?_, fun hc => ?_⟩
                  · obtain ⟨hi, hj⟩ := of_decide_eq_true hc
                    unfold Ex.insR at hf2
                    rw [if_pos ⟨by rw [hE.len]; exact hi, hj⟩] at hf2
                    cases hf2
                    obtain ⟨b0, off, rfl, hb0, -⟩ := hE.cells (by omega)
                    have hx : 0 ≤ (Ex.get xs i).off ∧ 0 < (Ex.get xs i).len ∧ (Ex.get xs i).off + (Ex.get xs i).len ≤ 1048576 := (hv i (by rw [hE.len]; omega)).1
                    refine cv_seq_k fun K hK => ?_
                    refine cv_region_then rfl ?_
                    simp -implicitDefEqProofs (disch := first | omega | decide) only [seval, -Int.reducePow, -Nat.reducePow, cC, pv, binv, eBox, wrap_in, g9]
                    refine hK _ _ ?_
                    clear hK K
                    refine cv_gen fun G10 hG => ?_
                    have g10_0 := congrFun hG 0
                    have g10_3 := congrFun hG 3
                    have g10_6 := congrFun hG 6
                    have g10_7 := congrFun hG 7
                    have g10_8 := congrFun hG 8
                    clear hG
                    try simp -implicitDefEqProofs (disch := first | omega | decide) only [seval, -Int.reducePow, -Nat.reducePow, cC, pv, binv, eBox, g9] at g10_0 g10_3 g10_6 g10_7 g10_8
                    have g10 := And.intro g10_0 (And.intro g10_3 (And.intro g10_6 (And.intro g10_7 g10_8)))
                    refine cv_draw [(true, 0), (true, 1), (true, 2), (true, 3), (true, 4), (true, 5), (true, 6), (true, 7), (true, 8), (false, 9)] [9] mixA rfl (by kernel_rfl) (by kernel_rfl) rfl rfl ?_
                    simp -implicitDefEqProofs (disch := first | omega | decide) only [seval, -Int.reducePow, -Nat.reducePow, cC, pv, binv, eBox, g9, g10]
                    refine ⟨_, hE.ld1 hi, fun tok htok => ?_⟩
                    subst htok
                    simp -implicitDefEqProofs (disch := first | omega | decide) only [seval, -Int.reducePow, -Nat.reducePow, cC, pv, binv, eBox, wrap_in, g9, g10]
                    all_goals (first | (simp; done) | (simp; omega))
                  · refine cv_skip ?_
                    try simp only [blockQ, thenQ]
                    unfold Ex.insR at hf2
                    rw [if_neg (by rw [hE.len]; exact of_decide_eq_false hc)] at hf2
                    cases hf2
                    simp -implicitDefEqProofs (disch := first | omega | decide) only [seval, -Int.reducePow, -Nat.reducePow, cC, pv, binv, eBox, g9]
                · intro G11 L' _ hF
                  obtain ⟨q0, q3, q7, q8, rfl⟩ := hF
                  have g11_0 := q0.trans g9_0
                  have g11_3 := q3.trans g9_3
                  have g11_7 := q7.trans g9_7
                  have g11_8 := q8
                  clear q0 q3 q7 q8
                  have g11 := And.intro g11_0 (And.intro g11_3 (And.intro g11_7 g11_8))
                  refine hK _ _ ?_
                  clear hK K
                  have hR := insR_fit (by rw [hE.len]; exact hin) hf2
                  rw [hE.len] at hR
                  rw [hf1] at hF
                  simp only at hF
                  rw [hf2] at hF
                  refine cv_seq_k fun K hK => ?_
                  refine cv_draw [(true, 0), (true, 1), (true, 2), (true, 3), (true, 5), (true, 6), (true, 7), (false, 4), (false, 8), (false, 9), (true, 10), (true, 11)] [] mixA rfl (by kernel_rfl) (by kernel_rfl) rfl rfl ?_
                  simp -implicitDefEqProofs (disch := first | omega | decide) only [seval, -Int.reducePow, -Nat.reducePow, cC, pv, binv, eBox, g11]
                  intro b1 hb1 h1 b2 hb2 h2
                  refine callV_row (fun A n c => .slice A n c) (fun w hw => concat_ext hw (hE.at hw) hf1i hR (.head _) (.tail _ (.head _)) hn) ?_
                  intro A' n' c' hl' _
                  simp -implicitDefEqProofs (disch := first | omega | decide) only [seval, -Int.reducePow, -Nat.reducePow, cC, pv, binv, eBox, g11]
                  refine hK _ _ ?_
                  clear hK K
                  refine cv_ret ⟨_, (by simp -implicitDefEqProofs (disch := first | omega | decide) only [seval, -Int.reducePow, -Nat.reducePow, cC, pv, binv, eBox, g11]; rfl), fun w hw => ?_⟩
                  exact ⟨A', n', c', by rw [hF], by rw [hF]; exact ownsRow_new (hw.holds _ (.head _)) (hw.own _ (.head _)), hw.below⟩
end Go.Proofs.Ytabjbghmldiokaa
