/- Total, Valid and Contains by the sets of places. -/
import Derived.Test.YtabjbghmldiokaaFSet2
namespace Go.Proofs.Ytabjbghmldiokaa
open Go.RowKit Go.Shelf
set_option linter.unusedVariables false
set_option linter.unusedSimpArgs false
set_option maxRecDepth 100000
namespace Ex
theorem tot_take {xs : List Ext} {k : Nat} (h : k < xs.length) : tot (xs.take (k + 1)) = tot (xs.take k) + (get xs k).len := by
  rw [take_get h, tot_app]
  simp only [tot]
  omega
theorem tot_take_bd {xs : List Ext} (hv : vld xs) {k : Nat} (h : k ≤ 1000) : 0 ≤ tot (xs.take k) ∧ tot (xs.take k) ≤ 1048576000 := by
  have := tot_bd (xs.take k) fun x hx => (ok_of hv).1 x (List.mem_of_mem_take hx)
  have h2 : (xs.take k).length ≤ k := by rw [List.length_take]; omega
  have h3 : (1048576 : Int) * (xs.take k).length ≤ 1048576 * 1000 := by omega
  omega
end Ex
set_option maxHeartbeats 2000000 in
theorem total_vld (A : Option Addr) (n c : Nat) (xs : List Ext) (W : World) (hE : Exts W W.heap.size A n c xs) (hn : n ≤ 1000) (hv : Ex.vld xs) :
    Calls Try.prog 22 #[.slice A n c] W fun e w' => e = .returned (.int .i64 (Ex.tot xs)) ∧ Below W.heap.size W w' := by
  have hl := hE.len
  refine calls_cv (M := []) (n := 18) [.tmp 2] rfl Try.func22 rfl rfl (Nat.le_of_ble_eq_true rfl) (St.nil _ _) ?_
  refine cv_seq_k fun K hK => ?_
  refine cv_region_then rfl ?_
  simp -implicitDefEqProofs (disch := first | omega | decide) only [seval, -Int.reducePow, -Nat.reducePow, cC, pv, binv, eBox]
  refine hK _ _ ?_
  clear hK K
  refine cv_seq_k fun K hK => ?_
  refine cv_region_then rfl ?_
  simp -implicitDefEqProofs (disch := first | omega | decide) only [seval, -Int.reducePow, -Nat.reducePow, cC, pv, binv, eBox]
  refine hK _ _ ?_
  clear hK K
  refine cv_seq_k fun K hK => ?_
  refine cv_seq_k fun K hK => ?_
  refine cv_region_then rfl ?_
  simp -implicitDefEqProofs (disch := first | omega | decide) only [seval, -Int.reducePow, -Nat.reducePow, cC, pv, binv, eBox]
  refine hK _ _ ?_
  clear hK K
  refine cv_gen fun G1 hG => ?_
  have g1_3 := congrFun hG 3
  have g1_6 := congrFun hG 6
  have g1_7 := congrFun hG 7
  have g1_8 := congrFun hG 8
  clear hG
  try simp -implicitDefEqProofs (disch := first | omega | decide) only [seval, -Int.reducePow, -Nat.reducePow, cC, pv, binv, eBox] at g1_3 g1_6 g1_7 g1_8
  have g1 := And.intro g1_3 (And.intro g1_6 (And.intro g1_7 g1_8))
  refine cv_block ?_
  refine cv_loop (fun F' L' => ∃ (k : Nat), F' 3 = .int .i64 (Ex.tot (xs.take k)) ∧ F' 6 = G1 6 ∧ F' 7 = G1 7 ∧ F' 8 = .int .i64 (k : Int) ∧ L' = [] ∧ k ≤ n) (fun F' L' => n - (intOf (F' 8)).toNat) ?_ ?_
  · refine ⟨0, ?_⟩
    simp -implicitDefEqProofs (disch := first | omega | decide) only [seval, -Int.reducePow, -Nat.reducePow, cC, pv, binv, eBox, Ex.tot, g1]
    omega
  · intro G2 L' hI
    obtain ⟨k, q3, q6, q7, q8, rfl, hk⟩ := hI
    have g2_3 := q3
    have g2_6 := q6.trans g1_6
    have g2_7 := q7.trans g1_7
    have g2_8 := q8
    clear q3 q6 q7 q8
    have g2 := And.intro g2_3 (And.intro g2_6 (And.intro g2_7 g2_8))
    refine cv_seq_k fun K hK => ?_
    refine cv_region_then rfl ?_
    simp -implicitDefEqProofs (disch := first | omega | decide) only [seval, -Int.reducePow, -Nat.reducePow, cC, pv, binv, eBox, g1, g2]
    refine hK _ _ ?_
    clear hK K
    refine cv_seq_k fun K hK => ?_
    refine cv_cond ?_
    simp -implicitDefEqProofs (disch := first | omega | decide) only [seval, -Int.reducePow, -Nat.reducePow, cC, pv, binv, eBox, g1, g2]
    refine ⟨fun hc => ?_, fun hc => ?_⟩
    · refine cv_skip ?_
      try simp only [blockQ, thenQ]
      have hlt : k < n := by have := of_decide_eq_true hc; omega
      obtain ⟨b0, off, rfl, hb0, -⟩ := hE.cells (by omega)
      have hx := vld_prop hv (show k < xs.length by omega)
      have ht := Ex.tot_take_bd hv (show k ≤ 1000 by omega)
      have hs := Ex.tot_take (show k < xs.length by omega)
      refine hK _ _ ?_
      clear hK K
      refine cv_seq_k fun K hK => ?_
      refine cv_cut (fun _ _ => True) (fun F' L' => F' 3 = .int .i64 (Ex.tot (xs.take (k + 1))) ∧ F' 6 = G2 6 ∧ F' 7 = G2 7 ∧ F' 8 = G2 8 ∧ L' = []) ?_ ?_
      · refine cv_block ?_
        refine cv_seq_k fun K hK => ?_
        refine cv_region_then rfl ?_
        simp -implicitDefEqProofs (disch := first | omega | decide) only [seval, -Int.reducePow, -Nat.reducePow, cC, pv, binv, eBox, g1, g2]
        refine ⟨_, hE.ld hlt, fun tok htok => ?_⟩
        subst htok
        simp -implicitDefEqProofs (disch := first | omega | decide) only [seval, -Int.reducePow, -Nat.reducePow, cC, pv, binv, eBox, g1, g2]
        intro b9 hb9
        refine hK _ _ ?_
        clear hK K
        refine cv_gen fun G3 hG => ?_
        have g3_3 := congrFun hG 3
        have g3_5 := congrFun hG 5
        have g3_6 := congrFun hG 6
        have g3_7 := congrFun hG 7
        have g3_8 := congrFun hG 8
        clear hG
        try simp -implicitDefEqProofs (disch := first | omega | decide) only [seval, -Int.reducePow, -Nat.reducePow, cC, pv, binv, eBox, g1, g2] at g3_3 g3_5 g3_6 g3_7 g3_8
        have g3 := And.intro g3_3 (And.intro g3_5 (And.intro g3_6 (And.intro g3_7 g3_8)))
        refine cv_pick_post [] (by decide) ?_
        refine cv_region_q rfl ?_
        simp -implicitDefEqProofs (disch := first | omega | decide) only [seval, -Int.reducePow, -Nat.reducePow, cC, pv, binv, eBox, wrap_in, g1, g2, g3]
        rw [hs]
      · intro G4 L' _ hF
        obtain ⟨q3, q6, q7, q8, rfl⟩ := hF
        have g4_3 := q3
        have g4_6 := q6.trans g2_6
        have g4_7 := q7.trans g2_7
        have g4_8 := q8.trans g2_8
        clear q3 q6 q7 q8
        have g4 := And.intro g4_3 (And.intro g4_6 (And.intro g4_7 g4_8))
        refine hK _ _ ?_
        clear hK K
        refine cv_region_then rfl ?_
        simp -implicitDefEqProofs (disch := first | omega | decide) only [seval, -Int.reducePow, -Nat.reducePow, cC, pv, binv, eBox, wrap_in, g1, g2, g4]
        refine ⟨⟨k + 1, ?_⟩, ?_⟩
        · simp -implicitDefEqProofs (disch := first | omega | decide) only [seval, -Int.reducePow, -Nat.reducePow, cC, pv, binv, eBox, Int.natCast_add, g1, g2, g4]
          omega
        · simp only [intOf]; omega
    · refine cv_exit ?_
      simp only [blockQ, thenQ, if_true, ite_true]
      clear hK K
      refine hK _ _ ?_
      clear hK K
      have hnk : n = k := by have := of_decide_eq_false hc; omega
      subst hnk
      refine cv_seq_k fun K hK => ?_
      refine cv_region_then rfl ?_
      simp -implicitDefEqProofs (disch := first | omega | decide) only [seval, -Int.reducePow, -Nat.reducePow, cC, pv, binv, eBox, g1, g2]
      refine hK _ _ ?_
      clear hK K
      refine cv_ret ⟨_, (by simp -implicitDefEqProofs (disch := first | omega | decide) only [seval, -Int.reducePow, -Nat.reducePow, cC, pv, binv, eBox, g1, g2]; rfl), fun w hw => ?_⟩
      rw [← hl, List.take_length] at *
      exact ⟨rfl, hw.below⟩
namespace Ex
instance (x : Ext) (o : Int) : Decidable (inn x o) := by unfold inn; exact inferInstance
theorem hasB_mem {xs : List Ext} (hv : vld xs) {o : Int} (h : -1000000000 ≤ o ∧ o ≤ 1000000000) : hasB xs o = true ↔ mem xs o := by
  have key : ∀ i, i < xs.length → (hit (get xs i) o ↔ inn (get xs i) o) := fun i hi => by
    have hp := vld_prop hv hi
    unfold hit inn
    constructor
    · rintro ⟨h1, h2⟩
      rw [wrap_in (by omega) (by omega)] at h2
      omega
    · rintro ⟨h1, h2⟩
      rw [wrap_in (by omega) (by omega)]
      omega
  unfold hasB
  rw [decide_eq_true_iff]
  constructor
  · rintro ⟨i, hi, h1⟩
    exact mem_get hi ((key i hi).1 h1)
  · intro hm
    obtain ⟨k, hk, h1⟩ := mem_ix hm
    exact ⟨k, hk, (key k hk).2 h1⟩
end Ex
end Go.Proofs.Ytabjbghmldiokaa
