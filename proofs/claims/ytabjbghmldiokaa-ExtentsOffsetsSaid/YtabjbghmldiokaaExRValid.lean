/- Contracts of the reference's ValidSet, SameExtents, Contains, Total, and of Total. -/
import Derived.Test.YtabjbghmldiokaaExValid
namespace Go.Proofs.Ytabjbghmldiokaa
open Go.RowKit Go.Shelf
set_option linter.unusedVariables false

set_option maxRecDepth 100000 in
set_option maxHeartbeats 1000000 in
theorem rvalid_any (A : Option Addr) (n c : Nat) (xs : List Ext) (w : World) (hE : Exts w w.heap.size A n c xs) (hR : Hid (∀ i, i < n → -9223372036854775808 ≤ (Ex.get xs i).len ∧ (Ex.get xs i).len ≤ 9223372036854775807)) :
    Calls Try.prog 19 #[.slice A n c] w fun e w' => e = .returned (.bool (Ex.vldB xs)) ∧ Below w.heap.size w w' := by
  have hlen := hE.len
  have hn : n ≤ 9223372036854775807 := Nat.le_trans hE.cap hE.max
  have HE := Lib.hid hE
  have HL := Lib.hid hlen
  clear hE hlen
  go_enter Try.func19, Try.ntmps19
  go_wp2
  go_loopw [3] (fun i wr => ∃ k : Nat, k ≤ n ∧ i = .int .i64 (k : Int) ∧ Hid (Ex.okUpto xs k) ∧ Below w.heap.size w wr) (fun i _ => n - (intOf i).toNat)
  case atStart => exact ⟨0, by omega, rfl, fun i hi => by omega, Below.refl _ _⟩
  case round =>
    obtain ⟨k, hk, rfl, hok, hB⟩ := hrel
    by_cases hlt : k < n
    · obtain ⟨b, off, rfl, hb, hc⟩ := (HE.out.below hB).cells (by omega)
      obtain ⟨hc1, hc2⟩ := hc k hlt
      have hxr := hR.out k hlt
      obtain ⟨x, hx⟩ : ∃ x, Ex.get xs k = x := ⟨_, rfl⟩
      rw [hx] at hc1 hc2 hxr
      have HX := Lib.hid hx
      clear hx hc
      have hk0 : (0 : Int) ≤ k := by omega
      have hkn : (k : Int) < n := by omega
      go_wp2
      by_cases hp : x.prop
      · by_cases h0 : 0 < k
        · obtain ⟨j, rfl⟩ : ∃ j, k = j + 1 := ⟨k - 1, by omega⟩
          have hyp := (hok.out j (by omega)).1
          obtain ⟨y, hy⟩ : ∃ y, Ex.get xs j = y := ⟨_, rfl⟩
          obtain ⟨hd1, hd2⟩ := (HE.out.below hB).at_ rfl (i := j) (by omega)
          rw [hy] at hd1 hd2 hyp
          have HY := Lib.hid hy
          clear hy
          have hwj : IntKind.i64.wrap (j : Int) = j := IntWalk.i64_in _ (by omega)
          have hjn : (j : Int) < n := by omega
          have hj0 : (0 : Int) ≤ j := by omega
          have hjk : (j : Int) + 1 < n := by omega
          have hj1 : (0 : Int) ≤ (j : Int) + 1 := by omega
          have hyb : 0 ≤ y.off ∧ 0 < y.len ∧ y.off + y.len ≤ 1048576 := hyp
          have hwy : IntKind.i64.wrap (y.off + y.len) = y.off + y.len := IntWalk.i64_in _ (by omega)
          have hS : wr.drew.cell? ⟨b, off + (j + 1) * 2, none⟩ = some (.int .i64 x.off) ∧ wr.drew.cell? ⟨b, off + (j + 1) * 2 + 1, none⟩ = some (.int .i64 x.len) ∧ wr.drew.cell? ⟨b, off + j * 2, none⟩ = some (.int .i64 y.off) ∧ wr.drew.cell? ⟨b, off + j * 2 + 1, none⟩ = some (.int .i64 y.len) ∧ Below w.heap.size w wr.drew := ⟨hc1, hc2, hd1, hd2, hB.drew⟩
          by_cases hg : y.off + y.len < x.off
          · have hgd : decide (x.off ≤ y.off + y.len) = false := by simp; omega
            refine wp_region_plan [(true, 0), (true, 1), (true, 2), (true, 3), (false, 4), (true, 5), (true, 6), (true, 7), (true, 8), (true, 9), (true, 10), (true, 11), (true, 12), (true, 13), (true, 14), (true, 15), (true, 16), (true, 17), (true, 18), (true, 19), (true, 20), (true, 21), (true, 22), (true, 23), (true, 24), (true, 25), (true, 26), (true, 27), (true, 28), (true, 29), (true, 30)] (fun w' => w'.cell? ⟨b, off + (j + 1) * 2, none⟩ = some (.int .i64 x.off) ∧ w'.cell? ⟨b, off + (j + 1) * 2 + 1, none⟩ = some (.int .i64 x.len) ∧ w'.cell? ⟨b, off + j * 2, none⟩ = some (.int .i64 y.off) ∧ w'.cell? ⟨b, off + j * 2 + 1, none⟩ = some (.int .i64 y.len) ∧ Below w.heap.size w w') [] (by kernel_rfl) (by kernel_rfl) (by kernel_rfl) rfl (by intro _ d _ _ _ h; cases d <;> exact h) ?_
            iterate 4 ((refine plan_yes (v := ?_) hS rfl (by rfl) (fun W hW => ?_) ?_; rotate_left; focus ((try dsimp only at hW); go_simp; (try with_reducible rfl); done)); (try simp only [Act.put, List.setIfInBounds_toArray, List.set_cons_zero, List.set_cons_succ]))
            refine plan_act rfl (fun K hK => ?_)
            go_wp2_with (go_at_call 33; refine (rproper_yes x _ hp).mono ?_; rintro e w1 ⟨rfl, hb1⟩)
            have hS1 : w1.cell? ⟨b, off + (j + 1) * 2, none⟩ = some (.int .i64 x.off) ∧ w1.cell? ⟨b, off + (j + 1) * 2 + 1, none⟩ = some (.int .i64 x.len) ∧ w1.cell? ⟨b, off + j * 2, none⟩ = some (.int .i64 y.off) ∧ w1.cell? ⟨b, off + j * 2 + 1, none⟩ = some (.int .i64 y.len) ∧ Below w.heap.size w w1 := ⟨cell_on hS.1 hb1, cell_on hS.2.1 hb1, cell_on hS.2.2.1 hb1, cell_on hS.2.2.2.1 hb1, below_on hS.2.2.2.2 (Nat.le_refl _) hb1⟩
            refine hK _ _ (fun _ => hS1) ?_
            clear hS
            clear hK K
            (try simp only [Act.put, List.setIfInBounds_toArray, List.set_cons_zero, List.set_cons_succ])
            iterate 26 ((refine plan_yes (v := ?_) hS1 rfl (by rfl) (fun W hW => ?_) ?_; rotate_left; focus ((try dsimp only at hW); go_simp; (try with_reducible rfl); done)); (try simp only [Act.put, List.setIfInBounds_toArray, List.set_cons_zero, List.set_cons_succ]))
            refine plan_done ?_
            clear hwj hwy
            go_wp2
            go_roundw
            case rel => exact ⟨j + 1 + 1, by omega, by go_num, Ex.okUpto_succ hok.out ⟨by rw [HX.out]; exact hp, fun h => by rw [HX.out, show j + 1 - 1 = j from rfl, HY.out]; exact hg⟩, hS1.2.2.2.2⟩
            case measure => simp [intOf]; omega
          · have hgd : decide (x.off ≤ y.off + y.len) = true := by simp; omega
            refine wp_region_plan [(true, 0), (true, 1), (true, 2), (true, 3), (false, 4), (true, 5), (true, 6), (true, 7), (true, 8), (true, 9), (true, 10), (true, 11), (true, 12), (true, 13), (true, 14), (true, 15), (true, 16), (true, 17), (true, 18), (true, 19), (true, 20), (true, 21), (true, 22), (true, 23), (true, 24), (true, 25), (true, 26), (true, 27), (true, 28), (true, 29), (true, 30)] (fun w' => w'.cell? ⟨b, off + (j + 1) * 2, none⟩ = some (.int .i64 x.off) ∧ w'.cell? ⟨b, off + (j + 1) * 2 + 1, none⟩ = some (.int .i64 x.len) ∧ w'.cell? ⟨b, off + j * 2, none⟩ = some (.int .i64 y.off) ∧ w'.cell? ⟨b, off + j * 2 + 1, none⟩ = some (.int .i64 y.len) ∧ Below w.heap.size w w') [] (by kernel_rfl) (by kernel_rfl) (by kernel_rfl) rfl (by intro _ d _ _ _ h; cases d <;> exact h) ?_
            iterate 4 ((refine plan_yes (v := ?_) hS rfl (by rfl) (fun W hW => ?_) ?_; rotate_left; focus ((try dsimp only at hW); go_simp; (try with_reducible rfl); done)); (try simp only [Act.put, List.setIfInBounds_toArray, List.set_cons_zero, List.set_cons_succ]))
            refine plan_act rfl (fun K hK => ?_)
            go_wp2_with (go_at_call 33; refine (rproper_yes x _ hp).mono ?_; rintro e w1 ⟨rfl, hb1⟩)
            have hS1 : w1.cell? ⟨b, off + (j + 1) * 2, none⟩ = some (.int .i64 x.off) ∧ w1.cell? ⟨b, off + (j + 1) * 2 + 1, none⟩ = some (.int .i64 x.len) ∧ w1.cell? ⟨b, off + j * 2, none⟩ = some (.int .i64 y.off) ∧ w1.cell? ⟨b, off + j * 2 + 1, none⟩ = some (.int .i64 y.len) ∧ Below w.heap.size w w1 := ⟨cell_on hS.1 hb1, cell_on hS.2.1 hb1, cell_on hS.2.2.1 hb1, cell_on hS.2.2.2.1 hb1, below_on hS.2.2.2.2 (Nat.le_refl _) hb1⟩
            refine hK _ _ (fun _ => hS1) ?_
            clear hS
            clear hK K
            (try simp only [Act.put, List.setIfInBounds_toArray, List.set_cons_zero, List.set_cons_succ])
            iterate 26 ((refine plan_yes (v := ?_) hS1 rfl (by rfl) (fun W hW => ?_) ?_; rotate_left; focus ((try dsimp only at hW); go_simp; (try with_reducible rfl); done)); (try simp only [Act.put, List.setIfInBounds_toArray, List.set_cons_zero, List.set_cons_succ]))
            refine plan_done ?_
            clear hwj hwy
            go_wp2
            go_ret
            exact ⟨ret_bool (Ex.vldB_no (i := j + 1) (by rw [HL.out]; exact hlt) (fun h => by have h2 := h.2 (by omega); rw [HX.out, show j + 1 - 1 = j from rfl, HY.out] at h2; unfold Ext.end_ at h2; omega)).symm, hS1.2.2.2.2⟩
        · have hS : wr.drew.cell? ⟨b, off + k * 2, none⟩ = some (.int .i64 x.off) ∧ wr.drew.cell? ⟨b, off + k * 2 + 1, none⟩ = some (.int .i64 x.len) ∧ Below w.heap.size w wr.drew := ⟨hc1, hc2, hB.drew⟩
          refine wp_region_plan [(true, 0), (true, 1), (true, 2), (true, 3), (false, 4), (true, 5), (true, 6), (true, 7), (true, 8), (true, 9), (true, 10), (true, 11), (true, 12), (true, 13), (true, 14), (true, 15), (true, 16), (true, 17), (true, 18), (true, 19), (true, 20), (true, 21), (true, 22), (true, 23), (true, 24), (true, 25), (true, 26), (true, 27), (true, 28), (true, 29), (true, 30)] (fun w' => w'.cell? ⟨b, off + k * 2, none⟩ = some (.int .i64 x.off) ∧ w'.cell? ⟨b, off + k * 2 + 1, none⟩ = some (.int .i64 x.len) ∧ Below w.heap.size w w') [] (by kernel_rfl) (by kernel_rfl) (by kernel_rfl) rfl (by intro _ d _ _ _ h; cases d <;> exact h) ?_
          iterate 4 ((refine plan_yes (v := ?_) hS rfl (by rfl) (fun W hW => ?_) ?_; rotate_left; focus ((try dsimp only at hW); go_simp; (try with_reducible rfl); done)); (try simp only [Act.put, List.setIfInBounds_toArray, List.set_cons_zero, List.set_cons_succ]))
          refine plan_act rfl (fun K hK => ?_)
          go_wp2_with (go_at_call 33; refine (rproper_yes x _ hp).mono ?_; rintro e w1 ⟨rfl, hb1⟩)
          have hS1 : w1.cell? ⟨b, off + k * 2, none⟩ = some (.int .i64 x.off) ∧ w1.cell? ⟨b, off + k * 2 + 1, none⟩ = some (.int .i64 x.len) ∧ Below w.heap.size w w1 := ⟨cell_on hS.1 hb1, cell_on hS.2.1 hb1, below_on hS.2.2 (Nat.le_refl _) hb1⟩
          refine hK _ _ (fun _ => hS1) ?_
          clear hS
          clear hK K
          (try simp only [Act.put, List.setIfInBounds_toArray, List.set_cons_zero, List.set_cons_succ])
          iterate 5 ((refine plan_yes (v := ?_) hS1 rfl (by rfl) (fun W hW => ?_) ?_; rotate_left; focus ((try dsimp only at hW); go_simp; (try with_reducible rfl); done)); (try simp only [Act.put, List.setIfInBounds_toArray, List.set_cons_zero, List.set_cons_succ]))
          iterate 19 (refine plan_no hS1 rfl (by rfl) ?_; (try simp only [Act.put, List.setIfInBounds_toArray, List.set_cons_zero, List.set_cons_succ]))
          iterate 2 ((refine plan_yes (v := ?_) hS1 rfl (by rfl) (fun W hW => ?_) ?_; rotate_left; focus ((try dsimp only at hW); go_simp; (try with_reducible rfl); done)); (try simp only [Act.put, List.setIfInBounds_toArray, List.set_cons_zero, List.set_cons_succ]))
          refine plan_done ?_
          go_wp2
          go_roundw
          case rel => exact ⟨k + 1, by omega, by go_num, Ex.okUpto_succ hok.out ⟨by rw [HX.out]; exact hp, fun h => absurd h h0⟩, hS1.2.2⟩
          case measure => simp [intOf]; omega
      · have hS : wr.drew.cell? ⟨b, off + k * 2, none⟩ = some (.int .i64 x.off) ∧ wr.drew.cell? ⟨b, off + k * 2 + 1, none⟩ = some (.int .i64 x.len) ∧ Below w.heap.size w wr.drew := ⟨hc1, hc2, hB.drew⟩
        refine wp_region_plan [(true, 0), (true, 1), (true, 2), (true, 3), (false, 4), (true, 5), (true, 6), (true, 7), (true, 8), (true, 9), (true, 10), (true, 11), (true, 12), (true, 13), (true, 14), (true, 15), (true, 16), (true, 17), (true, 18), (true, 19), (true, 20), (true, 21), (true, 22), (true, 23), (true, 24), (true, 25), (true, 26), (true, 27), (true, 28), (true, 29), (true, 30)] (fun w' => w'.cell? ⟨b, off + k * 2, none⟩ = some (.int .i64 x.off) ∧ w'.cell? ⟨b, off + k * 2 + 1, none⟩ = some (.int .i64 x.len) ∧ Below w.heap.size w w') [] (by kernel_rfl) (by kernel_rfl) (by kernel_rfl) rfl (by intro _ d _ _ _ h; cases d <;> exact h) ?_
        iterate 4 ((refine plan_yes (v := ?_) hS rfl (by rfl) (fun W hW => ?_) ?_; rotate_left; focus ((try dsimp only at hW); go_simp; (try with_reducible rfl); done)); (try simp only [Act.put, List.setIfInBounds_toArray, List.set_cons_zero, List.set_cons_succ]))
        refine plan_act rfl (fun K hK => ?_)
        go_wp2_with (go_at_call 33; refine (rproper_no x _ hxr.1 hxr.2 hp).mono ?_; rintro e w1 ⟨rfl, hb1⟩)
        have hS1 : w1.cell? ⟨b, off + k * 2, none⟩ = some (.int .i64 x.off) ∧ w1.cell? ⟨b, off + k * 2 + 1, none⟩ = some (.int .i64 x.len) ∧ Below w.heap.size w w1 := ⟨cell_on hS.1 hb1, cell_on hS.2.1 hb1, below_on hS.2.2 (Nat.le_refl _) hb1⟩
        refine hK _ _ (fun _ => hS1) ?_
        clear hS
        clear hK K
        (try simp only [Act.put, List.setIfInBounds_toArray, List.set_cons_zero, List.set_cons_succ])
        iterate 2 ((refine plan_yes (v := ?_) hS1 rfl (by rfl) (fun W hW => ?_) ?_; rotate_left; focus ((try dsimp only at hW); go_simp; (try with_reducible rfl); done)); (try simp only [Act.put, List.setIfInBounds_toArray, List.set_cons_zero, List.set_cons_succ]))
        iterate 23 (refine plan_no hS1 rfl (by rfl) ?_; (try simp only [Act.put, List.setIfInBounds_toArray, List.set_cons_zero, List.set_cons_succ]))
        iterate 1 ((refine plan_yes (v := ?_) hS1 rfl (by rfl) (fun W hW => ?_) ?_; rotate_left; focus ((try dsimp only at hW); go_simp; (try with_reducible rfl); done)); (try simp only [Act.put, List.setIfInBounds_toArray, List.set_cons_zero, List.set_cons_succ]))
        refine plan_done ?_
        go_wp2
        go_ret
        exact ⟨ret_bool (Ex.vldB_no (i := k) (by rw [HL.out]; exact hlt) (fun h => hp (by rw [← HX.out]; exact h.1))).symm, hS1.2.2⟩
    · obtain rfl : k = n := by omega
      go_wp2
      go_ret
      exact ⟨ret_bool (Ex.vldB_yes (by rw [HL.out]; exact hok.out)).symm, hB⟩
end Go.Proofs.Ytabjbghmldiokaa
