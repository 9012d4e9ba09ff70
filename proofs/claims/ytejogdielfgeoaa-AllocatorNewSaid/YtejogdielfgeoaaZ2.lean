/- Contracts of the reference's ValidSet, SameExtents, Contains, Total, and of Total. -/
import Derived.Test.YtejogdielfgeoaaZ1
import Derived.Test.YtejogdielfgeoaaEng7
namespace Go.Proofs.Ytejogdielfgeoaa
open Go.RowKit Go.Shelf
set_option linter.unusedVariables false

set_option maxRecDepth 100000 in
set_option maxHeartbeats 1000000 in
theorem rvalid_any (A : Option Addr) (n c : Nat) (xs : List Ext) (w : World) (hE : Exts w w.heap.size A n c xs) (hR : Hid (∀ i, i < n → -9223372036854775808 ≤ (Ex.get xs i).len ∧ (Ex.get xs i).len ≤ 9223372036854775807)) :
    Calls Try.prog 39 #[.slice A n c] w fun e w' => e = .returned (.bool (Ex.vldB xs)) ∧ Below w.heap.size w w' := by
  have hlen := hE.len
  have hn : n ≤ 9223372036854775807 := Nat.le_trans hE.cap hE.max
  have HE := Lib.hid hE
  have HL := Lib.hid hlen
  clear hE hlen
  go_enter Try.func39, Try.ntmps39
  go_wp2
  go_loopw [3] (fun i wr => ∃ k : Nat, k ≤ n ∧ i = .int .i64 (k : Int) ∧ Hid (Ex.okUpto xs k) ∧ Below w.heap.size w wr) (fun i _ => n - (intOf i).toNat)
  case atStart => exact ⟨0, by omega, rfl, fun i hi => by omega, Below.refl _ _⟩
  case round =>
    obtain ⟨k, hk, rfl, hok, hB⟩ := hrel
    by_cases hlt : k < n
    · obtain ⟨b, off, rfl, hb, hc⟩ := (HE.out.below hB).cells (by omega)
      obtain ⟨hc1, hc2⟩ := hc k hlt
      have hxr := hR.out k hlt
      obtain ⟨x, hx⟩ : ∃ x, Ex.get xs k = x := ⟨_, rfl⟩
      rw [hx] at hc1 hc2 hxr
      have HX := Lib.hid hx
      clear hx hc
      have hk0 : (0 : Int) ≤ k := by omega
      have hkn : (k : Int) < n := by omega
      go_wp2
      by_cases hp : x.prop
      · by_cases h0 : 0 < k
        · obtain ⟨j, rfl⟩ : ∃ j, k = j + 1 := ⟨k - 1, by omega⟩
          have hyp := (hok.out j (by omega)).1
          obtain ⟨y, hy⟩ : ∃ y, Ex.get xs j = y := ⟨_, rfl⟩
          obtain ⟨hd1, hd2⟩ := (HE.out.below hB).at_ rfl (i := j) (by omega)
          rw [hy] at hd1 hd2 hyp
          have HY := Lib.hid hy
          clear hy
          have hwj : IntKind.i64.wrap (j : Int) = j := IntWalk.i64_in _ (by omega)
          have hjn : (j : Int) < n := by omega
          have hj0 : (0 : Int) ≤ j := by omega
          have hjk : (j : Int) + 1 < n := by omega
          have hj1 : (0 : Int) ≤ (j : Int) + 1 := by omega
          have hyb : 0 ≤ y.off ∧ 0 < y.len ∧ y.off + y.len ≤ 1048576 := hyp
          have hwy : IntKind.i64.wrap (y.off + y.len) = y.off + y.len := IntWalk.i64_in _ (by omega)
          have hS : wr.drew.cell? ⟨b, off + (j + 1) * 2, none⟩ = some (.int .i64 x.off) ∧ wr.drew.cell? ⟨b, off + (j + 1) * 2 + 1, none⟩ = some (.int .i64 x.len) ∧ wr.drew.cell? ⟨b, off + j * 2, none⟩ = some (.int .i64 y.off) ∧ wr.drew.cell? ⟨b, off + j * 2 + 1, none⟩ = some (.int .i64 y.len) ∧ Below w.heap.size w wr.drew := ⟨hc1, hc2, hd1, hd2, hB.drew⟩
          by_cases hg : y.off + y.len < x.off
          · have hgd : decide (x.off ≤ y.off + y.len) = false := by simp; omega
            refine wp_region_plan [(true, 0), (true, 1), (true, 2), (true, 3), (false, 4), (true, 5), (true, 6), (true, 7), (true, 8), (true, 9), (true, 10), (true, 11), (true, 12), (true, 13), (true, 14), (true, 15), (true, 16), (true, 17), (true, 18), (true, 19), (true, 20), (true, 21), (true, 22), (true, 23), (true, 24), (true, 25), (true, 26), (true, 27), (true, 28), (true, 29), (true, 30)] (fun w' => w'.cell? ⟨b, off + (j + 1) * 2, none⟩ = some (.int .i64 x.off) ∧ w'.cell? ⟨b, off + (j + 1) * 2 + 1, none⟩ = some (.int .i64 x.len) ∧ w'.cell? ⟨b, off + j * 2, none⟩ = some (.int .i64 y.off) ∧ w'.cell? ⟨b, off + j * 2 + 1, none⟩ = some (.int .i64 y.len) ∧ Below w.heap.size w w') [] (by kernel_rfl) (by kernel_rfl) (by kernel_rfl) rfl (by intro _ d _ _ _ h; cases d <;> exact h) ?_
            iterate 4 ((refine plan_yes (v := ?_) hS rfl (by rfl) (fun W hW => ?_) ?_; rotate_left; focus ((try dsimp only at hW); go_simp; (try with_reducible rfl); done)); (try simp only [Act.put, List.setIfInBounds_toArray, List.set_cons_zero, List.set_cons_succ]))
            refine plan_act rfl (fun K hK => ?_)
            go_wp2_with (go_at_call 40; refine (rproper_yes x _ hp).mono ?_; rintro e w1 ⟨rfl, hb1⟩)
            have hS1 : w1.cell? ⟨b, off + (j + 1) * 2, none⟩ = some (.int .i64 x.off) ∧ w1.cell? ⟨b, off + (j + 1) * 2 + 1, none⟩ = some (.int .i64 x.len) ∧ w1.cell? ⟨b, off + j * 2, none⟩ = some (.int .i64 y.off) ∧ w1.cell? ⟨b, off + j * 2 + 1, none⟩ = some (.int .i64 y.len) ∧ Below w.heap.size w w1 := ⟨cell_on hS.1 hb1, cell_on hS.2.1 hb1, cell_on hS.2.2.1 hb1, cell_on hS.2.2.2.1 hb1, below_on hS.2.2.2.2 (Nat.le_refl _) hb1⟩
            refine hK _ _ (fun _ => hS1) ?_
            clear hS
            clear hK K
            (try simp only [Act.put, List.setIfInBounds_toArray, List.set_cons_zero, List.set_cons_succ])
            iterate 26 ((refine plan_yes (v := ?_) hS1 rfl (by rfl) (fun W hW => ?_) ?_; rotate_left; focus ((try dsimp only at hW); go_simp; (try with_reducible rfl); done)); (try simp only [Act.put, List.setIfInBounds_toArray, List.set_cons_zero, List.set_cons_succ]))
            refine plan_done ?_
            clear hwj hwy
            go_wp2
            go_roundw
            case rel => exact ⟨j + 1 + 1, by omega, by go_num, Ex.okUpto_succ hok.out ⟨by rw [HX.out]; exact hp, fun h => by rw [HX.out, show j + 1 - 1 = j from rfl, HY.out]; exact hg⟩, hS1.2.2.2.2⟩
            case measure => simp [intOf]; omega
          · have hgd : decide (x.off ≤ y.off + y.len) = true := by simp; omega
            refine wp_region_plan [(true, 0), (true, 1), (true, 2), (true, 3), (false, 4), (true, 5), (true, 6), (true, 7), (true, 8), (true, 9), (true, 10), (true, 11), (true, 12), (true, 13), (true, 14), (true, 15), (true, 16), (true, 17), (true, 18), (true, 19), (true, 20), (true, 21), (true, 22), (true, 23), (true, 24), (true, 25), (true, 26), (true, 27), (true, 28), (true, 29), (true, 30)] (fun w' => w'.cell? ⟨b, off + (j + 1) * 2, none⟩ = some (.int .i64 x.off) ∧ w'.cell? ⟨b, off + (j + 1) * 2 + 1, none⟩ = some (.int .i64 x.len) ∧ w'.cell? ⟨b, off + j * 2, none⟩ = some (.int .i64 y.off) ∧ w'.cell? ⟨b, off + j * 2 + 1, none⟩ = some (.int .i64 y.len) ∧ Below w.heap.size w w') [] (by kernel_rfl) (by kernel_rfl) (by kernel_rfl) rfl (by intro _ d _ _ _ h; cases d <;> exact h) ?_
            iterate 4 ((refine plan_yes (v := ?_) hS rfl (by rfl) (fun W hW => ?_) ?_; rotate_left; focus ((try dsimp only at hW); go_simp; (try with_reducible rfl); done)); (try simp only [Act.put, List.setIfInBounds_toArray, List.set_cons_zero, List.set_cons_succ]))
            refine plan_act rfl (fun K hK => ?_)
            go_wp2_with (go_at_call 40; refine (rproper_yes x _ hp).mono ?_; rintro e w1 ⟨rfl, hb1⟩)
            have hS1 : w1.cell? ⟨b, off + (j + 1) * 2, none⟩ = some (.int .i64 x.off) ∧ w1.cell? ⟨b, off + (j + 1) * 2 + 1, none⟩ = some (.int .i64 x.len) ∧ w1.cell? ⟨b, off + j * 2, none⟩ = some (.int .i64 y.off) ∧ w1.cell? ⟨b, off + j * 2 + 1, none⟩ = some (.int .i64 y.len) ∧ Below w.heap.size w w1 := ⟨cell_on hS.1 hb1, cell_on hS.2.1 hb1, cell_on hS.2.2.1 hb1, cell_on hS.2.2.2.1 hb1, below_on hS.2.2.2.2 (Nat.le_refl _) hb1⟩
            refine hK _ _ (fun _ => hS1) ?_
            clear hS
            clear hK K
            (try simp only [Act.put, List.setIfInBounds_toArray, List.set_cons_zero, List.set_cons_succ])
            iterate 26 ((refine plan_yes (v := ?_) hS1 rfl (by rfl) (fun W hW => ?_) ?_; rotate_left; focus ((try dsimp only at hW); go_simp; (try with_reducible rfl); done)); (try simp only [Act.put, List.setIfInBounds_toArray, List.set_cons_zero, List.set_cons_succ]))
            refine plan_done ?_
            clear hwj hwy
            go_wp2
            go_ret
            exact ⟨ret_bool (Ex.vldB_no (i := j + 1) (by rw [HL.out]; exact hlt) (fun h => by have h2 := h.2 (by omega); rw [HX.out, show j + 1 - 1 = j from rfl, HY.out] at h2; unfold Ext.end_ at h2; omega)).symm, hS1.2.2.2.2⟩
        · have hS : wr.drew.cell? ⟨b, off + k * 2, none⟩ = some (.int .i64 x.off) ∧ wr.drew.cell? ⟨b, off + k * 2 + 1, none⟩ = some (.int .i64 x.len) ∧ Below w.heap.size w wr.drew := ⟨hc1, hc2, hB.drew⟩
          refine wp_region_plan [(true, 0), (true, 1), (true, 2), (true, 3), (false, 4), (true, 5), (true, 6), (true, 7), (true, 8), (true, 9), (true, 10), (true, 11), (true, 12), (true, 13), (true, 14), (true, 15), (true, 16), (true, 17), (true, 18), (true, 19), (true, 20), (true, 21), (true, 22), (true, 23), (true, 24), (true, 25), (true, 26), (true, 27), (true, 28), (true, 29), (true, 30)] (fun w' => w'.cell? ⟨b, off + k * 2, none⟩ = some (.int .i64 x.off) ∧ w'.cell? ⟨b, off + k * 2 + 1, none⟩ = some (.int .i64 x.len) ∧ Below w.heap.size w w') [] (by kernel_rfl) (by kernel_rfl) (by kernel_rfl) rfl (by intro _ d _ _ _ h; cases d <;> exact h) ?_
          iterate 4 ((refine plan_yes (v := ?_) hS rfl (by rfl) (fun W hW => ?_) ?_; rotate_left; focus ((try dsimp only at hW); go_simp; (try with_reducible rfl); done)); (try simp only [Act.put, List.setIfInBounds_toArray, List.set_cons_zero, List.set_cons_succ]))
          refine plan_act rfl (fun K hK => ?_)
          go_wp2_with (go_at_call 40; refine (rproper_yes x _ hp).mono ?_; rintro e w1 ⟨rfl, hb1⟩)
          have hS1 : w1.cell? ⟨b, off + k * 2, none⟩ = some (.int .i64 x.off) ∧ w1.cell? ⟨b, off + k * 2 + 1, none⟩ = some (.int .i64 x.len) ∧ Below w.heap.size w w1 := ⟨cell_on hS.1 hb1, cell_on hS.2.1 hb1, below_on hS.2.2 (Nat.le_refl _) hb1⟩
          refine hK _ _ (fun _ => hS1) ?_
          clear hS
          clear hK K
          (try simp only [Act.put, List.setIfInBounds_toArray, List.set_cons_zero, List.set_cons_succ])
          iterate 5 ((refine plan_yes (v := ?_) hS1 rfl (by rfl) (fun W hW => ?_) ?_; rotate_left; focus ((try dsimp only at hW); go_simp; (try with_reducible rfl); done)); (try simp only [Act.put, List.setIfInBounds_toArray, List.set_cons_zero, List.set_cons_succ]))
          iterate 19 (refine plan_no hS1 rfl (by rfl) ?_; (try simp only [Act.put, List.setIfInBounds_toArray, List.set_cons_zero, List.set_cons_succ]))
          iterate 2 ((refine plan_yes (v := ?_) hS1 rfl (by rfl) (fun W hW => ?_) ?_; rotate_left; focus ((try dsimp only at hW); go_simp; (try with_reducible rfl); done)); (try simp only [Act.put, List.setIfInBounds_toArray, List.set_cons_zero, List.set_cons_succ]))
          refine plan_done ?_
          go_wp2
          go_roundw
          case rel => exact ⟨k + 1, by omega, by go_num, Ex.okUpto_succ hok.out ⟨by rw [HX.out]; exact hp, fun h => absurd h h0⟩, hS1.2.2⟩
          case measure => simp [intOf]; omega
      · have hS : wr.drew.cell? ⟨b, off + k * 2, none⟩ = some (.int .i64 x.off) ∧ wr.drew.cell? ⟨b, off + k * 2 + 1, none⟩ = some (.int .i64 x.len) ∧ Below w.heap.size w wr.drew := ⟨hc1, hc2, hB.drew⟩
        refine wp_region_plan [(true, 0), (true, 1), (true, 2), (true, 3), (false, 4), (true, 5), (true, 6), (true, 7), (true, 8), (true, 9), (true, 10), (true, 11), (true, 12), (true, 13), (true, 14), (true, 15), (true, 16), (true, 17), (true, 18), (true, 19), (true, 20), (true, 21), (true, 22), (true, 23), (true, 24), (true, 25), (true, 26), (true, 27), (true, 28), (true, 29), (true, 30)] (fun w' => w'.cell? ⟨b, off + k * 2, none⟩ = some (.int .i64 x.off) ∧ w'.cell? ⟨b, off + k * 2 + 1, none⟩ = some (.int .i64 x.len) ∧ Below w.heap.size w w') [] (by kernel_rfl) (by kernel_rfl) (by kernel_rfl) rfl (by intro _ d _ _ _ h; cases d <;> exact h) ?_
        iterate 4 ((refine plan_yes (v := ?_) hS rfl (by rfl) (fun W hW => ?_) ?_; rotate_left; focus ((try dsimp only at hW); go_simp; (try with_reducible rfl); done)); (try simp only [Act.put, List.setIfInBounds_toArray, List.set_cons_zero, List.set_cons_succ]))
        refine plan_act rfl (fun K hK => ?_)
        go_wp2_with (go_at_call 40; refine (rproper_no x _ hxr.1 hxr.2 hp).mono ?_; rintro e w1 ⟨rfl, hb1⟩)
        have hS1 : w1.cell? ⟨b, off + k * 2, none⟩ = some (.int .i64 x.off) ∧ w1.cell? ⟨b, off + k * 2 + 1, none⟩ = some (.int .i64 x.len) ∧ Below w.heap.size w w1 := ⟨cell_on hS.1 hb1, cell_on hS.2.1 hb1, below_on hS.2.2 (Nat.le_refl _) hb1⟩
        refine hK _ _ (fun _ => hS1) ?_
        clear hS
        clear hK K
        (try simp only [Act.put, List.setIfInBounds_toArray, List.set_cons_zero, List.set_cons_succ])
        iterate 2 ((refine plan_yes (v := ?_) hS1 rfl (by rfl) (fun W hW => ?_) ?_; rotate_left; focus ((try dsimp only at hW); go_simp; (try with_reducible rfl); done)); (try simp only [Act.put, List.setIfInBounds_toArray, List.set_cons_zero, List.set_cons_succ]))
        iterate 23 (refine plan_no hS1 rfl (by rfl) ?_; (try simp only [Act.put, List.setIfInBounds_toArray, List.set_cons_zero, List.set_cons_succ]))
        iterate 1 ((refine plan_yes (v := ?_) hS1 rfl (by rfl) (fun W hW => ?_) ?_; rotate_left; focus ((try dsimp only at hW); go_simp; (try with_reducible rfl); done)); (try simp only [Act.put, List.setIfInBounds_toArray, List.set_cons_zero, List.set_cons_succ]))
        refine plan_done ?_
        go_wp2
        go_ret
        exact ⟨ret_bool (Ex.vldB_no (i := k) (by rw [HL.out]; exact hlt) (fun h => hp (by rw [← HX.out]; exact h.1))).symm, hS1.2.2⟩
    · obtain rfl : k = n := by omega
      go_wp2
      go_ret
      exact ⟨ret_bool (Ex.vldB_yes (by rw [HL.out]; exact hok.out)).symm, hB⟩
end Go.Proofs.Ytejogdielfgeoaa
/- The reference's Insert takes the same way: plain. -/
namespace Go.Proofs.Ytejogdielfgeoaa
open Go.RowKit Go.Shelf
set_option linter.unusedVariables false

theorem vld_gap {xs : List Ext} (h : Ex.vld xs) {j k : Nat} (hj : j < k) (hk : k < xs.length) : (Ex.get xs j).end_ < (Ex.get xs k).off := by
  have h1 := vld_le h (show j ≤ k - 1 by omega) (by omega)
  have h2 := (h k hk).2 (by omega)
  omega
theorem vld_prop {xs : List Ext} (h : Ex.vld xs) {k : Nat} (hk : k < xs.length) : 0 ≤ (Ex.get xs k).off ∧ 0 < (Ex.get xs k).len ∧ (Ex.get xs k).off + (Ex.get xs k).len ≤ 1048576 := (h k hk).1

def Ex.iL (xs : List Ext) (f1 k : Nat) : List Ext := xs.take (min k f1)
def Ex.iR (xs : List Ext) (l2 k : Nat) : List Ext := (xs.take k).drop l2
def Ex.iE (e e1 e2 : Ext) (f1 i k : Nat) : Ext := if k ≤ f1 then e else if k ≤ i then e1 else e2

theorem insR_prop {xs : List Ext} {e1 e2 : Ext} {i l2 : Nat} (hv : Ex.vld xs) (hp : e1.prop) (h : Ex.insR xs e1 i = (l2, e2)) : e2.prop := by
  unfold Ex.insR at h
  split at h
  · rename_i hc
    have hx := vld_prop hv hc.1
    obtain ⟨rfl, rfl⟩ := Prod.mk.inj h
    have h2 := hc.2
    unfold Ext.end_ at h2
    unfold Ext.prop at *
    dsimp only
    omega
  · obtain ⟨rfl, rfl⟩ := Prod.mk.inj h
    exact hp

theorem iE_prop {e e1 e2 : Ext} {f1 i k : Nat} (h : e.prop) (h1 : e1.prop) (h2 : e2.prop) : (Ex.iE e e1 e2 f1 i k).prop := by
  unfold Ex.iE
  split
  · exact h
  · split
    · exact h1
    · exact h2

theorem take_get {xs : List Ext} {k : Nat} (hk : k < xs.length) : xs.take (k + 1) = xs.take k ++ [Ex.get xs k] := by
  rw [List.take_add_one]
  simp [Ex.get, hk]

theorem iL_stay {xs : List Ext} {f1 k : Nat} (h : f1 ≤ k) : Ex.iL xs f1 (k + 1) = Ex.iL xs f1 k := by
  unfold Ex.iL
  rw [Nat.min_eq_right h, Nat.min_eq_right (by omega)]
theorem iL_add {xs : List Ext} {f1 k : Nat} (hk : k < xs.length) (h : k < f1) : Ex.iL xs f1 (k + 1) = Ex.iL xs f1 k ++ [Ex.get xs k] := by
  unfold Ex.iL
  rw [Nat.min_eq_left (by omega), Nat.min_eq_left (by omega), take_get hk]
theorem iR_nil {xs : List Ext} {l2 k : Nat} (h : k ≤ l2) : Ex.iR xs l2 k = [] := by
  unfold Ex.iR
  rw [List.drop_eq_nil_iff, List.length_take]
  omega
theorem iR_add {xs : List Ext} {l2 k : Nat} (hk : k < xs.length) (h : l2 ≤ k) : Ex.iR xs l2 (k + 1) = Ex.iR xs l2 k ++ [Ex.get xs k] := by
  unfold Ex.iR
  rw [take_get hk, List.drop_append_of_le_length (by rw [List.length_take]; omega)]

/-- What one round of the reference's second loop does. -/
inductive InsStep (xs : List Ext) (e e1 e2 : Ext) (f1 l2 i k : Nat) : Prop
  | left (a : (Ex.get xs k).end_ = (Ex.iE e e1 e2 f1 i k).off) (b : Ex.iE e e1 e2 f1 i (k + 1) = ⟨(Ex.get xs k).off, (Ex.get xs k).len + (Ex.iE e e1 e2 f1 i k).len⟩) (c : Ex.iL xs f1 (k + 1) = Ex.iL xs f1 k) (d : Ex.iR xs l2 (k + 1) = Ex.iR xs l2 k)
  | right (a : (Ex.get xs k).end_ ≠ (Ex.iE e e1 e2 f1 i k).off) (a2 : (Ex.iE e e1 e2 f1 i k).end_ = (Ex.get xs k).off) (b : Ex.iE e e1 e2 f1 i (k + 1) = ⟨(Ex.iE e e1 e2 f1 i k).off, (Ex.iE e e1 e2 f1 i k).len + (Ex.get xs k).len⟩) (c : Ex.iL xs f1 (k + 1) = Ex.iL xs f1 k) (d : Ex.iR xs l2 (k + 1) = Ex.iR xs l2 k)
  | low (a : (Ex.get xs k).end_ ≠ (Ex.iE e e1 e2 f1 i k).off) (a2 : (Ex.iE e e1 e2 f1 i k).end_ ≠ (Ex.get xs k).off) (a3 : (Ex.get xs k).off < (Ex.iE e e1 e2 f1 i k).off) (b : Ex.iE e e1 e2 f1 i (k + 1) = Ex.iE e e1 e2 f1 i k) (c : Ex.iL xs f1 (k + 1) = Ex.iL xs f1 k ++ [Ex.get xs k]) (d : Ex.iR xs l2 (k + 1) = Ex.iR xs l2 k)
  | high (a : (Ex.get xs k).end_ ≠ (Ex.iE e e1 e2 f1 i k).off) (a2 : (Ex.iE e e1 e2 f1 i k).end_ ≠ (Ex.get xs k).off) (a3 : ¬ (Ex.get xs k).off < (Ex.iE e e1 e2 f1 i k).off) (b : Ex.iE e e1 e2 f1 i (k + 1) = Ex.iE e e1 e2 f1 i k) (c : Ex.iL xs f1 (k + 1) = Ex.iL xs f1 k) (d : Ex.iR xs l2 (k + 1) = Ex.iR xs l2 k ++ [Ex.get xs k])

theorem ins_step {xs : List Ext} {e e1 e2 : Ext} {i f1 l2 : Nat} (hv : Ex.vld xs) (hp : e.prop) (hA : Aft xs e.off i) (hno : ¬ (i < xs.length ∧ (Ex.get xs i).off < e.end_)) (hL : Ex.insL xs e i = (f1, e1)) (hR : Ex.insR xs e1 i = (l2, e2)) {k : Nat} (hk : k < xs.length) :
    InsStep xs e e1 e2 f1 l2 i k := by
  obtain ⟨hi, hlo, hhi⟩ := hA
  have hxk := vld_prop hv hk
  have hpe : 0 ≤ e.off ∧ 0 < e.len ∧ e.off + e.len ≤ 1048576 := hp
  have hLc : (f1 = i ∧ e1 = e ∧ ¬ (0 < i ∧ (Ex.get xs (i - 1)).end_ = e.off)) ∨ (f1 + 1 = i ∧ (Ex.get xs f1).end_ = e.off ∧ e1 = ⟨(Ex.get xs f1).off, (Ex.get xs f1).len + e.len⟩) := by
    unfold Ex.insL at hL
    split at hL
    · rename_i hc
      obtain ⟨rfl, rfl⟩ := Prod.mk.inj hL
      exact .inr ⟨by omega, hc.2, rfl⟩
    · rename_i hc
      obtain ⟨rfl, rfl⟩ := Prod.mk.inj hL
      exact .inl ⟨rfl, rfl, hc⟩
  have hRc : (l2 = i ∧ e2 = e1 ∧ ¬ (i < xs.length ∧ (Ex.get xs i).off = e1.end_)) ∨ (l2 = i + 1 ∧ i < xs.length ∧ (Ex.get xs i).off = e1.end_ ∧ e2 = ⟨e1.off, e1.len + (Ex.get xs i).len⟩) := by
    unfold Ex.insR at hR
    split at hR
    · rename_i hc
      obtain ⟨rfl, rfl⟩ := Prod.mk.inj hR
      exact .inr ⟨rfl, hc.1, hc.2, rfl⟩
    · rename_i hc
      obtain ⟨rfl, rfl⟩ := Prod.mk.inj hR
      exact .inl ⟨rfl, rfl, hc⟩
  have he1 : e1.off ≤ e.off ∧ e1.off + e1.len = e.off + e.len := by
    rcases hLc with ⟨_, rfl, _⟩ | ⟨h1, h2, rfl⟩
    · exact ⟨Int.le_refl _, rfl⟩
    · have := vld_prop hv (show f1 < xs.length by omega)
      unfold Ext.end_ at h2
      dsimp only
      omega
  have hend : (Ex.get xs k).end_ = (Ex.get xs k).off + (Ex.get xs k).len := rfl
  by_cases h1 : k < f1
  · have hE : Ex.iE e e1 e2 f1 i k = e := if_pos (by omega)
    have hE' : Ex.iE e e1 e2 f1 i (k + 1) = e := if_pos (by omega)
    have hki : k < i := by rcases hLc with ⟨h, _⟩ | ⟨h, _⟩ <;> omega
    have hle := hlo k hki
    have hne : (Ex.get xs k).end_ ≠ e.off := by
      rcases hLc with ⟨h, _, hc⟩ | ⟨h, hc, _⟩
      · intro hq
        by_cases hk1 : k = i - 1
        · subst hk1; exact hc ⟨by omega, hq⟩
        · have g1 := vld_gap hv (show k < i - 1 by omega) (by omega)
          have g2 := hlo (i - 1) (by omega)
          have g3 := vld_prop hv (show i - 1 < xs.length by omega)
          have : (Ex.get xs (i - 1)).end_ = (Ex.get xs (i - 1)).off + (Ex.get xs (i - 1)).len := rfl
          omega
      · intro hq
        have g1 := vld_gap hv h1 (by omega)
        have g3 := vld_prop hv (show f1 < xs.length by omega)
        have : (Ex.get xs f1).end_ = (Ex.get xs f1).off + (Ex.get xs f1).len := rfl
        omega
    have hee : e.end_ = e.off + e.len := rfl
    refine .low ?_ ?_ ?_ ?_ (iL_add hk h1) (by rw [iR_nil, iR_nil] <;> (rcases hRc with ⟨h, _⟩ | ⟨h, _⟩ <;> omega)) <;> simp only [hE, hE']
    · exact hne
    · omega
    · omega
  · by_cases h2 : k < i
    · have hf : k = f1 ∧ (Ex.get xs f1).end_ = e.off ∧ e1 = ⟨(Ex.get xs f1).off, (Ex.get xs f1).len + e.len⟩ := by
        rcases hLc with ⟨h, _⟩ | ⟨h, h3, h4⟩
        · omega
        · exact ⟨by omega, h3, h4⟩
      obtain ⟨rfl, h3, h4⟩ := hf
      have hE : Ex.iE e e1 e2 k i k = e := if_pos (by omega)
      have hE' : Ex.iE e e1 e2 k i (k + 1) = e1 := by unfold Ex.iE; rw [if_neg (by omega), if_pos (by omega)]
      refine .left ?_ ?_ (iL_stay (by omega)) (by rw [iR_nil, iR_nil] <;> (rcases hRc with ⟨h, _⟩ | ⟨h, _⟩ <;> omega)) <;> simp only [hE, hE']
      · exact h3
      · exact h4
    · -- k ≥ i
      have hf1 : f1 ≤ i := by rcases hLc with ⟨h, _⟩ | ⟨h, _⟩ <;> omega
      have hgt := hhi k (by omega) hk
      have hEe : k = i → Ex.iE e e1 e2 f1 i k = e1 := fun hki => by
        subst hki
        unfold Ex.iE
        rcases hLc with ⟨h, h', _⟩ | ⟨h, _⟩
        · rw [if_pos (by omega), h']
        · rw [if_neg (by omega), if_pos (by omega)]
      have hE2 : k ≠ i → Ex.iE e e1 e2 f1 i k = e2 := fun hki => by
        unfold Ex.iE
        rw [if_neg (by omega), if_neg (by omega)]
      have hE' : Ex.iE e e1 e2 f1 i (k + 1) = e2 := by
        unfold Ex.iE
        rw [if_neg (by omega), if_neg (by omega)]
      by_cases hki : k = i
      · have hE := hEe hki
        subst hki
        have hov : e.end_ ≤ (Ex.get xs k).off := by
          have : ¬ (Ex.get xs k).off < e.end_ := fun h => hno ⟨hk, h⟩
          omega
        have hee : e.end_ = e.off + e.len := rfl
        have hee1 : e1.end_ = e1.off + e1.len := rfl
        rcases hRc with ⟨h, h', hc⟩ | ⟨h, _, hc, h'⟩
        · refine .high ?_ ?_ ?_ ?_ (iL_stay hf1) (iR_add hk (by omega)) <;> simp only [hE, hE']
          · omega
          · intro hq; exact hc ⟨hk, hq.symm⟩
          · omega
          · exact h'
        · refine .right ?_ ?_ ?_ (iL_stay hf1) (by rw [iR_nil, iR_nil] <;> omega) <;> simp only [hE, hE']
          · omega
          · exact hc.symm
          · exact h'
      · have hE := hE2 hki
        have g1 := vld_gap hv (show i < k by omega) hk
        have g2 := vld_prop hv (show i < xs.length by omega)
        have g3 : (Ex.get xs i).end_ = (Ex.get xs i).off + (Ex.get xs i).len := rfl
        have hov : e.end_ ≤ (Ex.get xs i).off := by
          have : ¬ (Ex.get xs i).off < e.end_ := fun h => hno ⟨by omega, h⟩
          omega
        have hee : e.end_ = e.off + e.len := rfl
        have hee1 : e1.end_ = e1.off + e1.len := rfl
        have hee2 : e2.end_ = e2.off + e2.len := rfl
        have he2 : e2.off = e1.off ∧ e2.off + e2.len ≤ (Ex.get xs i).end_ := by
          rcases hRc with ⟨h, h', hc⟩ | ⟨h, _, hc, h'⟩
          · subst h'; exact ⟨rfl, by omega⟩
          · subst h'; exact ⟨rfl, by dsimp only; omega⟩
        refine .high ?_ ?_ ?_ ?_ (iL_stay (by omega)) (iR_add hk (by rcases hRc with ⟨h, _⟩ | ⟨h, _⟩ <;> omega)) <;> simp only [hE, hE']
        · omega
        · omega
        · omega

theorem aft_ex {xs : List Ext} (hv : Ex.vld xs) (o : Int) : ∃ i, Aft xs o i := by
  suffices h : ∀ d i, i + d = xs.length → (∀ k, k < i → (Ex.get xs k).end_ ≤ o) → ∃ i, Aft xs o i from h xs.length 0 (by omega) (fun k hk => by omega)
  intro d
  induction d with
  | zero => exact fun i hi h => ⟨i, by omega, h, fun k h1 h2 => by omega⟩
  | succ d ih =>
    intro i hi h
    by_cases hc : o < (Ex.get xs i).end_
    · exact ⟨i, by omega, h, fun k h1 h2 => by have := vld_le hv h1 h2; omega⟩
    · exact ih (i + 1) (by omega) (fun k hk => by
        by_cases hki : k = i
        · subst hki; omega
        · exact h k (by omega))

theorem meet_iff {xs : List Ext} {e : Ext} {i : Nat} (hv : Ex.vld xs) (hA : Aft xs e.off i) {k : Nat} (hk : k < xs.length) (h : (Ex.get xs k).off < e.end_ ∧ e.off < (Ex.get xs k).end_) : i < xs.length ∧ (Ex.get xs i).off < e.end_ := by
  obtain ⟨hi, hlo, hhi⟩ := hA
  by_cases hki : k < i
  · have := hlo k hki; omega
  · refine ⟨by omega, ?_⟩
    by_cases hq : k = i
    · subst hq; exact h.1
    · have g1 := vld_gap hv (show i < k by omega) hk
      have g2 := vld_prop hv (show i < xs.length by omega)
      have g3 : (Ex.get xs i).end_ = (Ex.get xs i).off + (Ex.get xs i).len := rfl
      omega
end Go.Proofs.Ytejogdielfgeoaa
/- The contract of the reference's Insert. -/
namespace Go.Proofs.Ytejogdielfgeoaa
open Go.RowKit Go.Shelf
set_option linter.unusedVariables false
set_option linter.unusedSimpArgs false
set_option maxRecDepth 100000

theorem meets_any (x e : Ext) (W : World) (hx : x.prop) (he : e.prop) :
    Calls Try.prog 41 #[.agg #[.int .i64 x.off, .int .i64 x.len], .agg #[.int .i64 e.off, .int .i64 e.len]] W fun en w' => en = .returned (.bool (decide (x.off < e.end_ ∧ e.off < x.end_))) ∧ Below W.heap.size W w' := by
  have hx' : 0 ≤ x.off ∧ 0 < x.len ∧ x.off + x.len ≤ 1048576 := hx
  have he' : 0 ≤ e.off ∧ 0 < e.len ∧ e.off + e.len ≤ 1048576 := he
  refine calls_cv (M := []) (n := 23) [.tmp 4] rfl Try.func41 rfl rfl (Nat.le_of_ble_eq_true rfl) (St.nil _ _) ?_
  refine cv_seq_k fun K hK => ?_
  refine cv_region_then rfl ?_
  simp -implicitDefEqProofs (disch := first | omega | decide) only [seval, -Int.reducePow, -Nat.reducePow, cC, pv, binv]
  intro b hb b2 hb2 h2
  refine hK _ _ ?_
  clear hK K
  refine cv_gen fun G1 hG => ?_
  have g1_2 := congrFun hG 2
  have g1_3 := congrFun hG 3
  clear hG
  try simp -implicitDefEqProofs (disch := first | omega | decide) only [seval, -Int.reducePow, -Nat.reducePow, cC, pv, binv] at g1_2 g1_3
  have g1 := And.intro g1_2 g1_3
  refine cv_seq_k fun K hK => ?_
  refine cv_cut (fun _ _ => True) (fun F' L' => F' 4 = .bool (decide (x.off < e.end_ ∧ e.off < x.end_)) ∧ L' = [eBox b2 e, eBox b x]) ?_ ?_
  · refine cv_region_then rfl ?_
    simp -implicitDefEqProofs (disch := first | omega | decide) only [seval, -Int.reducePow, -Nat.reducePow, cC, pv, binv, wrap_in, eBox, g1]
    repeat' ((first | refine vcg_cases (fun hg => ?_) (fun hg => ?_) | refine vdg_cases (fun hg => ?_) (fun hg => ?_)) <;> ((try simp only [Bool.not_eq_true', Bool.not_eq_false', decide_eq_true_eq, decide_eq_false_iff_not] at hg); (try simp -implicitDefEqProofs (disch := first | omega | decide) only [seval, -Int.reducePow, -Nat.reducePow, cC, pv, binv, hg, wrap_in, eBox, g1])))
    all_goals (simp [Ext.end_, hg]; done)
  · intro G2 L' _ hF
    obtain ⟨q4, rfl⟩ := hF
    have g2_4 := q4
    clear q4
    have g2 := g2_4
    refine hK _ _ ?_
    clear hK K
    refine cv_ret ⟨_, (by simp -implicitDefEqProofs (disch := first | omega | decide) only [seval, -Int.reducePow, -Nat.reducePow, cC, pv, binv, g2]; rfl), fun w hw => ?_⟩
    exact ⟨rfl, hw.below⟩
set_option maxHeartbeats 1000000 in
theorem rinsert_any (A : Option Addr) (n c : Nat) (xs : List Ext) (e : Ext) (W : World) (hE : Exts W W.heap.size A n c xs) (hn : n ≤ 1000) (hR : ∀ i, i < n → -9223372036854775808 ≤ (Ex.get xs i).len ∧ (Ex.get xs i).len ≤ 9223372036854775807) (hr1 : -9223372036854775808 ≤ e.len) (hr2 : e.len ≤ 9223372036854775807) :
    Calls Try.prog 21 #[.slice A n c, .agg #[.int .i64 e.off, .int .i64 e.len]] W (rowPost 39 2 (fun v => .tuple #[v, .int .i64 (Ex.insF xs e).2]) (exCells (Ex.insF xs e).1) W) := by
  refine calls_cv (M := []) (n := 93) [.tmp 4, .tmp 5] rfl Try.func21 rfl rfl (Nat.le_of_ble_eq_true rfl) (St.nil _ _) ?_
  refine cv_seq_k fun K hK => ?_
  refine cv_region_then rfl ?_
  simp -implicitDefEqProofs (disch := first | omega | decide) only [seval, -Int.reducePow, -Nat.reducePow, cC, pv, binv, eBox]
  intro b hb
  refine hK _ _ ?_
  clear hK K
  refine cv_gen fun G3 hG => ?_
  have g3_0 := congrFun hG 0
  have g3_3 := congrFun hG 3
  clear hG
  try simp -implicitDefEqProofs (disch := first | omega | decide) only [seval, -Int.reducePow, -Nat.reducePow, cC, pv, binv, eBox] at g3_0 g3_3
  have g3 := And.intro g3_0 g3_3
  refine cv_seq_k fun K hK => ?_
  refine cv_seq_k fun K hK => ?_
  refine cv_cut (fun _ _ => True) (fun F' L' => F' 0 = G3 0 ∧ F' 3 = G3 3 ∧ F' 18 = .bool (!Ex.vldB xs || !e.propB) ∧ L' = [eBox b e]) ?_ ?_
  · refine cv_region_then rfl ?_
    simp -implicitDefEqProofs (disch := first | omega | decide) only [seval, -Int.reducePow, -Nat.reducePow, cC, pv, binv, eBox, g3]
    refine callV_ret (fun w hw => rvalid_any A n c xs w (hE.at hw) hR) ?_
    try simp -implicitDefEqProofs (disch := first | omega | decide) only [seval, -Int.reducePow, -Nat.reducePow, cC, pv, binv, eBox, g3]
    repeat' ((first | refine vcg_cases (fun hg => ?_) (fun hg => ?_) | refine vdg_cases (fun hg => ?_) (fun hg => ?_)) <;> ((try simp only [Bool.not_eq_true', Bool.not_eq_false', decide_eq_true_eq, decide_eq_false_iff_not] at hg); (try simp -implicitDefEqProofs (disch := first | omega | decide) only [seval, -Int.reducePow, -Nat.reducePow, cC, pv, binv, eBox, hg, g3])))
    refine callV_ret (fun w hw => rproper_any _ _ w hr1 hr2) ?_
    try simp -implicitDefEqProofs (disch := first | omega | decide) only [seval, -Int.reducePow, -Nat.reducePow, cC, pv, binv, eBox, g3]
    all_goals (first | (simp [hg]; done) | (simp [hg]; omega))
  · intro G4 L' _ hF
    obtain ⟨q0, q3, q18, rfl⟩ := hF
    have g4_0 := q0.trans g3_0
    have g4_3 := q3.trans g3_3
    have g4_18 := q18
    clear q0 q3 q18
    have g4 := And.intro g4_0 (And.intro g4_3 g4_18)
    refine hK _ _ ?_
    clear hK K
    refine cv_cond ?_
    simp -implicitDefEqProofs (disch := first | omega | decide) only [seval, -Int.reducePow, -Nat.reducePow, cC, pv, binv, eBox, g4]
    refine ⟨fun hc => ?_, fun hc => ?_⟩
    · refine cv_seq_k fun K hK => ?_
      refine cv_region_then rfl ?_
      simp -implicitDefEqProofs (disch := first | omega | decide) only [seval, -Int.reducePow, -Nat.reducePow, cC, pv, binv, eBox, g4]
      refine hK _ _ ?_
      clear hK K
      refine cv_ret ⟨_, (by simp -implicitDefEqProofs (disch := first | omega | decide) only [seval, -Int.reducePow, -Nat.reducePow, cC, pv, binv, eBox, g4]; rfl), fun w hw => ?_⟩
      have hF : Ex.insF xs e = ([], 1) := by
        unfold Ex.insF
        rw [if_pos]
        rw [← Ex.vldB_iff]
        have : e.propB = true ↔ e.prop := decide_eq_true_iff
        rw [← this]
        simpa [Bool.or_eq_true] using hc
      exact ⟨none, 0, 0, by rw [hF], by rw [hF]; exact World.ownsRow_nil _ _ _ _, hw.below⟩
    · refine cv_skip ?_
      try simp only [blockQ, thenQ]
      simp only [Bool.or_eq_false_iff, Bool.not_eq_false'] at hc
      obtain ⟨hv, hp⟩ := hc
      have hv := (Ex.vldB_iff xs).1 hv
      have hpp : e.prop := decide_eq_true_iff.1 hp
      have hp := (propB_iff e).1 hp
      refine hK _ _ ?_
      clear hK K
      refine cv_seq_k fun K hK => ?_
      refine cv_seq_k fun K hK => ?_
      refine cv_region_then rfl ?_
      simp -implicitDefEqProofs (disch := first | omega | decide) only [seval, -Int.reducePow, -Nat.reducePow, cC, pv, binv, eBox, g4]
      refine hK _ _ ?_
      clear hK K
      refine cv_gen fun G5 hG => ?_
      have g5_0 := congrFun hG 0
      have g5_3 := congrFun hG 3
      have g5_6 := congrFun hG 6
      clear hG
      try simp -implicitDefEqProofs (disch := first | omega | decide) only [seval, -Int.reducePow, -Nat.reducePow, cC, pv, binv, eBox, g4] at g5_0 g5_3 g5_6
      have g5 := And.intro g5_0 (And.intro g5_3 g5_6)
      refine cv_block ?_
      refine cv_loop (fun F' L' => ∃ k : Nat, F' 0 = G5 0 ∧ F' 3 = G5 3 ∧ F' 6 = .int .i64 (k : Int) ∧ L' = [eBox b e] ∧ k ≤ n ∧ ∀ j, j < k → ¬ ((Ex.get xs j).off < e.end_ ∧ e.off < (Ex.get xs j).end_)) (fun F' L' => n - (intOf (F' 6)).toNat) ?_ ?_
      · refine ⟨0, ?_⟩
        simp -implicitDefEqProofs (disch := first | omega | decide) only [seval, -Int.reducePow, -Nat.reducePow, cC, pv, binv, eBox, g5]
        exact ⟨by omega, fun j hj => by omega⟩
      · intro G6 L' hI
        obtain ⟨k, q0, q3, q6, rfl, ⟨hk, hno⟩⟩ := hI
        have g6_0 := q0.trans g5_0
        have g6_3 := q3.trans g5_3
        have g6_6 := q6
        clear q0 q3 q6
        have g6 := And.intro g6_0 (And.intro g6_3 g6_6)
        refine cv_seq_k fun K hK => ?_
        refine cv_seq_k fun K hK => ?_
        refine cv_region_then rfl ?_
        simp -implicitDefEqProofs (disch := first | omega | decide) only [seval, -Int.reducePow, -Nat.reducePow, cC, pv, binv, eBox, g5, g6]
        refine hK _ _ ?_
        clear hK K
        refine cv_cond ?_
        simp -implicitDefEqProofs (disch := first | omega | decide) only [seval, -Int.reducePow, -Nat.reducePow, cC, pv, binv, eBox, g5, g6]
        refine ⟨fun hc => ?_, fun hc => ?_⟩
        · refine cv_skip ?_
          try simp only [blockQ, thenQ]
          have hlt : k < n := by simpa using hc
          obtain ⟨b0, off, rfl, hb0, -⟩ := hE.cells (by omega)
          have hx := (hv k (by rw [hE.len]; omega)).1
          refine hK _ _ ?_
          clear hK K
          refine cv_seq_k fun K hK => ?_
          refine cv_block ?_
          refine cv_seq_k fun K hK => ?_
          refine cv_draw [(true, 0), (true, 1), (true, 2), (true, 3), (true, 4), (false, 5)] [5] mixA rfl (by kernel_rfl) (by kernel_rfl) rfl rfl ?_
          simp -implicitDefEqProofs (disch := first | omega | decide) only [seval, -Int.reducePow, -Nat.reducePow, cC, pv, binv, eBox, g5, g6]
          refine ⟨_, hE.ld hlt, fun tok htok => ?_⟩
          subst htok
          simp -implicitDefEqProofs (disch := first | omega | decide) only [seval, -Int.reducePow, -Nat.reducePow, cC, pv, binv, eBox, g5, g6]
          refine callV_ret (fun w hw => meets_any (Ex.get xs k) e w hx hpp) ?_
          try simp -implicitDefEqProofs (disch := first | omega | decide) only [seval, -Int.reducePow, -Nat.reducePow, cC, pv, binv, eBox, g5, g6]
          refine hK _ _ ?_
          clear hK K
          refine cv_cond ?_
          simp -implicitDefEqProofs (disch := first | omega | decide) only [seval, -Int.reducePow, -Nat.reducePow, cC, pv, binv, eBox, g5, g6]
          refine ⟨fun hc => ?_, fun hc => ?_⟩
          · refine cv_seq_k fun K hK => ?_
            refine cv_region_then rfl ?_
            simp -implicitDefEqProofs (disch := first | omega | decide) only [seval, -Int.reducePow, -Nat.reducePow, cC, pv, binv, eBox, g5, g6]
            refine hK _ _ ?_
            clear hK K
            refine cv_ret ⟨_, (by simp -implicitDefEqProofs (disch := first | omega | decide) only [seval, -Int.reducePow, -Nat.reducePow, cC, pv, binv, eBox, g5, g6]; rfl), fun w hw => ?_⟩
            obtain ⟨i, hA⟩ : ∃ i, Aft xs e.off i := aft_ex hv e.off
            have hai : Ex.aft xs e.off = i := Ex.aft_eq hA.1 hA.2.1 (fun h => hA.2.2 i (Nat.le_refl _) h)
            have hF : Ex.insF xs e = ([], 5) := by
              unfold Ex.insF
              rw [if_neg (by rintro (h | h); exact h hv; exact h hpp), hai, if_pos (meet_iff hv hA (k := k) (by rw [hE.len]; exact hlt) (of_decide_eq_true hc))]
            exact ⟨none, 0, 0, by rw [hF], by rw [hF]; exact World.ownsRow_nil _ _ _ _, hw.below⟩
          · refine cv_skip ?_
            try simp only [blockQ, thenQ]
            refine hK _ _ ?_
            clear hK K
            refine cv_region_then rfl ?_
            simp -implicitDefEqProofs (disch := first | omega | decide) only [seval, -Int.reducePow, -Nat.reducePow, cC, pv, binv, eBox, wrap_in, g5, g6]
            refine ⟨⟨k + 1, ?_⟩, ?_⟩
            · simp -implicitDefEqProofs (disch := first | omega | decide) only [seval, -Int.reducePow, -Nat.reducePow, cC, pv, binv, eBox, Int.natCast_add, g5, g6]
              refine ⟨by omega, fun j hj => ?_⟩
              by_cases hjk : j = k
              · subst hjk; exact of_decide_eq_false hc
              · exact hno j (by omega)
            · simp only [intOf]; omega
        · refine cv_exit ?_
          simp only [blockQ, thenQ, if_true, ite_true]
          clear hK K
          refine hK _ _ ?_
          clear hK K
          have hnk : n = k := by have := of_decide_eq_false hc; omega
          subst hnk
          obtain ⟨i, hA⟩ : ∃ i, Aft xs e.off i := aft_ex hv e.off
          have hai : Ex.aft xs e.off = i := Ex.aft_eq hA.1 hA.2.1 (fun h => hA.2.2 i (Nat.le_refl _) h)
          have hnov : ¬ (i < xs.length ∧ (Ex.get xs i).off < e.end_) := fun h => hno i (by rw [← hE.len]; exact h.1) ⟨h.2, hA.2.2 i (Nat.le_refl _) h.1⟩
          obtain ⟨f1, e1, hf1⟩ : ∃ f1 e1, Ex.insL xs e i = (f1, e1) := ⟨_, _, rfl⟩
          obtain ⟨l2, e2, hf2⟩ : ∃ l2 e2, Ex.insR xs e1 i = (l2, e2) := ⟨_, _, rfl⟩
          have hL1 := insL_fit hA.1 hv hpp hf1
          have hR1 := insR_prop hv hL1.1 hf2
          have hlf := insR_fit hA.1 hf2
          have hst := fun k (hk : k < xs.length) => ins_step hv hpp hA hnov hf1 hf2 hk
          have hF : Ex.insF xs e = (xs.take f1 ++ ([e2] ++ xs.drop l2), 0) := by
            unfold Ex.insF
            rw [if_neg (by rintro (h | h); exact h hv; exact h hpp), hai, if_neg hnov, hf1, hf2]
          have hend : Ex.iE e e1 e2 f1 i n = e2 ∧ f1 ≤ n := by
            have h1 := hA.1
            rw [hE.len] at h1
            have h3 := hL1.2
            refine ⟨?_, by omega⟩
            unfold Ex.insR at hf2
            unfold Ex.insL at hf1
            unfold Ex.iE
            split
            · split at hf2
              · rename_i hc; have := hc.1; rw [hE.len] at this; omega
              · injection hf2 with _ h
                split at hf1
                · injection hf1 with h' _; omega
                · injection hf1 with _ h'; rw [← h, ← h']
            · split
              · split at hf2
                · rename_i hc; have := hc.1; rw [hE.len] at this; omega
                · injection hf2 with _ h
              · rfl
          refine cv_seq_k fun K hK => ?_
          refine cv_region_then rfl ?_
          simp -implicitDefEqProofs (disch := first | omega | decide) only [seval, -Int.reducePow, -Nat.reducePow, cC, pv, binv, eBox, g5, g6]
          refine hK _ _ ?_
          clear hK K
          refine cv_seq_k fun K hK => ?_
          refine cv_seq_k fun K hK => ?_
          refine cv_region_then rfl ?_
          simp -implicitDefEqProofs (disch := first | omega | decide) only [seval, -Int.reducePow, -Nat.reducePow, cC, pv, binv, eBox, g5, g6]
          refine hK _ _ ?_
          clear hK K
          refine cv_gen fun G7 hG => ?_
          have g7_0 := congrFun hG 0
          have g7_3 := congrFun hG 3
          have g7_7 := congrFun hG 7
          have g7_8 := congrFun hG 8
          have g7_9 := congrFun hG 9
          clear hG
          try simp -implicitDefEqProofs (disch := first | omega | decide) only [seval, -Int.reducePow, -Nat.reducePow, cC, pv, binv, eBox, g5, g6] at g7_0 g7_3 g7_7 g7_8 g7_9
          have g7 := And.intro g7_0 (And.intro g7_3 (And.intro g7_7 (And.intro g7_8 g7_9)))
          refine cv_nil 39 2 ?_
          refine cv_nil 39 2 ?_
          refine cv_block ?_
          refine cv_loop (fun F' L' => ∃ (k : Nat) (A7 : Option Addr) (n7 c7 : Nat) (A8 : Option Addr) (n8 c8 : Nat), F' 0 = G7 0 ∧ F' 3 = G7 3 ∧ F' 7 = .slice A7 n7 c7 ∧ F' 8 = .slice A8 n8 c8 ∧ F' 9 = .int .i64 (k : Int) ∧ L' = [.row (.slice A7 n7 c7) 39 2 n7 (exCells (Ex.iL xs f1 k)), .row (.slice A8 n8 c8) 39 2 n8 (exCells (Ex.iR xs l2 k)), eBox b (Ex.iE e e1 e2 f1 i k)] ∧ k ≤ n ∧ n7 ≤ k ∧ n8 ≤ k) (fun F' L' => n - (intOf (F' 9)).toNat) ?_ ?_
          · refine ⟨0, none, 0, 0, none, 0, 0, ?_⟩
            have z1 : Ex.iE e e1 e2 f1 i 0 = e := by unfold Ex.iE; rw [if_pos (Nat.zero_le _)]
            have z2 : Ex.iL xs f1 0 = [] := by unfold Ex.iL; simp
            have z3 : Ex.iR xs l2 0 = [] := iR_nil (Nat.zero_le _)
            simp -implicitDefEqProofs (disch := first | omega | decide) only [seval, -Int.reducePow, -Nat.reducePow, cC, pv, binv, eBox, z1, z2, z3, g5, g6, g7]
            exact ⟨rfl, by omega⟩
          · intro G8 L' hI
            obtain ⟨k, A7, n7, c7, A8, n8, c8, q0, q3, q7, q8, q9, rfl, ⟨hk, h7, h8⟩⟩ := hI
            have g8_0 := q0.trans g7_0
            have g8_3 := q3.trans g7_3
            have g8_7 := q7
            have g8_8 := q8
            have g8_9 := q9
            clear q0 q3 q7 q8 q9
            have g8 := And.intro g8_0 (And.intro g8_3 (And.intro g8_7 (And.intro g8_8 g8_9)))
            refine cv_seq_k fun K hK => ?_
            refine cv_seq_k fun K hK => ?_
            refine cv_region_then rfl ?_
            simp -implicitDefEqProofs (disch := first | omega | decide) only [seval, -Int.reducePow, -Nat.reducePow, cC, pv, binv, eBox, g5, g6, g7, g8]
            refine hK _ _ ?_
            clear hK K
            refine cv_cond ?_
            simp -implicitDefEqProofs (disch := first | omega | decide) only [seval, -Int.reducePow, -Nat.reducePow, cC, pv, binv, eBox, g5, g6, g7, g8]
            refine ⟨fun hc => ?_, fun hc => ?_⟩
            · refine cv_skip ?_
              try simp only [blockQ, thenQ]
              have hlt : k < n := by simpa using hc
              obtain ⟨b0, off, rfl, hb0, -⟩ := hE.cells (by omega)
              have hst := hst k (by rw [hE.len]; exact hlt)
              have hx : 0 ≤ (Ex.get xs k).off ∧ 0 < (Ex.get xs k).len ∧ (Ex.get xs k).off + (Ex.get xs k).len ≤ 1048576 := vld_prop hv (show k < xs.length by rw [hE.len]; exact hlt)
              have hbe : 0 ≤ (Ex.iE e e1 e2 f1 i k).off ∧ 0 < (Ex.iE e e1 e2 f1 i k).len ∧ (Ex.iE e e1 e2 f1 i k).off + (Ex.iE e e1 e2 f1 i k).len ≤ 1048576 := iE_prop hpp hL1.1 hR1
              refine hK _ _ ?_
              clear hK K
              refine cv_seq_k fun K hK => ?_
              obtain ⟨x, hxx⟩ : ∃ x, Ex.get xs k = x := ⟨_, rfl⟩
              obtain ⟨E, hEE⟩ : ∃ E, Ex.iE e e1 e2 f1 i k = E := ⟨_, rfl⟩
              refine cv_cut (fun _ _ => True) (fun F' L' => ∃ (A7 : Option Addr) (n7 c7 : Nat) (A8 : Option Addr) (n8 c8 : Nat), F' 0 = G8 0 ∧ F' 3 = G8 3 ∧ F' 7 = .slice A7 n7 c7 ∧ F' 8 = .slice A8 n8 c8 ∧ F' 9 = G8 9 ∧ L' = [.row (.slice A7 n7 c7) 39 2 n7 (exCells (Ex.iL xs f1 (k + 1))), .row (.slice A8 n8 c8) 39 2 n8 (exCells (Ex.iR xs l2 (k + 1))), eBox b (Ex.iE e e1 e2 f1 i (k + 1))] ∧ n7 ≤ k + 1 ∧ n8 ≤ k + 1) ?_ ?_
              · rw [hEE]
                rw [hxx] at hx
                rw [hEE] at hbe
                refine cv_block ?_
                refine cv_seq_k fun K hK => ?_
                refine cv_region_then rfl ?_
                simp -implicitDefEqProofs (disch := first | omega | decide) only [seval, -Int.reducePow, -Nat.reducePow, cC, pv, binv, eBox, g5, g6, g7, g8]
                refine ⟨_, hE.ld hlt, fun tok htok => ?_⟩
                subst htok
                simp -implicitDefEqProofs (disch := first | omega | decide) only [seval, -Int.reducePow, -Nat.reducePow, cC, pv, binv, eBox, g5, g6, g7, g8]
                intro b4 hb4 h4
                rw [hxx]
                refine hK _ _ ?_
                clear hK K
                refine cv_gen fun G9 hG => ?_
                have g9_0 := congrFun hG 0
                have g9_3 := congrFun hG 3
                have g9_7 := congrFun hG 7
                have g9_8 := congrFun hG 8
                have g9_9 := congrFun hG 9
                have g9_10 := congrFun hG 10
                clear hG
                try simp -implicitDefEqProofs (disch := first | omega | decide) only [seval, -Int.reducePow, -Nat.reducePow, cC, pv, binv, eBox, g5, g6, g7, g8] at g9_0 g9_3 g9_7 g9_8 g9_9 g9_10
                have g9 := And.intro g9_0 (And.intro g9_3 (And.intro g9_7 (And.intro g9_8 (And.intro g9_9 g9_10))))
                refine cv_block ?_
                refine cv_seq_k fun K hK => ?_
                refine cv_region_then rfl ?_
                simp -implicitDefEqProofs (disch := first | omega | decide) only [seval, -Int.reducePow, -Nat.reducePow, cC, pv, binv, eBox, wrap_in, g5, g6, g7, g8, g9]
                refine hK _ _ ?_
                clear hK K
                refine cv_cond ?_
                simp -implicitDefEqProofs (disch := first | omega | decide) only [seval, -Int.reducePow, -Nat.reducePow, cC, pv, binv, eBox, g5, g6, g7, g8, g9]
                refine ⟨fun hc => ?_, fun hc => ?_⟩
                · have ha := of_decide_eq_true hc
                  refine cv_pick_post [1, 2, 3] (by decide) ?_
                  refine cv_region_q rfl ?_
                  simp -implicitDefEqProofs (disch := first | omega | decide) only [seval, -Int.reducePow, -Nat.reducePow, cC, pv, binv, eBox, wrap_in, g5, g6, g7, g8, g9]
                  obtain ⟨q1, q2, q3⟩ : Ex.iE e e1 e2 f1 i (k + 1) = ⟨x.off, x.len + E.len⟩ ∧ Ex.iL xs f1 (k + 1) = Ex.iL xs f1 k ∧ Ex.iR xs l2 (k + 1) = Ex.iR xs l2 k := by
                    cases hst <;> simp_all [Ext.end_] <;> omega
                  exact ⟨_, _, _, _, _, _, rfl, rfl, by rw [q1, q2, q3], by omega, by omega⟩
                · have ha := of_decide_eq_false hc
                  refine cv_seq_k fun K hK => ?_
                  refine cv_region_then rfl ?_
                  simp -implicitDefEqProofs (disch := first | omega | decide) only [seval, -Int.reducePow, -Nat.reducePow, cC, pv, binv, eBox, wrap_in, g5, g6, g7, g8, g9]
                  refine hK _ _ ?_
                  clear hK K
                  refine cv_cond ?_
                  simp -implicitDefEqProofs (disch := first | omega | decide) only [seval, -Int.reducePow, -Nat.reducePow, cC, pv, binv, eBox, g5, g6, g7, g8, g9]
                  refine ⟨fun hc => ?_, fun hc => ?_⟩
                  · have ha2 := of_decide_eq_true hc
                    refine cv_pick_post [1, 2, 3] (by decide) ?_
                    refine cv_region_q rfl ?_
                    simp -implicitDefEqProofs (disch := first | omega | decide) only [seval, -Int.reducePow, -Nat.reducePow, cC, pv, binv, eBox, wrap_in, g5, g6, g7, g8, g9]
                    obtain ⟨q1, q2, q3⟩ : Ex.iE e e1 e2 f1 i (k + 1) = ⟨E.off, E.len + x.len⟩ ∧ Ex.iL xs f1 (k + 1) = Ex.iL xs f1 k ∧ Ex.iR xs l2 (k + 1) = Ex.iR xs l2 k := by
                      cases hst <;> simp_all [Ext.end_] <;> omega
                    exact ⟨_, _, _, _, _, _, rfl, rfl, by rw [q1, q2, q3], by omega, by omega⟩
                  · have ha2 := of_decide_eq_false hc
                    refine cv_seq_k fun K hK => ?_
                    refine cv_region_then rfl ?_
                    simp -implicitDefEqProofs (disch := first | omega | decide) only [seval, -Int.reducePow, -Nat.reducePow, cC, pv, binv, eBox, wrap_in, g5, g6, g7, g8, g9]
                    refine hK _ _ ?_
                    clear hK K
                    refine cv_cond ?_
                    simp -implicitDefEqProofs (disch := first | omega | decide) only [seval, -Int.reducePow, -Nat.reducePow, cC, pv, binv, eBox, g5, g6, g7, g8, g9]
                    refine ⟨fun hc => ?_, fun hc => ?_⟩
                    · have ha3 := of_decide_eq_true hc
                      refine cv_pick_post [0, 3, 4] (by decide) ?_
                      refine cv_region_q rfl ?_
                      simp -implicitDefEqProofs (disch := first | omega | decide) only [seval, -Int.reducePow, -Nat.reducePow, cC, pv, binv, eBox, g5, g6, g7, g8, g9]
                      intro b5 hb5 h5
                      refine appV_at 2 tap29 rfl (fun w hw => src_blk (size := 2) (.head _) rfl hw) rfl (by omega) (by omega) ?_
                      intro A' c' hl _
                      simp -implicitDefEqProofs (disch := first | omega | decide) only [seval, -Int.reducePow, -Nat.reducePow, cC, pv, binv, eBox, g5, g6, g7, g8, g9]
                      obtain ⟨q1, q2, q3⟩ : Ex.iE e e1 e2 f1 i (k + 1) = E ∧ Ex.iL xs f1 (k + 1) = Ex.iL xs f1 k ++ [x] ∧ Ex.iR xs l2 (k + 1) = Ex.iR xs l2 k := by
                        cases hst <;> simp_all [Ext.end_] <;> omega
                      exact ⟨_, _, _, _, _, _, rfl, rfl, by rw [q1, q2, q3, exCells_snoc], by omega, by omega⟩
                    · have ha3 := of_decide_eq_false hc
                      refine cv_pick_post [3, 0, 4] (by decide) ?_
                      refine cv_region_q rfl ?_
                      simp -implicitDefEqProofs (disch := first | omega | decide) only [seval, -Int.reducePow, -Nat.reducePow, cC, pv, binv, eBox, g5, g6, g7, g8, g9]
                      intro b5 hb5 h5
                      refine appV_at 3 tap29 rfl (fun w hw => src_blk (size := 2) (.head _) rfl hw) rfl (by omega) (by omega) ?_
                      intro A' c' hl _
                      simp -implicitDefEqProofs (disch := first | omega | decide) only [seval, -Int.reducePow, -Nat.reducePow, cC, pv, binv, eBox, g5, g6, g7, g8, g9]
                      obtain ⟨q1, q2, q3⟩ : Ex.iE e e1 e2 f1 i (k + 1) = E ∧ Ex.iL xs f1 (k + 1) = Ex.iL xs f1 k ∧ Ex.iR xs l2 (k + 1) = Ex.iR xs l2 k ++ [x] := by
                        cases hst <;> simp_all [Ext.end_] <;> omega
                      exact ⟨_, _, _, _, _, _, rfl, rfl, by rw [q1, q2, q3, exCells_snoc], by omega, by omega⟩
              · intro G10 L' _ hF
                obtain ⟨A7, n7, c7, A8, n8, c8, q0, q3, q7, q8, q9, rfl, ⟨h7, h8⟩⟩ := hF
                have g10_0 := q0.trans g8_0
                have g10_3 := q3.trans g8_3
                have g10_7 := q7
                have g10_8 := q8
                have g10_9 := q9.trans g8_9
                clear q0 q3 q7 q8 q9
                have g10 := And.intro g10_0 (And.intro g10_3 (And.intro g10_7 (And.intro g10_8 g10_9)))
                refine hK _ _ ?_
                clear hK K
                refine cv_region_then rfl ?_
                simp -implicitDefEqProofs (disch := first | omega | decide) only [seval, -Int.reducePow, -Nat.reducePow, cC, pv, binv, eBox, wrap_in, g5, g6, g7, g8, g10]
                refine ⟨⟨k + 1, A7, n7, c7, A8, n8, c8, ?_⟩, ?_⟩
                · simp -implicitDefEqProofs (disch := first | omega | decide) only [seval, -Int.reducePow, -Nat.reducePow, cC, pv, binv, eBox, Int.natCast_add, g5, g6, g7, g8, g10]
                  exact ⟨by omega, by omega, by omega⟩
                · simp only [intOf]; omega
            · refine cv_exit ?_
              simp only [blockQ, thenQ, if_true, ite_true]
              clear hK K
              refine hK _ _ ?_
              clear hK K
              have hnk : n = k := by have := of_decide_eq_false hc; omega
              subst hnk
              have hEL : Ex.iL xs f1 n = xs.take f1 := by unfold Ex.iL; rw [Nat.min_eq_right hend.2]
              have hER : Ex.iR xs l2 n = xs.drop l2 := by unfold Ex.iR; rw [← hE.len, List.take_length]
              rw [hend.1, hEL, hER]
              refine cv_seq_k fun K hK => ?_
              refine cv_region_then rfl ?_
              simp -implicitDefEqProofs (disch := first | omega | decide) only [seval, -Int.reducePow, -Nat.reducePow, cC, pv, binv, eBox, g5, g6, g7, g8]
              intro b5 hb5 h5
              refine appV_at 1 tap29 rfl (fun w hw => src_blk (size := 2) (.head _) rfl hw) rfl (by omega) (by omega) ?_
              intro A5 c5 hl5 _
              simp -implicitDefEqProofs (disch := first | omega | decide) only [seval, -Int.reducePow, -Nat.reducePow, cC, pv, binv, eBox, g5, g6, g7, g8]
              refine appV_at 0 tap29 rfl (fun w hw => src_row (.tail _ (.tail _ (.head _))) hw) (ones_exCells _) (by omega) (by omega) ?_
              intro A6 c6 hl6 _
              simp -implicitDefEqProofs (disch := first | omega | decide) only [seval, -Int.reducePow, -Nat.reducePow, cC, pv, binv, eBox, g5, g6, g7, g8]
              refine hK _ _ ?_
              clear hK K
              refine cv_ret ⟨_, (by simp -implicitDefEqProofs (disch := first | omega | decide) only [seval, -Int.reducePow, -Nat.reducePow, cC, pv, binv, eBox, g5, g6, g7, g8]; rfl), fun w hw => ?_⟩
              have e5 : exCells (xs.take f1 ++ ([e2] ++ xs.drop l2)) = exCells (xs.take f1) ++ [.int .i64 e2.off, .int .i64 e2.len] ++ exCells (xs.drop l2) := by simp [exCells]
              exact ⟨A6, _, c6, by rw [hF], by rw [hF]; dsimp only; rw [e5]; exact ownsRow_new (hw.holds _ (.head _)) (hw.own _ (.head _)), hw.below⟩
end Go.Proofs.Ytejogdielfgeoaa
/- Clone, and the contract of Remove. -/
namespace Go.Proofs.Ytejogdielfgeoaa
open Go.RowKit Go.Shelf
set_option linter.unusedVariables false
set_option linter.unusedSimpArgs false
set_option maxRecDepth 100000

theorem clone_ext (A : Option Addr) (n c : Nat) (xs : List Ext) (W : World) (hE : Exts W W.heap.size A n c xs) (hn : n ≤ 1000000) :
    Calls Try.prog 37 #[.slice A n c] W (rowPost 39 2 (fun v => v) (exCells xs) W) := by
  refine calls_cv (M := []) (n := 8) [.tmp 2] rfl Try.func37 rfl rfl (Nat.le_of_ble_eq_true rfl) (St.nil _ _) ?_
  refine cv_seq_k fun K hK => ?_
  refine cv_region_then rfl ?_
  simp -implicitDefEqProofs (disch := first | omega | decide) only [seval, -Int.reducePow, -Nat.reducePow, cC, pv, binv]
  refine hK _ _ ?_
  clear hK K
  refine cv_seq_k fun K hK => ?_
  refine cv_seq_k fun K hK => ?_
  refine cv_region_then rfl ?_
  simp -implicitDefEqProofs (disch := first | omega | decide) only [seval, -Int.reducePow, -Nat.reducePow, cC, pv, binv]
  refine hK _ _ ?_
  clear hK K
  refine cv_cond ?_
  simp -implicitDefEqProofs (disch := first | omega | decide) only [seval, -Int.reducePow, -Nat.reducePow, cC, pv, binv]
  refine ⟨fun hc => ?_, fun hc => ?_⟩
  · refine cv_seq_k fun K hK => ?_
    refine cv_region_then rfl ?_
    simp -implicitDefEqProofs (disch := first | omega | decide) only [seval, -Int.reducePow, -Nat.reducePow, cC, pv, binv]
    refine hK _ _ ?_
    clear hK K
    refine cv_ret ⟨_, (by simp -implicitDefEqProofs (disch := first | omega | decide) only [seval, -Int.reducePow, -Nat.reducePow, cC, pv, binv]; rfl), fun w hw => ?_⟩
    have hn0 : n = 0 := by
      rcases Nat.eq_zero_or_pos n with h | h
      · exact h
      · obtain ⟨b, off, rfl, _⟩ := hE.cells h
        simp at hc
    have hx : xs = [] := List.eq_nil_of_length_eq_zero (by rw [hE.len, hn0])
    exact ⟨none, 0, 0, rfl, by rw [hx]; exact World.ownsRow_nil _ _ _ _, hw.below⟩
  · refine cv_skip ?_
    try simp only [blockQ, thenQ]
    refine hK _ _ ?_
    clear hK K
    refine cv_seq_k fun K hK => ?_
    refine cv_region_then rfl ?_
    simp -implicitDefEqProofs (disch := first | omega | decide) only [seval, -Int.reducePow, -Nat.reducePow, cC, pv, binv]
    intro b hb
    refine appV_lit 0 tap29 rfl rfl (fun w hw => (hE.at hw).reads) (ones_exCells _) (by omega) (by omega) ?_
    intro A' c' hl _
    simp -implicitDefEqProofs (disch := first | omega | decide) only [seval, -Int.reducePow, -Nat.reducePow, cC, pv, binv]
    refine hK _ _ ?_
    clear hK K
    refine cv_ret ⟨_, (by simp -implicitDefEqProofs (disch := first | omega | decide) only [seval, -Int.reducePow, -Nat.reducePow, cC, pv, binv]; rfl), fun w hw => ?_⟩
    rw [Nat.zero_add] at *
    exact ⟨A', _, c', rfl, ownsRow_new (hw.holds _ (.head _)) (hw.own _ (.head _)), hw.below⟩

/-! ## Plain -/
namespace Ex
def remParts (x e : Ext) : List Ext := (if x.off < e.off then [⟨x.off, e.off - x.off⟩] else []) ++ (if e.end_ < x.end_ then [⟨e.end_, x.end_ - e.end_⟩] else [])
/-- Is it not within place i? -/
def remNo (xs : List Ext) (e : Ext) (i : Nat) : Prop := i = xs.length ∨ e.off < (get xs i).off ∨ (get xs i).end_ < e.end_
instance (xs : List Ext) (e : Ext) (i : Nat) : Decidable (remNo xs e i) := by unfold remNo; exact inferInstance
def remF (xs : List Ext) (e : Ext) : List Ext × Int :=
  if ¬ vld xs ∨ ¬ e.prop then ([], 1)
  else if remNo xs e (aft xs e.off) then ([], 6)
  else (xs.take (aft xs e.off) ++ (remParts (get xs (aft xs e.off)) e ++ xs.drop (aft xs e.off + 1)), 0)
end Ex

set_option maxHeartbeats 1000000 in
theorem remove_any (A : Option Addr) (n c : Nat) (xs : List Ext) (e : Ext) (W : World) (hE : Exts W W.heap.size A n c xs) (hn : n ≤ 1000) :
    Calls Try.prog 34 #[.slice A n c, .agg #[.int .i64 e.off, .int .i64 e.len]] W (rowPost 39 2 (fun v => .tuple #[v, .int .i64 (Ex.remF xs e).2]) (exCells (Ex.remF xs e).1) W) := by
  refine calls_cv (M := []) (n := 96) [.tmp 4, .tmp 5] rfl Try.func34 rfl rfl (Nat.le_of_ble_eq_true rfl) (St.nil _ _) ?_
  refine cv_seq_k fun K hK => ?_
  refine cv_region_then rfl ?_
  simp -implicitDefEqProofs (disch := first | omega | decide) only [seval, -Int.reducePow, -Nat.reducePow, cC, pv, binv, eBox]
  intro b hb
  refine hK _ _ ?_
  clear hK K
  refine cv_gen fun G1 hG => ?_
  have g1_0 := congrFun hG 0
  have g1_3 := congrFun hG 3
  clear hG
  try simp -implicitDefEqProofs (disch := first | omega | decide) only [seval, -Int.reducePow, -Nat.reducePow, cC, pv, binv, eBox] at g1_0 g1_3
  have g1 := And.intro g1_0 g1_3
  refine cv_seq_k fun K hK => ?_
  refine cv_seq_k fun K hK => ?_
  refine cv_cut (fun _ _ => True) (fun F' L' => F' 0 = G1 0 ∧ F' 3 = G1 3 ∧ F' 17 = .bool (!Ex.vldB xs || !e.propB) ∧ L' = [eBox b e]) ?_ ?_
  · refine cv_region_then rfl ?_
    simp -implicitDefEqProofs (disch := first | omega | decide) only [seval, -Int.reducePow, -Nat.reducePow, cC, pv, binv, eBox, g1]
    refine callV_ret (fun w hw => valid_any A n c xs w (hE.at hw)) ?_
    try simp -implicitDefEqProofs (disch := first | omega | decide) only [seval, -Int.reducePow, -Nat.reducePow, cC, pv, binv, eBox, g1]
    repeat' ((first | refine vcg_cases (fun hg => ?_) (fun hg => ?_) | refine vdg_cases (fun hg => ?_) (fun hg => ?_)) <;> ((try simp only [Bool.not_eq_true', Bool.not_eq_false', decide_eq_true_eq, decide_eq_false_iff_not] at hg); (try simp -implicitDefEqProofs (disch := first | omega | decide) only [seval, -Int.reducePow, -Nat.reducePow, cC, pv, binv, eBox, hg, g1])))
    refine callV_ret (fun w hw => proper_any _ _ w) ?_
    try simp -implicitDefEqProofs (disch := first | omega | decide) only [seval, -Int.reducePow, -Nat.reducePow, cC, pv, binv, eBox, g1]
    all_goals (first | (simp [hg]; done) | (simp [hg]; omega))
  · intro G2 L' _ hF
    obtain ⟨q0, q3, q17, rfl⟩ := hF
    have g2_0 := q0.trans g1_0
    have g2_3 := q3.trans g1_3
    have g2_17 := q17
    clear q0 q3 q17
    have g2 := And.intro g2_0 (And.intro g2_3 g2_17)
    refine hK _ _ ?_
    clear hK K
    refine cv_cond ?_
    simp -implicitDefEqProofs (disch := first | omega | decide) only [seval, -Int.reducePow, -Nat.reducePow, cC, pv, binv, eBox, g2]
    refine ⟨fun hc => ?_, fun hc => ?_⟩
    · refine cv_seq_k fun K hK => ?_
      refine cv_region_then rfl ?_
      simp -implicitDefEqProofs (disch := first | omega | decide) only [seval, -Int.reducePow, -Nat.reducePow, cC, pv, binv, eBox, g2]
      refine hK _ _ ?_
      clear hK K
      refine cv_ret ⟨_, (by simp -implicitDefEqProofs (disch := first | omega | decide) only [seval, -Int.reducePow, -Nat.reducePow, cC, pv, binv, eBox, g2]; rfl), fun w hw => ?_⟩
      have hF : Ex.remF xs e = ([], 1) := by
        unfold Ex.remF
        rw [if_pos]
        rw [← Ex.vldB_iff]
        have : e.propB = true ↔ e.prop := decide_eq_true_iff
        rw [← this]
        simpa [Bool.or_eq_true] using hc
      exact ⟨none, 0, 0, by rw [hF], by rw [hF]; exact World.ownsRow_nil _ _ _ _, hw.below⟩
    · refine cv_skip ?_
      try simp only [blockQ, thenQ]
      simp only [Bool.or_eq_false_iff, Bool.not_eq_false'] at hc
      obtain ⟨hv, hp⟩ := hc
      have hv := (Ex.vldB_iff xs).1 hv
      have hpp : e.prop := decide_eq_true_iff.1 hp
      have hp := (propB_iff e).1 hp
      refine hK _ _ ?_
      clear hK K
      refine cv_seq_k fun K hK => ?_
      refine cv_region_then rfl ?_
      simp -implicitDefEqProofs (disch := first | omega | decide) only [seval, -Int.reducePow, -Nat.reducePow, cC, pv, binv, eBox, eBox, g2]
      refine callV_ex (fun i : Nat => .int .i64 i) (Aft xs e.off) (fun w hw => after_any A n c xs e.off w (hE.at hw) hv) ?_
      intro i hA
      try simp -implicitDefEqProofs (disch := first | omega | decide) only [seval, -Int.reducePow, -Nat.reducePow, cC, pv, binv, eBox, g2]
      refine hK _ _ ?_
      clear hK K
      have hin : i ≤ n := by have := hA.1; rw [hE.len] at this; exact this
      have hai : Ex.aft xs e.off = i := Ex.aft_eq hA.1 hA.2.1 (fun h => hA.2.2 i (Nat.le_refl _) h)
      refine cv_gen fun G3 hG => ?_
      have g3_0 := congrFun hG 0
      have g3_3 := congrFun hG 3
      have g3_6 := congrFun hG 6
      clear hG
      try simp -implicitDefEqProofs (disch := first | omega | decide) only [seval, -Int.reducePow, -Nat.reducePow, cC, pv, binv, eBox, g2] at g3_0 g3_3 g3_6
      have g3 := And.intro g3_0 (And.intro g3_3 g3_6)
      refine cv_seq_k fun K hK => ?_
      refine cv_seq_k fun K hK => ?_
      refine cv_cut (fun _ _ => True) (fun F' L' => F' 0 = G3 0 ∧ F' 3 = G3 3 ∧ F' 6 = G3 6 ∧ F' 45 = .bool (decide (Ex.remNo xs e i)) ∧ L' = [eBox b e]) ?_ ?_
      · by_cases hlt : i < n
        · obtain ⟨b0, off, rfl, hb0, -⟩ := hE.cells (by omega)
          have hlt' : ¬ (i : Int) = n := by omega
          have hx := (hv i (by rw [hE.len]; omega)).1
          have hil : ¬ i = xs.length := by rw [hE.len]; omega
          refine cv_draw [(true, 0), (true, 1), (true, 2), (true, 3), (true, 4), (true, 5), (true, 6), (true, 7), (true, 8), (true, 9), (true, 10), (true, 11), (true, 12), (true, 13), (true, 14), (true, 15), (true, 16), (true, 17), (true, 18), (true, 20), (false, 19), (false, 21), (true, 22), (true, 23)] [] mixA rfl (by kernel_rfl) (by kernel_rfl) rfl rfl ?_
          simp -implicitDefEqProofs (disch := first | omega | decide) only [seval, -Int.reducePow, -Nat.reducePow, cC, pv, binv, eBox, hlt', g3]
          refine ⟨_, hE.ld0 hlt, fun tok htok => ?_⟩
          subst htok
          simp -implicitDefEqProofs (disch := first | omega | decide) only [seval, -Int.reducePow, -Nat.reducePow, cC, pv, binv, eBox, g3]
          repeat' ((first | refine vcg_cases (fun hg => ?_) (fun hg => ?_) | refine vdg_cases (fun hg => ?_) (fun hg => ?_)) <;> ((try simp only [Bool.not_eq_true', Bool.not_eq_false', decide_eq_true_eq, decide_eq_false_iff_not] at hg); (try simp -implicitDefEqProofs (disch := first | omega | decide) only [seval, -Int.reducePow, -Nat.reducePow, cC, pv, binv, eBox, hg, g3])))
          · refine ⟨_, hE.ld hlt, fun tok htok => ?_⟩
            subst htok
            simp -implicitDefEqProofs (disch := first | omega | decide) only [seval, -Int.reducePow, -Nat.reducePow, cC, pv, binv, eBox, g3]
            refine callV_ret (fun w hw => end_prop (Ex.get xs i) w hx) ?_
            try simp -implicitDefEqProofs (disch := first | omega | decide) only [seval, -Int.reducePow, -Nat.reducePow, cC, pv, binv, eBox, g3]
            refine callV_ret (fun w hw => end_prop e w hpp) ?_
            try simp -implicitDefEqProofs (disch := first | omega | decide) only [seval, -Int.reducePow, -Nat.reducePow, cC, pv, binv, eBox, g3]
            all_goals (first | (simp [Ex.remNo, hg, hil]; done) | (simp [Ex.remNo, hg, hil]; omega))
          · all_goals (first | (simp [Ex.remNo, hg]; done) | (simp [Ex.remNo, hg]; omega))
        · have hlt' : (i : Int) = n := by omega
          have hil : i = xs.length := by rw [hE.len]; omega
          refine cv_draw [(true, 0), (true, 1), (true, 2), (true, 3), (true, 4), (true, 5), (true, 6), (true, 7), (true, 8), (true, 9), (true, 10), (true, 11), (true, 12), (true, 13), (true, 14), (true, 15), (true, 16), (true, 17), (true, 18), (true, 20), (false, 19), (false, 21), (true, 22), (true, 23)] [] mixA rfl (by kernel_rfl) (by kernel_rfl) rfl rfl ?_
          simp -implicitDefEqProofs (disch := first | omega | decide) only [seval, -Int.reducePow, -Nat.reducePow, cC, pv, binv, eBox, hlt', g3]
          all_goals (first | (simp [Ex.remNo, hil]; done) | (simp [Ex.remNo, hil]; omega))
      · intro G4 L' _ hF
        obtain ⟨q0, q3, q6, q45, rfl⟩ := hF
        have g4_0 := q0.trans g3_0
        have g4_3 := q3.trans g3_3
        have g4_6 := q6.trans g3_6
        have g4_45 := q45
        clear q0 q3 q6 q45
        have g4 := And.intro g4_0 (And.intro g4_3 (And.intro g4_6 g4_45))
        refine hK _ _ ?_
        clear hK K
        refine cv_cond ?_
        simp -implicitDefEqProofs (disch := first | omega | decide) only [seval, -Int.reducePow, -Nat.reducePow, cC, pv, binv, eBox, g4]
        refine ⟨fun hc => ?_, fun hc => ?_⟩
        · refine cv_seq_k fun K hK => ?_
          refine cv_region_then rfl ?_
          simp -implicitDefEqProofs (disch := first | omega | decide) only [seval, -Int.reducePow, -Nat.reducePow, cC, pv, binv, eBox, g4]
          refine hK _ _ ?_
          clear hK K
          refine cv_ret ⟨_, (by simp -implicitDefEqProofs (disch := first | omega | decide) only [seval, -Int.reducePow, -Nat.reducePow, cC, pv, binv, eBox, g4]; rfl), fun w hw => ?_⟩
          have hF : Ex.remF xs e = ([], 6) := by
            unfold Ex.remF
            rw [if_neg (by rintro (h | h); exact h hv; exact h hpp), hai, if_pos (of_decide_eq_true hc)]
          exact ⟨none, 0, 0, by rw [hF], by rw [hF]; exact World.ownsRow_nil _ _ _ _, hw.below⟩
        · refine cv_skip ?_
          try simp only [blockQ, thenQ]
          have hno := of_decide_eq_false hc
          have hF : Ex.remF xs e = (xs.take i ++ (Ex.remParts (Ex.get xs i) e ++ xs.drop (i + 1)), 0) := by
            unfold Ex.remF
            rw [if_neg (by rintro (h | h); exact h hv; exact h hpp), hai, if_neg hno]
          have hlt : i < n := by
            unfold Ex.remNo at hno
            rw [hE.len] at hno
            omega
          have hcap := hE.cap
          have hxp := (hv i (by rw [hE.len]; exact hlt)).1
          obtain ⟨x, hx⟩ : ∃ x, Ex.get xs i = x := ⟨_, rfl⟩
          rw [hx] at hxp hF
          have hxb : 0 ≤ x.off ∧ 0 < x.len ∧ x.off + x.len ≤ 1048576 := hxp
          refine hK _ _ ?_
          clear hK K
          refine cv_seq_k fun K hK => ?_
          refine cv_region_then rfl ?_
          simp -implicitDefEqProofs (disch := first | omega | decide) only [seval, -Int.reducePow, -Nat.reducePow, cC, pv, binv, eBox, g4]
          refine callV_row (fun A' n' c' => .slice A' n' c') (fun w hw => clone_ext A i c (xs.take i) w ((hE.at hw).take (by omega)) (by omega)) ?_
          intro A7 n7 c7 hl7 hA7
          simp -implicitDefEqProofs (disch := first | omega | decide) only [seval, -Int.reducePow, -Nat.reducePow, cC, pv, binv, eBox, g4]
          refine hK _ _ ?_
          clear hK K
          refine cv_gen fun G5 hG => ?_
          have g5_0 := congrFun hG 0
          have g5_3 := congrFun hG 3
          have g5_6 := congrFun hG 6
          have g5_7 := congrFun hG 7
          clear hG
          try simp -implicitDefEqProofs (disch := first | omega | decide) only [seval, -Int.reducePow, -Nat.reducePow, cC, pv, binv, eBox, g4] at g5_0 g5_3 g5_6 g5_7
          have g5 := And.intro g5_0 (And.intro g5_3 (And.intro g5_6 g5_7))
          obtain ⟨P1, hP1⟩ : ∃ P1, (if x.off < e.off then [⟨x.off, e.off - x.off⟩] else [] : List Ext) = P1 := ⟨_, rfl⟩
          obtain ⟨P2, hP2⟩ : ∃ P2, (if e.end_ < x.end_ then [⟨e.end_, x.end_ - e.end_⟩] else [] : List Ext) = P2 := ⟨_, rfl⟩
          have hPP : Ex.remParts x e = P1 ++ P2 := by unfold Ex.remParts; rw [hP1, hP2]
          have hn7 : n7 ≤ i := by have := cells_len hl7; rw [List.length_take] at this; omega
          obtain ⟨b0, off, rfl, hb0, -⟩ := hE.cells (by omega)
          refine cv_seq_k fun K hK => ?_
          refine cv_cut (fun _ _ => True) (fun F' L' => ∃ (A8 : Option Addr) (n8 c8 : Nat), F' 0 = G5 0 ∧ F' 3 = G5 3 ∧ F' 6 = G5 6 ∧ F' 7 = .slice A8 n8 c8 ∧ L' = [.row (.slice A8 n8 c8) 39 2 n8 (exCells (xs.take i ++ P1)), eBox b e] ∧ n8 ≤ i + 1) ?_ ?_
          · refine cv_seq_k fun K hK => ?_
            refine cv_region_then rfl ?_
            simp -implicitDefEqProofs (disch := first | omega | decide) only [seval, -Int.reducePow, -Nat.reducePow, cC, pv, binv, eBox, g5]
            refine ⟨_, hE.ld hlt, fun tok htok => ?_⟩
            subst htok
            simp -implicitDefEqProofs (disch := first | omega | decide) only [seval, -Int.reducePow, -Nat.reducePow, cC, pv, binv, eBox, g5]
            rw [hx]
            intro b8 hb8 h8
            refine hK _ _ ?_
            clear hK K
            refine cv_gen fun G6 hG => ?_
            have g6_0 := congrFun hG 0
            have g6_3 := congrFun hG 3
            have g6_6 := congrFun hG 6
            have g6_7 := congrFun hG 7
            have g6_8 := congrFun hG 8
            clear hG
            try simp -implicitDefEqProofs (disch := first | omega | decide) only [seval, -Int.reducePow, -Nat.reducePow, cC, pv, binv, eBox, g5] at g6_0 g6_3 g6_6 g6_7 g6_8
            have g6 := And.intro g6_0 (And.intro g6_3 (And.intro g6_6 (And.intro g6_7 g6_8)))
            refine cv_seq_k fun K hK => ?_
            refine cv_region_then rfl ?_
            simp -implicitDefEqProofs (disch := first | omega | decide) only [seval, -Int.reducePow, -Nat.reducePow, cC, pv, binv, eBox, g5, g6]
            refine hK _ _ ?_
            clear hK K
            refine cv_cond ?_
            simp -implicitDefEqProofs (disch := first | omega | decide) only [seval, -Int.reducePow, -Nat.reducePow, cC, pv, binv, eBox, g5, g6]
            refine ⟨fun hc => ?_, fun hc => ?_⟩
            · rw [if_pos (of_decide_eq_true hc)] at hP1
              refine cv_pick_post [0, 3] (by decide) ?_
              refine cv_region_q rfl ?_
              simp -implicitDefEqProofs (disch := first | omega | decide) only [seval, -Int.reducePow, -Nat.reducePow, cC, pv, binv, eBox, wrap_in, g5, g6]
              intro b9 hb9 h9
              refine appV_at 2 tap29 rfl (fun w hw => src_blk (size := 2) (.head _) rfl hw) rfl (by omega) (by omega) ?_
              intro A' c' hl _
              simp -implicitDefEqProofs (disch := first | omega | decide) only [seval, -Int.reducePow, -Nat.reducePow, cC, pv, binv, eBox, g5, g6]
              exact ⟨A', n7 + 1, c', rfl, by rw [← hP1, exCells_snoc], by omega⟩
            · rw [if_neg (of_decide_eq_false hc)] at hP1
              refine cv_pick [1, 2] (by decide) ?_
              simp only [pickL, nth]
              refine cv_skip ?_
              try simp only [blockQ, thenQ]
              simp -implicitDefEqProofs (disch := first | omega | decide) only [seval, -Int.reducePow, -Nat.reducePow, cC, pv, binv, eBox, g5, g6]
              exact ⟨A7, n7, c7, rfl, by rw [← hP1, List.append_nil], by omega⟩
          · intro G7 L' _ hF
            obtain ⟨A8, n8, c8, q0, q3, q6, q7, rfl, h8⟩ := hF
            have g7_0 := q0.trans g5_0
            have g7_3 := q3.trans g5_3
            have g7_6 := q6.trans g5_6
            have g7_7 := q7
            clear q0 q3 q6 q7
            have g7 := And.intro g7_0 (And.intro g7_3 (And.intro g7_6 g7_7))
            refine hK _ _ ?_
            clear hK K
            refine cv_seq_k fun K hK => ?_
            refine cv_cut (fun _ _ => True) (fun F' L' => ∃ (A9 : Option Addr) (n9 c9 : Nat), F' 0 = G7 0 ∧ F' 6 = G7 6 ∧ F' 7 = .slice A9 n9 c9 ∧ L' = [.row (.slice A9 n9 c9) 39 2 n9 (exCells (xs.take i ++ P1 ++ P2)), eBox b e] ∧ n9 ≤ i + 2) ?_ ?_
            · refine cv_seq_k fun K hK => ?_
              refine cv_region_then rfl ?_
              simp -implicitDefEqProofs (disch := first | omega | decide) only [seval, -Int.reducePow, -Nat.reducePow, cC, pv, binv, eBox, g7]
              refine ⟨_, hE.ld hlt, fun tok htok => ?_⟩
              subst htok
              simp -implicitDefEqProofs (disch := first | omega | decide) only [seval, -Int.reducePow, -Nat.reducePow, cC, pv, binv, eBox, g7]
              rw [hx]
              intro b8 hb8 h8'
              refine hK _ _ ?_
              clear hK K
              refine cv_gen fun G8 hG => ?_
              have g8_0 := congrFun hG 0
              have g8_3 := congrFun hG 3
              have g8_6 := congrFun hG 6
              have g8_7 := congrFun hG 7
              have g8_9 := congrFun hG 9
              clear hG
              try simp -implicitDefEqProofs (disch := first | omega | decide) only [seval, -Int.reducePow, -Nat.reducePow, cC, pv, binv, eBox, g7] at g8_0 g8_3 g8_6 g8_7 g8_9
              have g8 := And.intro g8_0 (And.intro g8_3 (And.intro g8_6 (And.intro g8_7 g8_9)))
              refine cv_seq_k fun K hK => ?_
              refine cv_draw [(true, 0), (true, 2), (false, 1), (false, 3), (true, 4)] [] mixA rfl (by kernel_rfl) (by kernel_rfl) rfl rfl ?_
              simp -implicitDefEqProofs (disch := first | omega | decide) only [seval, -Int.reducePow, -Nat.reducePow, cC, pv, binv, eBox, g7, g8]
              refine callV_ret (fun w hw => end_prop x w hxp) ?_
              try simp -implicitDefEqProofs (disch := first | omega | decide) only [seval, -Int.reducePow, -Nat.reducePow, cC, pv, binv, eBox, g7, g8]
              refine callV_ret (fun w hw => end_prop e w hpp) ?_
              try simp -implicitDefEqProofs (disch := first | omega | decide) only [seval, -Int.reducePow, -Nat.reducePow, cC, pv, binv, eBox, g7, g8]
              refine hK _ _ ?_
              clear hK K
              refine cv_cond ?_
              simp -implicitDefEqProofs (disch := first | omega | decide) only [seval, -Int.reducePow, -Nat.reducePow, cC, pv, binv, eBox, g7, g8]
              refine ⟨fun hc => ?_, fun hc => ?_⟩
              · rw [if_pos (of_decide_eq_true hc)] at hP2
                refine cv_pick_post [0, 3] (by decide) ?_
                refine cv_q ?_
                refine cv_draw_of (pickL [0, 2] _) (fun w hw => hw.pick (by decide)) (by simp only [pickL, nth, suf_cons, suf_nil, List.mem_cons, true_or, or_true, and_true, eq_self]) [(true, 0), (true, 1), (true, 3), (true, 5), (false, 2), (false, 4), (false, 6), (true, 7), (true, 8), (false, 9), (false, 10), (true, 11)] [] mixA rfl (by kernel_rfl) (by kernel_rfl) rfl rfl ?_
                simp -implicitDefEqProofs (disch := first | omega | decide) only [seval, -Int.reducePow, -Nat.reducePow, cC, pv, binv, eBox, g7, g8]
                refine callV_ret (fun w hw => end_prop e w hpp) ?_
                try simp -implicitDefEqProofs (disch := first | omega | decide) only [seval, -Int.reducePow, -Nat.reducePow, cC, pv, binv, eBox, g7, g8]
                refine callV_ret (fun w hw => end_prop x w hxp) ?_
                try simp -implicitDefEqProofs (disch := first | omega | decide) only [seval, -Int.reducePow, -Nat.reducePow, cC, pv, binv, eBox, g7, g8]
                have hwe : IntKind.i64.wrap (x.end_ - e.end_) = x.end_ - e.end_ := wrap_in (by unfold Ext.end_; omega) (by unfold Ext.end_; omega)
                refine callV_ret (fun w hw => end_prop e w hpp) ?_
                try simp -implicitDefEqProofs (disch := first | omega | decide) only [seval, -Int.reducePow, -Nat.reducePow, cC, pv, binv, eBox, hwe, g7, g8]
                intro b9 hb9 h9
                refine appV_at 2 tap29 rfl (fun w hw => src_blk (size := 2) (.head _) rfl hw) rfl (by omega) (by omega) ?_
                intro A' c' hl _
                simp -implicitDefEqProofs (disch := first | omega | decide) only [seval, -Int.reducePow, -Nat.reducePow, cC, pv, binv, eBox, g7, g8]
                exact ⟨A', n8 + 1, c', rfl, by rw [← hP2, exCells_snoc], by omega⟩
              · rw [if_neg (of_decide_eq_false hc)] at hP2
                refine cv_pick [1, 2] (by decide) ?_
                simp only [pickL, nth]
                refine cv_skip ?_
                try simp only [blockQ, thenQ]
                simp -implicitDefEqProofs (disch := first | omega | decide) only [seval, -Int.reducePow, -Nat.reducePow, cC, pv, binv, eBox, g7, g8]
                exact ⟨A8, n8, c8, rfl, by rw [← hP2, List.append_nil], by omega⟩
            · intro G9 L' _ hF
              obtain ⟨A9, n9, c9, q0, q6, q7, rfl, h9⟩ := hF
              have g9_0 := q0.trans g7_0
              have g9_6 := q6.trans g7_6
              have g9_7 := q7
              clear q0 q6 q7
              have g9 := And.intro g9_0 (And.intro g9_6 g9_7)
              refine hK _ _ ?_
              clear hK K
              have hi1 : ((i : Int) + 1).toNat = i + 1 := by omega
              have hw1 : IntKind.i64.wrap ((i : Int) + 1) = (i : Int) + 1 := wrap_in (by omega) (by omega)
              refine cv_seq_k fun K hK => ?_
              refine cv_region_then rfl ?_
              simp -implicitDefEqProofs (disch := first | omega | decide) only [seval, -Int.reducePow, -Nat.reducePow, cC, pv, binv, eBox, hw1, hi1, g9]
              refine appV_at 0 tap29 rfl (fun w hw => ((hE.at hw).drop (k := i + 1) (by omega)).reads) (ones_exCells _) (by omega) (by omega) ?_
              intro A' c' hl _
              simp -implicitDefEqProofs (disch := first | omega | decide) only [seval, -Int.reducePow, -Nat.reducePow, cC, pv, binv, eBox, g9]
              refine hK _ _ ?_
              clear hK K
              refine cv_ret ⟨_, (by simp -implicitDefEqProofs (disch := first | omega | decide) only [seval, -Int.reducePow, -Nat.reducePow, cC, pv, binv, eBox, g9]; rfl), fun w hw => ?_⟩
              have e5 : exCells (xs.take i ++ (Ex.remParts x e ++ xs.drop (i + 1))) = exCells (xs.take i ++ P1 ++ P2) ++ exCells (xs.drop (i + 1)) := by rw [hPP]; simp [exCells]
              exact ⟨A', _, c', by rw [hF], by rw [hF]; dsimp only; rw [e5]; exact ownsRow_new (hw.holds _ (.head _)) (hw.own _ (.head _)), hw.below⟩
end Go.Proofs.Ytejogdielfgeoaa
/- The contract of Complement. -/
namespace Go.Proofs.Ytejogdielfgeoaa
open Go.RowKit Go.Shelf
set_option linter.unusedVariables false
set_option linter.unusedSimpArgs false
set_option maxRecDepth 100000

namespace Ex
/-- Where the k-th gap may begin. -/
def cAt (xs : List Ext) : Nat → Int
  | 0 => 0
  | k + 1 => (get xs k).end_
def gapAt (xs : List Ext) (k : Nat) : List Ext := if cAt xs k < (get xs k).off then [⟨cAt xs k, (get xs k).off - cAt xs k⟩] else []
def cOut (xs : List Ext) (k : Nat) : List Ext := (List.range k).flatMap (gapAt xs)
theorem cOut_succ (xs : List Ext) (k : Nat) : cOut xs (k + 1) = cOut xs k ++ gapAt xs k := by simp [cOut, List.range_succ]
/-- Complement: the gaps below size and the error's code. -/
def cBad (xs : List Ext) (s : Int) : Bool := !vldB xs || decide (s < 0) || decide (1048576 < s) || (decide (0 < xs.length) && decide (s < (get xs (xs.length - 1)).end_))
def compF (xs : List Ext) (s : Int) : List Ext × Int := if cBad xs s then ([], 1) else (cOut (xs ++ [⟨s, 0⟩]) (xs.length + 1), 0)
theorem get_app {xs ys : List Ext} {i : Nat} (h : i < xs.length) : get (xs ++ ys) i = get xs i := by
  unfold get
  rw [List.getD_eq_getElem?_getD, List.getD_eq_getElem?_getD, List.getElem?_append_left h]
theorem get_last (xs : List Ext) (x : Ext) : get (xs ++ [x]) xs.length = x := by
  unfold get
  rw [List.getD_eq_getElem?_getD]
  simp
theorem cAt_app {xs ys : List Ext} {k : Nat} (h : k ≤ xs.length) : cAt (xs ++ ys) k = cAt xs k := by
  cases k with
  | zero => rfl
  | succ k => show (get (xs ++ ys) k).end_ = (get xs k).end_; rw [get_app (by omega)]
theorem cOut_app {xs ys : List Ext} : ∀ {k : Nat}, k ≤ xs.length → cOut (xs ++ ys) k = cOut xs k
  | 0, _ => rfl
  | k + 1, h => by rw [cOut_succ, cOut_succ, cOut_app (by omega)]; unfold gapAt; rw [cAt_app (by omega), get_app (by omega)]
theorem compF_len (xs : List Ext) (s : Int) : (compF xs s).1.length ≤ xs.length + 1 := by
  have key : ∀ (ys : List Ext) k, (cOut ys k).length ≤ k := by
    intro ys k
    induction k with
    | zero => simp [cOut]
    | succ k ih =>
      rw [cOut_succ, List.length_append]
      unfold gapAt
      split <;> simp <;> omega
  unfold compF
  split
  · simp
  · exact key _ _
theorem cAt_bd {xs : List Ext} (hv : vld xs) {k : Nat} (hk : k ≤ xs.length) : 0 ≤ cAt xs k ∧ cAt xs k ≤ 1048576 := by
  cases k with
  | zero => exact ⟨Int.le_refl 0, show (0 : Int) ≤ 1048576 by omega⟩
  | succ k =>
    have : 0 ≤ (get xs k).off ∧ 0 < (get xs k).len ∧ (get xs k).off + (get xs k).len ≤ 1048576 := (hv k (by omega)).1
    show 0 ≤ (get xs k).off + (get xs k).len ∧ (get xs k).off + (get xs k).len ≤ 1048576
    omega
end Ex
theorem exCells_two : ∀ (xs : List Ext) (i : Nat), i < xs.length → ((exCells xs).drop (i * 2)).take 2 = [.int .i64 (Ex.get xs i).off, .int .i64 (Ex.get xs i).len]
  | x :: xs, 0, _ => rfl
  | x :: xs, i + 1, h => by
    have := exCells_two xs i (by simpa using h)
    rw [show (i + 1) * 2 = i * 2 + 2 by omega]
    exact this

set_option maxHeartbeats 2000000 in
theorem complement_any (A : Option Addr) (n c : Nat) (xs : List Ext) (s : Int) (W : World) (hE : Exts W W.heap.size A n c xs) (hn : n ≤ 1000) :
    Calls Try.prog 25 #[.slice A n c, .int .i64 s] W (rowPost 39 2 (fun v => .tuple #[v, .int .i64 (Ex.compF xs s).2]) (exCells (Ex.compF xs s).1) W) := by
  refine calls_cv (M := []) (n := 65) [.tmp 4, .tmp 5] rfl Try.func25 rfl rfl (Nat.le_of_ble_eq_true rfl) (St.nil _ _) ?_
  refine cv_seq_k fun K hK => ?_
  refine cv_region_then rfl ?_
  simp -implicitDefEqProofs (disch := first | omega | decide) only [seval, -Int.reducePow, -Nat.reducePow, cC, pv, binv, eBox, undef]
  refine hK _ _ ?_
  clear hK K
  refine cv_gen fun G1 hG => ?_
  have g1_0 := congrFun hG 0
  have g1_1 := congrFun hG 1
  clear hG
  try simp -implicitDefEqProofs (disch := first | omega | decide) only [seval, -Int.reducePow, -Nat.reducePow, cC, pv, binv, eBox, undef] at g1_0 g1_1
  have g1 := And.intro g1_0 g1_1
  refine cv_seq_k fun K hK => ?_
  refine cv_seq_k fun K hK => ?_
  refine cv_cut (fun _ _ => True) (fun F' L' => F' 0 = G1 0 ∧ F' 1 = G1 1 ∧ F' 36 = .bool (Ex.cBad xs s) ∧ L' = []) ?_ ?_
  · cases hvb : Ex.vldB xs
    · refine cv_region_then rfl ?_
      simp -implicitDefEqProofs (disch := first | omega | decide) only [seval, -Int.reducePow, -Nat.reducePow, cC, pv, binv, eBox, undef, g1]
      refine callV_ret (fun w hw => valid_any A n c xs w (hE.at hw)) ?_
      try simp -implicitDefEqProofs (disch := first | omega | decide) only [seval, -Int.reducePow, -Nat.reducePow, cC, pv, binv, eBox, undef, hvb, g1]
      all_goals (first | (simp [Ex.cBad, hvb]; done) | (simp [Ex.cBad, hvb]; omega))
    · have hv := (Ex.vldB_iff xs).1 hvb
      have hl := hE.len
      by_cases hpos : 0 < n
      · obtain ⟨b0, off, rfl, hb0, -⟩ := hE.cells (by omega)
        obtain ⟨j, rfl⟩ : ∃ j, n = j + 1 := ⟨n - 1, by omega⟩
        have hlt' : (0 : Int) < ((j + 1 : Nat) : Int) := by omega
        have hj : IntKind.i64.wrap (((j + 1 : Nat) : Int) - 1) = (j : Int) := by rw [wrap_in (by omega) (by omega)]; omega
        refine cv_region_then rfl ?_
        simp -implicitDefEqProofs (disch := first | omega | decide) only [seval, -Int.reducePow, -Nat.reducePow, cC, pv, binv, eBox, undef, g1]
        refine callV_ret (fun w hw => valid_any _ _ c xs w (hE.at hw)) ?_
        try simp -implicitDefEqProofs (disch := first | omega | decide) only [seval, -Int.reducePow, -Nat.reducePow, cC, pv, binv, eBox, undef, hvb, hlt', hj, g1]
        repeat' ((first | refine vcg_cases (fun hg => ?_) (fun hg => ?_) | refine vdg_cases (fun hg => ?_) (fun hg => ?_)) <;> ((try simp only [Bool.not_eq_true', Bool.not_eq_false', decide_eq_true_eq, decide_eq_false_iff_not] at hg); (try simp -implicitDefEqProofs (disch := first | omega | decide) only [seval, -Int.reducePow, -Nat.reducePow, cC, pv, binv, eBox, undef, hg, hlt', hj, g1])))
        refine ⟨_, hE.ld (show j < j + 1 by omega), fun tok htok => ?_⟩
        subst htok
        simp -implicitDefEqProofs (disch := first | omega | decide) only [seval, -Int.reducePow, -Nat.reducePow, cC, pv, binv, eBox, undef, g1]
        refine callV_ret (fun w hw => end_prop (Ex.get xs j) w (vld_prop hv (by omega))) ?_
        try simp -implicitDefEqProofs (disch := first | omega | decide) only [seval, -Int.reducePow, -Nat.reducePow, cC, pv, binv, eBox, undef, g1]
        all_goals (first | (simp [Ex.cBad, hvb, hl]; done) | (simp [Ex.cBad, hvb, hl]; omega))
      · have hlt' : ¬ (0 : Int) < (n : Int) := by omega
        refine cv_region_then rfl ?_
        simp -implicitDefEqProofs (disch := first | omega | decide) only [seval, -Int.reducePow, -Nat.reducePow, cC, pv, binv, eBox, undef, g1]
        refine callV_ret (fun w hw => valid_any _ _ c xs w (hE.at hw)) ?_
        try simp -implicitDefEqProofs (disch := first | omega | decide) only [seval, -Int.reducePow, -Nat.reducePow, cC, pv, binv, eBox, undef, hvb, hlt', g1]
        repeat' ((first | refine vcg_cases (fun hg => ?_) (fun hg => ?_) | refine vdg_cases (fun hg => ?_) (fun hg => ?_)) <;> ((try simp only [Bool.not_eq_true', Bool.not_eq_false', decide_eq_true_eq, decide_eq_false_iff_not] at hg); (try simp -implicitDefEqProofs (disch := first | omega | decide) only [seval, -Int.reducePow, -Nat.reducePow, cC, pv, binv, eBox, undef, hg, hlt', g1])))
        all_goals (first | (simp [Ex.cBad, hvb, hl]; done) | (simp [Ex.cBad, hvb, hl]; omega))
  · intro G2 L' _ hF
    obtain ⟨q0, q1, q36, rfl⟩ := hF
    have g2_0 := q0.trans g1_0
    have g2_1 := q1.trans g1_1
    have g2_36 := q36
    clear q0 q1 q36
    have g2 := And.intro g2_0 (And.intro g2_1 g2_36)
    refine hK _ _ ?_
    clear hK K
    refine cv_cond ?_
    simp -implicitDefEqProofs (disch := first | omega | decide) only [seval, -Int.reducePow, -Nat.reducePow, cC, pv, binv, eBox, undef, g2]
    refine ⟨fun hc => ?_, fun hc => ?_⟩
    · refine cv_seq_k fun K hK => ?_
      refine cv_region_then rfl ?_
      simp -implicitDefEqProofs (disch := first | omega | decide) only [seval, -Int.reducePow, -Nat.reducePow, cC, pv, binv, eBox, undef, g2]
      refine hK _ _ ?_
      clear hK K
      refine cv_ret ⟨_, (by simp -implicitDefEqProofs (disch := first | omega | decide) only [seval, -Int.reducePow, -Nat.reducePow, cC, pv, binv, eBox, undef, g2]; rfl), fun w hw => ?_⟩
      have hF : Ex.compF xs s = ([], 1) := by unfold Ex.compF; rw [hc]; rfl
      exact ⟨none, 0, 0, by rw [hF], by rw [hF]; exact World.ownsRow_nil _ _ _ _, hw.below⟩
    · refine cv_skip ?_
      try simp only [blockQ, thenQ]
      have hF : Ex.compF xs s = (Ex.cOut (xs ++ [⟨s, 0⟩]) (n + 1), 0) := by unfold Ex.compF; rw [hc, hE.len]; rfl
      simp only [Ex.cBad, Bool.or_eq_false_iff, Bool.not_eq_false', decide_eq_false_iff_not] at hc
      obtain ⟨⟨⟨hv, hs0⟩, hs1⟩, -⟩ := hc
      have hv := (Ex.vldB_iff xs).1 hv
      have hl := hE.len
      refine hK _ _ ?_
      clear hK K
      refine cv_seq_k fun K hK => ?_
      refine cv_region_then rfl ?_
      simp -implicitDefEqProofs (disch := first | omega | decide) only [seval, -Int.reducePow, -Nat.reducePow, cC, pv, binv, eBox, undef, g2]
      refine hK _ _ ?_
      clear hK K
      refine cv_seq_k fun K hK => ?_
      refine cv_region_then rfl ?_
      simp -implicitDefEqProofs (disch := first | omega | decide) only [seval, -Int.reducePow, -Nat.reducePow, cC, pv, binv, eBox, undef, g2]
      refine hK _ _ ?_
      clear hK K
      refine cv_gen fun G3 hG => ?_
      have g3_0 := congrFun hG 0
      have g3_1 := congrFun hG 1
      have g3_6 := congrFun hG 6
      have g3_7 := congrFun hG 7
      clear hG
      try simp -implicitDefEqProofs (disch := first | omega | decide) only [seval, -Int.reducePow, -Nat.reducePow, cC, pv, binv, eBox, undef, g2] at g3_0 g3_1 g3_6 g3_7
      have g3 := And.intro g3_0 (And.intro g3_1 (And.intro g3_6 g3_7))
      refine cv_nil 39 2 ?_
      refine cv_seq_k fun K hK => ?_
      refine cv_seq_k fun K hK => ?_
      refine cv_region_then rfl ?_
      simp -implicitDefEqProofs (disch := first | omega | decide) only [seval, -Int.reducePow, -Nat.reducePow, cC, pv, binv, eBox, undef, g3]
      refine callV_row (fun A' n' c' => .slice A' n' c') (fun w hw => clone_ext A n c xs w (hE.at hw) (by omega)) ?_
      intro A1 n1 c1 hl1 hr1
      have hn1 : n1 = n := by have := cells_len hl1; omega
      rw [hn1] at hl1 hr1 ⊢
      clear hn1
      simp -implicitDefEqProofs (disch := first | omega | decide) only [seval, -Int.reducePow, -Nat.reducePow, cC, pv, binv, eBox, undef, g3]
      intro b1 hb1
      refine appV_at 1 tap29 rfl (fun w hw => src_blk (size := 2) (.head _) rfl hw) rfl (by omega) (by omega) ?_
      intro A2 c2 hl2 hr2
      simp -implicitDefEqProofs (disch := first | omega | decide) only [seval, -Int.reducePow, -Nat.reducePow, cC, pv, binv, eBox, undef, g3]
      refine hK _ _ ?_
      clear hK K
      rw [← exCells_snoc xs ⟨s, 0⟩] at hl2 ⊢
      obtain ⟨ys, hys⟩ : ∃ ys, ys = xs ++ [⟨s, 0⟩] := ⟨_, rfl⟩
      rw [← hys] at hl2 ⊢
      rw [← hys] at hF
      have hyl : ys.length = n + 1 := by rw [hys, List.length_append, hl]; rfl
      have hyg : ∀ i, i < n → Ex.get ys i = Ex.get xs i := fun i hi => by rw [hys]; exact Ex.get_app (by omega)
      have hyn : Ex.get ys n = ⟨s, 0⟩ := by rw [hys, ← hl]; exact Ex.get_last _ _
      have hyb : ∀ i, i < n + 1 → 0 ≤ (Ex.get ys i).off ∧ 0 ≤ (Ex.get ys i).len ∧ (Ex.get ys i).off + (Ex.get ys i).len ≤ 1048576 := fun i hi => by
        by_cases h : i < n
        · have : 0 ≤ (Ex.get xs i).off ∧ 0 < (Ex.get xs i).len ∧ (Ex.get xs i).off + (Ex.get xs i).len ≤ 1048576 := vld_prop hv (by omega)
          rw [hyg i h]
          omega
        · have : i = n := by omega
          rw [this, hyn]
          dsimp only
          omega
      have hyc : ∀ i, i ≤ n + 1 → 0 ≤ Ex.cAt ys i ∧ Ex.cAt ys i ≤ 1048576 := fun i hi => by
        cases i with
        | zero => exact ⟨Int.le_refl 0, show (0 : Int) ≤ 1048576 by omega⟩
        | succ i =>
          have := hyb i (by omega)
          show 0 ≤ (Ex.get ys i).off + (Ex.get ys i).len ∧ (Ex.get ys i).off + (Ex.get ys i).len ≤ 1048576
          omega
      rcases hr2 with ⟨-, h⟩ | ⟨g, rfl, hg, hgn⟩
      · omega
      refine cv_pick [2, 0] (by decide) ?_
      simp only [pickL, nth]
      refine cv_gen fun G4 hG => ?_
      have g4_6 := congrFun hG 6
      have g4_7 := congrFun hG 7
      have g4_42 := congrFun hG 42
      have g4_43 := congrFun hG 43
      have g4_44 := congrFun hG 44
      clear hG
      try simp -implicitDefEqProofs (disch := first | omega | decide) only [seval, -Int.reducePow, -Nat.reducePow, cC, pv, binv, eBox, undef, g3] at g4_6 g4_7 g4_42 g4_43 g4_44
      have g4 := And.intro g4_6 (And.intro g4_7 (And.intro g4_42 (And.intro g4_43 g4_44)))
      refine cv_block ?_
      refine cv_loop (fun F' L' => ∃ (k : Nat) (A6 : Option Addr) (n6 c6 : Nat), F' 6 = .slice A6 n6 c6 ∧ F' 7 = .int .i64 (Ex.cAt ys k) ∧ F' 42 = G4 42 ∧ F' 43 = G4 43 ∧ F' 44 = .int .i64 (k : Int) ∧ L' = [.row (.slice A6 n6 c6) 39 2 n6 (exCells (Ex.cOut ys k)), .row (.slice (some ⟨g, 0, none⟩) (n + 1) c2) 39 2 (n + 1) (exCells ys)] ∧ k ≤ n + 1 ∧ n6 ≤ k) (fun F' L' => n + 1 - (intOf (F' 44)).toNat) ?_ ?_
      · refine ⟨0, none, 0, 0, ?_⟩
        have z1 : Ex.cAt ys 0 = 0 := rfl
        have z2 : Ex.cOut ys 0 = [] := rfl
        simp -implicitDefEqProofs (disch := first | omega | decide) only [seval, -Int.reducePow, -Nat.reducePow, cC, pv, binv, eBox, undef, z1, z2, g4]
        rfl
      · intro G5 L' hI
        obtain ⟨k, A6, n6, c6, q6, q7, q42, q43, q44, rfl, ⟨hk, h6⟩⟩ := hI
        have g5_6 := q6
        have g5_7 := q7
        have g5_42 := q42.trans g4_42
        have g5_43 := q43.trans g4_43
        have g5_44 := q44
        clear q6 q7 q42 q43 q44
        have g5 := And.intro g5_6 (And.intro g5_7 (And.intro g5_42 (And.intro g5_43 g5_44)))
        refine cv_seq_k fun K hK => ?_
        refine cv_region_then rfl ?_
        simp -implicitDefEqProofs (disch := first | omega | decide) only [seval, -Int.reducePow, -Nat.reducePow, cC, pv, binv, eBox, undef, g4, g5]
        refine hK _ _ ?_
        clear hK K
        refine cv_seq_k fun K hK => ?_
        refine cv_cond ?_
        simp -implicitDefEqProofs (disch := first | omega | decide) only [seval, -Int.reducePow, -Nat.reducePow, cC, pv, binv, eBox, undef, g4, g5]
        refine ⟨fun hc => ?_, fun hc => ?_⟩
        · refine cv_skip ?_
          try simp only [blockQ, thenQ]
          have hlt : k < n + 1 := by have := of_decide_eq_true hc; omega
          obtain ⟨x, hx⟩ : ∃ x, Ex.get ys k = x := ⟨_, rfl⟩
          have hxb := hyb k hlt
          have hab := hyc k hk
          have hs1 := Ex.cOut_succ ys k
          have hs2 : Ex.cAt ys (k + 1) = x.off + x.len := by rw [← hx]; rfl
          have h22 := exCells_two ys k (by omega)
          unfold Ex.gapAt at hs1
          rw [hx] at hs1 hxb h22
          refine hK _ _ ?_
          clear hK K
          refine cv_seq_k fun K hK => ?_
          refine cv_cut (fun _ _ => True) (fun F' L' => ∃ (A6 : Option Addr) (n6 c6 : Nat), F' 6 = .slice A6 n6 c6 ∧ F' 7 = .int .i64 (Ex.cAt ys (k + 1)) ∧ F' 42 = G5 42 ∧ F' 43 = G5 43 ∧ F' 44 = G5 44 ∧ L' = [.row (.slice A6 n6 c6) 39 2 n6 (exCells (Ex.cOut ys (k + 1))), .row (.slice (some ⟨g, 0, none⟩) (n + 1) c2) 39 2 (n + 1) (exCells ys)] ∧ n6 ≤ k + 1) ?_ ?_
          · refine cv_block ?_
            refine cv_seq_k fun K hK => ?_
            refine cv_region_then rfl ?_
            simp -implicitDefEqProofs (disch := first | omega | decide) only [seval, -Int.reducePow, -Nat.reducePow, cC, pv, binv, eBox, undef, g4, g5]
            refine ⟨_, ld_row (i := k * 2) (vs := [.int .i64 x.off, .int .i64 x.len]) (.tail _ (.head _)) rfl h22, fun tok htok => ?_⟩
            subst htok
            simp -implicitDefEqProofs (disch := first | omega | decide) only [seval, -Int.reducePow, -Nat.reducePow, cC, pv, binv, eBox, undef, g4, g5]
            intro b9 hb9
            refine hK _ _ ?_
            clear hK K
            refine cv_gen fun G6 hG => ?_
            have g6_6 := congrFun hG 6
            have g6_7 := congrFun hG 7
            have g6_9 := congrFun hG 9
            have g6_42 := congrFun hG 42
            have g6_43 := congrFun hG 43
            have g6_44 := congrFun hG 44
            clear hG
            try simp -implicitDefEqProofs (disch := first | omega | decide) only [seval, -Int.reducePow, -Nat.reducePow, cC, pv, binv, eBox, undef, g4, g5] at g6_6 g6_7 g6_9 g6_42 g6_43 g6_44
            have g6 := And.intro g6_6 (And.intro g6_7 (And.intro g6_9 (And.intro g6_42 (And.intro g6_43 g6_44))))
            refine cv_seq_k fun K hK => ?_
            refine cv_cut (fun _ _ => True) (fun F' L' => ∃ (A8 : Option Addr) (n8 c8 : Nat), F' 6 = .slice A8 n8 c8 ∧ F' 9 = G6 9 ∧ F' 42 = G6 42 ∧ F' 43 = G6 43 ∧ F' 44 = G6 44 ∧ L' = [.row (.slice A8 n8 c8) 39 2 n8 (exCells (Ex.cOut ys (k + 1))), eBox b9 x, .row (.slice (some ⟨g, 0, none⟩) (n + 1) c2) 39 2 (n + 1) (exCells ys)] ∧ n8 ≤ n6 + 1) ?_ ?_
            · refine cv_seq_k fun K hK => ?_
              refine cv_region_then rfl ?_
              simp -implicitDefEqProofs (disch := first | omega | decide) only [seval, -Int.reducePow, -Nat.reducePow, cC, pv, binv, eBox, undef, g4, g5, g6]
              refine hK _ _ ?_
              clear hK K
              refine cv_cond ?_
              simp -implicitDefEqProofs (disch := first | omega | decide) only [seval, -Int.reducePow, -Nat.reducePow, cC, pv, binv, eBox, undef, g4, g5, g6]
              refine ⟨fun hc => ?_, fun hc => ?_⟩
              · rw [if_pos (of_decide_eq_true hc)] at hs1
                refine cv_pick_post [0, 2, 3] (by decide) ?_
                refine cv_region_q rfl ?_
                simp -implicitDefEqProofs (disch := first | omega | decide) only [seval, -Int.reducePow, -Nat.reducePow, cC, pv, binv, eBox, undef, wrap_in, g4, g5, g6]
                intro b5 hb5 h5
                refine appV_at 2 tap29 rfl (fun w hw => src_blk (size := 2) (.head _) rfl hw) rfl (by omega) (by omega) ?_
                intro A' c' hl _
                simp -implicitDefEqProofs (disch := first | omega | decide) only [seval, -Int.reducePow, -Nat.reducePow, cC, pv, binv, eBox, undef, g4, g5, g6]
                exact ⟨A', n6 + 1, c', rfl, by rw [hs1, exCells_snoc], by omega⟩
              · rw [if_neg (of_decide_eq_false hc)] at hs1
                refine cv_pick [1, 0, 2] (by decide) ?_
                simp only [pickL, nth]
                refine cv_skip ?_
                try simp only [blockQ, thenQ]
                simp -implicitDefEqProofs (disch := first | omega | decide) only [seval, -Int.reducePow, -Nat.reducePow, cC, pv, binv, eBox, undef, g4, g5, g6]
                exact ⟨A6, n6, c6, rfl, by rw [hs1, List.append_nil], by omega⟩
            · intro G7 L' _ hF
              obtain ⟨A8, n8, c8, q6, q9, q42, q43, q44, rfl, h8⟩ := hF
              have g7_6 := q6
              have g7_9 := q9.trans g6_9
              have g7_42 := q42.trans g6_42
              have g7_43 := q43.trans g6_43
              have g7_44 := q44.trans g6_44
              clear q6 q9 q42 q43 q44
              have g7 := And.intro g7_6 (And.intro g7_9 (And.intro g7_42 (And.intro g7_43 g7_44)))
              refine hK _ _ ?_
              clear hK K
              refine cv_pick_post [0, 2] (by decide) ?_
              refine cv_region_q rfl ?_
              simp -implicitDefEqProofs (disch := first | omega | decide) only [seval, -Int.reducePow, -Nat.reducePow, cC, pv, binv, eBox, undef, g4, g5, g7]
              refine callV_ret (fun w hw => end_any x.off x.len w (by omega) (by omega)) ?_
              try simp -implicitDefEqProofs (disch := first | omega | decide) only [seval, -Int.reducePow, -Nat.reducePow, cC, pv, binv, eBox, undef, g4, g5, g7]
              exact ⟨A8, n8, c8, rfl, by rw [hs2], rfl, by omega⟩
          · intro G8 L' _ hF
            obtain ⟨A6, n6, c6, q6, q7, q42, q43, q44, rfl, h6⟩ := hF
            have g8_6 := q6
            have g8_7 := q7
            have g8_42 := q42.trans g5_42
            have g8_43 := q43.trans g5_43
            have g8_44 := q44.trans g5_44
            clear q6 q7 q42 q43 q44
            have g8 := And.intro g8_6 (And.intro g8_7 (And.intro g8_42 (And.intro g8_43 g8_44)))
            refine hK _ _ ?_
            clear hK K
            refine cv_region_then rfl ?_
            simp -implicitDefEqProofs (disch := first | omega | decide) only [seval, -Int.reducePow, -Nat.reducePow, cC, pv, binv, eBox, undef, wrap_in, g4, g5, g8]
            refine ⟨⟨k + 1, A6, n6, c6, ?_⟩, ?_⟩
            · simp -implicitDefEqProofs (disch := first | omega | decide) only [seval, -Int.reducePow, -Nat.reducePow, cC, pv, binv, eBox, undef, Int.natCast_add, g4, g5, g8]
              omega
            · simp only [intOf]; omega
        · refine cv_exit ?_
          simp only [blockQ, thenQ, if_true, ite_true]
          clear hK K
          refine hK _ _ ?_
          clear hK K
          have hnk : n + 1 = k := by have := of_decide_eq_false hc; omega
          subst hnk
          refine cv_seq_k fun K hK => ?_
          refine cv_region_then rfl ?_
          simp -implicitDefEqProofs (disch := first | omega | decide) only [seval, -Int.reducePow, -Nat.reducePow, cC, pv, binv, eBox, undef, g4, g5]
          refine hK _ _ ?_
          clear hK K
          refine cv_ret ⟨_, (by simp -implicitDefEqProofs (disch := first | omega | decide) only [seval, -Int.reducePow, -Nat.reducePow, cC, pv, binv, eBox, undef, g4, g5]; rfl), fun w hw => ?_⟩
          exact ⟨A6, n6, c6, by rw [hF], by rw [hF]; exact ownsRow_new (hw.holds _ (.head _)) (hw.own _ (.head _)), hw.below⟩
end Go.Proofs.Ytejogdielfgeoaa
/- The contract of the reference's Complement. -/
namespace Go.Proofs.Ytejogdielfgeoaa
open Go.RowKit Go.Shelf
set_option linter.unusedVariables false
set_option linter.unusedSimpArgs false
set_option maxRecDepth 100000

namespace Ex
/-- Complement's answer, from the gaps of the set alone. -/
theorem compF_eq {xs : List Ext} {s : Int} (hv : vld xs) (h0 : 0 ≤ s) (h1 : s ≤ 1048576) (h : ∀ i, i < xs.length → (get xs i).end_ ≤ s) :
    compF xs s = (cOut xs xs.length ++ (if cAt xs xs.length < s then [⟨cAt xs xs.length, s - cAt xs xs.length⟩] else []), 0) := by
  have hb : cBad xs s = false := by
    unfold cBad
    rw [vldB_yes hv]
    by_cases hp : 0 < xs.length
    · have := h (xs.length - 1) (by omega)
      simp only [hp, Bool.not_true, Bool.false_or, decide_true, Bool.true_and, Bool.or_eq_false_iff, decide_eq_false_iff_not]
      omega
    · simp only [hp, Bool.not_true, Bool.false_or, decide_false, Bool.false_and, Bool.or_false, Bool.or_eq_false_iff, decide_eq_false_iff_not]
      omega
  unfold compF
  rw [hb, if_neg Bool.false_ne_true, cOut_succ, cOut_app (Nat.le_refl _)]
  unfold gapAt
  rw [cAt_app (Nat.le_refl _), get_last]
theorem compF_bad {xs : List Ext} {s : Int} (h : ¬ vld xs ∨ s < 0 ∨ 1048576 < s ∨ ∃ i, i < xs.length ∧ s < (get xs i).end_) : compF xs s = ([], 1) := by
  have hb : cBad xs s = true := by
    unfold cBad
    by_cases hv : vld xs
    · rcases h with h | h | h | ⟨i, hi, h⟩
      · exact absurd hv h
      · simp [h]
      · simp [h]
      · have := vld_le hv (show i ≤ xs.length - 1 by omega) (by omega)
        have h2 : s < (get xs (xs.length - 1)).end_ := by omega
        simp [h2, show 0 < xs.length by omega]
    · have : vldB xs = false := by
        rw [Bool.eq_false_iff]
        intro h
        exact hv ((vldB_iff xs).1 h)
      simp [this]
  unfold compF
  rw [hb]
  rfl
end Ex

set_option maxHeartbeats 2000000 in
theorem rcomplement_any (A : Option Addr) (n c : Nat) (xs : List Ext) (s : Int) (W : World) (hE : Exts W W.heap.size A n c xs) (hn : n ≤ 1000) (hR : ∀ i, i < n → -9223372036854775808 ≤ (Ex.get xs i).len ∧ (Ex.get xs i).len ≤ 9223372036854775807) :
    Calls Try.prog 22 #[.slice A n c, .int .i64 s] W (rowPost 39 2 (fun v => .tuple #[v, .int .i64 (Ex.compF xs s).2]) (exCells (Ex.compF xs s).1) W) := by
  have hl := hE.len
  refine calls_cv (M := []) (n := 81) [.tmp 4, .tmp 5] rfl Try.func22 rfl rfl (Nat.le_of_ble_eq_true rfl) (St.nil _ _) ?_
  refine cv_seq_k fun K hK => ?_
  refine cv_region_then rfl ?_
  simp -implicitDefEqProofs (disch := first | omega | decide) only [seval, -Int.reducePow, -Nat.reducePow, cC, pv, binv, eBox, undef]
  refine hK _ _ ?_
  clear hK K
  refine cv_gen fun G1 hG => ?_
  have g1_0 := congrFun hG 0
  have g1_1 := congrFun hG 1
  clear hG
  try simp -implicitDefEqProofs (disch := first | omega | decide) only [seval, -Int.reducePow, -Nat.reducePow, cC, pv, binv, eBox, undef] at g1_0 g1_1
  have g1 := And.intro g1_0 g1_1
  refine cv_seq_k fun K hK => ?_
  refine cv_seq_k fun K hK => ?_
  refine cv_cut (fun _ _ => True) (fun F' L' => F' 0 = G1 0 ∧ F' 1 = G1 1 ∧ F' 19 = .bool (!Ex.vldB xs || decide (s < 0) || decide (1048576 < s)) ∧ L' = []) ?_ ?_
  · refine cv_region_then rfl ?_
    simp -implicitDefEqProofs (disch := first | omega | decide) only [seval, -Int.reducePow, -Nat.reducePow, cC, pv, binv, eBox, undef, g1]
    refine callV_ret (fun w hw => rvalid_any A n c xs w (hE.at hw) hR) ?_
    try simp -implicitDefEqProofs (disch := first | omega | decide) only [seval, -Int.reducePow, -Nat.reducePow, cC, pv, binv, eBox, undef, g1]
    repeat' ((first | refine vcg_cases (fun hg => ?_) (fun hg => ?_) | refine vdg_cases (fun hg => ?_) (fun hg => ?_)) <;> ((try simp only [Bool.not_eq_true', Bool.not_eq_false', decide_eq_true_eq, decide_eq_false_iff_not] at hg); (try simp -implicitDefEqProofs (disch := first | omega | decide) only [seval, -Int.reducePow, -Nat.reducePow, cC, pv, binv, eBox, undef, hg, g1])))
    all_goals (first | (simp [hg]; done) | (simp [hg]; omega))
  · intro G2 L' _ hF
    obtain ⟨q0, q1, q19, rfl⟩ := hF
    have g2_0 := q0.trans g1_0
    have g2_1 := q1.trans g1_1
    have g2_19 := q19
    clear q0 q1 q19
    have g2 := And.intro g2_0 (And.intro g2_1 g2_19)
    refine hK _ _ ?_
    clear hK K
    refine cv_cond ?_
    simp -implicitDefEqProofs (disch := first | omega | decide) only [seval, -Int.reducePow, -Nat.reducePow, cC, pv, binv, eBox, undef, g2]
    refine ⟨fun hc => ?_, fun hc => ?_⟩
    · refine cv_seq_k fun K hK => ?_
      refine cv_region_then rfl ?_
      simp -implicitDefEqProofs (disch := first | omega | decide) only [seval, -Int.reducePow, -Nat.reducePow, cC, pv, binv, eBox, undef, g2]
      refine hK _ _ ?_
      clear hK K
      refine cv_ret ⟨_, (by simp -implicitDefEqProofs (disch := first | omega | decide) only [seval, -Int.reducePow, -Nat.reducePow, cC, pv, binv, eBox, undef, g2]; rfl), fun w hw => ?_⟩
      have hF : Ex.compF xs s = ([], 1) := by
        refine Ex.compF_bad ?_
        rw [← Ex.vldB_iff]
        simp only [Bool.or_eq_true, Bool.not_eq_true', decide_eq_true_eq] at hc
        rcases hc with (h | h) | h
        · left; rw [h]; simp
        · exact .inr (.inl h)
        · exact .inr (.inr (.inl h))
      exact ⟨none, 0, 0, by rw [hF], by rw [hF]; exact World.ownsRow_nil _ _ _ _, hw.below⟩
    · refine cv_skip ?_
      try simp only [blockQ, thenQ]
      simp only [Bool.or_eq_false_iff, Bool.not_eq_false', decide_eq_false_iff_not] at hc
      obtain ⟨⟨hv, hs0⟩, hs1⟩ := hc
      have hv := (Ex.vldB_iff xs).1 hv
      refine hK _ _ ?_
      clear hK K
      refine cv_seq_k fun K hK => ?_
      refine cv_region_then rfl ?_
      simp -implicitDefEqProofs (disch := first | omega | decide) only [seval, -Int.reducePow, -Nat.reducePow, cC, pv, binv, eBox, undef, g2]
      refine hK _ _ ?_
      clear hK K
      refine cv_seq_k fun K hK => ?_
      refine cv_region_then rfl ?_
      simp -implicitDefEqProofs (disch := first | omega | decide) only [seval, -Int.reducePow, -Nat.reducePow, cC, pv, binv, eBox, undef, g2]
      refine hK _ _ ?_
      clear hK K
      refine cv_seq_k fun K hK => ?_
      refine cv_seq_k fun K hK => ?_
      refine cv_region_then rfl ?_
      simp -implicitDefEqProofs (disch := first | omega | decide) only [seval, -Int.reducePow, -Nat.reducePow, cC, pv, binv, eBox, undef, g2]
      refine hK _ _ ?_
      clear hK K
      refine cv_gen fun G3 hG => ?_
      have g3_0 := congrFun hG 0
      have g3_1 := congrFun hG 1
      have g3_6 := congrFun hG 6
      have g3_7 := congrFun hG 7
      have g3_8 := congrFun hG 8
      clear hG
      try simp -implicitDefEqProofs (disch := first | omega | decide) only [seval, -Int.reducePow, -Nat.reducePow, cC, pv, binv, eBox, undef, g2] at g3_0 g3_1 g3_6 g3_7 g3_8
      have g3 := And.intro g3_0 (And.intro g3_1 (And.intro g3_6 (And.intro g3_7 g3_8)))
      refine cv_nil 39 2 ?_
      refine cv_block ?_
      refine cv_loop (fun F' L' => ∃ (k : Nat) (A6 : Option Addr) (n6 c6 : Nat), F' 0 = G3 0 ∧ F' 1 = G3 1 ∧ F' 6 = .slice A6 n6 c6 ∧ F' 7 = .int .i64 (Ex.cAt xs k) ∧ F' 8 = .int .i64 (k : Int) ∧ L' = [.row (.slice A6 n6 c6) 39 2 n6 (exCells (Ex.cOut xs k))] ∧ k ≤ n ∧ n6 ≤ k ∧ ∀ i, i < k → (Ex.get xs i).end_ ≤ s) (fun F' L' => n - (intOf (F' 8)).toNat) ?_ ?_
      · refine ⟨0, none, 0, 0, ?_⟩
        have z1 : Ex.cAt xs 0 = 0 := rfl
        have z2 : Ex.cOut xs 0 = [] := rfl
        simp -implicitDefEqProofs (disch := first | omega | decide) only [seval, -Int.reducePow, -Nat.reducePow, cC, pv, binv, eBox, undef, z1, z2, g3]
        exact ⟨rfl, by omega, by omega⟩
      · intro G4 L' hI
        obtain ⟨k, A6, n6, c6, q0, q1, q6, q7, q8, rfl, ⟨hk, h6, hle⟩⟩ := hI
        have g4_0 := q0.trans g3_0
        have g4_1 := q1.trans g3_1
        have g4_6 := q6
        have g4_7 := q7
        have g4_8 := q8
        clear q0 q1 q6 q7 q8
        have g4 := And.intro g4_0 (And.intro g4_1 (And.intro g4_6 (And.intro g4_7 g4_8)))
        refine cv_seq_k fun K hK => ?_
        refine cv_seq_k fun K hK => ?_
        refine cv_region_then rfl ?_
        simp -implicitDefEqProofs (disch := first | omega | decide) only [seval, -Int.reducePow, -Nat.reducePow, cC, pv, binv, eBox, undef, g3, g4]
        refine hK _ _ ?_
        clear hK K
        refine cv_cond ?_
        simp -implicitDefEqProofs (disch := first | omega | decide) only [seval, -Int.reducePow, -Nat.reducePow, cC, pv, binv, eBox, undef, g3, g4]
        refine ⟨fun hc => ?_, fun hc => ?_⟩
        · refine cv_skip ?_
          try simp only [blockQ, thenQ]
          have hlt : k < n := by have := of_decide_eq_true hc; omega
          obtain ⟨b0, off, rfl, hb0, -⟩ := hE.cells (by omega)
          obtain ⟨x, hx⟩ : ∃ x, Ex.get xs k = x := ⟨_, rfl⟩
          have hxb : 0 ≤ x.off ∧ 0 < x.len ∧ x.off + x.len ≤ 1048576 := by rw [← hx]; exact vld_prop hv (by omega)
          have hab := Ex.cAt_bd hv (show k ≤ xs.length by omega)
          have hS1 := Ex.cOut_succ xs k
          have hS2 : Ex.cAt xs (k + 1) = x.off + x.len := by rw [← hx]; rfl
          unfold Ex.gapAt at hS1
          rw [hx] at hS1
          refine hK _ _ ?_
          clear hK K
          refine cv_seq_k fun K hK => ?_
          refine cv_cut (fun _ _ => True) (fun F' L' => ∃ (A6 : Option Addr) (n6 c6 : Nat), F' 0 = G4 0 ∧ F' 1 = G4 1 ∧ F' 6 = .slice A6 n6 c6 ∧ F' 7 = .int .i64 (Ex.cAt xs (k + 1)) ∧ F' 8 = G4 8 ∧ L' = [.row (.slice A6 n6 c6) 39 2 n6 (exCells (Ex.cOut xs (k + 1)))] ∧ n6 ≤ k + 1 ∧ x.off + x.len ≤ s) ?_ ?_
          · refine cv_block ?_
            refine cv_seq_k fun K hK => ?_
            refine cv_seq_k fun K hK => ?_
            refine cv_draw [(true, 0), (true, 1), (true, 2), (true, 3), (true, 4), (true, 5), (true, 6), (true, 7), (true, 8), (true, 9), (true, 10), (true, 11), (true, 12)] [] mixA rfl (by kernel_rfl) (by kernel_rfl) rfl rfl ?_
            simp -implicitDefEqProofs (disch := first | omega | decide) only [seval, -Int.reducePow, -Nat.reducePow, cC, pv, binv, eBox, undef, g3, g4]
            refine ⟨_, hE.ld0 hlt, fun tok htok => ?_⟩
            subst htok
            simp -implicitDefEqProofs (disch := first | omega | decide) only [seval, -Int.reducePow, -Nat.reducePow, cC, pv, binv, eBox, undef, g3, g4]
            refine ⟨_, hE.ld1 hlt, fun tok htok => ?_⟩
            subst htok
            simp -implicitDefEqProofs (disch := first | omega | decide) only [seval, -Int.reducePow, -Nat.reducePow, cC, pv, binv, eBox, undef, wrap_in, g3, g4]
            rw [hx]
            refine hK _ _ ?_
            clear hK K
            refine cv_cond ?_
            simp -implicitDefEqProofs (disch := first | omega | decide) only [seval, -Int.reducePow, -Nat.reducePow, cC, pv, binv, eBox, undef, wrap_in, g3, g4]
            refine ⟨fun hc => ?_, fun hc => ?_⟩
            · have hcs : s < x.off + x.len := by simpa [wrap_in (show -9223372036854775808 ≤ x.off + x.len by omega) (show x.off + x.len ≤ 9223372036854775807 by omega)] using hc
              refine cv_seq_k fun K hK => ?_
              refine cv_region_then rfl ?_
              simp -implicitDefEqProofs (disch := first | omega | decide) only [seval, -Int.reducePow, -Nat.reducePow, cC, pv, binv, eBox, undef, g3, g4]
              refine hK _ _ ?_
              clear hK K
              refine cv_ret ⟨_, (by simp -implicitDefEqProofs (disch := first | omega | decide) only [seval, -Int.reducePow, -Nat.reducePow, cC, pv, binv, eBox, undef, g3, g4]; rfl), fun w hw => ?_⟩
              have hF : Ex.compF xs s = ([], 1) := Ex.compF_bad (.inr (.inr (.inr ⟨k, by omega, by rw [hx]; exact hcs⟩)))
              exact ⟨none, 0, 0, by rw [hF], by rw [hF]; exact World.ownsRow_nil _ _ _ _, hw.below⟩
            · have hcs : ¬ s < x.off + x.len := by simpa [wrap_in (show -9223372036854775808 ≤ x.off + x.len by omega) (show x.off + x.len ≤ 9223372036854775807 by omega)] using hc
              refine cv_skip ?_
              try simp only [blockQ, thenQ]
              refine hK _ _ ?_
              clear hK K
              refine cv_gen fun G5 hG => ?_
              have g5_0 := congrFun hG 0
              have g5_1 := congrFun hG 1
              have g5_6 := congrFun hG 6
              have g5_7 := congrFun hG 7
              have g5_8 := congrFun hG 8
              clear hG
              try simp -implicitDefEqProofs (disch := first | omega | decide) only [seval, -Int.reducePow, -Nat.reducePow, cC, pv, binv, eBox, undef, g3, g4] at g5_0 g5_1 g5_6 g5_7 g5_8
              have g5 := And.intro g5_0 (And.intro g5_1 (And.intro g5_6 (And.intro g5_7 g5_8)))
              refine cv_seq_k fun K hK => ?_
              refine cv_cut (fun _ _ => True) (fun F' L' => ∃ (A8 : Option Addr) (n8 c8 : Nat), F' 0 = G5 0 ∧ F' 1 = G5 1 ∧ F' 6 = .slice A8 n8 c8 ∧ F' 8 = G5 8 ∧ L' = [.row (.slice A8 n8 c8) 39 2 n8 (exCells (Ex.cOut xs (k + 1)))] ∧ n8 ≤ n6 + 1) ?_ ?_
              · refine cv_seq_k fun K hK => ?_
                refine cv_region_then rfl ?_
                simp -implicitDefEqProofs (disch := first | omega | decide) only [seval, -Int.reducePow, -Nat.reducePow, cC, pv, binv, eBox, undef, g3, g4, g5]
                refine ⟨_, hE.ld0 hlt, fun tok htok => ?_⟩
                subst htok
                simp -implicitDefEqProofs (disch := first | omega | decide) only [seval, -Int.reducePow, -Nat.reducePow, cC, pv, binv, eBox, undef, g3, g4, g5]
                rw [hx]
                refine hK _ _ ?_
                clear hK K
                refine cv_cond ?_
                simp -implicitDefEqProofs (disch := first | omega | decide) only [seval, -Int.reducePow, -Nat.reducePow, cC, pv, binv, eBox, undef, g3, g4, g5]
                refine ⟨fun hc => ?_, fun hc => ?_⟩
                · rw [if_pos (of_decide_eq_true hc)] at hS1
                  refine cv_pick_post [0] (by decide) ?_
                  refine cv_region_q rfl ?_
                  simp -implicitDefEqProofs (disch := first | omega | decide) only [seval, -Int.reducePow, -Nat.reducePow, cC, pv, binv, eBox, undef, g3, g4, g5]
                  refine ⟨_, hE.ld0 hlt, fun tok htok => ?_⟩
                  subst htok
                  simp -implicitDefEqProofs (disch := first | omega | decide) only [seval, -Int.reducePow, -Nat.reducePow, cC, pv, binv, eBox, undef, wrap_in, g3, g4, g5]
                  rw [hx]
                  simp -implicitDefEqProofs (disch := first | omega | decide) only [seval, -Int.reducePow, -Nat.reducePow, cC, pv, binv, eBox, undef, wrap_in, g3, g4, g5]
                  intro b5 hb5
                  refine appV_at 1 tap29 rfl (fun w hw => src_blk (size := 2) (.head _) rfl hw) rfl (by omega) (by omega) ?_
                  intro A' c' hl' _
                  simp -implicitDefEqProofs (disch := first | omega | decide) only [seval, -Int.reducePow, -Nat.reducePow, cC, pv, binv, eBox, undef, g3, g4, g5]
                  exact ⟨A', n6 + 1, c', rfl, by rw [hS1, exCells_snoc], by omega⟩
                · rw [if_neg (of_decide_eq_false hc)] at hS1
                  refine cv_skip ?_
                  try simp only [blockQ, thenQ]
                  simp -implicitDefEqProofs (disch := first | omega | decide) only [seval, -Int.reducePow, -Nat.reducePow, cC, pv, binv, eBox, undef, g3, g4, g5]
                  exact ⟨A6, n6, c6, rfl, by rw [hS1, List.append_nil], by omega⟩
              · intro G6 L' _ hF
                obtain ⟨A8, n8, c8, q0, q1, q6, q8, rfl, h8⟩ := hF
                have g6_0 := q0.trans g5_0
                have g6_1 := q1.trans g5_1
                have g6_6 := q6
                have g6_8 := q8.trans g5_8
                clear q0 q1 q6 q8
                have g6 := And.intro g6_0 (And.intro g6_1 (And.intro g6_6 g6_8))
                refine hK _ _ ?_
                clear hK K
                refine cv_q ?_
                refine cv_draw [(true, 0), (true, 1), (true, 2), (true, 3), (true, 4), (true, 5), (true, 6), (true, 7), (true, 8), (true, 9), (true, 10), (true, 11)] [] mixA rfl (by kernel_rfl) (by kernel_rfl) rfl rfl ?_
                simp -implicitDefEqProofs (disch := first | omega | decide) only [seval, -Int.reducePow, -Nat.reducePow, cC, pv, binv, eBox, undef, g3, g4, g6]
                refine ⟨_, hE.ld0 hlt, fun tok htok => ?_⟩
                subst htok
                simp -implicitDefEqProofs (disch := first | omega | decide) only [seval, -Int.reducePow, -Nat.reducePow, cC, pv, binv, eBox, undef, g3, g4, g6]
                refine ⟨_, hE.ld1 hlt, fun tok htok => ?_⟩
                subst htok
                simp -implicitDefEqProofs (disch := first | omega | decide) only [seval, -Int.reducePow, -Nat.reducePow, cC, pv, binv, eBox, undef, wrap_in, g3, g4, g6]
                exact ⟨A8, n8, c8, rfl, by rw [hS2, hx, wrap_in (by omega) (by omega)], rfl, by omega, by omega⟩
          · intro G7 L' _ hF
            obtain ⟨A6, n6, c6, q0, q1, q6, q7, q8, rfl, ⟨h6, hcs⟩⟩ := hF
            have g7_0 := q0.trans g4_0
            have g7_1 := q1.trans g4_1
            have g7_6 := q6
            have g7_7 := q7
            have g7_8 := q8.trans g4_8
            clear q0 q1 q6 q7 q8
            have g7 := And.intro g7_0 (And.intro g7_1 (And.intro g7_6 (And.intro g7_7 g7_8)))
            refine hK _ _ ?_
            clear hK K
            refine cv_region_then rfl ?_
            simp -implicitDefEqProofs (disch := first | omega | decide) only [seval, -Int.reducePow, -Nat.reducePow, cC, pv, binv, eBox, undef, wrap_in, g3, g4, g7]
            refine ⟨⟨k + 1, A6, n6, c6, ?_⟩, ?_⟩
            · simp -implicitDefEqProofs (disch := first | omega | decide) only [seval, -Int.reducePow, -Nat.reducePow, cC, pv, binv, eBox, undef, Int.natCast_add, g3, g4, g7]
              refine ⟨by omega, by omega, fun i hi => ?_⟩
              by_cases h : i < k
              · exact hle i h
              · have : i = k := by omega
                rw [this, hx]
                exact hcs
            · simp only [intOf]; omega
        · refine cv_exit ?_
          simp only [blockQ, thenQ, if_true, ite_true]
          clear hK K
          refine hK _ _ ?_
          clear hK K
          have hnk : n = k := by have := of_decide_eq_false hc; omega
          subst hnk
          have hF := Ex.compF_eq hv (show 0 ≤ s by omega) (show s ≤ 1048576 by omega) (by rw [hl]; exact hle)
          rw [hl] at hF
          have hab := Ex.cAt_bd hv (show n ≤ xs.length by omega)
          refine cv_gen fun G8 hG => ?_
          have g8_1 := congrFun hG 1
          have g8_6 := congrFun hG 6
          have g8_7 := congrFun hG 7
          clear hG
          try simp -implicitDefEqProofs (disch := first | omega | decide) only [seval, -Int.reducePow, -Nat.reducePow, cC, pv, binv, eBox, undef, g3, g4] at g8_1 g8_6 g8_7
          have g8 := And.intro g8_1 (And.intro g8_6 g8_7)
          refine cv_seq_k fun K hK => ?_
          refine cv_cut (fun _ _ => True) (fun F' L' => ∃ (A8 : Option Addr) (n8 c8 : Nat), F' 6 = .slice A8 n8 c8 ∧ L' = [.row (.slice A8 n8 c8) 39 2 n8 (exCells (Ex.compF xs s).1)]) ?_ ?_
          · refine cv_seq_k fun K hK => ?_
            refine cv_region_then rfl ?_
            simp -implicitDefEqProofs (disch := first | omega | decide) only [seval, -Int.reducePow, -Nat.reducePow, cC, pv, binv, eBox, undef, g3, g4, g8]
            refine hK _ _ ?_
            clear hK K
            refine cv_cond ?_
            simp -implicitDefEqProofs (disch := first | omega | decide) only [seval, -Int.reducePow, -Nat.reducePow, cC, pv, binv, eBox, undef, g3, g4, g8]
            refine ⟨fun hc => ?_, fun hc => ?_⟩
            · rw [if_pos (of_decide_eq_true hc)] at hF
              refine cv_pick_post [0] (by decide) ?_
              refine cv_region_q rfl ?_
              simp -implicitDefEqProofs (disch := first | omega | decide) only [seval, -Int.reducePow, -Nat.reducePow, cC, pv, binv, eBox, undef, wrap_in, g3, g4, g8]
              intro b5 hb5
              refine appV_at 1 tap29 rfl (fun w hw => src_blk (size := 2) (.head _) rfl hw) rfl (by omega) (by omega) ?_
              intro A' c' hl' _
              simp -implicitDefEqProofs (disch := first | omega | decide) only [seval, -Int.reducePow, -Nat.reducePow, cC, pv, binv, eBox, undef, g3, g4, g8]
              exact ⟨A', n6 + 1, c', rfl, by rw [hF, exCells_snoc]⟩
            · rw [if_neg (of_decide_eq_false hc), List.append_nil] at hF
              refine cv_skip ?_
              try simp only [blockQ, thenQ]
              simp -implicitDefEqProofs (disch := first | omega | decide) only [seval, -Int.reducePow, -Nat.reducePow, cC, pv, binv, eBox, undef, g3, g4, g8]
              exact ⟨A6, n6, c6, rfl, by rw [hF]⟩
          · intro G9 L' _ hF
            obtain ⟨A8, n8, c8, q6, rfl⟩ := hF
            have g9_6 := q6
            clear q6
            have g9 := g9_6
            refine hK _ _ ?_
            clear hK K
            refine cv_seq_k fun K hK => ?_
            refine cv_region_then rfl ?_
            simp -implicitDefEqProofs (disch := first | omega | decide) only [seval, -Int.reducePow, -Nat.reducePow, cC, pv, binv, eBox, undef, g3, g4, g9]
            refine hK _ _ ?_
            clear hK K
            refine cv_ret ⟨_, (by simp -implicitDefEqProofs (disch := first | omega | decide) only [seval, -Int.reducePow, -Nat.reducePow, cC, pv, binv, eBox, undef, g3, g4, g9]; rfl), fun w hw => ?_⟩
            have hF2 : (Ex.compF xs s).2 = 0 := by rw [hF]
            exact ⟨A8, n8, c8, by rw [hF2], ownsRow_new (hw.holds _ (.head _)) (hw.own _ (.head _)), hw.below⟩
end Go.Proofs.Ytejogdielfgeoaa
/- Sets of extents as sets of places: plain. -/
namespace Go.Proofs.Ytejogdielfgeoaa
open Go.RowKit Go.Shelf
set_option linter.unusedVariables false
set_option linter.unusedSimpArgs false
namespace Ex
def inn (x : Ext) (o : Int) : Prop := x.off ≤ o ∧ o < x.off + x.len
def mem (xs : List Ext) (o : Int) : Prop := ∃ x ∈ xs, inn x o
def tot : List Ext → Int
  | [] => 0
  | x :: l => x.len + tot l
def RR (a b : Ext) : Prop := a.off + a.len < b.off
def PP (x : Ext) : Prop := 0 ≤ x.off ∧ 0 < x.len ∧ x.off + x.len ≤ 1048576
def ok (xs : List Ext) : Prop := (∀ x ∈ xs, PP x) ∧ xs.Pairwise RR
theorem mem_nil (o : Int) : mem [] o ↔ False := by simp [mem]
theorem mem_cons (x : Ext) (xs : List Ext) (o : Int) : mem (x :: xs) o ↔ inn x o ∨ mem xs o := by simp [mem]
theorem mem_app (xs ys : List Ext) (o : Int) : mem (xs ++ ys) o ↔ mem xs o ∨ mem ys o := by simp [mem, or_and_right, exists_or]
theorem tot_app : ∀ (xs ys : List Ext), tot (xs ++ ys) = tot xs + tot ys
  | [], ys => by simp [tot]
  | x :: xs, ys => by show x.len + tot (xs ++ ys) = x.len + tot xs + tot ys; rw [tot_app xs ys]; omega
theorem get_eq {xs : List Ext} {i : Nat} (h : i < xs.length) : get xs i = xs[i] := by unfold get; rw [List.getD_eq_getElem?_getD, List.getElem?_eq_getElem h]; rfl
theorem ok_of {xs : List Ext} (h : vld xs) : ok xs := by
  refine ⟨fun x hx => ?_, List.pairwise_iff_getElem.2 fun i j hi hj hij => ?_⟩
  · obtain ⟨i, hi, rfl⟩ := List.getElem_of_mem hx
    rw [← get_eq hi]
    exact vld_prop h hi
  · rw [← get_eq hi, ← get_eq hj]
    exact vld_gap h hij hj
theorem vld_of {xs : List Ext} (h : ok xs) : vld xs := fun i hi => by
  refine ⟨?_, fun h0 => ?_⟩
  · rw [get_eq hi]
    exact h.1 _ (List.getElem_mem hi)
  · rw [get_eq hi, get_eq (show i - 1 < xs.length by omega)]
    exact List.pairwise_iff_getElem.1 h.2 (i - 1) i (by omega) hi (by omega)
theorem mem_gt {x : Ext} {xs : List Ext} (h : ok (x :: xs)) {o : Int} (hm : mem xs o) : x.off + x.len < o := by
  obtain ⟨y, hy, h1, h2⟩ := hm
  have := (List.pairwise_cons.1 h.2).1 y hy
  unfold RR at this
  omega
theorem ok_tail {x : Ext} {xs : List Ext} (h : ok (x :: xs)) : ok xs := ⟨fun y hy => h.1 y (by simp [hy]), (List.pairwise_cons.1 h.2).2⟩
theorem ok_ext : ∀ {xs ys : List Ext}, ok xs → ok ys → (∀ o, mem xs o ↔ mem ys o) → xs = ys
  | [], [], _, _, _ => rfl
  | [], y :: ys, _, hy, h => by
    have hp := hy.1 y (.head _)
    unfold PP at hp
    exact absurd ((h y.off).2 ((mem_cons _ _ _).2 (.inl ⟨Int.le_refl _, by omega⟩))) (by simp [mem_nil])
  | x :: xs, [], hx, _, h => by
    have hp := hx.1 x (.head _)
    unfold PP at hp
    exact absurd ((h x.off).1 ((mem_cons _ _ _).2 (.inl ⟨Int.le_refl _, by omega⟩))) (by simp [mem_nil])
  | x :: xs, y :: ys, hx, hy, h => by
    have hpx := hx.1 x (.head _)
    have hpy := hy.1 y (.head _)
    unfold PP at hpx hpy
    have key : ∀ {a b : Ext} {p q : List Ext}, ok (a :: p) → ok (b :: q) → (∀ o, mem (a :: p) o → mem (b :: q) o) → 0 < a.len → 0 < b.len → b.off ≤ a.off := fun {a b p q} ha hb hh h1 h2 => by
      rcases (mem_cons _ _ _).1 (hh a.off ((mem_cons _ _ _).2 (.inl ⟨Int.le_refl _, by omega⟩))) with h | h
      · exact h.1
      · have := mem_gt hb h
        omega
    have h1 := key hx hy (fun o => (h o).1) hpx.2.1 hpy.2.1
    have h2 := key hy hx (fun o => (h o).2) hpy.2.1 hpx.2.1
    have key2 : ∀ {a b : Ext} {p q : List Ext}, ok (a :: p) → ok (b :: q) → (∀ o, mem (b :: q) o → mem (a :: p) o) → a.off = b.off → 0 < a.len → ¬ a.len < b.len := fun {a b p q} ha hb hh h0 h1 hlt => by
      rcases (mem_cons _ _ _).1 (hh (a.off + a.len) ((mem_cons _ _ _).2 (.inl ⟨by omega, by omega⟩))) with h | h
      · have := h.2
        omega
      · have := mem_gt ha h
        omega
    have h3 := key2 hx hy (fun o => (h o).2) (by omega) hpx.2.1
    have h4 := key2 hy hx (fun o => (h o).1) (by omega) hpy.2.1
    have hxy : x = y := by
      cases x
      cases y
      simp only [Ext.mk.injEq]
      dsimp only at *
      omega
    subst hxy
    refine congrArg _ (ok_ext (ok_tail hx) (ok_tail hy) fun o => ⟨fun hm => ?_, fun hm => ?_⟩)
    · rcases (mem_cons _ _ _).1 ((h o).1 ((mem_cons _ _ _).2 (.inr hm))) with h5 | h5
      · have := mem_gt hx hm
        have := h5.2
        omega
      · exact h5
    · rcases (mem_cons _ _ _).1 ((h o).2 ((mem_cons _ _ _).2 (.inr hm))) with h5 | h5
      · have := mem_gt hy hm
        have := h5.2
        omega
      · exact h5
theorem vld_ext {xs ys : List Ext} (hx : vld xs) (hy : vld ys) (h : ∀ o, mem xs o ↔ mem ys o) : xs = ys := ok_ext (ok_of hx) (ok_of hy) h

theorem take_mem {xs : List Ext} {k : Nat} {x : Ext} (h : x ∈ xs.take k) : ∃ j, j < k ∧ j < xs.length ∧ get xs j = x := by
  obtain ⟨j, hj, rfl⟩ := List.getElem_of_mem h
  rw [List.length_take] at hj
  refine ⟨j, by omega, by omega, ?_⟩
  rw [get_eq (by omega), List.getElem_take]
theorem drop_mem {xs : List Ext} {k : Nat} {x : Ext} (h : x ∈ xs.drop k) : ∃ j, k ≤ j ∧ j < xs.length ∧ get xs j = x := by
  obtain ⟨j, hj, rfl⟩ := List.getElem_of_mem h
  rw [List.length_drop] at hj
  refine ⟨k + j, by omega, by omega, ?_⟩
  rw [get_eq (by omega), List.getElem_drop]
theorem mem_get {xs : List Ext} {i : Nat} (h : i < xs.length) {o : Int} (ho : inn (get xs i) o) : mem xs o := ⟨get xs i, by rw [get_eq h]; exact List.getElem_mem h, ho⟩
theorem drop_get {xs : List Ext} {i : Nat} (h : i < xs.length) : xs.drop i = get xs i :: xs.drop (i + 1) := by rw [List.drop_eq_getElem_cons h, get_eq h]

/-- Insert, in parts: joined with what touches it on either side. -/
theorem ins_left {xs : List Ext} {e : Ext} {i : Nat} (hv : vld xs) (hp : e.prop) (hi : i ≤ xs.length) (hlo : ∀ k, k < i → (get xs k).end_ ≤ e.off) :
    ∃ L, xs.take i = xs.take (insL xs e i).1 ++ L ∧ ((L = [] ∧ (insL xs e i).2 = e) ∨ ∃ a, L = [a] ∧ PP a ∧ a.off + a.len = e.off ∧ (insL xs e i).2 = ⟨a.off, a.len + e.len⟩) ∧ ∀ x ∈ xs.take (insL xs e i).1, x.off + x.len < (insL xs e i).2.off := by
  have hpe : 0 ≤ e.off ∧ 0 < e.len ∧ e.off + e.len ≤ 1048576 := hp
  unfold insL
  split
  · rename_i hc
    obtain ⟨j, rfl⟩ : ∃ j, i = j + 1 := ⟨i - 1, by omega⟩
    simp only [Nat.add_sub_cancel] at *
    refine ⟨[get xs j], take_get (by omega), .inr ⟨_, rfl, vld_prop hv (by omega), hc.2, rfl⟩, fun x hx => ?_⟩
    obtain ⟨k, hk, hkl, rfl⟩ := take_mem hx
    exact vld_gap hv hk (by omega)
  · rename_i hc
    refine ⟨[], by simp, .inl ⟨rfl, rfl⟩, fun x hx => ?_⟩
    obtain ⟨k, hk, hkl, rfl⟩ := take_mem hx
    have h1 := hlo k hk
    have h2 := hlo (i - 1) (by omega)
    unfold Ext.end_ at *
    dsimp only
    by_cases hki : k = i - 1
    · subst hki
      have : ¬ ((get xs (i - 1)).off + (get xs (i - 1)).len = e.off) := fun h => hc ⟨by omega, h⟩
      omega
    · have h3 := vld_gap hv (show k < i - 1 by omega) (by omega)
      have h4 := vld_prop hv (show i - 1 < xs.length by omega)
      unfold Ext.end_ at *
      omega
theorem ins_right {xs : List Ext} {e : Ext} {i : Nat} (hv : vld xs) (hp : 0 < e.len) (hi : i ≤ xs.length) (hhi : ∀ k, i ≤ k → k < xs.length → e.off + e.len ≤ (get xs k).off) :
    ∃ R, xs.drop i = R ++ xs.drop (insR xs e i).1 ∧ ((R = [] ∧ (insR xs e i).2 = e) ∨ ∃ b, R = [b] ∧ PP b ∧ b.off = e.off + e.len ∧ (insR xs e i).2 = ⟨e.off, e.len + b.len⟩) ∧ ∀ x ∈ xs.drop (insR xs e i).1, (insR xs e i).2.off + (insR xs e i).2.len < x.off := by
  unfold insR
  split
  · rename_i hc
    refine ⟨[get xs i], drop_get hc.1, .inr ⟨_, rfl, vld_prop hv hc.1, hc.2, rfl⟩, fun x hx => ?_⟩
    obtain ⟨k, hk, hkl, rfl⟩ := drop_mem hx
    have := vld_gap hv (show i < k by omega) hkl
    have h2 := hc.2
    unfold Ext.end_ at *
    dsimp only
    omega
  · rename_i hc
    refine ⟨[], by simp, .inl ⟨rfl, rfl⟩, fun x hx => ?_⟩
    obtain ⟨k, hk, hkl, rfl⟩ := drop_mem hx
    have h1 := hhi k hk hkl
    dsimp only
    by_cases hki : k = i
    · subst hki
      have : ¬ ((get xs k).off = e.off + e.len) := fun h => hc ⟨hkl, h⟩
      omega
    · have h3 := vld_gap hv (show i < k by omega) hkl
      have h4 := vld_prop hv (show i < xs.length by omega)
      have h5 := hhi i (Nat.le_refl _) (by omega)
      unfold Ext.end_ at *
      omega
theorem insF_spec {xs : List Ext} {e : Ext} (hv : vld xs) (hp : e.prop) :
    (insF xs e = ([], 5) ∧ ∃ o, mem xs o ∧ inn e o) ∨
    ((insF xs e).2 = 0 ∧ vld (insF xs e).1 ∧ (∀ o, mem (insF xs e).1 o ↔ mem xs o ∨ inn e o) ∧ (∀ o, mem xs o → ¬ inn e o) ∧ tot (insF xs e).1 = tot xs + e.len) := by
  have hpe : 0 ≤ e.off ∧ 0 < e.len ∧ e.off + e.len ≤ 1048576 := hp
  obtain ⟨i, hA⟩ := aft_ex hv e.off
  have hai : aft xs e.off = i := aft_eq hA.1 hA.2.1 (fun h => hA.2.2 i (Nat.le_refl _) h)
  obtain ⟨hi, hlo, hhi⟩ := hA
  unfold insF
  rw [if_neg (by rintro (h | h); exact h hv; exact h hp), hai]
  split
  · rename_i hc
    left
    refine ⟨rfl, ?_⟩
    have h1 := hhi i (Nat.le_refl _) hc.1
    have h2 := vld_prop hv hc.1
    have h3 := hc.2
    unfold Ext.end_ at h1 h3
    by_cases h : (get xs i).off ≤ e.off
    · exact ⟨e.off, mem_get hc.1 ⟨h, h1⟩, Int.le_refl _, by omega⟩
    · exact ⟨(get xs i).off, mem_get hc.1 ⟨Int.le_refl _, by omega⟩, by omega, h3⟩
  · rename_i hc
    right
    have hhi2 : ∀ k, i ≤ k → k < xs.length → e.off + e.len ≤ (get xs k).off := fun k hk hkl => by
      have h1 : ¬ (get xs i).off < e.end_ := fun h => hc ⟨by omega, h⟩
      unfold Ext.end_ at h1
      by_cases hki : k = i
      · subst hki; omega
      · have h3 := vld_gap hv (show i < k by omega) hkl
        have h4 := vld_prop hv (show i < xs.length by omega)
        unfold Ext.end_ at *
        omega
    obtain ⟨L, hL, hLc, hLa⟩ := ins_left hv hp hi hlo
    obtain ⟨f1, e1, hf1⟩ : ∃ f1 e1, insL xs e i = (f1, e1) := ⟨_, _, rfl⟩
    rw [hf1] at hL hLc hLa ⊢
    dsimp only at hL hLc hLa ⊢
    have he1 : e1.off + e1.len = e.off + e.len ∧ e1.off ≤ e.off ∧ 0 ≤ e1.off := by
      rcases hLc with ⟨-, rfl⟩ | ⟨a, -, ha, h1, rfl⟩
      · exact ⟨rfl, Int.le_refl _, hpe.1⟩
      · unfold PP at ha
        dsimp only
        omega
    obtain ⟨R, hR, hRc, hRa⟩ := ins_right (e := e1) hv (by omega) hi (fun k hk hkl => by rw [he1.1]; exact hhi2 k hk hkl)
    obtain ⟨l2, e2, hl2⟩ : ∃ l2 e2, insR xs e1 i = (l2, e2) := ⟨_, _, rfl⟩
    rw [hl2] at hR hRc hRa ⊢
    dsimp only at hR hRc hRa ⊢
    have he2 : PP e2 ∧ e2.off = e1.off ∧ e1.off + e1.len ≤ e2.off + e2.len := by
      unfold PP
      rcases hRc with ⟨-, rfl⟩ | ⟨b, -, hb, h1, rfl⟩
      · exact ⟨by omega, rfl, Int.le_refl _⟩
      · unfold PP at hb
        dsimp only
        omega
    have hx : xs = xs.take f1 ++ (L ++ (R ++ xs.drop l2)) := by rw [← List.append_assoc, ← hL, ← hR, List.take_append_drop]
    have hok := ok_of hv
    generalize xs.take f1 = A at *
    generalize xs.drop l2 = B at *
    rw [hx] at hok
    have hokA : ok A := ⟨fun x h => hok.1 x (by simp [h]), (List.pairwise_append.1 hok.2).1⟩
    have hokB : ok B := ⟨fun x h => hok.1 x (by simp [h]), (List.pairwise_append.1 (List.pairwise_append.1 (List.pairwise_append.1 hok.2).2.1).2.1).2.1⟩
    refine ⟨rfl, vld_of ⟨fun x hxm => ?_, List.pairwise_append.2 ⟨hokA.2, List.pairwise_cons.2 ⟨fun b hb => hRa b hb, hokB.2⟩, fun a ha b hb => ?_⟩⟩, fun o => ?_, fun o hm hin => ?_, ?_⟩
    · simp only [List.mem_append, List.mem_cons, List.not_mem_nil, or_false] at hxm
      rcases hxm with h | rfl | h
      · exact hokA.1 x h
      · exact he2.1
      · exact hokB.1 x h
    · have h1 := hLa a ha
      simp only [List.mem_append, List.mem_cons, List.not_mem_nil, or_false] at hb
      unfold RR
      rcases hb with rfl | h
      · omega
      · have h2 := hRa b h
        unfold PP at he2
        omega
    · rw [hx]
      simp only [mem_app, mem_cons, mem_nil, or_false]
      have e1' : inn e2 o ↔ mem L o ∨ inn e o ∨ mem R o := by
        rcases hLc with ⟨rfl, rfl⟩ | ⟨a, rfl, ha, h1, rfl⟩ <;> rcases hRc with ⟨rfl, rfl⟩ | ⟨b, rfl, hb, h2, rfl⟩ <;> simp only [mem_nil, mem_cons, or_false, false_or, inn] <;> unfold PP at * <;> dsimp only at * <;> omega
      rw [e1']
      constructor
      · rintro (h | (h | h | h) | h)
        · exact .inl (.inl h)
        · exact .inl (.inr (.inl h))
        · exact .inr h
        · exact .inl (.inr (.inr (.inl h)))
        · exact .inl (.inr (.inr (.inr h)))
      · rintro ((h | h | h | h) | h)
        · exact .inl h
        · exact .inr (.inl (.inl h))
        · exact .inr (.inl (.inr (.inr h)))
        · exact .inr (.inr h)
        · exact .inr (.inl (.inr (.inl h)))
    · obtain ⟨x, hxm, h1, h2⟩ := hm
      obtain ⟨h3, h4⟩ := hin
      obtain ⟨k, hk, rfl⟩ := List.getElem_of_mem hxm
      rw [← get_eq hk] at h1 h2
      by_cases hki : k < i
      · have := hlo k hki
        unfold Ext.end_ at this
        omega
      · have := hhi2 k (by omega) hk
        omega
    · rw [hx]
      simp only [tot_app]
      have : e2.len = tot L + e.len + tot R := by
        rcases hLc with ⟨rfl, rfl⟩ | ⟨a, rfl, ha, h1, rfl⟩ <;> rcases hRc with ⟨rfl, rfl⟩ | ⟨b, rfl, hb, h2, rfl⟩ <;> simp only [tot] <;> omega
      have h2 : tot [e2] = e2.len := by simp [tot]
      rw [h2, this]
      omega
theorem insF_len (xs : List Ext) (e : Ext) : (insF xs e).1.length ≤ xs.length + 1 := by
  unfold insF
  split
  · simp
  · split
    · simp
    · have h1 : (insL xs e (aft xs e.off)).1 ≤ aft xs e.off := by unfold insL; split <;> dsimp only <;> omega
      have h2 : ∀ e', aft xs e.off ≤ (insR xs e' (aft xs e.off)).1 := fun e' => by unfold insR; split <;> dsimp only <;> omega
      have h3 := h2 (insL xs e (aft xs e.off)).2
      simp only [List.length_append, List.length_take, List.length_drop, List.length_cons, List.length_nil]
      omega
end Ex
end Go.Proofs.Ytejogdielfgeoaa
/- Remove and Complement as operations on sets of places: plain. -/
namespace Go.Proofs.Ytejogdielfgeoaa
open Go.RowKit Go.Shelf
set_option linter.unusedVariables false
set_option linter.unusedSimpArgs false
namespace Ex
theorem mem_ix {xs : List Ext} {o : Int} (h : mem xs o) : ∃ k, k < xs.length ∧ inn (get xs k) o := by
  obtain ⟨x, hx, hi⟩ := h
  obtain ⟨k, hk, rfl⟩ := List.getElem_of_mem hx
  exact ⟨k, hk, by rw [get_eq hk]; exact hi⟩
theorem remF_spec {xs : List Ext} {e : Ext} (hv : vld xs) (hp : e.prop) :
    (remF xs e = ([], 6) ∧ ∃ o, inn e o ∧ ¬ mem xs o) ∨
    ((remF xs e).2 = 0 ∧ vld (remF xs e).1 ∧ (∀ o, mem (remF xs e).1 o ↔ mem xs o ∧ ¬ inn e o) ∧ (∀ o, inn e o → mem xs o) ∧ tot (remF xs e).1 = tot xs - e.len) := by
  have hpe : 0 ≤ e.off ∧ 0 < e.len ∧ e.off + e.len ≤ 1048576 := hp
  obtain ⟨i, hA⟩ := aft_ex hv e.off
  have hai : aft xs e.off = i := aft_eq hA.1 hA.2.1 (fun h => hA.2.2 i (Nat.le_refl _) h)
  obtain ⟨hi, hlo, hhi⟩ := hA
  unfold remF
  rw [if_neg (by rintro (h | h); exact h hv; exact h hp), hai]
  split
  · rename_i hc
    left
    refine ⟨rfl, ?_⟩
    by_cases hil : i = xs.length
    · refine ⟨e.off, ⟨Int.le_refl _, by omega⟩, fun hm => ?_⟩
      obtain ⟨k, hk, h1, h2⟩ := mem_ix hm
      have := hlo k (by omega)
      unfold Ext.end_ at this
      omega
    · have hil : i < xs.length := by omega
      have hie := hhi i (Nat.le_refl _) hil
      have hip := vld_prop hv hil
      unfold Ext.end_ at hie
      rcases hc with h | h | h
      · omega
      · refine ⟨e.off, ⟨Int.le_refl _, by omega⟩, fun hm => ?_⟩
        obtain ⟨k, hk, h1, h2⟩ := mem_ix hm
        by_cases hki : k < i
        · have := hlo k hki
          unfold Ext.end_ at this
          omega
        · by_cases hke : k = i
          · subst hke; omega
          · have := vld_gap hv (show i < k by omega) hk
            unfold Ext.end_ at this
            omega
      · unfold Ext.end_ at h
        refine ⟨(get xs i).off + (get xs i).len, ⟨by omega, by omega⟩, fun hm => ?_⟩
        obtain ⟨k, hk, h1, h2⟩ := mem_ix hm
        by_cases hki : k < i
        · have := hlo k hki
          unfold Ext.end_ at this
          omega
        · by_cases hke : k = i
          · subst hke; omega
          · have := vld_gap hv (show i < k by omega) hk
            unfold Ext.end_ at this
            omega
  · rename_i hc
    right
    have hil : i < xs.length := by
      have : ¬ i = xs.length := fun h => hc (.inl h)
      omega
    have h1 : (get xs i).off ≤ e.off := by
      have : ¬ e.off < (get xs i).off := fun h => hc (.inr (.inl h))
      omega
    have h2 : e.off + e.len ≤ (get xs i).off + (get xs i).len := by
      have : ¬ (get xs i).end_ < e.end_ := fun h => hc (.inr (.inr h))
      unfold Ext.end_ at this
      omega
    have hip := vld_prop hv hil
    have hlo2 : ∀ y ∈ xs.take i, y.off + y.len < (get xs i).off := fun y hy => by
      obtain ⟨k, hk, hkl, rfl⟩ := take_mem hy
      exact vld_gap hv hk hil
    have hhi2 : ∀ y ∈ xs.drop (i + 1), (get xs i).off + (get xs i).len < y.off := fun y hy => by
      obtain ⟨k, hk, hkl, rfl⟩ := drop_mem hy
      exact vld_gap hv (by omega) hkl
    have hx : xs = xs.take i ++ (get xs i :: xs.drop (i + 1)) := by rw [← drop_get hil, List.take_append_drop]
    have hok := ok_of hv
    obtain ⟨x, hxe⟩ : ∃ x, get xs i = x := ⟨_, rfl⟩
    rw [hxe] at h1 h2 hip hlo2 hhi2 hx ⊢
    generalize xs.take i = A at *
    generalize xs.drop (i + 1) = B at *
    rw [hx] at hok
    have hokA : ok A := ⟨fun x h => hok.1 x (by simp [h]), (List.pairwise_append.1 hok.2).1⟩
    have hokB : ok B := ⟨fun x h => hok.1 x (by simp [h]), (List.pairwise_cons.1 (List.pairwise_append.1 hok.2).2.1).2⟩
    have hpin : ∀ y ∈ remParts x e, PP y ∧ x.off ≤ y.off ∧ y.off + y.len ≤ x.off + x.len := fun y hy => by
      unfold remParts Ext.end_ at hy
      unfold PP
      simp only [List.mem_append] at hy
      rcases hy with hy | hy <;> split at hy <;> simp only [List.mem_cons, List.not_mem_nil, or_false] at hy
      · subst hy
        dsimp only
        omega
      · subst hy
        dsimp only
        omega
    have hpw : (remParts x e).Pairwise RR := by
      unfold remParts Ext.end_
      split <;> split <;> simp only [List.nil_append, List.append_nil, List.cons_append, List.pairwise_cons, List.not_mem_nil, false_implies, implies_true, List.Pairwise.nil, and_true, List.mem_cons, or_false, forall_eq]
      unfold RR
      dsimp only
      omega
    have hpm : ∀ o, mem (remParts x e) o ↔ inn x o ∧ ¬ inn e o := fun o => by
      unfold remParts Ext.end_
      rw [mem_app]
      split <;> split <;> simp only [mem_cons, mem_nil, or_false, false_or, inn] <;> first | omega | (refine ⟨fun h => h.elim, fun h => ?_⟩; omega)
    have hpt : tot (remParts x e) = x.len - e.len := by
      unfold remParts Ext.end_
      rw [tot_app]
      split <;> split <;> simp only [tot] <;> omega
    have hmx : ∀ o, mem xs o ↔ mem A o ∨ inn x o ∨ mem B o := fun o => by rw [hx]; simp only [mem_app, mem_cons]
    have hAe : ∀ o, mem A o → o < x.off := fun o ⟨y, hy, h3, h4⟩ => by have := hlo2 y hy; omega
    have hBe : ∀ o, mem B o → x.off + x.len < o := fun o ⟨y, hy, h3, h4⟩ => by have := hhi2 y hy; omega
    refine ⟨rfl, vld_of ⟨fun y hy => ?_, List.pairwise_append.2 ⟨hokA.2, List.pairwise_append.2 ⟨hpw, hokB.2, fun a ha b hb => ?_⟩, fun a ha b hb => ?_⟩⟩, fun o => ?_, fun o ho => ?_, ?_⟩
    · simp only [List.mem_append] at hy
      rcases hy with h | h | h
      · exact hokA.1 y h
      · exact (hpin y h).1
      · exact hokB.1 y h
    · have h3 := hpin a ha
      have h4 := hhi2 b hb
      unfold RR
      omega
    · have h3 := hlo2 a ha
      unfold RR
      simp only [List.mem_append] at hb
      rcases hb with h | h
      · have h4 := hpin b h
        omega
      · have h4 := hhi2 b h
        omega
    · rw [hmx]
      simp only [mem_app, hpm]
      have h3 := hAe o
      have h4 := hBe o
      unfold inn
      constructor
      · rintro (h | ⟨h, h'⟩ | h)
        · exact ⟨.inl h, by have := h3 h; omega⟩
        · exact ⟨.inr (.inl h), h'⟩
        · exact ⟨.inr (.inr h), by have := h4 h; omega⟩
      · rintro ⟨h | h | h, h'⟩
        · exact .inl h
        · exact .inr (.inl ⟨h, h'⟩)
        · exact .inr (.inr h)
    · rw [hmx]
      obtain ⟨h3, h4⟩ := ho
      exact .inr (.inl ⟨by omega, by omega⟩)
    · rw [hx]
      simp only [tot_app, tot, hpt]
      omega

/-- Complement, by the list. -/
def compL (at_ : Int) (xs : List Ext) (s : Int) : List Ext := match xs with
  | [] => if at_ < s then [⟨at_, s - at_⟩] else []
  | x :: xs => (if at_ < x.off then [⟨at_, x.off - at_⟩] else []) ++ compL (x.off + x.len) xs s
theorem comp_split (xs : List Ext) (s : Int) : ∀ k, k ≤ xs.length → cOut xs k ++ compL (cAt xs k) (xs.drop k) s = compL 0 xs s
  | 0, _ => rfl
  | k + 1, h => by
    rw [← comp_split xs s k (by omega), cOut_succ, drop_get (show k < xs.length by omega), List.append_assoc]
    rfl
theorem compL_spec {s : Int} (hs : s ≤ 1048576) : ∀ (xs : List Ext) (at_ : Int), ok xs → (∀ x ∈ xs, at_ ≤ x.off ∧ x.off + x.len ≤ s) → 0 ≤ at_ → at_ ≤ s →
    ok (compL at_ xs s) ∧ (∀ y ∈ compL at_ xs s, at_ ≤ y.off) ∧ (∀ o, mem (compL at_ xs s) o ↔ at_ ≤ o ∧ o < s ∧ ¬ mem xs o) ∧ tot (compL at_ xs s) + tot xs = s - at_
  | [], a, _, _, h0, h1 => by
    unfold compL
    split
    · refine ⟨⟨fun x hx => ?_, by simp⟩, fun y hy => ?_, fun o => ?_, ?_⟩
      · simp only [List.mem_cons, List.not_mem_nil, or_false] at hx
        subst hx
        unfold PP
        dsimp only
        omega
      · simp only [List.mem_cons, List.not_mem_nil, or_false] at hy
        subst hy
        exact Int.le_refl _
      · simp only [mem_cons, mem_nil, or_false, not_false_eq_true, and_true, inn]
        omega
      · simp only [tot]
        omega
    · refine ⟨⟨by simp, by simp⟩, by simp, fun o => ?_, ?_⟩
      · simp only [mem_nil, not_false_eq_true, and_true]
        exact ⟨fun h => h.elim, fun h => by omega⟩
      · simp only [tot]
        omega
  | x :: xs, a, hok, hb, h0, h1 => by
    have hx := hb x (.head _)
    have hxp := hok.1 x (.head _)
    unfold PP at hxp
    obtain ⟨i1, i2, i3, i4⟩ := compL_spec hs xs (x.off + x.len) (ok_tail hok) (fun y hy => ⟨by have := (List.pairwise_cons.1 hok.2).1 y hy; unfold RR at this; omega, (hb y (by simp [hy])).2⟩) (by omega) hx.2
    have hgt : ∀ o, mem xs o → x.off + x.len < o := fun o h => mem_gt hok h
    have hm : ∀ o, mem (x :: xs) o ↔ inn x o ∨ mem xs o := mem_cons x xs
    have ht : tot (x :: xs) = x.len + tot xs := rfl
    show ok ((if a < x.off then [⟨a, x.off - a⟩] else []) ++ compL (x.off + x.len) xs s) ∧ (∀ y ∈ (if a < x.off then [⟨a, x.off - a⟩] else []) ++ compL (x.off + x.len) xs s, a ≤ y.off) ∧ (∀ o, mem ((if a < x.off then [⟨a, x.off - a⟩] else []) ++ compL (x.off + x.len) xs s) o ↔ a ≤ o ∧ o < s ∧ ¬ mem (x :: xs) o) ∧ tot ((if a < x.off then [⟨a, x.off - a⟩] else []) ++ compL (x.off + x.len) xs s) + tot (x :: xs) = s - a
    generalize compL (x.off + x.len) xs s = C at *
    split
    · refine ⟨⟨fun y hy => ?_, List.pairwise_cons.2 ⟨fun y hy => ?_, i1.2⟩⟩, fun y hy => ?_, fun o => ?_, ?_⟩
      · simp only [List.cons_append, List.nil_append, List.mem_cons] at hy
        rcases hy with rfl | hy
        · unfold PP
          dsimp only
          omega
        · exact i1.1 y hy
      · have := i2 y hy
        unfold RR
        dsimp only
        omega
      · simp only [List.cons_append, List.nil_append, List.mem_cons] at hy
        rcases hy with rfl | hy
        · exact Int.le_refl _
        · have := i2 y hy
          omega
      · rw [List.singleton_append, mem_cons, i3, hm]
        have := hgt o
        simp only [inn]
        constructor
        · rintro (h | h)
          · exact ⟨by omega, by omega, fun h' => h'.elim (fun h' => by omega) (fun h' => by have := hgt o h'; omega)⟩
          · exact ⟨by omega, h.2.1, fun h' => h'.elim (fun h' => by omega) h.2.2⟩
        · rintro ⟨h2, h3, h4⟩
          by_cases h5 : o < x.off
          · exact .inl (by omega)
          · exact .inr ⟨by have : ¬ (x.off ≤ o ∧ o < x.off + x.len) := fun h => h4 (.inl h); omega, h3, fun h => h4 (.inr h)⟩
      · rw [List.singleton_append, ht]
        simp only [tot]
        omega
    · rw [List.nil_append]
      refine ⟨i1, fun y hy => ?_, fun o => ?_, ?_⟩
      · have := i2 y hy
        omega
      · rw [i3, hm]
        simp only [inn]
        constructor
        · rintro h
          exact ⟨by omega, h.2.1, fun h' => h'.elim (fun h' => by omega) h.2.2⟩
        · rintro ⟨h2, h3, h4⟩
          exact ⟨by have : ¬ (x.off ≤ o ∧ o < x.off + x.len) := fun h => h4 (.inl h); omega, h3, fun h => h4 (.inr h)⟩
      · rw [ht]
        omega
theorem compF_spec {xs : List Ext} {s : Int} (hv : vld xs) (h0 : 0 ≤ s) (h1 : s ≤ 1048576) (h : ∀ i, i < xs.length → (get xs i).end_ ≤ s) :
    (compF xs s).2 = 0 ∧ vld (compF xs s).1 ∧ (∀ o, mem (compF xs s).1 o ↔ 0 ≤ o ∧ o < s ∧ ¬ mem xs o) ∧ (∀ i, i < (compF xs s).1.length → (get (compF xs s).1 i).end_ ≤ s) ∧ tot (compF xs s).1 + tot xs = s := by
  have hF := compF_eq hv h0 h1 h
  have hC := comp_split xs s xs.length (Nat.le_refl _)
  rw [List.drop_length] at hC
  have hF : compF xs s = (compL 0 xs s, 0) := by rw [hF, ← hC]; rfl
  rw [hF]
  dsimp only
  have hok := ok_of hv
  obtain ⟨i1, i2, i3, i4⟩ := compL_spec h1 xs 0 hok (fun x hx => by
    obtain ⟨k, hk, rfl⟩ := List.getElem_of_mem hx
    rw [← get_eq hk]
    have := vld_prop hv hk
    have h2 := h k hk
    unfold Ext.end_ at h2
    exact ⟨this.1, h2⟩) (Int.le_refl _) h0
  refine ⟨rfl, vld_of i1, i3, fun i hi => ?_, by omega⟩
  have hp := vld_prop (vld_of i1) hi
  have := (i3 ((get (compL 0 xs s) i).off + (get (compL 0 xs s) i).len - 1)).1 (mem_get hi ⟨by omega, by omega⟩)
  show (get (compL 0 xs s) i).off + (get (compL 0 xs s) i).len ≤ s
  omega
theorem comp_comp {xs : List Ext} {s : Int} (hv : vld xs) (h0 : 0 ≤ s) (h1 : s ≤ 1048576) (h : ∀ i, i < xs.length → (get xs i).end_ ≤ s) : compF (compF xs s).1 s = (xs, 0) := by
  obtain ⟨a1, a2, a3, a4, a5⟩ := compF_spec hv h0 h1 h
  obtain ⟨b1, b2, b3, b4, b5⟩ := compF_spec a2 h0 h1 a4
  refine Prod.ext (vld_ext b2 hv fun o => ?_) b1
  rw [b3, a3]
  constructor
  · rintro ⟨h2, h3, h4⟩
    exact Classical.byContradiction fun h5 => h4 ⟨h2, h3, h5⟩
  · intro hm
    have hm : mem xs o := hm
    obtain ⟨k, hk, h2, h3⟩ := mem_ix hm
    have hp := vld_prop hv hk
    have h4 := h k hk
    unfold Ext.end_ at h4
    exact ⟨by omega, by omega, fun h5 => h5.2.2 hm⟩
theorem back_ins {xs : List Ext} {e : Ext} (hv : vld xs) (he : e.prop) (h : (insF xs e).2 = 0) : remF (insF xs e).1 e = (xs, 0) ∧ vld (insF xs e).1 ∧ tot (insF xs e).1 = tot xs + e.len := by
  rcases insF_spec hv he with ⟨h1, -⟩ | ⟨-, pv, pm, pn, pt⟩
  · rw [h1] at h; exact absurd h (by decide)
  refine ⟨?_, pv, pt⟩
  rcases remF_spec pv he with ⟨h1, o, ho, hm⟩ | ⟨h1, qv, qm, qn, qt⟩
  · exact absurd ((pm o).2 (.inr ho)) hm
  · refine Prod.ext (vld_ext qv hv fun o => ?_) h1
    rw [qm, pm]
    constructor
    · rintro ⟨h2 | h2, h3⟩
      · exact h2
      · exact absurd h2 h3
    · intro h2
      exact ⟨.inl h2, pn o h2⟩
theorem back_rem {xs : List Ext} {e : Ext} (hv : vld xs) (he : e.prop) (h : (remF xs e).2 = 0) : insF (remF xs e).1 e = (xs, 0) ∧ vld (remF xs e).1 := by
  rcases remF_spec hv he with ⟨h1, -⟩ | ⟨-, pv, pm, pn, pt⟩
  · rw [h1] at h; exact absurd h (by decide)
  refine ⟨?_, pv⟩
  rcases insF_spec pv he with ⟨h1, o, ho, hm⟩ | ⟨h1, qv, qm, qn, qt⟩
  · exact absurd hm ((pm o).1 ho).2
  · refine Prod.ext (vld_ext qv hv fun o => ?_) h1
    rw [qm, pm]
    constructor
    · rintro (h2 | h2)
      · exact h2.1
      · exact pn o h2
    · intro h2
      by_cases h3 : inn e o
      · exact .inr h3
      · exact .inl ⟨h2, h3⟩
theorem remF_len (xs : List Ext) (e : Ext) : (remF xs e).1.length ≤ xs.length + 2 := by
  unfold remF remParts
  split
  · simp
  · split
    · simp
    · split <;> split <;> simp <;> omega
theorem tot_bd : ∀ (xs : List Ext), (∀ x ∈ xs, PP x) → 0 ≤ tot xs ∧ tot xs ≤ 1048576 * xs.length
  | [], _ => by simp [tot]
  | x :: xs, h => by
    have := tot_bd xs fun y hy => h y (by simp [hy])
    have h2 := h x (.head _)
    unfold PP at h2
    simp only [tot, List.length_cons, Int.natCast_add]
    omega
end Ex
end Go.Proofs.Ytejogdielfgeoaa
