/- Contracts of Valid and the reference's ValidSet. -/
import Derived.Test.YtabjbghmldiokaaExSmall
import Derived.Test.YtabjbghmldiokaaEng7
namespace Go.Proofs.Ytabjbghmldiokaa
open Go.RowKit Go.Shelf
set_option linter.unusedVariables false

/-- The slice value '.slice A n c' reads as the list xs of extents; its block lies below B. -/
structure Exts (w : World) (B : Nat) (A : Option Addr) (n c : Nat) (xs : List Ext) : Prop where
  len : xs.length = n
  cap : n ≤ c
  max : c ≤ 9223372036854775807
  cells : 0 < n → ∃ b off, A = some ⟨b, off, none⟩ ∧ b < B ∧ ∀ i, i < n → w.cell? ⟨b, off + i * 2, none⟩ = some (.int .i64 (Ex.get xs i).off) ∧ w.cell? ⟨b, off + i * 2 + 1, none⟩ = some (.int .i64 (Ex.get xs i).len)
theorem Exts.below {w w' : World} {B n c : Nat} {A : Option Addr} {xs : List Ext} (h : Exts w B A n c xs) (hb : Below B w w') : Exts w' B A n c xs :=
  ⟨h.len, h.cap, h.max, fun hn => by
    obtain ⟨b, off, e, hB, hc⟩ := h.cells hn
    exact ⟨b, off, e, hB, fun i hi => ⟨((bcell hb).1 _ _ hB).trans (hc i hi).1, ((bcell hb).1 _ _ hB).trans (hc i hi).2⟩⟩⟩
theorem Exts.more {w : World} {B B' n c : Nat} {A : Option Addr} {xs : List Ext} (h : Exts w B A n c xs) (hB : B ≤ B') : Exts w B' A n c xs :=
  ⟨h.len, h.cap, h.max, fun hn => by
    obtain ⟨b, off, e, hb, hc⟩ := h.cells hn
    exact ⟨b, off, e, by omega, hc⟩⟩

theorem Exts.at_ {w : World} {B n c b off : Nat} {A : Option Addr} {xs : List Ext} (h : Exts w B A n c xs) (hA : A = some ⟨b, off, none⟩) {i : Nat} (hi : i < n) :
    w.cell? ⟨b, off + i * 2, none⟩ = some (.int .i64 (Ex.get xs i).off) ∧ w.cell? ⟨b, off + i * 2 + 1, none⟩ = some (.int .i64 (Ex.get xs i).len) := by
  obtain ⟨b', off', e, _, hc⟩ := h.cells (by omega)
  rw [hA] at e
  cases e
  exact hc i hi
theorem cell_on {w w' : World} {a : Addr} {v : Value} (h : w.cell? a = some v) (hb : Below w.heap.size w w') : w'.cell? a = some v := (hb.cell (World.block_lt_of_cell? w a h)).trans h
theorem below_on {n : Nat} {W w w' : World} (h : Below n W w) (hn : n ≤ W.heap.size) (hb : Below w.heap.size w w') : Below n W w' := h.trans (hb.mono (Nat.le_trans hn h.size))

set_option maxRecDepth 100000 in
set_option maxHeartbeats 1000000 in
theorem valid_any (A : Option Addr) (n c : Nat) (xs : List Ext) (w : World) (hE : Exts w w.heap.size A n c xs) :
    Calls Try.prog 18 #[.slice A n c] w fun e w' => e = .returned (.bool (Ex.vldB xs)) ∧ Below w.heap.size w w' := by
  have hlen := hE.len
  have hn : n ≤ 9223372036854775807 := Nat.le_trans hE.cap hE.max
  have HE := Lib.hid hE
  have HL := Lib.hid hlen
  clear hE hlen
  go_enter Try.func18, Try.ntmps18
  go_wp2
  go_loopw [7] (fun i wr => ∃ k : Nat, k ≤ n ∧ i = .int .i64 (k : Int) ∧ Hid (Ex.okUpto xs k) ∧ Below w.heap.size w wr) (fun i _ => n - (intOf i).toNat)
  case atStart => exact ⟨0, by omega, rfl, fun i hi => by omega, Below.refl _ _⟩
  case round =>
    obtain ⟨k, hk, rfl, hok, hB⟩ := hrel
    by_cases hlt : k < n
    · obtain ⟨b, off, rfl, hb, hc⟩ := (HE.out.below hB).cells (by omega)
      obtain ⟨hc1, hc2⟩ := hc k hlt
      obtain ⟨x, hx⟩ : ∃ x, Ex.get xs k = x := ⟨_, rfl⟩
      rw [hx] at hc1 hc2
      have HX := Lib.hid hx
      clear hx hc
      have hBa : Below w.heap.size w (wr.alloc (Obj.cells #[Value.int IntKind.i64 x.off, Value.int IntKind.i64 x.len] 24)) := hB.alloc hB.size _
      have ha : ∀ (b' o' : Nat), b' < wr.heap.size → (wr.alloc (Obj.cells #[Value.int IntKind.i64 x.off, Value.int IntKind.i64 x.len] 24)).drew.cell? ⟨b', o', none⟩ = wr.cell? ⟨b', o', none⟩ := fun b' o' h => World.cell?_alloc_lt _ _ _ h
      have hbw : b < wr.heap.size := Nat.lt_of_lt_of_le hb hB.size
      go_wp2
      by_cases hp : x.prop
      · by_cases h0 : 0 < k
        · obtain ⟨j, rfl⟩ : ∃ j, k = j + 1 := ⟨k - 1, by omega⟩
          have hyp := (hok.out j (by omega)).1
          obtain ⟨y, hy⟩ : ∃ y, Ex.get xs j = y := ⟨_, rfl⟩
          obtain ⟨hd1, hd2⟩ := (HE.out.below hB).at_ rfl (i := j) (by omega)
          rw [hy] at hd1 hd2 hyp
          have HY := Lib.hid hy
          clear hy
          have hS : (wr.alloc (Obj.cells #[Value.int IntKind.i64 x.off, Value.int IntKind.i64 x.len] 24)).drew.cell? ⟨wr.heap.size, 0, none⟩ = some (.int .i64 x.off) ∧ (wr.alloc (Obj.cells #[Value.int IntKind.i64 x.off, Value.int IntKind.i64 x.len] 24)).drew.cell? ⟨wr.heap.size, 1, none⟩ = some (.int .i64 x.len) ∧ (wr.alloc (Obj.cells #[Value.int IntKind.i64 x.off, Value.int IntKind.i64 x.len] 24)).drew.cell? ⟨b, off + j * 2, none⟩ = some (.int .i64 y.off) ∧ (wr.alloc (Obj.cells #[Value.int IntKind.i64 x.off, Value.int IntKind.i64 x.len] 24)).drew.cell? ⟨b, off + j * 2 + 1, none⟩ = some (.int .i64 y.len) ∧ Below w.heap.size w (wr.alloc (Obj.cells #[Value.int IntKind.i64 x.off, Value.int IntKind.i64 x.len] 24)).drew :=
            ⟨by simp, by simp, (ha _ _ hbw).trans hd1, (ha _ _ hbw).trans hd2, hBa.drew⟩
          clear ha
          have hwj : IntKind.i64.wrap (j : Int) = j := IntWalk.i64_in _ (by omega)
          have hjn : (j : Int) < n := by omega
          have hj0 : (0 : Int) ≤ j := by omega
          have hyb : 0 ≤ y.off ∧ 0 < y.len ∧ y.off + y.len ≤ 1048576 := hyp
          by_cases hg : y.end_ < x.off
          · have hgd : decide (x.off ≤ y.end_) = false := by simp; omega
            refine wp_region_plan [(true, 0), (false, 1), (true, 2), (true, 3), (true, 4), (true, 5), (true, 6), (true, 7), (true, 8), (true, 9), (true, 10), (true, 11), (true, 12), (true, 13), (false, 14), (true, 15), (true, 16), (true, 17)] (fun w' => w'.cell? ⟨wr.heap.size, 0, none⟩ = some (.int .i64 x.off) ∧ w'.cell? ⟨wr.heap.size, 1, none⟩ = some (.int .i64 x.len) ∧ w'.cell? ⟨b, off + j * 2, none⟩ = some (.int .i64 y.off) ∧ w'.cell? ⟨b, off + j * 2 + 1, none⟩ = some (.int .i64 y.len) ∧ Below w.heap.size w w') [] (by kernel_rfl) (by kernel_rfl) (by kernel_rfl) rfl (by intro _ d _ _ _ h; cases d <;> exact h) ?_
            iterate 1 ((refine plan_yes (v := ?_) hS rfl (by rfl) (fun W hW => ?_) ?_; rotate_left; focus ((try dsimp only at hW); go_simp; (try with_reducible rfl); done)); (try simp only [Act.put, List.setIfInBounds_toArray, List.set_cons_zero, List.set_cons_succ]))
            refine plan_act rfl (fun K hK => ?_)
            go_wp2_with (go_at_call 29; refine (proper_yes x _ hp).mono ?_; rintro e w1 ⟨rfl, hb1⟩)
            have hS1 : w1.cell? ⟨wr.heap.size, 0, none⟩ = some (.int .i64 x.off) ∧ w1.cell? ⟨wr.heap.size, 1, none⟩ = some (.int .i64 x.len) ∧ w1.cell? ⟨b, off + j * 2, none⟩ = some (.int .i64 y.off) ∧ w1.cell? ⟨b, off + j * 2 + 1, none⟩ = some (.int .i64 y.len) ∧ Below w.heap.size w w1 :=
              ⟨cell_on hS.1 hb1, cell_on hS.2.1 hb1, cell_on hS.2.2.1 hb1, cell_on hS.2.2.2.1 hb1, below_on hS.2.2.2.2 (Nat.le_refl _) hb1⟩
            refine hK _ _ (fun _ => hS1) ?_
            clear hK K hb1 hS
            (try simp only [Act.put, List.setIfInBounds_toArray, List.set_cons_zero, List.set_cons_succ])
            iterate 12 ((refine plan_yes (v := ?_) hS1 rfl (by rfl) (fun W hW => ?_) ?_; rotate_left; focus ((try dsimp only at hW); go_simp; (try with_reducible rfl); done)); (try simp only [Act.put, List.setIfInBounds_toArray, List.set_cons_zero, List.set_cons_succ]))
            refine plan_act rfl (fun K hK => ?_)
            go_wp2_with (go_at_call 31; refine (end_prop y _ hyp).mono ?_; rintro e w2 ⟨rfl, hb2⟩)
            have hS2 : w2.cell? ⟨wr.heap.size, 0, none⟩ = some (.int .i64 x.off) ∧ w2.cell? ⟨wr.heap.size, 1, none⟩ = some (.int .i64 x.len) ∧ w2.cell? ⟨b, off + j * 2, none⟩ = some (.int .i64 y.off) ∧ w2.cell? ⟨b, off + j * 2 + 1, none⟩ = some (.int .i64 y.len) ∧ Below w.heap.size w w2 :=
              ⟨cell_on hS1.1 hb2, cell_on hS1.2.1 hb2, cell_on hS1.2.2.1 hb2, cell_on hS1.2.2.2.1 hb2, below_on hS1.2.2.2.2 (Nat.le_refl _) hb2⟩
            refine hK _ _ (fun _ => hS2) ?_
            clear hK K hb2 hS1
            (try simp only [Act.put, List.setIfInBounds_toArray, List.set_cons_zero, List.set_cons_succ])
            iterate 3 ((refine plan_yes (v := ?_) hS2 rfl (by rfl) (fun W hW => ?_) ?_; rotate_left; focus ((try dsimp only at hW); go_simp; (try with_reducible rfl); done)); (try simp only [Act.put, List.setIfInBounds_toArray, List.set_cons_zero, List.set_cons_succ]))
            refine plan_done ?_
            go_wp2
            go_roundw
            case rel => exact ⟨j + 1 + 1, by omega, by go_num, Ex.okUpto_succ hok.out ⟨by rw [HX.out]; exact hp, fun h => by rw [HX.out, show j + 1 - 1 = j from rfl, HY.out]; exact hg⟩, hS2.2.2.2.2⟩
            case measure => simp [intOf]; omega
          · have hgd : decide (x.off ≤ y.end_) = true := by simp; omega
            refine wp_region_plan [(true, 0), (false, 1), (true, 2), (true, 3), (true, 4), (true, 5), (true, 6), (true, 7), (true, 8), (true, 9), (true, 10), (true, 11), (true, 12), (true, 13), (false, 14), (true, 15), (true, 16), (true, 17)] (fun w' => w'.cell? ⟨wr.heap.size, 0, none⟩ = some (.int .i64 x.off) ∧ w'.cell? ⟨wr.heap.size, 1, none⟩ = some (.int .i64 x.len) ∧ w'.cell? ⟨b, off + j * 2, none⟩ = some (.int .i64 y.off) ∧ w'.cell? ⟨b, off + j * 2 + 1, none⟩ = some (.int .i64 y.len) ∧ Below w.heap.size w w') [] (by kernel_rfl) (by kernel_rfl) (by kernel_rfl) rfl (by intro _ d _ _ _ h; cases d <;> exact h) ?_
            iterate 1 ((refine plan_yes (v := ?_) hS rfl (by rfl) (fun W hW => ?_) ?_; rotate_left; focus ((try dsimp only at hW); go_simp; (try with_reducible rfl); done)); (try simp only [Act.put, List.setIfInBounds_toArray, List.set_cons_zero, List.set_cons_succ]))
            refine plan_act rfl (fun K hK => ?_)
            go_wp2_with (go_at_call 29; refine (proper_yes x _ hp).mono ?_; rintro e w1 ⟨rfl, hb1⟩)
            have hS1 : w1.cell? ⟨wr.heap.size, 0, none⟩ = some (.int .i64 x.off) ∧ w1.cell? ⟨wr.heap.size, 1, none⟩ = some (.int .i64 x.len) ∧ w1.cell? ⟨b, off + j * 2, none⟩ = some (.int .i64 y.off) ∧ w1.cell? ⟨b, off + j * 2 + 1, none⟩ = some (.int .i64 y.len) ∧ Below w.heap.size w w1 :=
              ⟨cell_on hS.1 hb1, cell_on hS.2.1 hb1, cell_on hS.2.2.1 hb1, cell_on hS.2.2.2.1 hb1, below_on hS.2.2.2.2 (Nat.le_refl _) hb1⟩
            refine hK _ _ (fun _ => hS1) ?_
            clear hK K hb1 hS
            (try simp only [Act.put, List.setIfInBounds_toArray, List.set_cons_zero, List.set_cons_succ])
            iterate 12 ((refine plan_yes (v := ?_) hS1 rfl (by rfl) (fun W hW => ?_) ?_; rotate_left; focus ((try dsimp only at hW); go_simp; (try with_reducible rfl); done)); (try simp only [Act.put, List.setIfInBounds_toArray, List.set_cons_zero, List.set_cons_succ]))
            refine plan_act rfl (fun K hK => ?_)
            go_wp2_with (go_at_call 31; refine (end_prop y _ hyp).mono ?_; rintro e w2 ⟨rfl, hb2⟩)
            have hS2 : w2.cell? ⟨wr.heap.size, 0, none⟩ = some (.int .i64 x.off) ∧ w2.cell? ⟨wr.heap.size, 1, none⟩ = some (.int .i64 x.len) ∧ w2.cell? ⟨b, off + j * 2, none⟩ = some (.int .i64 y.off) ∧ w2.cell? ⟨b, off + j * 2 + 1, none⟩ = some (.int .i64 y.len) ∧ Below w.heap.size w w2 :=
              ⟨cell_on hS1.1 hb2, cell_on hS1.2.1 hb2, cell_on hS1.2.2.1 hb2, cell_on hS1.2.2.2.1 hb2, below_on hS1.2.2.2.2 (Nat.le_refl _) hb2⟩
            refine hK _ _ (fun _ => hS2) ?_
            clear hK K hb2 hS1
            (try simp only [Act.put, List.setIfInBounds_toArray, List.set_cons_zero, List.set_cons_succ])
            iterate 3 ((refine plan_yes (v := ?_) hS2 rfl (by rfl) (fun W hW => ?_) ?_; rotate_left; focus ((try dsimp only at hW); go_simp; (try with_reducible rfl); done)); (try simp only [Act.put, List.setIfInBounds_toArray, List.set_cons_zero, List.set_cons_succ]))
            refine plan_done ?_
            go_wp2
            go_ret
            exact ⟨ret_bool (Ex.vldB_no (i := j + 1) (by rw [HL.out]; exact hlt) (fun h => by have h2 := h.2 (by omega); rw [HX.out, show j + 1 - 1 = j from rfl, HY.out] at h2; omega)).symm, hS2.2.2.2.2⟩
        · have hS : (wr.alloc (Obj.cells #[Value.int IntKind.i64 x.off, Value.int IntKind.i64 x.len] 24)).drew.cell? ⟨wr.heap.size, 0, none⟩ = some (.int .i64 x.off) ∧ (wr.alloc (Obj.cells #[Value.int IntKind.i64 x.off, Value.int IntKind.i64 x.len] 24)).drew.cell? ⟨wr.heap.size, 1, none⟩ = some (.int .i64 x.len) ∧ Below w.heap.size w (wr.alloc (Obj.cells #[Value.int IntKind.i64 x.off, Value.int IntKind.i64 x.len] 24)).drew :=
            ⟨by simp, by simp, hBa.drew⟩
          refine wp_region_plan [(true, 0), (false, 1), (true, 2), (true, 3), (true, 4), (true, 5), (true, 6), (true, 7), (true, 8), (true, 9), (true, 10), (true, 11), (true, 12), (true, 13), (false, 14), (true, 15), (true, 16), (true, 17)] (fun w' => w'.cell? ⟨wr.heap.size, 0, none⟩ = some (.int .i64 x.off) ∧ w'.cell? ⟨wr.heap.size, 1, none⟩ = some (.int .i64 x.len) ∧ Below w.heap.size w w') [] (by kernel_rfl) (by kernel_rfl) (by kernel_rfl) rfl (by intro _ d _ _ _ h; cases d <;> exact h) ?_
          iterate 1 ((refine plan_yes (v := ?_) hS rfl (by rfl) (fun W hW => ?_) ?_; rotate_left; focus ((try dsimp only at hW); go_simp; (try with_reducible rfl); done)); (try simp only [Act.put, List.setIfInBounds_toArray, List.set_cons_zero, List.set_cons_succ]))
          refine plan_act rfl (fun K hK => ?_)
          go_wp2_with (go_at_call 29; refine (proper_yes x _ hp).mono ?_; rintro e w1 ⟨rfl, hb1⟩)
          have hS1 : w1.cell? ⟨wr.heap.size, 0, none⟩ = some (.int .i64 x.off) ∧ w1.cell? ⟨wr.heap.size, 1, none⟩ = some (.int .i64 x.len) ∧ Below w.heap.size w w1 :=
            ⟨cell_on hS.1 hb1, cell_on hS.2.1 hb1, below_on hS.2.2 (Nat.le_refl _) hb1⟩
          refine hK _ _ (fun _ => hS1) ?_
          clear hK K hb1 hS
          (try simp only [Act.put, List.setIfInBounds_toArray, List.set_cons_zero, List.set_cons_succ])
          iterate 5 ((refine plan_yes (v := ?_) hS1 rfl (by rfl) (fun W hW => ?_) ?_; rotate_left; focus ((try dsimp only at hW); go_simp; (try with_reducible rfl); done)); (try simp only [Act.put, List.setIfInBounds_toArray, List.set_cons_zero, List.set_cons_succ]))
          iterate 7 (refine plan_no hS1 rfl (by rfl) ?_; (try simp only [Act.put, List.setIfInBounds_toArray, List.set_cons_zero, List.set_cons_succ]))
          refine plan_skip rfl (by rfl) hS1 ?_
          (try simp only [Act.put, List.setIfInBounds_toArray, List.set_cons_zero, List.set_cons_succ])
          iterate 1 (refine plan_no hS1 rfl (by rfl) ?_; (try simp only [Act.put, List.setIfInBounds_toArray, List.set_cons_zero, List.set_cons_succ]))
          iterate 2 ((refine plan_yes (v := ?_) hS1 rfl (by rfl) (fun W hW => ?_) ?_; rotate_left; focus ((try dsimp only at hW); go_simp; (try with_reducible rfl); done)); (try simp only [Act.put, List.setIfInBounds_toArray, List.set_cons_zero, List.set_cons_succ]))
          refine plan_done ?_
          go_wp2
          go_roundw
          case rel => exact ⟨k + 1, by omega, by go_num, Ex.okUpto_succ hok.out ⟨by rw [HX.out]; exact hp, fun h => absurd h h0⟩, hS1.2.2⟩
          case measure => simp [intOf]; omega
      · have hS : (wr.alloc (Obj.cells #[Value.int IntKind.i64 x.off, Value.int IntKind.i64 x.len] 24)).drew.cell? ⟨wr.heap.size, 0, none⟩ = some (.int .i64 x.off) ∧ (wr.alloc (Obj.cells #[Value.int IntKind.i64 x.off, Value.int IntKind.i64 x.len] 24)).drew.cell? ⟨wr.heap.size, 1, none⟩ = some (.int .i64 x.len) ∧ Below w.heap.size w (wr.alloc (Obj.cells #[Value.int IntKind.i64 x.off, Value.int IntKind.i64 x.len] 24)).drew :=
          ⟨by simp, by simp, hBa.drew⟩
        refine wp_region_plan [(true, 0), (false, 1), (true, 2), (true, 3), (true, 4), (true, 5), (true, 6), (true, 7), (true, 8), (true, 9), (true, 10), (true, 11), (true, 12), (true, 13), (false, 14), (true, 15), (true, 16), (true, 17)] (fun w' => w'.cell? ⟨wr.heap.size, 0, none⟩ = some (.int .i64 x.off) ∧ w'.cell? ⟨wr.heap.size, 1, none⟩ = some (.int .i64 x.len) ∧ Below w.heap.size w w') [] (by kernel_rfl) (by kernel_rfl) (by kernel_rfl) rfl (by intro _ d _ _ _ h; cases d <;> exact h) ?_
        iterate 1 ((refine plan_yes (v := ?_) hS rfl (by rfl) (fun W hW => ?_) ?_; rotate_left; focus ((try dsimp only at hW); go_simp; (try with_reducible rfl); done)); (try simp only [Act.put, List.setIfInBounds_toArray, List.set_cons_zero, List.set_cons_succ]))
        refine plan_act rfl (fun K hK => ?_)
        go_wp2_with (go_at_call 29; refine (proper_no x _ hp).mono ?_; rintro e w1 ⟨rfl, hb1⟩)
        have hS1 : w1.cell? ⟨wr.heap.size, 0, none⟩ = some (.int .i64 x.off) ∧ w1.cell? ⟨wr.heap.size, 1, none⟩ = some (.int .i64 x.len) ∧ Below w.heap.size w w1 :=
          ⟨cell_on hS.1 hb1, cell_on hS.2.1 hb1, below_on hS.2.2 (Nat.le_refl _) hb1⟩
        refine hK _ _ (fun _ => hS1) ?_
        clear hK K hb1 hS
        (try simp only [Act.put, List.setIfInBounds_toArray, List.set_cons_zero, List.set_cons_succ])
        iterate 2 ((refine plan_yes (v := ?_) hS1 rfl (by rfl) (fun W hW => ?_) ?_; rotate_left; focus ((try dsimp only at hW); go_simp; (try with_reducible rfl); done)); (try simp only [Act.put, List.setIfInBounds_toArray, List.set_cons_zero, List.set_cons_succ]))
        iterate 10 (refine plan_no hS1 rfl (by rfl) ?_; (try simp only [Act.put, List.setIfInBounds_toArray, List.set_cons_zero, List.set_cons_succ]))
        refine plan_skip rfl (by rfl) hS1 ?_
        (try simp only [Act.put, List.setIfInBounds_toArray, List.set_cons_zero, List.set_cons_succ])
        iterate 2 (refine plan_no hS1 rfl (by rfl) ?_; (try simp only [Act.put, List.setIfInBounds_toArray, List.set_cons_zero, List.set_cons_succ]))
        iterate 1 ((refine plan_yes (v := ?_) hS1 rfl (by rfl) (fun W hW => ?_) ?_; rotate_left; focus ((try dsimp only at hW); go_simp; (try with_reducible rfl); done)); (try simp only [Act.put, List.setIfInBounds_toArray, List.set_cons_zero, List.set_cons_succ]))
        refine plan_done ?_
        go_wp2
        go_ret
        exact ⟨ret_bool (Ex.vldB_no (i := k) (by rw [HL.out]; exact hlt) (fun h => hp (by rw [← HX.out]; exact h.1))).symm, hS1.2.2⟩
    · obtain rfl : k = n := by omega
      go_wp2
      go_ret
      exact ⟨ret_bool (Ex.vldB_yes (by rw [HL.out]; exact hok.out)).symm, hB⟩
end Go.Proofs.Ytabjbghmldiokaa
