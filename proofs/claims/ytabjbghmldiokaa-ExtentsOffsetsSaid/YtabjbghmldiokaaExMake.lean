/- Contracts of pluginhostmake.Extents, which builds a valid set from a tape, and of the laws' set. -/
import Derived.Test.YtabjbghmldiokaaTape
import Derived.Test.YtabjbghmldiokaaExValid
import Derived.Test.YtabjbghmldiokaaExCell
namespace Go.Proofs.Ytabjbghmldiokaa
open Go.RowKit Go.Shelf
set_option linter.unusedVariables false

def exAt (L : List Int) : Nat → Int
  | 0 => L.getD 0 0 % 5
  | k + 1 => exAt L k + (1 + L.getD (1 + 2 * k) 0 % 9) + 1 + L.getD (1 + 2 * k + 1) 0 % 6
def exK (L : List Int) (k : Nat) : Ext := ⟨exAt L k, 1 + L.getD (1 + 2 * k) 0 % 9⟩
def exCount (L : List Int) (most : Nat) : Nat := min most (L.length / 2)
def exTo (L : List Int) (k : Nat) : List Ext := (List.range k).map (exK L)
def exList (L : List Int) (most : Nat) : List Ext := exTo L (exCount L most)
theorem exTo_succ (L : List Int) (k : Nat) : exTo L (k + 1) = exTo L k ++ [exK L k] := by simp [exTo, List.range_succ]
theorem exTo_len (L : List Int) (k : Nat) : (exTo L k).length = k := by simp [exTo]
theorem exAt_bd (L : List Int) : ∀ k, 0 ≤ exAt L k ∧ exAt L k ≤ 4 + 15 * k
  | 0 => by unfold exAt; omega
  | k + 1 => by
    have := exAt_bd L k
    unfold exAt
    omega
theorem exTo_get (L : List Int) {k i : Nat} (h : i < k) : Ex.get (exTo L k) i = exK L i := by simp [Ex.get, exTo, h]
theorem exTo_vld (L : List Int) (k : Nat) (hk : k ≤ 1000) : Ex.vld (exTo L k) := by
  intro i hi
  rw [exTo_len] at hi
  have hb := exAt_bd L i
  refine ⟨?_, fun h0 => ?_⟩
  · rw [exTo_get L hi]
    unfold Ext.prop exK
    dsimp only
    omega
  · obtain ⟨j, rfl⟩ : ∃ j, i = j + 1 := ⟨i - 1, by omega⟩
    rw [show j + 1 - 1 = j from rfl, exTo_get L hi, exTo_get L (show j < k by omega)]
    unfold exK Ext.end_
    dsimp only
    rw [show exAt L (j + 1) = exAt L j + (1 + L.getD (1 + 2 * j) 0 % 9) + 1 + L.getD (1 + 2 * j + 1) 0 % 6 from rfl]
    omega
theorem exList_vld (L : List Int) (most : Nat) (h : most ≤ 1000) : Ex.vld (exList L most) := exTo_vld L _ (by unfold exCount; omega)

/-- What Extents comes to: a slice of the call's own; of what was there only the tape has turned. -/
def mkPost (L : List Int) (most T : Nat) (w : World) (e : Ending) (w' : World) : Prop :=
  ∃ A c, e = .returned (.slice A (exCount L most) c) ∧ w'.ownsRow w.heap.size 24 2 (.slice A (exCount L most) c) (exCount L most) (exCells (exList L most)) ∧ w.grownBy w' (some T)

set_option maxRecDepth 100000 in
set_option maxHeartbeats 2000000 in
theorem extents_any (base T g c : Nat) (L : List Int) (most : Nat) (w : World) (h : Tape w base T g c L 0) (hm : most ≤ 1000) :
    Calls Try.prog 35 #[.pointer (some ⟨T, 0, none⟩), .int .i64 most] w (mkPost L most T w) := by
  obtain ⟨i0, hi, hz0, hz1, hz2⟩ := info_parts ext_info
  have hT0 := h.blk.lt
  have HT := Lib.hid h
  clear h
  go_enter Try.func35, Try.ntmps35
  go_wp2_with fail
  refine (next_any base T g c L 0 5 w HT.out (by omega) (by omega)).mono ?_
  rintro e w1 ⟨rfl, hT, hg⟩
  have hb1 := exAt_bd L 0
  have hx : L.getD 0 0 % 5 = exAt L 0 := rfl
  rw [hx]
  have HW := Lib.hid (And.intro hT hg)
  have hsz1 := hg.size
  clear hx hT hg
  go_wp2
  go_loopw [5, 6, 7] (fun v a i wr => ∃ k : Nat, k ≤ exCount L most ∧ i = .int .i64 (k : Int) ∧ a = .int .i64 (exAt L k) ∧ Hid (Tape wr base T g c L (1 + 2 * k) ∧ wr.ownsRow w.heap.size 24 2 v k (exCells (exTo L k)) ∧ w.grownBy wr (some T))) (fun _ _ i _ => most - (intOf i).toNat)
  case atStart => exact ⟨0, by omega, rfl, rfl, HW.out.1, World.ownsRow_nil _ _ _ _, HW.out.2⟩
  case round =>
    clear HW hsz1 hb1
    obtain ⟨k, hk, rfl, rfl, hI⟩ := hrel
    have hkm : k ≤ most := by unfold exCount at hk; omega
    have hkL : 2 * k ≤ L.length := by unfold exCount at hk; omega
    have hbd := exAt_bd L k
    have hTs := hI.out.1.small
    by_cases hlt : k < exCount L most
    · have h1 : k < most := by unfold exCount at hlt; omega
      have h2 : 1 + 2 * k < L.length := by unfold exCount at hlt; omega
      have hsz := hI.out.2.2.size
      go_wp2_with fail
      refine (more_any base T g c L (1 + 2 * k) _ hI.out.1).mono ?_
      rintro e w2 ⟨rfl, rfl⟩
      rw [show decide (1 + 2 * k < L.length) = true from by simpa using h2]
      go_wp2_with fail
      refine (next_any base T g c L (1 + 2 * k) 9 _ (hI.out.1.below (Below.refl _ _).drew) (by omega) (by omega)).mono ?_
      rintro e w3 ⟨rfl, hT3, hg3⟩
      have hg3w : wr.grownBy w3 (some T) := ⟨hg3.os, hg3.tape, hg3.output, hg3.size, hg3.block⟩
      have hown3 := hI.out.2.1.kept hg3w (.inr (own_blk_ne hI.out.2.1 hI.out.1.blk (by decide)))
      have hlt3 := fun k hk => (hown3.lt k hk).2
      have hG3 : w.grownBy w3 (some T) := ⟨hg3w.os.trans hI.out.2.2.os, hg3w.tape.trans hI.out.2.2.tape, hg3w.output.trans hI.out.2.2.output, Nat.le_trans hI.out.2.2.size hg3w.size, fun i hi hn => (hg3w.block i (Nat.lt_of_lt_of_le hi hI.out.2.2.size) hn).trans (hI.out.2.2.block i hi hn)⟩
      have hkc : exCells (exTo L (k + 1)) = exCells (exTo L k) ++ [.int .i64 (exAt L k), .int .i64 (1 + L.getD (1 + 2 * k) 0 % 9)] := by rw [exTo_succ, exCells_snoc]; rfl
      have hnx : exAt L (k + 1) = exAt L k + (1 + L.getD (1 + 2 * k) 0 % 9) + 1 + L.getD (1 + 2 * k + 1) 0 % 6 := rfl
      have HK := Lib.hid (And.intro hkc hnx)
      have HT3 := Lib.hid hT3
      have HG3 := Lib.hid hG3
      have hsz3 := hG3.size
      have hlT : T < w3.heap.size := hT3.blk.lt
      have hlg : g < w3.heap.size := (hT3.row.lt g rfl).2
      clear hkc hnx hT3 hg3 hg3w hG3
      obtain ⟨x, hx⟩ : ∃ x, L.getD (1 + 2 * k) 0 = x := ⟨_, rfl⟩
      rw [hx] at HK ⊢
      have hxb : 0 ≤ x % 9 ∧ x % 9 < 9 := by omega
      clear hx
      obtain ⟨y, hy⟩ : ∃ y, L.getD (1 + 2 * k + 1) 0 = y := ⟨_, rfl⟩
      rw [hy] at HK
      have hyb : 0 ≤ y % 6 ∧ y % 6 < 6 := by omega
      have HN : Hid (∀ W, Tape W base T g c L (1 + 2 * k + 1) → Calls Try.prog 44 #[.pointer (some ⟨T, 0, none⟩), .int .i64 6] W fun e w' => e = .returned (.int .i64 (y % 6)) ∧ Tape w' base T g c L (1 + 2 * k + 1 + 1) ∧ W.grownBy w' (some T)) := fun W hW => by
        have := next_any base T g c L (1 + 2 * k + 1) 6 W hW (by omega) (by omega)
        rwa [hy] at this
      clear hy
      go_wp2_with (at_builtin; go_must (refine wpList_append_any _ rfl _ _ _ rfl w.heap.size 24 i0 _ 2 16 Try.underlying22 hi hz0 hz1 hz2 rfl (by omega) _ k _ rfl ((hown3.alloc _).alloc _) (w3.heap.size + 1 + 1) _ 1 1 [.int .i64 (exAt L k), .int .i64 (1 + x % 9)] rfl (by have := reads_new (w3.alloc (.cells #[.int .i64 (exAt L k), .int .i64 (1 + x % 9)] 24)) #[.int .i64 (exAt L k), .int .i64 (1 + x % 9)] 24 2 1 rfl (w3.heap.size + 1 + 1) (by simp); simpa using this) (by simp [Value.oneCell']) (by simp only [maxLen]; omega) (by omega) (by simp; omega) ?_); intro v1 w4 hown4 hg4 hat4)
      have e1 : w4.cell? ⟨w3.heap.size, 0, none⟩ = some (.int .i64 (exAt L k)) := by
        rw [World.cell?_of_block (hg4.block w3.heap.size (by simp; omega) (fun e => by have := hlt3 _ e.symm; omega))]
        rw [World.cell?_alloc_lt _ _ _ (by simp)]
        simp
      have e2 : w4.cell? ⟨w3.heap.size, 1, none⟩ = some (.int .i64 (1 + x % 9)) := by
        rw [World.cell?_of_block (hg4.block w3.heap.size (by simp; omega) (fun e => by have := hlt3 _ e.symm; omega))]
        rw [World.cell?_alloc_lt _ _ _ (by simp)]
        simp
      have hneT : some T ≠ Value.ownBlock _ := fun e => (own_blk_ne hown3 HT3.out.blk (by decide)) e.symm
      have hneg : some g ≠ Value.ownBlock _ := fun e => by
        rcases own_own_ne hown3 HT3.out.row (by decide) with h | h
        · rw [h] at e; cases e
        · exact h (by rw [← e]; rfl)
      have hT4 : Tape w4 base T g c L (1 + 2 * k + 1) := ((HT3.out.below ((Below.refl _ _).alloc (Nat.le_refl _) _)).grown (row := none) (World.grownBy_alloc _ _ none) (by simp) (by simp)).grown hg4 hneT hneg
      have hG4 : w.grownBy w4 (some T) := by
        refine ⟨hg4.os.trans HG3.out.os, hg4.tape.trans HG3.out.tape, hg4.output.trans HG3.out.output, Nat.le_trans (Nat.le_trans HG3.out.size (by simp; omega)) hg4.size, fun i hi hn => ?_⟩
        have hne : some i ≠ Value.ownBlock _ := fun e => by have := (hown3.lt i e.symm).1; omega
        exact ((hg4.block i (by simp; omega) hne).trans ((Below.heap_alloc _ _ _ (by simp; omega)).trans (Below.heap_alloc _ _ _ (by omega)))).trans (HG3.out.block i hi hn)
      have hlT4 : w3.heap.size < w4.heap.size := by have := hg4.size; simp at this; omega
      have HW := Lib.hid (And.intro hT4 (And.intro hG4 hown4))
      clear hown3 hlt3 hown4 hg4 hat4 hneT hneg hT4 hG4
      have hwa : IntKind.i64.wrap (exAt L k + (1 + x % 9)) = exAt L k + (1 + x % 9) := IntWalk.i64_in _ (by omega)
      have hwb : IntKind.i64.wrap (exAt L k + (1 + x % 9) + 1) = exAt L k + (1 + x % 9) + 1 := IntWalk.i64_in _ (by omega)
      have hwc : IntKind.i64.wrap (exAt L k + (1 + x % 9) + 1 + y % 6) = exAt L k + (1 + x % 9) + 1 + y % 6 := IntWalk.i64_in _ (by omega)
      have hS : w4.drew.cell? ⟨w3.heap.size, 0, none⟩ = some (.int .i64 (exAt L k)) ∧ w4.drew.cell? ⟨w3.heap.size, 1, none⟩ = some (.int .i64 (1 + x % 9)) := ⟨e1, e2⟩
      refine wp_region_plan [(true, 0), (true, 1), (true, 2), (true, 3), (true, 4), (true, 5), (true, 6), (false, 7), (true, 8), (true, 9)] (fun w' => w'.cell? ⟨w3.heap.size, 0, none⟩ = some (.int .i64 (exAt L k)) ∧ w'.cell? ⟨w3.heap.size, 1, none⟩ = some (.int .i64 (1 + x % 9))) [] (by kernel_rfl) (by kernel_rfl) (by kernel_rfl) rfl (by intro _ d _ _ _ h; cases d <;> exact h) ?_
      iterate 7 ((refine plan_yes (v := ?_) hS rfl (by rfl) (fun W hW => ?_) ?_; rotate_left; focus ((try dsimp only at hW); go_simp; (try with_reducible rfl); done)); (try simp only [Act.put, List.setIfInBounds_toArray, List.set_cons_zero, List.set_cons_succ]))
      refine plan_act rfl (fun K hK => ?_)
      go_wp2_with (go_at_call 44; refine (HN.out _ (HW.out.1.below (Below.refl _ _).drew)).mono ?_; rintro e w6 ⟨rfl, hT6, hg6⟩)
      have hb6 : ∀ o, w6.cell? ⟨w3.heap.size, o, none⟩ = w4.cell? ⟨w3.heap.size, o, none⟩ := fun o => World.cell?_of_block (w := w4) (hg6.block w3.heap.size hlT4 (by simp; omega))
      have hS1 : w6.cell? ⟨w3.heap.size, 0, none⟩ = some (.int .i64 (exAt L k)) ∧ w6.cell? ⟨w3.heap.size, 1, none⟩ = some (.int .i64 (1 + x % 9)) := ⟨(hb6 0).trans e1, (hb6 1).trans e2⟩
      refine hK _ _ (fun _ => hS1) ?_
      clear hK K
      (try simp only [Act.put, List.setIfInBounds_toArray, List.set_cons_zero, List.set_cons_succ])
      iterate 2 ((refine plan_yes (v := ?_) hS1 rfl (by rfl) (fun W hW => ?_) ?_; rotate_left; focus ((try dsimp only at hW); go_simp; (try with_reducible rfl); done)); (try simp only [Act.put, List.setIfInBounds_toArray, List.set_cons_zero, List.set_cons_succ]))
      refine plan_done ?_
      clear hwa hwb hwc
      go_wp2
      go_roundw
      case rel =>
        refine ⟨k + 1, by omega, by go_num, by rw [HK.out.2], ⟨by rw [show 1 + 2 * (k + 1) = 1 + 2 * k + 1 + 1 from by omega]; exact hT6, ?_, ?_⟩⟩
        · have := HW.out.2.2.kept (show w4.grownBy w6 (some T) from ⟨hg6.os, hg6.tape, hg6.output, hg6.size, hg6.block⟩) (.inr (own_blk_ne HW.out.2.2 HW.out.1.blk (by decide)))
          rw [HK.out.1]
          exact this
        · have hG4 := HW.out.2.1
          exact ⟨hg6.os.trans hG4.os, hg6.tape.trans hG4.tape, hg6.output.trans hG4.output, Nat.le_trans hG4.size hg6.size, fun i hi hn => (hg6.block i (Nat.lt_of_lt_of_le hi hG4.size) hn).trans (hG4.block i hi hn)⟩
      case measure => simp [intOf]; omega
    · obtain rfl : k = exCount L most := by omega
      obtain ⟨A, cc, rfl⟩ := own_slice hI.out.2.1
      by_cases h1 : exCount L most < most
      · have h2 : ¬ 1 + 2 * exCount L most < L.length := by unfold exCount at h1 ⊢; omega
        go_wp2_with fail
        refine (more_any base T g c L (1 + 2 * exCount L most) _ hI.out.1).mono ?_
        rintro e w2 ⟨rfl, rfl⟩
        rw [show decide (1 + 2 * exCount L most < L.length) = false from by simpa using h2]
        go_wp2
        go_ret
        exact ⟨A, cc, rfl, hI.out.2.1, only_drew hI.out.2.2⟩
      · go_wp2
        go_ret
        exact ⟨A, cc, rfl, hI.out.2.1, hI.out.2.2⟩

/-- What the laws' set comes to. -/
def setPost (L : List Int) (w : World) (e : Ending) (w' : World) : Prop :=
  (∃ A n c, e = .returned (.slice A n c) ∧ Exts w' w'.heap.size A n c (exList (L.take 40) 12)) ∧ Below w.heap.size w w'

set_option maxHeartbeats 1000000 in
theorem set_any (A : Option Addr) (n c : Nat) (L : List Int) (w : World) (h : U16s w w.heap.size A n c L) :
    Calls Try.prog 16 #[.slice A n c] w (setPost L w) := by
  have HO := Lib.hid (of_any A n c 40 L w h (by omega))
  clear h
  go_enter Try.func16, Try.ntmps16
  go_wp2_with fail
  refine HO.out.mono ?_
  rintro e w1 ⟨⟨T, g, cap, rfl, hT⟩, hb⟩
  have HT := Lib.hid hT
  clear hT
  go_wp2_with fail
  refine (extents_any _ T g cap _ 12 w1 HT.out (by omega)).mono ?_
  rintro e w2 ⟨A2, c2, rfl, hown, hg⟩
  have hfin : Exts w2 w2.heap.size A2 (exCount (L.take 40) 12) c2 (exList (L.take 40) 12) := Exts.of_own hown
  have hB : Below w.heap.size w w2 := hb.grown hg hb.size (fun k hk => by cases hk; exact HT.out.lo)
  have HF := Lib.hid (And.intro hfin hB)
  clear hown hg hfin hB hb
  go_wp2
  go_ret
  exact ⟨⟨A2, _, c2, rfl, HF.out.1⟩, HF.out.2⟩
end Go.Proofs.Ytabjbghmldiokaa
