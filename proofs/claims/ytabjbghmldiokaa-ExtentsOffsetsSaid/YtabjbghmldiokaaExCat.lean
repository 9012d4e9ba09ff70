/- Contracts of slices.Grow on nil, slices.Concat and slices.Clone at lists of extents. -/
import Derived.Test.YtabjbghmldiokaaExCell
import Derived.Lib.AppendZeros
namespace Go.Proofs.Ytabjbghmldiokaa
open Go.RowKit Go.Shelf
set_option linter.unusedVariables false

theorem Exts.reads {w : World} {B n c : Nat} {A : Option Addr} {xs : List Ext} (h : Exts w B A n c xs) : Reads w B 2 A n (exCells xs) :=
  ⟨by rw [exCells_len, h.len], fun hn => by
    obtain ⟨b, off, e, hB, hc⟩ := h.cells hn
    refine ⟨_, e, hB, fun j u hu => ?_⟩
    have hj : j < n * 2 := by
      have := (List.getElem?_eq_some_iff.1 hu).1
      rw [exCells_len, h.len] at this
      omega
    have e1 : ∀ i, (⟨b, off, none⟩ : Addr).add i = ⟨b, off + i, none⟩ := fun i => by unfold Addr.add; split <;> simp_all
    rw [e1]
    have hd := exCells_get xs (j / 2) (by have := h.len; omega)
    have hcc := hc (j / 2) (by omega)
    rcases Nat.mod_two_eq_zero_or_one j with h0 | h1
    · have e2 : j / 2 * 2 = j := by omega
      rw [e2] at hd hcc
      rw [hcc.1, ← hu, hd.1]
    · have e2 : j / 2 * 2 + 1 = j := by omega
      rw [Nat.add_assoc, e2] at hcc
      rw [e2] at hd
      rw [hcc.2, ← hu, hd.2]⟩
theorem exCells_one (xs : List Ext) : ∀ u ∈ exCells xs, u.oneCell' = true := by
  intro u hu
  obtain ⟨x, _, hx⟩ := List.mem_flatMap.1 hu
  simp at hx
  rcases hx with rfl | rfl <;> rfl

def growPost (w : World) (e : Ending) (w' : World) : Prop := ∃ A c, e = .returned (.slice A 0 c) ∧ w'.ownsRow w.heap.size 24 2 (.slice A 0 c) 0 [] ∧ Below w.heap.size w w'

set_option maxRecDepth 100000 in
set_option maxHeartbeats 1000000 in
theorem grow_any (n : Nat) (w : World) (hn : n ≤ 1000000) : Calls Try.prog 43 #[.slice none 0 0, .int .i64 n] w (growPost w) := by
  obtain ⟨i0, hi, hz0, hz1, hz2⟩ := info_parts ext_info
  by_cases h0 : n = 0
  · subst h0
    go_enter Try.func43, Try.ntmps43
    go_wp2
    go_ret
    exact ⟨none, 0, rfl, World.ownsRow_nil _ _ _ _, Below.refl _ _⟩
  · have hp : (0 : Int) < n := by omega
    have hr := fun W : World => Lib.run_append_nil_zeros (P := Try.prog) W 22 3 22 24 i0 _ .i64 .i64 Try.underlying22 Try.underlying3 hi hz0 n (by omega) (by rw [hz1]; omega) (by omega) (by rw [hz2]; omega)
    have HR := Lib.hid hr
    clear hr h0
    go_enter Try.func43, Try.ntmps43
    go_wp2_with (at_builtin; go_must (refine Lib.wpList_append_run _ rfl _ _ _ _ rfl _ _ rfl rfl _ _ (HR.out _) ?_))
    go_ret
    refine ⟨_, _, rfl, World.ownsRow_made w.drew _ _ (Nat.le_refl _) (grownCap_le_maxLen w n 0 _ (by simp only [maxLen]; omega)) ?_, ((Below.refl _ _).drew).alloc (Nat.le_refl _) _⟩
    have hge := grownCap_ge w n 0 24
    rw [Array.size_append, size_zeroCells, size_zeroCells]
    simp
    omega

def catTo (xs : Nat → List Ext) : Nat → List Ext
  | 0 => []
  | k + 1 => catTo xs k ++ xs k
def sumTo (n : Nat → Nat) : Nat → Nat
  | 0 => 0
  | k + 1 => sumTo n k + n k
theorem sumTo_mono (n : Nat → Nat) : ∀ d k, sumTo n k ≤ sumTo n (k + d)
  | 0, _ => Nat.le_refl _
  | d + 1, k => Nat.le_trans (sumTo_mono n d k) (by rw [← Nat.add_assoc]; exact Nat.le_add_right _ _)
theorem sumTo_le (n : Nat → Nat) {j k : Nat} (h : j ≤ k) : sumTo n j ≤ sumTo n k := by
  obtain ⟨d, rfl⟩ := Nat.le.dest h
  exact sumTo_mono n d j

def catPost (xs : Nat → List Ext) (n : Nat → Nat) (m : Nat) (w : World) (e : Ending) (w' : World) : Prop :=
  ∃ A c, e = .returned (.slice A (sumTo n m) c) ∧ w'.ownsRow w.heap.size 24 2 (.slice A (sumTo n m) c) (sumTo n m) (exCells (catTo xs m)) ∧ Below w.heap.size w w'

set_option maxRecDepth 100000 in
set_option maxHeartbeats 2000000 in
theorem concat_any (G m : Nat) (A : Nat → Option Addr) (n c : Nat → Nat) (xs : Nat → List Ext) (w : World) (hG : G < w.heap.size) (hm : m ≤ 100) (hs : sumTo n m ≤ 1000000)
    (hc : ∀ k, k < m → w.cell? ⟨G, k, none⟩ = some (.slice (A k) (n k) (c k))) (hE : ∀ k, k < m → Exts w w.heap.size (A k) (n k) (c k) (xs k)) :
    Calls Try.prog 32 #[.slice (some ⟨G, 0, none⟩) m m] w (catPost xs n m w) := by
  obtain ⟨i0, hi, hz0, hz1, hz2⟩ := info_parts ext_info
  have HE := Lib.hid (And.intro hc hE)
  clear hc hE
  go_enter Try.func32, Try.ntmps32
  go_wp2
  go_loop [3, 11] (fun s i => ∃ k : Nat, k ≤ m ∧ i = .int .i64 (k : Int) ∧ s = .int .i64 (sumTo n k : Nat)) (fun _ i => m - (intOf i).toNat)
  case atStart => exact ⟨0, by omega, rfl, rfl⟩
  case round =>
    obtain ⟨k, hk, rfl, rfl⟩ := hrel
    have hsk := sumTo_le n hk
    by_cases hlt : k < m
    · have hck := HE.out.1 k hlt
      have hsn : sumTo n (k + 1) = sumTo n k + n k := rfl
      have hs1 := sumTo_le n (show k + 1 ≤ m from hlt)
      rw [hsn] at hs1
      have HS := Lib.hid hsn
      clear hsn
      go_wp2
      go_round
      case rel => exact ⟨k + 1, by omega, by go_num, by rw [HS.out]; go_num⟩
      case measure => simp [intOf]; omega
    · obtain rfl : k = m := by omega
      go_wp2_with fail
      refine (grow_any _ _ hs).mono ?_
      rintro e w1 ⟨A1, c1, rfl, hown, hb1⟩
      have HW := Lib.hid (And.intro hown hb1)
      clear hown hb1
      go_wp2
      go_loopw [6, 27] (fun v i wr => ∃ j : Nat, j ≤ k ∧ i = .int .i64 (j : Int) ∧ Hid (wr.ownsRow w.heap.size 24 2 v (sumTo n j) (exCells (catTo xs j)) ∧ Below w.heap.size w wr)) (fun _ i _ => k - (intOf i).toNat)
      case atStart => exact ⟨0, by omega, rfl, HW.out⟩
      case round =>
        obtain ⟨j, hj, rfl, hI⟩ := hrel
        have hsj := sumTo_le n hj
        by_cases hlt2 : j < k
        · have hck := (hI.out.2.cell (p := ⟨G, j, none⟩) hG).trans (HE.out.1 j hlt2)
          have hEj := ((HE.out.2 j hlt2).below hI.out.2).reads
          have hsn : sumTo n (j + 1) = sumTo n j + n j := rfl
          have hs1 := sumTo_le n (show j + 1 ≤ k from hlt2)
          rw [hsn] at hs1
          have hcn : exCells (catTo xs (j + 1)) = exCells (catTo xs j) ++ exCells (xs j) := exCells_app _ _
          have HS := Lib.hid (And.intro hsn (And.intro hcn hEj))
          have hsz := hI.out.2.size
          clear hsn hcn hEj
          go_wp2_with (at_builtin; go_must (refine wpList_append_any _ rfl _ _ _ rfl w.heap.size 24 i0 _ 2 16 Try.underlying22 hi hz0 hz1 hz2 rfl (by omega) _ (sumTo n j) _ rfl hI.out.1 w.heap.size (A j) (n j) _ (exCells (xs j)) rfl HS.out.2.2 (exCells_one _) (by simp only [maxLen]; omega) (by omega) (by omega) ?_); intro v1 w4 hown4 hg4 hat4)
          go_roundw
          case rel => exact ⟨j + 1, by omega, by go_num, by rw [HS.out.1, HS.out.2.1]; exact hown4, hI.out.2.grown hg4 hsz (fun q hq => (hI.out.1.lt q hq).1)⟩
          case measure => simp [intOf]; omega
        · obtain rfl : j = k := by omega
          obtain ⟨A2, c2, rfl⟩ := own_slice hI.out.1
          go_wp2
          go_ret
          exact ⟨A2, c2, rfl, hI.out.1, hI.out.2⟩
end Go.Proofs.Ytabjbghmldiokaa
