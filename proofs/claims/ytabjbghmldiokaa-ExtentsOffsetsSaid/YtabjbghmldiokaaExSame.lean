/- Contracts of SameExtents, Total and Contains of the reference, and of Total. -/
import Derived.Test.YtabjbghmldiokaaExValid
namespace Go.Proofs.Ytabjbghmldiokaa
open Go.RowKit Go.Shelf
set_option linter.unusedVariables false

theorem get_ext {xs ys : List Ext} (hl : xs.length = ys.length) (h : ∀ i, i < xs.length → Ex.get xs i = Ex.get ys i) : xs = ys := by
  apply List.ext_getElem hl
  intro i h1 h2
  have := h i h1
  simpa [Ex.get, h1, h2] using this

def sameB (xs ys : List Ext) : Bool := decide (xs = ys)
theorem same_yes {xs ys : List Ext} (hl : xs.length = ys.length) (h : ∀ i, i < xs.length → Ex.get xs i = Ex.get ys i) : sameB xs ys = true := decide_eq_true (get_ext hl h)
theorem same_no {xs ys : List Ext} {i : Nat} (h : Ex.get xs i ≠ Ex.get ys i) : sameB xs ys = false := decide_eq_false (fun e => h (by rw [e]))
theorem same_len {xs ys : List Ext} (h : xs.length ≠ ys.length) : sameB xs ys = false := decide_eq_false (fun e => h (by rw [e]))

set_option maxRecDepth 100000 in
set_option maxHeartbeats 1000000 in
theorem same_any (A B : Option Addr) (n c m d : Nat) (xs ys : List Ext) (w : World) (hE : Exts w w.heap.size A n c xs) (hF : Exts w w.heap.size B m d ys) :
    Calls Try.prog 17 #[.slice A n c, .slice B m d] w fun e w' => e = .returned (.bool (sameB xs ys)) ∧ Below w.heap.size w w' := by
  have hl1 := hE.len
  have hl2 := hF.len
  have hn : n ≤ 9223372036854775807 := Nat.le_trans hE.cap hE.max
  have hm : m ≤ 9223372036854775807 := Nat.le_trans hF.cap hF.max
  have HE := Lib.hid hE
  have HF := Lib.hid hF
  have HL := Lib.hid (And.intro hl1 hl2)
  clear hE hF hl1 hl2
  by_cases hnm : n = m
  · subst hnm
    go_enter Try.func17, Try.ntmps17
    go_wp2
    go_loopw [5] (fun i wr => ∃ k : Nat, k ≤ n ∧ i = .int .i64 (k : Int) ∧ Hid (∀ j, j < k → Ex.get xs j = Ex.get ys j) ∧ Below w.heap.size w wr) (fun i _ => n - (intOf i).toNat)
    case atStart => exact ⟨0, by omega, rfl, fun i hi => by omega, Below.refl _ _⟩
    case round =>
      obtain ⟨k, hk, rfl, hok, hB⟩ := hrel
      by_cases hlt : k < n
      · obtain ⟨b, off, rfl, hb, hc⟩ := (HE.out.below hB).cells (by omega)
        obtain ⟨b', off', rfl, hb', hc'⟩ := (HF.out.below hB).cells (by omega)
        obtain ⟨hc1, hc2⟩ := hc k hlt
        obtain ⟨hd1, hd2⟩ := hc' k hlt
        obtain ⟨x, hx⟩ : ∃ x, Ex.get xs k = x := ⟨_, rfl⟩
        obtain ⟨y, hy⟩ : ∃ y, Ex.get ys k = y := ⟨_, rfl⟩
        rw [hx] at hc1 hc2
        rw [hy] at hd1 hd2
        have HX := Lib.hid (And.intro hx hy)
        clear hx hy hc hc'
        have hk0 : (0 : Int) ≤ k := by omega
        have hkn : (k : Int) < n := by omega
        go_wp2
        have hS : wr.drew.cell? ⟨b, off + k * 2, none⟩ = some (.int .i64 x.off) ∧ wr.drew.cell? ⟨b, off + k * 2 + 1, none⟩ = some (.int .i64 x.len) ∧ wr.drew.cell? ⟨b', off' + k * 2, none⟩ = some (.int .i64 y.off) ∧ wr.drew.cell? ⟨b', off' + k * 2 + 1, none⟩ = some (.int .i64 y.len) ∧ Below w.heap.size w wr.drew := ⟨hc1, hc2, hd1, hd2, hB.drew⟩
        by_cases he1 : x.off = y.off
        · by_cases he2 : x.len = y.len
          · have hq1 : (x.off == y.off) = true := by rw [he1]; exact beq_self_eq_true _
            have hq2 : (x.len == y.len) = true := by rw [he2]; exact beq_self_eq_true _
            have HQ := Lib.hid (And.intro he1 he2)
            clear he1 he2
            refine wp_region_plan [(true, 0), (true, 1), (true, 2), (true, 3), (true, 4), (true, 5), (true, 6), (true, 7), (true, 8)] (fun w' => w'.cell? ⟨b, off + k * 2, none⟩ = some (.int .i64 x.off) ∧ w'.cell? ⟨b, off + k * 2 + 1, none⟩ = some (.int .i64 x.len) ∧ w'.cell? ⟨b', off' + k * 2, none⟩ = some (.int .i64 y.off) ∧ w'.cell? ⟨b', off' + k * 2 + 1, none⟩ = some (.int .i64 y.len) ∧ Below w.heap.size w w') [] (by kernel_rfl) (by kernel_rfl) (by kernel_rfl) rfl (by intro _ d _ _ _ h; cases d <;> exact h) ?_
            iterate 9 ((refine plan_yes (v := ?_) hS rfl (by rfl) (fun W hW => ?_) ?_; rotate_left; focus ((try dsimp only at hW); go_simp; (try with_reducible rfl); done)); (try simp only [Act.put, List.setIfInBounds_toArray, List.set_cons_zero, List.set_cons_succ]))
            refine plan_done ?_
            go_wp2
            go_roundw
            case rel => exact ⟨k + 1, by omega, by go_num, fun j hj => by
              rcases Nat.lt_or_ge j k with h | h
              · exact hok.out j h
              · obtain rfl : j = k := by omega
                rw [HX.out.1, HX.out.2]
                cases x; cases y; exact (Ext.mk.injEq .. ▸ HQ.out), hS.2.2.2.2⟩
            case measure => simp [intOf]; omega
          · have hq1 : (x.off == y.off) = true := by rw [he1]; exact beq_self_eq_true _
            have hq2 : (x.len == y.len) = false := beq_eq_false_iff_ne.2 he2
            have HQ : Hid (x ≠ y) := fun e => he2 (by rw [e])
            clear he1 he2
            refine wp_region_plan [(true, 0), (true, 1), (true, 2), (true, 3), (true, 4), (true, 5), (true, 6), (true, 7), (true, 8)] (fun w' => w'.cell? ⟨b, off + k * 2, none⟩ = some (.int .i64 x.off) ∧ w'.cell? ⟨b, off + k * 2 + 1, none⟩ = some (.int .i64 x.len) ∧ w'.cell? ⟨b', off' + k * 2, none⟩ = some (.int .i64 y.off) ∧ w'.cell? ⟨b', off' + k * 2 + 1, none⟩ = some (.int .i64 y.len) ∧ Below w.heap.size w w') [] (by kernel_rfl) (by kernel_rfl) (by kernel_rfl) rfl (by intro _ d _ _ _ h; cases d <;> exact h) ?_
            iterate 9 ((refine plan_yes (v := ?_) hS rfl (by rfl) (fun W hW => ?_) ?_; rotate_left; focus ((try dsimp only at hW); go_simp; (try with_reducible rfl); done)); (try simp only [Act.put, List.setIfInBounds_toArray, List.set_cons_zero, List.set_cons_succ]))
            refine plan_done ?_
            go_wp2
            go_ret
            exact ⟨ret_bool (same_no (i := k) (by rw [HX.out.1, HX.out.2]; exact HQ.out)).symm, hS.2.2.2.2⟩
        · have hq1 : (x.off == y.off) = false := beq_eq_false_iff_ne.2 he1
          have HQ : Hid (x ≠ y) := fun e => he1 (by rw [e])
          clear he1
          refine wp_region_plan [(true, 0), (true, 1), (true, 2), (true, 3), (true, 4), (true, 5), (true, 6), (true, 7), (true, 8)] (fun w' => w'.cell? ⟨b, off + k * 2, none⟩ = some (.int .i64 x.off) ∧ w'.cell? ⟨b, off + k * 2 + 1, none⟩ = some (.int .i64 x.len) ∧ w'.cell? ⟨b', off' + k * 2, none⟩ = some (.int .i64 y.off) ∧ w'.cell? ⟨b', off' + k * 2 + 1, none⟩ = some (.int .i64 y.len) ∧ Below w.heap.size w w') [] (by kernel_rfl) (by kernel_rfl) (by kernel_rfl) rfl (by intro _ d _ _ _ h; cases d <;> exact h) ?_
          iterate 9 ((refine plan_yes (v := ?_) hS rfl (by rfl) (fun W hW => ?_) ?_; rotate_left; focus ((try dsimp only at hW); go_simp; (try with_reducible rfl); done)); (try simp only [Act.put, List.setIfInBounds_toArray, List.set_cons_zero, List.set_cons_succ]))
          refine plan_done ?_
          go_wp2
          go_ret
          exact ⟨ret_bool (same_no (i := k) (by rw [HX.out.1, HX.out.2]; exact HQ.out)).symm, hS.2.2.2.2⟩
      · obtain rfl : k = n := by omega
        go_wp2
        go_ret
        exact ⟨ret_bool (same_yes (by rw [HL.out.1, HL.out.2]) (fun i hi => hok.out i (by rw [HL.out.1] at hi; exact hi))).symm, hB⟩
  · have hne : ((n : Int) != (m : Int)) = true := by rw [bne_iff_ne]; omega
    have HQ : Hid (xs.length ≠ ys.length) := by rw [HL.out.1, HL.out.2]; exact hnm
    clear hnm
    go_enter Try.func17, Try.ntmps17
    go_wp2
    go_ret
    exact ⟨ret_bool (same_len HQ.out).symm, Below.refl _ _⟩

/-- The sum of the lengths of the first k, as Go adds them. -/
def totTo (xs : List Ext) (k : Nat) : Int := (xs.take k).foldl (fun s e => wrap64 (s + e.len)) 0
def totF (xs : List Ext) : Int := totTo xs xs.length
theorem totTo_succ {xs : List Ext} {k : Nat} (h : k < xs.length) : totTo xs (k + 1) = wrap64 (totTo xs k + (Ex.get xs k).len) := by
  unfold totTo
  rw [List.take_succ_eq_append_getElem h, List.foldl_append]
  simp [Ex.get, h]

set_option maxRecDepth 100000 in
set_option maxHeartbeats 1000000 in
theorem rtotal_any (A : Option Addr) (n c : Nat) (xs : List Ext) (w : World) (hE : Exts w w.heap.size A n c xs) :
    Calls Try.prog 23 #[.slice A n c] w fun e w' => e = .returned (.int .i64 (totF xs)) ∧ Below w.heap.size w w' := by
  have hl1 := hE.len
  have hn : n ≤ 9223372036854775807 := Nat.le_trans hE.cap hE.max
  have HE := Lib.hid hE
  have HL := Lib.hid hl1
  clear hE hl1
  go_enter Try.func23, Try.ntmps23
  go_wp2
  go_loopw [3, 4] (fun s i wr => ∃ k : Nat, k ≤ n ∧ i = .int .i64 (k : Int) ∧ s = .int .i64 (totTo xs k) ∧ Below w.heap.size w wr) (fun _ i _ => n - (intOf i).toNat)
  case atStart => exact ⟨0, by omega, rfl, rfl, Below.refl _ _⟩
  case round =>
    obtain ⟨k, hk, rfl, rfl, hB⟩ := hrel
    by_cases hlt : k < n
    · obtain ⟨b, off, rfl, hb, hc⟩ := (HE.out.below hB).cells (by omega)
      obtain ⟨hc1, hc2⟩ := hc k hlt
      have hs := totTo_succ (xs := xs) (k := k) (by rw [HL.out]; exact hlt)
      obtain ⟨x, hx⟩ : ∃ x, Ex.get xs k = x := ⟨_, rfl⟩
      rw [hx] at hc1 hc2 hs
      have HS := Lib.hid hs
      clear hx hc hs
      go_wp2
      go_roundw
      case rel => exact ⟨k + 1, by omega, by go_num, by rw [HS.out], hB⟩
      case measure => simp [intOf]; omega
    · obtain rfl : k = n := by omega
      go_wp2
      go_ret
      exact ⟨ret_int (by unfold totF; rw [HL.out]), hB⟩

set_option maxRecDepth 100000 in
set_option maxHeartbeats 1000000 in
theorem total_any (A : Option Addr) (n c : Nat) (xs : List Ext) (w : World) (hE : Exts w w.heap.size A n c xs) :
    Calls Try.prog 22 #[.slice A n c] w fun e w' => e = .returned (.int .i64 (totF xs)) ∧ Below w.heap.size w w' := by
  have hl1 := hE.len
  have hn : n ≤ 9223372036854775807 := Nat.le_trans hE.cap hE.max
  have HE := Lib.hid hE
  have HL := Lib.hid hl1
  clear hE hl1
  go_enter Try.func22, Try.ntmps22
  go_wp2
  go_loopw [3, 8] (fun s i wr => ∃ k : Nat, k ≤ n ∧ i = .int .i64 (k : Int) ∧ s = .int .i64 (totTo xs k) ∧ Below w.heap.size w wr) (fun _ i _ => n - (intOf i).toNat)
  case atStart => exact ⟨0, by omega, rfl, rfl, Below.refl _ _⟩
  case round =>
    obtain ⟨k, hk, rfl, rfl, hB⟩ := hrel
    by_cases hlt : k < n
    · obtain ⟨b, off, rfl, hb, hc⟩ := (HE.out.below hB).cells (by omega)
      obtain ⟨hc1, hc2⟩ := hc k hlt
      have hs := totTo_succ (xs := xs) (k := k) (by rw [HL.out]; exact hlt)
      obtain ⟨x, hx⟩ : ∃ x, Ex.get xs k = x := ⟨_, rfl⟩
      rw [hx] at hc1 hc2 hs
      have HS := Lib.hid hs
      clear hx hc hs
      go_wp2
      go_roundw
      case rel => exact ⟨k + 1, by omega, by go_num, by rw [HS.out], hB.alloc hB.size _⟩
      case measure => simp [intOf]; omega
    · obtain rfl : k = n := by omega
      go_wp2
      go_ret
      exact ⟨ret_int (by unfold totF; rw [HL.out]), hB⟩

/-- Does the extent hold the offset, as Go reckons it? -/
def hit (x : Ext) (o : Int) : Prop := x.off ≤ o ∧ IntKind.i64.wrap (o - x.off) < x.len
instance (x : Ext) (o : Int) : Decidable (hit x o) := by unfold hit; exact inferInstance
def hasB (xs : List Ext) (o : Int) : Bool := decide (∃ i, i < xs.length ∧ hit (Ex.get xs i) o)
theorem has_yes {xs : List Ext} {o : Int} {i : Nat} (hi : i < xs.length) (h : hit (Ex.get xs i) o) : hasB xs o = true := decide_eq_true ⟨i, hi, h⟩
theorem has_no {xs : List Ext} {o : Int} (h : ∀ i, i < xs.length → ¬ hit (Ex.get xs i) o) : hasB xs o = false := decide_eq_false (fun ⟨i, hi, hh⟩ => h i hi hh)

set_option maxRecDepth 100000 in
set_option maxHeartbeats 1000000 in
theorem rcontains_any (A : Option Addr) (n c : Nat) (xs : List Ext) (o : Int) (w : World) (hE : Exts w w.heap.size A n c xs) :
    Calls Try.prog 21 #[.slice A n c, .int .i64 o] w fun e w' => e = .returned (.bool (hasB xs o)) ∧ Below w.heap.size w w' := by
  have hl1 := hE.len
  have hn : n ≤ 9223372036854775807 := Nat.le_trans hE.cap hE.max
  have HE := Lib.hid hE
  have HL := Lib.hid hl1
  clear hE hl1
  go_enter Try.func21, Try.ntmps21
  go_wp2
  go_loopw [5] (fun i wr => ∃ k : Nat, k ≤ n ∧ i = .int .i64 (k : Int) ∧ Hid (∀ j, j < k → ¬ hit (Ex.get xs j) o) ∧ Below w.heap.size w wr) (fun i _ => n - (intOf i).toNat)
  case atStart => exact ⟨0, by omega, rfl, fun i hi => by omega, Below.refl _ _⟩
  case round =>
    obtain ⟨k, hk, rfl, hno, hB⟩ := hrel
    by_cases hlt : k < n
    · obtain ⟨b, off, rfl, hb, hc⟩ := (HE.out.below hB).cells (by omega)
      obtain ⟨hc1, hc2⟩ := hc k hlt
      obtain ⟨x, hx⟩ : ∃ x, Ex.get xs k = x := ⟨_, rfl⟩
      rw [hx] at hc1 hc2
      have HX := Lib.hid hx
      clear hx hc
      have hk0 : (0 : Int) ≤ k := by omega
      have hkn : (k : Int) < n := by omega
      go_wp2
      have hS : wr.drew.cell? ⟨b, off + k * 2, none⟩ = some (.int .i64 x.off) ∧ wr.drew.cell? ⟨b, off + k * 2 + 1, none⟩ = some (.int .i64 x.len) ∧ Below w.heap.size w wr.drew := ⟨hc1, hc2, hB.drew⟩
      by_cases h1 : x.off ≤ o
      · have hq1 : decide (x.off ≤ o) = true := by simpa using h1
        by_cases h2 : IntKind.i64.wrap (o - x.off) < x.len
        · have hq2 : decide (IntKind.i64.wrap (o - x.off) < x.len) = true := by simpa using h2
          have HQ : Hid (hit x o) := ⟨h1, h2⟩
          clear h1 h2
          refine wp_region_plan [(true, 0), (true, 1), (true, 2), (true, 3), (true, 4), (true, 5), (true, 6), (true, 7), (true, 8), (true, 9), (true, 10), (true, 11), (true, 12), (true, 13), (true, 14), (true, 15), (true, 16), (true, 17), (true, 18), (true, 19), (true, 20), (true, 21)] (fun w' => w'.cell? ⟨b, off + k * 2, none⟩ = some (.int .i64 x.off) ∧ w'.cell? ⟨b, off + k * 2 + 1, none⟩ = some (.int .i64 x.len) ∧ Below w.heap.size w w') [] (by kernel_rfl) (by kernel_rfl) (by kernel_rfl) rfl (by intro _ d _ _ _ h; cases d <;> exact h) ?_
          iterate 22 ((refine plan_yes (v := ?_) hS rfl (by rfl) (fun W hW => ?_) ?_; rotate_left; focus ((try dsimp only at hW); go_simp; (try with_reducible rfl); done)); (try simp only [Act.put, List.setIfInBounds_toArray, List.set_cons_zero, List.set_cons_succ]))
          refine plan_done ?_
          go_wp2
          go_ret
          exact ⟨ret_bool (has_yes (i := k) (by rw [HL.out]; exact hlt) (by rw [HX.out]; exact HQ.out)).symm, hS.2.2⟩
        · have hq2 : decide (IntKind.i64.wrap (o - x.off) < x.len) = false := by simp; omega
          have HQ : Hid (¬ hit x o) := fun h => h2 h.2
          clear h1 h2
          refine wp_region_plan [(true, 0), (true, 1), (true, 2), (true, 3), (true, 4), (true, 5), (true, 6), (true, 7), (true, 8), (true, 9), (true, 10), (true, 11), (true, 12), (true, 13), (true, 14), (true, 15), (true, 16), (true, 17), (true, 18), (true, 19), (true, 20), (true, 21)] (fun w' => w'.cell? ⟨b, off + k * 2, none⟩ = some (.int .i64 x.off) ∧ w'.cell? ⟨b, off + k * 2 + 1, none⟩ = some (.int .i64 x.len) ∧ Below w.heap.size w w') [] (by kernel_rfl) (by kernel_rfl) (by kernel_rfl) rfl (by intro _ d _ _ _ h; cases d <;> exact h) ?_
          iterate 22 ((refine plan_yes (v := ?_) hS rfl (by rfl) (fun W hW => ?_) ?_; rotate_left; focus ((try dsimp only at hW); go_simp; (try with_reducible rfl); done)); (try simp only [Act.put, List.setIfInBounds_toArray, List.set_cons_zero, List.set_cons_succ]))
          refine plan_done ?_
          go_wp2
          go_roundw
          case rel => exact ⟨k + 1, by omega, by go_num, fun j hj => by
            rcases Nat.lt_or_ge j k with h | h
            · exact hno.out j h
            · obtain rfl : j = k := by omega
              rw [HX.out]; exact HQ.out, hS.2.2⟩
          case measure => simp [intOf]; omega
      · have hq1 : decide (x.off ≤ o) = false := by simp; omega
        have HQ : Hid (¬ hit x o) := fun h => h1 h.1
        clear h1
        refine wp_region_plan [(true, 0), (true, 1), (true, 2), (true, 3), (true, 4), (true, 5), (true, 6), (true, 7), (true, 8), (true, 9), (true, 10), (true, 11), (true, 12), (true, 13), (true, 14), (true, 15), (true, 16), (true, 17), (true, 18), (true, 19), (true, 20), (true, 21)] (fun w' => w'.cell? ⟨b, off + k * 2, none⟩ = some (.int .i64 x.off) ∧ w'.cell? ⟨b, off + k * 2 + 1, none⟩ = some (.int .i64 x.len) ∧ Below w.heap.size w w') [] (by kernel_rfl) (by kernel_rfl) (by kernel_rfl) rfl (by intro _ d _ _ _ h; cases d <;> exact h) ?_
        iterate 8 ((refine plan_yes (v := ?_) hS rfl (by rfl) (fun W hW => ?_) ?_; rotate_left; focus ((try dsimp only at hW); go_simp; (try with_reducible rfl); done)); (try simp only [Act.put, List.setIfInBounds_toArray, List.set_cons_zero, List.set_cons_succ]))
        iterate 13 (refine plan_no hS rfl (by rfl) ?_; (try simp only [Act.put, List.setIfInBounds_toArray, List.set_cons_zero, List.set_cons_succ]))
        iterate 1 ((refine plan_yes (v := ?_) hS rfl (by rfl) (fun W hW => ?_) ?_; rotate_left; focus ((try dsimp only at hW); go_simp; (try with_reducible rfl); done)); (try simp only [Act.put, List.setIfInBounds_toArray, List.set_cons_zero, List.set_cons_succ]))
        refine plan_done ?_
        go_wp2
        go_roundw
        case rel => exact ⟨k + 1, by omega, by go_num, fun j hj => by
          rcases Nat.lt_or_ge j k with h | h
          · exact hno.out j h
          · obtain rfl : j = k := by omega
            rw [HX.out]; exact HQ.out, hS.2.2⟩
        case measure => simp [intOf]; omega
    · obtain rfl : k = n := by omega
      go_wp2
      go_ret
      exact ⟨ret_bool (has_no (fun i hi => hno.out i (by rw [HL.out] at hi; exact hi))).symm, hB⟩
end Go.Proofs.Ytabjbghmldiokaa
