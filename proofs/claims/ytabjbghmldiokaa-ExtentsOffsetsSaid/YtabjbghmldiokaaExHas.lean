/- Contracts of Contains, and of after, which searches by halves. -/
import Derived.Test.YtabjbghmldiokaaExSame
namespace Go.Proofs.Ytabjbghmldiokaa
open Go.RowKit Go.Shelf
set_option linter.unusedVariables false

set_option maxHeartbeats 1000000 in
theorem cl_yes (x : Ext) (o : Int) (B : Nat) (w : World) (hB : w.cell? ⟨B, 0, none⟩ = some (.int .i64 o)) (h : hit x o) :
    Calls Try.prog 38 #[.agg #[.int .i64 x.off, .int .i64 x.len], .pointer (some ⟨B, 0, none⟩)] w fun e w' => e = .returned (.bool true) ∧ Below w.heap.size w w' := by
  have hl := World.block_lt_of_cell? w _ hB
  obtain ⟨h1, h2⟩ := h
  have h2' : wrap64 (o - x.off) < x.len := by rw [← IntWalk.i64_left]; exact h2
  have hq1 : decide (x.off ≤ o) = true := by simpa using h1
  have hq2 : decide (wrap64 (o - x.off) < x.len) = true := by simpa using h2'
  have ha : (w.alloc (Obj.cells #[Value.int IntKind.i64 x.off, Value.int IntKind.i64 x.len] 24)).cell? ⟨B, 0, none⟩ = some (.int .i64 o) := (World.cell?_alloc_lt _ _ _ hl).trans hB
  clear h2
  go_enter Try.func38, Try.ntmps38
  go_wp2
  go_ret
  exact ⟨rfl, (Below.refl _ _).alloc (Nat.le_refl _) _⟩

set_option maxHeartbeats 1000000 in
theorem cl_no (x : Ext) (o : Int) (B : Nat) (w : World) (hB : w.cell? ⟨B, 0, none⟩ = some (.int .i64 o)) (h : ¬ hit x o) :
    Calls Try.prog 38 #[.agg #[.int .i64 x.off, .int .i64 x.len], .pointer (some ⟨B, 0, none⟩)] w fun e w' => e = .returned (.bool false) ∧ Below w.heap.size w w' := by
  have hl := World.block_lt_of_cell? w _ hB
  have ha : (w.alloc (Obj.cells #[Value.int IntKind.i64 x.off, Value.int IntKind.i64 x.len] 24)).cell? ⟨B, 0, none⟩ = some (.int .i64 o) := (World.cell?_alloc_lt _ _ _ hl).trans hB
  by_cases h1 : x.off ≤ o
  · have h2' : ¬ wrap64 (o - x.off) < x.len := fun e => h ⟨h1, by rw [IntWalk.i64_left]; exact e⟩
    have hq1 : decide (x.off ≤ o) = true := by simpa using h1
    have hq2 : decide (wrap64 (o - x.off) < x.len) = false := by simpa using h2'
    clear h h2'
    go_enter Try.func38, Try.ntmps38
    go_wp2
    go_ret
    exact ⟨rfl, (Below.refl _ _).alloc (Nat.le_refl _) _⟩
  · have hq1 : decide (x.off ≤ o) = false := by simpa using h1
    clear h
    go_enter Try.func38, Try.ntmps38
    go_wp2
    go_ret
    exact ⟨rfl, (Below.refl _ _).alloc (Nat.le_refl _) _⟩

/-- What IndexFunc comes to: the first place that holds the offset, or -1. -/
def idxPost (xs : List Ext) (o : Int) (w : World) (e : Ending) (w' : World) : Prop :=
  ∃ r : Int, e = .returned (.int .i64 r) ∧ (0 ≤ r ∧ hasB xs o = true ∨ r = -1 ∧ hasB xs o = false) ∧ Below w.heap.size w w'

set_option maxRecDepth 100000 in
set_option maxHeartbeats 1000000 in
theorem index_any (A : Option Addr) (n c : Nat) (xs : List Ext) (o : Int) (B : Nat) (w : World) (hE : Exts w w.heap.size A n c xs) (hB0 : w.cell? ⟨B, 0, none⟩ = some (.int .i64 o)) :
    Calls Try.prog 46 #[.slice A n c, .func (.func 38) #[] #[.pointer (some ⟨B, 0, none⟩)]] w (idxPost xs o w) := by
  have hl1 := hE.len
  have hn : n ≤ 9223372036854775807 := Nat.le_trans hE.cap hE.max
  have hlB := World.block_lt_of_cell? w _ hB0
  have HE := Lib.hid hE
  have HL := Lib.hid hl1
  clear hE hl1
  go_enter Try.func46, Try.ntmps46
  go_wp2
  go_loopw [8] (fun i wr => ∃ k : Nat, k ≤ n ∧ i = .int .i64 (k : Int) ∧ Hid (∀ j, j < k → ¬ hit (Ex.get xs j) o) ∧ Below w.heap.size w wr) (fun i _ => n - (intOf i).toNat)
  case atStart => exact ⟨0, by omega, rfl, fun i hi => by omega, Below.refl _ _⟩
  case round =>
    obtain ⟨k, hk, rfl, hno, hB⟩ := hrel
    have hBc : wr.cell? ⟨B, 0, none⟩ = some (.int .i64 o) := (hB.cell (p := ⟨B, 0, none⟩) hlB).trans hB0
    by_cases hlt : k < n
    · obtain ⟨b, off, rfl, hb, hc⟩ := (HE.out.below hB).cells (by omega)
      obtain ⟨hc1, hc2⟩ := hc k hlt
      obtain ⟨x, hx⟩ : ∃ x, Ex.get xs k = x := ⟨_, rfl⟩
      rw [hx] at hc1 hc2
      have HX := Lib.hid hx
      clear hx hc
      by_cases h : hit x o
      · have HQ := Lib.hid h
        clear h
        go_wp2_with (go_at_call 38; refine (cl_yes x o B _ hBc HQ.out).mono ?_; rintro e w1 ⟨rfl, hb1⟩)
        go_ret
        exact ⟨k, rfl, .inl ⟨by omega, has_yes (i := k) (by rw [HL.out]; exact hlt) (by rw [HX.out]; exact HQ.out)⟩, below_on hB (Nat.le_refl _) hb1⟩
      · have HQ := Lib.hid h
        clear h
        go_wp2_with (go_at_call 38; refine (cl_no x o B _ hBc HQ.out).mono ?_; rintro e w1 ⟨rfl, hb1⟩)
        go_roundw
        case rel => exact ⟨k + 1, by omega, by go_num, fun j hj => by
          rcases Nat.lt_or_ge j k with h | h
          · exact hno.out j h
          · obtain rfl : j = k := by omega
            rw [HX.out]; exact HQ.out, below_on hB (Nat.le_refl _) hb1⟩
        case measure => simp [intOf]; omega
    · obtain rfl : k = n := by omega
      go_wp2
      go_ret
      exact ⟨-1, rfl, .inr ⟨rfl, has_no (fun i hi => hno.out i (by rw [HL.out] at hi; exact hi))⟩, hB⟩

set_option maxHeartbeats 1000000 in
theorem containsf_any (A : Option Addr) (n c : Nat) (xs : List Ext) (o : Int) (B : Nat) (w : World) (hE : Exts w w.heap.size A n c xs) (hB0 : w.cell? ⟨B, 0, none⟩ = some (.int .i64 o)) :
    Calls Try.prog 37 #[.slice A n c, .func (.func 38) #[] #[.pointer (some ⟨B, 0, none⟩)]] w fun e w' => e = .returned (.bool (hasB xs o)) ∧ Below w.heap.size w w' := by
  have HI := Lib.hid (index_any A n c xs o B w hE hB0)
  clear hE hB0
  go_enter Try.func37, Try.ntmps37
  go_wp2_with fail
  refine HI.out.mono ?_
  rintro e w1 ⟨r, rfl, (⟨h1, h2⟩ | ⟨h1, h2⟩), hb1⟩
  · have H2 := Lib.hid h2
    clear h2
    go_wp2
    go_ret
    exact ⟨ret_bool (by rw [H2.out]), hb1⟩
  · have H2 := Lib.hid h2
    subst h1
    clear h2
    go_wp2
    go_ret
    exact ⟨ret_bool (by rw [H2.out]), hb1⟩

set_option maxHeartbeats 1000000 in
theorem contains_any (A : Option Addr) (n c : Nat) (xs : List Ext) (o : Int) (w : World) (hE : Exts w w.heap.size A n c xs) :
    Calls Try.prog 20 #[.slice A n c, .int .i64 o] w fun e w' => e = .returned (.bool (hasB xs o)) ∧ Below w.heap.size w w' := by
  have hEa : Exts (w.alloc (.cells #[.int .i64 o] 3)) (w.alloc (.cells #[.int .i64 o] 3)).heap.size A n c xs := (hE.below ((Below.refl _ _).alloc (Nat.le_refl _) _)).more (by simp)
  have HI := Lib.hid (containsf_any A n c xs o w.heap.size _ hEa (by simp))
  clear hE hEa
  go_enter Try.func20, Try.ntmps20
  go_wp2_with fail
  refine HI.out.mono ?_
  rintro e w1 ⟨rfl, hb1⟩
  go_wp2
  go_ret
  exact ⟨rfl, ((Below.refl _ _).alloc (Nat.le_refl _) _).trans (hb1.mono (by simp))⟩

/-- How many of the extents end at or before an offset, from the beginning on. -/
def Aft (xs : List Ext) (o : Int) (i : Nat) : Prop := i ≤ xs.length ∧ (∀ k, k < i → (Ex.get xs k).end_ ≤ o) ∧ ∀ k, i ≤ k → k < xs.length → o < (Ex.get xs k).end_
theorem vld_mono {xs : List Ext} (h : Ex.vld xs) : ∀ d k, k + d < xs.length → (Ex.get xs k).end_ ≤ (Ex.get xs (k + d)).end_
  | 0, _, _ => Int.le_refl _
  | d + 1, k, hd => by
    have h1 := vld_mono h d k (by omega)
    have h2 := (h (k + d + 1) (by omega)).2 (by omega)
    have h3 := (h (k + d + 1) (by omega)).1
    rw [show k + d + 1 - 1 = k + d from rfl] at h2
    unfold Ext.prop at h3
    unfold Ext.end_ at *
    rw [show k + (d + 1) = k + d + 1 from rfl]
    omega
theorem vld_le {xs : List Ext} (h : Ex.vld xs) {j k : Nat} (hj : j ≤ k) (hk : k < xs.length) : (Ex.get xs j).end_ ≤ (Ex.get xs k).end_ := by
  obtain ⟨d, rfl⟩ := Nat.le.dest hj
  exact vld_mono h d j hk

set_option maxRecDepth 100000 in
set_option maxHeartbeats 1000000 in
theorem acl_any (A : Option Addr) (n c : Nat) (xs : List Ext) (o : Int) (k B C : Nat) (w : World) (hE : Exts w w.heap.size A n c xs) (hv : Hid (Ex.vld xs)) (hk : k < n)
    (hB0 : w.cell? ⟨B, 0, none⟩ = some (.slice A n c)) (hC0 : w.cell? ⟨C, 0, none⟩ = some (.int .i64 o)) :
    Calls Try.prog 42 #[.int .i64 k, .pointer (some ⟨B, 0, none⟩), .pointer (some ⟨C, 0, none⟩)] w fun e w' => e = .returned (.bool (decide (o < (Ex.get xs k).end_))) ∧ Below w.heap.size w w' := by
  have hl1 := hE.len
  obtain ⟨b, off, rfl, hb, hc⟩ := hE.cells (by omega)
  obtain ⟨hc1, hc2⟩ := hc k hk
  have hx := (hv.out k (by omega)).1
  obtain ⟨x, hxx⟩ : ∃ x, Ex.get xs k = x := ⟨_, rfl⟩
  rw [hxx] at hc1 hc2 hx ⊢
  have hn : n ≤ 9223372036854775807 := Nat.le_trans hE.cap hE.max
  have HX := Lib.hid hx
  clear hE hc hxx hl1 hx
  go_enter Try.func42, Try.ntmps42
  have hk0 : (0 : Int) ≤ k := by omega
  have hkn : (k : Int) < n := by omega
  go_wp2
  have hS : w.drew.cell? ⟨B, 0, none⟩ = some (.slice (some ⟨b, off, none⟩) n c) ∧ w.drew.cell? ⟨C, 0, none⟩ = some (.int .i64 o) ∧ w.drew.cell? ⟨b, off + k * 2, none⟩ = some (.int .i64 x.off) ∧ w.drew.cell? ⟨b, off + k * 2 + 1, none⟩ = some (.int .i64 x.len) ∧ Below w.heap.size w w.drew := ⟨hB0, hC0, hc1, hc2, (Below.refl _ w).drew⟩
  refine wp_region_plan [(true, 0), (true, 1), (true, 2), (true, 3), (true, 5), (false, 4), (true, 6), (true, 7)] (fun w' => w'.cell? ⟨B, 0, none⟩ = some (.slice (some ⟨b, off, none⟩) n c) ∧ w'.cell? ⟨C, 0, none⟩ = some (.int .i64 o) ∧ w'.cell? ⟨b, off + k * 2, none⟩ = some (.int .i64 x.off) ∧ w'.cell? ⟨b, off + k * 2 + 1, none⟩ = some (.int .i64 x.len) ∧ Below w.heap.size w w') [] (by kernel_rfl) (by kernel_rfl) (by kernel_rfl) rfl (by intro _ d _ _ _ h; cases d <;> exact h) ?_
  iterate 5 ((refine plan_yes (v := ?_) hS rfl (by rfl) (fun W hW => ?_) ?_; rotate_left; focus ((try dsimp only at hW); go_simp; (try with_reducible rfl); done)); (try simp only [Act.put, List.setIfInBounds_toArray, List.set_cons_zero, List.set_cons_succ]))
  refine plan_act rfl (fun K hK => ?_)
  go_wp2_with (go_at_call 31; refine (end_prop x _ HX.out).mono ?_; rintro e w1 ⟨rfl, hb1⟩)
  have hS1 : w1.cell? ⟨B, 0, none⟩ = some (.slice (some ⟨b, off, none⟩) n c) ∧ w1.cell? ⟨C, 0, none⟩ = some (.int .i64 o) ∧ w1.cell? ⟨b, off + k * 2, none⟩ = some (.int .i64 x.off) ∧ w1.cell? ⟨b, off + k * 2 + 1, none⟩ = some (.int .i64 x.len) ∧ Below w.heap.size w w1 := ⟨cell_on hS.1 hb1, cell_on hS.2.1 hb1, cell_on hS.2.2.1 hb1, cell_on hS.2.2.2.1 hb1, below_on hS.2.2.2.2 (Nat.le_refl _) hb1⟩
  refine hK _ _ (fun _ => hS1) ?_
  clear hS
  clear hK K
  (try simp only [Act.put, List.setIfInBounds_toArray, List.set_cons_zero, List.set_cons_succ])
  iterate 2 ((refine plan_yes (v := ?_) hS1 rfl (by rfl) (fun W hW => ?_) ?_; rotate_left; focus ((try dsimp only at hW); go_simp; (try with_reducible rfl); done)); (try simp only [Act.put, List.setIfInBounds_toArray, List.set_cons_zero, List.set_cons_succ]))
  refine plan_done ?_
  go_wp2
  go_ret
  exact ⟨rfl, hS1.2.2.2.2⟩

theorem acl_yes (A : Option Addr) (n c : Nat) (xs : List Ext) (o : Int) (k B C : Nat) (w : World) (hE : Exts w w.heap.size A n c xs) (hv : Hid (Ex.vld xs)) (hk : k < n) (h : o < (Ex.get xs k).end_)
    (hB0 : w.cell? ⟨B, 0, none⟩ = some (.slice A n c)) (hC0 : w.cell? ⟨C, 0, none⟩ = some (.int .i64 o)) :
    Calls Try.prog 42 #[.int .i64 k, .pointer (some ⟨B, 0, none⟩), .pointer (some ⟨C, 0, none⟩)] w fun e w' => e = .returned (.bool true) ∧ Below w.heap.size w w' := by
  have := acl_any A n c xs o k B C w hE hv hk hB0 hC0
  rwa [decide_eq_true h] at this
theorem acl_no (A : Option Addr) (n c : Nat) (xs : List Ext) (o : Int) (k B C : Nat) (w : World) (hE : Exts w w.heap.size A n c xs) (hv : Hid (Ex.vld xs)) (hk : k < n) (h : ¬ o < (Ex.get xs k).end_)
    (hB0 : w.cell? ⟨B, 0, none⟩ = some (.slice A n c)) (hC0 : w.cell? ⟨C, 0, none⟩ = some (.int .i64 o)) :
    Calls Try.prog 42 #[.int .i64 k, .pointer (some ⟨B, 0, none⟩), .pointer (some ⟨C, 0, none⟩)] w fun e w' => e = .returned (.bool false) ∧ Below w.heap.size w w' := by
  have := acl_any A n c xs o k B C w hE hv hk hB0 hC0
  rwa [decide_eq_false h] at this
theorem mid_eq (p q : Nat) (h1 : p ≤ 9223372036854775807) (h2 : q ≤ 9223372036854775807) : wrap64 (IntKind.u64.wrap (wrap64 ((p : Int) + q)) / 2) = (((p + q) / 2 : Nat) : Int) := by
  rw [IntKind.wrap_u64]
  unfold wrap64
  omega

set_option maxRecDepth 100000 in
set_option maxHeartbeats 1000000 in
theorem search_any (A : Option Addr) (n c : Nat) (xs : List Ext) (o : Int) (B C : Nat) (w : World) (hE : Exts w w.heap.size A n c xs) (hv : Hid (Ex.vld xs))
    (hB0 : w.cell? ⟨B, 0, none⟩ = some (.slice A n c)) (hC0 : w.cell? ⟨C, 0, none⟩ = some (.int .i64 o)) :
    Calls Try.prog 41 #[.int .i64 n, .func (.func 42) #[] #[.pointer (some ⟨B, 0, none⟩), .pointer (some ⟨C, 0, none⟩)]] w fun e w' => (∃ i : Nat, e = .returned (.int .i64 i) ∧ Aft xs o i) ∧ Below w.heap.size w w' := by
  have hl1 := hE.len
  have hn : n ≤ 9223372036854775807 := Nat.le_trans hE.cap hE.max
  have hlB := World.block_lt_of_cell? w _ hB0
  have hlC := World.block_lt_of_cell? w _ hC0
  have HE := Lib.hid hE
  have HL := Lib.hid hl1
  clear hE hl1
  go_enter Try.func41, Try.ntmps41
  go_wp2
  go_loopw [5, 6] (fun i j wr => ∃ p q : Nat, p ≤ q ∧ q ≤ n ∧ i = .int .i64 (p : Int) ∧ j = .int .i64 (q : Int) ∧ Hid ((∀ k, k < p → (Ex.get xs k).end_ ≤ o) ∧ ∀ k, q ≤ k → k < n → o < (Ex.get xs k).end_) ∧ Below w.heap.size w wr) (fun i j _ => (intOf j).toNat - (intOf i).toNat)
  case atStart => exact ⟨0, n, by omega, by omega, rfl, rfl, ⟨fun k hk => by omega, fun k h1 h2 => by omega⟩, Below.refl _ _⟩
  case round =>
    obtain ⟨p, q, hpq, hqn, rfl, rfl, hI, hB⟩ := hrel
    have hBc : wr.cell? ⟨B, 0, none⟩ = some (.slice A n c) := (hB.cell (p := ⟨B, 0, none⟩) hlB).trans hB0
    have hCc : wr.cell? ⟨C, 0, none⟩ = some (.int .i64 o) := (hB.cell (p := ⟨C, 0, none⟩) hlC).trans hC0
    by_cases hlt : p < q
    · have hm := mid_eq p q (by omega) (by omega)
      obtain ⟨h, hh⟩ : ∃ h, (p + q) / 2 = h := ⟨_, rfl⟩
      rw [hh] at hm
      have h1 : p ≤ h := by omega
      have h2 : h < q := by omega
      have HM := Lib.hid hm
      clear hm hh
      go_wp2_with fail
      rw [HM.out]
      have hvh := hv.out
      by_cases ht : o < (Ex.get xs h).end_
      · refine (acl_yes A n c xs o h B C wr (HE.out.below hB |>.more hB.size) hv (by omega) ht hBc hCc).mono ?_
        rintro e w1 ⟨rfl, hb1⟩
        clear hvh
        have HT := Lib.hid ht
        clear ht
        go_wp2
        go_roundw
        case rel => exact ⟨p, h, h1, by omega, rfl, rfl, ⟨hI.out.1, fun k hk1 hk2 => by have := vld_le hv.out hk1 (by rw [HL.out]; exact hk2); have := HT.out; omega⟩, below_on hB (Nat.le_refl _) hb1⟩
        case measure => simp [intOf]; omega
      · refine (acl_no A n c xs o h B C wr (HE.out.below hB |>.more hB.size) hv (by omega) ht hBc hCc).mono ?_
        rintro e w1 ⟨rfl, hb1⟩
        clear hvh
        have HT := Lib.hid ht
        clear ht
        go_wp2
        go_roundw
        case rel => exact ⟨h + 1, q, by omega, hqn, by go_num, rfl, ⟨fun k hk => by have := vld_le hv.out (show k ≤ h by omega) (by rw [HL.out]; omega); have := HT.out; omega, hI.out.2⟩, below_on hB (Nat.le_refl _) hb1⟩
        case measure => simp [intOf]; omega
    · obtain rfl : p = q := by omega
      go_wp2
      go_ret
      exact ⟨⟨p, rfl, by rw [HL.out]; exact hqn, hI.out.1, fun k h1 h2 => hI.out.2 k h1 (by rw [HL.out] at h2; exact h2)⟩, hB⟩

set_option maxRecDepth 100000 in
set_option maxHeartbeats 1000000 in
theorem after_any (A : Option Addr) (n c : Nat) (xs : List Ext) (o : Int) (w : World) (hE : Exts w w.heap.size A n c xs) (hv : Hid (Ex.vld xs)) :
    Calls Try.prog 30 #[.slice A n c, .int .i64 o] w fun e w' => (∃ i : Nat, e = .returned (.int .i64 i) ∧ Aft xs o i) ∧ Below w.heap.size w w' := by
  have hEa : Exts ((w.alloc (.cells #[.slice A n c] 22)).alloc (.cells #[.int .i64 o] 3)) ((w.alloc (.cells #[.slice A n c] 22)).alloc (.cells #[.int .i64 o] 3)).heap.size A n c xs :=
    (hE.below (((Below.refl _ _).alloc (Nat.le_refl _) _).alloc (by simp) _)).more (by simp; omega)
  have HI := Lib.hid (search_any A n c xs o w.heap.size (w.heap.size + 1) _ hEa hv (by simp) (by simp))
  clear hE hEa
  go_enter Try.func30, Try.ntmps30
  go_wp2_with fail
  refine HI.out.mono ?_
  rintro e w1 ⟨⟨i, rfl, hi⟩, hb1⟩
  have HA := Lib.hid hi
  clear hi
  go_wp2
  go_ret
  exact ⟨⟨i, rfl, HA.out⟩, (((Below.refl _ _).alloc (Nat.le_refl _) _).alloc (by simp) _).trans (hb1.mono (by simp; omega))⟩
end Go.Proofs.Ytabjbghmldiokaa
