/- Contracts of layer 5's functions find, Round, Class. -/
import Derived.Test.YtfaanphjaghbpaaSzFind
namespace Go.Proofs.Ytfaanphjaghbpaa
open Go.RowKit Go.Shelf

attribute [local go_sem] Oper.semAt_some

set_option maxRecDepth 100000 in
set_option maxHeartbeats 1000000 in
theorem find_no (x : Int) (w : World) (hx : x < 1) : Calls Try.prog 75 #[.int .i64 x] w fun e w' => e = .returned (.tuple #[.int .i64 0, .int .i64 0, .int .i64 1]) ∧ Below w.heap.size w w' := by
  go_enter Try.func75, Try.ntmps75
  go_wp2
  exact bodyPost_ret (v := .tuple #[.int .i64 0, .int .i64 0, .int .i64 1]) (by simp [results, Try.results75, go_sem]) rfl ⟨rfl, ((((Below.refl _ _).alloc (Nat.le_refl _) _).alloc (by simp) _).alloc (by simp; omega) _).alloc (by simp; omega) _⟩

theorem rnd_hit {x : Int} {k : Nat} (hx : 1 ≤ x) (hk : k < 43) (h1 : x ≤ Sz.sz k) (h2 : ∀ j ∈ List.range k, Sz.sz j < x) :
    Sz.cla x = k ∧ Sz.rnd x = Sz.sz k ∧ Sz.err x = 0 := by
  have hb := Sz.sz_bd hk
  have hc := Sz.cls_uniq hk h1 (fun j hj => h2 j (by simpa using hj))
  unfold Sz.cla Sz.rnd Sz.err
  rw [if_neg (by omega), if_neg (by omega), if_neg (by omega), if_neg (by omega), if_neg (by omega), if_neg (by omega), hc]
  exact ⟨rfl, rfl, rfl⟩
theorem rnd_miss {x : Int} (h2 : ∀ j ∈ List.range 43, Sz.sz j < x) : Sz.cla x = 0 ∧ Sz.rnd x = 0 ∧ Sz.err x = 4 := by
  have := h2 42 (by simp)
  rw [Sz.sz_last] at this
  unfold Sz.cla Sz.rnd Sz.err
  rw [if_neg (by omega), if_pos (by omega), if_neg (by omega), if_pos (by omega), if_neg (by omega), if_pos (by omega)]
  exact ⟨rfl, rfl, rfl⟩

/-- What the loop's cells hold between two rounds. -/
def findI (B : Nat) (x : Int) (pre : List Nat) (W : World) : Prop :=
  (∀ j ∈ pre, Sz.sz j < x) ∧ Boxed W B 3 (.int .i64 x) ∧ Boxed W (B + 1) 3 (.int .i64 0) ∧ Boxed W (B + 1 + 1) 3 (.int .i64 0) ∧ Boxed W (B + 1 + 1 + 1) 24 (.int .i64 0)
def findX (B : Nat) (x : Int) (c : Code) (pre : List Nat) (W : World) : Prop :=
  ∃ q k, (c = .ret ∧ pre = q ++ [k] ∧ (∀ j ∈ q, Sz.sz j < x) ∧ x ≤ Sz.sz k) ∧ Boxed W B 3 (.int .i64 x) ∧ Boxed W (B + 1) 3 (.int .i64 k) ∧ Boxed W (B + 1 + 1) 3 (.int .i64 (Sz.sz k)) ∧ Boxed W (B + 1 + 1 + 1) 24 (.int .i64 0)
theorem findI_own (B : Nat) (x : Int) : Own (findI B x) := fun _ _ _ _ ⟨h0, h1, h2, h3, h4⟩ hg hr =>
  ⟨h0, box_keep h1 hg hr, box_keep h2 hg hr, box_keep h3 hg hr, box_keep h4 hg hr⟩
theorem findX_own (B : Nat) (x : Int) (c : Code) : Own (findX B x c) := fun _ _ _ _ ⟨q, k, h0, h1, h2, h3, h4⟩ hg hr =>
  ⟨q, k, h0, box_keep h1 hg hr, box_keep h2 hg hr, box_keep h3 hg hr, box_keep h4 hg hr⟩
set_option maxRecDepth 100000 in
set_option maxHeartbeats 2000000 in
theorem find_yes (x : Int) (w : World) (hx : 1 ≤ x) : CallsIn Fence.wide 5 Try.prog 75 #[.int .i64 x] w fun e w' => e = .returned (.tuple #[.int .i64 (Sz.cla x), .int .i64 (Sz.rnd x), .int .i64 (Sz.err x)]) ∧ Below w.heap.size w w' := by
  have hd : decide (x < 1) = false := by simp; omega
  refine callsIn_of_wp_marks Try.func75 rfl trivial ?_ rfl
  simp only [Try.ntmps75, List.size_toArray, List.length_cons, List.length_nil, Nat.reduceAdd, Nat.reduceSub, Array.replicate_succ, Array.replicate_zero, List.push_toArray, List.append_toArray, List.nil_append, List.cons_append]
  gi_wp2_with (refine ⟨trivial, ?_⟩; gi_at_call 79; refine (callsIn_wide.2 (sizes_any _)).mono ?_; rintro e w' ⟨rfl, rfl⟩)
  have hB0 : Below w.heap.size w ((((w.alloc (Obj.cells #[Value.int IntKind.i64 x] 3)).alloc (Obj.cells #[Value.int IntKind.i64 0] 3)).alloc (Obj.cells #[Value.int IntKind.i64 0] 3)).alloc (Obj.cells #[Value.int IntKind.i64 0] 24)) :=
    ((((Below.refl _ _).alloc (Nat.le_refl _) _).alloc (by simp) _).alloc (by simp; omega) _).alloc (by simp; omega) _
  have hI0 : findI w.heap.size x [] ((((w.alloc (Obj.cells #[Value.int IntKind.i64 x] 3)).alloc (Obj.cells #[Value.int IntKind.i64 0] 3)).alloc (Obj.cells #[Value.int IntKind.i64 0] 3)).alloc (Obj.cells #[Value.int IntKind.i64 0] 24)) := by
    have b1 := Boxed.new w 3 (.int .i64 x)
    have b2 := Boxed.new (w.alloc (Obj.cells #[Value.int IntKind.i64 x] 3)) 3 (.int .i64 0)
    have b3 := Boxed.new ((w.alloc (Obj.cells #[Value.int IntKind.i64 x] 3)).alloc (Obj.cells #[Value.int IntKind.i64 0] 3)) 3 (.int .i64 0)
    have b4 := Boxed.new (((w.alloc (Obj.cells #[Value.int IntKind.i64 x] 3)).alloc (Obj.cells #[Value.int IntKind.i64 0] 3)).alloc (Obj.cells #[Value.int IntKind.i64 0] 3)) 24 (.int .i64 0)
    simp only [World.size_alloc] at b2 b3 b4
    exact ⟨by simp, ((b1.alloc _).alloc _).alloc _, (b2.alloc _).alloc _, b3.alloc _, b4⟩
  have hsz : w.heap.size ≤ ((((w.alloc (Obj.cells #[Value.int IntKind.i64 x] 3)).alloc (Obj.cells #[Value.int IntKind.i64 0] 3)).alloc (Obj.cells #[Value.int IntKind.i64 0] 3)).alloc (Obj.cells #[Value.int IntKind.i64 0] 24)).heap.size := hB0.size
  obtain ⟨W0, hW0⟩ : ∃ W0, ((((w.alloc (Obj.cells #[Value.int IntKind.i64 x] 3)).alloc (Obj.cells #[Value.int IntKind.i64 0] 3)).alloc (Obj.cells #[Value.int IntKind.i64 0] 3)).alloc (Obj.cells #[Value.int IntKind.i64 0] 24)) = W0 := ⟨_, rfl⟩
  rw [hW0] at hB0 hI0 hsz ⊢
  clear hW0
  refine wpIn_rangeFunc_ownF rfl (by omega) (gf := 80) (lb := #[]) rfl trivial (enters_of Try.func80 (by kernel_rfl) rfl)
    (sizes_stops 3 W0) (fun _ _ => trivial) (fun _ _ _ _ _ _ _ _ => trivial) (Below.refl _ _) (fun _ => rfl)
    (fun pre W => findI w.heap.size x pre W ∧ Below w.heap.size w W)
    (fun c pre W => findX w.heap.size x c pre W ∧ Below w.heap.size w W)
    (OwnFrom.and ((findI_own _ _).from _) (ownFrom_below (Nat.le_refl _) hsz))
    (fun c => OwnFrom.and ((findX_own _ _ c).from _) (ownFrom_below (Nat.le_refl _) hsz))
    ⟨hI0, hB0⟩
    (fun k => { tmps := #[.int .i64 x, .pointer (some ⟨w.heap.size, 0, none⟩), .pointer (some ⟨w.heap.size + 1, 0, none⟩), .pointer (some ⟨w.heap.size + 1 + 1, 0, none⟩), .pointer (some ⟨w.heap.size + 1 + 1 + 1, 0, none⟩), .int .i64 k, .int .i64 (Sz.sz k), .int .i64 x, .bool false, .func (.func 80) #[] #[], .int .i64 k, .int .i64 (Sz.sz k), undef, undef, undef, undef, undef], defers := [] }) ?assign ?body ?done ?stop
  case assign =>
    intro l k W K hK
    gi_wp2
    exact hK
  case body =>
    rintro l pre k W ⟨⟨hlt, b1, b2, b3, b4⟩, hB⟩ hlen
    have c1 := b1.cell
    have c2 := b2.cell
    have c3 := b3.cell
    have c4 := b4.cell
    have f2 := b2.frozen
    have f3 := b3.frozen
    have f4 := b4.frozen
    gi_wp2
    · refine ⟨((KeepsOthers.setCell _ _ _).trans (KeepsOthers.setCell _ _ _)).trans (KeepsOthers.setCell _ _ _), ⟨pre, k, ⟨rfl, rfl, hlt, by assumption⟩, ?_, ?_, ?_, ?_⟩, ((hB.setCell (p := ⟨_, 0, none⟩) (by simp) _).setCell (p := ⟨_, 0, none⟩) (by simp; omega) _).setCell (p := ⟨_, 0, none⟩) (by simp; omega) _⟩
      · exact box_far (box_far (box_far b1 (by omega) _) (by omega) _) (by omega) _
      · exact box_far (box_far (b2.set _) (by omega) _) (by omega) _
      · exact box_far ((box_far b3 (by omega) _).set _) (by omega) _
      · exact (box_far (box_far b4 (by omega) _) (by omega) _).set _
    · refine ⟨KeepsOthers.refl _, trivial, ⟨fun j hj => ?_, b1, b2, b3, b4⟩, hB⟩
      rcases List.mem_append.1 hj with h | h
      · exact hlt j h
      · simp at h; subst h; assumption
  case done =>
    rintro D ys W hD rfl ⟨⟨hlt, b1, b2, b3, b4⟩, hB⟩ hK
    obtain ⟨r1, r2, r3⟩ := rnd_miss hlt
    have R := Lib.hid (And.intro r1 (And.intro r2 r3))
    clear r1 r2 r3
    have f2 := b2.frozen
    have f3 := b3.frozen
    have f4 := b4.frozen
    have c2 := b2.cell
    have c3 := b3.cell
    have c4 := b4.cell
    gi_wp2
    have hK' := (((KeepsOthers.setCell W ⟨w.heap.size + 1, 0, none⟩ (.int .i64 0)).trans (KeepsOthers.setCell _ ⟨w.heap.size + 1 + 1, 0, none⟩ (.int .i64 0))).trans (KeepsOthers.setCell _ ⟨w.heap.size + 1 + 1 + 1, 0, none⟩ (.int .i64 4))).same D _ hK rfl
    refine ⟨by simp, .inl ⟨_, _, rfl, run_takeDeferred hK', ?_⟩⟩
    have g2 := box_keep (box_far (box_far (b2.set (.int .i64 0)) (C := w.heap.size + 1 + 1) (by omega) (.int .i64 0)) (C := w.heap.size + 1 + 1 + 1) (by omega) (.int .i64 4)) (grownBy_putObj' _ D (.deferred none)) (fun r e => by cases e; exact ⟨_, hK', rfl⟩)
    have g3 := box_keep (box_far ((box_far b3 (C := w.heap.size + 1) (by omega) (.int .i64 0)).set (.int .i64 0)) (C := w.heap.size + 1 + 1 + 1) (by omega) (.int .i64 4)) (grownBy_putObj' _ D (.deferred none)) (fun r e => by cases e; exact ⟨_, hK', rfl⟩)
    have g4 := box_keep ((box_far (box_far b4 (C := w.heap.size + 1) (by omega) (.int .i64 0)) (C := w.heap.size + 1 + 1) (by omega) (.int .i64 0)).set (.int .i64 4)) (grownBy_putObj' _ D (.deferred none)) (fun r e => by cases e; exact ⟨_, hK', rfl⟩)
    refine ⟨.tuple #[.int .i64 0, .int .i64 0, .int .i64 4], ?_, by rw [R.out.1, R.out.2.1, R.out.2.2], ((((hB.setCell (p := ⟨_, 0, none⟩) (by simp) _).setCell (p := ⟨_, 0, none⟩) (by simp; omega) _).setCell (p := ⟨_, 0, none⟩) (by simp; omega) _)).trans (belowK_b (w := w) (Nat.le_refl _) _ D _ _ (by omega) hK' rfl rfl)⟩
    simp [results, Try.f75, go_sem, g2.cell, g3.cell, g4.cell]
  case stop =>
    rintro D c pre W hD ⟨k', hk', hpre⟩ ⟨⟨q, k, ⟨rfl, rfl, hlt, hle⟩, b1, b2, b3, b4⟩, hB⟩ hK
    obtain ⟨rfl, rfl⟩ : q = List.range k' ∧ k = k' := by
      rw [List.range_succ] at hpre
      have := List.append_inj' hpre rfl
      exact ⟨this.1, by simpa using this.2⟩
    obtain ⟨r1, r2, r3⟩ := rnd_hit hx hk' hle hlt
    have R := Lib.hid (And.intro r1 (And.intro r2 r3))
    clear r1 r2 r3
    gi_wp2
    refine ⟨by simp, .inl ⟨_, _, rfl, run_takeDeferred hK, ?_⟩⟩
    have g2 := box_keep b2 (grownBy_putObj' _ D (.deferred none)) (fun r e => by cases e; exact ⟨_, hK, rfl⟩)
    have g3 := box_keep b3 (grownBy_putObj' _ D (.deferred none)) (fun r e => by cases e; exact ⟨_, hK, rfl⟩)
    have g4 := box_keep b4 (grownBy_putObj' _ D (.deferred none)) (fun r e => by cases e; exact ⟨_, hK, rfl⟩)
    refine ⟨.tuple #[.int .i64 k, .int .i64 (Sz.sz k), .int .i64 0], ?_, by rw [R.out.1, R.out.2.1, R.out.2.2], hB.trans (belowK_b (w := w) (Nat.le_refl _) _ D _ _ (by omega) hK rfl rfl)⟩
    simp [results, Try.f75, go_sem, g2.cell, g3.cell, g4.cell]

theorem find_any (x : Int) (w : World) : Calls Try.prog 75 #[.int .i64 x] w fun e w' => e = .returned (.tuple #[.int .i64 (Sz.cla x), .int .i64 (Sz.rnd x), .int .i64 (Sz.err x)]) ∧ Below w.heap.size w w' := by
  by_cases hx : x < 1
  · unfold Sz.cla Sz.rnd Sz.err
    rw [if_pos hx, if_pos hx, if_pos hx]
    exact find_no x w hx
  · exact callsIn_wide.1 (find_yes x w (by omega))

set_option maxHeartbeats 1000000 in
/-- Round. -/
theorem round_any (x : Int) (w : World) : Calls Try.prog 67 #[.int .i64 x] w fun e w' => e = .returned (.tuple #[.int .i64 (Sz.rnd x), .int .i64 (Sz.err x)]) ∧ Below w.heap.size w w' := by
  go_enter Try.func67, Try.ntmps67
  go_wp2_with (go_at_call 75; refine (find_any _ _).mono ?_; rintro e w' ⟨rfl, hb⟩)
  go_ret2
  exact ⟨rfl, hb⟩
end Go.Proofs.Ytfaanphjaghbpaa
