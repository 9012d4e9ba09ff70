/- The walk of SizeclassSizes: two ranges over the sizes: one that holds each against the reference's list, one that stops. -/
import Derived.Test.YtfjnjdmdijickaaSzLeast
namespace Go.Proofs.Ytfjnjdmdijickaa
open Go.RowKit Go.Shelf
set_option linter.unusedVariables false

attribute [local go_sem] Oper.semAt_some

theorem row_keep {A W : World} {row : Option Nat} {base : Nat} {e : TypeId} {size : Nat} {v : Value} {n : Nat} {xs : List Value} (h : A.ownsRow base e size v n xs) (hg : A.grownBy W row) (hr : ∀ r, row = some r → ∃ o : Obj, A.heap[r]? = some o ∧ o.isCells = false) : W.ownsRow base e size v n xs := by
  refine h.kept hg ?_
  rcases h.2 with ⟨rfl, _⟩ | ⟨g, cap, cur, rfl, _, hgb, _⟩
  · exact .inl rfl
  · refine .inr fun e' => ?_
    obtain ⟨o, ho, hc⟩ := hr g (by simpa [Value.ownBlock] using e'.symm)
    rw [hgb] at ho; cases ho; cases hc
theorem row_below {A W : World} {n₀ : Nat} {base : Nat} {e : TypeId} {size : Nat} {g n cap : Nat} {xs : List Value} (h : A.ownsRow base e size (.slice (some ⟨g, 0, none⟩) n cap) n xs) (hb : Below n₀ A W) (hg : g < n₀) : W.ownsRow base e size (.slice (some ⟨g, 0, none⟩) n cap) n xs := by
  refine ⟨h.1, ?_⟩
  rcases h.2 with ⟨hn, _⟩ | ⟨g', cap', cur, hv, h1, h2, h3⟩
  · cases hn
  · cases hv
    exact .inr ⟨g, cap, cur, rfl, h1, (hb.block g hg).trans h2, h3⟩
theorem row_far {W : World} {base : Nat} {e : TypeId} {size : Nat} {g n cap : Nat} {xs : List Value} (h : W.ownsRow base e size (.slice (some ⟨g, 0, none⟩) n cap) n xs) {C : Nat} (hne : g ≠ C) (u : Value) : (W.setCell ⟨C, 0, none⟩ u).ownsRow base e size (.slice (some ⟨g, 0, none⟩) n cap) n xs :=
  ownsRow_setCell_other h (by simpa [Value.ownBlock] using hne) u

/-- Between two rounds of the first loop: stop, the result, the list, k. -/
def sizes1I (S0 R L K g cap base : Nat) (st : Int) (pre : List Nat) (W : World) : Prop :=
  Boxed W S0 5 (.int .u8 st) ∧ Boxed W R 4 (.bool false) ∧ Boxed W L 23 (.slice (some ⟨g, 0, none⟩) 43 cap) ∧ Boxed W K 3 (.int .i64 pre.length) ∧ W.ownsRow base 3 1 (.slice (some ⟨g, 0, none⟩) 43 cap) 43 (szCells 43)
def sizes1X (_ : Code) (pre : List Nat) (_ : World) : Prop := ∃ q j, pre = q ++ [j] ∧ j ≠ q.length
theorem sizes1I_own (S0 R L K g cap base : Nat) (st : Int) : Own (sizes1I S0 R L K g cap base st) := fun _ _ _ _ ⟨h1, h2, h3, h4, h5⟩ hg hr =>
  ⟨box_keep h1 hg hr, box_keep h2 hg hr, box_keep h3 hg hr, box_keep h4 hg hr, row_keep h5 hg hr⟩

/-- Between two rounds of the second loop: stop, the result, the list, k, m; and the first loop's block for deferred calls. -/
def sizes2B (S0 R L K M g cap D : Nat) (st : Int) (m : Nat) (W : World) : Prop :=
  Boxed W S0 5 (.int .u8 st) ∧ Boxed W R 4 (.bool false) ∧ Boxed W L 23 (.slice (some ⟨g, 0, none⟩) 43 cap) ∧ Boxed W K 3 (.int .i64 43) ∧ Boxed W M 3 (.int .i64 m) ∧ W.heap[D]? = some (.deferred (some []))
def sizes2I (S0 R L K M g cap D : Nat) (st : Int) (pre : List Nat) (W : World) : Prop := sizes2B S0 R L K M g cap D st pre.length W ∧ (pre.length : Int) ≤ st % 50
def sizes2X (S0 R L K M g cap D : Nat) (st : Int) (c : Code) (pre : List Nat) (W : World) : Prop := sizes2B S0 R L K M g cap D st pre.length W ∧ (c = .exit 2 ∧ (pre.length : Int) = st % 50 + 1)
theorem sizes2B_own (S0 R L K M g cap D : Nat) (st : Int) {B : Nat} (hD : D < B) : OwnFrom B (fun m => sizes2B S0 R L K M g cap D st m) := fun _ _ _ _ ⟨h1, h2, h3, h4, h5, h6⟩ hg hr =>
  ⟨box_keep h1 hg (fun r e => (hr r e).2), box_keep h2 hg (fun r e => (hr r e).2), box_keep h3 hg (fun r e => (hr r e).2), box_keep h4 hg (fun r e => (hr r e).2), box_keep h5 hg (fun r e => (hr r e).2),
    (hg.block D (Array.getElem?_eq_some_iff.1 h6).1 (fun e => by have := (hr D e.symm).1; omega)).trans h6⟩

/-- What the law holds in the end. -/
theorem min_fact (st m : Int) (h : (m = 43 ∧ 43 ≤ st % 50) ∨ (m ≤ 43 ∧ m = st % 50 + 1)) : min (st % 50 + 1) 43 = m := by omega

set_option maxRecDepth 100000 in
set_option maxHeartbeats 2000000 in
theorem sizes_in (st : Int) (b0 : 0 ≤ st) (b1 : st ≤ 255) (w : World) :
    CallsIn Fence.wide 5 Try.prog 3 #[.int .u8 st] w fun e w' => e = .returned (.bool true) ∧ Below w.heap.size w w' := by
  refine callsIn_of_wp_marks Try.func3 rfl trivial ?_ rfl
  simp only [Try.ntmps3, List.size_toArray, List.length_cons, List.length_nil, Nat.reduceAdd, Nat.reduceSub, Array.replicate_succ, Array.replicate_zero, List.push_toArray, List.append_toArray, List.nil_append, List.cons_append]
  gi_wp2_with fail
  refine ⟨trivial, (callsIn_wide.2 (awake5 _)).mono ?_⟩
  rintro e w1 ⟨rfl, hb1⟩
  have t1 : Boxed w1 w.heap.size 5 (.int .u8 st) := box_below ((Boxed.new w 5 _).alloc _) hb1 (by simp; omega)
  have r1 : Boxed w1 (w.heap.size + 1) 4 (.bool false) := box_below (by have := Boxed.new (w.alloc (Obj.cells #[Value.int .u8 st] 5)) 4 (.bool false); simpa using this) hb1 (by simp)
  have hB1 : Below w.heap.size w w1 := (((Below.refl _ w).alloc (Nat.le_refl _) _).alloc (by simp) _).trans (hb1.mono (by simp; omega))
  clear hb1
  gi_wp2_with fail
  refine ⟨trivial, (callsIn_wide.2 (all_any _)).mono ?_⟩
  rintro e w2 ⟨g, cap, rfl, hown, hb2⟩
  have hg := hown.lt g rfl
  have t2 := box_below t1 hb2 t1.lt
  have r2 := box_below r1 hb2 r1.lt
  have l1 := r1.lt
  have hB2 : Below w.heap.size w w2 := hB1.trans (hb2.mono hB1.size)
  clear t1 r1 hB1 hb2
  gi_wp2_with (refine ⟨trivial, ?_⟩; gi_at_call 9; refine (callsIn_wide.2 (sizes_any _)).mono ?_; rintro e w' ⟨rfl, rfl⟩)
  have W0t : sizes1I w.heap.size (w.heap.size + 1) w2.heap.size (w2.heap.size + 1) g cap w1.heap.size st [] ((w2.alloc (Obj.cells #[Value.slice (some { block := g, off := 0 }) 43 cap] 23)).alloc (Obj.cells #[Value.int IntKind.i64 0] 3)) :=
    ⟨(t2.alloc _).alloc _, (r2.alloc _).alloc _, (Boxed.new _ _ _).alloc _, by have := Boxed.new (w2.alloc (Obj.cells #[Value.slice (some { block := g, off := 0 }) 43 cap] 23)) 3 (.int .i64 0); simpa using this, (hown.alloc _).alloc _⟩
  have hB0 : Below w.heap.size w ((w2.alloc (Obj.cells #[Value.slice (some { block := g, off := 0 }) 43 cap] 23)).alloc (Obj.cells #[Value.int IntKind.i64 0] 3)) := (hB2.alloc hB2.size _).alloc (by have := hB2.size; simp; omega) _
  have hs2 := r2.lt
  have hsz := hB0.size
  have hsg : ((w2.alloc (Obj.cells #[Value.slice (some { block := g, off := 0 }) 43 cap] 23)).alloc (Obj.cells #[Value.int IntKind.i64 0] 3)).heap.size = w2.heap.size + 1 + 1 := by simp
  clear t2 r2 hown hB2
  obtain ⟨W0, hW0⟩ : ∃ W0, ((w2.alloc (Obj.cells #[Value.slice (some { block := g, off := 0 }) 43 cap] 23)).alloc (Obj.cells #[Value.int IntKind.i64 0] 3)) = W0 := ⟨_, rfl⟩
  rw [hW0] at hB0 W0t hsz hsg ⊢
  clear hW0
  have hsg' : w2.heap.size + 2 ≤ W0.heap.size := by omega
  clear hsg
  refine wpIn_rangeFunc_ownF rfl (by omega) (gf := 14) (lb := #[]) rfl trivial (enters_of Try.func14 (by kernel_rfl) rfl)
    (sizes_stops 3 W0) (fun _ _ => trivial) (fun _ _ _ _ _ _ _ _ => trivial) (Below.refl _ _) (fun _ => rfl)
    (fun pre W => sizes1I w.heap.size (w.heap.size + 1) w2.heap.size (w2.heap.size + 1) g cap w1.heap.size st pre W ∧ Below w.heap.size w W)
    (fun c pre W => sizes1X c pre W)
    (OwnFrom.and ((sizes1I_own _ _ _ _ _ _ _ _).from _) (ownFrom_below (Nat.le_refl _) hsz))
    (fun c => fun _ _ _ _ h _ _ => h)
    ⟨W0t, hB0⟩
    ?a1 ?assign ?body ?done ?stop
  case assign =>
    intro l k W K hK
    gi_wp2
    exact hK
  case body =>
    rintro l pre k W ⟨⟨h1, h2, h3, h4, h5⟩, hB⟩ hlen
    have c3 := h3.cell
    have c4 := h4.cell
    have c2 := h2.cell
    have f2 := h2.frozen
    have f4 := h4.frozen
    have HH := Lib.hid (And.intro h1 (And.intro h2 (And.intro h3 (And.intro h4 h5))))
    obtain ⟨m, hm⟩ : ∃ m, pre.length = m := ⟨_, rfl⟩
    rw [hm] at c4 hlen
    have hcell := own_cell h5 (szCells_get (k := m) hlen)
    clear h1 h2 h3 h4 h5
    by_cases hk : k = m
    · obtain rfl : k = m := hk
      have Hm := Lib.hid hm
      clear hm
      gi_wp2
      obtain ⟨h1, h2, h3, h4, h5⟩ := HH.out
      refine ⟨KeepsOthers.setCell _ _ _, trivial, ⟨box_far h1 (by omega) _, box_far h2 (by omega) _, box_far h3 (by omega) _, ?_, row_far h5 (by omega) _⟩, hB.setCell (p := ⟨_, 0, none⟩) (by simp; omega) _⟩
      have := h4.set (.int .i64 (k + 1))
      rw [List.length_append, Hm.out]
      exact this
    · have Hm := Lib.hid hm
      clear hm
      have hne : ((k : Int) != (m : Int)) = true := by rw [bne_iff_ne]; omega
      clear hk
      gi_wp2
      exact ⟨KeepsOthers.setCell _ _ _, pre, k, rfl, by have := Hm.out; rw [bne_iff_ne] at hne; omega⟩
  case stop =>
    rintro D c pre W hD ⟨k', hk', rfl⟩ ⟨q, k, hpre, h1⟩ hK
    rw [List.range_succ] at hpre
    have := List.append_inj' hpre rfl
    obtain rfl : k' = k := by simpa using this.2
    obtain rfl : List.range k' = q := this.1
    simp at h1
  case done =>
    rintro D ys W hD rfl ⟨⟨h1, h2, h3, h4, h5⟩, hB⟩ hK
    have hl := h5.lt g rfl
    have hKs := (Array.getElem?_eq_some_iff.1 hK).1
    gi_wp2_with (refine ⟨trivial, ?_⟩; gi_at_call 9; refine (callsIn_wide.2 (sizes_any _)).mono ?_; rintro e w' ⟨rfl, rfl⟩)
    have hI0 : sizes2B w.heap.size (w.heap.size + 1) w2.heap.size (w2.heap.size + 1) W.heap.size g cap D st 0 (W.alloc (Obj.cells #[Value.int IntKind.i64 0] 3)) :=
      ⟨h1.alloc _, h2.alloc _, h3.alloc _, by have := h4.alloc (Obj.cells #[Value.int IntKind.i64 0] 3); simpa using this, Boxed.new _ _ _, (Below.heap_alloc W _ D hKs).trans hK⟩
    have hB2 : Below w.heap.size w (W.alloc (Obj.cells #[Value.int IntKind.i64 0] 3)) := hB.alloc hB.size _
    have hWs : (W.alloc (Obj.cells #[Value.int IntKind.i64 0] 3)).heap.size = W.heap.size + 1 := by simp
    have hl4 := h4.lt
    clear h1 h2 h3 h4 h5 hB hK
    obtain ⟨W5, hW5⟩ : ∃ W5, W.alloc (Obj.cells #[Value.int IntKind.i64 0] 3) = W5 := ⟨_, rfl⟩
    rw [hW5] at hI0 hB2 hWs ⊢
    clear hW5
    have hWs' : D < W5.heap.size ∧ W.heap.size < W5.heap.size := by omega
    clear hWs
    have hsz2 := hB2.size
    refine wpIn_rangeFunc_ownF rfl (by omega) (gf := 14) (lb := #[]) rfl trivial (enters_of Try.func14 (by kernel_rfl) rfl)
      (sizes_stops 3 W5) (fun _ _ => trivial) (fun _ _ _ _ _ _ _ _ => trivial) (Below.refl _ _) (fun _ => rfl)
      (fun pre V => sizes2I w.heap.size (w.heap.size + 1) w2.heap.size (w2.heap.size + 1) W.heap.size g cap D st pre V ∧ Below w.heap.size w V)
      (fun c pre V => sizes2X w.heap.size (w.heap.size + 1) w2.heap.size (w2.heap.size + 1) W.heap.size g cap D st c pre V ∧ Below w.heap.size w V)
      (OwnFrom.and (OwnFrom.and (fun pre A B row h hg hr => sizes2B_own _ _ _ _ _ _ _ _ _ hWs'.1 pre.length A B row h hg hr) (fun _ _ _ _ h _ _ => h)) (ownFrom_below (Nat.le_refl _) hsz2))
      (fun c => OwnFrom.and (OwnFrom.and (fun pre A B row h hg hr => sizes2B_own _ _ _ _ _ _ _ _ _ hWs'.1 pre.length A B row h hg hr) (fun _ _ _ _ h _ _ => h)) (ownFrom_below (Nat.le_refl _) hsz2))
      ⟨⟨hI0, by simp; omega⟩, hB2⟩
      ?a2 ?assign2 ?body2 ?done2 ?stop2
    case assign2 =>
      intro l k V K hK
      gi_wp2
      exact hK
    case body2 =>
      rintro l pre k V ⟨⟨⟨h1, h2, h3, h4, h5, h6⟩, hle⟩, hBV⟩ hlen
      have c1 := h1.cell
      have c5 := h5.cell
      have f5 := h5.frozen
      have HH := Lib.hid (And.intro h1 (And.intro h2 (And.intro h3 (And.intro h4 (And.intro h5 h6)))))
      have hres : sizes2B w.heap.size (w.heap.size + 1) w2.heap.size (w2.heap.size + 1) W.heap.size g cap D st (pre ++ [k]).length (V.setCell ⟨W.heap.size, 0, none⟩ (.int .i64 (pre.length + 1))) := by
        refine ⟨box_far h1 (by omega) _, box_far h2 (by omega) _, box_far h3 (by omega) _, box_far h4 (by omega) _, ?_, ?_⟩
        · have := h5.set (.int .i64 (pre.length + 1))
          rw [List.length_append]
          exact this
        · exact (Below.heap_setCell V _ _ D (by simp; omega)).trans h6
      have HR := Lib.hid hres
      clear hres h1 h2 h3 h4 h5 h6
      obtain ⟨m, hm⟩ : ∃ m, pre.length = m := ⟨_, rfl⟩
      rw [hm] at c5 hlen hle HR
      have hpl : (pre ++ [k]).length = m + 1 := by simp [hm]
      have Hm := Lib.hid hpl
      clear hm hpl
      by_cases hgt : st % 50 < (m : Int) + 1
      · gi_wp2
        exact ⟨KeepsOthers.setCell _ _ _, ⟨HR.out, rfl, by rw [Hm.out]; omega⟩, hBV.setCell (p := ⟨_, 0, none⟩) (by simp; omega) _⟩
      · gi_wp2
        exact ⟨KeepsOthers.setCell _ _ _, trivial, ⟨HR.out, by rw [Hm.out]; omega⟩, hBV.setCell (p := ⟨_, 0, none⟩) (by simp; omega) _⟩
    case done2 =>
      rintro D2 ys V hD2 rfl ⟨⟨⟨h1, h2, h3, h4, h5, h6⟩, hle⟩, hBV⟩ hK2
      simp only [List.length_range] at h5 hle
      have hmin : min (st % 50 + 1) 43 = 43 := by omega
      have hDs := (Array.getElem?_eq_some_iff.1 h6).1
      have hD2s := (Array.getElem?_eq_some_iff.1 hK2).1
      gi_wp2_with fail
      refine ⟨trivial, (callsIn_wide.2 (awake5 _)).mono ?_⟩
      rintro e w4 ⟨rfl, hb4⟩
      have hBD : Below w.heap.size w w4 := hBV.trans (hb4.mono hBV.size)
      have g1 := box_below h1 hb4 h1.lt
      have g2 := box_below h2 hb4 h2.lt
      have g3 := box_below h3 hb4 h3.lt
      have g4 := box_below h4 hb4 h4.lt
      have g5 := box_below h5 hb4 h5.lt
      have g6 := Lib.hid ((hb4.block D hDs).trans h6)
      have g7 := Lib.hid ((hb4.block D2 hD2s).trans hK2)
      have hne : D ≠ D2 := by omega
      clear h1 h2 h3 h4 h5 h6 hK2 hBV hb4
      have c1 := g1.cell
      have c2 := g2.cell
      have c3 := g3.cell
      have c4 := g4.cell
      have c5 := g5.cell
      have f2 := g2.frozen
      have G2 := Lib.hid g2
      clear g1 g2 g3 g4 g5
      gi_wp2
      have hK' := (KeepsOthers.setCell w4 ⟨w.heap.size + 1, 0, none⟩ (.bool true)).same D _ g6.out rfl
      have hK2' := (KeepsOthers.setCell w4 ⟨w.heap.size + 1, 0, none⟩ (.bool true)).same D2 _ g7.out rfl
      have hKn := (World.putObj_heap_other (w := w4.setCell ⟨w.heap.size + 1, 0, none⟩ (.bool true)) (o := .deferred none) hne).trans hK'
      refine ⟨by simp, .inl ⟨_, _, rfl, run_takeDeferred hK2', ⟨by simp, .inl ⟨_, _, rfl, run_takeDeferred hKn, ?_⟩⟩⟩⟩
      have q1 := box_keep (G2.out.set (.bool true)) (grownBy_putObj' _ D2 (.deferred none)) (fun r e => by cases e; exact ⟨_, hK2', rfl⟩)
      have q2 := box_keep q1 (grownBy_putObj' _ D (.deferred none)) (fun r e => by cases e; exact ⟨_, hKn, rfl⟩)
      refine ⟨.bool true, ?_, rfl, ((hBD.setCell (p := ⟨_, 0, none⟩) (by simp) _).trans (belowK_b (w := w) (Nat.le_refl _) _ D2 _ _ (by omega) hK2' rfl rfl)).trans (belowK_b (w := w) (Nat.le_refl _) _ D _ _ (by omega) hKn rfl rfl)⟩
      simp [results, Try.f3, go_sem, q2.cell]
    case stop2 =>
      rintro D2 c pre V hD2 ⟨k', hk', rfl⟩ ⟨⟨⟨h1, h2, h3, h4, h5, h6⟩, rfl, hle⟩, hBV⟩ hK2
      simp only [List.length_range] at h5 hle
      have hmin : min (st % 50 + 1) 43 = st % 50 + 1 := by omega
      rw [hle] at h5
      clear hle
      have hDs := (Array.getElem?_eq_some_iff.1 h6).1
      have hD2s := (Array.getElem?_eq_some_iff.1 hK2).1
      gi_wp2_with fail
      refine ⟨trivial, (callsIn_wide.2 (awake5 _)).mono ?_⟩
      rintro e w4 ⟨rfl, hb4⟩
      have hBD : Below w.heap.size w w4 := hBV.trans (hb4.mono hBV.size)
      have g1 := box_below h1 hb4 h1.lt
      have g2 := box_below h2 hb4 h2.lt
      have g3 := box_below h3 hb4 h3.lt
      have g4 := box_below h4 hb4 h4.lt
      have g5 := box_below h5 hb4 h5.lt
      have g6 := Lib.hid ((hb4.block D hDs).trans h6)
      have g7 := Lib.hid ((hb4.block D2 hD2s).trans hK2)
      have hne : D ≠ D2 := by omega
      clear h1 h2 h3 h4 h5 h6 hK2 hBV hb4
      have c1 := g1.cell
      have c2 := g2.cell
      have c3 := g3.cell
      have c4 := g4.cell
      have c5 := g5.cell
      have f2 := g2.frozen
      have G2 := Lib.hid g2
      clear g1 g2 g3 g4 g5
      gi_wp2
      have hK' := (KeepsOthers.setCell w4 ⟨w.heap.size + 1, 0, none⟩ (.bool true)).same D _ g6.out rfl
      have hK2' := (KeepsOthers.setCell w4 ⟨w.heap.size + 1, 0, none⟩ (.bool true)).same D2 _ g7.out rfl
      have hKn := (World.putObj_heap_other (w := w4.setCell ⟨w.heap.size + 1, 0, none⟩ (.bool true)) (o := .deferred none) hne).trans hK'
      refine ⟨by simp, .inl ⟨_, _, rfl, run_takeDeferred hK2', ⟨by simp, .inl ⟨_, _, rfl, run_takeDeferred hKn, ?_⟩⟩⟩⟩
      have q1 := box_keep (G2.out.set (.bool true)) (grownBy_putObj' _ D2 (.deferred none)) (fun r e => by cases e; exact ⟨_, hK2', rfl⟩)
      have q2 := box_keep q1 (grownBy_putObj' _ D (.deferred none)) (fun r e => by cases e; exact ⟨_, hKn, rfl⟩)
      refine ⟨.bool true, ?_, rfl, ((hBD.setCell (p := ⟨_, 0, none⟩) (by simp) _).trans (belowK_b (w := w) (Nat.le_refl _) _ D2 _ _ (by omega) hK2' rfl rfl)).trans (belowK_b (w := w) (Nat.le_refl _) _ D _ _ (by omega) hKn rfl rfl)⟩
      simp [results, Try.f3, go_sem, q2.cell]

theorem sizeclassSizes_walk (a0 : Int) (w0 : (Lit.int .u8 a0).wf = true) (w : World) :
    Calls Try.prog 3 #[.int .u8 a0] w fun e w' => e = .returned (.bool true) ∧ Below w.heap.size w w' :=
  callsIn_wide.1 (sizes_in a0 (bounds_u8 w0).1 (bounds_u8 w0).2 w)
end Go.Proofs.Ytfjnjdmdijickaa
