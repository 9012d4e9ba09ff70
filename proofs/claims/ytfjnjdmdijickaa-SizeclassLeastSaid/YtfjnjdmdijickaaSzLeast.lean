/- The walk of SizeclassLeast: a range over the sizes whose body returns or notes that the rounded size is one of them. -/
import Derived.Test.YtfjnjdmdijickaaSzLaws
namespace Go.Proofs.Ytfjnjdmdijickaa
open Go.RowKit Go.Shelf
set_option linter.unusedVariables false

attribute [local go_sem] Oper.semAt_some

/-- What the loop's cells hold between two rounds: the result, n, a, found. -/
def leastI (R B1 B2 B3 : Nat) (N A : Int) (pre : List Nat) (W : World) : Prop :=
  ∃ f : Bool, (∀ j ∈ pre, Sz.sz j = A → f = true) ∧ Boxed W R 4 (.bool false) ∧ Boxed W B1 3 (.int .i64 N) ∧ Boxed W B2 3 (.int .i64 A) ∧ Boxed W B3 4 (.bool f)
def leastX (N A : Int) (_ : Code) (pre : List Nat) (_ : World) : Prop := ∃ q k, pre = q ++ [k] ∧ N ≤ Sz.sz k ∧ Sz.sz k < A
theorem leastI_own (R B1 B2 B3 : Nat) (N A : Int) : Own (leastI R B1 B2 B3 N A) := fun _ _ _ _ ⟨f, h0, h1, h2, h3, h4⟩ hg hr =>
  ⟨f, h0, box_keep h1 hg hr, box_keep h2 hg hr, box_keep h3 hg hr, box_keep h4 hg hr⟩

set_option maxRecDepth 100000 in
set_option maxHeartbeats 2000000 in
theorem least_in (a0 : Int) (b0 : 0 ≤ a0) (A : Int) (hA2 : Hid (∀ k, k < 43 → 1 + a0 % 65536 ≤ Sz.sz k → A ≤ Sz.sz k)) (hA3 : Hid (∃ k, k < 43 ∧ Sz.sz k = A)) (hA1 : 1 + a0 % 65536 ≤ A)
    (R1 : Hid (∀ w, Calls Try.prog 10 #[.int .i64 (1 + a0 % 65536)] w fun e w' => e = .returned (.tuple #[.int .i64 A, .int .i64 0]) ∧ Below w.heap.size w w'))
    (R2 : Hid (∀ w, Calls Try.prog 10 #[.int .i64 A] w fun e w' => e = .returned (.tuple #[.int .i64 A, .int .i64 0]) ∧ Below w.heap.size w w')) (w : World) :
    CallsIn Fence.wide 5 Try.prog 4 #[.int .u32 a0] w fun e w' => e = .returned (.bool true) ∧ Below w.heap.size w w' := by
  refine callsIn_of_wp_marks Try.func4 rfl trivial ?_ rfl
  simp only [Try.ntmps4, List.size_toArray, List.length_cons, List.length_nil, Nat.reduceAdd, Nat.reduceSub, Array.replicate_succ, Array.replicate_zero, List.push_toArray, List.append_toArray, List.nil_append, List.cons_append]
  gi_wp2_with fail
  refine ⟨trivial, (callsIn_wide.2 (awake5 _)).mono ?_⟩
  rintro e w1 ⟨rfl, hb1⟩
  have r1 : Boxed w1 w.heap.size 4 (.bool false) := box_below (Boxed.new w 4 _) hb1 (by simp)
  have hB1 : Below w.heap.size w w1 := ((Below.refl _ w).alloc (Nat.le_refl _) _).trans (hb1.mono (by simp))
  clear hb1
  gi_wp2_with fail
  refine ⟨trivial, (callsIn_wide.2 (R1.out _)).mono ?_⟩
  rintro e w2 ⟨rfl, hb2⟩
  have hl1 := r1.lt
  have n2 : Boxed w2 w1.heap.size 3 (.int .i64 (1 + a0 % 65536)) := box_below (Boxed.new w1 3 _) hb2 (by simp)
  have r2 : Boxed w2 w.heap.size 4 (.bool false) := box_below (r1.alloc _) hb2 (by simp; omega)
  have hB2 : Below w.heap.size w w2 := (hB1.alloc (by omega) _).trans (hb2.mono (by simp; omega))
  have s2 : w1.heap.size < w2.heap.size := n2.lt
  clear hb2 r1 hB1
  gi_wp2_with fail
  refine ⟨trivial, (callsIn_wide.2 (R2.out _)).mono ?_⟩
  rintro e w3 ⟨rfl, hb3⟩
  have a3 : Boxed w3 w2.heap.size 3 (.int .i64 A) := box_below (Boxed.new w2 3 _) hb3 (by simp)
  have n3 : Boxed w3 w1.heap.size 3 (.int .i64 (1 + a0 % 65536)) := box_below (n2.alloc _) hb3 (by simp; omega)
  have r3 : Boxed w3 w.heap.size 4 (.bool false) := box_below (r2.alloc _) hb3 (by simp; omega)
  have hB3 : Below w.heap.size w w3 := (hB2.alloc (by omega) _).trans (hb3.mono (by simp; omega))
  have s3 : w2.heap.size < w3.heap.size := a3.lt
  clear hb3 r2 n2 hB2
  gi_wp2_with (refine ⟨trivial, ?_⟩; gi_at_call 9; refine (callsIn_wide.2 (sizes_any _)).mono ?_; rintro e w' ⟨rfl, rfl⟩)
  have hB0 : Below w.heap.size w (w3.alloc (Obj.cells #[Value.bool false] 4)) := hB3.alloc (by omega) _
  have hI0 : leastI w.heap.size w1.heap.size w2.heap.size w3.heap.size (1 + a0 % 65536) A [] (w3.alloc (Obj.cells #[Value.bool false] 4)) :=
    ⟨false, by simp, r3.alloc _, n3.alloc _, a3.alloc _, Boxed.new _ _ _⟩
  clear r3 n3 a3 hB3
  have hsz := hB0.size
  obtain ⟨W0, hW0⟩ : ∃ W0, w3.alloc (Obj.cells #[Value.bool false] 4) = W0 := ⟨_, rfl⟩
  rw [hW0] at hB0 hI0 hsz ⊢
  clear hW0
  refine wpIn_rangeFunc_ownF rfl (by omega) (gf := 14) (lb := #[]) rfl trivial (enters_of Try.func14 (by kernel_rfl) rfl)
    (sizes_stops 3 W0) (fun _ _ => trivial) (fun _ _ _ _ _ _ _ _ => trivial) (Below.refl _ _) (fun _ => rfl)
    (fun pre W => leastI w.heap.size w1.heap.size w2.heap.size w3.heap.size (1 + a0 % 65536) A pre W ∧ Below w.heap.size w W)
    (fun c pre W => leastX (1 + a0 % 65536) A c pre W)
    (OwnFrom.and ((leastI_own _ _ _ _ _ _).from _) (ownFrom_below (Nat.le_refl _) hsz))
    (fun c => fun _ _ _ _ h _ _ => h)
    ⟨hI0, hB0⟩
    ?a1 ?assign ?body ?done ?stop
  case assign =>
    intro l k W K hK
    gi_wp2
    exact hK
  case body =>
    rintro l pre k W ⟨⟨f, hf, b1, b2, b3, b4⟩, hB⟩ hlen
    have c1 := b1.cell
    have c2 := b2.cell
    have c3 := b3.cell
    have c4 := b4.cell
    have f1 := b1.frozen
    have f4 := b4.frozen
    have hh : Boxed W w.heap.size 4 (.bool false) ∧ Boxed W w1.heap.size 3 (.int .i64 (1 + a0 % 65536)) ∧ Boxed W w2.heap.size 3 (.int .i64 A) ∧ Boxed W w3.heap.size 4 (.bool f) := ⟨b1, b2, b3, b4⟩
    have HH := Lib.hid hh
    clear hh b1 b2 b3 b4
    by_cases hbad : 1 + a0 % 65536 ≤ Sz.sz k ∧ Sz.sz k < A
    · obtain ⟨h1, h2⟩ := hbad
      gi_wp2
      exact ⟨KeepsOthers.setCell _ _ _, ⟨pre, k, rfl, h1, h2⟩⟩
    · have hres : leastI w.heap.size w1.heap.size w2.heap.size w3.heap.size (1 + a0 % 65536) A (pre ++ [k]) (W.setCell ⟨w3.heap.size, 0, none⟩ (.bool (f || (Sz.sz k == A)))) := by
        obtain ⟨b1, b2, b3, b4⟩ := HH.out
        refine ⟨f || (Sz.sz k == A), fun j hj he => ?_, box_far b1 (by omega) _, box_far b2 (by omega) _, box_far b3 (by omega) _, b4.set _⟩
        rcases List.mem_append.1 hj with h | h
        · rw [hf j h he]; rfl
        · simp at h; subst h; rw [he, beq_self_eq_true, Bool.or_true]
      have HR := Lib.hid hres
      clear hres hf
      by_cases h1 : 1 + a0 % 65536 ≤ Sz.sz k
      · have h2 : A ≤ Sz.sz k := by omega
        clear hbad
        cases f with
        | true =>
          gi_wp2
          exact ⟨KeepsOthers.setCell _ _ _, trivial, HR.out, hB.setCell (p := ⟨_, 0, none⟩) (by simp; omega) _⟩
        | false =>
          gi_wp2
          exact ⟨KeepsOthers.setCell _ _ _, trivial, by simpa using HR.out, hB.setCell (p := ⟨_, 0, none⟩) (by simp; omega) _⟩
      · clear hbad
        cases f with
        | true =>
          gi_wp2
          exact ⟨KeepsOthers.setCell _ _ _, trivial, HR.out, hB.setCell (p := ⟨_, 0, none⟩) (by simp; omega) _⟩
        | false =>
          gi_wp2
          exact ⟨KeepsOthers.setCell _ _ _, trivial, by simpa using HR.out, hB.setCell (p := ⟨_, 0, none⟩) (by simp; omega) _⟩
  case stop =>
    rintro D c pre W hD ⟨k', hk', rfl⟩ ⟨q, k, hpre, h1, h2⟩ hK
    rw [List.range_succ] at hpre
    obtain rfl : k' = k := by simpa using (List.append_inj' hpre rfl).2
    have := hA2.out k' hk' h1
    omega
  case done =>
    rintro D ys W hD rfl ⟨⟨f, hf, b1, b2, b3, b4⟩, hB⟩ hK
    obtain ⟨k, hk, hA⟩ := hA3.out
    obtain rfl : f = true := hf k (by simpa using hk) hA
    clear hf hA
    gi_wp2_with fail
    refine ⟨trivial, (callsIn_wide.2 (awake5 _)).mono ?_⟩
    rintro e w4 ⟨rfl, hb4⟩
    have hBD : Below w.heap.size w w4 := hB.trans (hb4.mono hB.size)
    have g1 := box_below b1 hb4 b1.lt
    have g2 := box_below b2 hb4 b2.lt
    have g3 := box_below b3 hb4 b3.lt
    have g4 := box_below b4 hb4 b4.lt
    have hKD := hK
    have hKs := (Array.getElem?_eq_some_iff.1 hK).1
    have hK4 := Lib.hid ((hb4.block D hKs).trans hK)
    clear b1 b2 b3 b4 hB hb4 hK hKD
    have c1 := g1.cell
    have c2 := g2.cell
    have c3 := g3.cell
    have c4 := g4.cell
    have f1 := g1.frozen
    have G1 := Lib.hid g1
    clear g1 g2 g3 g4
    gi_wp2
    have hK' := (KeepsOthers.setCell w4 ⟨w.heap.size, 0, none⟩ (.bool true)).same D _ hK4.out rfl
    refine ⟨by simp, .inl ⟨_, _, rfl, run_takeDeferred hK', ?_⟩⟩
    have g2 := box_keep (G1.out.set (.bool true)) (grownBy_putObj' _ D (.deferred none)) (fun r e => by cases e; exact ⟨_, hK', rfl⟩)
    refine ⟨.bool true, ?_, rfl, (hBD.setCell (p := ⟨_, 0, none⟩) (by simp) _).trans (belowK_b (w := w) (Nat.le_refl _) _ D _ _ (by omega) hK' rfl rfl)⟩
    simp [results, Try.f4, go_sem, g2.cell]

theorem sizeclassLeast_walk (a0 : Int) (w0 : (Lit.int .u32 a0).wf = true) (w : World) :
    Calls Try.prog 4 #[.int .u32 a0] w fun e w' => e = .returned (.bool true) ∧ Below w.heap.size w w' := by
  have b0 := bounds_u32 w0
  have hn : 1 ≤ 1 + a0 % 65536 ∧ 1 + a0 % 65536 ≤ 65536 := by omega
  obtain ⟨c1, c2, c3⟩ := Sz.cls_spec hn.2
  have hb := Sz.sz_bd (k := Sz.cls (1 + a0 % 65536)) (by omega)
  have r1 : Sz.rnd (1 + a0 % 65536) = Sz.sz (Sz.cls (1 + a0 % 65536)) ∧ Sz.err (1 + a0 % 65536) = 0 := by
    unfold Sz.rnd Sz.err
    rw [if_neg (by omega), if_neg (by omega), if_neg (by omega), if_neg (by omega)]
    exact ⟨rfl, rfl⟩
  have r2 : Sz.rnd (Sz.sz (Sz.cls (1 + a0 % 65536))) = Sz.sz (Sz.cls (1 + a0 % 65536)) ∧ Sz.err (Sz.sz (Sz.cls (1 + a0 % 65536))) = 0 := by
    have := Sz.cls_sz (k := Sz.cls (1 + a0 % 65536)) (by omega)
    unfold Sz.rnd Sz.err
    rw [if_neg (by omega), if_neg (by omega), if_neg (by omega), if_neg (by omega), this]
    exact ⟨rfl, rfl⟩
  refine callsIn_wide.1 (least_in a0 b0.1 (Sz.sz (Sz.cls (1 + a0 % 65536))) (Lib.hid fun k hk hle => ?_) (Lib.hid ⟨_, by omega, rfl⟩) c2 (Lib.hid fun w => ?_) (Lib.hid fun w => ?_) w)
  · rcases Nat.lt_or_ge k (Sz.cls (1 + a0 % 65536)) with h | h
    · have := c3 k h; omega
    · exact Sz.sz_le h (by omega)
  · have h := round_any (1 + a0 % 65536) w
    rwa [r1.1, r1.2] at h
  · have h := round_any (Sz.sz (Sz.cls (1 + a0 % 65536))) w
    rwa [r2.1, r2.2] at h
end Go.Proofs.Ytfjnjdmdijickaa
