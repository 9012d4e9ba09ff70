/- The walks of the laws of layer 5. -/
import Derived.Test.YtfjnjdmdijickaaSzRef
namespace Go.Proofs.Ytfjnjdmdijickaa
open Go.RowKit Go.Shelf
set_option linter.unusedVariables false

set_option maxRecDepth 100000 in
set_option maxHeartbeats 2000000 in
theorem sizeclassRound_walk (a0 : Int) (a1 : Int) (w0 : (Lit.int .i64 a0).wf = true) (w1 : (Lit.int .u32 a1).wf = true) (w : World) :
    Calls Try.prog 5 #[.int .i64 a0, .int .u32 a1] w fun e w' => e = .returned (.bool true) ∧ Below w.heap.size w w' := by
  have b1 := bounds_u32 w1
  clear w0 w1
  go_enter Try.func5, Try.ntmps5
  go_wp2_with fail
  refine (round_any _ _).mono ?_
  rintro e w1 ⟨rfl, hb1⟩
  go_wp2_with fail
  refine (rround_any _ _).mono ?_
  rintro e w2 ⟨rfl, hb2⟩
  have hB := hb1.trans (hb2.mono hb1.size)
  clear hb1 hb2
  go_wp2_with fail
  refine (round_any _ _).mono ?_
  rintro e w3 ⟨rfl, hb3⟩
  have hB3 := hB.trans (hb3.mono hB.size)
  clear hB hb3
  go_wp2_with fail
  refine (rround_any _ _).mono ?_
  rintro e w4 ⟨rfl, hb4⟩
  have hB4 := hB3.trans (hb4.mono hB3.size)
  clear hB3 hb4
  go_wp2_with fail
  refine (class_any _ _).mono ?_
  rintro e w5 ⟨rfl, hb5⟩
  have hB5 := hB4.trans (hb5.mono hB4.size)
  clear hB4 hb5
  go_wp2_with fail
  refine (rclass_any _ _).mono ?_
  rintro e w6 ⟨rfl, hb6⟩
  have hB6 := hB5.trans (hb6.mono hB5.size)
  clear hB5 hb6
  go_wp2_with fail
  refine (class_any _ _).mono ?_
  rintro e w7 ⟨rfl, hb7⟩
  have hB7 := hB6.trans (hb7.mono hB6.size)
  clear hB6 hb7
  go_wp2_with fail
  refine (rclass_any _ _).mono ?_
  rintro e w8 ⟨rfl, hb8⟩
  have hB8 := hB7.trans (hb8.mono hB7.size)
  clear hB7 hb8
  go_wp2_with fail
  refine (awake5 _).mono ?_
  rintro e w9 ⟨rfl, hb9⟩
  have hB9 := hB8.trans (hb9.mono hB8.size)
  clear hB8 hb9
  go_wp2
  go_ret
  exact ⟨rfl, hB9⟩

theorem order_facts {p q : Int} (h1 : 1 ≤ p) (h : p ≤ q) (h2 : q ≤ 65536) :
    Sz.err q = 0 ∧ Sz.rnd p ≤ Sz.rnd q ∧ Sz.cla p ≤ Sz.cla q ∧ (Sz.rnd p == Sz.rnd q) = (Sz.cla p == Sz.cla q) ∧ 0 < Sz.rnd p := by
  have hm := Sz.cls_mono h h2
  obtain ⟨a, b, c⟩ := Sz.cls_spec (n := p) (by omega)
  obtain ⟨a', b', c'⟩ := Sz.cls_spec h2
  have e1 : Sz.rnd p = Sz.sz (Sz.cls p) := by unfold Sz.rnd; rw [if_neg (by omega), if_neg (by omega)]
  have e2 : Sz.rnd q = Sz.sz (Sz.cls q) := by unfold Sz.rnd; rw [if_neg (by omega), if_neg (by omega)]
  have e3 : Sz.cla p = Sz.cls p := by unfold Sz.cla; rw [if_neg (by omega), if_neg (by omega)]
  have e4 : Sz.cla q = Sz.cls q := by unfold Sz.cla; rw [if_neg (by omega), if_neg (by omega)]
  have e5 : Sz.err q = 0 := by unfold Sz.err; rw [if_neg (by omega), if_neg (by omega)]
  have hz := Sz.sz_le hm (by omega)
  have hb := (Sz.sz_bd (k := Sz.cls p) (by omega)).1
  rw [e1, e2, e3, e4, e5]
  refine ⟨rfl, hz, by omega, ?_, by omega⟩
  rcases Nat.lt_or_ge (Sz.cls p) (Sz.cls q) with hlt | hge
  · have hs := Sz.sz_str hlt (by omega)
    rw [beq_eq_false_iff_ne.2 (by omega), beq_eq_false_iff_ne.2 (by omega)]
  · have he : Sz.cls p = Sz.cls q := by omega
    rw [he, beq_self_eq_true, beq_self_eq_true]

set_option maxRecDepth 100000 in
set_option maxHeartbeats 2000000 in
theorem sizeclassOrder_walk (a0 : Int) (a1 : Int) (w0 : (Lit.int .u32 a0).wf = true) (w1 : (Lit.int .u32 a1).wf = true) (w : World) :
    Calls Try.prog 6 #[.int .u32 a0, .int .u32 a1] w fun e w' => e = .returned (.bool true) ∧ Below w.heap.size w w' := by
  have b0 := bounds_u32 w0
  have b1 := bounds_u32 w1
  clear w0 w1
  by_cases hgt : 1 + a1 % 65536 < 1 + a0 % 65536
  · obtain ⟨f1, f2, f3, f4, f5⟩ := order_facts (p := 1 + a1 % 65536) (q := 1 + a0 % 65536) (by omega) (by omega) (by omega)
    have F1 : (Sz.err (1 + a0 % 65536) == 0) = true := by rw [f1]; rfl
    have F4 : ((Sz.rnd (1 + a1 % 65536) == Sz.rnd (1 + a0 % 65536)) == (Sz.cla (1 + a1 % 65536) == Sz.cla (1 + a0 % 65536))) = true := by rw [f4, beq_self_eq_true]
    clear f1 f4
    go_enter Try.func6, Try.ntmps6
    go_wp2_with fail
    refine (round_any _ _).mono ?_
    rintro e w1 ⟨rfl, hb1⟩
    have hB1 := hb1
    clear hb1
    go_wp2_with fail
    refine (round_any _ _).mono ?_
    rintro e w2 ⟨rfl, hb2⟩
    have hB2 := hB1.trans (hb2.mono hB1.size)
    clear hB1 hb2
    go_wp2_with fail
    refine (class_any _ _).mono ?_
    rintro e w3 ⟨rfl, hb3⟩
    have hB3 := hB2.trans (hb3.mono hB2.size)
    clear hB2 hb3
    go_wp2_with fail
    refine (class_any _ _).mono ?_
    rintro e w4 ⟨rfl, hb4⟩
    have hB4 := hB3.trans (hb4.mono hB3.size)
    clear hB3 hb4
    go_wp2_with fail
    refine (awake5 _).mono ?_
    rintro e w5 ⟨rfl, hb5⟩
    have hB5 := hB4.trans (hb5.mono hB4.size)
    clear hB4 hb5
    go_wp2
    go_ret
    exact ⟨rfl, hB5⟩
  · obtain ⟨f1, f2, f3, f4, f5⟩ := order_facts (p := 1 + a0 % 65536) (q := 1 + a1 % 65536) (by omega) (by omega) (by omega)
    have F1 : (Sz.err (1 + a1 % 65536) == 0) = true := by rw [f1]; rfl
    have F4 : ((Sz.rnd (1 + a0 % 65536) == Sz.rnd (1 + a1 % 65536)) == (Sz.cla (1 + a0 % 65536) == Sz.cla (1 + a1 % 65536))) = true := by rw [f4, beq_self_eq_true]
    clear f1 f4
    go_enter Try.func6, Try.ntmps6
    go_wp2_with fail
    refine (round_any _ _).mono ?_
    rintro e w1 ⟨rfl, hb1⟩
    have hB1 := hb1
    clear hb1
    go_wp2_with fail
    refine (round_any _ _).mono ?_
    rintro e w2 ⟨rfl, hb2⟩
    have hB2 := hB1.trans (hb2.mono hB1.size)
    clear hB1 hb2
    go_wp2_with fail
    refine (class_any _ _).mono ?_
    rintro e w3 ⟨rfl, hb3⟩
    have hB3 := hB2.trans (hb3.mono hB2.size)
    clear hB2 hb3
    go_wp2_with fail
    refine (class_any _ _).mono ?_
    rintro e w4 ⟨rfl, hb4⟩
    have hB4 := hB3.trans (hb4.mono hB3.size)
    clear hB3 hb4
    go_wp2_with fail
    refine (awake5 _).mono ?_
    rintro e w5 ⟨rfl, hb5⟩
    have hB5 := hB4.trans (hb5.mono hB4.size)
    clear hB4 hb5
    go_wp2
    go_ret
    exact ⟨rfl, hB5⟩
end Go.Proofs.Ytfjnjdmdijickaa
