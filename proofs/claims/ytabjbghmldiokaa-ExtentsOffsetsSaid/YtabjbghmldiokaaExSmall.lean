/- Contracts of the small functions of layer 4: end, proper, and the reference's Proper. -/
import Derived.Test.YtabjbghmldiokaaEng7
import Derived.Test.YtabjbghmldiokaaExPlain
import Derived.Deep.RegionHeld3
import Derived.BigQuiet
import Derived.Deep.QuietTactic
namespace Go.Proofs.Ytabjbghmldiokaa
open Go.RowKit Go.Shelf
set_option linter.unusedVariables false

set_option maxHeartbeats 400000 in
theorem end_any (o l : Int) (w : World) (h1 : -9223372036854775808 ≤ o + l) (h2 : o + l ≤ 9223372036854775807) :
    Calls Try.prog 31 #[.agg #[.int .i64 o, .int .i64 l]] w fun e w' => e = .returned (.int .i64 (o + l)) ∧ Below w.heap.size w w' := by
  go_enter Try.func31, Try.ntmps31
  go_wp2
  go_ret
  exact ⟨rfl, (Below.refl _ _).alloc (Nat.le_refl _) _⟩

theorem prop_yes {o l : Int} (a : 0 ≤ o) (b : 0 < l) (c : l ≤ 1048576) (d : o ≤ 1048576 - l) : Ext.propB ⟨o, l⟩ = true := decide_eq_true (by unfold Ext.prop; dsimp only; omega)
theorem prop_no {o l : Int} (h : o < 0 ∨ l ≤ 0 ∨ 1048576 < l ∨ 1048576 - l < o) : Ext.propB ⟨o, l⟩ = false := decide_eq_false (by unfold Ext.prop; dsimp only; omega)

set_option maxHeartbeats 1000000 in
theorem proper_any (o l : Int) (w : World) :
    Calls Try.prog 29 #[.agg #[.int .i64 o, .int .i64 l]] w fun e w' => e = .returned (.bool (Ext.propB ⟨o, l⟩)) ∧ Below w.heap.size w w' := by
  by_cases a : 0 ≤ o
  · by_cases b : 0 < l
    · by_cases c : l ≤ 1048576
      · by_cases d : o ≤ 1048576 - l
        · rw [prop_yes a b c d]
          go_enter Try.func29, Try.ntmps29
          go_wp2
          go_ret
          exact ⟨rfl, (Below.refl _ _).alloc (Nat.le_refl _) _⟩
        · rw [prop_no (.inr (.inr (.inr (by omega))))]
          go_enter Try.func29, Try.ntmps29
          go_wp2
          go_ret
          exact ⟨rfl, (Below.refl _ _).alloc (Nat.le_refl _) _⟩
      · rw [prop_no (.inr (.inr (.inl (by omega))))]
        go_enter Try.func29, Try.ntmps29
        go_wp2
        go_ret
        exact ⟨rfl, (Below.refl _ _).alloc (Nat.le_refl _) _⟩
    · rw [prop_no (.inr (.inl (by omega)))]
      go_enter Try.func29, Try.ntmps29
      go_wp2
      go_ret
      exact ⟨rfl, (Below.refl _ _).alloc (Nat.le_refl _) _⟩
  · rw [prop_no (.inl (by omega))]
    go_enter Try.func29, Try.ntmps29
    go_wp2
    go_ret
    exact ⟨rfl, (Below.refl _ _).alloc (Nat.le_refl _) _⟩

set_option maxHeartbeats 1000000 in
theorem rproper_any (o l : Int) (w : World) (bl1 : -9223372036854775808 ≤ l) (bl2 : l ≤ 9223372036854775807) :
    Calls Try.prog 33 #[.agg #[.int .i64 o, .int .i64 l]] w fun e w' => e = .returned (.bool (Ext.propB ⟨o, l⟩)) ∧ Below w.heap.size w w' := by
  by_cases a : 0 ≤ o
  · by_cases b : 0 < l
    · by_cases c : o ≤ 1048576
      · by_cases d : l ≤ 1048576 - o
        · rw [prop_yes a b (by omega) (by omega)]
          go_enter Try.func33, Try.ntmps33
          go_wp2
          go_ret
          exact ⟨rfl, (Below.refl _ _).alloc (Nat.le_refl _) _⟩
        · rw [prop_no (by omega)]
          go_enter Try.func33, Try.ntmps33
          go_wp2
          go_ret
          exact ⟨rfl, (Below.refl _ _).alloc (Nat.le_refl _) _⟩
      · rw [prop_no (by omega)]
        go_enter Try.func33, Try.ntmps33
        go_wp2
        go_ret
        exact ⟨rfl, (Below.refl _ _).alloc (Nat.le_refl _) _⟩
    · rw [prop_no (by omega)]
      go_enter Try.func33, Try.ntmps33
      go_wp2
      go_ret
      exact ⟨rfl, (Below.refl _ _).alloc (Nat.le_refl _) _⟩
  · rw [prop_no (by omega)]
    go_enter Try.func33, Try.ntmps33
    go_wp2
    go_ret
    exact ⟨rfl, (Below.refl _ _).alloc (Nat.le_refl _) _⟩

theorem proper_yes (x : Ext) (w : World) (h : x.prop) : Calls Try.prog 29 #[.agg #[.int .i64 x.off, .int .i64 x.len]] w fun e w' => e = .returned (.bool true) ∧ Below w.heap.size w w' := by
  have := proper_any x.off x.len w
  rwa [show Ext.propB ⟨x.off, x.len⟩ = true from decide_eq_true h] at this
theorem proper_no (x : Ext) (w : World) (h : ¬ x.prop) : Calls Try.prog 29 #[.agg #[.int .i64 x.off, .int .i64 x.len]] w fun e w' => e = .returned (.bool false) ∧ Below w.heap.size w w' := by
  have := proper_any x.off x.len w
  rwa [show Ext.propB ⟨x.off, x.len⟩ = false from decide_eq_false h] at this
theorem end_prop (x : Ext) (w : World) (h : x.prop) : Calls Try.prog 31 #[.agg #[.int .i64 x.off, .int .i64 x.len]] w fun e w' => e = .returned (.int .i64 x.end_) ∧ Below w.heap.size w w' := by
  obtain ⟨h1, h2, h3⟩ := h
  exact end_any x.off x.len w (by omega) (by omega)
theorem rproper_yes (x : Ext) (w : World) (h : x.prop) : Calls Try.prog 33 #[.agg #[.int .i64 x.off, .int .i64 x.len]] w fun e w' => e = .returned (.bool true) ∧ Below w.heap.size w w' := by
  have := rproper_any x.off x.len w (by have := h.2.1; omega) (by have := h.2.2; have := h.1; omega)
  rwa [show Ext.propB ⟨x.off, x.len⟩ = true from decide_eq_true h] at this
theorem rproper_no (x : Ext) (w : World) (b1 : -9223372036854775808 ≤ x.len) (b2 : x.len ≤ 9223372036854775807) (h : ¬ x.prop) : Calls Try.prog 33 #[.agg #[.int .i64 x.off, .int .i64 x.len]] w fun e w' => e = .returned (.bool false) ∧ Below w.heap.size w w' := by
  have := rproper_any x.off x.len w b1 b2
  rwa [show Ext.propB ⟨x.off, x.len⟩ = false from decide_eq_false h] at this
end Go.Proofs.Ytabjbghmldiokaa
