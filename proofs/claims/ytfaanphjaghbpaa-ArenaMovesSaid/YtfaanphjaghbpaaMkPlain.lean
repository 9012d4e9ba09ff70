/- Types made of numbers: plain. -/
import Derived.Test.YtfaanphjaghbpaaLay
import Derived.Test.YtfaanphjaghbpaaEng9
namespace Go.Proofs.Ytfaanphjaghbpaa
open Go.RowKit Go.Shelf
set_option linter.unusedVariables false
set_option linter.unusedSimpArgs false
def nextF (l : List Nat) (i m : Nat) : Nat := l.getD i 0 % m
theorem nextF_lt {l : List Nat} {i m : Nat} (h : 0 < m) : nextF l i m < m := Nat.mod_lt _ h
def fieldF (l : List Nat) (i : Nat) : Fd × Nat := if 1 + nextF l i 6 = 6 then (⟨6, ((1 + nextF l (i + 1) 9 : Nat) : Int)⟩, i + 2) else (⟨((1 + nextF l i 6 : Nat) : Int), 0⟩, i + 1)
def fieldsF (l : List Nat) : Nat → Nat → List Fd × Nat
  | 0, i => ([], i)
  | n + 1, i => ((fieldF l i).1 :: (fieldsF l n (fieldF l i).2).1, (fieldsF l n (fieldF l i).2).2)
def typeF (l : List Nat) (i : Nat) : Int × List Fd × Nat :=
  if nextF l i 4 = 0 then (((1 + nextF l (i + 1) 5 : Nat) : Int), [(fieldF l (i + 2)).1], (fieldF l (i + 2)).2)
  else (0, (fieldsF l (1 + nextF l (i + 1) 4) (i + 2)).1, (fieldsF l (1 + nextF l (i + 1) 4) (i + 2)).2)
theorem fieldF_ok (l : List Nat) (i : Nat) : (fieldF l i).1.err = 0 ∧ (fieldF l i).1.wid ≤ 9 ∧ i < (fieldF l i).2 ∧ (fieldF l i).2 ≤ i + 2 := by
  have h1 := nextF_lt (l := l) (i := i) (m := 6) (by omega)
  have h2 := nextF_lt (l := l) (i := i + 1) (m := 9) (by omega)
  unfold fieldF
  split
  · refine ⟨?_, ?_, by dsimp only; omega, by dsimp only; omega⟩
    · unfold Fd.err
      dsimp only
      repeat' split
      all_goals omega
    · unfold Fd.wid
      dsimp only
      repeat' split
      all_goals omega
  · refine ⟨?_, ?_, by dsimp only; omega, by dsimp only; omega⟩
    · unfold Fd.err
      dsimp only
      repeat' split
      all_goals omega
    · unfold Fd.wid
      dsimp only
      repeat' split
      all_goals omega
theorem fieldsF_ok (l : List Nat) : ∀ (n i : Nat), (∀ f ∈ (fieldsF l n i).1, f.err = 0 ∧ f.wid ≤ 9) ∧ (fieldsF l n i).1.length = n ∧ i ≤ (fieldsF l n i).2 ∧ (fieldsF l n i).2 ≤ i + 2 * n
  | 0, i => ⟨by simp [fieldsF], rfl, Nat.le_refl _, Nat.le_refl _⟩
  | n + 1, i => by
    have h1 := fieldF_ok l i
    have h2 := fieldsF_ok l n (fieldF l i).2
    simp only [fieldsF]
    refine ⟨fun f hf => ?_, by simp [h2.2.1], by omega, by omega⟩
    rcases List.mem_cons.1 hf with rfl | hf
    · exact ⟨h1.1, h1.2.1⟩
    · exact h2.1 f hf
theorem lay_small {fs : List Fd} (h : ∀ f ∈ fs, f.err = 0 ∧ f.wid ≤ 9) : 0 ≤ (lay fs).1 ∧ (lay fs).1 ≤ 17 * fs.length ∧ 1 ≤ (lay fs).2 ∧ (lay fs).2 ≤ 8 := by
  have key : ∀ (fs : List Fd) (s : Int × Int) (k : Nat), (∀ f ∈ fs, f.err = 0 ∧ f.wid ≤ 9) → 0 ≤ s.1 → s.1 ≤ 17 * k → 1 ≤ s.2 → s.2 ≤ 8 →
      0 ≤ (fs.foldl layS s).1 ∧ (fs.foldl layS s).1 ≤ 17 * (k + fs.length : Nat) ∧ 1 ≤ (fs.foldl layS s).2 ∧ (fs.foldl layS s).2 ≤ 8 := by
    intro fs
    induction fs with
    | nil => intro s k _ h1 h2 h3 h4; exact ⟨h1, by simpa using h2, h3, h4⟩
    | cons f fs ih =>
      intro s k h h1 h2 h3 h4
      have hf := h f (by simp)
      have hw := Fd.wid_rng hf.1
      have ha := Fd.ali_rng hf.1
      have hu := upI_rng h1 ha.1
      have := ih (layS s f) (k + 1) (fun x hx => h x (by simp [hx])) (by unfold layS; dsimp only; omega) (by unfold layS; dsimp only; omega) (by unfold layS; dsimp only; omega) (by unfold layS; dsimp only; omega)
      rw [List.foldl_cons, List.length_cons, show k + (fs.length + 1) = k + 1 + fs.length by omega]
      exact this
  have := key fs (0, 1) 0 h (by decide) (by decide) (by decide) (by decide)
  rwa [Nat.zero_add] at this
theorem typeF_ok (l : List Nat) (i : Nat) : chk (typeF l i).1 (typeF l i).2.1 = 0 ∧ i + 2 ≤ (typeF l i).2.2 ∧ (typeF l i).2.2 ≤ i + 12 ∧ 0 ≤ (typeF l i).1 ∧ (typeF l i).1 ≤ 5 ∧ (typeF l i).2.1.length ≤ 4 ∧ sizeT (typeF l i).1 (typeF l i).2.1 ≤ 120 ∧ (∀ f ∈ (typeF l i).2.1, f.err = 0 ∧ f.wid ≤ 9) := by
  have h1 := nextF_lt (l := l) (i := i + 1) (m := 5) (by omega)
  have h2 := nextF_lt (l := l) (i := i + 1) (m := 4) (by omega)
  unfold typeF
  split
  · have hf := fieldF_ok l (i + 2)
    have hw := Fd.wid_rng hf.1
    have hs : sizeT ((1 + nextF l (i + 1) 5 : Nat) : Int) [(fieldF l (i + 2)).1] ≤ 45 := by
      unfold sizeT
      rw [if_pos (by omega)]
      simp only [List.headD_cons]
      exact Int.le_trans (Int.mul_le_mul (show (_ : Int) ≤ 5 by omega) hf.2.1 (by omega) (by omega)) (by decide)
    refine ⟨chk_of (by dsimp only; omega) (by dsimp only; omega) (by simp) (by simp) (by simp) ?_ ?_, by dsimp only; omega, by dsimp only; omega, by dsimp only; omega, by dsimp only; omega, by simp, by dsimp only; omega, ?_⟩
    · intro f h
      obtain rfl : f = (fieldF l (i + 2)).1 := by simpa using h
      exact hf.1
    · dsimp only
      omega
    · intro f h
      obtain rfl : f = (fieldF l (i + 2)).1 := by simpa using h
      exact ⟨hf.1, hf.2.1⟩
  · obtain ⟨ha, hl, hi1, hi2⟩ := fieldsF_ok l (1 + nextF l (i + 1) 4) (i + 2)
    have hy := lay_small ha
    have hu := upI_rng hy.1 hy.2.2.1
    have hs : sizeT 0 (fieldsF l (1 + nextF l (i + 1) 4) (i + 2)).1 ≤ 100 := by
      unfold sizeT sizeF
      rw [if_neg (by omega)]
      omega
    refine ⟨chk_of (by dsimp only; omega) (by dsimp only; omega) (by dsimp only; omega) (by dsimp only; omega) (by dsimp only; omega) (fun f h => (ha f h).1) (by dsimp only; omega), by dsimp only; omega, by dsimp only; omega, by dsimp only; omega, by dsimp only; omega, by dsimp only; omega, by dsimp only; omega, ha⟩
theorem fieldsF_snoc (l : List Nat) (y i : Nat) (gs : List Fd) : (gs ++ (fieldsF l (y + 1) i).1, (fieldsF l (y + 1) i).2) = ((gs ++ [(fieldF l i).1]) ++ (fieldsF l y (fieldF l i).2).1, (fieldsF l y (fieldF l i).2).2) := by simp [fieldsF]
end Go.Proofs.Ytfaanphjaghbpaa
