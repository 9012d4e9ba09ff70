/- Layouts: plain. -/
import Derived.Test.YtfaanphjaghbpaaWPlain
namespace Go.Proofs.Ytfaanphjaghbpaa
open Go.RowKit Go.Shelf
set_option linter.unusedVariables false
set_option linter.unusedSimpArgs false

structure Fd where
  kind : Int
  count : Int
  deriving DecidableEq
def fdc (f : Fd) : List Value := [.int .i64 f.kind, .int .i64 f.count]
def fdV (f : Fd) : Value := .agg #[.int .i64 f.kind, .int .i64 f.count]
theorem fdc_len (f : Fd) : (fdc f).length = 2 := rfl
theorem fdc_ones (f : Fd) : ones (fdc f) = true := rfl
namespace Fd
def wid (f : Fd) : Int := if f.kind = 1 then 1 else if f.kind = 2 then 2 else if f.kind = 3 then 4 else if f.kind = 6 then f.count else 8
def ali (f : Fd) : Int := if f.kind = 6 then 1 else f.wid
def err (f : Fd) : Int := if f.kind < 1 ∨ 6 < f.kind then 8 else if (f.kind = 6 ∧ f.count < 1) ∨ (¬ f.kind = 6 ∧ ¬ f.count = 0) then 3 else if 65536 < f.count then 4 else 0
theorem err_zero {f : Fd} (h : f.err = 0) : 1 ≤ f.kind ∧ f.kind ≤ 6 ∧ (f.kind = 6 → 1 ≤ f.count) ∧ (f.kind ≠ 6 → f.count = 0) ∧ f.count ≤ 65536 ∧ 0 ≤ f.count := by
  unfold err at h
  split at h
  · cases h
  · split at h
    · cases h
    · split at h
      · cases h
      · omega
theorem err_cases (f : Fd) : f.err = 0 ∨ f.err = 3 ∨ f.err = 4 ∨ f.err = 8 := by
  unfold err
  split
  · omega
  · split
    · omega
    · split <;> omega
theorem wid_rng {f : Fd} (h : f.err = 0) : 1 ≤ f.wid ∧ f.wid ≤ 65536 := by
  have := err_zero h
  unfold wid
  split
  · omega
  · split
    · omega
    · split
      · omega
      · split <;> omega
theorem ali_rng {f : Fd} (h : f.err = 0) : 1 ≤ f.ali ∧ f.ali ≤ 8 := by
  have := err_zero h
  unfold ali wid
  repeat' split
  all_goals omega
end Fd
def upI (n a : Int) : Int := (n + a - 1) / a * a
theorem upI_rng {n a : Int} (hn : 0 ≤ n) (ha : 1 ≤ a) : n ≤ upI n a ∧ upI n a ≤ n + a - 1 := by
  unfold upI
  have h1 := Int.emod_add_mul_ediv (n + a - 1) a
  have h2 := Int.emod_lt_of_pos (n + a - 1) (show 0 < a by omega)
  have h3 := Int.emod_nonneg (n + a - 1) (show a ≠ 0 by omega)
  rw [Int.mul_comm] at h1
  generalize (n + a - 1) / a * a = q at *
  generalize (n + a - 1) % a = r at *
  omega
/-- End and greatest alignment. -/
def layS (s : Int × Int) (f : Fd) : Int × Int := (upI s.1 f.ali + f.wid, max s.2 f.ali)
def lay (fs : List Fd) : Int × Int := fs.foldl layS (0, 1)
def sizeF (fs : List Fd) : Int := upI (lay fs).1 (lay fs).2
theorem lay_snoc (fs : List Fd) (f : Fd) : lay (fs ++ [f]) = layS (lay fs) f := by simp [lay]
theorem lay_take {fs : List Fd} {k : Nat} {f : Fd} (h : fs[k]? = some f) : lay (fs.take (k + 1)) = layS (lay (fs.take k)) f := by
  obtain ⟨hk, hf⟩ := List.getElem?_eq_some_iff.1 h
  rw [List.take_succ_eq_append_getElem hk, hf, lay_snoc]
def okFs (fs : List Fd) : Prop := ∀ f ∈ fs, f.err = 0
theorem okFs_take {fs : List Fd} (h : okFs fs) (k : Nat) : okFs (fs.take k) := fun f hf => h f (List.mem_of_mem_take hf)
theorem lay_rng {fs : List Fd} (h : okFs fs) : 0 ≤ (lay fs).1 ∧ (lay fs).1 ≤ 65600 * fs.length ∧ 1 ≤ (lay fs).2 ∧ (lay fs).2 ≤ 8 := by
  have key : ∀ (fs : List Fd) (s : Int × Int) (k : Nat), okFs fs → 0 ≤ s.1 → s.1 ≤ 65600 * k → 1 ≤ s.2 → s.2 ≤ 8 →
      0 ≤ (fs.foldl layS s).1 ∧ (fs.foldl layS s).1 ≤ 65600 * (k + fs.length : Nat) ∧ 1 ≤ (fs.foldl layS s).2 ∧ (fs.foldl layS s).2 ≤ 8 := by
    intro fs
    induction fs with
    | nil => intro s k _ h1 h2 h3 h4; exact ⟨h1, by simpa using h2, h3, h4⟩
    | cons f fs ih =>
      intro s k h h1 h2 h3 h4
      have hf := h f (by simp)
      have hw := Fd.wid_rng hf
      have ha := Fd.ali_rng hf
      have hu := upI_rng h1 ha.1
      have := ih (layS s f) (k + 1) (fun x hx => h x (by simp [hx])) (by unfold layS; dsimp only; omega) (by unfold layS; dsimp only; omega) (by unfold layS; dsimp only; omega) (by unfold layS; dsimp only; omega)
      rw [List.foldl_cons, List.length_cons, show k + (fs.length + 1) = k + 1 + fs.length by omega]
      exact this
  have := key fs (0, 1) 0 h (by decide) (by decide) (by decide) (by decide)
  rwa [Nat.zero_add] at this
def firstErr : List Fd → Int
  | [] => 0
  | f :: r => if f.err = 0 then firstErr r else f.err
theorem firstErr_no {f : Fd} (r : List Fd) (h : ¬ f.err = 0) : firstErr (f :: r) = f.err := by rw [firstErr, if_neg h]
theorem firstErr_yes {f : Fd} (r : List Fd) (h : f.err = 0) : firstErr (f :: r) = firstErr r := by rw [firstErr, if_pos h]
theorem firstErr_zero : ∀ {fs : List Fd}, firstErr fs = 0 → okFs fs
  | [], _ => fun f hf => by cases hf
  | f :: r, h => by
    unfold firstErr at h
    split at h
    · rename_i h0
      intro g hg
      rcases List.mem_cons.1 hg with rfl | hg
      · exact h0
      · exact firstErr_zero h g hg
    · rename_i h0
      exact absurd h h0
theorem firstErr_ok : ∀ {fs : List Fd}, okFs fs → firstErr fs = 0
  | [], _ => rfl
  | f :: r, h => by
    unfold firstErr
    rw [if_pos (h f (by simp))]
    exact firstErr_ok fun g hg => h g (by simp [hg])
theorem firstErr_cases : ∀ fs : List Fd, firstErr fs = 0 ∨ firstErr fs = 3 ∨ firstErr fs = 4 ∨ firstErr fs = 8
  | [] => .inl rfl
  | f :: r => by
    unfold firstErr
    split
    · exact firstErr_cases r
    · exact f.err_cases
def sizeT (len : Int) (fs : List Fd) : Int := if 0 < len then len * (fs.headD ⟨0, 0⟩).wid else sizeF fs
def chk (len : Int) (fs : List Fd) : Int :=
  if len < 0 then 3 else if 65536 < len then 4 else if (len = 0 ∧ fs.length = 0) ∨ (0 < len ∧ ¬ fs.length = 1) then 3 else if 32 < fs.length then 4
  else if ¬ firstErr fs = 0 then firstErr fs else if 65536 < sizeT len fs then 4 else 0
theorem chk_zero {len : Int} {fs : List Fd} (h : chk len fs = 0) : 0 ≤ len ∧ len ≤ 65536 ∧ fs.length ≤ 32 ∧ 1 ≤ fs.length ∧ (0 < len → fs.length = 1) ∧ okFs fs ∧ sizeT len fs ≤ 65536 := by
  unfold chk at h
  split at h
  · cases h
  split at h
  · cases h
  split at h
  · cases h
  split at h
  · cases h
  split at h
  · rename_i h0
    exact absurd h h0
  rename_i h0
  split at h
  · cases h
  exact ⟨by omega, by omega, by omega, by omega, by omega, firstErr_zero (by omega), by omega⟩
theorem chk_of {len : Int} {fs : List Fd} (h1 : 0 ≤ len) (h2 : len ≤ 65536) (h3 : fs.length ≤ 32) (h4 : 1 ≤ fs.length) (h5 : 0 < len → fs.length = 1) (h6 : okFs fs) (h7 : sizeT len fs ≤ 65536) : chk len fs = 0 := by
  unfold chk
  rw [if_neg (by omega), if_neg (by omega), if_neg (by omega), if_neg (by omega), if_neg (by rw [firstErr_ok h6]; simp), if_neg (by omega)]
theorem chk_cases (len : Int) (fs : List Fd) : chk len fs = 0 ∨ chk len fs = 3 ∨ chk len fs = 4 ∨ chk len fs = 8 := by
  unfold chk
  have := firstErr_cases fs
  repeat' split
  all_goals omega
theorem mul_small {a b : Int} (h1 : 0 ≤ a) (h2 : a ≤ 65536) (h3 : 0 ≤ b) (h4 : b ≤ 65536) : 0 ≤ a * b ∧ a * b ≤ 4294967296 :=
  ⟨Int.mul_nonneg h1 h3, Int.le_trans (Int.mul_le_mul h2 h4 h3 (by omega)) (by decide)⟩
end Go.Proofs.Ytfaanphjaghbpaa
