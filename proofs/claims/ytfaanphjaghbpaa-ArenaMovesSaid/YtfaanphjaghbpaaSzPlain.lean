/- Plain facts on the sizes of layer 5: the k-th size, and the class of a number. No program in sight. -/
namespace Go.Proofs.Ytfaanphjaghbpaa.Sz

/-- The k-th size. -/
def sz (k : Nat) : Int := if k < 8 then 16 * (k + 1) else if k < 12 then 256 * 2 ^ (k - 8) else 2048 * ((k : Int) - 10)
/-- The step from a size to the next one. -/
def stp (s : Int) : Int := if s < 128 then 16 else if s < 2048 then s else 2048
/-- The first class from k on whose size is at least n; fuel rounds are tried. -/
def clsFrom (n : Int) : Nat → Nat → Nat
  | 0, k => k
  | f + 1, k => if n ≤ sz k then k else clsFrom n f (k + 1)
def cls (n : Int) : Nat := clsFrom n 43 0
/-- What Round and Class come to. -/
def rnd (n : Int) : Int := if n < 1 then 0 else if 65536 < n then 0 else sz (cls n)
def cla (n : Int) : Int := if n < 1 then 0 else if 65536 < n then 0 else (cls n : Int)
def err (n : Int) : Int := if n < 1 then 1 else if 65536 < n then 4 else 0

theorem sz_all : ∀ k, k < 43 → (16 ≤ sz k ∧ sz k ≤ 65536) ∧ sz (k + 1) = sz k + stp (sz k) ∧ sz k < sz (k + 1) := by decide
theorem sz_zero : sz 0 = 16 := by decide
theorem sz_last : sz 42 = 65536 := by decide
theorem sz_end : sz 43 = 67584 := by decide
theorem sz_bd {k : Nat} (h : k < 43) : 16 ≤ sz k ∧ sz k ≤ 65536 := (sz_all k h).1
theorem sz_succ {k : Nat} (h : k < 43) : sz (k + 1) = sz k + stp (sz k) := (sz_all k h).2.1
theorem sz_lt {k : Nat} (h : k < 43) : sz k < sz (k + 1) := (sz_all k h).2.2
theorem sz_mono : ∀ (d k : Nat), k + d ≤ 43 → sz k ≤ sz (k + d)
  | 0, _, _ => Int.le_refl _
  | d + 1, k, h => Int.le_trans (sz_mono d k (by omega)) (Int.le_of_lt (sz_lt (k := k + d) (by omega)))
theorem sz_le {j k : Nat} (h : j ≤ k) (hk : k ≤ 43) : sz j ≤ sz k := by
  obtain ⟨d, rfl⟩ := Nat.le.dest h
  exact sz_mono d j hk
theorem sz_str {j k : Nat} (h : j < k) (hk : k ≤ 43) : sz j < sz k := Int.lt_of_lt_of_le (sz_lt (by omega)) (sz_le (by omega : j + 1 ≤ k) hk)

theorem clsFrom_spec (n : Int) (hn : n ≤ 65536) : ∀ (f k : Nat), k + f = 43 → (∀ j, j < k → sz j < n) → k ≤ 42 →
    clsFrom n f k ≤ 42 ∧ n ≤ sz (clsFrom n f k) ∧ ∀ j, j < clsFrom n f k → sz j < n
  | 0, k, h, _, hk => by omega
  | f + 1, k, h, hj, hk => by
    unfold clsFrom
    by_cases hle : n ≤ sz k
    · rw [if_pos hle]; exact ⟨hk, hle, hj⟩
    · rw [if_neg hle]
      by_cases h42 : k = 42
      · subst h42; rw [sz_last] at hle; omega
      · refine clsFrom_spec n hn f (k + 1) (by omega) (fun j hj' => ?_) (by omega)
        by_cases e : j = k
        · subst e; omega
        · exact hj j (by omega)
theorem cls_spec {n : Int} (hn : n ≤ 65536) : cls n ≤ 42 ∧ n ≤ sz (cls n) ∧ ∀ j, j < cls n → sz j < n :=
  clsFrom_spec n hn 43 0 rfl (fun j h => by omega) (by omega)
/-- The class is the only k below 43 that has the two properties. -/
theorem cls_uniq {n : Int} {k : Nat} (hk : k < 43) (h1 : n ≤ sz k) (h2 : ∀ j, j < k → sz j < n) : cls n = k := by
  have hb : n ≤ 65536 := by have := (sz_bd hk).2; omega
  obtain ⟨a, b, c⟩ := cls_spec hb
  rcases Nat.lt_trichotomy (cls n) k with h | h | h
  · have := h2 _ h; omega
  · exact h
  · have := c _ h; omega
/-- The same, one step at a time: what lies before k is below n already where the size before is. -/
theorem cls_uniq' {n : Int} {k : Nat} (hk : k < 43) (h1 : n ≤ sz k) (h2 : 0 < k → sz (k - 1) < n) : cls n = k := by
  refine cls_uniq hk h1 fun j hj => ?_
  have h3 := h2 (by omega)
  have h4 : sz j ≤ sz (k - 1) := sz_le (by omega) (by omega)
  omega
theorem cls_mono {n m : Int} (h : n ≤ m) (hm : m ≤ 65536) : cls n ≤ cls m := by
  obtain ⟨a, b, c⟩ := cls_spec (n := n) (by omega)
  obtain ⟨a', b', c'⟩ := cls_spec hm
  rcases Nat.lt_or_ge (cls m) (cls n) with h' | h'
  · have := c _ h'; omega
  · exact h'
theorem cls_sz {k : Nat} (hk : k < 43) : cls (sz k) = k :=
  cls_uniq hk (Int.le_refl _) fun j hj => sz_str hj (by omega)

/-- The sizes as a list. -/
def all : List Int := (List.range 43).map sz
theorem all_length : all.length = 43 := by decide
theorem all_get {k : Nat} (h : k < 43) : all[k]? = some (sz k) := by simp [all, h]
end Go.Proofs.Ytfaanphjaghbpaa.Sz
