/- A search along arrows: what has been seen, and what is still to be looked at. Plain. -/
import Derived.Test.YtlbmnioibiomfaaFlHgt
namespace Go.Proofs.Ytlbmnioibiomfaa
open Go.RowKit Go.Shelf
set_option linter.unusedVariables false
set_option linter.unusedSimpArgs false
def bAt (s : List Bool) (j : Nat) : Bool := s.getD j false
theorem bAt_get {s : List Bool} {j : Nat} (h : j < s.length) : s[j]? = some (bAt s j) := by simp [bAt, h]
theorem bAt_set {s : List Bool} {k j : Nat} (h : bAt s j = true) : bAt (s.set k true) j = true := by
  unfold bAt at *
  rw [List.getD_eq_getElem?_getD, List.getElem?_set]
  split
  · split
    · rfl
    · rename_i h1 h2
      subst h1
      simp [List.getElem?_eq_none (Nat.le_of_not_lt h2)] at h
  · simpa using h
theorem bAt_new {s : List Bool} {k : Nat} (h : k < s.length) : bAt (s.set k true) k = true := by simp [bAt, h]
theorem bAt_old {s : List Bool} {k j : Nat} (h : bAt (s.set k true) j = true) : j = k ∨ bAt s j = true := by
  unfold bAt at *
  rw [List.getD_eq_getElem?_getD, List.getElem?_set] at h
  split at h
  · rename_i h1
    exact .inl h1.symm
  · exact .inr (by simpa using h)
structure RI (N : Nat) (K : Nat → Prop) (D : Nat → List Nat) (s : List Bool) (l : List Nat) : Prop where
  len : s.length = N
  zero : bAt s 0 = true
  kn : ∀ i, bAt s i = true → K i
  cl : ∀ i, bAt s i = true → i ∈ l ∨ ∀ j ∈ D i, bAt s j = true
  qu : ∀ i ∈ l, bAt s i = true
def cutD (nx : Nat → List Nat) (at' q : Nat) (i : Nat) : List Nat := if i = at' then (nx i).take q else nx i
theorem RI.start {N : Nat} {K : Nat → Prop} {D : Nat → List Nat} (hN : 0 < N) (h0 : K 0) : RI N K D ((List.replicate N false).set 0 true) [0] := by
  refine ⟨by simp, bAt_new (by simpa), fun i hi => ?_, fun i hi => ?_, fun i hi => ?_⟩
  · rcases bAt_old hi with rfl | h
    · exact h0
    · unfold bAt at h
      rw [List.getD_eq_getElem?_getD, List.getElem?_replicate] at h
      split at h <;> simp at h
  · rcases bAt_old hi with rfl | h
    · exact .inl (by simp)
    · unfold bAt at h
      rw [List.getD_eq_getElem?_getD, List.getElem?_replicate] at h
      split at h <;> simp at h
  · obtain rfl : i = 0 := by simpa using hi
    exact bAt_new (by simpa)
theorem RI.pop {N : Nat} {K : Nat → Prop} {nx : Nat → List Nat} {s : List Bool} {at' : Nat} {l : List Nat} (h : RI N K nx s (at' :: l)) : RI N K (cutD nx at' 0) s l := by
  refine ⟨h.len, h.zero, h.kn, fun i hi => ?_, fun i hi => h.qu i (.tail _ hi)⟩
  by_cases hia : i = at'
  · exact .inr (by simp [cutD, hia])
  · rcases h.cl i hi with h1 | h1
    · rcases List.mem_cons.1 h1 with h2 | h2
      · exact absurd h2 hia
      · exact .inl h2
    · exact .inr (by simpa [cutD, hia] using h1)
theorem RI.old {N : Nat} {K : Nat → Prop} {nx : Nat → List Nat} {s : List Bool} {at' q y : Nat} {l : List Nat} (h : RI N K (cutD nx at' q) s l) (hy : (nx at')[q]? = some y) (hs : bAt s y = true) : RI N K (cutD nx at' (q + 1)) s l := by
  refine ⟨h.len, h.zero, h.kn, fun i hi => ?_, h.qu⟩
  rcases h.cl i hi with h1 | h1
  · exact .inl h1
  refine .inr fun j hj => ?_
  by_cases hia : i = at'
  · subst hia
    simp only [cutD, if_true] at hj h1
    rw [List.take_add_one, hy] at hj
    rcases List.mem_append.1 hj with hj | hj
    · exact h1 j hj
    · obtain rfl : j = y := by simpa using hj
      exact hs
  · simp only [cutD, if_neg hia] at hj h1
    exact h1 j hj
theorem RI.new {N : Nat} {K : Nat → Prop} {nx : Nat → List Nat} {s : List Bool} {at' q y : Nat} {l : List Nat} (h : RI N K (cutD nx at' q) s l) (hy : (nx at')[q]? = some y) (hyN : y < N) (hK : K y) : RI N K (cutD nx at' (q + 1)) (s.set y true) (l ++ [y]) := by
  refine RI.old (y := y) ⟨by rw [List.length_set]; exact h.len, bAt_set h.zero, fun i hi => ?_, fun i hi => ?_, fun i hi => ?_⟩ hy (bAt_new (by rw [h.len]; exact hyN))
  · rcases bAt_old hi with rfl | h1
    · exact hK
    · exact h.kn i h1
  · rcases bAt_old hi with rfl | h1
    · exact .inl (by simp)
    · rcases h.cl i h1 with h2 | h2
      · exact .inl (by simp [h2])
      · exact .inr fun j hj => bAt_set (h2 j hj)
  · rcases List.mem_append.1 hi with h1 | h1
    · exact bAt_set (h.qu i h1)
    · obtain rfl : i = y := by simpa using h1
      exact bAt_new (by rw [h.len]; exact hyN)
theorem RI.done {N : Nat} {K : Nat → Prop} {nx : Nat → List Nat} {s : List Bool} {at' q : Nat} {l : List Nat} (h : RI N K (cutD nx at' q) s l) (hq : (nx at').length ≤ q) : RI N K nx s l := by
  refine ⟨h.len, h.zero, h.kn, fun i hi => ?_, h.qu⟩
  rcases h.cl i hi with h1 | h1
  · exact .inl h1
  refine .inr fun j hj => h1 j ?_
  unfold cutD
  split
  · rename_i h2
    subst h2
    rwa [List.take_of_length_le hq]
  · exact hj
theorem RI.end_ {N : Nat} {K : Nat → Prop} {nx : Nat → List Nat} {s : List Bool} (h : RI N K nx s []) (hmin : ∀ S : Nat → Prop, S 0 → (∀ k, k < N → S k → ∀ j ∈ nx k, S j) → ∀ j, K j → S j) (i : Nat) : bAt s i = true ↔ K i :=
  ⟨h.kn i, fun hi => hmin (fun j => bAt s j = true) h.zero (fun k _ hk j hj => by
    rcases h.cl k hk with h1 | h1
    · cases h1
    · exact h1 j hj) i hi⟩
theorem bz_rep (N : Nat) : Value.bool true :: List.drop 1 (List.replicate N (Value.bool false)) = boz ((List.replicate N false).set 0 true) ∨ N = 0 := by
  rcases Nat.eq_zero_or_pos N with h | h
  · exact .inr h
  left
  have := bz_set (d := List.replicate N false) (k := 0) true (by simpa using h)
  rw [← this]
  simp [boz]
end Go.Proofs.Ytlbmnioibiomfaa
