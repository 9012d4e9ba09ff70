/- Plain facts on lists of extents: which are valid, and what the functions of layer 4 come to. No program in sight. -/
namespace Go.Proofs.Ytabjbghmldiokaa

/-- An extent: where it begins, and how long it is. -/
structure Ext where
  off : Int
  len : Int
deriving DecidableEq, Repr
namespace Ext
def end_ (e : Ext) : Int := e.off + e.len
def prop (e : Ext) : Prop := 0 ≤ e.off ∧ 0 < e.len ∧ e.off + e.len ≤ 1048576
instance (e : Ext) : Decidable e.prop := by unfold prop; exact inferInstance
def propB (e : Ext) : Bool := decide e.prop
end Ext

namespace Ex
def get (xs : List Ext) (i : Nat) : Ext := xs.getD i ⟨0, 0⟩
/-- What Valid asks of place i. -/
def okAt (xs : List Ext) (i : Nat) : Prop := (get xs i).prop ∧ (0 < i → (get xs (i - 1)).end_ < (get xs i).off)
instance (xs : List Ext) (i : Nat) : Decidable (okAt xs i) := by unfold okAt; exact inferInstance
def okUpto (xs : List Ext) (k : Nat) : Prop := ∀ i, i < k → okAt xs i
def vld (xs : List Ext) : Prop := okUpto xs xs.length
def vldB (xs : List Ext) : Bool := (List.range xs.length).all fun i => decide (okAt xs i)
theorem vldB_iff (xs : List Ext) : vldB xs = true ↔ vld xs := by simp [vldB, vld, okUpto]
theorem vldB_yes {xs : List Ext} (h : okUpto xs xs.length) : vldB xs = true := (vldB_iff xs).2 h
theorem vldB_no {xs : List Ext} {i : Nat} (hi : i < xs.length) (h : ¬ okAt xs i) : vldB xs = false := by
  cases hv : vldB xs with
  | false => rfl
  | true => exact absurd ((vldB_iff xs).1 hv i hi) h
theorem okUpto_succ {xs : List Ext} {k : Nat} (h : okUpto xs k) (hk : okAt xs k) : okUpto xs (k + 1) := fun i hi => by
  rcases Nat.lt_or_ge i k with h' | h'
  · exact h i h'
  · obtain rfl : i = k := by omega
    exact hk
/-- The first place whose extent ends behind an offset. -/
def aftFrom (xs : List Ext) (o : Int) : Nat → Nat → Nat
  | 0, k => k
  | f + 1, k => if (get xs k).end_ ≤ o then aftFrom xs o f (k + 1) else k
def aft (xs : List Ext) (o : Int) : Nat := aftFrom xs o xs.length 0
theorem aftFrom_eq (xs : List Ext) (o : Int) (i : Nat) (hi : i ≤ xs.length) (h1 : ∀ k, k < i → (get xs k).end_ ≤ o) (h2 : i < xs.length → o < (get xs i).end_) :
    ∀ f k, k + f = xs.length → k ≤ i → aftFrom xs o f k = i
  | 0, k, h, hk => by unfold aftFrom; omega
  | f + 1, k, h, hk => by
    unfold aftFrom
    by_cases hlt : k < i
    · rw [if_pos (h1 k hlt)]
      exact aftFrom_eq xs o i hi h1 h2 f (k + 1) (by omega) (by omega)
    · obtain rfl : k = i := by omega
      rw [if_neg (by have := h2 (by omega); omega)]
theorem aft_eq {xs : List Ext} {o : Int} {i : Nat} (hi : i ≤ xs.length) (h1 : ∀ k, k < i → (get xs k).end_ ≤ o) (h2 : i < xs.length → o < (get xs i).end_) : aft xs o = i :=
  aftFrom_eq xs o i hi h1 h2 _ 0 (by omega) (by omega)

/-- Insert's result out of the place i: joined with the one before. -/
def insL (xs : List Ext) (e : Ext) (i : Nat) : Nat × Ext := if 0 < i ∧ (get xs (i - 1)).end_ = e.off then (i - 1, ⟨(get xs (i - 1)).off, (get xs (i - 1)).len + e.len⟩) else (i, e)
/-- .. and with the one at i. -/
def insR (xs : List Ext) (e : Ext) (i : Nat) : Nat × Ext := if i < xs.length ∧ (get xs i).off = e.end_ then (i + 1, ⟨e.off, e.len + (get xs i).len⟩) else (i, e)
instance (xs : List Ext) : Decidable (vld xs) := decidable_of_iff _ (vldB_iff xs)
def insF (xs : List Ext) (e : Ext) : List Ext × Int :=
  if ¬ vld xs ∨ ¬ e.prop then ([], 1)
  else if aft xs e.off < xs.length ∧ (get xs (aft xs e.off)).off < e.end_ then ([], 5)
  else (xs.take (insL xs e (aft xs e.off)).1 ++ ([(insR xs (insL xs e (aft xs e.off)).2 (aft xs e.off)).2] ++ xs.drop (insR xs (insL xs e (aft xs e.off)).2 (aft xs e.off)).1), 0)
end Ex
end Go.Proofs.Ytabjbghmldiokaa
