/- Extents as cells. -/
import Derived.Test.YtabjbghmldiokaaExValid
namespace Go.Proofs.Ytabjbghmldiokaa
open Go.RowKit Go.Shelf
set_option linter.unusedVariables false

/-- Extents as cells. -/
def exCells (xs : List Ext) : List Value := xs.flatMap fun e => [.int .i64 e.off, .int .i64 e.len]
theorem exCells_len (xs : List Ext) : (exCells xs).length = xs.length * 2 := by
  induction xs with
  | nil => rfl
  | cons x xs ih => simp [exCells] at ih ⊢; omega
theorem exCells_snoc (xs : List Ext) (x : Ext) : exCells (xs ++ [x]) = exCells xs ++ [.int .i64 x.off, .int .i64 x.len] := by simp [exCells]
theorem exCells_app (xs ys : List Ext) : exCells (xs ++ ys) = exCells xs ++ exCells ys := by simp [exCells]
theorem exCells_get : ∀ (xs : List Ext) (i : Nat), i < xs.length → (exCells xs)[i * 2]? = some (.int .i64 (Ex.get xs i).off) ∧ (exCells xs)[i * 2 + 1]? = some (.int .i64 (Ex.get xs i).len)
  | [], i, h => by simp at h
  | x :: xs, 0, _ => by simp [exCells, Ex.get]
  | x :: xs, i + 1, h => by
    have := exCells_get xs i (by simpa using h)
    have e1 : (i + 1) * 2 = i * 2 + 1 + 1 := by omega
    rw [e1]
    simpa [exCells, Ex.get] using this

/-- A row of the call's own that holds extents reads as their list. -/
theorem Exts.of_own {w : World} {base n c : Nat} {A : Option Addr} {xs : List Ext} (h : w.ownsRow base 24 2 (.slice A n c) n (exCells xs)) : Exts w w.heap.size A n c xs := by
  have hl : xs.length = n := by have := h.1; rw [exCells_len] at this; omega
  rcases h.2 with ⟨hv, hn⟩ | ⟨g, cap, cur, hv, hb, hg, hnc, hcm, hsz, htk⟩
  · cases hv
    exact ⟨hl, by omega, by omega, fun h => by omega⟩
  · cases hv
    refine ⟨hl, hnc, hcm, fun hn => ⟨g, 0, rfl, h.lt g rfl |>.2, fun i hi => ?_⟩⟩
    have hc := exCells_get xs i (by omega)
    have e1 : (⟨g, 0, none⟩ : Addr).add (i * 2) = ⟨g, i * 2, none⟩ := by unfold Addr.add; split <;> simp_all
    have e2 : (⟨g, 0, none⟩ : Addr).add (i * 2 + 1) = ⟨g, i * 2 + 1, none⟩ := by unfold Addr.add; split <;> simp_all
    have h1 := h.cells (g := g) rfl _ _ hc.1
    have h2 := h.cells (g := g) rfl _ _ hc.2
    rw [e1] at h1
    rw [e2] at h2
    simpa using ⟨h1, h2⟩
theorem own_slice {w : World} {base : Nat} {e : TypeId} {size n : Nat} {v : Value} {xs : List Value} (h : w.ownsRow base e size v n xs) : ∃ A c, v = .slice A n c := by
  rcases h.2 with ⟨rfl, rfl⟩ | ⟨g, cap, cur, rfl, _⟩
  · exact ⟨_, _, rfl⟩
  · exact ⟨_, _, rfl⟩

theorem ext_info : (Try.prog.info? 24).map (fun i => (i.zero, i.size, i.bytes)) = some (some (.agg #[.int .i64 0, .int .i64 0]), 2, 16) := by kernel_rfl

end Go.Proofs.Ytabjbghmldiokaa
