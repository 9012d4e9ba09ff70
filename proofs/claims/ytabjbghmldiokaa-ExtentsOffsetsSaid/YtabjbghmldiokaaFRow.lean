/- Rows and blocks that hold extents. -/
import Derived.Test.YtabjbghmldiokaaFIns
namespace Go.Proofs.Ytabjbghmldiokaa
open Go.RowKit Go.Shelf
set_option linter.unusedVariables false
set_option linter.unusedSimpArgs false
set_option maxRecDepth 100000

theorem Exts.of_blkL {M : List Nat} {W w : World} {L : List Res} {b n : Nat} {t : TypeId} {xs : List Ext} (hw : St M W L w) (hm : Res.blk b t (exCells xs) ∈ L) (hn : xs.length = n) (h : n ≤ 1000) : Exts w w.heap.size (some ⟨b, 0, none⟩) n n xs :=
  ⟨hn, Nat.le_refl _, by omega, fun _ => ⟨_, _, rfl, (hw.own _ hm b (by simp [Res.foot])).2, fun i hi => by
    subst hn
    rw [hw.blk_cell hm, hw.blk_cell hm, Nat.zero_add]
    have := exCells_get xs i hi
    exact this⟩⟩
theorem Exts.of_row {M : List Nat} {W w : World} {L : List Res} {A : Option Addr} {n c : Nat} {xs : List Ext} (hw : St M W L w) (hm : Res.row (.slice A n c) 24 2 n (exCells xs) ∈ L) : Exts w w.heap.size A n c xs := Exts.of_own (hw.holds _ hm)
end Go.Proofs.Ytabjbghmldiokaa
