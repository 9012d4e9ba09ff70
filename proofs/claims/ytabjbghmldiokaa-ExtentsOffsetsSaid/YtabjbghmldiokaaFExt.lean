/- Extents over the abstract state. -/
import Derived.Test.YtabjbghmldiokaaTy
import Derived.Test.YtabjbghmldiokaaCore
import Derived.Test.YtabjbghmldiokaaExHas
import Derived.Test.YtabjbghmldiokaaExCat
namespace Go.Proofs.Ytabjbghmldiokaa
open Go.RowKit Go.Shelf
set_option linter.unusedVariables false
set_option linter.unusedSimpArgs false

section
variable {W w : World} {L : List Res} {n c : Nat} {A : Option Addr} {xs : List Ext}
theorem Exts.at (h : Exts W W.heap.size A n c xs) (hw : St [] W L w) : Exts w w.heap.size A n c xs := (h.below hw.below).more hw.pres.size
def exV (e : Ext) : Value := .agg #[.int .i64 e.off, .int .i64 e.len]
theorem Exts.ld {b off i : Nat} (h : Exts W W.heap.size (some ⟨b, off, none⟩) n c xs) (hi : i < n) : LD Try.prog [] W L 24 ⟨b, off + i * 2, none⟩ (.agg #[.int .i64 (Ex.get xs i).off, .int .i64 (Ex.get xs i).len]) := fun w hw => by
  obtain ⟨b', off', e, hb, hc⟩ := h.cells (by omega)
  cases e
  obtain ⟨h1, h2⟩ := hc i hi
  refine loadAt_agg (P := Try.prog) (m := 2) (by kernel_rfl) [.int .i64 (Ex.get xs i).off, .int .i64 (Ex.get xs i).len] rfl fun j v hv => ?_
  rw [Addr.add_lit, hw.base_cell hb (by simp)]
  match j, hv with
  | 0, hv => cases hv; exact h1
  | 1, hv => cases hv; exact h2
theorem Exts.ld0 {b off i : Nat} (h : Exts W W.heap.size (some ⟨b, off, none⟩) n c xs) (hi : i < n) : LD Try.prog [] W L 3 ⟨b, off + i * 2, none⟩ (.int .i64 (Ex.get xs i).off) := fun w hw => by
  obtain ⟨b', off', e, hb, hc⟩ := h.cells (by omega)
  cases e
  exact loadAt_one (P := Try.prog) (m := 1) (by kernel_rfl) ((hw.base_cell hb (by simp)).trans (hc i hi).1)
theorem Exts.ld1 {b off i : Nat} (h : Exts W W.heap.size (some ⟨b, off, none⟩) n c xs) (hi : i < n) : LD Try.prog [] W L 3 ⟨b, off + i * 2 + 1, none⟩ (.int .i64 (Ex.get xs i).len) := fun w hw => by
  obtain ⟨b', off', e, hb, hc⟩ := h.cells (by omega)
  cases e
  exact loadAt_one (P := Try.prog) (m := 1) (by kernel_rfl) ((hw.base_cell hb (by simp)).trans (hc i hi).2)
end
theorem get_take {xs : List Ext} {k i : Nat} (h : i < k) : Ex.get (xs.take k) i = Ex.get xs i := by
  unfold Ex.get
  rw [List.getD_eq_getElem?_getD, List.getD_eq_getElem?_getD, List.getElem?_take, if_pos h]
theorem get_drop {xs : List Ext} {k i : Nat} : Ex.get (xs.drop k) i = Ex.get xs (k + i) := by
  unfold Ex.get
  rw [List.getD_eq_getElem?_getD, List.getD_eq_getElem?_getD, List.getElem?_drop]
theorem Exts.take {w : World} {B n c : Nat} {A : Option Addr} {xs : List Ext} (h : Exts w B A n c xs) {k : Nat} (hk : k ≤ n) : Exts w B A k c (xs.take k) :=
  ⟨by rw [List.length_take, h.len]; omega, by have := h.cap; omega, h.max, fun hn => by
    obtain ⟨b, off, e, hb, hc⟩ := h.cells (by omega)
    exact ⟨b, off, e, hb, fun i hi => by rw [get_take hi]; exact hc i (by omega)⟩⟩
theorem Exts.drop {w : World} {B n c : Nat} {A : Option Addr} {xs : List Ext} (h : Exts w B A n c xs) {k : Nat} (hk : k ≤ n) : Exts w B (sbase c k 2 A) (n - k) (c - k) (xs.drop k) :=
  ⟨by rw [List.length_drop, h.len], by have := h.cap; omega, by have := h.max; omega, fun hn => by
    obtain ⟨b, off, e, hb, hc⟩ := h.cells (by omega)
    have := h.cap
    refine ⟨b, off + k * 2, by rw [e, sbase_some (by omega), Addr.add_lit], hb, fun i hi => ?_⟩
    rw [get_drop]
    have e1 : off + k * 2 + i * 2 = off + (k + i) * 2 := by omega
    rw [e1]
    exact hc (k + i) (by omega)⟩
theorem Exts.of_blk {M : List Nat} {W w : World} {L : List Res} {b : Nat} {t : TypeId} {e : Ext} (hw : St M W L w) (hm : Res.blk b t [.int .i64 e.off, .int .i64 e.len] ∈ L) : Exts w w.heap.size (some ⟨b, 0, none⟩) 1 1 [e] :=
  ⟨rfl, Nat.le_refl _, by omega, fun _ => ⟨_, _, rfl, (hw.own _ hm b (by simp [Res.foot])).2, fun i hi => by
    obtain rfl : i = 0 := by omega
    exact ⟨(hw.blk_cell hm 0).trans rfl, (hw.blk_cell hm 1).trans rfl⟩⟩⟩
theorem propB_iff (e : Ext) : e.propB = true ↔ 0 ≤ e.off ∧ 0 < e.len ∧ e.off + e.len ≤ 1048576 := decide_eq_true_iff
theorem ones_exCells (l : List Ext) : ones (exCells l) = true := by
  unfold ones exCells
  simp [List.all_flatMap, Value.oneCell']
theorem cells_len {xs : List Ext} {n : Nat} (h : (exCells xs).length = n * 2) : xs.length = n := by rw [exCells_len] at h; omega
end Go.Proofs.Ytabjbghmldiokaa
