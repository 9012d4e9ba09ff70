/- Package layout: what its functions answer. -/
import Derived.Test.YtfaanphjaghbpaaLPlain
namespace Go.Proofs.Ytfaanphjaghbpaa
open Go.RowKit Go.Shelf
set_option linter.unusedVariables false
set_option linter.unusedSimpArgs false
set_option maxRecDepth 100000

section
variable {W w : World} {L : List Res} {M : List Nat} {n c : Nat} {A : Option Addr} {fs : List Fd}
theorem Sl.fld0 {b off k : Nat} {x : Fd} (h : Sl W W.heap.size 2 (some ⟨b, off, none⟩) n c (cl fdc fs)) (hx : fs[k]? = some x) : LD Try.prog [] W L 3 ⟨b, off + k * 2, none⟩ (.int .i64 x.kind) :=
  h.ld1 (m := 1) (i := k * 2) (by kernel_rfl) (cl_get (j := 0) fdc_len hx rfl)
theorem Sl.fld1 {b off k : Nat} {x : Fd} (h : Sl W W.heap.size 2 (some ⟨b, off, none⟩) n c (cl fdc fs)) (hx : fs[k]? = some x) : LD Try.prog [] W L 3 ⟨b, off + k * 2 + 1, none⟩ (.int .i64 x.count) := by
  rw [Nat.add_assoc]
  exact h.ld1 (m := 1) (i := k * 2 + 1) (by kernel_rfl) (cl_get (j := 1) fdc_len hx rfl)
end
def tyV (len : Int) (A : Option Addr) (n c : Nat) : Value := .agg #[.int .i64 len, .slice A n c]
theorem some_of {α : Type} {l : List α} {i : Nat} (h : i < l.length) : ∃ x, l[i]? = some x := ⟨_, List.getElem?_eq_getElem h⟩

set_option maxRecDepth 100000 in
theorem sLay1 : type_of% (And.intro @fdV.eq_1 @tyV.eq_1) := (And.intro @fdV.eq_1 @tyV.eq_1)
end Go.Proofs.Ytfaanphjaghbpaa
