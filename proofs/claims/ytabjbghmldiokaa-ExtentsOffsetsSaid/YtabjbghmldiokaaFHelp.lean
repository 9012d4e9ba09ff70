/- Small facts that the extents' laws share. -/
import Derived.Test.YtabjbghmldiokaaFAwake
import Derived.Test.YtabjbghmldiokaaExOpen
import Derived.Test.YtabjbghmldiokaaExSame
namespace Go.Proofs.Ytabjbghmldiokaa
open Go.RowKit Go.Shelf
set_option linter.unusedVariables false
set_option linter.unusedSimpArgs false
set_option maxRecDepth 100000

theorem wf_i64 {n : Int} (h : (Lit.int .i64 n).wf = true) : -9223372036854775808 ≤ n ∧ n ≤ 9223372036854775807 := wf64 h
theorem wf_u8 {n : Int} (h : (Lit.int .u8 n).wf = true) : 0 ≤ n ∧ n ≤ 255 := wf8 h
theorem U16s.at {W w : World} {L : List Res} {A : Option Addr} {n c : Nat} {l : List Int} (h : U16s W W.heap.size A n c l) (hw : St [] W L w) : U16s w w.heap.size A n c l := by
  have h' := h.below hw.below
  exact ⟨h'.len, h'.cap, h'.max, h'.rng, fun hn => by
    obtain ⟨b, off, e, hb, hc⟩ := h'.cells hn
    exact ⟨b, off, e, by have := hw.pres.size; omega, hc⟩⟩
theorem same_self (A B : Option Addr) (n c m d : Nat) (xs : List Ext) (w : World) (hE : Exts w w.heap.size A n c xs) (hF : Exts w w.heap.size B m d xs) :
    Calls Try.prog 17 #[.slice A n c, .slice B m d] w fun e w' => e = .returned (.bool true) ∧ Below w.heap.size w w' := by
  have := same_any A B n c m d xs xs w hE hF
  rwa [show sameB xs xs = true from decide_eq_true rfl] at this
theorem exList_few (L : List Int) : (exList L 12).length ≤ 12 := by
  unfold exList
  rw [exTo_len]
  unfold exCount
  omega
theorem set_range (L : List Int) (m : Nat) : ∀ i, i < m → -9223372036854775808 ≤ (Ex.get (exList L 12) i).len ∧ (Ex.get (exList L 12) i).len ≤ 9223372036854775807 := by
  intro i _
  by_cases h : i < (exList L 12).length
  · have h1 : 0 ≤ (Ex.get (exList L 12) i).off ∧ 0 < (Ex.get (exList L 12) i).len ∧ (Ex.get (exList L 12) i).off + (Ex.get (exList L 12) i).len ≤ 1048576 := (exList_vld L 12 (by omega) i h).1
    omega
  · have : Ex.get (exList L 12) i = ⟨0, 0⟩ := by
      unfold Ex.get
      rw [List.getD_eq_getElem?_getD, List.getElem?_eq_none (by omega)]
      rfl
    rw [this]
    dsimp only
    omega

end Go.Proofs.Ytabjbghmldiokaa
