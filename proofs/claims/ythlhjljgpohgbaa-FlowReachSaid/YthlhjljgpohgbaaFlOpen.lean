/- The flow laws' parameters: pairs of bytes, four bytes, an instruction. -/
import Derived.Test.YthlhjljgpohgbaaAOpen
import Derived.Test.YthlhjljgpohgbaaFlRand
namespace Go.Proofs.Ythlhjljgpohgbaa
open Go.RowKit Go.Shelf Go.ChangeShapes Go.WideShapes Go.Joins
set_option linter.unusedVariables false
set_option linter.unusedSimpArgs false
set_option maxRecDepth 100000
section
variable {H : Type} {enc : TypeId × Value → H} {w : World} {base b0 : Nat} {held : Bool} {v : Value} {d : DataW H} {p : List MemPlace}
theorem wf_i8 {n : Int} (h : (Lit.int .i8 n).wf = true) : -128 ≤ n ∧ n ≤ 127 := by
  simp only [Lit.wf, Bool.and_eq_true, decide_eq_true_eq] at h
  exact h
theorem wf8b (n : Int) (h : (Lit.int .u8 n).wf = true) : 0 ≤ n ∧ n < 256 := by
  have := wf_u8 h
  omega
theorem open_pairs8 (hval : Value.okWide Try.prog w .any b0 39 v) (h : DataW.Trod enc Try.prog w base (fun _ => true) held 39 v d p) :
    ∃ (A : Option Addr) (n c : Nat) (l : List (List Nat)), v = .slice A n c ∧ Sl w w.heap.size 2 A n c (cl u8r l) ∧ ∀ r ∈ l, r.length = 2 ∧ ∀ x ∈ r, (x : Int) < 256 :=
  open_arrows (N := 2) Try.underlying39 Try.underlying67 Try.underlying5 (by kernel_rfl) (by kernel_rfl) (by decide) wf8b hval h
theorem open_four8 (hval : Value.okWide Try.prog w .any b0 40 v) (h : DataW.Trod enc Try.prog w base (fun _ => true) held 40 v d p) :
    ∃ s : Nat × Nat × Nat × Nat, v = .agg #[.int .u8 (s.1 : Int), .int .u8 (s.2.1 : Int), .int .u8 (s.2.2.1 : Int), .int .u8 (s.2.2.2 : Int)] ∧ s.1 < 256 ∧ s.2.1 < 256 ∧ s.2.2.1 < 256 ∧ s.2.2.2 < 256 := by
  obtain ⟨l, rfl, hl, hb⟩ := open_arr (N := 4) Try.underlying40 Try.underlying5 (by kernel_rfl) (by kernel_rfl) wf8b hval h
  match l, hl with
  | [a, b, c, e], _ =>
    have h1 := hb a (by simp)
    have h2 := hb b (by simp)
    have h3 := hb c (by simp)
    have h4 := hb e (by simp)
    exact ⟨(a, b, c, e), rfl, (show a < 256 by omega), (show b < 256 by omega), (show c < 256 by omega), (show e < 256 by omega)⟩
theorem open_instr (hval : Value.okWide Try.prog w .any b0 25 v) (h : DataW.Trod enc Try.prog w base (fun _ => true) held 25 v d p) : ∃ i : Ins, v = insV i ∧ i.arg < 18446744073709551616 := by
  obtain ⟨c0, c1, y0, y1, k, rfl, -, -, hy0, hy1⟩ := open_agg2 Try.underlying25 (by kernel_rfl) (by kernel_rfl) hval h
  obtain ⟨a0, e0, -, -⟩ := DataW.trod_int Try.underlying3 hy0
  obtain ⟨a1, e1, -, w1⟩ := DataW.trod_int Try.underlying23 hy1
  have := wfu64 w1
  simp at e0 e1
  subst e0 e1
  refine ⟨⟨a0, a1.toNat⟩, ?_, by dsimp only; omega⟩
  unfold insV
  rw [Int.toNat_of_nonneg this.1]
end
end Go.Proofs.Ythlhjljgpohgbaa
