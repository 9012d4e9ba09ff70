/- Arrays of numbers, and slices of arrays of numbers, as parameters: opened. -/
import Derived.Test.YthlhjljgpohgbaaMOpen
namespace Go.Proofs.Ythlhjljgpohgbaa
open Go.RowKit Go.Shelf Go.ChangeShapes Go.WideShapes Go.Joins Go.ChangeAt Go.Deep
set_option linter.unusedVariables false
set_option linter.unusedSimpArgs false
section
variable {H : Type} {enc : TypeId × Value → H} {P : Program} {w : World} {base b0 : Nat} {held : Bool} {fuel : Nat} {v : Value} {d : DataW H} {p : List MemPlace} {x : DataW H × List MemPlace} {cs : List Value}
theorem open_arr {t e : TypeId} {N : Nat} {k : IntKind} {B : Int} (ht : P.underlying t = some (.array N e)) (he : P.underlying e = some (.int k)) (hC : P.cellsOf e = 1) (hCt : P.cellsOf t = N) (hwf : ∀ n : Int, (Lit.int k n).wf = true → 0 ≤ n ∧ n < B)
    (hval : Value.okWide P w .any b0 t v) (h : DataW.Trod enc P w base (fun _ => true) held t v d p) : ∃ l : List Nat, v = .agg (l.map fun x : Nat => Value.int k (x : Int)).toArray ∧ l.length = N ∧ ∀ x ∈ l, (x : Int) < B := by
  obtain ⟨cs, rfl, hsz⟩ : ∃ cs : Array Value, v = .agg cs ∧ cs.size = N := by
    simp only [Value.okWide, ht] at hval
    obtain ⟨cs, h1, h2, _⟩ := hval
    exact ⟨cs, h1, h2.trans hCt⟩
  obtain ⟨fuel, hf⟩ := h
  obtain ⟨ys, m, -, -, hl, hyl, hy⟩ := DataW.trod_array ht hf
  obtain ⟨T, hT⟩ := skolem (α := Nat) (n := N) (p := fun i a => cs.toList[i]? = some (.int k (a : Int)) ∧ (a : Int) < B) fun i hi => by
    have h1 := hy i hi
    rw [hC, Nat.mul_one] at h1
    have hlt : i < ys.length := by omega
    rw [List.getElem?_eq_getElem hlt] at h1
    have hic : i < cs.toList.length := by rw [Array.length_toList]; omega
    have h2 : ((Value.agg cs).cells.toList.drop i).take 1 = [cs.toList[i]] := by
      show (cs.toList.drop i).take 1 = _
      rw [List.drop_eq_getElem_cons hic]
      rfl
    rw [h2] at h1
    obtain ⟨a, e, -, w1⟩ := DataW.trod_int he h1
    have := hwf _ w1
    simp only [List.cons.injEq, and_true] at e
    refine ⟨a.toNat, ?_, by omega⟩
    rw [List.getElem?_eq_getElem hic, e, Int.toNat_of_nonneg this.1]
  refine ⟨(List.range N).map T, ?_, by simp, fun x hx => ?_⟩
  · have e : cs.toList = ((List.range N).map T).map fun x : Nat => Value.int k (x : Int) := by
      apply List.ext_getElem?
      intro i
      by_cases hi : i < N
      · rw [(hT i hi).1]
        simp [hi]
      · rw [List.getElem?_eq_none (by rw [Array.length_toList]; omega), List.getElem?_eq_none (by simp; omega)]
    rw [← e]
  · obtain ⟨j, hj, rfl⟩ := List.mem_map.1 hx
    exact (hT j (List.mem_range.1 hj)).2
theorem open_arrows {t e q : TypeId} {N : Nat} {k : IntKind} {B : Int} (ht : P.underlying t = some (.slice e)) (he : P.underlying e = some (.array N q)) (hq : P.underlying q = some (.int k)) (hC : P.cellsOf q = 1) (hCe : P.cellsOf e = N) (hp : 0 < N) (hwf : ∀ n : Int, (Lit.int k n).wf = true → 0 ≤ n ∧ n < B)
    (hval : Value.okWide P w .any b0 t v) (h : DataW.Trod enc P w base (fun _ => true) held t v d p) :
    ∃ (A : Option Addr) (n c : Nat) (l : List (List Nat)), v = .slice A n c ∧ Sl w w.heap.size N A n c (cl (fun r : List Nat => r.map fun x : Nat => Value.int k (x : Int)) l) ∧ ∀ r ∈ l, r.length = N ∧ ∀ x ∈ r, (x : Int) < B := by
  obtain ⟨fuel, hf⟩ := h
  obtain ⟨a0, len, cap, rfl⟩ := okWide_slice ht hval
  rcases open_slice ht hf with h0 | ⟨a, len', cap', m, n, D, Pl, hcs, hb, hl, hm, hmm, hx, hi⟩
  · have := h0.1
    simp [Value.cells] at this
    obtain ⟨rfl, rfl, rfl⟩ := this
    exact ⟨none, 0, 0, [], rfl, Sl.nil _, by simp⟩
  · simp only [if_true] at hmm
    subst hmm
    have hcs' : (a0 = some a ∧ len = len' ∧ cap = m) := by simpa [Value.cells] using hcs
    obtain ⟨rfl, rfl, rfl⟩ := hcs'
    obtain ⟨R, hR⟩ := skolem (α := List Nat) (n := cap) (p := fun i r => r.length = N ∧ (∀ x ∈ r, (x : Int) < B) ∧ ∀ j v, (r.map fun x : Nat => Value.int k (x : Int))[j]? = some v → w.cell? (a.add (i * N + j)) = some v) fun i him => by
      obtain ⟨cs', hc, ht'⟩ := hi i him
      rw [hCe] at hc
      obtain ⟨ys, n', hn', hy, hlen, hyl, hf⟩ := DataW.trod_array he ht'
      obtain ⟨_, hcl, hat⟩ := World.cells?_some hc
      obtain ⟨T, hT⟩ := skolem (α := Nat) (n := N) (p := fun j b => w.cell? (a.add (i * N + j)) = some (.int k (b : Int)) ∧ (b : Int) < B) fun j hj => by
        have h1 := hf j hj
        rw [hC, Nat.mul_one] at h1
        have hlt : j < ys.length := by omega
        rw [List.getElem?_eq_getElem hlt] at h1
        have hic : j < cs'.length := by omega
        have h2 : (cs'.drop j).take 1 = [cs'[j]] := by
          rw [List.drop_eq_getElem_cons hic]
          rfl
        rw [h2] at h1
        obtain ⟨b, e, -, w1⟩ := DataW.trod_int hq h1
        have := hwf _ w1
        simp only [List.cons.injEq, and_true] at e
        refine ⟨b.toNat, ?_, by omega⟩
        have h3 := hat j hj
        rw [add_of_add, List.getElem?_eq_getElem hic, e] at h3
        rw [h3, Int.toNat_of_nonneg this.1]
      refine ⟨(List.range N).map T, by simp, fun x hx => ?_, fun j v hv => ?_⟩
      · obtain ⟨j, hj, rfl⟩ := List.mem_map.1 hx
        exact (hT j (List.mem_range.1 hj)).2
      · by_cases hj : j < N
        · have := (hT j hj).1
          simp [hj] at hv
          rw [this, hv]
        · simp [hj] at hv
    refine ⟨some a, len, cap, (List.range len).map R, rfl, ?_, fun r hr => ?_⟩
    · have hlen : ∀ i, i < cap → ((R i).map fun x : Nat => Value.int k (x : Int)).length = N := fun i hi => by simp [(hR i hi).1]
      have e : cl (fun r : List Nat => r.map fun x : Nat => Value.int k (x : Int)) ((List.range len).map R) = (List.range len).flatMap fun i => (List.range N).map fun j => Value.int k (((R i)[j]?.getD 0 : Nat) : Int) := by
        unfold cl
        rw [List.flatMap_map]
        refine flat_cong fun i hi => ?_
        have hl1 := (hR i (by have := List.mem_range.1 hi; omega)).1
        apply List.ext_getElem?
        intro j
        by_cases hj : j < N
        · have hj1 : j < (R i).length := by omega
          simp [hj, hj1, List.getElem?_eq_getElem hj1]
        · rw [List.getElem?_eq_none (by simp; omega), List.getElem?_eq_none (by simp; omega)]
      rw [e]
      refine Sl.of_cells (by
        have := cl_len (f := fun i => (List.range N).map fun j => Value.int k (((R i)[j]?.getD 0 : Nat) : Int)) (k := N) (fun x => by simp) (List.range len)
        rw [List.length_range] at this
        exact this) hp hl hm fun i v hv => ?_
      obtain ⟨-, hd, rfl⟩ := flat_get (R := fun i j => Value.int k (((R i)[j]?.getD 0 : Nat) : Int)) hv
      have hj : i % N < N := Nat.mod_lt _ hp
      have hq := hR (i / N) (by omega)
      have h3 := hq.2.2 (i % N) (Value.int k (((R (i / N))[i % N]?.getD 0 : Nat) : Int)) (by
        have hj1 : i % N < (R (i / N)).length := by rw [hq.1]; exact hj
        simp [hj1, List.getElem?_eq_getElem hj1])
      have e2 : i / N * N + i % N = i := by rw [Nat.mul_comm]; exact Nat.div_add_mod i N
      rw [e2] at h3
      exact h3
    · obtain ⟨i, hi', rfl⟩ := List.mem_map.1 hr
      have := hR i (by have := List.mem_range.1 hi'; omega)
      exact ⟨this.1, this.2.1⟩
end
end Go.Proofs.Ythlhjljgpohgbaa
