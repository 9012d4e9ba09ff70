/- Arguments of the extents' laws, opened. -/
import Derived.Test.YtabjbghmldiokaaFrame
import Derived.Test.YtabjbghmldiokaaExCell
import Derived.Test.YtabjbghmldiokaaTape
namespace Go.Proofs.Ytabjbghmldiokaa
open Go.ChangeShapes Go.WideShapes Go.ChangeAt Go.RowKit Go.Deep Go.Joins
set_option linter.unusedVariables false
section
variable {H : Type} {enc : TypeId × Value → H} {P : Program} {w : World} {base : Nat} {spare : Nat → Bool} {held : Bool}
/-- extra-structs.md's first block (there to be copied). -/
theorem open_slice_fields {t e : TypeId} {fs : Array Field} {fuel : Nat} {cs : List Value} {x : DataW H × List MemPlace} (ht : P.underlying t = some (.slice e)) (he : P.underlying e = some (.struct fs))
    (hone : oneCellFields P fs = true) (hC : P.cellsOf e = fs.size) (h : DataW.trod enc P w base spare held fuel t cs = some x) :
    (cs = [.slice none 0 0] ∧ x = (.nil, [])) ∨
    ∃ (a : Addr) (len cap m : Nat) (D : Nat → DataW H) (Pl : Nat → List MemPlace), cs = [.slice (some a) len cap] ∧ base ≤ a.block ∧ len ≤ cap ∧ cap ≤ maxLen ∧ m = (if spare a.block then cap else len) ∧
      x = (.slice ((List.range len).map D) ((List.range (m - len)).map fun j => D (len + j)), MemPlace.row a (m * fs.size) ++ (List.range m).flatMap Pl) ∧
      ∀ i, i < m → ∃ (ys : List (DataW H × List MemPlace)) (n : Nat), D i = .agg (ys.map (·.1)) ∧ Pl i = ys.flatMap (·.2) ∧ ys.length = fs.size ∧
        ∀ (j : Nat) (f : Field), fs[j]? = some f → ∃ (v : Value) (y : DataW H × List MemPlace), w.cell? (a.add (i * fs.size + j)) = some v ∧ ys[j]? = some y ∧ DataW.trod enc P w base spare held n f.type [v] = some y := by
  rcases open_slice ht h with h0 | ⟨a, len, cap, m, n, D, Pl, hcs, hb, hl, hm, hmm, hx, hi⟩
  · exact .inl h0
  · refine .inr ⟨a, len, cap, m, D, Pl, hcs, hb, hl, hm, hmm, by rw [hC] at hx; exact hx, fun i him => ?_⟩
    obtain ⟨cs', hc, ht'⟩ := hi i him
    rw [hC] at hc
    obtain ⟨ys, n', hn', hy, hlen, hyl, hf⟩ := DataW.trod_struct he ht'
    obtain ⟨_, hcl, hat⟩ := World.cells?_some hc
    simp only [Prod.mk.injEq] at hy
    refine ⟨ys, n', hy.1, hy.2, hyl, fun j f hj => ?_⟩
    obtain ⟨ho, hk⟩ := hone_of hone j f hj
    have hjl : j < fs.size := (Array.getElem?_eq_some_iff.1 hj).1
    have hcell := hat j hjl
    have hv : cs'[j]? = some (cs'[j]'(by omega)) := List.getElem?_eq_getElem (by omega)
    have h1 := hf j f hj
    rw [ho, hk] at h1
    have hone' : (cs'.drop j).take 1 = [cs'[j]'(by omega)] := by
      rw [List.drop_eq_getElem_cons (by omega)]
      rfl
    rw [hone'] at h1
    have hys : ys[j]? = some (ys[j]'(by omega)) := List.getElem?_eq_getElem (by omega)
    refine ⟨_, _, ?_, hys, h1.trans hys⟩
    rw [← Go.Deep.add_add, hcell, hv]

/-- The number that a value holds. -/
def intOfV : Value → Int
  | .int _ n => n
  | _ => 0
theorem spot_none {w : World} {a : Addr} {v : Value} (h : w.cell? a = some v) : a.spot = none := by
  unfold World.cell? at h
  split at h
  · split at h
    · cases h
    · rename_i hs
      simpa using hs
  · cases h
theorem wf64 {n : Int} (h : (Lit.int .i64 n).wf = true) : -9223372036854775808 ≤ n ∧ n ≤ 9223372036854775807 := by
  simp only [Lit.wf, Bool.and_eq_true, decide_eq_true_eq] at h
  exact h
theorem wf16 {n : Int} (h : (Lit.int .u16 n).wf = true) : 0 ≤ n ∧ n ≤ 65535 := by
  simp only [Lit.wf, Bool.and_eq_true, decide_eq_true_eq] at h
  exact h
theorem wf8 {n : Int} (h : (Lit.int .u8 n).wf = true) : 0 ≤ n ∧ n ≤ 255 := by
  simp only [Lit.wf, Bool.and_eq_true, decide_eq_true_eq] at h
  exact h

variable {b0 : Nat} {v : Value} {d : DataW H} {p : List MemPlace}
set_option maxRecDepth 100000 in
theorem open_ext (hval : Value.okWide Try.prog w .any b0 24 v) (h : DataW.Trod enc Try.prog w base spare held 24 v d p) :
    ∃ e : Ext, v = .agg #[.int .i64 e.off, .int .i64 e.len] ∧ (-9223372036854775808 ≤ e.off ∧ e.off ≤ 9223372036854775807) ∧ (-9223372036854775808 ≤ e.len ∧ e.len ≤ 9223372036854775807) := by
  obtain ⟨c0, c1, y0, y1, m, rfl, rfl, rfl, hy0, hy1⟩ := open_agg2 Try.underlying24 (by kernel_rfl) (by kernel_rfl) hval h
  obtain ⟨a, e0, _, wa⟩ := DataW.trod_int Try.underlying3 hy0
  obtain ⟨b, e1, _, wb⟩ := DataW.trod_int Try.underlying3 hy1
  simp at e0 e1
  subst e0 e1
  exact ⟨⟨a, b⟩, rfl, wf64 wa, wf64 wb⟩

set_option maxRecDepth 100000 in
theorem open_exts (hval : Value.okWide Try.prog w .any b0 22 v) (h : DataW.Trod enc Try.prog w base (fun _ => true) held 22 v d p) :
    ∃ A n c xs, v = .slice A n c ∧ Exts w w.heap.size A n c xs ∧ ∀ i, i < n → (-9223372036854775808 ≤ (Ex.get xs i).off ∧ (Ex.get xs i).off ≤ 9223372036854775807) ∧ -9223372036854775808 ≤ (Ex.get xs i).len ∧ (Ex.get xs i).len ≤ 9223372036854775807 := by
  obtain ⟨a0, len, cap, rfl⟩ := okWide_slice Try.underlying22 hval
  obtain ⟨fuel, hf⟩ := h
  rcases open_slice_fields Try.underlying22 Try.underlying24 (by kernel_rfl) (by kernel_rfl) hf with ⟨hcs, hx⟩ | ⟨a, len', cap', m, D, Pl, hcs, _, hl, hm, hmm, hx, hi⟩
  · simp [Value.cells] at hcs
    obtain ⟨rfl, rfl, rfl⟩ := hcs
    exact ⟨none, 0, 0, [], rfl, ⟨rfl, Nat.le_refl _, by omega, fun h => by omega⟩, fun i hi => by omega⟩
  · simp [Value.cells] at hcs
    obtain ⟨rfl, rfl, rfl⟩ := hcs
    simp only [if_true] at hmm
    subst hmm
    have hcell : ∀ i, i < len → ∃ o l, w.cell? (a.add (i * 2)) = some (.int .i64 o) ∧ w.cell? (a.add (i * 2 + 1)) = some (.int .i64 l) ∧ (-9223372036854775808 ≤ o ∧ o ≤ 9223372036854775807) ∧ -9223372036854775808 ≤ l ∧ l ≤ 9223372036854775807 := fun i hil => by
      obtain ⟨ys, n, _, _, _, hff⟩ := hi i (by omega)
      obtain ⟨v0, y0, hc0, _, ht0⟩ := hff 0 _ rfl
      obtain ⟨v1, y1, hc1, _, ht1⟩ := hff 1 _ rfl
      obtain ⟨o, e0, _, wo⟩ := DataW.trod_int Try.underlying3 ht0
      obtain ⟨l, e1, _, wl⟩ := DataW.trod_int Try.underlying3 ht1
      simp at e0 e1
      subst e0 e1
      exact ⟨o, l, hc0, hc1, wf64 wo, wf64 wl⟩
    let xs : List Ext := (List.range len).map fun i => ⟨intOfV ((w.cell? (a.add (i * 2))).getD undef), intOfV ((w.cell? (a.add (i * 2 + 1))).getD undef)⟩
    have hget : ∀ i, i < len → Ex.get xs i = ⟨intOfV ((w.cell? (a.add (i * 2))).getD undef), intOfV ((w.cell? (a.add (i * 2 + 1))).getD undef)⟩ := fun i hil => by
      unfold Ex.get
      rw [List.getD_eq_getElem?_getD, List.getElem?_map, List.getElem?_range hil]
      rfl
    refine ⟨some a, len, _, xs, rfl, ⟨by simp [xs], hl, by unfold maxLen at hm; omega, fun hn => ?_⟩, fun i hil => ?_⟩
    · obtain ⟨o, l, h0, h1, _⟩ := hcell 0 hn
      have hs : a.spot = none := by
        have := spot_none h0
        simpa [Addr.add] using this
      have hadd : ∀ k, a.add k = ⟨a.block, a.off + k, none⟩ := fun k => by
        obtain ⟨ab, ao, sq⟩ := a
        dsimp only at hs
        subst hs
        unfold Addr.add
        split
        · rename_i h; subst h; rfl
        · rfl
      refine ⟨a.block, a.off, ?_, ?_, fun i hil => ?_⟩
      · obtain ⟨ab, ao, sq⟩ := a
        dsimp only at hs
        subst hs
        rfl
      · have := World.block_lt_of_cell? w _ h0
        rwa [hadd] at this
      · obtain ⟨o, l, h0, h1, _⟩ := hcell i hil
        rw [hget i hil]
        rw [hadd] at h0 h1
        rw [hadd, hadd, Nat.add_assoc, h0, h1]
        exact ⟨rfl, rfl⟩
    · obtain ⟨o, l, h0, h1, h2, h3⟩ := hcell i hil
      rw [hget i hil, h0, h1]
      exact ⟨h2, h3⟩
set_option maxRecDepth 100000 in
theorem open_u16s (hval : Value.okWide Try.prog w .any b0 25 v) (h : DataW.Trod enc Try.prog w base (fun _ => true) held 25 v d p) :
    ∃ A n c L, v = .slice A n c ∧ U16s w w.heap.size A n c L := by
  obtain ⟨a0, len, cap, rfl⟩ := okWide_slice Try.underlying25 hval
  obtain ⟨fuel, hf⟩ := h
  rcases open_ints Try.underlying25 Try.underlying69 (by kernel_rfl) hf with ⟨hcs, hx⟩ | ⟨a, len', cap', zs, hcs, _, hl, hm, hz, hx, hcell, hwz⟩
  · simp [Value.cells] at hcs
    obtain ⟨rfl, rfl, rfl⟩ := hcs
    exact ⟨none, 0, 0, [], rfl, ⟨rfl, Nat.le_refl _, by omega, fun i => by simp, fun h => by omega⟩⟩
  · simp [Value.cells] at hcs
    obtain ⟨rfl, rfl, rfl⟩ := hcs
    simp only [if_true] at hz
    have hrng : ∀ i, 0 ≤ zs.getD i 0 ∧ zs.getD i 0 ≤ 65535 := fun i => by
      rw [List.getD_eq_getElem?_getD]
      cases hq : zs[i]? with
      | none => simp
      | some z => exact wf16 (hwz z (List.mem_of_getElem? hq))
    have hget : ∀ i, i < len → (zs.take len).getD i 0 = zs.getD i 0 := fun i hi => by
      rw [List.getD_eq_getElem?_getD, List.getD_eq_getElem?_getD, List.getElem?_take, if_pos hi]
    refine ⟨some a, len, _, zs.take len, rfl, ⟨by rw [List.length_take]; omega, hl, by unfold maxLen at hm; omega, fun i => ?_, fun hn => ?_⟩⟩
    · by_cases hi : i < len
      · rw [hget i hi]; exact hrng i
      · rw [List.getD_eq_getElem?_getD, List.getElem?_take, if_neg hi]; simp
    · have h0 := hcell 0 (by omega)
      have hs : a.spot = none := by
        have := spot_none h0
        simpa [Addr.add] using this
      have hadd : ∀ k, a.add k = ⟨a.block, a.off + k, none⟩ := fun k => by
        obtain ⟨ab, ao, sq⟩ := a
        dsimp only at hs
        subst hs
        unfold Addr.add
        split
        · rename_i h; subst h; rfl
        · rfl
      refine ⟨a.block, a.off, ?_, ?_, fun i hil => ?_⟩
      · obtain ⟨ab, ao, sq⟩ := a
        dsimp only at hs
        subst hs
        rfl
      · have := World.block_lt_of_cell? w _ h0
        rwa [hadd] at this
      · have h1 := hcell i (by omega)
        rw [hadd] at h1
        rw [h1, hget i hil]
end
end Go.Proofs.Ytabjbghmldiokaa
