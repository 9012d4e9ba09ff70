/- A module, and six numbers, as parameters: opened. -/
import Derived.Test.YtlbmnioibiomfaaTOpen
import Derived.Test.YtlbmnioibiomfaaMod
namespace Go.Proofs.Ytlbmnioibiomfaa
open Go.RowKit Go.Shelf Go.ChangeShapes Go.WideShapes Go.Joins
set_option linter.unusedVariables false
set_option linter.unusedSimpArgs false
theorem flat_cong {α β : Type} {f g : α → List β} : ∀ {l : List α}, (∀ a ∈ l, f a = g a) → l.flatMap f = l.flatMap g
  | [], _ => rfl
  | a :: l, h => by rw [List.flatMap_cons, List.flatMap_cons, h a (by simp), flat_cong fun b hb => h b (by simp [hb])]
theorem skolem {α : Type} [Inhabited α] {n : Nat} {p : Nat → α → Prop} (h : ∀ i, i < n → ∃ a, p i a) : ∃ f : Nat → α, ∀ i, i < n → p i (f i) := by
  classical
  exact ⟨fun i => if hi : i < n then (h i hi).choose else default, fun i hi => by simp only [dif_pos hi]; exact (h i hi).choose_spec⟩
instance : Inhabited Ins := ⟨⟨0, 0⟩⟩
instance : Inhabited TyR := ⟨⟨0, none, 0, 0, []⟩⟩
instance : Inhabited FnR := ⟨⟨0, 0, 0, none, 0, 0, []⟩⟩
section
variable {H : Type} {enc : TypeId × Value → H} {w : World} {base b0 : Nat} {held : Bool} {fuel : Nat} {v : Value} {d : DataW H} {p : List MemPlace} {x : DataW H × List MemPlace} {cs : List Value}
set_option maxRecDepth 100000 in
theorem ins_trod (h : DataW.trod enc Try.prog w base (fun _ => true) held fuel 56 cs = some x) : ∃ (A : Option Addr) (n c : Nat) (is : List Ins), cs = [.slice A n c] ∧ Sl w w.heap.size 2 A n c (cl insc is) ∧ ∀ i ∈ is, i.arg < 18446744073709551616 := by
  obtain ⟨A, n, c, R, hcs, hE, hR⟩ := open_rows Try.underlying56 Try.underlying55 (by kernel_rfl) (by kernel_rfl) (by decide) h
  obtain ⟨T, hT⟩ := skolem (α := Ins) (n := n) (p := fun i t => (List.range 2).map (R i) = insc t ∧ t.arg < 18446744073709551616) fun i hi => by
    obtain ⟨y0, m0, h0⟩ := hR i hi 0 _ rfl
    obtain ⟨y1, m1, h1⟩ := hR i hi 1 _ rfl
    obtain ⟨a0, e0, -, -⟩ := DataW.trod_int Try.underlying3 h0
    obtain ⟨a1, e1, -, w1⟩ := DataW.trod_int Try.underlying53 h1
    have := wfu64 w1
    simp at e0 e1
    refine ⟨⟨a0, a1.toNat⟩, ?_, by dsimp only; omega⟩
    have e2 : ((a1.toNat : Nat) : Int) = a1 := Int.toNat_of_nonneg this.1
    simp [List.range_succ, e0, e1, insc, e2]
  refine ⟨A, n, c, (List.range n).map T, hcs, ?_, fun i hi => ?_⟩
  · have e : ((List.range n).flatMap fun i => (List.range 2).map (R i)) = cl insc ((List.range n).map T) := by
      unfold cl
      rw [List.flatMap_map]
      exact flat_cong fun i hi => (hT i (List.mem_range.1 hi)).1
    rw [← e]
    exact hE
  · obtain ⟨j, hj, rfl⟩ := List.mem_map.1 hi
    exact (hT j (List.mem_range.1 hj)).2
set_option maxRecDepth 100000 in
theorem tys_trod (h : DataW.trod enc Try.prog w base (fun _ => true) held fuel 26 cs = some x) : ∃ (A : Option Addr) (n c : Nat) (ts : List TyR), cs = [.slice A n c] ∧ Sl w w.heap.size 2 A n c (cl tyc ts) ∧ ∀ t ∈ ts, Sl w w.heap.size 2 t.A t.n t.c (cl fdc t.fs) := by
  obtain ⟨A, n, c, R, hcs, hE, hR⟩ := open_rows Try.underlying26 Try.underlying74 (by kernel_rfl) (by kernel_rfl) (by decide) h
  obtain ⟨T, hT⟩ := skolem (α := TyR) (n := n) (p := fun i t => (List.range 2).map (R i) = tyc t ∧ Sl w w.heap.size 2 t.A t.n t.c (cl fdc t.fs)) fun i hi => by
    obtain ⟨y0, m0, h0⟩ := hR i hi 0 _ rfl
    obtain ⟨y1, m1, h1⟩ := hR i hi 1 _ rfl
    obtain ⟨a0, e0, -, -⟩ := DataW.trod_int Try.underlying3 h0
    obtain ⟨A1, n1, c1, fs, e1, hF⟩ := flds_trod h1
    simp at e0 e1
    exact ⟨⟨a0, A1, n1, c1, fs⟩, by simp [List.range_succ, e0, e1, tyc], hF⟩
  refine ⟨A, n, c, (List.range n).map T, hcs, ?_, fun i hi => ?_⟩
  · have e : ((List.range n).flatMap fun i => (List.range 2).map (R i)) = cl tyc ((List.range n).map T) := by
      unfold cl
      rw [List.flatMap_map]
      exact flat_cong fun i hi => (hT i (List.mem_range.1 hi)).1
    rw [← e]
    exact hE
  · obtain ⟨j, hj, rfl⟩ := List.mem_map.1 hi
    exact (hT j (List.mem_range.1 hj)).2
set_option maxRecDepth 100000 in
theorem fns_trod (h : DataW.trod enc Try.prog w base (fun _ => true) held fuel 27 cs = some x) : ∃ (A : Option Addr) (n c : Nat) (gs : List FnR), cs = [.slice A n c] ∧ Sl w w.heap.size 4 A n c (cl fnc gs) ∧ ∀ g ∈ gs, Sl w w.heap.size 2 g.A g.n g.c (cl insc g.code) ∧ ∀ i ∈ g.code, i.arg < 18446744073709551616 := by
  obtain ⟨A, n, c, R, hcs, hE, hR⟩ := open_rows Try.underlying27 Try.underlying58 (by kernel_rfl) (by kernel_rfl) (by decide) h
  obtain ⟨T, hT⟩ := skolem (α := FnR) (n := n) (p := fun i g => (List.range 4).map (R i) = fnc g ∧ Sl w w.heap.size 2 g.A g.n g.c (cl insc g.code) ∧ ∀ i ∈ g.code, i.arg < 18446744073709551616) fun i hi => by
    obtain ⟨y0, m0, h0⟩ := hR i hi 0 _ rfl
    obtain ⟨y1, m1, h1⟩ := hR i hi 1 _ rfl
    obtain ⟨y2, m2, h2⟩ := hR i hi 2 _ rfl
    obtain ⟨y3, m3, h3⟩ := hR i hi 3 _ rfl
    obtain ⟨a0, e0, -, -⟩ := DataW.trod_int Try.underlying3 h0
    obtain ⟨a1, e1, -, -⟩ := DataW.trod_int Try.underlying3 h1
    obtain ⟨a2, e2, -, -⟩ := DataW.trod_int Try.underlying3 h2
    obtain ⟨A1, n1, c1, is, e3, hF, ha⟩ := ins_trod h3
    simp at e0 e1 e2 e3
    exact ⟨⟨a0, a1, a2, A1, n1, c1, is⟩, by simp [List.range_succ, e0, e1, e2, e3, fnc], hF, ha⟩
  refine ⟨A, n, c, (List.range n).map T, hcs, ?_, fun i hi => ?_⟩
  · have e : ((List.range n).flatMap fun i => (List.range 4).map (R i)) = cl fnc ((List.range n).map T) := by
      unfold cl
      rw [List.flatMap_map]
      exact flat_cong fun i hi => (hT i (List.mem_range.1 hi)).1
    rw [← e]
    exact hE
  · obtain ⟨j, hj, rfl⟩ := List.mem_map.1 hi
    exact (hT j (List.mem_range.1 hj)).2
set_option maxRecDepth 100000 in
theorem open_module (hval : Value.okWide Try.prog w .any b0 29 v) (h : DataW.Trod enc Try.prog w base (fun _ => true) held 29 v d p) : ∃ m : ModR, v = modV m ∧ Mod w w.heap.size m := by
  obtain ⟨c0, c1, y0, y1, k, rfl, -, -, hy0, hy1⟩ := open_agg2 Try.underlying29 (by kernel_rfl) (by kernel_rfl) hval h
  obtain ⟨A, n, c, ts, e0, hT, hTs⟩ := tys_trod hy0
  obtain ⟨B, m, e, gs, e1, hG, hGs⟩ := fns_trod hy1
  simp at e0 e1
  subst e0 e1
  exact ⟨⟨A, n, c, ts, B, m, e, gs⟩, rfl, hT, hTs, hG, fun g hg => (hGs g hg).1, fun g hg => (hGs g hg).2⟩
end
end Go.Proofs.Ytlbmnioibiomfaa
