/- Frames of laws, whatever the parameters: the arguments read afterwards as before (Below), and how an argument is opened to what the walks ask. -/
import Derived.Test.YtlbmnioibiomfaaGreatDLoad0
import Derived.Carry
import Derived.ProofKit
import Derived.OpenShut
import Derived.Deep.Slices
import Derived.Deep.Fields
import Derived.ChangeSame
import Derived.Lib.SmallJoins
import Derived.Test.YtlbmnioibiomfaaGreatDLoad4
namespace Go.Proofs.YtlbmnioibiomfaaGreat
open Go.ChangeShapes Go.WideShapes Go.ChangeAt Go.RowKit Go.Deep Go.Joins
set_option linter.unusedVariables false
section
variable {H : Type} {enc : TypeId × Value → H} {P : Program}

/-- Every type of the list reads as data. -/
def readAll (P : Program) (ts : List TypeId) : Bool := ts.all fun t => P.readableRec t && decide (t < P.types.size)

theorem trodAll_stays (hl : laidOutB P = true) {W W' : World} (hb : Below W.heap.size W W') {sp : Nat → Bool} : ∀ {ts : List TypeId} {vs : List Value} {ds : List (DataW H)} {ps : List MemPlace}, readAll P ts = true →
    DataW.TrodAll enc P W 0 (fun _ => true) true ts vs ds ps → (∀ x ∈ ps, x.block < W.heap.size) → (∀ x ∈ ps, sp x.block = true) → DataW.TrodAll enc P W' 0 sp true ts vs ds ps
  | [], vs, ds, ps, _, h, _, _ => by
    obtain ⟨rfl, rfl, rfl⟩ := trodAll_nil h
    exact trodAll_mk0
  | t :: ts, vs, ds, ps, hr, h, hlt, hs => by
    obtain ⟨v, vs', d, ds', p, q, rfl, rfl, rfl, h1, h2⟩ := trodAll_cons h
    simp only [readAll, List.all_cons, Bool.and_eq_true, decide_eq_true_eq] at hr
    refine trodAll_cons_mk (WideElems.Trod_stays hl hr.1.1 hr.1.2 h1 (fun x hx => hb.same (hlt x (List.mem_append_left _ hx))) (fun x hx => hs x (List.mem_append_left _ hx))) ?_
    exact trodAll_stays hl hb hr.2 h2 (fun x hx => hlt x (List.mem_append_right _ hx)) (fun x hx => hs x (List.mem_append_right _ hx))

/-- The post of a law that only reads: one result, the arguments as they were. -/
theorem post_of_reads {f : Func} {s : ChangeSpec} {apart fresh handsOn again : Bool} {W W' : World} {args : Array Value} {v : Value} {ds : List (DataW H)} {before : List MemPlace}
    (hl : laidOutB P = true) (hr : readAll P f.params.toList = true) (hsv : s.vars = [])
    (hW : DataW.Whole enc P f.params.toList s.vars apart W args.toList ds [] before)
    (hA : DataW.TrodAll enc P W 0 (fun _ => true) true f.params.toList args.toList ds before)
    (hres : ∀ (b : Nat) (sp : Nat → Bool) (hd : Bool), DataW.TrodAll enc P W' b sp hd f.resultTypes.toList (v.resultList f.resultTypes.size) (s.fn H (ds ++ [])).results [])
    (hargs : (s.fn H (ds ++ [])).args = ds) (hvars : (s.fn H (ds ++ [])).vars = []) (hb : Below W.heap.size W W')
    (hok : ∀ (j : Nat) (t : TypeId) (r : Value), f.resultTypes[j]? = some t → (v.resultList f.resultTypes.size)[j]? = some r → Value.okWide P W' .any 0 t r) :
    s.post enc P f apart fresh handsOn again W args v W' :=
  post_of_below (pa := before) (pv := []) hW hres (fun sp hsp => by
    rw [hargs]
    exact trodAll_stays hl hb hr hA (fun x hx => hW.lt x hx) hsp) (fun sp _ => by rw [hsv, hvars]; rfl) (by simp) hb hok
end
end Go.Proofs.YtlbmnioibiomfaaGreat
/- Arguments opened: slices of numbers, slices of structs, types. -/
namespace Go.Proofs.YtlbmnioibiomfaaGreat
open Go.ChangeShapes Go.WideShapes Go.ChangeAt Go.RowKit Go.Deep Go.Joins
set_option linter.unusedVariables false
set_option linter.unusedSimpArgs false
set_option maxRecDepth 100000
section
variable {H : Type} {enc : TypeId × Value → H} {P : Program} {w : World} {base : Nat} {spare : Nat → Bool} {held : Bool}
theorem spot_none {w : World} {a : Addr} {v : Value} (h : w.cell? a = some v) : a.spot = none := by
  unfold World.cell? at h
  split at h
  · split at h
    · cases h
    · rename_i hs
      simpa using hs
  · cases h
theorem add_spot {a : Addr} (hs : a.spot = none) (k : Nat) : a.add k = ⟨a.block, a.off + k, none⟩ := by
  obtain ⟨ab, ao, sq⟩ := a
  dsimp only at hs
  subst hs
  unfold Addr.add
  split
  · rename_i h; subst h; rfl
  · rfl
/-- A slice whose cells are known, one by one. -/
theorem Sl.of_cells {a : Addr} {n c size : Nat} {xs : List Value} (hl : xs.length = n * size) (hs : 0 < size) (hc : n ≤ c) (hm : c ≤ maxLen) (h : ∀ i v, xs[i]? = some v → w.cell? (a.add i) = some v) : Sl w w.heap.size size (some a) n c xs :=
  ⟨hl, hc, by unfold maxLen at hm; omega, fun hn => by
    have hpos : 0 < xs.length := by rw [hl]; exact Nat.mul_pos hn hs
    have h0 := h 0 _ (List.getElem?_eq_getElem hpos)
    have hsp : a.spot = none := by rw [Addr.add_zero'] at h0; exact spot_none h0
    refine ⟨a.block, a.off, ?_, ?_, fun i v hv => ?_⟩
    · obtain ⟨ab, ao, sq⟩ := a
      dsimp only at hsp
      subst hsp
      rfl
    · have := World.block_lt_of_cell? w _ h0
      rwa [add_spot hsp] at this
    · have := h i v hv
      rwa [add_spot hsp] at this⟩
/-- A slice of numbers. -/
theorem open_nums {t e : TypeId} {k : IntKind} {fuel : Nat} {cs : List Value} {x : DataW H × List MemPlace} (ht : P.underlying t = some (.slice e)) (he : P.underlying e = some (.int k)) (hC : P.cellsOf e = 1)
    (h : DataW.trod enc P w base (fun _ => true) held fuel t cs = some x) :
    ∃ A n c, ∃ L : List Int, cs = [.slice A n c] ∧ Sl w w.heap.size 1 A n c (L.map (Value.int k)) ∧ ∀ x ∈ L, (Lit.int k x).wf = true := by
  rcases open_ints ht he hC h with ⟨hcs, hx⟩ | ⟨a, len, cap, zs, hcs, _, hl, hm, hz, hx, hcell, hwz⟩
  · exact ⟨none, 0, 0, [], hcs, Sl.nil _, by simp⟩
  · simp only [if_true] at hz
    refine ⟨some a, len, cap, zs.take len, hcs, Sl.of_cells (by simp; omega) (by omega) hl hm fun i v hv => ?_, fun y hy => hwz y (List.mem_of_mem_take hy)⟩
    rw [List.getElem?_map, List.getElem?_take] at hv
    split at hv
    · rename_i hi
      obtain ⟨z, hz1, rfl⟩ := Option.map_eq_some_iff.1 hv
      rw [hcell i (by omega), List.getD_eq_getElem?_getD, hz1]
      rfl
    · cases hv
theorem wf16 {n : Int} (h : (Lit.int .u16 n).wf = true) : 0 ≤ n ∧ n ≤ 65535 := by
  simp only [Lit.wf, Bool.and_eq_true, decide_eq_true_eq] at h
  exact h
theorem wf8 {n : Int} (h : (Lit.int .u8 n).wf = true) : 0 ≤ n ∧ n ≤ 255 := by
  simp only [Lit.wf, Bool.and_eq_true, decide_eq_true_eq] at h
  exact h
theorem wf_u8 {n : Int} (h : (Lit.int .u8 n).wf = true) : 0 ≤ n ∧ n ≤ 255 := wf8 h
theorem wf_u16 {n : Int} (h : (Lit.int .u16 n).wf = true) : 0 ≤ n ∧ n ≤ 65535 := wf16 h
theorem toNats {k : IntKind} : ∀ {L : List Int}, (∀ x ∈ L, 0 ≤ x) → L.map (Value.int k) = (L.map Int.toNat).map fun x : Nat => Value.int k (x : Int)
  | [], _ => rfl
  | x :: L, h => by
    have h1 := h x (by simp)
    rw [List.map_cons, List.map_cons, List.map_cons, toNats fun y hy => h y (by simp [hy])]
    rw [Int.toNat_of_nonneg h1]
variable {b0 : Nat} {v : Value} {d : DataW H} {p : List MemPlace} {fuel : Nat} {x : DataW H × List MemPlace} {cs : List Value}
theorem nums_trod {e : TypeId} {k : IntKind} {t : TypeId} {B : Int} (ht : P.underlying t = some (.slice e)) (he : P.underlying e = some (.int k)) (hC : P.cellsOf e = 1) (hwf : ∀ n : Int, (Lit.int k n).wf = true → 0 ≤ n ∧ n < B)
    (h : DataW.trod enc P w base (fun _ => true) held fuel t cs = some x) : ∃ (A : Option Addr) (n c : Nat) (l : List Nat), cs = [.slice A n c] ∧ Sl w w.heap.size 1 A n c (l.map fun x : Nat => Value.int k (x : Int)) ∧ ∀ x ∈ l, (x : Int) < B := by
  obtain ⟨A, n, c, L, hcs, hE, hwz⟩ := open_nums ht he hC h
  rw [toNats fun y hy => (hwf y (hwz y hy)).1] at hE
  refine ⟨A, n, c, _, hcs, hE, fun y hy => ?_⟩
  obtain ⟨z, hz, rfl⟩ := List.mem_map.1 hy
  have := hwf z (hwz z hz)
  omega
theorem top_slice {t e : TypeId} (ht : P.underlying t = some (.slice e)) (hval : Value.okWide P w .any b0 t v) {Q : List Value → Prop} (h : Q v.cells.toList) {A : Option Addr} {n c : Nat} (hv : v.cells.toList = [.slice A n c]) : v = .slice A n c := by
  obtain ⟨a0, len, cap, rfl⟩ := okWide_slice ht hval
  simpa [Value.cells] using hv
theorem open_bytes (t : TypeId) (ht : Tryz.prog.underlying t = some (.slice 5)) (hval : Value.okWide Tryz.prog w .any b0 t v) (h : DataW.Trod enc Tryz.prog w base (fun _ => true) held t v d p) :
    ∃ (A : Option Addr) (n c : Nat) (l : List Nat), v = .slice A n c ∧ Sl w w.heap.size 1 A n c (byt l) ∧ ∀ x ∈ l, x < 256 := by
  obtain ⟨fuel, hf⟩ := h
  obtain ⟨A, n, c, l, hcs, hE, hl⟩ := nums_trod (B := 256) ht Tryz.underlying5 (by kernel_rfl) (fun n h => by have := wf8 h; omega) hf
  exact ⟨A, n, c, l, top_slice (Q := fun _ => True) ht hval trivial hcs, hE, fun x hx => by have := hl x hx; omega⟩
theorem open_u16n (hval : Value.okWide Tryz.prog w .any b0 23 v) (h : DataW.Trod enc Tryz.prog w base (fun _ => true) held 23 v d p) :
    ∃ (A : Option Addr) (n c : Nat) (l : List Nat), v = .slice A n c ∧ Sl w w.heap.size 1 A n c (u16c l) ∧ ∀ x ∈ l, x < 65536 := by
  obtain ⟨fuel, hf⟩ := h
  obtain ⟨A, n, c, l, hcs, hE, hl⟩ := nums_trod (B := 65536) Tryz.underlying23 Tryz.underlying24 (by kernel_rfl) (fun n h => by have := wf16 h; omega) hf
  exact ⟨A, n, c, l, top_slice (Q := fun _ => True) Tryz.underlying23 hval trivial hcs, hE, fun x hx => by have := hl x hx; omega⟩
end
end Go.Proofs.YtlbmnioibiomfaaGreat
