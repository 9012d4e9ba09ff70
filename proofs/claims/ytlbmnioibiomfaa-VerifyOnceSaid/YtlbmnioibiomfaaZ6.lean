/- Frames of laws, whatever the parameters: the arguments read afterwards as before (Below), and how an argument is opened to what the walks ask. -/
import Derived.Test.YtlbmnioibiomfaaEng7
import Derived.Carry
import Derived.ProofKit
import Derived.OpenShut
import Derived.Deep.Slices
import Derived.Deep.Fields
import Derived.ChangeSame
import Derived.Lib.SmallJoins
import Derived.Test.YtlbmnioibiomfaaZ4
namespace Go.Proofs.Ytlbmnioibiomfaa
open Go.ChangeShapes Go.WideShapes Go.ChangeAt Go.RowKit Go.Deep Go.Joins
set_option linter.unusedVariables false
section
variable {H : Type} {enc : TypeId × Value → H} {P : Program}

/-- Every type of the list reads as data. -/
def readAll (P : Program) (ts : List TypeId) : Bool := ts.all fun t => P.readableRec t && decide (t < P.types.size)

theorem trodAll_stays (hl : laidOutB P = true) {W W' : World} (hb : Below W.heap.size W W') {sp : Nat → Bool} : ∀ {ts : List TypeId} {vs : List Value} {ds : List (DataW H)} {ps : List MemPlace}, readAll P ts = true →
    DataW.TrodAll enc P W 0 (fun _ => true) true ts vs ds ps → (∀ x ∈ ps, x.block < W.heap.size) → (∀ x ∈ ps, sp x.block = true) → DataW.TrodAll enc P W' 0 sp true ts vs ds ps
  | [], vs, ds, ps, _, h, _, _ => by
    obtain ⟨rfl, rfl, rfl⟩ := trodAll_nil h
    exact trodAll_mk0
  | t :: ts, vs, ds, ps, hr, h, hlt, hs => by
    obtain ⟨v, vs', d, ds', p, q, rfl, rfl, rfl, h1, h2⟩ := trodAll_cons h
    simp only [readAll, List.all_cons, Bool.and_eq_true, decide_eq_true_eq] at hr
    refine trodAll_cons_mk (WideElems.Trod_stays hl hr.1.1 hr.1.2 h1 (fun x hx => hb.same (hlt x (List.mem_append_left _ hx))) (fun x hx => hs x (List.mem_append_left _ hx))) ?_
    exact trodAll_stays hl hb hr.2 h2 (fun x hx => hlt x (List.mem_append_right _ hx)) (fun x hx => hs x (List.mem_append_right _ hx))

/-- The post of a law that only reads: one result, the arguments as they were. -/
theorem post_of_reads {f : Func} {s : ChangeSpec} {apart fresh handsOn again : Bool} {W W' : World} {args : Array Value} {v : Value} {ds : List (DataW H)} {before : List MemPlace}
    (hl : laidOutB P = true) (hr : readAll P f.params.toList = true) (hsv : s.vars = [])
    (hW : DataW.Whole enc P f.params.toList s.vars apart W args.toList ds [] before)
    (hA : DataW.TrodAll enc P W 0 (fun _ => true) true f.params.toList args.toList ds before)
    (hres : ∀ (b : Nat) (sp : Nat → Bool) (hd : Bool), DataW.TrodAll enc P W' b sp hd f.resultTypes.toList (v.resultList f.resultTypes.size) (s.fn H (ds ++ [])).results [])
    (hargs : (s.fn H (ds ++ [])).args = ds) (hvars : (s.fn H (ds ++ [])).vars = []) (hb : Below W.heap.size W W')
    (hok : ∀ (j : Nat) (t : TypeId) (r : Value), f.resultTypes[j]? = some t → (v.resultList f.resultTypes.size)[j]? = some r → Value.okWide P W' .any 0 t r) :
    s.post enc P f apart fresh handsOn again W args v W' :=
  post_of_below (pa := before) (pv := []) hW hres (fun sp hsp => by
    rw [hargs]
    exact trodAll_stays hl hb hr hA (fun x hx => hW.lt x hx) hsp) (fun sp _ => by rw [hsv, hvars]; rfl) (by simp) hb hok
end
end Go.Proofs.Ytlbmnioibiomfaa
/- Arguments opened: slices of numbers, slices of structs, types. -/
namespace Go.Proofs.Ytlbmnioibiomfaa
open Go.ChangeShapes Go.WideShapes Go.ChangeAt Go.RowKit Go.Deep Go.Joins
set_option linter.unusedVariables false
set_option linter.unusedSimpArgs false
set_option maxRecDepth 100000
/-- The number that a value holds. -/
def intOfV : Value → Int
  | .int _ n => n
  | _ => 0
section
variable {H : Type} {enc : TypeId × Value → H} {P : Program} {w : World} {base : Nat} {spare : Nat → Bool} {held : Bool}
theorem spot_none {w : World} {a : Addr} {v : Value} (h : w.cell? a = some v) : a.spot = none := by
  unfold World.cell? at h
  split at h
  · split at h
    · cases h
    · rename_i hs
      simpa using hs
  · cases h
theorem add_spot {a : Addr} (hs : a.spot = none) (k : Nat) : a.add k = ⟨a.block, a.off + k, none⟩ := by
  obtain ⟨ab, ao, sq⟩ := a
  dsimp only at hs
  subst hs
  unfold Addr.add
  split
  · rename_i h; subst h; rfl
  · rfl
/-- A slice whose cells are known, one by one. -/
theorem Sl.of_cells {a : Addr} {n c size : Nat} {xs : List Value} (hl : xs.length = n * size) (hs : 0 < size) (hc : n ≤ c) (hm : c ≤ maxLen) (h : ∀ i v, xs[i]? = some v → w.cell? (a.add i) = some v) : Sl w w.heap.size size (some a) n c xs :=
  ⟨hl, hc, by unfold maxLen at hm; omega, fun hn => by
    have hpos : 0 < xs.length := by rw [hl]; exact Nat.mul_pos hn hs
    have h0 := h 0 _ (List.getElem?_eq_getElem hpos)
    have hsp : a.spot = none := by rw [Addr.add_zero'] at h0; exact spot_none h0
    refine ⟨a.block, a.off, ?_, ?_, fun i v hv => ?_⟩
    · obtain ⟨ab, ao, sq⟩ := a
      dsimp only at hsp
      subst hsp
      rfl
    · have := World.block_lt_of_cell? w _ h0
      rwa [add_spot hsp] at this
    · have := h i v hv
      rwa [add_spot hsp] at this⟩
theorem flat_get {n m : Nat} {R : Nat → Nat → Value} {i : Nat} {v : Value} (h : ((List.range n).flatMap fun i => (List.range m).map (R i))[i]? = some v) : 0 < m ∧ i / m < n ∧ v = R (i / m) (i % m) := by
  have hf : ∀ k, ((List.range m).map (R k)).length = m := fun k => by simp
  have hlen := cl_len (f := fun i => (List.range m).map (R i)) hf (List.range n)
  unfold cl at hlen
  have hi := (List.getElem?_eq_some_iff.1 h).1
  rw [hlen, List.length_range] at hi
  have hm : 0 < m := by
    rcases Nat.eq_zero_or_pos m with h0 | h0
    · subst h0; simp at hi
    · exact h0
  have hd : i / m < n := Nat.div_lt_of_lt_mul (by rw [Nat.mul_comm]; exact hi)
  have hr : (List.range n)[i / m]? = some (i / m) := List.getElem?_range hd
  have hv : ((List.range m).map (R (i / m)))[i % m]? = some (R (i / m) (i % m)) := by
    rw [List.getElem?_map, List.getElem?_range (Nat.mod_lt _ hm)]
    rfl
  have := cl_get (f := fun i => (List.range m).map (R i)) hf hr hv
  rw [Nat.mul_comm, Nat.div_add_mod] at this
  unfold cl at this
  rw [h] at this
  injection this with this
  exact ⟨hm, hd, this⟩
/-- A slice of structs with fields of a cell each. -/
theorem open_rows {t e : TypeId} {fs : Array Field} {fuel : Nat} {cs : List Value} {x : DataW H × List MemPlace} (ht : P.underlying t = some (.slice e)) (he : P.underlying e = some (.struct fs))
    (hone : oneCellFields P fs = true) (hC : P.cellsOf e = fs.size) (hp : 0 < fs.size) (h : DataW.trod enc P w base (fun _ => true) held fuel t cs = some x) :
    ∃ A n c, ∃ R : Nat → Nat → Value, cs = [.slice A n c] ∧ Sl w w.heap.size fs.size A n c ((List.range n).flatMap fun i => (List.range fs.size).map (R i)) ∧
      ∀ i, i < n → ∀ j f, fs[j]? = some f → ∃ y m, DataW.trod enc P w base (fun _ => true) held m f.type [R i j] = some y := by
  rcases open_slice ht h with h0 | ⟨a, len, cap, m, n, D, Pl, hcs, hb, hl, hm, hmm, hx, hi⟩
  · exact ⟨none, 0, 0, fun _ _ => undef, h0.1, Sl.nil _, fun i hi => by omega⟩
  · simp only [if_true] at hmm
    subst hmm
    have hcell : ∀ i, i < m → ∀ j f, fs[j]? = some f → ∃ v y k, w.cell? (a.add (i * fs.size + j)) = some v ∧ DataW.trod enc P w base (fun _ => true) held k f.type [v] = some y := fun i him j f hj => by
      obtain ⟨cs', hc, ht'⟩ := hi i him
      rw [hC] at hc
      obtain ⟨ys, n', hn', hy, hlen, hyl, hf⟩ := DataW.trod_struct he ht'
      obtain ⟨_, hcl, hat⟩ := World.cells?_some hc
      obtain ⟨ho, hk⟩ := hone_of hone j f hj
      have hjl : j < fs.size := (Array.getElem?_eq_some_iff.1 hj).1
      have hcell := hat j hjl
      have hv : cs'[j]? = some (cs'[j]'(by omega)) := List.getElem?_eq_getElem (by omega)
      have h1 := hf j f hj
      rw [ho, hk] at h1
      have hone' : (cs'.drop j).take 1 = [cs'[j]'(by omega)] := by
        rw [List.drop_eq_getElem_cons (by omega)]
        rfl
      rw [hone'] at h1
      have hys : ys[j]? = some (ys[j]'(by omega)) := List.getElem?_eq_getElem (by omega)
      refine ⟨_, _, _, ?_, h1.trans hys⟩
      rw [← Go.Deep.add_add, hcell, hv]
    refine ⟨some a, len, m, fun i j => (w.cell? (a.add (i * fs.size + j))).getD undef, hcs, Sl.of_cells (by
      have := cl_len (f := fun i => (List.range fs.size).map fun j => (w.cell? (a.add (i * fs.size + j))).getD undef) (k := fs.size) (fun x => by simp) (List.range len)
      rw [List.length_range] at this
      exact this) hp hl hm fun i v hv => ?_, fun i hil j f hj => ?_⟩
    · obtain ⟨hp, hd, rfl⟩ := flat_get hv
      have hj : i % fs.size < fs.size := Nat.mod_lt _ hp
      obtain ⟨v, y, k, hc, _⟩ := hcell (i / fs.size) (by omega) (i % fs.size) _ (Array.getElem?_eq_getElem hj)
      have e : i / fs.size * fs.size + i % fs.size = i := by rw [Nat.mul_comm]; exact Nat.div_add_mod i fs.size
      try dsimp only
      rw [e] at hc ⊢
      rw [hc]
      rfl
    · obtain ⟨v, y, k, hc, hy⟩ := hcell i (by omega) j f hj
      refine ⟨y, k, ?_⟩
      try dsimp only
      rw [hc]
      exact hy
/-- A slice of numbers. -/
theorem open_nums {t e : TypeId} {k : IntKind} {fuel : Nat} {cs : List Value} {x : DataW H × List MemPlace} (ht : P.underlying t = some (.slice e)) (he : P.underlying e = some (.int k)) (hC : P.cellsOf e = 1)
    (h : DataW.trod enc P w base (fun _ => true) held fuel t cs = some x) :
    ∃ A n c, ∃ L : List Int, cs = [.slice A n c] ∧ Sl w w.heap.size 1 A n c (L.map (Value.int k)) ∧ ∀ x ∈ L, (Lit.int k x).wf = true := by
  rcases open_ints ht he hC h with ⟨hcs, hx⟩ | ⟨a, len, cap, zs, hcs, _, hl, hm, hz, hx, hcell, hwz⟩
  · exact ⟨none, 0, 0, [], hcs, Sl.nil _, by simp⟩
  · simp only [if_true] at hz
    refine ⟨some a, len, cap, zs.take len, hcs, Sl.of_cells (by simp; omega) (by omega) hl hm fun i v hv => ?_, fun y hy => hwz y (List.mem_of_mem_take hy)⟩
    rw [List.getElem?_map, List.getElem?_take] at hv
    split at hv
    · rename_i hi
      obtain ⟨z, hz1, rfl⟩ := Option.map_eq_some_iff.1 hv
      rw [hcell i (by omega), List.getD_eq_getElem?_getD, hz1]
      rfl
    · cases hv
theorem wf64 {n : Int} (h : (Lit.int .i64 n).wf = true) : -9223372036854775808 ≤ n ∧ n ≤ 9223372036854775807 := by
  simp only [Lit.wf, Bool.and_eq_true, decide_eq_true_eq] at h
  exact h
theorem wf16 {n : Int} (h : (Lit.int .u16 n).wf = true) : 0 ≤ n ∧ n ≤ 65535 := by
  simp only [Lit.wf, Bool.and_eq_true, decide_eq_true_eq] at h
  exact h
theorem wf8 {n : Int} (h : (Lit.int .u8 n).wf = true) : 0 ≤ n ∧ n ≤ 255 := by
  simp only [Lit.wf, Bool.and_eq_true, decide_eq_true_eq] at h
  exact h
theorem wfu64 {n : Int} (h : (Lit.int .u64 n).wf = true) : 0 ≤ n ∧ n ≤ 18446744073709551615 := by
  simp only [Lit.wf, Bool.and_eq_true, decide_eq_true_eq] at h
  exact h
theorem wf_i64 {n : Int} (h : (Lit.int .i64 n).wf = true) : -9223372036854775808 ≤ n ∧ n ≤ 9223372036854775807 := wf64 h
theorem wf_u8 {n : Int} (h : (Lit.int .u8 n).wf = true) : 0 ≤ n ∧ n ≤ 255 := wf8 h
theorem wf_u16 {n : Int} (h : (Lit.int .u16 n).wf = true) : 0 ≤ n ∧ n ≤ 65535 := wf16 h
theorem wf_u64 {n : Int} (h : (Lit.int .u64 n).wf = true) : 0 ≤ n ∧ n ≤ 18446744073709551615 := wfu64 h
theorem toNats {k : IntKind} : ∀ {L : List Int}, (∀ x ∈ L, 0 ≤ x) → L.map (Value.int k) = (L.map Int.toNat).map fun x : Nat => Value.int k (x : Int)
  | [], _ => rfl
  | x :: L, h => by
    have h1 := h x (by simp)
    rw [List.map_cons, List.map_cons, List.map_cons, toNats fun y hy => h y (by simp [hy])]
    rw [Int.toNat_of_nonneg h1]
theorem trod_of {sp : Nat → Bool} {t : TypeId} {v : Value} {d : DataW H} {p : List MemPlace} (h : DataW.Trod enc P w base sp held t v d p) : ∃ fuel, DataW.trod enc P w base sp held fuel t v.cells.toList = some (d, p) := h
variable {b0 : Nat} {v : Value} {d : DataW H} {p : List MemPlace} {fuel : Nat} {x : DataW H × List MemPlace} {cs : List Value}
theorem nums_trod {e : TypeId} {k : IntKind} {t : TypeId} {B : Int} (ht : P.underlying t = some (.slice e)) (he : P.underlying e = some (.int k)) (hC : P.cellsOf e = 1) (hwf : ∀ n : Int, (Lit.int k n).wf = true → 0 ≤ n ∧ n < B)
    (h : DataW.trod enc P w base (fun _ => true) held fuel t cs = some x) : ∃ (A : Option Addr) (n c : Nat) (l : List Nat), cs = [.slice A n c] ∧ Sl w w.heap.size 1 A n c (l.map fun x : Nat => Value.int k (x : Int)) ∧ ∀ x ∈ l, (x : Int) < B := by
  obtain ⟨A, n, c, L, hcs, hE, hwz⟩ := open_nums ht he hC h
  rw [toNats fun y hy => (hwf y (hwz y hy)).1] at hE
  refine ⟨A, n, c, _, hcs, hE, fun y hy => ?_⟩
  obtain ⟨z, hz, rfl⟩ := List.mem_map.1 hy
  have := hwf z (hwz z hz)
  omega
theorem top_slice {t e : TypeId} (ht : P.underlying t = some (.slice e)) (hval : Value.okWide P w .any b0 t v) {Q : List Value → Prop} (h : Q v.cells.toList) {A : Option Addr} {n c : Nat} (hv : v.cells.toList = [.slice A n c]) : v = .slice A n c := by
  obtain ⟨a0, len, cap, rfl⟩ := okWide_slice ht hval
  simpa [Value.cells] using hv
theorem open_bytes (t : TypeId) (ht : Try.prog.underlying t = some (.slice 5)) (hval : Value.okWide Try.prog w .any b0 t v) (h : DataW.Trod enc Try.prog w base (fun _ => true) held t v d p) :
    ∃ (A : Option Addr) (n c : Nat) (l : List Nat), v = .slice A n c ∧ Sl w w.heap.size 1 A n c (byt l) ∧ ∀ x ∈ l, x < 256 := by
  obtain ⟨fuel, hf⟩ := h
  obtain ⟨A, n, c, l, hcs, hE, hl⟩ := nums_trod (B := 256) ht Try.underlying5 (by kernel_rfl) (fun n h => by have := wf8 h; omega) hf
  exact ⟨A, n, c, l, top_slice (Q := fun _ => True) ht hval trivial hcs, hE, fun x hx => by have := hl x hx; omega⟩
theorem open_u16n (hval : Value.okWide Try.prog w .any b0 22 v) (h : DataW.Trod enc Try.prog w base (fun _ => true) held 22 v d p) :
    ∃ (A : Option Addr) (n c : Nat) (l : List Nat), v = .slice A n c ∧ Sl w w.heap.size 1 A n c (u16c l) ∧ ∀ x ∈ l, x < 65536 := by
  obtain ⟨fuel, hf⟩ := h
  obtain ⟨A, n, c, l, hcs, hE, hl⟩ := nums_trod (B := 65536) Try.underlying22 Try.underlying23 (by kernel_rfl) (fun n h => by have := wf16 h; omega) hf
  exact ⟨A, n, c, l, top_slice (Q := fun _ => True) Try.underlying22 hval trivial hcs, hE, fun x hx => by have := hl x hx; omega⟩
theorem open_u64n (t : TypeId) (ht : Try.prog.underlying t = some (.slice 53)) (hval : Value.okWide Try.prog w .any b0 t v) (h : DataW.Trod enc Try.prog w base (fun _ => true) held t v d p) :
    ∃ (A : Option Addr) (n c : Nat) (l : List Nat), v = .slice A n c ∧ Sl w w.heap.size 1 A n c (u64c l) ∧ ∀ x ∈ l, x < 18446744073709551616 := by
  obtain ⟨fuel, hf⟩ := h
  obtain ⟨A, n, c, l, hcs, hE, hl⟩ := nums_trod (B := 18446744073709551616) ht Try.underlying53 (by kernel_rfl) (fun n h => by have := wfu64 h; omega) hf
  exact ⟨A, n, c, l, top_slice (Q := fun _ => True) ht hval trivial hcs, hE, fun x hx => by have := hl x hx; omega⟩
set_option maxRecDepth 100000 in
theorem flds_trod (h : DataW.trod enc Try.prog w base (fun _ => true) held fuel 72 cs = some x) : ∃ (A : Option Addr) (n c : Nat) (fs : List Fd), cs = [.slice A n c] ∧ Sl w w.heap.size 2 A n c (cl fdc fs) := by
  obtain ⟨A, n, c, R, hcs, hE, hR⟩ := open_rows Try.underlying72 Try.underlying99 (by kernel_rfl) (by kernel_rfl) (by decide) h
  refine ⟨A, n, c, (List.range n).map fun i => ⟨intOfV (R i 0), intOfV (R i 1)⟩, hcs, ?_⟩
  have e : ((List.range n).flatMap fun i => (List.range 2).map (R i)) = cl fdc ((List.range n).map fun i => ⟨intOfV (R i 0), intOfV (R i 1)⟩) := by
    unfold cl
    rw [List.flatMap_map]
    have key : ∀ l : List Nat, (∀ i ∈ l, i < n) → (l.flatMap fun i => (List.range 2).map (R i)) = l.flatMap fun a => fdc ⟨intOfV (R a 0), intOfV (R a 1)⟩ := by
      intro l
      induction l with
      | nil => intro _; rfl
      | cons i l ih =>
        intro hl
        rw [List.flatMap_cons, List.flatMap_cons, ih fun j hj => hl j (by simp [hj])]
        congr 1
        obtain ⟨y0, m0, h0⟩ := hR i (hl i (by simp)) 0 _ rfl
        obtain ⟨y1, m1, h1⟩ := hR i (hl i (by simp)) 1 _ rfl
        obtain ⟨a0, e0, -, -⟩ := DataW.trod_int Try.underlying3 h0
        obtain ⟨a1, e1, -, -⟩ := DataW.trod_int Try.underlying3 h1
        simp at e0 e1
        simp [List.range_succ, e0, e1, fdc, intOfV]
    exact key _ fun i hi => List.mem_range.1 hi
  rw [← e]
  exact hE
set_option maxRecDepth 100000 in
theorem open_type (hval : Value.okWide Try.prog w .any b0 74 v) (h : DataW.Trod enc Try.prog w base (fun _ => true) held 74 v d p) :
    ∃ (len : Int) (A : Option Addr) (n c : Nat) (fs : List Fd), v = .agg #[.int .i64 len, .slice A n c] ∧ Sl w w.heap.size 2 A n c (cl fdc fs) := by
  obtain ⟨c0, c1, y0, y1, m, rfl, -, -, hy0, hy1⟩ := open_agg2 Try.underlying74 (by kernel_rfl) (by kernel_rfl) hval h
  obtain ⟨a, e0, -, -⟩ := DataW.trod_int Try.underlying3 hy0
  obtain ⟨A, n, c, fs, e1, hE⟩ := flds_trod hy1
  simp at e0 e1
  subst e0 e1
  exact ⟨a, A, n, c, fs, rfl, hE⟩
end
end Go.Proofs.Ytlbmnioibiomfaa
