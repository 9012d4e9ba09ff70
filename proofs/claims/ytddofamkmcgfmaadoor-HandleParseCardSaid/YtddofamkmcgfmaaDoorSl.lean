/- Slices that only are read: any element type. -/
import Derived.Test.YtddofamkmcgfmaaDoorEng8
namespace Go.Proofs.YtddofamkmcgfmaaDoor
open Go.RowKit Go.Shelf
set_option linter.unusedVariables false
set_option linter.unusedSimpArgs false
/-- The slice value .slice A n c reads as the cells xs (size cells an element); its block lies below B. -/
structure Sl (w : World) (B : Nat) (size : Nat) (A : Option Addr) (n c : Nat) (xs : List Value) : Prop where
  len : xs.length = n * size
  cap : n ≤ c
  max : c ≤ 9223372036854775807
  cells : 0 < n → ∃ b off, A = some ⟨b, off, none⟩ ∧ b < B ∧ ∀ i v, xs[i]? = some v → w.cell? ⟨b, off + i, none⟩ = some v
section
variable {W w w' : World} {B B' size n c : Nat} {A : Option Addr} {xs : List Value} {L : List Res} {M : List Nat} {P : Program}
theorem Sl.below (h : Sl w B size A n c xs) (hb : Below B w w') : Sl w' B size A n c xs :=
  ⟨h.len, h.cap, h.max, fun hn => by
    obtain ⟨b, off, e, hB, hc⟩ := h.cells hn
    exact ⟨b, off, e, hB, fun i v hv => ((bcell hb).1 _ _ hB).trans (hc i v hv)⟩⟩
theorem Sl.more (h : Sl w B size A n c xs) (hB : B ≤ B') : Sl w B' size A n c xs :=
  ⟨h.len, h.cap, h.max, fun hn => by
    obtain ⟨b, off, e, hb, hc⟩ := h.cells hn
    exact ⟨b, off, e, by omega, hc⟩⟩
theorem Sl.at (h : Sl W W.heap.size size A n c xs) (hw : St [] W L w) : Sl w w.heap.size size A n c xs := (h.below hw.below).more hw.pres.size
theorem Sl.ld1 {b off i m : Nat} {T : TypeId} {v : Value} (h : Sl W W.heap.size size (some ⟨b, off, none⟩) n c xs) (ht : tsz P T = some (false, m)) (hv : xs[i]? = some v) : LD P [] W L T ⟨b, off + i, none⟩ v := fun w hw => by
  have hn : 0 < n := by
    rcases Nat.eq_zero_or_pos n with h0 | h0
    · have h1 := h.len
      rw [h0, Nat.zero_mul] at h1
      have := (List.getElem?_eq_some_iff.1 hv).1
      omega
    · exact h0
  obtain ⟨b', off', e, hb, hc⟩ := h.cells hn
  cases e
  exact loadAt_one ht ((hw.base_cell hb (by simp)).trans (hc i v hv))
theorem Sl.ld {b off i : Nat} {T : TypeId} {vs : List Value} (h : Sl W W.heap.size size (some ⟨b, off, none⟩) n c xs) (hn : 0 < n) (ht : tsz P T = some (true, vs.length)) (hv : (xs.drop i).take vs.length = vs) : LD P [] W L T ⟨b, off + i, none⟩ (.agg vs.toArray) := fun w hw => by
  obtain ⟨b', off', e, hb, hc⟩ := h.cells hn
  cases e
  have hv' : ∀ (j : Nat) v, vs[j]? = some v → xs[i + j]? = some v := fun j v h => by
    rw [← hv, List.getElem?_take] at h
    split at h
    · simpa using h
    · cases h
  refine loadAt_agg ht vs rfl fun j v hj => ?_
  rw [Addr.add_lit, hw.base_cell hb (by simp), Nat.add_assoc]
  exact hc _ _ (hv' j v hj)
theorem Sl.take (h : Sl w B size A n c xs) {k : Nat} (hk : k ≤ n) : Sl w B size A k c (xs.take (k * size)) :=
  ⟨by rw [List.length_take, h.len]; exact Nat.min_eq_left (Nat.mul_le_mul_right _ hk), Nat.le_trans hk h.cap, h.max, fun hn => by
    obtain ⟨b, off, e, hb, hc⟩ := h.cells (by omega)
    refine ⟨b, off, e, hb, fun i v hv => hc i v ?_⟩
    rw [List.getElem?_take] at hv
    split at hv
    · exact hv
    · cases hv⟩
theorem Sl.drop (h : Sl w B size A n c xs) {k : Nat} (hk : k ≤ n) : Sl w B size (sbase c k size A) (n - k) (c - k) (xs.drop (k * size)) :=
  ⟨by rw [List.length_drop, h.len, Nat.sub_mul], by have := h.cap; omega, by have := h.max; omega, fun hn => by
    obtain ⟨b, off, e, hb, hc⟩ := h.cells (by omega)
    have := h.cap
    refine ⟨b, off + k * size, by rw [e, sbase_some (by omega), Addr.add_lit], hb, fun i v hv => ?_⟩
    rw [List.getElem?_drop] at hv
    rw [Nat.add_assoc]
    exact hc _ _ hv⟩
theorem Sl.reads (h : Sl w B size A n c xs) : Reads w B size A n xs :=
  ⟨h.len, fun hn => by
    obtain ⟨b, off, e, hB, hc⟩ := h.cells hn
    exact ⟨_, e, hB, fun j u hu => by rw [Addr.add_lit]; exact hc j u hu⟩⟩
theorem Sl.of_own {t : TypeId} {base : Nat} (h : w.ownsRow base t size (.slice A n c) n xs) : Sl w w.heap.size size A n c xs := by
  rcases h.2 with ⟨hv, hn⟩ | ⟨g, cap, cur, hv, hb, hg, hnc, hcm, hsz, htk⟩
  · cases hv
    exact ⟨h.1, by omega, by omega, fun h => by omega⟩
  · cases hv
    refine ⟨h.1, hnc, hcm, fun hn => ⟨g, 0, rfl, (h.lt g rfl).2, fun i v hv => ?_⟩⟩
    have h1 := h.cells (g := g) rfl _ _ hv
    rw [Addr.add_lit] at h1
    exact h1
theorem Sl.of_row {t : TypeId} (hw : St M W L w) (hm : Res.row (.slice A n c) t size n xs ∈ L) : Sl w w.heap.size size A n c xs := Sl.of_own (hw.holds _ hm)
end
def rowP (T : TypeId) (size : Nat) (f : Value → Value) (xs : List Value) (w : World) (e : Ending) (w' : World) : Prop :=
  ∃ A n c, e = .returned (f (.slice A n c)) ∧ w'.ownsRow w.heap.size T size (.slice A n c) n xs ∧ Below w.heap.size w w'
/-- Bytes as cells. -/
def byt (l : List Nat) : List Value := l.map fun x : Nat => Value.int .u8 (x : Int)
def i64c (l : List Nat) : List Value := l.map fun x : Nat => Value.int .i64 (x : Int)
theorem byt_len (l : List Nat) : (byt l).length = l.length := by simp [byt]
theorem byt_snoc (l : List Nat) (x : Nat) : byt (l ++ [x]) = byt l ++ [.int .u8 x] := by simp [byt]
theorem ones_byt (l : List Nat) : ones (byt l) = true := by simp [ones, byt, Value.oneCell']
theorem byt_get {l : List Nat} {i x : Nat} (h : l[i]? = some x) : (byt l)[i]? = some (.int .u8 x) := by simp [byt, h]
theorem byt_row {l : List Nat} {n : Nat} (h : (byt l).length = n * 1) : l.length = n := by rw [byt_len] at h; omega
/-- The slice lies in none of the blocks of M. -/
def Apt (A : Option Addr) (M : List Nat) : Prop := ∀ b o, A = some ⟨b, o, none⟩ → b ∉ M
section
variable {W w w' : World} {B B' size n c : Nat} {A : Option Addr} {xs : List Value} {L : List Res} {M : List Nat} {P : Program}
theorem Apt.nil (A : Option Addr) : Apt A [] := fun b o _ => by simp
theorem Apt.nilA (M : List Nat) : Apt (Option.none : Option Addr) M := fun b o h => by cases h
theorem Apt.sbase (h : Apt A M) (hA : A = none ∨ ∃ b o, A = some ⟨b, o, Option.none⟩) (c l size : Nat) : Apt (Go.Proofs.YtddofamkmcgfmaaDoor.sbase c l size A) M := fun b o e => by
  unfold Go.Proofs.YtddofamkmcgfmaaDoor.sbase at e
  split at e
  · exact h b o e
  · rcases hA with rfl | ⟨b', o', rfl⟩
    · cases e
    · simp only [Option.map_some, Option.some.injEq, Addr.add_lit, Addr.mk.injEq] at e
      obtain ⟨rfl, _⟩ := e
      exact h b' o' rfl
theorem Apt.of_below (h : Sl w B size A n c xs) (hn : 0 < n) (hM : ∀ m ∈ M, B ≤ m) : Apt A M := fun b o e hm => by
  obtain ⟨b', off, e', hb, _⟩ := h.cells hn
  rw [e'] at e
  injection e with e
  injection e with e1
  have := hM b hm
  omega
theorem Sl.atM (h : Sl W W.heap.size size A n c xs) (hw : St M W L w) (ha : Apt A M) : Sl w w.heap.size size A n c xs :=
  ⟨h.len, h.cap, h.max, fun hn => by
    obtain ⟨b, off, e, hb, hc⟩ := h.cells hn
    exact ⟨b, off, e, Nat.lt_of_lt_of_le hb hw.pres.size, fun i v hv => (hw.base_cell hb (ha _ _ e)).trans (hc i v hv)⟩⟩
theorem Sl.atM' (h : Sl W W.heap.size size A n c xs) (hw : St M W L w) (ha : 0 < n → Apt A M) : Sl w w.heap.size size A n c xs :=
  ⟨h.len, h.cap, h.max, fun hn => by
    obtain ⟨b, off, e, hb, hc⟩ := h.cells hn
    exact ⟨b, off, e, Nat.lt_of_lt_of_le hb hw.pres.size, fun i v hv => (hw.base_cell hb (ha hn _ _ e)).trans (hc i v hv)⟩⟩
theorem Sl.ld1M {b off i m : Nat} {T : TypeId} {v : Value} (h : Sl W W.heap.size size (some ⟨b, off, none⟩) n c xs) (ha : Apt (some ⟨b, off, none⟩) M) (ht : tsz P T = some (false, m)) (hv : xs[i]? = some v) : LD P M W L T ⟨b, off + i, none⟩ v := fun w hw => by
  have hn : 0 < n := by
    rcases Nat.eq_zero_or_pos n with h0 | h0
    · have h1 := h.len
      rw [h0, Nat.zero_mul] at h1
      have := (List.getElem?_eq_some_iff.1 hv).1
      omega
    · exact h0
  obtain ⟨b', off', e, hb, hc⟩ := h.cells hn
  cases e
  exact loadAt_one ht ((hw.base_cell hb (ha _ _ rfl)).trans (hc i v hv))
theorem Sl.nil (size : Nat) : Sl w B size none 0 0 [] := ⟨by simp, Nat.le_refl _, by omega, fun h => by omega⟩
theorem Sl.of_blk {b : Nat} {t : TypeId} {cs : List Value} (hw : St M W L w) (hm : Res.blk b t cs ∈ L) (hl : cs.length = n * size) (hn : n ≤ 9223372036854775807) : Sl w w.heap.size size (some ⟨b, 0, Option.none⟩) n n cs :=
  ⟨hl, Nat.le_refl _, hn, fun _ => ⟨_, _, rfl, (hw.own _ hm b (by simp [Res.foot])).2, fun i v hv => by rw [Nat.zero_add, hw.blk_cell hm]; exact hv⟩⟩
theorem Sl.zero (h : Sl w B size A n c xs) (hn : n = 0) : xs = [] := List.eq_nil_of_length_eq_zero (by rw [h.len, hn, Nat.zero_mul])
theorem Sl.isNone (h : Sl w B size A n c xs) (hA : A.isNone = true) : n = 0 ∧ xs = [] := by
  have : n = 0 := by
    rcases Nat.eq_zero_or_pos n with h0 | h0
    · exact h0
    · obtain ⟨b, off, rfl, _⟩ := h.cells h0
      simp at hA
  exact ⟨this, h.zero this⟩
end

/-! ## Rows of structs -/
/-- The cells of a list, each element's own. -/
def cl {α : Type} (f : α → List Value) (l : List α) : List Value := l.flatMap f
section
variable {α : Type} {f : α → List Value} {k : Nat} {l : List α}
theorem cl_len (hf : ∀ x, (f x).length = k) : ∀ l : List α, (cl f l).length = l.length * k
  | [] => by simp [cl]
  | x :: l => by
    have := cl_len hf l
    unfold cl at *
    simp only [List.flatMap_cons, List.length_append, hf, this, List.length_cons, Nat.add_mul]
    omega
theorem cl_cons (x : α) (l : List α) : cl f (x :: l) = f x ++ cl f l := by simp [cl]
theorem cl_snoc (l : List α) (x : α) : cl f (l ++ [x]) = cl f l ++ f x := by simp [cl]
theorem cl_append (l m : List α) : cl f (l ++ m) = cl f l ++ cl f m := by simp [cl]
theorem cl_drop (hf : ∀ x, (f x).length = k) : ∀ (i : Nat) (l : List α), (cl f l).drop (i * k) = cl f (l.drop i)
  | 0, l => by simp
  | i + 1, [] => by simp [cl]
  | i + 1, x :: l => by
    rw [cl_cons, List.drop_succ_cons, ← cl_drop hf i l, Nat.add_mul, Nat.one_mul, Nat.add_comm (i * k), ← List.drop_drop]
    congr 1
    rw [← hf x]
    simp
theorem cl_take (hf : ∀ x, (f x).length = k) : ∀ (i : Nat) (l : List α), (cl f l).take (i * k) = cl f (l.take i)
  | 0, l => by simp [cl]
  | i + 1, [] => by simp [cl]
  | i + 1, x :: l => by
    rw [cl_cons, List.take_succ_cons, cl_cons, ← cl_take hf i l, Nat.add_mul, Nat.one_mul, Nat.add_comm (i * k), ← hf x, List.take_length_add_append]
theorem cl_at (hf : ∀ x, (f x).length = k) {i : Nat} {x : α} (h : l[i]? = some x) : ((cl f l).drop (i * k)).take k = f x := by
  rw [cl_drop hf]
  obtain ⟨hlt, hx⟩ := List.getElem?_eq_some_iff.1 h
  rw [List.drop_eq_getElem_cons hlt, hx, cl_cons, ← hf x]
  simp
theorem cl_get (hf : ∀ x, (f x).length = k) {i j : Nat} {x : α} {v : Value} (h : l[i]? = some x) (hv : (f x)[j]? = some v) : (cl f l)[i * k + j]? = some v := by
  have h1 := cl_at hf h
  have hj : j < k := by rw [← hf x]; exact (List.getElem?_eq_some_iff.1 hv).1
  have h2 : (((cl f l).drop (i * k)).take k)[j]? = some v := by rw [h1]; exact hv
  rw [List.getElem?_take, if_pos hj, List.getElem?_drop] at h2
  exact h2
theorem cl_ones (hf : ∀ x, ones (f x) = true) (l : List α) : ones (cl f l) = true := by
  induction l with
  | nil => rfl
  | cons x l ih =>
    rw [cl_cons]
    unfold ones at *
    rw [List.all_append, hf, ih]
    rfl
theorem cl_row (hf : ∀ x, (f x).length = k) (hk : 0 < k) {n : Nat} (h : (cl f l).length = n * k) : l.length = n := by
  rw [cl_len hf] at h
  exact Nat.eq_of_mul_eq_mul_right hk h
end
end Go.Proofs.YtddofamkmcgfmaaDoor
