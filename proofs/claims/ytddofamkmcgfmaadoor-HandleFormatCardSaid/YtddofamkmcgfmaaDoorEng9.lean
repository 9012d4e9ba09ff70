/- Calls that hand back a pointer to new memory; rows of a call that may write elsewhere; strings of rows. -/
import Derived.Test.YtddofamkmcgfmaaDoorSl
namespace Go.Proofs.YtddofamkmcgfmaaDoor
open Go.RowKit Go.Shelf
set_option linter.unusedVariables false
set_option linter.unusedSimpArgs false
section
variable {P : Program} {M : List Nat} {W w w' : World} {L : List Res} {K : Bool → Value → List Res → Prop} {g : FuncId} {args : Array Value}
theorem fresh_lt {B b : Nat} (hB : B ≤ b) : ∀ {L : List Res}, (∀ r ∈ L, ∀ c ∈ r.foot, c < B) → fresh L b
  | [], _ => trivial
  | .blk b' t cs :: L, h => ⟨Nat.lt_of_lt_of_le (h (.blk b' t cs) (by simp) b' (by simp [Res.foot])) hB, fresh_lt hB fun r hr => h r (by simp [hr])⟩
  | .row v t s n xs :: L, h => fresh_lt (L := L) hB fun r hr => h r (by simp [hr])
  | .dat f p l :: L, h => fresh_lt (L := L) hB fun r hr => h r (by simp [hr])
theorem St.addBlk {b : Nat} {t : TypeId} {us : List Value} (hw : St M W L w) (hB : Below w.heap.size w w') (hlt : w.heap.size ≤ b) (hb : w'.heap[b]? = some (.cells us.toArray t (0, 0))) : St M W (.blk b t us :: L) w' :=
  (hw.quiet hB).add (.blk b t us) hb (fun c hc => by
    obtain rfl : c = b := by simpa [Res.foot] using hc
    exact ⟨.inl (Nat.le_trans hw.pres.size hlt), (Array.getElem?_eq_some_iff.1 hb).1⟩) (fun s hs c hc hcs => by
    obtain rfl : c = b := by simpa [Res.foot] using hc
    have := (hw.own s hs _ hcs).2
    omega)
theorem St.hold {b : Nat} {t : TypeId} {cs : List Value} (hw : St M W L w) (k : Nat) (h : nth L k = some (.blk b t cs)) : w.heap[b]? = some (.cells cs.toArray t (0, 0)) := by
  rw [nth_eq] at h
  exact hw.holds _ (List.mem_of_getElem? h)
def boxRowP (t : TypeId) (us : Value → List Value) (T : TypeId) (size : Nat) (xs : List Value) (w : World) (e : Ending) (w' : World) : Prop :=
  ∃ b A n c, e = .returned (.pointer (some ⟨b, 0, none⟩)) ∧ w'.ownsRow w.heap.size T size (.slice A n c) n xs ∧ w'.heap[b]? = some (.cells (us (.slice A n c)).toArray t (0, 0)) ∧ w.heap.size ≤ b ∧ (∀ g, (Value.slice A n c).ownBlock = some g → g ≠ b) ∧ Below w.heap.size w w'
theorem callV_boxRow {t T : TypeId} {us : Value → List Value} {size : Nat} {xs : List Value} (h : ∀ w, St M W L w → Calls P g args w (boxRowP t us T size xs w))
    (hK : ∀ b A n c, xs.length = n * size → W.heap.size ≤ b → fresh L b → rowAt A n W M (.blk b t (us (.slice A n c)) :: L) → K true (.pointer (some ⟨b, 0, none⟩)) (.row (.slice A n c) T size n xs :: .blk b t (us (.slice A n c)) :: L)) : CallV P M W g args L K := fun w hw =>
  (h w hw).mono (by
    rintro e w' ⟨b, A, n, c, rfl, ho, hb, hlt, hne, hB⟩
    have h1 := hw.addBlk hB hlt hb
    have h2 : St M W (.row (.slice A n c) T size n xs :: .blk b t (us (.slice A n c)) :: L) w' := h1.add _ (ownsRow_base ho (Nat.zero_le _)) (fun g hg => by
      have := ho.lt g (by simpa [Res.foot] using hg)
      have h3 := hw.pres.size
      exact ⟨.inl (by omega), this.2⟩) (fun s hs g hg hgs => by
      have h4 := ho.lt g (by simpa [Res.foot] using hg)
      rcases List.mem_cons.1 hs with rfl | hs
      · exact hne g (by simpa [Res.foot] using hg) (by simpa [Res.foot] using hgs)
      · have := (hw.own s hs g hgs).2
        omega)
    exact ⟨_, _, rfl, h2, hK b A n c ho.1 (Nat.le_trans hw.pres.size hlt) (fresh_lt hlt fun r hr c hc => (hw.own r hr c hc).2) h2.row_at⟩)
/-- A row of the call's own, new since the call began: no block that the call may write lies in it. -/
theorem St.rowNew {t : TypeId} {size n : Nat} {v : Value} {xs : List Value} (h : St M W (.row v t size n xs :: L) w) (hM : ∀ m ∈ M, ∃ r ∈ L, m ∈ r.foot) : w.ownsRow W.heap.size t size v n xs := by
  have hh : w.ownsRow 0 t size v n xs := h.holds _ (.head _)
  refine ⟨hh.1, ?_⟩
  rcases hh.2 with hn | ⟨g, cap, cur, rfl, h2, h3⟩
  · exact .inl hn
  · have hf : g ∈ (Res.row (.slice (some ⟨g, 0, none⟩) n cap) t size n xs).foot := by simp [Res.foot, Value.ownBlock]
    rcases (h.own _ (.head _) g hf).1 with h4 | h4
    · exact .inr ⟨g, cap, cur, rfl, h4, h3⟩
    · obtain ⟨r, hr, hg⟩ := hM g h4
      exact absurd hg ((List.pairwise_cons.1 h.apart).1 r hr g hf)
theorem St.boxRow {t T : TypeId} {us : Value → List Value} {size n c b : Nat} {A : Option Addr} {xs : List Value} (h : St [] W (.blk b t (us (.slice A n c)) :: .row (.slice A n c) T size n xs :: L) w) : boxRowP t us T size xs W (.returned (.pointer (some ⟨b, 0, none⟩))) w :=
  ⟨b, A, n, c, rfl, h.tail.rowNew (by simp), h.holds _ (.head _), by simpa using (h.own _ (.head _) b (by simp [Res.foot])).1, fun g hg e => (List.pairwise_cons.1 h.apart).1 _ (.head _) b (by simp [Res.foot]) (by simp [Res.foot, ← e, hg]), h.below⟩
theorem str_row {A : Option Addr} {n c : Nat} {t : TypeId} {l : List Nat} (hm : Res.row (.slice A n c) t 1 n (byt l) ∈ L) (hw : St M W L w) : Reads w w.heap.size 1 A n (l.map fun x : Nat => Value.int .u8 (x : Int)) := src_row hm hw
theorem St.slb {A : Option Addr} {n c : Nat} {t : TypeId} {l : List Nat} (hw : St M W L w) (k : Nat) (h : nth L k = some (.row (.slice A n c) t 1 n (byt l))) : Sl w w.heap.size 1 A n c (byt l) := by
  rw [nth_eq] at h
  exact Sl.of_row hw (List.mem_of_getElem? h)
theorem St.slr {A : Option Addr} {n c size : Nat} {t : TypeId} {xs : List Value} (hw : St M W L w) (k : Nat) (h : nth L k = some (.row (.slice A n c) t size n xs)) : Sl w w.heap.size size A n c xs := by
  rw [nth_eq] at h
  exact Sl.of_row hw (List.mem_of_getElem? h)
theorem St.strk {A : Option Addr} {n c : Nat} {t : TypeId} {l : List Nat} (hw : St M W L w) (k : Nat) (h : nth L k = some (.row (.slice A n c) t 1 n (byt l))) : Reads w w.heap.size 1 A n (l.map fun x : Nat => Value.int .u8 (x : Int)) := (hw.slb k h).reads
theorem Sl.str {A : Option Addr} {n c : Nat} {l : List Nat} (h : Sl w w.heap.size 1 A n c (byt l)) : Reads w w.heap.size 1 A n (l.map fun x : Nat => Value.int .u8 (x : Int)) := h.reads
theorem rowAt.apt {A : Option Addr} {n : Nat} {b : Nat} {t : TypeId} {cs : List Value} (h : rowAt A n W M (.blk b t cs :: L)) : Apt A [b] := fun g o e => by
  rcases h with ⟨rfl, _⟩ | ⟨g', rfl, _, hne, _⟩
  · cases e
  · injection e with e
    injection e with e1
    subst e1
    simp only [List.mem_singleton]
    exact fun e => hne e.symm
end
/-- A row's capacity. -/
theorem cv_cap {P : Program} {M : List Nat} {W : World} {n : Nat} {c : Code} {F : Fr} {L : List Res} {Q : Exit → Fr → List Res → Prop} (k : Nat) {A : Option Addr} {m d size : Nat} {t : TypeId} {xs : List Value} (hk : nth L k = some (.row (.slice A m d) t size m xs))
    (h : m ≤ d → d ≤ 9223372036854775807 → CV P M W n c F L Q) : CV P M W n c F L Q := fun a w ha hw => by
  have := hw.slr k hk
  exact h this.cap this.max a w ha hw
/-- Cells of 16-bit numbers. -/
def u16c (l : List Nat) : List Value := l.map fun x : Nat => Value.int .u16 (x : Int)
theorem u16_get {l : List Nat} {i x : Nat} (h : l[i]? = some x) : (u16c l)[i]? = some (.int .u16 x) := by simp [u16c, h]
theorem u16_len (l : List Nat) : (u16c l).length = l.length := by simp [u16c]
theorem u16_row {l : List Nat} {n : Nat} (h : (u16c l).length = n * 1) : l.length = n := by rw [u16_len] at h; omega
theorem ones_u16 (l : List Nat) : ones (u16c l) = true := by simp [ones, u16c, Value.oneCell']
def u64c (l : List Nat) : List Value := l.map fun x : Nat => Value.int .u64 (x : Int)
theorem u64_get {l : List Nat} {i x : Nat} (h : l[i]? = some x) : (u64c l)[i]? = some (.int .u64 x) := by simp [u64c, h]
theorem u64_len (l : List Nat) : (u64c l).length = l.length := by simp [u64c]
theorem u64_row {l : List Nat} {n : Nat} (h : (u64c l).length = n * 1) : l.length = n := by rw [u64_len] at h; omega
theorem u16_take (l : List Nat) (k : Nat) : (u16c l).take (k * 1) = u16c (l.take k) := by rw [Nat.mul_one]; simp [u16c]
theorem Sl.utake {w : World} {B n c : Nat} {A : Option Addr} {l : List Nat} (h : Sl w B 1 A n c (u16c l)) {k : Nat} (hk : k ≤ n) : Sl w B 1 A k c (u16c (l.take k)) := by
  rw [← u16_take]; exact h.take hk
end Go.Proofs.YtddofamkmcgfmaaDoor
