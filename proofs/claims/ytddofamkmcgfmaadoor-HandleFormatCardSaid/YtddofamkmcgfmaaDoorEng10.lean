/- Memory that is finished: a snapshot of blocks that only are read from now on (nested rows), and blocks that carry the run-time's mark. -/
import Derived.Test.YtddofamkmcgfmaaDoorEng9
import Derived.Lib.SlBytesConst
namespace Go.Proofs.YtddofamkmcgfmaaDoor
open Go.RowKit Go.Shelf
set_option linter.unusedVariables false
set_option linter.unusedSimpArgs false

/-! ## Slices within a set of blocks -/
structure Sd (w : World) (D : Nat → Prop) (size : Nat) (A : Option Addr) (n c : Nat) (xs : List Value) : Prop where
  len : xs.length = n * size
  cap : n ≤ c
  max : c ≤ 9223372036854775807
  cells : 0 < n → ∃ b off, A = some ⟨b, off, none⟩ ∧ D b ∧ ∀ i v, xs[i]? = some v → w.cell? ⟨b, off + i, none⟩ = some v
section
variable {W w w' v v0 : World} {D D' : Nat → Prop} {B size n c : Nat} {A : Option Addr} {xs : List Value} {L : List Res} {M : List Nat} {P : Program}
theorem Sd.sl (h : Sd w D size A n c xs) (hD : ∀ b, D b → b < B) : Sl w B size A n c xs :=
  ⟨h.len, h.cap, h.max, fun hn => by
    obtain ⟨b, off, e, hb, hc⟩ := h.cells hn
    exact ⟨b, off, e, hD b hb, hc⟩⟩
theorem Sl.sd (h : Sl w B size A n c xs) (hD : ∀ b, b < B → D b) : Sd w D size A n c xs :=
  ⟨h.len, h.cap, h.max, fun hn => by
    obtain ⟨b, off, e, hb, hc⟩ := h.cells hn
    exact ⟨b, off, e, hD b hb, hc⟩⟩
theorem Sd.same (h : Sd w D size A n c xs) (hs : ∀ b, D b → w'.heap[b]? = w.heap[b]?) (hD : ∀ b, D b → D' b) : Sd w' D' size A n c xs :=
  ⟨h.len, h.cap, h.max, fun hn => by
    obtain ⟨b, off, e, hb, hc⟩ := h.cells hn
    exact ⟨b, off, e, hD b hb, fun i u hu => (World.cell?_of_block (a := ⟨b, off + i, none⟩) (hs b hb)).trans (hc i u hu)⟩⟩
theorem Sd.mono (h : Sd w D size A n c xs) (hD : ∀ b, D b → D' b) : Sd w D' size A n c xs := h.same (fun _ _ => rfl) hD
theorem Sd.nil : Sd w D size none 0 0 [] := ⟨by simp, Nat.le_refl _, by omega, fun h => by omega⟩
theorem Sd.of_own {base : Nat} {t : TypeId} (h : w.ownsRow base t size (.slice A n c) n xs) (hD : ∀ g, (Value.slice A n c).ownBlock = some g → D g) : Sd w D size A n c xs := by
  have hs := Sl.of_own h
  refine ⟨hs.len, hs.cap, hs.max, fun hn => ?_⟩
  obtain ⟨b, off, e, hb, hc⟩ := hs.cells hn
  refine ⟨b, off, e, hD b ?_, hc⟩
  rw [e]
  rcases h.2 with ⟨hv, _⟩ | ⟨g, cap, cur, hv, _⟩
  · rw [e] at hv; cases hv
  · rw [e] at hv
    cases hv
    simp [Value.ownBlock]
theorem Sd.ownNew {base : Nat} {t : TypeId} (h : w.ownsRow base t size (.slice A n c) n xs) : Sd w (fun b => base ≤ b ∧ b < w.heap.size) size A n c xs := Sd.of_own h fun g hg => h.lt g hg

/-! ## Snapshots -/
def snap (M : List Nat) (W v : World) (foot : List Nat) : Res := .dat foot (fun w => Pres M W v ∧ ∀ b ∈ foot, w.heap[b]? = v.heap[b]?) (fun _ _ hk h => ⟨h.1, fun b hb => (hk b hb).trans (h.2 b hb)⟩)
/-- What may be read by a snapshot: its blocks, and what was there when the call began. -/
def Dm (M : List Nat) (W : World) (foot : List Nat) (b : Nat) : Prop := b ∈ foot ∨ (b < W.heap.size ∧ b ∉ M)
/-- A snapshot of all that is the call's own but for the resources of K. -/
def Foot (W v : World) (K : List Res) (foot : List Nat) : Prop := ∀ b, b ∈ foot ↔ W.heap.size ≤ b ∧ b < v.heap.size ∧ ∀ r ∈ K, b ∉ r.foot
theorem snap_foot (M : List Nat) (W v : World) (foot : List Nat) : (snap M W v foot).foot = foot := rfl
theorem look_snap (M : List Nat) (W v : World) (foot : List Nat) (L : List Res) (k : Nat) : look (snap M W v foot :: L) k = look L k := rfl
theorem putL_snap (M : List Nat) (W v : World) (foot : List Nat) (L : List Res) (k : Nat) (us : List Value) : putL (snap M W v foot :: L) k us = snap M W v foot :: putL L k us := rfl
theorem neB_snap (M : List Nat) (W v : World) (foot : List Nat) (L : List Res) (b : Nat) : neB (snap M W v foot :: L) b = neB L b := rfl
theorem neR_snap (M : List Nat) (W v : World) (foot : List Nat) (L : List Res) (b : Nat) : neR (snap M W v foot :: L) b = neR L b := rfl
theorem factL_snap (W' : World) (M' M : List Nat) (W v : World) (foot : List Nat) (L : List Res) : factL W' M' (snap M W v foot :: L) = factL W' M' L := rfl
theorem fresh_snap (M : List Nat) (W v : World) (foot : List Nat) (L : List Res) (k : Nat) : fresh (snap M W v foot :: L) k = fresh L k := rfl
theorem St.snap_same {foot : List Nat} (hw : St M W L w) (hm : snap M W v foot ∈ L) : ∀ b, Dm M W foot b → w.heap[b]? = v.heap[b]? := fun b hb => by
  have hh : Pres M W v ∧ ∀ b ∈ foot, w.heap[b]? = v.heap[b]? := hw.holds _ hm
  rcases hb with hb | ⟨hb, hbm⟩
  · exact hh.2 b hb
  · exact (hw.pres.block b hb hbm).trans (hh.1.block b hb hbm).symm
theorem St.snap_lt {foot : List Nat} (hw : St M W L w) (hm : snap M W v foot ∈ L) : ∀ b, Dm M W foot b → b < w.heap.size := fun b hb => by
  rcases hb with hb | ⟨hb, _⟩
  · exact (hw.own _ hm b hb).2
  · exact Nat.lt_of_lt_of_le hb hw.pres.size
theorem Sd.at {foot : List Nat} (h : Sd v (Dm M W foot) size A n c xs) (hw : St M W L w) (k : Nat) (hk : nth L k = some (snap M W v foot)) : Sl w w.heap.size size A n c xs := by
  have hm : snap M W v foot ∈ L := by rw [nth_eq] at hk; exact List.mem_of_getElem? hk
  exact (h.same (hw.snap_same hm) fun b hb => hw.snap_lt hm b hb).sl fun b hb => hb
theorem Sd.ld1 {foot : List Nat} {b off i m : Nat} {T : TypeId} {u : Value} (h : Sd v (Dm M W foot) size (some ⟨b, off, none⟩) n c xs) (k : Nat) (hk : nth L k = some (snap M W v foot)) (ht : tsz P T = some (false, m)) (hv : xs[i]? = some u) : LD P M W L T ⟨b, off + i, none⟩ u := fun w hw => by
  have hs := h.at hw k hk
  have hn : 0 < n := by
    rcases Nat.eq_zero_or_pos n with h0 | h0
    · have h1 := hs.len
      rw [h0, Nat.zero_mul] at h1
      have := (List.getElem?_eq_some_iff.1 hv).1
      omega
    · exact h0
  obtain ⟨b', off', e, hb, hc⟩ := hs.cells hn
  cases e
  exact loadAt_one ht (hc i u hv)
theorem Sd.ld {foot : List Nat} {b off i : Nat} {T : TypeId} {vs : List Value} (h : Sd v (Dm M W foot) size (some ⟨b, off, none⟩) n c xs) (k : Nat) (hk : nth L k = some (snap M W v foot)) (hn : 0 < n) (ht : tsz P T = some (true, vs.length)) (hv : (xs.drop i).take vs.length = vs) : LD P M W L T ⟨b, off + i, none⟩ (.agg vs.toArray) := fun w hw => by
  obtain ⟨b', off', e, hb, hc⟩ := (h.at hw k hk).cells hn
  cases e
  have hv' : ∀ (j : Nat) v, vs[j]? = some v → xs[i + j]? = some v := fun j v h => by
    rw [← hv, List.getElem?_take] at h
    split at h
    · simpa using h
    · cases h
  refine loadAt_agg ht vs rfl fun j v hj => ?_
  rw [Addr.add_lit, Nat.add_assoc]
  exact hc _ _ (hv' j v hj)
theorem nth_mem {L : List Res} {k : Nat} {r : Res} (h : nth L k = some r) : r ∈ L := by rw [nth_eq] at h; exact List.mem_of_getElem? h
theorem nth_apart (hap : L.Pairwise (fun r s => ∀ b ∈ r.foot, b ∉ s.foot)) {i j : Nat} {r s : Res} (hi : nth L i = some r) (hj : nth L j = some s) (hne : i ≠ j) : ∀ b ∈ r.foot, b ∉ s.foot := by
  rw [nth_eq] at hi hj
  obtain ⟨hi1, hi2⟩ := List.getElem?_eq_some_iff.1 hi
  obtain ⟨hj1, hj2⟩ := List.getElem?_eq_some_iff.1 hj
  have hp := List.pairwise_iff_getElem.1 hap
  intro b hb hbs
  rcases Nat.lt_or_gt_of_ne hne with hlt | hlt
  · exact hp i j hi1 hj1 hlt b (hi2 ▸ hb) (hj2 ▸ hbs)
  · exact hp j i hj1 hi1 hlt b (hj2 ▸ hbs) (hi2 ▸ hb)
/-- The blocks of a resource that is not kept lie in the snapshot. -/
theorem St.footK {foot jx : List Nat} {k : Nat} {r : Res} (hv : St M W L v) (hf : Foot W v (pickL jx L) foot) (hk : nth L k = some r) (hkj : k ∉ jx) (hM : ∀ m ∈ M, ∃ s ∈ pickL jx L, m ∈ s.foot) : ∀ b ∈ r.foot, b ∈ foot := fun b hb => by
  have hap : ∀ s ∈ pickL jx L, b ∉ s.foot := fun s hs => by
    obtain ⟨j, hj, hjs⟩ := pickL_mem hs
    exact nth_apart hv.apart hk hjs (fun e => hkj (e ▸ hj)) b hb
  have ho := hv.own r (nth_mem hk) b hb
  refine (hf b).2 ⟨?_, ho.2, hap⟩
  rcases ho.1 with h1 | h1
  · exact h1
  · obtain ⟨s, hs, hms⟩ := hM b h1
    exact absurd hms (hap s hs)
theorem St.sdr {foot jx : List Nat} {t : TypeId} (hv : St M W L v) (hf : Foot W v (pickL jx L) foot) (k : Nat) (hk : nth L k = some (.row (.slice A n c) t size n xs)) (hkj : k ∉ jx) (hM : ∀ m ∈ M, ∃ s ∈ pickL jx L, m ∈ s.foot) : Sd v (Dm M W foot) size A n c xs :=
  Sd.of_own (hv.holds _ (nth_mem hk)) fun g hg => .inl (hv.footK hf hk hkj hM g (by simpa [Res.foot] using hg))
theorem St.sdb {foot jx : List Nat} {t : TypeId} {b : Nat} (hv : St M W L v) (hf : Foot W v (pickL jx L) foot) (k : Nat) (hk : nth L k = some (.blk b t xs)) (hkj : k ∉ jx) (hM : ∀ m ∈ M, ∃ s ∈ pickL jx L, m ∈ s.foot) (hl : xs.length = n * size) (hn : n ≤ 9223372036854775807) : Sd v (Dm M W foot) size (some ⟨b, 0, none⟩) n n xs :=
  ⟨hl, Nat.le_refl _, hn, fun _ => ⟨_, _, rfl, .inl (hv.footK hf hk hkj hM b (by simp [Res.foot])), fun i u hu => by rw [Nat.zero_add, hv.blk_cell (nth_mem hk)]; exact hu⟩⟩
/-- An older snapshot in a newer one. -/
theorem St.snapK {foot foot0 jx : List Nat} (hv : St M W L v) (hf : Foot W v (pickL jx L) foot) (k : Nat) (hk : nth L k = some (snap M W v0 foot0)) (hkj : k ∉ jx) (hM : ∀ m ∈ M, ∃ s ∈ pickL jx L, m ∈ s.foot) : (∀ b, Dm M W foot0 b → v.heap[b]? = v0.heap[b]?) ∧ (∀ b, Dm M W foot0 b → Dm M W foot b) :=
  ⟨hv.snap_same (nth_mem hk), fun b hb => hb.imp (hv.footK hf hk hkj hM b) id⟩
theorem Dm.base {foot : List Nat} {b : Nat} (hb : b < W.heap.size) : Dm [] W foot b := .inr ⟨hb, by simp⟩
/-- Everything lies in a snapshot that keeps nothing. -/
theorem Foot.all {foot : List Nat} (hf : Foot W v [] foot) {b : Nat} (hb : b < v.heap.size) : Dm [] W foot b := by
  rcases Nat.lt_or_ge b W.heap.size with h | h
  · exact Dm.base h
  · exact .inl ((hf b).2 ⟨h, hb, by simp⟩)
theorem pickL_append (ix jx : List Nat) (L : List Res) : pickL (ix ++ jx) L = pickL ix L ++ pickL jx L := by
  induction ix with
  | nil => rfl
  | cons i ix ih =>
    simp only [List.cons_append, pickL]
    split
    · rw [ih]; rfl
    · rw [ih]
theorem cv_snap {n : Nat} {c : Code} {F : Fr} {Q : Exit → Fr → List Res → Prop} (jx : List Nat) (hnd : jx.Nodup)
    (h : ∀ v foot, St M W L v → Foot W v (pickL jx L) foot → CV P M W n c F (snap M W v foot :: pickL jx L) Q) : CV P M W n c F L Q := fun a w ha hw => by
  classical
  have hw2 := hw.pick hnd
  have hf : Foot W w (pickL jx L) ((List.range w.heap.size).filter fun b => decide (W.heap.size ≤ b ∧ ∀ r ∈ pickL jx L, b ∉ r.foot)) := fun b => by
    simp only [List.mem_filter, List.mem_range, decide_eq_true_eq]
    exact ⟨fun h => ⟨h.2.1, h.1, h.2.2⟩, fun h => ⟨h.2.1, h.1, h.2.2⟩⟩
  refine h w _ hw hf a w ha (hw2.add _ ⟨hw.pres, fun _ _ => rfl⟩ (fun b hb => ?_) fun s hs b hb => ?_)
  · have := (hf b).1 hb
    exact ⟨.inl this.1, this.2.1⟩
  · exact ((hf b).1 hb).2.2 s hs
/-- A row's length. -/
theorem cv_len {c : Code} {nn : Nat} {F : Fr} {Q : Exit → Fr → List Res → Prop} (k : Nat) {A : Option Addr} {m d size : Nat} {t : TypeId} {xs : List Value} (hk : nth L k = some (.row (.slice A m d) t size m xs))
    (h : xs.length = m * size → CV P M W nn c F L Q) : CV P M W nn c F L Q := fun a w ha hw => h (hw.slr k hk).len a w ha hw
/-- New since w. -/
def Nw (w w' : World) (b : Nat) : Prop := w.heap.size ≤ b ∧ b < w'.heap.size
theorem St.addSnap (hs : St M W L w') (hsz : W.heap.size ≤ w.heap.size) (hlt : ∀ r ∈ L, ∀ b ∈ r.foot, b < w.heap.size) (hle : w.heap.size ≤ w'.heap.size) : ∃ foot, St M W (snap M W w' foot :: L) w' ∧ ∀ b, b ∈ foot ↔ Nw w w' b := by
  refine ⟨List.range' w.heap.size (w'.heap.size - w.heap.size), hs.add _ ⟨hs.pres, fun _ _ => rfl⟩ (fun b hb => ?_) fun s hs' b hb hbs => ?_, fun b => ?_⟩
  · have := List.mem_range'_1.1 hb
    exact ⟨.inl (by omega), by omega⟩
  · have := List.mem_range'_1.1 hb
    have := hlt s hs' b hbs
    omega
  · rw [List.mem_range'_1]
    unfold Nw
    omega
/-- A call that hands back nested rows, new since it began. -/
theorem callV_nest {ι : Sort _} {g : FuncId} {args : Array Value} {K : Bool → Value → List Res → Prop} (f : ι → Value) (Φ : ι → World → World → Prop)
    (h : ∀ w, St M W L w → Calls P g args w (fun e w' => ∃ i, e = .returned (f i) ∧ Φ i w w' ∧ Below w.heap.size w w'))
    (hK : ∀ i w w' foot, St M W L w → St M W (snap M W w' foot :: L) w' → Φ i w w' → (∀ b, Nw w w' b → b ∈ foot) → K true (f i) (snap M W w' foot :: L)) : CallV P M W g args L K := fun w hw =>
  (h w hw).mono (by
    rintro e w' ⟨i, rfl, hi, hb⟩
    obtain ⟨foot, hs, hf⟩ := (hw.quiet hb).addSnap hw.pres.size (fun r hr b hb => (hw.own r hr b hb).2) hb.size
    exact ⟨_, _, rfl, hs, hK i w w' foot hw hs hi fun b hb => (hf b).2 hb⟩)
/-- The same, the call writes into block b. -/
theorem callV_nestM {ι : Sort _} {g : FuncId} {args : Array Value} {K : Bool → Value → List Res → Prop} (k : Nat) (f : ι → Value) (Φ : ι → World → World → Prop) (us : ι → List Value) {b : Nat} {t : TypeId} {cs : List Value} (hk : nth L k = some (.blk b t cs))
    (h : ∀ w, St M W L w → Calls P g args w (fun e w' => ∃ i, e = .returned (f i) ∧ Φ i w w' ∧ w'.heap[b]? = some (.cells (us i).toArray t (0, 0)) ∧ Pres [b] w w'))
    (hK : ∀ i w w' foot, St M W L w → St M W (snap M W w' foot :: L.set k (.blk b t (us i))) w' → Φ i w w' → (∀ b, Nw w w' b → b ∈ foot) → K true (f i) (snap M W w' foot :: L.set k (.blk b t (us i)))) : CallV P M W g args L K := fun w hw =>
  (h w hw).mono (by
    rintro e w' ⟨i, rfl, hi, hc, hb⟩
    have hs0 := hw.mod hk hb hc
    obtain ⟨foot, hs, hf⟩ := hs0.addSnap hw.pres.size (fun r hr c hc => by
      rcases List.mem_or_eq_of_mem_set hr with h5 | rfl
      · exact (hw.own r h5 c hc).2
      · exact (hw.own _ (nth_mem hk) c hc).2) hb.size
    exact ⟨_, _, rfl, hs, hK i w w' foot hw hs hi fun b hb => (hf b).2 hb⟩)

theorem callV_pick {g : FuncId} {args : Array Value} {K : Bool → Value → List Res → Prop} (ix : List Nat) (hnd : ix.Nodup) (h : CallV P M W g args (pickL ix L) K) : CallV P M W g args L K := fun w hw => h w (hw.pick hnd)
theorem cv_blkrow {c : Code} {nn : Nat} {F : Fr} {Q : Exit → Fr → List Res → Prop} {b : Nat} {t : TypeId} {cs : List Value} (size n : Nat) (hl : cs.length = n * size) (hn : n ≤ 9223372036854775807) (h : CV P M W nn c F (.row (.slice (some ⟨b, 0, none⟩) n n) t size n cs :: L) Q) : CV P M W nn c F (.blk b t cs :: L) Q := fun a w ha hw => h a w ha (hw.blk_row hl hn)
/-- What is in a snapshot is new since the call began. -/
theorem St.snapNew {foot : List Nat} (hw : St M W L w) (k : Nat) (hk : nth L k = some (snap M W v foot)) (hM : ∀ m ∈ M, ∃ j r, nth L j = some r ∧ m ∈ r.foot ∧ j ≠ k) : ∀ y ∈ foot, Nw W w y := fun y hy => by
  have ho := hw.own _ (nth_mem hk) y hy
  refine ⟨?_, ho.2⟩
  rcases ho.1 with h1 | h1
  · exact h1
  · obtain ⟨j, r, hj, hr, hne⟩ := hM y h1
    exact absurd hy (nth_apart hw.apart hj hk hne y hr)
theorem cv_fact {c : Code} {nn : Nat} {F : Fr} {Q : Exit → Fr → List Res → Prop} (p : Prop) (h : ∀ w, St M W L w → p) (hk : p → CV P M W nn c F L Q) : CV P M W nn c F L Q := fun a w ha hw => hk (h w hw) a w ha hw
theorem cv_eq {c : Code} {nn : Nat} {F : Fr} {Q : Exit → Fr → List Res → Prop} {L' : List Res} (e : L = L') (h : CV P M W nn c F L' Q) : CV P M W nn c F L Q := e ▸ h
/-! ## Marked blocks -/
def rdR (b : Nat) (t : TypeId) (cs : List Value) : Res := .dat [b] (fun w => w.heap[b]? = some (.cells cs.toArray t (cs.length, cs.length + 1))) (fun _ _ hk h => (hk b (by simp)).trans h)
theorem rdR_foot (b : Nat) (t : TypeId) (cs : List Value) : (rdR b t cs).foot = [b] := rfl
theorem look_rdR (b : Nat) (t : TypeId) (cs : List Value) (L : List Res) (k : Nat) : look (rdR b t cs :: L) k = look L k := rfl
theorem putL_rdR (b : Nat) (t : TypeId) (cs : List Value) (L : List Res) (k : Nat) (us : List Value) : putL (rdR b t cs :: L) k us = rdR b t cs :: putL L k us := rfl
theorem neB_rdR (b : Nat) (t : TypeId) (cs : List Value) (L : List Res) (k : Nat) : neB (rdR b t cs :: L) k = neB L k := rfl
theorem neR_rdR (b : Nat) (t : TypeId) (cs : List Value) (L : List Res) (k : Nat) : neR (rdR b t cs :: L) k = neR L k := rfl
theorem factL_rdR (W : World) (M : List Nat) (b : Nat) (t : TypeId) (cs : List Value) (L : List Res) : factL W M (rdR b t cs :: L) = factL W M L := rfl
theorem fresh_rdR (b : Nat) (t : TypeId) (cs : List Value) (L : List Res) (k : Nat) : fresh (rdR b t cs :: L) k = fresh L k := rfl
theorem Sl.of_rd {b : Nat} {t : TypeId} {cs : List Value} (hw : St M W L w) (k : Nat) (hk : nth L k = some (rdR b t cs)) (hl : cs.length = n * size) (hn : n ≤ 9223372036854775807) : Sl w w.heap.size size (some ⟨b, 0, none⟩) n n cs := by
  have hm := nth_mem hk
  have hh : w.heap[b]? = some (.cells cs.toArray t (cs.length, cs.length + 1)) := hw.holds _ hm
  exact ⟨hl, Nat.le_refl _, hn, fun _ => ⟨_, _, rfl, (hw.own _ hm b (by simp [rdR_foot])).2, fun i v hv => by rw [Nat.zero_add, cell_of_row w b i cs.toArray t _ hh]; simpa using hv⟩⟩
/-- []byte("..") of a constant. -/
theorem xv_mark (k : Nat) {F : Fr} {d : Option Nat} {t e e' ty : TypeId} {pos : String} {af : Array Edge} {gd : Option (Nat × Bool)} {x : Operand} {b : Nat} {cs : List Value} {K : Bool → Value → List Res → Prop}
    (hk : nth L k = some (.blk b e' cs)) (ht : P.underlying t = some (.slice e)) (he : P.underlying e = some (.int .u8)) (hx : ev F x = .slice (some ⟨b, 0, none⟩) n c)
    (hK : K true (.slice (some ⟨b, 0, none⟩) n c) (L.set k (rdR b e' cs))) : XV P M W ⟨d, .convert t t x, ty, pos, af, gd⟩ F L K := fun w hw => by
  have hh : w.heap[b]? = some (.cells cs.toArray e' (0, 0)) := hw.holds _ (nth_mem hk)
  have hsh : w.shape? b = some (e', cs.length) := by unfold World.shape?; rw [hh]; simp
  refine ⟨_, _, w.freeze ⟨b, cs.length, none⟩ 1, ?_, ?_, hK⟩
  · simp only [execOp, hx]
    have : (convert t t (.slice (some ⟨b, 0, none⟩) n c)).run P w = .ok (.slice (some ⟨b, 0, none⟩) n c) (w.freeze ⟨b, cs.length, none⟩ 1) := by
      simp [convert, run_underlying ht, run_underlying he, markStringish, hsh]
    simp [this]
  · have hblk : (w.freeze ⟨b, cs.length, none⟩ 1).heap[b]? = some (.cells cs.toArray e' (cs.length, cs.length + 1)) := by
      simp [World.freeze, Array.getElem?_modify, hh]
    refine hw.replace hk rfl hblk (fun c hc => ?_) (by simp [World.freeze]) rfl rfl rfl
    have hne : b ≠ c := fun e => hc (by simp [Res.foot, e])
    simp [World.freeze, Array.getElem?_modify, hne]
/-- An element of an array value. -/
theorem xv_arr {F : Fr} {d : Option Nat} {t ty e : TypeId} {pos : String} {af : Array Edge} {gd : Option (Nat × Bool)} {x i : Operand} {cs : List Value} {kk : IntKind} {j m : Nat} {u : Value} {K : Bool → Value → List Res → Prop}
    (hx : ev F x = .agg cs.toArray) (hi : ev F i = .int kk (j : Int)) (ht : P.underlying t = some (.array m e)) (he : tsz P e = some (false, 1)) (hj : j < m) (hu : cs[j]? = some u)
    (hK : K true u L) : XV P M W ⟨d, .index t x i, ty, pos, af, gd⟩ F L K := fun w hw => by
  obtain ⟨h1, h2⟩ := tsz_run he w
  refine ⟨_, _, w, ?_, hw, hK⟩
  have hlt : (0 : Int) ≤ (j : Int) ∧ (j : Int) < (m : Int) := by omega
  simp [execOp, hx, hi, Instr.index, asIntOf, run_underlying ht, hlt, part, h1, h2, hu]
  intro h0
  omega
end
theorem cS : type_of% (And.intro (And.intro (And.intro @look_snap @putL_snap) (And.intro @neB_snap @look_rdR)) (And.intro (And.intro @putL_rdR @neB_rdR) (And.intro @fresh_snap @fresh_rdR))) := (And.intro (And.intro (And.intro @look_snap @putL_snap) (And.intro @neB_snap @look_rdR)) (And.intro (And.intro @putL_rdR @neB_rdR) (And.intro @fresh_snap @fresh_rdR)))
end Go.Proofs.YtddofamkmcgfmaaDoor
