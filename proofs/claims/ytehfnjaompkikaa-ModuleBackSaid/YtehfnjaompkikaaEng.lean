/- A walk over an abstract state: the frame as a function of slots, the call's own memory as a list of resources; the rest of memory is as it was when the call began (but for the blocks of the list M). Plain definitions and theorems; nothing here knows the program. -/
import Derived.Test.YtehfnjaompkikaaBase
import Derived.Test.YtehfnjaompkikaaPlan
namespace Go.Proofs.Ytehfnjaompkikaa
open Go.RowKit Go.Shelf
set_option linter.unusedVariables false
set_option linter.unusedSimpArgs false

/-! ## Memory of the call's own -/
/-- blk: a block known whole. row: a slice that owns its row (append may grow it). dat: anything that depends on the blocks foot alone. -/
inductive Res where
  | blk (b : Nat) (t : TypeId) (cs : List Value)
  | row (v : Value) (t : TypeId) (size n : Nat) (xs : List Value)
  | dat (foot : List Nat) (holds : World → Prop) (loc : ∀ w w' : World, (∀ b ∈ foot, w'.heap[b]? = w.heap[b]?) → holds w → holds w')
def Res.foot : Res → List Nat
  | .blk b _ _ => [b]
  | .row v _ _ _ _ => v.ownBlock.toList
  | .dat f _ _ => f
def Res.holds (w : World) : Res → Prop
  | .blk b t cs => w.heap[b]? = some (.cells cs.toArray t (0, 0))
  | .row v t size n xs => w.ownsRow 0 t size v n xs
  | .dat _ h _ => h w
structure Pres (M : List Nat) (W w : World) : Prop where
  os : w.os = W.os
  tape : w.tape = W.tape
  output : w.output = W.output
  size : W.heap.size ≤ w.heap.size
  block : ∀ k, k < W.heap.size → k ∉ M → w.heap[k]? = W.heap[k]?
structure St (M : List Nat) (W : World) (L : List Res) (w : World) : Prop where
  pres : Pres M W w
  holds : ∀ r ∈ L, r.holds w
  own : ∀ r ∈ L, ∀ b ∈ r.foot, (W.heap.size ≤ b ∨ b ∈ M) ∧ b < w.heap.size
  apart : L.Pairwise (fun r s => ∀ b ∈ r.foot, b ∉ s.foot)

theorem Res.keep {w w' : World} (r : Res) (h : r.holds w) (hk : ∀ b ∈ r.foot, w'.heap[b]? = w.heap[b]?) : r.holds w' := by
  cases r with
  | blk b t cs => exact (hk b (by simp [Res.foot])).trans h
  | row v t size n xs =>
    refine ⟨h.1, ?_⟩
    rcases h.2 with hn | ⟨g, cap, cur, rfl, h1, h2, h3⟩
    · exact .inl hn
    · exact .inr ⟨g, cap, cur, rfl, h1, (hk g (by simp [Res.foot, Value.ownBlock])).trans h2, h3⟩
  | dat f p loc => exact loc w w' hk h
section
variable {M : List Nat} {W w w' : World} {L L' : List Res}
theorem Pres.refl (M : List Nat) (W : World) : Pres M W W := ⟨rfl, rfl, rfl, Nat.le_refl _, fun _ _ _ => rfl⟩
theorem Pres.below (h : Pres [] W w) : Below W.heap.size W w := ⟨h.os, h.tape, h.output, h.size, fun k hk => h.block k hk (by simp)⟩
theorem Below.pres (h : Below W.heap.size W w) (M : List Nat) : Pres M W w := ⟨h.os, h.tape, h.output, h.size, fun k hk _ => h.block k hk⟩
theorem St.below (h : St [] W L w) : Below W.heap.size W w := h.pres.below
theorem St.nil (M : List Nat) (W : World) : St M W [] W := ⟨Pres.refl _ _, by simp, by simp, List.Pairwise.nil⟩
theorem St.drew (h : St M W L w) : St M W L w.drew :=
  ⟨⟨h.pres.os, h.pres.tape, h.pres.output, h.pres.size, h.pres.block⟩, fun r hr => r.keep (h.holds r hr) (fun _ _ => rfl), h.own, h.apart⟩
/-- A call that leaves all old memory alone. -/
theorem St.quiet (h : St M W L w) (hb : Below w.heap.size w w') : St M W L w' :=
  ⟨⟨hb.os.trans h.pres.os, hb.tape.trans h.pres.tape, hb.output.trans h.pres.output, Nat.le_trans h.pres.size hb.size, fun k hk hm => (hb.block k (Nat.lt_of_lt_of_le hk h.pres.size)).trans (h.pres.block k hk hm)⟩,
   fun r hr => r.keep (h.holds r hr) (fun b hbf => hb.block b (h.own r hr b hbf).2),
   fun r hr b hbf => ⟨(h.own r hr b hbf).1, Nat.lt_of_lt_of_le (h.own r hr b hbf).2 hb.size⟩, h.apart⟩
theorem St.sub (h : St M W L w) (hs : L'.Sublist L) : St M W L' w :=
  ⟨h.pres, fun r hr => h.holds r (hs.subset hr), fun r hr => h.own r (hs.subset hr), h.apart.sublist hs⟩
theorem St.perm (h : St M W L w) (hs : L'.Perm L) : St M W L' w :=
  ⟨h.pres, fun r hr => h.holds r (hs.subset hr), fun r hr => h.own r (hs.subset hr), (hs.symm.pairwise h.apart (by
    intro r s hrs b hb hb'
    exact hrs b hb' hb))⟩
theorem St.tail {r : Res} (h : St M W (r :: L) w) : St M W L w := h.sub (List.sublist_cons_self _ _)
theorem St.of_suffix (h : St M W (L' ++ L) w) : St M W L w := h.sub (List.sublist_append_right _ _)
/-- New memory with what is said of it. -/
theorem St.add (h : St M W L w) (r : Res) (hr : r.holds w) (hf : ∀ b ∈ r.foot, (W.heap.size ≤ b ∨ b ∈ M) ∧ b < w.heap.size) (ha : ∀ s ∈ L, ∀ b ∈ r.foot, b ∉ s.foot) : St M W (r :: L) w :=
  ⟨h.pres, by
    intro s hs
    rcases List.mem_cons.1 hs with rfl | hs
    · exact hr
    · exact h.holds s hs, by
    intro s hs
    rcases List.mem_cons.1 hs with rfl | hs
    · exact hf
    · exact h.own s hs, List.pairwise_cons.2 ⟨ha, h.apart⟩⟩
theorem St.alloc (h : St M W L w) (t : TypeId) (cs : List Value) : St M W (.blk w.heap.size t cs :: L) (w.alloc (.cells cs.toArray t)) := by
  have hb : Below w.heap.size w (w.alloc (.cells cs.toArray t)) := (Below.refl _ _).alloc (Nat.le_refl _) _
  refine (h.quiet hb).add _ (heap_alloc_new w _) ?_ ?_
  · intro b hbf
    obtain rfl : b = w.heap.size := by simpa [Res.foot] using hbf
    exact ⟨.inl h.pres.size, by simp⟩
  · intro s hs b hbf hbs
    obtain rfl : b = w.heap.size := by simpa [Res.foot] using hbf
    exact absurd (h.own s hs _ hbs).2 (Nat.lt_irrefl _)
/-- A new block, its other contents unsaid. -/
theorem St.allocs (h : St M W L w) (o : Obj) : St M W L (w.alloc o) := h.quiet ((Below.refl _ _).alloc (Nat.le_refl _) _)

theorem St.blk_cell {b : Nat} {t : TypeId} {cs : List Value} (h : St M W L w) (hm : Res.blk b t cs ∈ L) (i : Nat) : w.cell? ⟨b, i, none⟩ = cs[i]? := by
  rw [cell_of_row w b i cs.toArray t (0, 0) (h.holds _ hm)]
  simp
theorem St.blk_frozen {b : Nat} {t : TypeId} {cs : List Value} (h : St M W L w) (hm : Res.blk b t cs ∈ L) (i : Nat) : w.frozen? ⟨b, i, none⟩ = false := by
  have := h.holds _ hm
  simp only [Res.holds] at this
  simp [World.frozen?, this]
theorem St.base {k : Nat} (h : St M W L w) (hk : k < W.heap.size) (hm : k ∉ M) : w.heap[k]? = W.heap[k]? := h.pres.block k hk hm
theorem St.base_cell {a : Addr} (h : St M W L w) (hk : a.block < W.heap.size) (hm : a.block ∉ M) : w.cell? a = W.cell? a := World.cell?_of_block (h.base hk hm)

/-- The first block of the list with this number. -/
def look : List Res → Nat → Option (List Value)
  | [], _ => none
  | .blk b _ cs :: L, k => if b = k then some cs else look L k
  | .row _ _ _ _ _ :: L, k => look L k
  | .dat _ _ _ :: L, k => look L k
/-- The list with that block's cells replaced. -/
def putL : List Res → Nat → List Value → List Res
  | [], _, _ => []
  | .blk b t cs :: L, k, us => if b = k then .blk b t us :: L else .blk b t cs :: putL L k us
  | .row v t s n xs :: L, k, us => .row v t s n xs :: putL L k us
  | .dat f p l :: L, k, us => .dat f p l :: putL L k us
theorem look_mem : ∀ {L : List Res} {k : Nat} {cs : List Value}, look L k = some cs → ∃ t, Res.blk k t cs ∈ L
  | .blk b t cs' :: L, k, cs, h => by
    simp only [look] at h
    split at h
    · rename_i hb
      subst hb
      cases h
      exact ⟨t, by simp⟩
    · obtain ⟨t, ht⟩ := look_mem h
      exact ⟨t, List.mem_cons_of_mem _ ht⟩
  | .row _ _ _ _ _ :: L, k, cs, h => by obtain ⟨t, ht⟩ := look_mem (L := L) h; exact ⟨t, List.mem_cons_of_mem _ ht⟩
  | .dat _ _ _ :: L, k, cs, h => by obtain ⟨t, ht⟩ := look_mem (L := L) h; exact ⟨t, List.mem_cons_of_mem _ ht⟩
theorem putL_split : ∀ {L : List Res} {k : Nat} {cs us : List Value}, look L k = some cs → ∃ t A B, L = A ++ Res.blk k t cs :: B ∧ putL L k us = A ++ Res.blk k t us :: B
  | .blk b t cs' :: L, k, cs, us, h => by
    simp only [look] at h
    split at h
    · rename_i hb
      subst hb
      cases h
      exact ⟨t, [], L, rfl, by simp [putL]⟩
    · rename_i hb
      obtain ⟨t', A, B, h1, h2⟩ := putL_split (us := us) h
      exact ⟨t', .blk b t cs' :: A, B, by rw [h1]; rfl, by simp only [putL, if_neg hb, h2]; rfl⟩
  | .row v t s n xs :: L, k, cs, us, h => by
    obtain ⟨t', A, B, h1, h2⟩ := putL_split (L := L) (us := us) h
    exact ⟨t', .row v t s n xs :: A, B, by rw [h1]; rfl, by simp only [putL, h2]; rfl⟩
  | .dat f p l :: L, k, cs, us, h => by
    obtain ⟨t', A, B, h1, h2⟩ := putL_split (L := L) (us := us) h
    exact ⟨t', .dat f p l :: A, B, by rw [h1]; rfl, by simp only [putL, h2]; rfl⟩
/-- Writing into a block of the list. -/
theorem St.write {b : Nat} {t : TypeId} {cs us : List Value} {A B : List Res} (h : St M W (A ++ .blk b t cs :: B) w)
    (hp : ∀ k, k ≠ b → w'.heap[k]? = w.heap[k]?) (hb : w'.heap[b]? = some (.cells us.toArray t (0, 0))) (hs : w'.heap.size = w.heap.size) (ho : w'.os = w.os) (ht : w'.tape = w.tape) (hu : w'.output = w.output) :
    St M W (A ++ .blk b t us :: B) w' := by
  have hmem : Res.blk b t cs ∈ A ++ .blk b t cs :: B := by simp
  have hbo := h.own _ hmem b (by simp [Res.foot])
  have hap := h.apart
  have hfoot : ∀ r ∈ A ++ B, b ∉ r.foot := by
    intro r hr hbr
    rw [List.pairwise_append] at hap
    rcases List.mem_append.1 hr with hr | hr
    · exact hap.2.2 r hr (.blk b t cs) (by simp) b hbr (by simp [Res.foot])
    · exact (List.pairwise_cons.1 hap.2.1).1 r hr b (by simp [Res.foot]) hbr
  refine ⟨⟨ho.trans h.pres.os, ht.trans h.pres.tape, hu.trans h.pres.output, by rw [hs]; exact h.pres.size, fun k hk hm => ?_⟩, ?_, ?_, ?_⟩
  · rw [hp k (by
      rintro rfl
      rcases hbo.1 with h1 | h1
      · omega
      · exact hm h1)]
    exact h.pres.block k hk hm
  · intro r hr
    rcases List.mem_append.1 hr with hr1 | hr1
    · exact r.keep (h.holds r (by simp [hr1])) (fun c hc => hp c (fun e => hfoot r (by simp [hr1]) (e ▸ hc)))
    · rcases List.mem_cons.1 hr1 with rfl | hr1
      · exact hb
      · exact r.keep (h.holds r (by simp [hr1])) (fun c hc => hp c (fun e => hfoot r (by simp [hr1]) (e ▸ hc)))
  · intro r hr c hc
    rw [hs]
    rcases List.mem_append.1 hr with hr1 | hr1
    · exact h.own r (by simp [hr1]) c hc
    · rcases List.mem_cons.1 hr1 with rfl | hr1
      · exact h.own _ hmem c hc
      · exact h.own r (by simp [hr1]) c hc
  · rw [List.pairwise_append] at hap ⊢
    rw [List.pairwise_cons] at hap ⊢
    refine ⟨hap.1, ⟨fun r hr c hc => hap.2.1.1 r hr c hc, hap.2.1.2⟩, fun r hr s hs => ?_⟩
    rcases List.mem_cons.1 hs with rfl | hs
    · exact hap.2.2 r hr (.blk b t cs) (by simp)
    · exact hap.2.2 r hr s (by simp [hs])
end

/-! ## Frames -/
abbrev Fr := Nat → Value
def upd (F : Fr) (d : Nat) (v : Value) : Fr := fun i => if i = d then v else F i
def updo (F : Fr) (d : Option Nat) (v : Value) : Fr := match d with | some d => upd F d v | none => F
/-- A frame given by its first values. -/
def mkF (vs : List Value) : Fr := fun i => vs.getD i undef
theorem upd_apply (F : Fr) (d : Nat) (v : Value) (i : Nat) : upd F d v i = if i = d then v else F i := rfl
theorem updo_some (F : Fr) (d : Nat) (v : Value) : updo F (some d) v = upd F d v := rfl
theorem updo_none (F : Fr) (v : Value) : updo F none v = F := rfl
theorem mkF_zero (v : Value) (vs : List Value) : mkF (v :: vs) 0 = v := rfl
theorem mkF_succ (v : Value) (vs : List Value) (n : Nat) : mkF (v :: vs) (n + 1) = mkF vs n := rfl
theorem mkF_nil (n : Nat) : mkF [] n = undef := rfl
def ev (F : Fr) : Operand → Value
  | .tmp t => F t
  | .const v => v
  | .global g => .pointer (some ⟨g, 0, none⟩)
  | .func f => .func (.func f) #[] #[]
structure FrOK (n : Nat) (a : Act) (F : Fr) : Prop where
  defers : a.defers = []
  size : a.tmps.size = n
  get : ∀ i, a.tmps.getD i undef = F i
theorem FrOK.eval {n : Nat} {a : Act} {F : Fr} (h : FrOK n a F) : a.eval = ev F := by
  funext x
  cases x with
  | tmp t => exact h.get t
  | const v => rfl
  | global g => rfl
  | func f => rfl
def dstOk (n : Nat) : Option Nat → Prop
  | none => True
  | some d => d < n
theorem FrOK.put {n : Nat} {a : Act} {F : Fr} (h : FrOK n a F) {d : Option Nat} (hd : dstOk n d) (v : Value) : FrOK n (a.put d v) (updo F d v) := by
  cases d with
  | none => exact h
  | some d =>
    refine ⟨h.defers, by simp [Act.put, h.size], fun i => ?_⟩
    have hd' : d < a.tmps.size := by rw [h.size]; exact hd
    simp only [Act.put, updo, upd]
    by_cases e : i = d
    · subst e
      simp [hd']
    · rw [if_neg e, ← h.get i]
      simp [Ne.symm e]
end Go.Proofs.Ytehfnjaompkikaa
