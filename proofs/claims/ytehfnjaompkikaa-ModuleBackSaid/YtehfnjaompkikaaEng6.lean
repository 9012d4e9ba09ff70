/- Calls and appends over the abstract state; rows that a callee hands back. -/
import Derived.Test.YtehfnjaompkikaaEng5
namespace Go.Proofs.Ytehfnjaompkikaa
open Go.RowKit Go.Shelf
set_option linter.unusedVariables false
set_option linter.unusedSimpArgs false

theorem wrap_in {x : Int} (h1 : -9223372036854775808 ≤ x) (h2 : x ≤ 9223372036854775807) : IntKind.i64.wrap x = x := IntWalk.i64_in _ ⟨h1, h2⟩
theorem if_neg_of {α : Sort _} {a b : Nat} {x y : α} (h : a ≠ b) : (if a = b then x else y) = y := if_neg h
theorem look_eq (k : Nat) (t : TypeId) (cs : List Value) (L : List Res) : look (.blk k t cs :: L) k = some cs := by simp [look]
theorem look_ne {b k : Nat} (h : b ≠ k) (t : TypeId) (cs : List Value) (L : List Res) : look (.blk b t cs :: L) k = look L k := by simp [look, h]
theorem look_row (v : Value) (t : TypeId) (s n : Nat) (xs : List Value) (L : List Res) (k : Nat) : look (.row v t s n xs :: L) k = look L k := rfl
theorem look_nil (k : Nat) : look [] k = none := rfl
theorem putL_eq (k : Nat) (t : TypeId) (cs us : List Value) (L : List Res) : putL (.blk k t cs :: L) k us = .blk k t us :: L := by simp [putL]
theorem putL_ne {b k : Nat} (h : b ≠ k) (t : TypeId) (cs us : List Value) (L : List Res) : putL (.blk b t cs :: L) k us = .blk b t cs :: putL L k us := by simp [putL, h]
theorem putL_row (v : Value) (t : TypeId) (s n : Nat) (xs us : List Value) (L : List Res) (k : Nat) : putL (.row v t s n xs :: L) k us = .row v t s n xs :: putL L k us := rfl

section
variable {P : Program} {M : List Nat} {W : World} {L : List Res} {K : Bool → Value → List Res → Prop} {g : FuncId} {args : Array Value}
/-- A call of which the result is known, and that leaves all old memory alone. -/
theorem callV_ret {v : Value} (h : ∀ w, St M W L w → Calls P g args w (fun e w' => e = .returned v ∧ Below w.heap.size w w')) (hk : K true v L) : CallV P M W g args L K := fun w hw =>
  (h w hw).mono (by rintro e w' ⟨rfl, hb⟩; exact ⟨v, L, rfl, hw.quiet hb, hk⟩)
theorem callV_ex {ι : Sort _} (f : ι → Value) (φ : ι → Prop) (h : ∀ w, St M W L w → Calls P g args w (fun e w' => (∃ i, e = .returned (f i) ∧ φ i) ∧ Below w.heap.size w w')) (hk : ∀ i, φ i → K true (f i) L) : CallV P M W g args L K := fun w hw =>
  (h w hw).mono (by rintro e w' ⟨⟨i, rfl, hi⟩, hb⟩; exact ⟨f i, L, rfl, hw.quiet hb, hk i hi⟩)
theorem ownsRow_base {w : World} {base base' : Nat} {t : TypeId} {size n : Nat} {v : Value} {xs : List Value} (h : w.ownsRow base t size v n xs) (hb : base' ≤ base) : w.ownsRow base' t size v n xs := by
  refine ⟨h.1, ?_⟩
  rcases h.2 with hn | ⟨g, cap, cur, h1, h2, h3⟩
  · exact .inl hn
  · exact .inr ⟨g, cap, cur, h1, by omega, h3⟩
theorem ownsRow_new {w : World} {B : Nat} {t : TypeId} {size n : Nat} {v : Value} {xs : List Value} (h : Res.holds w (.row v t size n xs)) (ho : ∀ b ∈ (Res.row v t size n xs).foot, (B ≤ b ∨ b ∈ ([] : List Nat)) ∧ b < w.heap.size) : w.ownsRow B t size v n xs := by
  refine ⟨h.1, ?_⟩
  rcases h.2 with hn | ⟨g, cap, cur, rfl, h2, h3⟩
  · exact .inl hn
  · have := (ho g (by simp [Res.foot, Value.ownBlock])).1
    exact .inr ⟨g, cap, cur, rfl, by simpa using this, h3⟩
theorem St.addRow {w w' : World} (hw : St M W L w) (hb : Below w.heap.size w w') {t : TypeId} {size n : Nat} {v : Value} {xs : List Value} (h : w'.ownsRow w.heap.size t size v n xs) : St M W (.row v t size n xs :: L) w' :=
  (hw.quiet hb).add _ (ownsRow_base h (Nat.zero_le _)) (fun b hbf => by
    have := h.lt b (by simpa [Res.foot] using hbf)
    have h2 := hw.pres.size
    exact ⟨.inl (by omega), this.2⟩) (fun s hs b hbf hbs => by
    have := h.lt b (by simpa [Res.foot] using hbf)
    have h2 := (hw.own s hs b hbs).2
    omega)
/-- No block of the list has this number. -/
def neB : List Res → Nat → Prop
  | [], _ => True
  | .blk b _ _ :: L, k => b ≠ k ∧ neB L k
  | _ :: L, k => neB L k
theorem neB_nil (k : Nat) : neB [] k = True := rfl
theorem neB_blk (b : Nat) (t : TypeId) (cs : List Value) (L : List Res) (k : Nat) : neB (.blk b t cs :: L) k = (b ≠ k ∧ neB L k) := rfl
theorem neB_row (v : Value) (t : TypeId) (s n : Nat) (xs : List Value) (L : List Res) (k : Nat) : neB (.row v t s n xs :: L) k = neB L k := rfl
theorem neB_of : ∀ {L : List Res} {k : Nat}, (∀ r ∈ L, k ∉ r.foot) → neB L k
  | [], _, _ => trivial
  | .blk b t cs :: L, k, h => ⟨fun e => h (.blk b t cs) (by simp) (by simp [Res.foot, e]), neB_of fun r hr => h r (by simp [hr])⟩
  | .row v t s n xs :: L, k, h => neB_of (L := L) fun r hr => h r (by simp [hr])
  | .dat f p l :: L, k, h => neB_of (L := L) fun r hr => h r (by simp [hr])
/-- Where a row lies: nowhere, or in a block of its own. -/
def rowAt (A : Option Addr) (n : Nat) (W : World) (M : List Nat) (L : List Res) : Prop := (A = none ∧ n = 0) ∨ ∃ g, A = some ⟨g, 0, none⟩ ∧ (W.heap.size ≤ g ∨ g ∈ M) ∧ neB L g
theorem St.row_at {w : World} {A : Option Addr} {n c : Nat} {t : TypeId} {size : Nat} {xs : List Value} (hw : St M W (.row (.slice A n c) t size n xs :: L) w) : rowAt A n W M L := by
  rcases (hw.holds _ (.head _)).2 with ⟨h, hn⟩ | ⟨g, cap, cur, h, _⟩
  · left
    injection h with h1
    exact ⟨h1, hn⟩
  · right
    injection h with h1
    subst h1
    refine ⟨g, rfl, (hw.own _ (.head _) g (by simp [Res.foot, Value.ownBlock])).1, neB_of fun r hr hg => ?_⟩
    exact (List.pairwise_cons.1 hw.apart).1 r hr g (by simp [Res.foot, Value.ownBlock]) hg
/-- A call that hands back a row of its own. -/
theorem callV_row (f : Option Addr → Nat → Nat → Value) {t : TypeId} {size : Nat} {xs : List Value}
    (h : ∀ w, St M W L w → Calls P g args w (fun e w' => ∃ A n c, e = .returned (f A n c) ∧ w'.ownsRow w.heap.size t size (.slice A n c) n xs ∧ Below w.heap.size w w'))
    (hk : ∀ A n c, xs.length = n * size → rowAt A n W M L → K true (f A n c) (.row (.slice A n c) t size n xs :: L)) : CallV P M W g args L K := fun w hw =>
  (h w hw).mono (by rintro e w' ⟨A, n, c, rfl, ho, hb⟩; exact ⟨_, _, rfl, hw.addRow hb ho, hk A n c ho.1 (hw.addRow hb ho).row_at⟩)

/-- What append asks of a slice type: the element, its cells, its bytes. -/
def tap (P : Program) (t : TypeId) : Option (TypeId × Nat × Nat) :=
  match P.underlying t with
  | some (.slice e) => match P.info? e with
    | some i => match i.zero with
      | some z => if z.cells.size = i.size ∧ 0 < i.size then some (e, i.size, i.bytes) else none
      | none => none
    | none => none
  | _ => none
theorem tap_run {t e : TypeId} {size bytes : Nat} (h : tap P t = some (e, size, bytes)) : P.underlying t = some (.slice e) ∧ ∃ i z, P.info? e = some i ∧ i.zero = some z ∧ i.size = size ∧ i.bytes = bytes ∧ z.cells.size = size ∧ 0 < size := by
  unfold tap at h
  split at h
  · rename_i e' he
    split at h
    · rename_i i hi
      split at h
      · rename_i z hz
        split at h
        · rename_i hc
          simp only [Option.some.injEq, Prod.mk.injEq] at h
          obtain ⟨rfl, rfl, rfl⟩ := h
          exact ⟨he, i, z, hi, hz, rfl, rfl, hc.1, hc.2⟩
        · cases h
      · cases h
    · cases h
  · cases h
theorem slice_of_row {w : World} {base : Nat} {t : TypeId} {size n : Nat} {v : Value} {xs : List Value} (h : w.ownsRow base t size v n xs) : ∃ A c, v = .slice A n c := by
  rcases h.2 with ⟨rfl, rfl⟩ | ⟨g, cap, cur, rfl, _⟩
  · exact ⟨none, 0, rfl⟩
  · exact ⟨_, _, rfl⟩
/-- append onto a row of the call's own (or onto nil), from anything that reads. -/
theorem appV_row {ty t e : TypeId} {size bytes : Nat} {L' : List Res} {v : Value} {n m c : Nat} {A : Option Addr} {xs news : List Value} (ht : tap P t = some (e, size, bytes))
    (hrow : ∀ w, St M W L w → St M W (.row v e size n xs :: L') w) (hsrc : ∀ w, St M W L w → Reads w w.heap.size size A m news) (h1 : ones news = true)
    (h63 : n + m ≤ 9223372036854775807) (hbytes : (n + m) * bytes ≤ 140737488355328)
    (hk : ∀ A' c', (xs ++ news).length = (n + m) * size → rowAt A' (n + m) W M L' → K true (.slice A' (n + m) c') (.row (.slice A' (n + m) c') e size (n + m) (xs ++ news) :: L')) : appV P M W ty t L v (.slice A m c) K := by
  intro w hw
  obtain ⟨hu, i, z, hi, hz, hs, hby, hzs, hsz⟩ := tap_run ht
  have hst : St M W (.row v e size n xs :: L') w := hrow w hw
  have hown : w.ownsRow 0 e size v n xs := hst.holds (.row v e size n xs) (by simp)
  obtain ⟨v', w', hrun, hown', hg, hblk⟩ := run_append_any (P := P) w 0 t ty e i z size bytes hu hi hz hs hby hzs hsz v n xs hown w.heap.size A m c news (hsrc w hw) (fun u hu => List.all_eq_true.1 h1 u hu) (by unfold maxLen; omega) hbytes (Nat.zero_le _)
  obtain ⟨A', c', rfl⟩ := slice_of_row hown'
  suffices hfin : St M W (.row (.slice A' (n + m) c') e size (n + m) (xs ++ news) :: L') w' from ⟨_, _, w', hrun, hfin, hk A' c' hown'.1 hfin.row_at⟩
  have hfo := hst.own (.row v e size n xs) (by simp)
  have hfa := (List.pairwise_cons.1 hst.apart).1
  have hkeep : ∀ r ∈ L', ∀ b ∈ r.foot, w'.heap[b]? = w.heap[b]? := fun r hr b hb => hg.block b (hst.own r (by simp [hr]) b hb).2 (by
    intro he
    exact hfa r hr b (by simp [Res.foot, ← he]) hb)
  have hpres : Pres M W w' := ⟨hg.os.trans hw.pres.os, hg.tape.trans hw.pres.tape, hg.output.trans hw.pres.output, Nat.le_trans hw.pres.size hg.size, fun k hk hm => by
    rw [hg.block k (Nat.lt_of_lt_of_le hk hw.pres.size) (by
      intro he
      rcases (hfo k (by simp [Res.foot, ← he])).1 with h | h
      · omega
      · exact hm h)]
    exact hw.pres.block k hk hm⟩
  have hL' : St M W L' w' := ⟨hpres, fun r hr => r.keep (hst.holds r (by simp [hr])) (hkeep r hr), fun r hr b hb => ⟨(hst.own r (by simp [hr]) b hb).1, Nat.lt_of_lt_of_le (hst.own r (by simp [hr]) b hb).2 hg.size⟩, (List.pairwise_cons.1 hst.apart).2⟩
  refine hL'.add _ hown' ?_ ?_
  · intro b hb
    have hb' : (Value.slice A' (n + m) c').ownBlock = some b := by simpa [Res.foot] using hb
    have hlt := (hown'.lt b hb').2
    refine ⟨?_, hlt⟩
    rcases hblk with h | h
    · exact (hfo b (by simp [Res.foot, ← h, hb'])).1
    · rw [hb'] at h
      injection h with h
      subst h
      exact .inl hw.pres.size
  · intro s hs b hb hbs
    have hb' : (Value.slice A' (n + m) c').ownBlock = some b := by simpa [Res.foot] using hb
    rcases hblk with h | h
    · exact hfa s hs b (by simp [Res.foot, ← h, hb']) hbs
    · rw [hb'] at h
      injection h with h
      subst h
      exact absurd (hst.own s (by simp [hs]) _ hbs).2 (Nat.lt_irrefl _)
theorem perm_erase : ∀ {L : List Res} {k : Nat} {r : Res}, nth L k = some r → L.Perm (r :: L.eraseIdx k)
  | x :: L, 0, r, h => by cases h; exact List.Perm.refl _
  | x :: L, k + 1, r, h => by
    have := perm_erase (L := L) (k := k) (r := r) h
    exact (List.Perm.cons x this).trans (List.Perm.swap r x _)
theorem appV_at (k : Nat) {ty t e : TypeId} {size bytes : Nat} {v : Value} {n m c : Nat} {A : Option Addr} {xs news : List Value} (ht : tap P t = some (e, size, bytes))
    (hrow : nth L k = some (.row v e size n xs)) (hsrc : ∀ w, St M W L w → Reads w w.heap.size size A m news) (h1 : ones news = true)
    (h63 : n + m ≤ 9223372036854775807) (hbytes : (n + m) * bytes ≤ 140737488355328)
    (hk : ∀ A' c', (xs ++ news).length = (n + m) * size → rowAt A' (n + m) W M (L.eraseIdx k) → K true (.slice A' (n + m) c') (.row (.slice A' (n + m) c') e size (n + m) (xs ++ news) :: L.eraseIdx k)) : appV P M W ty t L v (.slice A m c) K := by
  exact appV_row ht (fun w hw => hw.perm (perm_erase hrow).symm) hsrc h1 h63 hbytes hk
/-- A block of the call's own is a row. -/
theorem St.blk_row {w : World} {b : Nat} {t : TypeId} {size n : Nat} {cs : List Value} (h : St M W (.blk b t cs :: L) w) (hl : cs.length = n * size) (hn : n ≤ 9223372036854775807) : St M W (.row (.slice (some ⟨b, 0, none⟩) n n) t size n cs :: L) w := by
  have ho := h.own _ (.head _)
  refine h.tail.add _ ⟨hl, .inr ⟨b, n, cs.toArray, rfl, Nat.zero_le _, h.holds _ (.head _), Nat.le_refl _, by unfold maxLen; omega, by simpa using hl, by simp [← hl]⟩⟩ ?_ ?_
  · intro b' hb'
    exact ho b' (by simpa [Res.foot, Value.ownBlock] using hb')
  · intro s hs b' hb' hbs
    exact (List.pairwise_cons.1 h.apart).1 s hs b' (by simpa [Res.foot, Value.ownBlock] using hb') hbs
/-- append onto a composite literal of the call's own. -/
theorem appV_lit (k : Nat) {ty t e : TypeId} {size bytes b : Nat} {n m c : Nat} {A : Option Addr} {cs news : List Value} (ht : tap P t = some (e, size, bytes))
    (hrow : nth L k = some (.blk b e cs)) (hl : cs.length = n * size) (hsrc : ∀ w, St M W L w → Reads w w.heap.size size A m news) (h1 : ones news = true)
    (h63 : n + m ≤ 9223372036854775807) (hbytes : (n + m) * bytes ≤ 140737488355328)
    (hk : ∀ A' c', (cs ++ news).length = (n + m) * size → rowAt A' (n + m) W M (L.eraseIdx k) → K true (.slice A' (n + m) c') (.row (.slice A' (n + m) c') e size (n + m) (cs ++ news) :: L.eraseIdx k)) : appV P M W ty t L (.slice (some ⟨b, 0, none⟩) n n) (.slice A m c) K :=
  appV_row ht (fun w hw => (hw.perm (perm_erase hrow).symm).blk_row hl (by omega)) hsrc h1 h63 hbytes hk
/-- Reading a struct out of a row. -/
theorem ld_row {t T : TypeId} {g n c size i : Nat} {xs vs : List Value} (hm : Res.row (.slice (some ⟨g, 0, none⟩) n c) t size n xs ∈ L) (ht : tsz P T = some (true, vs.length)) (hv : (xs.drop i).take vs.length = vs) :
    LD P M W L T ⟨g, i, none⟩ (.agg vs.toArray) := fun w hw => by
  have hv : ∀ (j : Nat) v, vs[j]? = some v → xs[i + j]? = some v := fun j v h => by
    rw [← hv, List.getElem?_take] at h
    split at h
    · simpa using h
    · cases h
  refine loadAt_agg ht vs rfl fun j v hj => ?_
  have := (hw.holds _ hm : w.ownsRow 0 t size (.slice (some ⟨g, 0, none⟩) n c) n xs).cells (g := g) rfl (i + j) v (hv j v hj)
  rw [Addr.add_lit] at this ⊢
  simpa using this
theorem ld_row1 {t T : TypeId} {g n c size i m : Nat} {xs : List Value} {v : Value} (hm : Res.row (.slice (some ⟨g, 0, none⟩) n c) t size n xs ∈ L) (ht : tsz P T = some (false, m)) (hv : xs[i]? = some v) : LD P M W L T ⟨g, i, none⟩ v := fun w hw => by
  refine loadAt_one ht ?_
  have := (hw.holds _ hm : w.ownsRow 0 t size (.slice (some ⟨g, 0, none⟩) n c) n xs).cells (g := g) rfl i v hv
  rw [Addr.add_lit] at this
  simpa using this
/-- Where an append's new elements come from: a block of the call's own. -/
theorem src_blk {b : Nat} {t : TypeId} {cs : List Value} {size m : Nat} (hm : Res.blk b t cs ∈ L) (hl : cs.length = m * size) {w : World} (hw : St M W L w) : Reads w w.heap.size size (some ⟨b, 0, none⟩) m cs :=
  ⟨hl, fun _ => ⟨_, rfl, (hw.own _ hm b (by simp [Res.foot])).2, fun j u hu => by rw [Addr.add_lit, Nat.zero_add, hw.blk_cell hm]; exact hu⟩⟩
theorem src_row {A : Option Addr} {n c : Nat} {t : TypeId} {size : Nat} {xs : List Value} (hm : Res.row (.slice A n c) t size n xs ∈ L) {w : World} (hw : St M W L w) : Reads w w.heap.size size A n xs :=
  Reads.of_own (hw.holds _ hm)
end
/-! ## Other lists of resources -/
def pickL : List Nat → List Res → List Res
  | [], _ => []
  | i :: ix, L => match nth L i with
    | some r => r :: pickL ix L
    | none => pickL ix L
theorem pickL_mem {L : List Res} : ∀ {ix : List Nat} {r : Res}, r ∈ pickL ix L → ∃ i ∈ ix, nth L i = some r
  | i :: ix, r, h => by
    simp only [pickL] at h
    split at h
    · rename_i s hs
      rcases List.mem_cons.1 h with rfl | h
      · exact ⟨i, by simp, hs⟩
      · obtain ⟨j, hj, h1⟩ := pickL_mem h
        exact ⟨j, by simp [hj], h1⟩
    · obtain ⟨j, hj, h1⟩ := pickL_mem h
      exact ⟨j, by simp [hj], h1⟩
theorem St.pick {M : List Nat} {W w : World} {L : List Res} (h : St M W L w) {ix : List Nat} (hnd : ix.Nodup) : St M W (pickL ix L) w := by
  have hmem : ∀ r ∈ pickL ix L, r ∈ L := fun r hr => by
    obtain ⟨i, _, hi⟩ := pickL_mem hr
    rw [nth_eq] at hi
    exact List.mem_of_getElem? hi
  refine ⟨h.pres, fun r hr => h.holds r (hmem r hr), fun r hr => h.own r (hmem r hr), ?_⟩
  have key : ∀ (ix : List Nat), ix.Nodup → (pickL ix L).Pairwise (fun r s => ∀ b ∈ r.foot, b ∉ s.foot) := by
    intro ix
    induction ix with
    | nil => intro _; exact List.Pairwise.nil
    | cons i ix ih =>
      intro hn
      rw [List.nodup_cons] at hn
      simp only [pickL]
      split
      · rename_i r hr
        refine List.pairwise_cons.2 ⟨fun s hs b hb hbs => ?_, ih hn.2⟩
        obtain ⟨j, hj, hjs⟩ := pickL_mem hs
        have hne : i ≠ j := fun e => hn.1 (e ▸ hj)
        rw [nth_eq] at hr hjs
        obtain ⟨hi1, hi2⟩ := List.getElem?_eq_some_iff.1 hr
        obtain ⟨hj1, hj2⟩ := List.getElem?_eq_some_iff.1 hjs
        have hp := List.pairwise_iff_getElem.1 h.apart
        rcases Nat.lt_or_gt_of_ne hne with hlt | hlt
        · exact hp i j hi1 hj1 hlt b (hi2 ▸ hb) (hj2 ▸ hbs)
        · exact hp j i hj1 hi1 hlt b (hj2 ▸ hbs) (hi2 ▸ hb)
      · exact ih hn.2
  exact key ix hnd
section
variable {P : Program} {M : List Nat} {W : World} {n : Nat} {c : Code} {F : Fr} {L : List Res} {Q : Exit → Fr → List Res → Prop}
theorem cv_pick (ix : List Nat) (hnd : ix.Nodup) (h : CV P M W n c F (pickL ix L) Q) : CV P M W n c F L Q := fun a w ha hw => h a w ha (hw.pick hnd)
theorem cv_pick_post (ix : List Nat) (hnd : ix.Nodup) (h : CV P M W n c F L (fun e F' L' => Q e F' (pickL ix L'))) : CV P M W n c F L Q := fun a w ha hw =>
  wp_mono (h a w ha hw) (by
    intro e a' w' hh
    cases e <;> first
      | exact hh
      | (obtain ⟨F', L', h1, h2, h3⟩ := hh; exact ⟨F', _, h1, h2.pick hnd, h3⟩))
theorem cv_q {c : Code} (h : CV P M W n c F L (thenQ (fun F' L' => Q .normal F' L') Q)) : CV P M W n c F L Q := h.mono fun e F' L' hh => by cases e <;> exact hh
theorem cv_region_q {id : Nat} {l : List Oper} (hd : l.all (fun o => dstV n o.dst) = true) (h : vcn P M W n l true l F L (fun F' L' => Q .normal F' L')) : CV P M W n (.region id l.toArray false) F L Q := cv_region hd h fun _ _ h => h
/-- A nil slice is a row of the call's own. -/
theorem cv_nil (t : TypeId) (size : Nat) (h : CV P M W n c F (.row (.slice none 0 0) t size 0 [] :: L) Q) : CV P M W n c F L Q := fun a w ha hw =>
  h a w ha (hw.add _ (World.ownsRow_nil w 0 t size) (by simp [Res.foot, Value.ownBlock]) (by simp [Res.foot, Value.ownBlock]))
end
end Go.Proofs.Ytehfnjaompkikaa
