/- Results kept in cells, calls that write into a block of the caller's, slices that only are read, strings. -/
import Derived.Test.YtaifnipgefkemaaCore
import Derived.Lib.SlBytesConst
import Derived.ArgAppend
import Derived.Laws.CopyRow
import Derived.Laws.MakeOwn
import Derived.Deep.OwnRows
import Derived.RangeFuncNested
import Derived.RangeFuncCalls
import Derived.RangeFuncLeaves
import Derived.MapKept
namespace Go.Proofs.Ytaifnipgefkemaa
open Go.RowKit Go.Shelf
set_option linter.unusedVariables false
set_option linter.unusedSimpArgs false

/-! ## Results -/
def packV : List Value → Value
  | [v] => v
  | vs => .tuple vs.toArray
def ressV (P : Program) (M : List Nat) (W : World) (L : List Res) (F : Fr) : List ResultVar → (Bool → List Value → Prop) → Prop
  | [], K => K true []
  | .tmp t :: r, K => ressV P M W L F r fun tok vs => K tok (F t :: vs)
  | .cell a t :: r, K => (match F a with
    | .pointer (some ad) => ldV P M W t ad L fun tok' v => ressV P M W L F r fun tok vs => K tok (v :: vs)
    | _ => False)
def resOne (tmps : Array Value) : ResultVar → Sem Value
  | .tmp t => pure (tmps.getD t undef)
  | .cell c t => do loadVar t (← asAddr (tmps.getD c undef))
theorem ressV_sound {P : Program} {M : List Nat} {W : World} {L : List Res} {F : Fr} {n : Nat} {a : Act} (ha : FrOK n a F) : ∀ {rs : List ResultVar} {K : Bool → List Value → Prop}, ressV P M W L F rs K →
    ∃ vs, K true vs ∧ ∀ w, St M W L w → (rs.mapM (resOne a.tmps)).run P w = Result.ok vs w
  | [], K, h => ⟨[], h, fun w hw => by simp⟩
  | .tmp t :: r, K, h => by
    obtain ⟨vs, hk, hr⟩ := ressV_sound ha (rs := r) h
    refine ⟨_, hk, fun w hw => ?_⟩
    have hg := ha.get t
    simp only [List.mapM_cons, resOne, Sem.run_bind, Sem.run_pure, Result.andThen_ok, hr w hw, hg]
  | .cell c t :: r, K, h => by
    simp only [ressV] at h
    split at h
    · rename_i ad had
      obtain ⟨v, hl, h2⟩ := ldV_sound h
      obtain ⟨vs, hk, hr⟩ := ressV_sound ha (rs := r) h2
      refine ⟨_, hk, fun w hw => ?_⟩
      have hg := ha.get c
      have hl' := hl w hw
      simp only [Instr.loadAt, Instr.sureAddr, Sem.run_bind, Sem.run_pure, Result.andThen_ok] at hl'
      simp only [List.mapM_cons, resOne, Sem.run_bind, hg, had, asAddr, Sem.run_pure, Result.andThen_ok, hl', hr w hw]
    · exact h.elim
def retQ2 (P : Program) (M : List Nat) (W : World) (rs : List ResultVar) (R : Ending → World → Prop) : Exit → Fr → List Res → Prop
  | .normal, F, L => ressV P M W L F rs fun tok vs => tok = true → ∀ w, St M W L w → R (.returned (packV vs)) w
  | .ret, F, L => ressV P M W L F rs fun tok vs => tok = true → ∀ w, St M W L w → R (.returned (packV vs)) w
  | _, _, _ => False
theorem results_pack {P : Program} {fn : Func} {tmps : Array Value} {w : World} {vs : List Value}
    (h : (fn.results.toList.mapM (resOne tmps)).run P w = Result.ok vs w) : (results fn tmps).run P w = .ok (packV vs) w := by
  have hr : fn.results = fn.results.toList.toArray := by simp
  have he : results fn tmps = (do
      let vs ← fn.results.mapM (resOne tmps)
      pure (if h : vs.size = 1 then vs[0] else .tuple vs)) := by
    unfold results
    congr 1
  rw [he, hr, List.mapM_toArray]
  simp only [Sem.run_bind, map_eq_pure_bind, h, Result.andThen_ok, Sem.run_pure]
  congr 1
  match vs with
  | [] => simp [packV]
  | [v] => simp [packV]
  | a :: b :: r => simp [packV]
theorem calls_cv2 {P : Program} {M : List Nat} {W : World} {n : Nat} {f : FuncId} {fn : Func} {c : Code} {args : List Value} {R : Ending → World → Prop} {L : List Res} (rs : List ResultVar) (hrs : fn.results = rs.toArray) (hf : P.funcs[f]? = some fn) (hb : fn.body = some c) (hn : fn.ntmps = n) (hl : args.length ≤ n) (hw : St M W L W)
    (h : CV P M W n c (mkF args) L (retQ2 P M W rs R)) : Calls P f args.toArray W R := by
  obtain rfl : fn.results.toList = rs := by rw [hrs]
  refine calls_of_wp hf hb (wp_mono (h _ W ⟨rfl, by simp [hn]; omega, fun i => ?_⟩ hw) ?_)
  · simp only [mkF]
    rcases Nat.lt_or_ge i args.length with h1 | h1
    · have h2 : i < (args.toArray ++ Array.replicate (fn.ntmps - args.toArray.size) undef).size := by simp; omega
      simp [Array.getElem?_append, h1]
    · have h2 : args[i]? = none := List.getElem?_eq_none h1
      simp [Array.getElem?_append, Nat.not_lt.2 h1, Array.getElem?_replicate, h2]
      split <;> rfl
  · intro e a w hh
    cases e <;> first
      | exact hh.elim
      | (obtain ⟨F', L', h1, h2, h3⟩ := hh
         first
           | exact h3.elim
           | (obtain ⟨vs, hk, hr⟩ := ressV_sound h1 h3
              exact ⟨h1.defers, _, results_pack (hr w h2), hk rfl w h2⟩))

/-! ## Memory of the caller's -/
section
variable {P : Program} {M : List Nat} {W w w' : World} {L : List Res} {K : Bool → Value → List Res → Prop} {g : FuncId} {args : Array Value}
theorem Pres.trans {w'' : World} (h : Pres M W w') (h2 : Pres M w' w'') : Pres M W w'' :=
  ⟨h2.os.trans h.os, h2.tape.trans h.tape, h2.output.trans h.output, Nat.le_trans h.size h2.size, fun k hk hm => (h2.block k (Nat.lt_of_lt_of_le hk h.size) hm).trans (h.block k hk hm)⟩
theorem St.one {b : Nat} {t : TypeId} {cs : List Value} (h : W.heap[b]? = some (.cells cs.toArray t (0, 0))) : St [b] W [.blk b t cs] W := by
  have hb : b < W.heap.size := (Array.getElem?_eq_some_iff.1 h).1
  refine ⟨Pres.refl _ _, ?_, ?_, List.pairwise_singleton _ _⟩
  · intro r hr
    obtain rfl : r = .blk b t cs := by simpa using hr
    exact h
  · intro r hr c hc
    obtain rfl : r = .blk b t cs := by simpa using hr
    obtain rfl : c = b := by simpa [Res.foot] using hc
    exact ⟨.inr (by simp), hb⟩
theorem St.two {b d : Nat} {t u : TypeId} {cs ds : List Value} (h : W.heap[b]? = some (.cells cs.toArray t (0, 0))) (h2 : W.heap[d]? = some (.cells ds.toArray u (0, 0))) (hne : b ≠ d) : St [b, d] W [.blk b t cs, .blk d u ds] W := by
  have hb : b < W.heap.size := (Array.getElem?_eq_some_iff.1 h).1
  have hd : d < W.heap.size := (Array.getElem?_eq_some_iff.1 h2).1
  refine ⟨Pres.refl _ _, ?_, ?_, ?_⟩
  · intro r hr
    simp only [List.mem_cons, List.not_mem_nil, or_false] at hr
    rcases hr with rfl | rfl
    · exact h
    · exact h2
  · intro r hr c hc
    simp only [List.mem_cons, List.not_mem_nil, or_false] at hr
    rcases hr with rfl | rfl
    · obtain rfl : c = b := by simpa [Res.foot] using hc
      exact ⟨.inr (by simp), hb⟩
    · obtain rfl : c = d := by simpa [Res.foot] using hc
      exact ⟨.inr (by simp), hd⟩
  · simp [Res.foot, hne]
theorem St.mod {k b : Nat} {t : TypeId} {cs us : List Value} (h : St M W L w) (hk : nth L k = some (.blk b t cs)) (hp : Pres [b] w w') (hb : w'.heap[b]? = some (.cells us.toArray t (0, 0))) : St M W (L.set k (.blk b t us)) w' := by
  rw [nth_eq] at hk
  obtain ⟨hlt, hget⟩ := List.getElem?_eq_some_iff.1 hk
  have hL : L = L.take k ++ .blk b t cs :: L.drop (k + 1) := by
    conv => lhs; rw [← List.take_append_drop k L, List.drop_eq_getElem_cons hlt, hget]
  rw [List.set_eq_take_append_cons_drop, if_pos hlt]
  generalize L.take k = A at *
  generalize L.drop (k + 1) = B at *
  subst hL
  clear hk hlt hget
  have hmem : Res.blk b t cs ∈ A ++ .blk b t cs :: B := by simp
  have hbo := h.own _ hmem b (by simp [Res.foot])
  have hap := h.apart
  have hfoot : ∀ r ∈ A ++ B, b ∉ r.foot := by
    intro r hr hbr
    rw [List.pairwise_append] at hap
    rcases List.mem_append.1 hr with hr | hr
    · exact hap.2.2 r hr (.blk b t cs) (by simp) b hbr (by simp [Res.foot])
    · exact (List.pairwise_cons.1 hap.2.1).1 r hr b (by simp [Res.foot]) hbr
  have hkeep : ∀ r ∈ A ++ B, r ∈ A ++ .blk b t cs :: B → ∀ c ∈ r.foot, w'.heap[c]? = w.heap[c]? := fun r hr hr2 c hc =>
    hp.block c (h.own r hr2 c hc).2 (by simp only [List.mem_singleton]; rintro rfl; exact hfoot r hr hc)
  refine ⟨⟨hp.os.trans h.pres.os, hp.tape.trans h.pres.tape, hp.output.trans h.pres.output, Nat.le_trans h.pres.size hp.size, fun j hj hm => ?_⟩, ?_, ?_, ?_⟩
  · rw [hp.block j (Nat.lt_of_lt_of_le hj h.pres.size) (by
      simp only [List.mem_singleton]
      rintro rfl
      rcases hbo.1 with h1 | h1
      · omega
      · exact hm h1)]
    exact h.pres.block j hj hm
  · intro r hr
    rcases List.mem_append.1 hr with hr1 | hr1
    · exact r.keep (h.holds r (by simp [hr1])) (hkeep r (by simp [hr1]) (by simp [hr1]))
    · rcases List.mem_cons.1 hr1 with rfl | hr1
      · exact hb
      · exact r.keep (h.holds r (by simp [hr1])) (hkeep r (by simp [hr1]) (by simp [hr1]))
  · intro r hr c hc
    rcases List.mem_append.1 hr with hr1 | hr1
    · exact ⟨(h.own r (by simp [hr1]) c hc).1, Nat.lt_of_lt_of_le (h.own r (by simp [hr1]) c hc).2 hp.size⟩
    · rcases List.mem_cons.1 hr1 with rfl | hr1
      · exact ⟨(h.own _ hmem c hc).1, Nat.lt_of_lt_of_le (h.own _ hmem c hc).2 hp.size⟩
      · exact ⟨(h.own r (by simp [hr1]) c hc).1, Nat.lt_of_lt_of_le (h.own r (by simp [hr1]) c hc).2 hp.size⟩
  · rw [List.pairwise_append] at hap ⊢
    rw [List.pairwise_cons] at hap ⊢
    refine ⟨hap.1, ⟨fun r hr c hc => hap.2.1.1 r hr c hc, hap.2.1.2⟩, fun r hr s hs => ?_⟩
    rcases List.mem_cons.1 hs with rfl | hs
    · exact hap.2.2 r hr (.blk b t cs) (by simp)
    · exact hap.2.2 r hr s (by simp [hs])
/-- Another resource in the place of one, in the same blocks. -/
theorem St.replace {k : Nat} {r r' : Res} (h : St M W L w) (hk : nth L k = some r) (hf : r'.foot = r.foot) (hh : r'.holds w')
    (hp : ∀ c, c ∉ r.foot → w'.heap[c]? = w.heap[c]?) (hs : w'.heap.size = w.heap.size) (ho : w'.os = w.os) (ht : w'.tape = w.tape) (hu : w'.output = w.output) : St M W (L.set k r') w' := by
  rw [nth_eq] at hk
  obtain ⟨hlt, hget⟩ := List.getElem?_eq_some_iff.1 hk
  have hL : L = L.take k ++ r :: L.drop (k + 1) := by
    conv => lhs; rw [← List.take_append_drop k L, List.drop_eq_getElem_cons hlt, hget]
  rw [List.set_eq_take_append_cons_drop, if_pos hlt]
  generalize L.take k = A at *
  generalize L.drop (k + 1) = B at *
  subst hL
  clear hk hlt hget
  have hmem : r ∈ A ++ r :: B := by simp
  have hap := h.apart
  have hfoot : ∀ s ∈ A ++ B, ∀ c ∈ s.foot, c ∉ r.foot := by
    intro s hs c hc hcr
    rw [List.pairwise_append] at hap
    rcases List.mem_append.1 hs with hs | hs
    · exact hap.2.2 s hs r (by simp) c hc hcr
    · exact (List.pairwise_cons.1 hap.2.1).1 s hs c hcr hc
  refine ⟨⟨ho.trans h.pres.os, ht.trans h.pres.tape, hu.trans h.pres.output, by rw [hs]; exact h.pres.size, fun j hj hm => ?_⟩, ?_, ?_, ?_⟩
  · rw [hp j (fun hjr => by
      rcases (h.own r hmem j hjr).1 with h1 | h1
      · omega
      · exact hm h1)]
    exact h.pres.block j hj hm
  · intro s hs1
    rcases List.mem_append.1 hs1 with hs1 | hs1
    · exact s.keep (h.holds s (by simp [hs1])) fun c hc => hp c (hfoot s (by simp [hs1]) c hc)
    · rcases List.mem_cons.1 hs1 with rfl | hs1
      · exact hh
      · exact s.keep (h.holds s (by simp [hs1])) fun c hc => hp c (hfoot s (by simp [hs1]) c hc)
  · intro s hs1 c hc
    rw [hs]
    rcases List.mem_append.1 hs1 with hs1 | hs1
    · exact h.own s (by simp [hs1]) c hc
    · rcases List.mem_cons.1 hs1 with rfl | hs1
      · exact h.own r hmem c (hf ▸ hc)
      · exact h.own s (by simp [hs1]) c hc
  · rw [List.pairwise_append] at hap ⊢
    rw [List.pairwise_cons] at hap ⊢
    refine ⟨hap.1, ⟨fun s hs c hc => hap.2.1.1 s hs c (hf ▸ hc), hap.2.1.2⟩, fun s hs t ht => ?_⟩
    rcases List.mem_cons.1 ht with rfl | ht
    · intro c hc
      rw [hf]
      exact hap.2.2 s hs r (by simp) c hc
    · exact hap.2.2 s hs t (by simp [ht])
/-- A store into a row of the call's own. -/
theorem sv_row (k : Nat) {t T : TypeId} {g n c size i : Nat} {xs : List Value} {v : Value} (hk : nth L k = some (.row (.slice (some ⟨g, 0, none⟩) n c) T size n xs)) (hi : i < xs.length) (ht : tsz P t = some (false, 1)) (hv : v.cells.toList = [v]) (h1 : v.oneCell' = true) :
    SV P M W t ⟨g, i, none⟩ v L (L.set k (.row (.slice (some ⟨g, 0, none⟩) n c) T size n (xs.set i v))) := fun w hw => by
  have hk' := hk
  rw [nth_eq] at hk'
  have hm := List.mem_of_getElem? hk'
  have hh : w.ownsRow 0 T size (.slice (some ⟨g, 0, none⟩) n c) n xs := hw.holds _ hm
  obtain ⟨hlen, hh2⟩ := hh
  rcases hh2 with ⟨hn, _⟩ | ⟨g', cap, cur, he, hg0, hheap, hnc, hcm, hsz, htk⟩
  · cases hn
  cases he
  have hcur : i < cur.size := by
    have : xs.length ≤ cur.toList.length := by rw [← htk, List.length_take]; omega
    simp at this
    omega
  have hs := run_storeCells_at P g i T [v] 0 cur w hheap (by simp; omega) (by intro u hu; simp at hu; subst hu; exact h1)
  have hsz2 := (tsz_run ht w).2
  refine ⟨w.setRow g (cur.toList.take (i + 0) ++ [v] ++ cur.toList.drop (i + 0 + [v].length)).toArray, ?_, ?_⟩
  · have h1' : v.cells.size = 1 := by
      have := congrArg List.length hv
      simpa using this
    simp only [Instr.storeAt, Instr.sureAddr, Sem.run_bind, Sem.run_pure, Result.andThen_ok, storeVar, hsz2, h1', ne_eq, not_true_eq_false, if_false, hv]
    exact hs
  · have hnew : (cur.toList.take (i + 0) ++ [v] ++ cur.toList.drop (i + 0 + [v].length)) = cur.toList.set i v := by
      rw [List.set_eq_take_append_cons_drop, if_pos (by simpa using hcur)]
      simp
    refine hw.replace hk rfl ?_ (fun c hc => setRow_other w g c _ (by simpa [Res.foot, Value.ownBlock] using hc)) (by simp [World.setRow]) rfl rfl rfl
    refine ⟨by simp [hlen], .inr ⟨g, _, (cur.toList.set i v).toArray, rfl, hg0, ?_, hnc, hcm, by simpa using hsz, ?_⟩⟩
    · rw [hnew]
      exact setRow_heap w g cur _ T (0, 0) hheap
    · have e : (cur.toList.set i v).take (n * size) = (cur.toList.take (n * size)).set i v := by rw [List.take_set]
      simp only [List.toList_toArray]
      rw [e, htk]
/-- A new row beside the list, after a call that wrote into block b. -/
theorem St.modRow {k b : Nat} {t : TypeId} {cs us : List Value} (h : St M W L w) (hk : nth L k = some (.blk b t cs)) (hp : Pres [b] w w') (hb : w'.heap[b]? = some (.cells us.toArray t (0, 0)))
    {T : TypeId} {size n : Nat} {v : Value} {xs : List Value} (ho : w'.ownsRow w.heap.size T size v n xs) : St M W (.row v T size n xs :: L.set k (.blk b t us)) w' := by
  have h2 := h.mod hk hp hb
  refine h2.add _ (ownsRow_base ho (Nat.zero_le _)) (fun c hc => ?_) (fun s hs c hc hcs => ?_)
  · have := ho.lt c (by simpa [Res.foot] using hc)
    have h3 := h.pres.size
    exact ⟨.inl (by omega), this.2⟩
  · have h1 := ho.lt c (by simpa [Res.foot] using hc)
    have h4 : c < w.heap.size := by
      rcases List.mem_or_eq_of_mem_set hs with h5 | rfl
      · exact (h.own s h5 c hcs).2
      · rw [nth_eq] at hk
        exact (h.own _ (List.mem_of_getElem? hk) c hcs).2
    omega
/-- A call that writes into block b and hands back a value. -/
theorem callV_mod {ι : Sort _} (k : Nat) (f : ι → Value) (us : ι → List Value) (φ : ι → Prop) {b : Nat} {t : TypeId} {cs : List Value} (hk : nth L k = some (.blk b t cs))
    (h : ∀ w, St M W L w → Calls P g args w (fun e w' => ∃ i, e = .returned (f i) ∧ φ i ∧ w'.heap[b]? = some (.cells (us i).toArray t (0, 0)) ∧ Pres [b] w w'))
    (hK : ∀ i, φ i → K true (f i) (L.set k (.blk b t (us i)))) : CallV P M W g args L K := fun w hw =>
  (h w hw).mono (by rintro e w' ⟨i, rfl, hi, hb, hp⟩; exact ⟨_, _, rfl, hw.mod hk hp hb, hK i hi⟩)
def modP (b : Nat) (t : TypeId) (v : Value) (us : List Value) (w : World) (e : Ending) (w' : World) : Prop :=
  e = .returned v ∧ w'.heap[b]? = some (.cells us.toArray t (0, 0)) ∧ Pres [b] w w'
theorem callV_mod1 (k : Nat) {v : Value} {us : List Value} {b : Nat} {t : TypeId} {cs : List Value} (h : ∀ w, St M W L w → Calls P g args w (modP b t v us w)) (hk : nth L k = some (.blk b t cs))
    (hK : K true v (L.set k (.blk b t us))) : CallV P M W g args L K := fun w hw =>
  (h w hw).mono (by rintro e w' ⟨rfl, hb, hp⟩; exact ⟨_, _, rfl, hw.mod hk hp hb, hK⟩)
def modRowP (b : Nat) (t : TypeId) (us : List Value) (T : TypeId) (size : Nat) (f : Value → Value) (xs : List Value) (w : World) (e : Ending) (w' : World) : Prop :=
  ∃ A n c, e = .returned (f (.slice A n c)) ∧ w'.ownsRow w.heap.size T size (.slice A n c) n xs ∧ w'.heap[b]? = some (.cells us.toArray t (0, 0)) ∧ Pres [b] w w'
theorem callV_modRow (k : Nat) {us : List Value} {b : Nat} {t : TypeId} {cs : List Value} {T : TypeId} {size : Nat} {f : Value → Value} {xs : List Value} (h : ∀ w, St M W L w → Calls P g args w (modRowP b t us T size f xs w)) (hk : nth L k = some (.blk b t cs))
    (hK : ∀ A n c, xs.length = n * size → rowAt A n W M (L.set k (.blk b t us)) → K true (f (.slice A n c)) (.row (.slice A n c) T size n xs :: L.set k (.blk b t us))) : CallV P M W g args L K := fun w hw =>
  (h w hw).mono (by
    rintro e w' ⟨A, n, c, rfl, ho, hb, hp⟩
    exact ⟨_, _, rfl, hw.modRow hk hp hb ho, hK A n c ho.1 (hw.modRow hk hp hb ho).row_at⟩)
/-- The call's own fresh memory handed over: a row, and a block that held the pointer's target. -/
theorem callV_blk {t : TypeId} {us : List Value} (f : Nat → Value) (h : ∀ w, St M W L w → Calls P g args w (fun e w' => ∃ b, e = .returned (f b) ∧ w.heap.size ≤ b ∧ w'.heap[b]? = some (.cells us.toArray t (0, 0)) ∧ Below w.heap.size w w'))
    (hK : ∀ b, W.heap.size ≤ b → fresh L b → K true (f b) (.blk b t us :: L)) : CallV P M W g args L K := fun w hw =>
  (h w hw).mono (by
    rintro e w' ⟨b, rfl, hlt, hb, hB⟩
    refine ⟨_, _, rfl, (hw.quiet hB).add (.blk b t us) hb (fun c hc => ?_) (fun s hs c hc hcs => ?_), hK b (Nat.le_trans hw.pres.size hlt) ?_⟩
    · obtain rfl : c = b := by simpa [Res.foot] using hc
      exact ⟨.inl (Nat.le_trans hw.pres.size hlt), (Array.getElem?_eq_some_iff.1 hb).1⟩
    · obtain rfl : c = b := by simpa [Res.foot] using hc
      have := (hw.own s hs _ hcs).2
      omega
    · have key : ∀ (L : List Res), (∀ r ∈ L, ∀ c ∈ r.foot, c < w.heap.size) → fresh L b := by
        intro L
        induction L with
        | nil => intro _; trivial
        | cons r L ih =>
          intro hL
          have ih' := ih fun s hs => hL s (List.mem_cons_of_mem _ hs)
          cases r with
          | blk b' t cs => exact ⟨Nat.lt_of_lt_of_le (hL (.blk b' t cs) (by simp) b' (by simp [Res.foot])) hlt, ih'⟩
          | row v t s n xs => exact ih'
          | dat f p l => exact ih'
      exact key L fun r hr c hc => (hw.own r hr c hc).2)
end

/-! ## Strings -/
theorem bstr_eq (l : List Nat) : bstr l = ⟨(l.map fun x => UInt8.ofNat x).toArray⟩ := by
  have key : ∀ (l : List Nat) (s : ByteArray), (l.map fun x : Nat => (x : Int)).foldl (fun r n => r.push (UInt8.ofNat n.toNat)) s = ⟨s.data ++ (l.map fun x => UInt8.ofNat x).toArray⟩ := by
    intro l
    induction l with
    | nil => intro s; simp
    | cons x l ih =>
      intro s
      simp only [List.map_cons, List.foldl_cons, Int.toNat_natCast]
      rw [ih]
      simp [ByteArray.push]
  unfold bstr
  rw [key]
  show (⟨#[] ++ _⟩ : ByteArray) = _
  simp
theorem bstr_inj {l m : List Nat} (hl : ∀ x ∈ l, x < 256) (hm : ∀ x ∈ m, x < 256) (h : bstr l = bstr m) : l = m := by
  rw [bstr_eq, bstr_eq] at h
  injection h with h
  have h2 : l.map (fun x => UInt8.ofNat x) = m.map (fun x => UInt8.ofNat x) := by simpa using h
  clear h
  induction l generalizing m with
  | nil => cases m with
    | nil => rfl
    | cons y m => simp at h2
  | cons x l ih => cases m with
    | nil => simp at h2
    | cons y m =>
      simp only [List.map_cons, List.cons.injEq] at h2
      have hx := hl x (by simp)
      have hy := hm y (by simp)
      have h3 : x = y := by
        have := congrArg UInt8.toNat h2.1
        simpa [Nat.mod_eq_of_lt hx, Nat.mod_eq_of_lt hy] using this
      rw [h3, ih (fun z hz => hl z (by simp [hz])) (fun z hz => hm z (by simp [hz])) h2.2]
theorem bstr_beq {l m : List Nat} (hl : ∀ x ∈ l, x < 256) (hm : ∀ x ∈ m, x < 256) : ((bstr l).toList == (bstr m).toList) = decide (l = m) := by
  by_cases h : l = m
  · subst h
    rw [decide_eq_true rfl, beq_self_eq_true]
  · rw [decide_eq_false h, beq_eq_false_iff_ne]
    intro e
    rw [ByteArray.toList_eq, ByteArray.toList_eq] at e
    refine h (bstr_inj hl hm ?_)
    generalize bstr l = a at e
    generalize bstr m = b at e
    obtain ⟨⟨x⟩⟩ := a
    obtain ⟨⟨y⟩⟩ := b
    exact congrArg (fun l : List UInt8 => ByteArray.mk ⟨l⟩) e
end Go.Proofs.Ytaifnipgefkemaa
/- Slices that only are read: any element type. -/
namespace Go.Proofs.Ytaifnipgefkemaa
open Go.RowKit Go.Shelf
set_option linter.unusedVariables false
set_option linter.unusedSimpArgs false
/-- The slice value .slice A n c reads as the cells xs (size cells an element); its block lies below B. -/
structure Sl (w : World) (B : Nat) (size : Nat) (A : Option Addr) (n c : Nat) (xs : List Value) : Prop where
  len : xs.length = n * size
  cap : n ≤ c
  max : c ≤ 9223372036854775807
  cells : 0 < n → ∃ b off, A = some ⟨b, off, none⟩ ∧ b < B ∧ ∀ i v, xs[i]? = some v → w.cell? ⟨b, off + i, none⟩ = some v
section
variable {W w w' : World} {B B' size n c : Nat} {A : Option Addr} {xs : List Value} {L : List Res} {M : List Nat} {P : Program}
theorem Sl.below (h : Sl w B size A n c xs) (hb : Below B w w') : Sl w' B size A n c xs :=
  ⟨h.len, h.cap, h.max, fun hn => by
    obtain ⟨b, off, e, hB, hc⟩ := h.cells hn
    exact ⟨b, off, e, hB, fun i v hv => ((bcell hb).1 _ _ hB).trans (hc i v hv)⟩⟩
theorem Sl.more (h : Sl w B size A n c xs) (hB : B ≤ B') : Sl w B' size A n c xs :=
  ⟨h.len, h.cap, h.max, fun hn => by
    obtain ⟨b, off, e, hb, hc⟩ := h.cells hn
    exact ⟨b, off, e, by omega, hc⟩⟩
theorem Sl.at (h : Sl W W.heap.size size A n c xs) (hw : St [] W L w) : Sl w w.heap.size size A n c xs := (h.below hw.below).more hw.pres.size
theorem Sl.ld1 {b off i m : Nat} {T : TypeId} {v : Value} (h : Sl W W.heap.size size (some ⟨b, off, none⟩) n c xs) (ht : tsz P T = some (false, m)) (hv : xs[i]? = some v) : LD P [] W L T ⟨b, off + i, none⟩ v := fun w hw => by
  have hn : 0 < n := by
    rcases Nat.eq_zero_or_pos n with h0 | h0
    · have h1 := h.len
      rw [h0, Nat.zero_mul] at h1
      have := (List.getElem?_eq_some_iff.1 hv).1
      omega
    · exact h0
  obtain ⟨b', off', e, hb, hc⟩ := h.cells hn
  cases e
  exact loadAt_one ht ((hw.base_cell hb (by simp)).trans (hc i v hv))
theorem Sl.ld {b off i : Nat} {T : TypeId} {vs : List Value} (h : Sl W W.heap.size size (some ⟨b, off, none⟩) n c xs) (hn : 0 < n) (ht : tsz P T = some (true, vs.length)) (hv : (xs.drop i).take vs.length = vs) : LD P [] W L T ⟨b, off + i, none⟩ (.agg vs.toArray) := fun w hw => by
  obtain ⟨b', off', e, hb, hc⟩ := h.cells hn
  cases e
  have hv' : ∀ (j : Nat) v, vs[j]? = some v → xs[i + j]? = some v := fun j v h => by
    rw [← hv, List.getElem?_take] at h
    split at h
    · simpa using h
    · cases h
  refine loadAt_agg ht vs rfl fun j v hj => ?_
  rw [Addr.add_lit, hw.base_cell hb (by simp), Nat.add_assoc]
  exact hc _ _ (hv' j v hj)
theorem Sl.take (h : Sl w B size A n c xs) {k : Nat} (hk : k ≤ n) : Sl w B size A k c (xs.take (k * size)) :=
  ⟨by rw [List.length_take, h.len]; exact Nat.min_eq_left (Nat.mul_le_mul_right _ hk), Nat.le_trans hk h.cap, h.max, fun hn => by
    obtain ⟨b, off, e, hb, hc⟩ := h.cells (by omega)
    refine ⟨b, off, e, hb, fun i v hv => hc i v ?_⟩
    rw [List.getElem?_take] at hv
    split at hv
    · exact hv
    · cases hv⟩
theorem Sl.drop (h : Sl w B size A n c xs) {k : Nat} (hk : k ≤ n) : Sl w B size (sbase c k size A) (n - k) (c - k) (xs.drop (k * size)) :=
  ⟨by rw [List.length_drop, h.len, Nat.sub_mul], by have := h.cap; omega, by have := h.max; omega, fun hn => by
    obtain ⟨b, off, e, hb, hc⟩ := h.cells (by omega)
    have := h.cap
    refine ⟨b, off + k * size, by rw [e, sbase_some (by omega), Addr.add_lit], hb, fun i v hv => ?_⟩
    rw [List.getElem?_drop] at hv
    rw [Nat.add_assoc]
    exact hc _ _ hv⟩
theorem Sl.reads (h : Sl w B size A n c xs) : Reads w B size A n xs :=
  ⟨h.len, fun hn => by
    obtain ⟨b, off, e, hB, hc⟩ := h.cells hn
    exact ⟨_, e, hB, fun j u hu => by rw [Addr.add_lit]; exact hc j u hu⟩⟩
theorem Sl.of_own {t : TypeId} {base : Nat} (h : w.ownsRow base t size (.slice A n c) n xs) : Sl w w.heap.size size A n c xs := by
  rcases h.2 with ⟨hv, hn⟩ | ⟨g, cap, cur, hv, hb, hg, hnc, hcm, hsz, htk⟩
  · cases hv
    exact ⟨h.1, by omega, by omega, fun h => by omega⟩
  · cases hv
    refine ⟨h.1, hnc, hcm, fun hn => ⟨g, 0, rfl, (h.lt g rfl).2, fun i v hv => ?_⟩⟩
    have h1 := h.cells (g := g) rfl _ _ hv
    rw [Addr.add_lit] at h1
    exact h1
theorem Sl.of_row {t : TypeId} (hw : St M W L w) (hm : Res.row (.slice A n c) t size n xs ∈ L) : Sl w w.heap.size size A n c xs := Sl.of_own (hw.holds _ hm)
end
def rowP (T : TypeId) (size : Nat) (f : Value → Value) (xs : List Value) (w : World) (e : Ending) (w' : World) : Prop :=
  ∃ A n c, e = .returned (f (.slice A n c)) ∧ w'.ownsRow w.heap.size T size (.slice A n c) n xs ∧ Below w.heap.size w w'
/-- Bytes as cells. -/
def byt (l : List Nat) : List Value := l.map fun x : Nat => Value.int .u8 (x : Int)
def i64c (l : List Nat) : List Value := l.map fun x : Nat => Value.int .i64 (x : Int)
theorem byt_len (l : List Nat) : (byt l).length = l.length := by simp [byt]
theorem byt_snoc (l : List Nat) (x : Nat) : byt (l ++ [x]) = byt l ++ [.int .u8 x] := by simp [byt]
theorem ones_byt (l : List Nat) : ones (byt l) = true := by simp [ones, byt, Value.oneCell']
theorem byt_get {l : List Nat} {i x : Nat} (h : l[i]? = some x) : (byt l)[i]? = some (.int .u8 x) := by simp [byt, h]
theorem byt_row {l : List Nat} {n : Nat} (h : (byt l).length = n * 1) : l.length = n := by rw [byt_len] at h; omega
/-- The slice lies in none of the blocks of M. -/
def Apt (A : Option Addr) (M : List Nat) : Prop := ∀ b o, A = some ⟨b, o, none⟩ → b ∉ M
section
variable {W w w' : World} {B B' size n c : Nat} {A : Option Addr} {xs : List Value} {L : List Res} {M : List Nat} {P : Program}
theorem Apt.nil (A : Option Addr) : Apt A [] := fun b o _ => by simp
theorem Apt.nilA (M : List Nat) : Apt (Option.none : Option Addr) M := fun b o h => by cases h
theorem Apt.sbase (h : Apt A M) (hA : A = none ∨ ∃ b o, A = some ⟨b, o, Option.none⟩) (c l size : Nat) : Apt (Go.Proofs.Ytaifnipgefkemaa.sbase c l size A) M := fun b o e => by
  unfold Go.Proofs.Ytaifnipgefkemaa.sbase at e
  split at e
  · exact h b o e
  · rcases hA with rfl | ⟨b', o', rfl⟩
    · cases e
    · simp only [Option.map_some, Option.some.injEq, Addr.add_lit, Addr.mk.injEq] at e
      obtain ⟨rfl, _⟩ := e
      exact h b' o' rfl
theorem Apt.of_below (h : Sl w B size A n c xs) (hn : 0 < n) (hM : ∀ m ∈ M, B ≤ m) : Apt A M := fun b o e hm => by
  obtain ⟨b', off, e', hb, _⟩ := h.cells hn
  rw [e'] at e
  injection e with e
  injection e with e1
  have := hM b hm
  omega
theorem Sl.atM (h : Sl W W.heap.size size A n c xs) (hw : St M W L w) (ha : Apt A M) : Sl w w.heap.size size A n c xs :=
  ⟨h.len, h.cap, h.max, fun hn => by
    obtain ⟨b, off, e, hb, hc⟩ := h.cells hn
    exact ⟨b, off, e, Nat.lt_of_lt_of_le hb hw.pres.size, fun i v hv => (hw.base_cell hb (ha _ _ e)).trans (hc i v hv)⟩⟩
theorem Sl.atM' (h : Sl W W.heap.size size A n c xs) (hw : St M W L w) (ha : 0 < n → Apt A M) : Sl w w.heap.size size A n c xs :=
  ⟨h.len, h.cap, h.max, fun hn => by
    obtain ⟨b, off, e, hb, hc⟩ := h.cells hn
    exact ⟨b, off, e, Nat.lt_of_lt_of_le hb hw.pres.size, fun i v hv => (hw.base_cell hb (ha hn _ _ e)).trans (hc i v hv)⟩⟩
theorem Sl.ld1M {b off i m : Nat} {T : TypeId} {v : Value} (h : Sl W W.heap.size size (some ⟨b, off, none⟩) n c xs) (ha : Apt (some ⟨b, off, none⟩) M) (ht : tsz P T = some (false, m)) (hv : xs[i]? = some v) : LD P M W L T ⟨b, off + i, none⟩ v := fun w hw => by
  have hn : 0 < n := by
    rcases Nat.eq_zero_or_pos n with h0 | h0
    · have h1 := h.len
      rw [h0, Nat.zero_mul] at h1
      have := (List.getElem?_eq_some_iff.1 hv).1
      omega
    · exact h0
  obtain ⟨b', off', e, hb, hc⟩ := h.cells hn
  cases e
  exact loadAt_one ht ((hw.base_cell hb (ha _ _ rfl)).trans (hc i v hv))
theorem Sl.nil (size : Nat) : Sl w B size none 0 0 [] := ⟨by simp, Nat.le_refl _, by omega, fun h => by omega⟩
theorem Sl.of_blk {b : Nat} {t : TypeId} {cs : List Value} (hw : St M W L w) (hm : Res.blk b t cs ∈ L) (hl : cs.length = n * size) (hn : n ≤ 9223372036854775807) : Sl w w.heap.size size (some ⟨b, 0, Option.none⟩) n n cs :=
  ⟨hl, Nat.le_refl _, hn, fun _ => ⟨_, _, rfl, (hw.own _ hm b (by simp [Res.foot])).2, fun i v hv => by rw [Nat.zero_add, hw.blk_cell hm]; exact hv⟩⟩
theorem Sl.zero (h : Sl w B size A n c xs) (hn : n = 0) : xs = [] := List.eq_nil_of_length_eq_zero (by rw [h.len, hn, Nat.zero_mul])
theorem Sl.isNone (h : Sl w B size A n c xs) (hA : A.isNone = true) : n = 0 ∧ xs = [] := by
  have : n = 0 := by
    rcases Nat.eq_zero_or_pos n with h0 | h0
    · exact h0
    · obtain ⟨b, off, rfl, _⟩ := h.cells h0
      simp at hA
  exact ⟨this, h.zero this⟩
end

/-! ## Rows of structs -/
/-- The cells of a list, each element's own. -/
def cl {α : Type} (f : α → List Value) (l : List α) : List Value := l.flatMap f
section
variable {α : Type} {f : α → List Value} {k : Nat} {l : List α}
theorem cl_len (hf : ∀ x, (f x).length = k) : ∀ l : List α, (cl f l).length = l.length * k
  | [] => by simp [cl]
  | x :: l => by
    have := cl_len hf l
    unfold cl at *
    simp only [List.flatMap_cons, List.length_append, hf, this, List.length_cons, Nat.add_mul]
    omega
theorem cl_cons (x : α) (l : List α) : cl f (x :: l) = f x ++ cl f l := by simp [cl]
theorem cl_snoc (l : List α) (x : α) : cl f (l ++ [x]) = cl f l ++ f x := by simp [cl]
theorem cl_append (l m : List α) : cl f (l ++ m) = cl f l ++ cl f m := by simp [cl]
theorem cl_drop (hf : ∀ x, (f x).length = k) : ∀ (i : Nat) (l : List α), (cl f l).drop (i * k) = cl f (l.drop i)
  | 0, l => by simp
  | i + 1, [] => by simp [cl]
  | i + 1, x :: l => by
    rw [cl_cons, List.drop_succ_cons, ← cl_drop hf i l, Nat.add_mul, Nat.one_mul, Nat.add_comm (i * k), ← List.drop_drop]
    congr 1
    rw [← hf x]
    simp
theorem cl_take (hf : ∀ x, (f x).length = k) : ∀ (i : Nat) (l : List α), (cl f l).take (i * k) = cl f (l.take i)
  | 0, l => by simp [cl]
  | i + 1, [] => by simp [cl]
  | i + 1, x :: l => by
    rw [cl_cons, List.take_succ_cons, cl_cons, ← cl_take hf i l, Nat.add_mul, Nat.one_mul, Nat.add_comm (i * k), ← hf x, List.take_length_add_append]
theorem cl_at (hf : ∀ x, (f x).length = k) {i : Nat} {x : α} (h : l[i]? = some x) : ((cl f l).drop (i * k)).take k = f x := by
  rw [cl_drop hf]
  obtain ⟨hlt, hx⟩ := List.getElem?_eq_some_iff.1 h
  rw [List.drop_eq_getElem_cons hlt, hx, cl_cons, ← hf x]
  simp
theorem cl_get (hf : ∀ x, (f x).length = k) {i j : Nat} {x : α} {v : Value} (h : l[i]? = some x) (hv : (f x)[j]? = some v) : (cl f l)[i * k + j]? = some v := by
  have h1 := cl_at hf h
  have hj : j < k := by rw [← hf x]; exact (List.getElem?_eq_some_iff.1 hv).1
  have h2 : (((cl f l).drop (i * k)).take k)[j]? = some v := by rw [h1]; exact hv
  rw [List.getElem?_take, if_pos hj, List.getElem?_drop] at h2
  exact h2
theorem cl_ones (hf : ∀ x, ones (f x) = true) (l : List α) : ones (cl f l) = true := by
  induction l with
  | nil => rfl
  | cons x l ih =>
    rw [cl_cons]
    unfold ones at *
    rw [List.all_append, hf, ih]
    rfl
theorem cl_row (hf : ∀ x, (f x).length = k) (hk : 0 < k) {n : Nat} (h : (cl f l).length = n * k) : l.length = n := by
  rw [cl_len hf] at h
  exact Nat.eq_of_mul_eq_mul_right hk h
end
end Go.Proofs.Ytaifnipgefkemaa
/- Calls that hand back a pointer to new memory; rows of a call that may write elsewhere; strings of rows. -/
namespace Go.Proofs.Ytaifnipgefkemaa
open Go.RowKit Go.Shelf
set_option linter.unusedVariables false
set_option linter.unusedSimpArgs false
section
variable {P : Program} {M : List Nat} {W w w' : World} {L : List Res} {K : Bool → Value → List Res → Prop} {g : FuncId} {args : Array Value}
theorem fresh_lt {B b : Nat} (hB : B ≤ b) : ∀ {L : List Res}, (∀ r ∈ L, ∀ c ∈ r.foot, c < B) → fresh L b
  | [], _ => trivial
  | .blk b' t cs :: L, h => ⟨Nat.lt_of_lt_of_le (h (.blk b' t cs) (by simp) b' (by simp [Res.foot])) hB, fresh_lt hB fun r hr => h r (by simp [hr])⟩
  | .row v t s n xs :: L, h => fresh_lt (L := L) hB fun r hr => h r (by simp [hr])
  | .dat f p l :: L, h => fresh_lt (L := L) hB fun r hr => h r (by simp [hr])
theorem St.addBlk {b : Nat} {t : TypeId} {us : List Value} (hw : St M W L w) (hB : Below w.heap.size w w') (hlt : w.heap.size ≤ b) (hb : w'.heap[b]? = some (.cells us.toArray t (0, 0))) : St M W (.blk b t us :: L) w' :=
  (hw.quiet hB).add (.blk b t us) hb (fun c hc => by
    obtain rfl : c = b := by simpa [Res.foot] using hc
    exact ⟨.inl (Nat.le_trans hw.pres.size hlt), (Array.getElem?_eq_some_iff.1 hb).1⟩) (fun s hs c hc hcs => by
    obtain rfl : c = b := by simpa [Res.foot] using hc
    have := (hw.own s hs _ hcs).2
    omega)
theorem St.hold {b : Nat} {t : TypeId} {cs : List Value} (hw : St M W L w) (k : Nat) (h : nth L k = some (.blk b t cs)) : w.heap[b]? = some (.cells cs.toArray t (0, 0)) := by
  rw [nth_eq] at h
  exact hw.holds _ (List.mem_of_getElem? h)
def boxRowP (t : TypeId) (us : Value → List Value) (T : TypeId) (size : Nat) (xs : List Value) (w : World) (e : Ending) (w' : World) : Prop :=
  ∃ b A n c, e = .returned (.pointer (some ⟨b, 0, none⟩)) ∧ w'.ownsRow w.heap.size T size (.slice A n c) n xs ∧ w'.heap[b]? = some (.cells (us (.slice A n c)).toArray t (0, 0)) ∧ w.heap.size ≤ b ∧ (∀ g, (Value.slice A n c).ownBlock = some g → g ≠ b) ∧ Below w.heap.size w w'
theorem callV_boxRow {t T : TypeId} {us : Value → List Value} {size : Nat} {xs : List Value} (h : ∀ w, St M W L w → Calls P g args w (boxRowP t us T size xs w))
    (hK : ∀ b A n c, xs.length = n * size → W.heap.size ≤ b → fresh L b → rowAt A n W M (.blk b t (us (.slice A n c)) :: L) → K true (.pointer (some ⟨b, 0, none⟩)) (.row (.slice A n c) T size n xs :: .blk b t (us (.slice A n c)) :: L)) : CallV P M W g args L K := fun w hw =>
  (h w hw).mono (by
    rintro e w' ⟨b, A, n, c, rfl, ho, hb, hlt, hne, hB⟩
    have h1 := hw.addBlk hB hlt hb
    have h2 : St M W (.row (.slice A n c) T size n xs :: .blk b t (us (.slice A n c)) :: L) w' := h1.add _ (ownsRow_base ho (Nat.zero_le _)) (fun g hg => by
      have := ho.lt g (by simpa [Res.foot] using hg)
      have h3 := hw.pres.size
      exact ⟨.inl (by omega), this.2⟩) (fun s hs g hg hgs => by
      have h4 := ho.lt g (by simpa [Res.foot] using hg)
      rcases List.mem_cons.1 hs with rfl | hs
      · exact hne g (by simpa [Res.foot] using hg) (by simpa [Res.foot] using hgs)
      · have := (hw.own s hs g hgs).2
        omega)
    exact ⟨_, _, rfl, h2, hK b A n c ho.1 (Nat.le_trans hw.pres.size hlt) (fresh_lt hlt fun r hr c hc => (hw.own r hr c hc).2) h2.row_at⟩)
/-- A row of the call's own, new since the call began: no block that the call may write lies in it. -/
theorem St.rowNew {t : TypeId} {size n : Nat} {v : Value} {xs : List Value} (h : St M W (.row v t size n xs :: L) w) (hM : ∀ m ∈ M, ∃ r ∈ L, m ∈ r.foot) : w.ownsRow W.heap.size t size v n xs := by
  have hh : w.ownsRow 0 t size v n xs := h.holds _ (.head _)
  refine ⟨hh.1, ?_⟩
  rcases hh.2 with hn | ⟨g, cap, cur, rfl, h2, h3⟩
  · exact .inl hn
  · have hf : g ∈ (Res.row (.slice (some ⟨g, 0, none⟩) n cap) t size n xs).foot := by simp [Res.foot, Value.ownBlock]
    rcases (h.own _ (.head _) g hf).1 with h4 | h4
    · exact .inr ⟨g, cap, cur, rfl, h4, h3⟩
    · obtain ⟨r, hr, hg⟩ := hM g h4
      exact absurd hg ((List.pairwise_cons.1 h.apart).1 r hr g hf)
theorem St.boxRow {t T : TypeId} {us : Value → List Value} {size n c b : Nat} {A : Option Addr} {xs : List Value} (h : St [] W (.blk b t (us (.slice A n c)) :: .row (.slice A n c) T size n xs :: L) w) : boxRowP t us T size xs W (.returned (.pointer (some ⟨b, 0, none⟩))) w :=
  ⟨b, A, n, c, rfl, h.tail.rowNew (by simp), h.holds _ (.head _), by simpa using (h.own _ (.head _) b (by simp [Res.foot])).1, fun g hg e => (List.pairwise_cons.1 h.apart).1 _ (.head _) b (by simp [Res.foot]) (by simp [Res.foot, ← e, hg]), h.below⟩
theorem str_row {A : Option Addr} {n c : Nat} {t : TypeId} {l : List Nat} (hm : Res.row (.slice A n c) t 1 n (byt l) ∈ L) (hw : St M W L w) : Reads w w.heap.size 1 A n (l.map fun x : Nat => Value.int .u8 (x : Int)) := src_row hm hw
theorem St.slb {A : Option Addr} {n c : Nat} {t : TypeId} {l : List Nat} (hw : St M W L w) (k : Nat) (h : nth L k = some (.row (.slice A n c) t 1 n (byt l))) : Sl w w.heap.size 1 A n c (byt l) := by
  rw [nth_eq] at h
  exact Sl.of_row hw (List.mem_of_getElem? h)
theorem St.slr {A : Option Addr} {n c size : Nat} {t : TypeId} {xs : List Value} (hw : St M W L w) (k : Nat) (h : nth L k = some (.row (.slice A n c) t size n xs)) : Sl w w.heap.size size A n c xs := by
  rw [nth_eq] at h
  exact Sl.of_row hw (List.mem_of_getElem? h)
theorem St.strk {A : Option Addr} {n c : Nat} {t : TypeId} {l : List Nat} (hw : St M W L w) (k : Nat) (h : nth L k = some (.row (.slice A n c) t 1 n (byt l))) : Reads w w.heap.size 1 A n (l.map fun x : Nat => Value.int .u8 (x : Int)) := (hw.slb k h).reads
theorem Sl.str {A : Option Addr} {n c : Nat} {l : List Nat} (h : Sl w w.heap.size 1 A n c (byt l)) : Reads w w.heap.size 1 A n (l.map fun x : Nat => Value.int .u8 (x : Int)) := h.reads
theorem rowAt.apt {A : Option Addr} {n : Nat} {b : Nat} {t : TypeId} {cs : List Value} (h : rowAt A n W M (.blk b t cs :: L)) : Apt A [b] := fun g o e => by
  rcases h with ⟨rfl, _⟩ | ⟨g', rfl, _, hne, _⟩
  · cases e
  · injection e with e
    injection e with e1
    subst e1
    simp only [List.mem_singleton]
    exact fun e => hne e.symm
end
/-- A row's capacity. -/
theorem cv_cap {P : Program} {M : List Nat} {W : World} {n : Nat} {c : Code} {F : Fr} {L : List Res} {Q : Exit → Fr → List Res → Prop} (k : Nat) {A : Option Addr} {m d size : Nat} {t : TypeId} {xs : List Value} (hk : nth L k = some (.row (.slice A m d) t size m xs))
    (h : m ≤ d → d ≤ 9223372036854775807 → CV P M W n c F L Q) : CV P M W n c F L Q := fun a w ha hw => by
  have := hw.slr k hk
  exact h this.cap this.max a w ha hw
/-- Cells of 16-bit numbers. -/
def u16c (l : List Nat) : List Value := l.map fun x : Nat => Value.int .u16 (x : Int)
theorem u16_get {l : List Nat} {i x : Nat} (h : l[i]? = some x) : (u16c l)[i]? = some (.int .u16 x) := by simp [u16c, h]
theorem u16_len (l : List Nat) : (u16c l).length = l.length := by simp [u16c]
theorem u16_row {l : List Nat} {n : Nat} (h : (u16c l).length = n * 1) : l.length = n := by rw [u16_len] at h; omega
theorem ones_u16 (l : List Nat) : ones (u16c l) = true := by simp [ones, u16c, Value.oneCell']
def u64c (l : List Nat) : List Value := l.map fun x : Nat => Value.int .u64 (x : Int)
theorem u64_get {l : List Nat} {i x : Nat} (h : l[i]? = some x) : (u64c l)[i]? = some (.int .u64 x) := by simp [u64c, h]
theorem u64_len (l : List Nat) : (u64c l).length = l.length := by simp [u64c]
theorem u64_row {l : List Nat} {n : Nat} (h : (u64c l).length = n * 1) : l.length = n := by rw [u64_len] at h; omega
theorem u16_take (l : List Nat) (k : Nat) : (u16c l).take (k * 1) = u16c (l.take k) := by rw [Nat.mul_one]; simp [u16c]
theorem Sl.utake {w : World} {B n c : Nat} {A : Option Addr} {l : List Nat} (h : Sl w B 1 A n c (u16c l)) {k : Nat} (hk : k ≤ n) : Sl w B 1 A k c (u16c (l.take k)) := by
  rw [← u16_take]; exact h.take hk
end Go.Proofs.Ytaifnipgefkemaa
/- Memory that is finished: a snapshot of blocks that only are read from now on (nested rows), and blocks that carry the run-time's mark. -/
namespace Go.Proofs.Ytaifnipgefkemaa
open Go.RowKit Go.Shelf
set_option linter.unusedVariables false
set_option linter.unusedSimpArgs false

/-! ## Slices within a set of blocks -/
structure Sd (w : World) (D : Nat → Prop) (size : Nat) (A : Option Addr) (n c : Nat) (xs : List Value) : Prop where
  len : xs.length = n * size
  cap : n ≤ c
  max : c ≤ 9223372036854775807
  cells : 0 < n → ∃ b off, A = some ⟨b, off, none⟩ ∧ D b ∧ ∀ i v, xs[i]? = some v → w.cell? ⟨b, off + i, none⟩ = some v
section
variable {W w w' v v0 : World} {D D' : Nat → Prop} {B size n c : Nat} {A : Option Addr} {xs : List Value} {L : List Res} {M : List Nat} {P : Program}
theorem Sd.sl (h : Sd w D size A n c xs) (hD : ∀ b, D b → b < B) : Sl w B size A n c xs :=
  ⟨h.len, h.cap, h.max, fun hn => by
    obtain ⟨b, off, e, hb, hc⟩ := h.cells hn
    exact ⟨b, off, e, hD b hb, hc⟩⟩
theorem Sl.sd (h : Sl w B size A n c xs) (hD : ∀ b, b < B → D b) : Sd w D size A n c xs :=
  ⟨h.len, h.cap, h.max, fun hn => by
    obtain ⟨b, off, e, hb, hc⟩ := h.cells hn
    exact ⟨b, off, e, hD b hb, hc⟩⟩
theorem Sd.same (h : Sd w D size A n c xs) (hs : ∀ b, D b → w'.heap[b]? = w.heap[b]?) (hD : ∀ b, D b → D' b) : Sd w' D' size A n c xs :=
  ⟨h.len, h.cap, h.max, fun hn => by
    obtain ⟨b, off, e, hb, hc⟩ := h.cells hn
    exact ⟨b, off, e, hD b hb, fun i u hu => (World.cell?_of_block (a := ⟨b, off + i, none⟩) (hs b hb)).trans (hc i u hu)⟩⟩
theorem Sd.mono (h : Sd w D size A n c xs) (hD : ∀ b, D b → D' b) : Sd w D' size A n c xs := h.same (fun _ _ => rfl) hD
theorem Sd.nil : Sd w D size none 0 0 [] := ⟨by simp, Nat.le_refl _, by omega, fun h => by omega⟩
theorem Sd.of_own {base : Nat} {t : TypeId} (h : w.ownsRow base t size (.slice A n c) n xs) (hD : ∀ g, (Value.slice A n c).ownBlock = some g → D g) : Sd w D size A n c xs := by
  have hs := Sl.of_own h
  refine ⟨hs.len, hs.cap, hs.max, fun hn => ?_⟩
  obtain ⟨b, off, e, hb, hc⟩ := hs.cells hn
  refine ⟨b, off, e, hD b ?_, hc⟩
  rw [e]
  rcases h.2 with ⟨hv, _⟩ | ⟨g, cap, cur, hv, _⟩
  · rw [e] at hv; cases hv
  · rw [e] at hv
    cases hv
    simp [Value.ownBlock]
theorem Sd.ownNew {base : Nat} {t : TypeId} (h : w.ownsRow base t size (.slice A n c) n xs) : Sd w (fun b => base ≤ b ∧ b < w.heap.size) size A n c xs := Sd.of_own h fun g hg => h.lt g hg

/-! ## Snapshots -/
def snap (M : List Nat) (W v : World) (foot : List Nat) : Res := .dat foot (fun w => Pres M W v ∧ ∀ b ∈ foot, w.heap[b]? = v.heap[b]?) (fun _ _ hk h => ⟨h.1, fun b hb => (hk b hb).trans (h.2 b hb)⟩)
/-- What may be read by a snapshot: its blocks, and what was there when the call began. -/
def Dm (M : List Nat) (W : World) (foot : List Nat) (b : Nat) : Prop := b ∈ foot ∨ (b < W.heap.size ∧ b ∉ M)
/-- A snapshot of all that is the call's own but for the resources of K. -/
def Foot (W v : World) (K : List Res) (foot : List Nat) : Prop := ∀ b, b ∈ foot ↔ W.heap.size ≤ b ∧ b < v.heap.size ∧ ∀ r ∈ K, b ∉ r.foot
theorem snap_foot (M : List Nat) (W v : World) (foot : List Nat) : (snap M W v foot).foot = foot := rfl
theorem look_snap (M : List Nat) (W v : World) (foot : List Nat) (L : List Res) (k : Nat) : look (snap M W v foot :: L) k = look L k := rfl
theorem putL_snap (M : List Nat) (W v : World) (foot : List Nat) (L : List Res) (k : Nat) (us : List Value) : putL (snap M W v foot :: L) k us = snap M W v foot :: putL L k us := rfl
theorem neB_snap (M : List Nat) (W v : World) (foot : List Nat) (L : List Res) (b : Nat) : neB (snap M W v foot :: L) b = neB L b := rfl
theorem neR_snap (M : List Nat) (W v : World) (foot : List Nat) (L : List Res) (b : Nat) : neR (snap M W v foot :: L) b = neR L b := rfl
theorem factL_snap (W' : World) (M' M : List Nat) (W v : World) (foot : List Nat) (L : List Res) : factL W' M' (snap M W v foot :: L) = factL W' M' L := rfl
theorem fresh_snap (M : List Nat) (W v : World) (foot : List Nat) (L : List Res) (k : Nat) : fresh (snap M W v foot :: L) k = fresh L k := rfl
theorem St.snap_same {foot : List Nat} (hw : St M W L w) (hm : snap M W v foot ∈ L) : ∀ b, Dm M W foot b → w.heap[b]? = v.heap[b]? := fun b hb => by
  have hh : Pres M W v ∧ ∀ b ∈ foot, w.heap[b]? = v.heap[b]? := hw.holds _ hm
  rcases hb with hb | ⟨hb, hbm⟩
  · exact hh.2 b hb
  · exact (hw.pres.block b hb hbm).trans (hh.1.block b hb hbm).symm
theorem St.snap_lt {foot : List Nat} (hw : St M W L w) (hm : snap M W v foot ∈ L) : ∀ b, Dm M W foot b → b < w.heap.size := fun b hb => by
  rcases hb with hb | ⟨hb, _⟩
  · exact (hw.own _ hm b hb).2
  · exact Nat.lt_of_lt_of_le hb hw.pres.size
theorem Sd.at {foot : List Nat} (h : Sd v (Dm M W foot) size A n c xs) (hw : St M W L w) (k : Nat) (hk : nth L k = some (snap M W v foot)) : Sl w w.heap.size size A n c xs := by
  have hm : snap M W v foot ∈ L := by rw [nth_eq] at hk; exact List.mem_of_getElem? hk
  exact (h.same (hw.snap_same hm) fun b hb => hw.snap_lt hm b hb).sl fun b hb => hb
theorem Sd.ld1 {foot : List Nat} {b off i m : Nat} {T : TypeId} {u : Value} (h : Sd v (Dm M W foot) size (some ⟨b, off, none⟩) n c xs) (k : Nat) (hk : nth L k = some (snap M W v foot)) (ht : tsz P T = some (false, m)) (hv : xs[i]? = some u) : LD P M W L T ⟨b, off + i, none⟩ u := fun w hw => by
  have hs := h.at hw k hk
  have hn : 0 < n := by
    rcases Nat.eq_zero_or_pos n with h0 | h0
    · have h1 := hs.len
      rw [h0, Nat.zero_mul] at h1
      have := (List.getElem?_eq_some_iff.1 hv).1
      omega
    · exact h0
  obtain ⟨b', off', e, hb, hc⟩ := hs.cells hn
  cases e
  exact loadAt_one ht (hc i u hv)
theorem Sd.ld {foot : List Nat} {b off i : Nat} {T : TypeId} {vs : List Value} (h : Sd v (Dm M W foot) size (some ⟨b, off, none⟩) n c xs) (k : Nat) (hk : nth L k = some (snap M W v foot)) (hn : 0 < n) (ht : tsz P T = some (true, vs.length)) (hv : (xs.drop i).take vs.length = vs) : LD P M W L T ⟨b, off + i, none⟩ (.agg vs.toArray) := fun w hw => by
  obtain ⟨b', off', e, hb, hc⟩ := (h.at hw k hk).cells hn
  cases e
  have hv' : ∀ (j : Nat) v, vs[j]? = some v → xs[i + j]? = some v := fun j v h => by
    rw [← hv, List.getElem?_take] at h
    split at h
    · simpa using h
    · cases h
  refine loadAt_agg ht vs rfl fun j v hj => ?_
  rw [Addr.add_lit, Nat.add_assoc]
  exact hc _ _ (hv' j v hj)
theorem nth_mem {L : List Res} {k : Nat} {r : Res} (h : nth L k = some r) : r ∈ L := by rw [nth_eq] at h; exact List.mem_of_getElem? h
theorem nth_apart (hap : L.Pairwise (fun r s => ∀ b ∈ r.foot, b ∉ s.foot)) {i j : Nat} {r s : Res} (hi : nth L i = some r) (hj : nth L j = some s) (hne : i ≠ j) : ∀ b ∈ r.foot, b ∉ s.foot := by
  rw [nth_eq] at hi hj
  obtain ⟨hi1, hi2⟩ := List.getElem?_eq_some_iff.1 hi
  obtain ⟨hj1, hj2⟩ := List.getElem?_eq_some_iff.1 hj
  have hp := List.pairwise_iff_getElem.1 hap
  intro b hb hbs
  rcases Nat.lt_or_gt_of_ne hne with hlt | hlt
  · exact hp i j hi1 hj1 hlt b (hi2 ▸ hb) (hj2 ▸ hbs)
  · exact hp j i hj1 hi1 hlt b (hj2 ▸ hbs) (hi2 ▸ hb)
/-- The blocks of a resource that is not kept lie in the snapshot. -/
theorem St.footK {foot jx : List Nat} {k : Nat} {r : Res} (hv : St M W L v) (hf : Foot W v (pickL jx L) foot) (hk : nth L k = some r) (hkj : k ∉ jx) (hM : ∀ m ∈ M, ∃ s ∈ pickL jx L, m ∈ s.foot) : ∀ b ∈ r.foot, b ∈ foot := fun b hb => by
  have hap : ∀ s ∈ pickL jx L, b ∉ s.foot := fun s hs => by
    obtain ⟨j, hj, hjs⟩ := pickL_mem hs
    exact nth_apart hv.apart hk hjs (fun e => hkj (e ▸ hj)) b hb
  have ho := hv.own r (nth_mem hk) b hb
  refine (hf b).2 ⟨?_, ho.2, hap⟩
  rcases ho.1 with h1 | h1
  · exact h1
  · obtain ⟨s, hs, hms⟩ := hM b h1
    exact absurd hms (hap s hs)
theorem St.sdr {foot jx : List Nat} {t : TypeId} (hv : St M W L v) (hf : Foot W v (pickL jx L) foot) (k : Nat) (hk : nth L k = some (.row (.slice A n c) t size n xs)) (hkj : k ∉ jx) (hM : ∀ m ∈ M, ∃ s ∈ pickL jx L, m ∈ s.foot) : Sd v (Dm M W foot) size A n c xs :=
  Sd.of_own (hv.holds _ (nth_mem hk)) fun g hg => .inl (hv.footK hf hk hkj hM g (by simpa [Res.foot] using hg))
theorem St.sdb {foot jx : List Nat} {t : TypeId} {b : Nat} (hv : St M W L v) (hf : Foot W v (pickL jx L) foot) (k : Nat) (hk : nth L k = some (.blk b t xs)) (hkj : k ∉ jx) (hM : ∀ m ∈ M, ∃ s ∈ pickL jx L, m ∈ s.foot) (hl : xs.length = n * size) (hn : n ≤ 9223372036854775807) : Sd v (Dm M W foot) size (some ⟨b, 0, none⟩) n n xs :=
  ⟨hl, Nat.le_refl _, hn, fun _ => ⟨_, _, rfl, .inl (hv.footK hf hk hkj hM b (by simp [Res.foot])), fun i u hu => by rw [Nat.zero_add, hv.blk_cell (nth_mem hk)]; exact hu⟩⟩
/-- An older snapshot in a newer one. -/
theorem St.snapK {foot foot0 jx : List Nat} (hv : St M W L v) (hf : Foot W v (pickL jx L) foot) (k : Nat) (hk : nth L k = some (snap M W v0 foot0)) (hkj : k ∉ jx) (hM : ∀ m ∈ M, ∃ s ∈ pickL jx L, m ∈ s.foot) : (∀ b, Dm M W foot0 b → v.heap[b]? = v0.heap[b]?) ∧ (∀ b, Dm M W foot0 b → Dm M W foot b) :=
  ⟨hv.snap_same (nth_mem hk), fun b hb => hb.imp (hv.footK hf hk hkj hM b) id⟩
theorem Dm.base {foot : List Nat} {b : Nat} (hb : b < W.heap.size) : Dm [] W foot b := .inr ⟨hb, by simp⟩
/-- Everything lies in a snapshot that keeps nothing. -/
theorem Foot.all {foot : List Nat} (hf : Foot W v [] foot) {b : Nat} (hb : b < v.heap.size) : Dm [] W foot b := by
  rcases Nat.lt_or_ge b W.heap.size with h | h
  · exact Dm.base h
  · exact .inl ((hf b).2 ⟨h, hb, by simp⟩)
theorem pickL_append (ix jx : List Nat) (L : List Res) : pickL (ix ++ jx) L = pickL ix L ++ pickL jx L := by
  induction ix with
  | nil => rfl
  | cons i ix ih =>
    simp only [List.cons_append, pickL]
    split
    · rw [ih]; rfl
    · rw [ih]
theorem cv_snap {n : Nat} {c : Code} {F : Fr} {Q : Exit → Fr → List Res → Prop} (jx : List Nat) (hnd : jx.Nodup)
    (h : ∀ v foot, St M W L v → Foot W v (pickL jx L) foot → CV P M W n c F (snap M W v foot :: pickL jx L) Q) : CV P M W n c F L Q := fun a w ha hw => by
  classical
  have hw2 := hw.pick hnd
  have hf : Foot W w (pickL jx L) ((List.range w.heap.size).filter fun b => decide (W.heap.size ≤ b ∧ ∀ r ∈ pickL jx L, b ∉ r.foot)) := fun b => by
    simp only [List.mem_filter, List.mem_range, decide_eq_true_eq]
    exact ⟨fun h => ⟨h.2.1, h.1, h.2.2⟩, fun h => ⟨h.2.1, h.1, h.2.2⟩⟩
  refine h w _ hw hf a w ha (hw2.add _ ⟨hw.pres, fun _ _ => rfl⟩ (fun b hb => ?_) fun s hs b hb => ?_)
  · have := (hf b).1 hb
    exact ⟨.inl this.1, this.2.1⟩
  · exact ((hf b).1 hb).2.2 s hs
/-- A row's length. -/
theorem cv_len {c : Code} {nn : Nat} {F : Fr} {Q : Exit → Fr → List Res → Prop} (k : Nat) {A : Option Addr} {m d size : Nat} {t : TypeId} {xs : List Value} (hk : nth L k = some (.row (.slice A m d) t size m xs))
    (h : xs.length = m * size → CV P M W nn c F L Q) : CV P M W nn c F L Q := fun a w ha hw => h (hw.slr k hk).len a w ha hw
/-- New since w. -/
def Nw (w w' : World) (b : Nat) : Prop := w.heap.size ≤ b ∧ b < w'.heap.size
theorem St.addSnap (hs : St M W L w') (hsz : W.heap.size ≤ w.heap.size) (hlt : ∀ r ∈ L, ∀ b ∈ r.foot, b < w.heap.size) (hle : w.heap.size ≤ w'.heap.size) : ∃ foot, St M W (snap M W w' foot :: L) w' ∧ ∀ b, b ∈ foot ↔ Nw w w' b := by
  refine ⟨List.range' w.heap.size (w'.heap.size - w.heap.size), hs.add _ ⟨hs.pres, fun _ _ => rfl⟩ (fun b hb => ?_) fun s hs' b hb hbs => ?_, fun b => ?_⟩
  · have := List.mem_range'_1.1 hb
    exact ⟨.inl (by omega), by omega⟩
  · have := List.mem_range'_1.1 hb
    have := hlt s hs' b hbs
    omega
  · rw [List.mem_range'_1]
    unfold Nw
    omega
/-- A call that hands back nested rows, new since it began. -/
theorem callV_nest {ι : Sort _} {g : FuncId} {args : Array Value} {K : Bool → Value → List Res → Prop} (f : ι → Value) (Φ : ι → World → World → Prop)
    (h : ∀ w, St M W L w → Calls P g args w (fun e w' => ∃ i, e = .returned (f i) ∧ Φ i w w' ∧ Below w.heap.size w w'))
    (hK : ∀ i w w' foot, St M W L w → St M W (snap M W w' foot :: L) w' → Φ i w w' → (∀ b, Nw w w' b → b ∈ foot) → K true (f i) (snap M W w' foot :: L)) : CallV P M W g args L K := fun w hw =>
  (h w hw).mono (by
    rintro e w' ⟨i, rfl, hi, hb⟩
    obtain ⟨foot, hs, hf⟩ := (hw.quiet hb).addSnap hw.pres.size (fun r hr b hb => (hw.own r hr b hb).2) hb.size
    exact ⟨_, _, rfl, hs, hK i w w' foot hw hs hi fun b hb => (hf b).2 hb⟩)
/-- The same, the call writes into block b. -/
theorem callV_nestM {ι : Sort _} {g : FuncId} {args : Array Value} {K : Bool → Value → List Res → Prop} (k : Nat) (f : ι → Value) (Φ : ι → World → World → Prop) (us : ι → List Value) {b : Nat} {t : TypeId} {cs : List Value} (hk : nth L k = some (.blk b t cs))
    (h : ∀ w, St M W L w → Calls P g args w (fun e w' => ∃ i, e = .returned (f i) ∧ Φ i w w' ∧ w'.heap[b]? = some (.cells (us i).toArray t (0, 0)) ∧ Pres [b] w w'))
    (hK : ∀ i w w' foot, St M W L w → St M W (snap M W w' foot :: L.set k (.blk b t (us i))) w' → Φ i w w' → (∀ b, Nw w w' b → b ∈ foot) → K true (f i) (snap M W w' foot :: L.set k (.blk b t (us i)))) : CallV P M W g args L K := fun w hw =>
  (h w hw).mono (by
    rintro e w' ⟨i, rfl, hi, hc, hb⟩
    have hs0 := hw.mod hk hb hc
    obtain ⟨foot, hs, hf⟩ := hs0.addSnap hw.pres.size (fun r hr c hc => by
      rcases List.mem_or_eq_of_mem_set hr with h5 | rfl
      · exact (hw.own r h5 c hc).2
      · exact (hw.own _ (nth_mem hk) c hc).2) hb.size
    exact ⟨_, _, rfl, hs, hK i w w' foot hw hs hi fun b hb => (hf b).2 hb⟩)

theorem callV_pick {g : FuncId} {args : Array Value} {K : Bool → Value → List Res → Prop} (ix : List Nat) (hnd : ix.Nodup) (h : CallV P M W g args (pickL ix L) K) : CallV P M W g args L K := fun w hw => h w (hw.pick hnd)
theorem cv_blkrow {c : Code} {nn : Nat} {F : Fr} {Q : Exit → Fr → List Res → Prop} {b : Nat} {t : TypeId} {cs : List Value} (size n : Nat) (hl : cs.length = n * size) (hn : n ≤ 9223372036854775807) (h : CV P M W nn c F (.row (.slice (some ⟨b, 0, none⟩) n n) t size n cs :: L) Q) : CV P M W nn c F (.blk b t cs :: L) Q := fun a w ha hw => h a w ha (hw.blk_row hl hn)
/-- What is in a snapshot is new since the call began. -/
theorem St.snapNew {foot : List Nat} (hw : St M W L w) (k : Nat) (hk : nth L k = some (snap M W v foot)) (hM : ∀ m ∈ M, ∃ j r, nth L j = some r ∧ m ∈ r.foot ∧ j ≠ k) : ∀ y ∈ foot, Nw W w y := fun y hy => by
  have ho := hw.own _ (nth_mem hk) y hy
  refine ⟨?_, ho.2⟩
  rcases ho.1 with h1 | h1
  · exact h1
  · obtain ⟨j, r, hj, hr, hne⟩ := hM y h1
    exact absurd hy (nth_apart hw.apart hj hk hne y hr)
theorem cv_fact {c : Code} {nn : Nat} {F : Fr} {Q : Exit → Fr → List Res → Prop} (p : Prop) (h : ∀ w, St M W L w → p) (hk : p → CV P M W nn c F L Q) : CV P M W nn c F L Q := fun a w ha hw => hk (h w hw) a w ha hw
theorem cv_eq {c : Code} {nn : Nat} {F : Fr} {Q : Exit → Fr → List Res → Prop} {L' : List Res} (e : L = L') (h : CV P M W nn c F L' Q) : CV P M W nn c F L Q := e ▸ h
/-! ## Marked blocks -/
def rdR (b : Nat) (t : TypeId) (cs : List Value) : Res := .dat [b] (fun w => w.heap[b]? = some (.cells cs.toArray t (cs.length, cs.length + 1))) (fun _ _ hk h => (hk b (by simp)).trans h)
theorem rdR_foot (b : Nat) (t : TypeId) (cs : List Value) : (rdR b t cs).foot = [b] := rfl
theorem look_rdR (b : Nat) (t : TypeId) (cs : List Value) (L : List Res) (k : Nat) : look (rdR b t cs :: L) k = look L k := rfl
theorem putL_rdR (b : Nat) (t : TypeId) (cs : List Value) (L : List Res) (k : Nat) (us : List Value) : putL (rdR b t cs :: L) k us = rdR b t cs :: putL L k us := rfl
theorem neB_rdR (b : Nat) (t : TypeId) (cs : List Value) (L : List Res) (k : Nat) : neB (rdR b t cs :: L) k = neB L k := rfl
theorem neR_rdR (b : Nat) (t : TypeId) (cs : List Value) (L : List Res) (k : Nat) : neR (rdR b t cs :: L) k = neR L k := rfl
theorem factL_rdR (W : World) (M : List Nat) (b : Nat) (t : TypeId) (cs : List Value) (L : List Res) : factL W M (rdR b t cs :: L) = factL W M L := rfl
theorem fresh_rdR (b : Nat) (t : TypeId) (cs : List Value) (L : List Res) (k : Nat) : fresh (rdR b t cs :: L) k = fresh L k := rfl
theorem Sl.of_rd {b : Nat} {t : TypeId} {cs : List Value} (hw : St M W L w) (k : Nat) (hk : nth L k = some (rdR b t cs)) (hl : cs.length = n * size) (hn : n ≤ 9223372036854775807) : Sl w w.heap.size size (some ⟨b, 0, none⟩) n n cs := by
  have hm := nth_mem hk
  have hh : w.heap[b]? = some (.cells cs.toArray t (cs.length, cs.length + 1)) := hw.holds _ hm
  exact ⟨hl, Nat.le_refl _, hn, fun _ => ⟨_, _, rfl, (hw.own _ hm b (by simp [rdR_foot])).2, fun i v hv => by rw [Nat.zero_add, cell_of_row w b i cs.toArray t _ hh]; simpa using hv⟩⟩
/-- []byte("..") of a constant. -/
theorem xv_mark (k : Nat) {F : Fr} {d : Option Nat} {t e e' ty : TypeId} {pos : String} {af : Array Edge} {gd : Option (Nat × Bool)} {x : Operand} {b : Nat} {cs : List Value} {K : Bool → Value → List Res → Prop}
    (hk : nth L k = some (.blk b e' cs)) (ht : P.underlying t = some (.slice e)) (he : P.underlying e = some (.int .u8)) (hx : ev F x = .slice (some ⟨b, 0, none⟩) n c)
    (hK : K true (.slice (some ⟨b, 0, none⟩) n c) (L.set k (rdR b e' cs))) : XV P M W ⟨d, .convert t t x, ty, pos, af, gd⟩ F L K := fun w hw => by
  have hh : w.heap[b]? = some (.cells cs.toArray e' (0, 0)) := hw.holds _ (nth_mem hk)
  have hsh : w.shape? b = some (e', cs.length) := by unfold World.shape?; rw [hh]; simp
  refine ⟨_, _, w.freeze ⟨b, cs.length, none⟩ 1, ?_, ?_, hK⟩
  · simp only [execOp, hx]
    have : (convert t t (.slice (some ⟨b, 0, none⟩) n c)).run P w = .ok (.slice (some ⟨b, 0, none⟩) n c) (w.freeze ⟨b, cs.length, none⟩ 1) := by
      simp [convert, run_underlying ht, run_underlying he, markStringish, hsh]
    simp [this]
  · have hblk : (w.freeze ⟨b, cs.length, none⟩ 1).heap[b]? = some (.cells cs.toArray e' (cs.length, cs.length + 1)) := by
      simp [World.freeze, Array.getElem?_modify, hh]
    refine hw.replace hk rfl hblk (fun c hc => ?_) (by simp [World.freeze]) rfl rfl rfl
    have hne : b ≠ c := fun e => hc (by simp [Res.foot, e])
    simp [World.freeze, Array.getElem?_modify, hne]
/-- An element of an array value. -/
theorem xv_arr {F : Fr} {d : Option Nat} {t ty e : TypeId} {pos : String} {af : Array Edge} {gd : Option (Nat × Bool)} {x i : Operand} {cs : List Value} {kk : IntKind} {j m : Nat} {u : Value} {K : Bool → Value → List Res → Prop}
    (hx : ev F x = .agg cs.toArray) (hi : ev F i = .int kk (j : Int)) (ht : P.underlying t = some (.array m e)) (he : tsz P e = some (false, 1)) (hj : j < m) (hu : cs[j]? = some u)
    (hK : K true u L) : XV P M W ⟨d, .index t x i, ty, pos, af, gd⟩ F L K := fun w hw => by
  obtain ⟨h1, h2⟩ := tsz_run he w
  refine ⟨_, _, w, ?_, hw, hK⟩
  have hlt : (0 : Int) ≤ (j : Int) ∧ (j : Int) < (m : Int) := by omega
  simp [execOp, hx, hi, Instr.index, asIntOf, run_underlying ht, hlt, part, h1, h2, hu]
  intro h0
  omega
end
theorem cS : type_of% (And.intro (And.intro (And.intro @look_snap @putL_snap) (And.intro @neB_snap @look_rdR)) (And.intro (And.intro @putL_rdR @neB_rdR) (And.intro @fresh_snap @fresh_rdR))) := (And.intro (And.intro (And.intro @look_snap @putL_snap) (And.intro @neB_snap @look_rdR)) (And.intro (And.intro @putL_rdR @neB_rdR) (And.intro @fresh_snap @fresh_rdR)))
end Go.Proofs.Ytaifnipgefkemaa
/- append onto a slice that is not the call's own and has no room. -/
namespace Go.Proofs.Ytaifnipgefkemaa
open Go.RowKit Go.Shelf
set_option linter.unusedVariables false
set_option linter.unusedSimpArgs false
section
variable {P : Program} {M : List Nat} {W : World} {L : List Res} {K : Bool → Value → List Res → Prop}
/-- Something is appended: a new row. -/
theorem appV_full {ty t e : TypeId} {size bytes n m c : Nat} {B A : Option Addr} {olds news : List Value} (ht : tap P t = some (e, size, bytes)) (h0 : 0 < n) (hm : 0 < m)
    (hdst : ∀ w, St M W L w → Sl w w.heap.size size B n n olds) (hsrc : ∀ w, St M W L w → Reads w w.heap.size size A m news)
    (h63 : n + m ≤ 9223372036854775807) (hbytes : (n + m) * bytes ≤ 140737488355328)
    (hk : ∀ A' c', (olds ++ news).length = (n + m) * size → rowAt A' (n + m) W M L → K true (.slice A' (n + m) c') (.row (.slice A' (n + m) c') e size (n + m) (olds ++ news) :: L)) : appV P M W ty t L (.slice B n n) (.slice A m c) K := by
  intro w hw
  obtain ⟨hu, i, z, hi, hz, hs, hby, hzs, hsz⟩ := tap_run ht
  have hd := hdst w hw
  have hr := hsrc w hw
  obtain ⟨b, off, rfl, hb, hc⟩ := hd.cells h0
  obtain ⟨ad, rfl, hB, hcr⟩ := hr.2 hm
  obtain ⟨v', w', hrun, hown, hg⟩ := run_append_arg_grows (P := P) w t ty e i z size bytes hu hi hz hs hby hzs hsz ⟨b, off, none⟩ n n olds hd.len (fun j u hj => by rw [Addr.add_lit]; exact hc j u hj) ad m c news hr.1 hcr (by omega) (by unfold maxLen; omega) hbytes
  obtain ⟨A', c', rfl⟩ := slice_of_row hown
  have hB : Below w.heap.size w w' := ⟨hg.os, hg.tape, hg.output, hg.size, fun k hk => hg.block k hk (by simp)⟩
  have hfin := hw.addRow hB hown
  exact ⟨_, _, w', hrun, hfin, hk A' c' hown.1 hfin.row_at⟩
/-- Nothing is appended: the same slice. -/
theorem appV_none {ty t e : TypeId} {size bytes n c d : Nat} {b : Addr} {A : Option Addr} (ht : tap P t = some (e, size, bytes)) (hc : n ≤ d)
    (hk : K true (.slice (some b) n d) L) : appV P M W ty t L (.slice (some b) n d) (.slice A 0 c) K := by
  intro w hw
  obtain ⟨hu, i, z, hi, hz, hs, hby, hzs, hsz⟩ := tap_run ht
  refine ⟨_, _, w, ?_, hw, hk⟩
  cases A with
  | none => simp [Builtin.append_, run_underlying hu, sizeOf, typeInfo, hi, Builtin.lenOf, Builtin.firstCells, hc, storeCells]
  | some a =>
    have := run_firstCells_some (P := P) w i.size 0 a 0 c [] (by simp) (by simp)
    simp [Builtin.append_, run_underlying hu, sizeOf, typeInfo, hi, Builtin.lenOf, hc, this, storeCells]
end
end Go.Proofs.Ytaifnipgefkemaa
/- make, copy, clear as laws of the engine; a loop unrolled once; a block as a row that is shorter than it. -/
namespace Go.Proofs.Ytaifnipgefkemaa
open Go.RowKit Go.Shelf
set_option linter.unusedVariables false
set_option linter.unusedSimpArgs false
section
variable {P : Program} {M : List Nat} {W : World} {L : List Res}
theorem xv_make {F : Fr} {d : Option Nat} {t e ty : TypeId} {pos : String} {af : Array Edge} {gd : Option (Nat × Bool)} {l c : Operand} {K : Bool → Value → List Res → Prop} {bytes n : Nat} {kl kc : IntKind} {u : Value}
    (ht : tap P t = some (e, 1, bytes)) (hu : tzero P e = some [u]) (hl : ev F l = .int kl (n : Int)) (hc : ev F c = .int kc (n : Int)) (hb : bytes * n ≤ 281474976710656) (h63 : n ≤ 9223372036854775807)
    (hK : ∀ b, W.heap.size ≤ b → fresh L b → K true (.slice (some ⟨b, 0, none⟩) n n) (.blk b e (List.replicate n u) :: L)) :
    XV P M W ⟨d, .makeSlice t l c, ty, pos, af, gd⟩ F L K := by
  intro w hw
  obtain ⟨hut, i, z, hi, hz, hsz, hby, hzs, hsz0⟩ := tap_run ht
  have hzc : z.cells = #[u] := by
    unfold tzero at hu
    rw [hi] at hu
    simp only [hz] at hu
    have : z.cells.toList = [u] := by simpa using hu
    rw [← this]
  have hb' : (i.bytes : Int) * (n : Int) ≤ 281474976710656 := by
    rw [hby]
    have h : ((bytes * n : Nat) : Int) ≤ 281474976710656 := by omega
    rwa [Int.natCast_mul] at h
  have hr := run_make (P := P) w t e i z hut hi hz kl kc n n (by omega) (Int.le_refl _) hb' (by omega)
  simp only [Int.toNat_natCast, hsz, Nat.mul_one, hzc] at hr
  refine ⟨_, _, _, ?_, hw.alloc e (List.replicate n u), hK w.heap.size hw.pres.size (fresh_of hw)⟩
  have e1 : (List.replicate n u).toArray = madeCells #[u] n := by rw [← toList_madeCells_one]
  simp only [execOp, hl, hc, Sem.run_bind, hr, Result.andThen_ok, Sem.run_pure, e1]
theorem pres_setRow (w : World) (b : Nat) (cs : Array Value) : Pres [b] w (w.setRow b cs) :=
  ⟨rfl, rfl, rfl, by simp [World.setRow], fun j _ hj => setRow_other w b j cs (by simpa using hj)⟩
theorem xv_copy (k : Nat) {F : Fr} {d : Option Nat} {dT sT e T ty : TypeId} {pos : String} {af : Array Edge} {gd : Option (Nat × Bool)} {x y : Operand} {K : Bool → Value → List Res → Prop} {bytes b o n c m c' : Nat} {a : Addr} {us news : List Value}
    (ht : tap P dT = some (e, 1, bytes)) (hx : ev F x = .slice (some ⟨b, o, none⟩) n c) (hy : ev F y = .slice (some a) m c') (hk : nth L k = some (.blk b T us))
    (hn : news.length = Nat.min m n) (hsrc : ∀ w, St M W L w → ∀ j v, news[j]? = some v → w.cell? (a.add j) = some v) (hfit : o + news.length ≤ us.length) (h1 : ones news = true)
    (hK : K true (.int .i64 (news.length : Int)) (L.set k (.blk b T (us.take o ++ news ++ us.drop (o + news.length))))) :
    XV P M W ⟨d, .call { callee := .builtin .copy, args := #[x, y], argTypes := #[dT, sT] }, ty, pos, af, gd⟩ F L K := by
  intro w hw
  obtain ⟨hut, i, z, hi, hz, hsz, hby, hzs, hsz0⟩ := tap_run ht
  have hmem := nth_mem hk
  have hh : w.heap[b]? = some (.cells us.toArray T (0, 0)) := hw.holds _ hmem
  have hr := run_copy_row (P := P) w dT sT ty e b o n c a m c' us.toArray T news hut (by rw [hi]; simp [hsz]) hh hn (hsrc w hw) (by simpa using hfit) (fun v hv => List.all_eq_true.1 h1 v hv)
  refine ⟨_, _, _, ?_, hw.mod hk (pres_setRow w b _) (setRow_heap w b us.toArray (us.toArray.toList.take o ++ news ++ us.toArray.toList.drop (o + news.length)).toArray T (0, 0) hh), hK⟩
  simp only [execOp, resolve, Sem.run_bind, Sem.run_pure, Result.andThen_ok, invoke, builtin, List.map_toArray, List.map_cons, List.map_nil, hx, hy, hr]
  rfl
theorem xv_clear (k : Nat) {F : Fr} {d : Option Nat} {t e T ty : TypeId} {pos : String} {af : Array Edge} {gd : Option (Nat × Bool)} {x : Operand} {K : Bool → Value → List Res → Prop} {bytes b o n c : Nat} {u : Value} {us : List Value}
    (ht : tap P t = some (e, 1, bytes)) (hu : tzero P e = some [u]) (hu1 : u.oneCell' = true) (hx : ev F x = .slice (some ⟨b, o, none⟩) (n + 1) c) (hk : nth L k = some (.blk b T us)) (hfit : o + (n + 1) ≤ us.length)
    (hK : K true (.tuple #[]) (L.set k (.blk b T (us.take o ++ List.replicate (n + 1) u ++ us.drop (o + (n + 1)))))) :
    XV P M W ⟨d, .call { callee := .builtin .clear, args := #[x], argTypes := #[t] }, ty, pos, af, gd⟩ F L K := by
  intro w hw
  obtain ⟨hut, i, z, hi, hz, hsz, hby, hzs, hsz0⟩ := tap_run ht
  have hzc : z.cells = #[u] := by
    unfold tzero at hu
    rw [hi] at hu
    simp only [hz] at hu
    have : z.cells.toList = [u] := by simpa using hu
    rw [← this]
  have hh : w.heap[b]? = some (.cells us.toArray T (0, 0)) := hw.holds _ (nth_mem hk)
  have hzl : (Builtin.zeroCells z.cells (n + 1)).toList = List.replicate (n + 1) u := by
    rw [hzc]
    apply List.ext_getElem?
    intro j
    by_cases hj : j < n + 1
    · have h1 : j % 1 = 0 := Nat.mod_one j
      simp [Builtin.zeroCells, hj, h1, Array.getElem?_range]
    · simp [Builtin.zeroCells, hj]
  have hst := run_storeCells_at P b o T (List.replicate (n + 1) u) 0 us.toArray w hh (by simpa using hfit) (by intro v hv; rw [List.eq_of_mem_replicate hv]; exact hu1)
  have hr : (Builtin.clear_ #[t] ty #[.slice (some ⟨b, o, none⟩) (n + 1) c]).run P w = .ok (.tuple #[]) (w.setRow b (us.take (o + 0) ++ List.replicate (n + 1) u ++ us.drop (o + 0 + (List.replicate (n + 1) u).length)).toArray) := by
    simp [Builtin.clear_, run_underlying hut, zeroValue, typeInfo, hi, hz, hzl]
    simpa using congrArg (fun r => r.andThen fun _ w => Result.ok (Value.tuple #[]) w) hst
  refine ⟨_, _, _, ?_, hw.mod hk (pres_setRow w b _) (setRow_heap w b us.toArray (us.take (o + 0) ++ List.replicate (n + 1) u ++ us.drop (o + 0 + (List.replicate (n + 1) u).length)).toArray T (0, 0) hh), by simpa using hK⟩
  simp only [execOp, resolve, Sem.run_bind, Sem.run_pure, Result.andThen_ok, invoke, builtin, List.map_toArray, List.map_cons, List.map_nil, hx, hr]
variable {n : Nat} {F : Fr} {Q : Exit → Fr → List Res → Prop}
/-- So many rounds of a loop, walked one by one. -/
def timesV (P : Program) (M : List Nat) (W : World) (n : Nat) (c : Code) (Q : Exit → Fr → List Res → Prop) : Nat → Fr → List Res → Prop
  | 0, _, _ => False
  | m + 1, F, L => CV P M W n c F L (thenQ (timesV P M W n c Q m) Q)
theorem cv_times {c : Code} (m : Nat) (h : timesV P M W n c Q m F L) : CV P M W n (.loop c) F L Q := fun a w ha hw => by
  intro b k cs
  have key : ∀ m F L a w, timesV P M W n c Q m F L → FrOK n a F → St M W L w →
      ∃ e a' w', liftQ M W n Q e a' w' ∧ Arrives P (lone (b.at a (.code c :: .inLoop c :: k)) cs w) b k cs e a' w' := by
    intro m
    induction m with
    | zero => intro F L a w h; exact h.elim
    | succ m ih =>
      intro F L a w hI ha hw
      obtain ⟨e, a₁, w₁, hq, harr⟩ := hI a w ha hw b (.inLoop c :: k) cs
      cases e with
      | normal =>
        obtain ⟨F', L', h1, h2, hI₁⟩ := hq
        obtain ⟨e₂, a₂, w₂, hq₂, harr₂⟩ := ih F' L' a₁ w₁ hI₁ h1 h2
        exact ⟨e₂, a₂, w₂, hq₂, .of_steps (Steps.trans harr (.one step_inLoop)) harr₂⟩
      | exit id => exact ⟨.exit id, a₁, w₁, hq, .pass (x := .inLoop c) rfl (fun _ _ => .inl (by simp)) harr⟩
      | goto l => exact ⟨.goto l, a₁, w₁, hq, .pass (x := .inLoop c) rfl (fun _ _ => .inl (by simp)) harr⟩
      | ret => exact ⟨.ret, a₁, w₁, hq, .pass (x := .inLoop c) rfl (fun _ _ => .inl (by simp)) harr⟩
      | panic ch => exact hq.elim
      | outgrown => exact hq.elim
  obtain ⟨e, a', w', hq, harr⟩ := key m F L a w h ha hw
  exact ⟨e, a', w', hq, .of_steps (.one step_loop) harr⟩
theorem St.blk_pre {w : World} {b : Nat} {t : TypeId} {size n c : Nat} {cs : List Value} (h : St M W (.blk b t cs :: L) w) (hl : cs.length = c * size) (hnc : n ≤ c) (hn : c ≤ 9223372036854775807) : St M W (.row (.slice (some ⟨b, 0, none⟩) n c) t size n (cs.take (n * size)) :: L) w := by
  have ho := h.own _ (.head _)
  refine h.tail.add _ ⟨by rw [List.length_take, hl, Nat.min_eq_left (Nat.mul_le_mul_right _ hnc)], .inr ⟨b, c, cs.toArray, rfl, Nat.zero_le _, h.holds _ (.head _), hnc, by unfold maxLen; omega, by simpa using hl, by simp⟩⟩ ?_ ?_
  · intro b' hb'
    exact ho b' (by simpa [Res.foot, Value.ownBlock] using hb')
  · intro s hs b' hb' hbs
    exact (List.pairwise_cons.1 h.apart).1 s hs b' (by simpa [Res.foot, Value.ownBlock] using hb') hbs
theorem cv_blkpre {c : Code} {b : Nat} {t : TypeId} {cs : List Value} (size k cap : Nat) (hl : cs.length = cap * size) (hk : k ≤ cap) (hn : cap ≤ 9223372036854775807) (h : CV P M W n c F (.row (.slice (some ⟨b, 0, none⟩) k cap) t size k (cs.take (k * size)) :: L) Q) : CV P M W n c F (.blk b t cs :: L) Q := fun a w ha hw => h a w ha (hw.blk_pre hl hk hn)
end
end Go.Proofs.Ytaifnipgefkemaa
/- Regions that draw their order among operations that act: a tree of orders. -/
namespace Go.Proofs.Ytaifnipgefkemaa
open Go.RowKit Go.Shelf
set_option linter.unusedVariables false
set_option linter.unusedSimpArgs false
/-- rd: only reads, taken first; act: acts, nothing else may come up; alt: two that act may come up. -/
inductive PT where
  | done
  | rd (i : Nat) (r : PT)
  | act (i : Nat) (r : PT)
  | alt (i j : Nat) (p q : PT)
def PT.ok (md : Region.Mode) (ops : Array Oper) (fin : List Nat) : PT → Array Bool → Bool
  | .done, listed => (Region.ready md ops listed).isEmpty
  | .rd i r, listed => waited md ops fin i listed && Region.free md ops listed i && (Region.ready md ops listed).contains i && PT.ok md ops fin r (listed.setIfInBounds i true)
  | .act i r, listed => (Region.ready md ops listed == [i]) && PT.ok md ops fin r (listed.setIfInBounds i true)
  | .alt i j p q, listed => (Region.ready md ops listed == [i, j]) && PT.ok md ops fin p (listed.setIfInBounds i true) && PT.ok md ops fin q (listed.setIfInBounds j true)
def PT.lenOk : PT → Nat → Bool
  | .done, n => n == 0
  | .rd _ r, n + 1 => r.lenOk n
  | .act _ r, n + 1 => r.lenOk n
  | .alt _ _ p q, n + 1 => p.lenOk n && q.lenOk n
  | _, 0 => false
section
variable {P : Program} {ops : Array Oper} {Q : Exit → Act → World → Prop} {md : Region.Mode} {S : World → Prop} {fin : List Nat}
def wpT (P : Program) (ops : Array Oper) (Q : Exit → Act → World → Prop) (S : World → Prop) (fin : List Nat) : PT → Act → World → Prop
  | .done, a, w => Q .normal a w
  | .rd i r, a, w => S w ∧ ∃ o v, ops[i]? = some o ∧ YieldsIf P ops S o v a ∧ wpT P ops Q S fin r (a.put o.dst v) w
  | .act i r, a, w => ∃ o, ops[i]? = some o ∧ wpList P ops (Exit.then (fun a' w' => (fin.contains i = false → S w') ∧ wpT P ops Q S fin r a' w') Q) [o] a w
  | .alt i j p q, a, w => (∃ o, ops[i]? = some o ∧ wpList P ops (Exit.then (fun a' w' => (fin.contains i = false → S w') ∧ wpT P ops Q S fin p a' w') Q) [o] a w) ∧
      (∃ o, ops[j]? = some o ∧ wpList P ops (Exit.then (fun a' w' => (fin.contains j = false → S w') ∧ wpT P ops Q S fin q a' w') Q) [o] a w)
theorem tree_sound (hs : Region.noSelect ops = true) (hQ : ∀ c d v (a : Act) w, Q (.panic c) (a.put d v) w → Q (.panic c) a w) :
    ∀ (p : PT) (n : Nat) (listed : Array Bool) (a : Act) (w : World), p.ok md ops fin listed = true → p.lenOk n = true → wpT P ops Q S fin p a w → wpAnyN P md ops Q S fin n listed a w
  | .done, n, listed, a, w, hp, hl, h => by
    simp only [PT.lenOk, beq_iff_eq] at hl
    subst hl
    exact ⟨by simpa [PT.ok] using hp, h⟩
  | .rd i r, 0, listed, a, w, hp, hl, h => by cases hl
  | .act i r, 0, listed, a, w, hp, hl, h => by cases hl
  | .alt i j p q, 0, listed, a, w, hp, hl, h => by cases hl
  | .rd i r, n + 1, listed, a, w, hp, hl, h => by
    simp only [PT.ok, Bool.and_eq_true] at hp
    obtain ⟨⟨⟨h1, h2⟩, h3⟩, h4⟩ := hp
    obtain ⟨hS, o, v, ho, hy, hr⟩ := h
    exact wpAnyN_take ho h1 hs h2 h3 (fun c a w => hQ c _ _ a w) hy hS (tree_sound hs hQ r n _ _ _ h4 hl hr)
  | .act i r, n + 1, listed, a, w, hp, hl, h => by
    simp only [PT.ok, Bool.and_eq_true, beq_iff_eq] at hp
    obtain ⟨h1, h2⟩ := hp
    obtain ⟨o, ho, hlst⟩ := h
    refine ⟨fun h0 => (by rw [h0] at h1; cases h1), fun j hj => ?_⟩
    rw [h1] at hj
    obtain rfl : j = i := by simpa using hj
    exact wpOp_mono (fun a' w' h' => ⟨h'.1, tree_sound hs hQ r n _ _ _ h2 hl h'.2⟩) (wpOp_of_list ho hlst)
  | .alt i j p q, n + 1, listed, a, w, hp, hl, h => by
    simp only [PT.ok, Bool.and_eq_true, beq_iff_eq] at hp
    simp only [PT.lenOk, Bool.and_eq_true] at hl
    obtain ⟨⟨h1, h2⟩, h3⟩ := hp
    obtain ⟨⟨o, ho, hlst⟩, ⟨o2, ho2, hlst2⟩⟩ := h
    refine ⟨fun h0 => (by rw [h0] at h1; cases h1), fun k hk => ?_⟩
    rw [h1] at hk
    simp only [List.mem_cons, List.not_mem_nil, or_false] at hk
    rcases hk with rfl | rfl
    · exact wpOp_mono (fun a' w' h' => ⟨h'.1, tree_sound hs hQ p n _ _ _ h2 hl.1 h'.2⟩) (wpOp_of_list ho hlst)
    · exact wpOp_mono (fun a' w' h' => ⟨h'.1, tree_sound hs hQ q n _ _ _ h3 hl.2 h'.2⟩) (wpOp_of_list ho2 hlst2)
theorem wp_region_tree {id : Nat} {a : Act} {w : World} (p : PT) (S : World → Prop) (fin : List Nat) (hm : P.follows .mixedOrders = true) (hs : Region.noSelect ops = true)
    (hp : p.ok .any ops fin (Array.replicate ops.size false) = true) (hz : p.lenOk ops.size = true) (hQ : ∀ c d v (a : Act) w, Q (.panic c) (a.put d v) w → Q (.panic c) a w)
    (h : wpT P ops Q S fin p a w.drew) : (Code.region id ops true).wp P Q a w :=
  wp_region_any hm (wpAny_of_need _ _ _ _ (tree_sound hs hQ p _ _ _ _ hp hz h))
end
section
variable {P : Program} {M : List Nat} {W : World} {n : Nat}
/-- By a tree, over the abstract state. -/
def vct (P : Program) (M : List Nat) (W : World) (n : Nat) (os : List Oper) (L0 : List Res) (fin : List Nat) (tok : Bool) : PT → Fr → List Res → (Fr → List Res → Prop) → Prop
  | .done, F, L, K => K F L
  | .rd i r, F, L, K => match nth os i with
    | some o => guardV os F o.guard (readV P M W o F L0 fun tok v => vct P M W n os L0 fin tok r (updo F o.dst v) L K) (vct P M W n os L0 fin tok r (updo F o.dst undef) L K)
    | none => False
  | .act i r, F, L, K => match nth os i with
    | some o => guardV os F o.guard (stepV P M W o F L fun tok v L' => (fin.contains i = false → Suf L0 L') ∧ vct P M W n os L0 fin tok r (updo F o.dst v) L' K) (vct P M W n os L0 fin tok r (updo F o.dst undef) L K)
    | none => False
  | .alt i j p q, F, L, K => (match nth os i with
    | some o => guardV os F o.guard (stepV P M W o F L fun tok v L' => (fin.contains i = false → Suf L0 L') ∧ vct P M W n os L0 fin tok p (updo F o.dst v) L' K) (vct P M W n os L0 fin tok p (updo F o.dst undef) L K)
    | none => False) ∧ (match nth os j with
    | some o => guardV os F o.guard (stepV P M W o F L fun tok v L' => (fin.contains j = false → Suf L0 L') ∧ vct P M W n os L0 fin tok q (updo F o.dst v) L' K) (vct P M W n os L0 fin tok q (updo F o.dst undef) L K)
    | none => False)
def vtg (P : Program) (M : List Nat) (W : World) (n : Nat) (os : List Oper) (L0 : List Res) (fin : List Nat) (x : Bool) (i : Nat) (s : Option Bool) (o : Oper) (r : PT) (F : Fr) (L : List Res) (K : Fr → List Res → Prop) : Prop :=
  match s, x with
  | some t, true => (t = true → readV P M W o F L0 fun tok v => vct P M W n os L0 fin tok r (updo F o.dst v) L K) ∧ (t = false → vct P M W n os L0 fin true r (updo F o.dst undef) L K)
  | some t, false => (t = true → stepV P M W o F L fun tok v L' => (fin.contains i = false → Suf L0 L') ∧ vct P M W n os L0 fin tok r (updo F o.dst v) L' K) ∧ (t = false → vct P M W n os L0 fin true r (updo F o.dst undef) L K)
  | none, _ => False
def vto (P : Program) (M : List Nat) (W : World) (n : Nat) (os : List Oper) (L0 : List Res) (fin : List Nat) (x : Bool) (i : Nat) (o : Option Oper) (r : PT) (F : Fr) (L : List Res) (K : Fr → List Res → Prop) : Prop :=
  match o with
  | none => False
  | some o => match o.guard with
    | none => (match x with
      | true => readV P M W o F L0 fun tok v => vct P M W n os L0 fin tok r (updo F o.dst v) L K
      | false => stepV P M W o F L fun tok v L' => (fin.contains i = false → Suf L0 L') ∧ vct P M W n os L0 fin tok r (updo F o.dst v) L' K)
    | some (j, b) => vtg P M W n os L0 fin x i (gst os F j b) o r F L K
section
variable {os : List Oper} {L0 : List Res} {fin : List Nat} {x : Bool} {i j : Nat} {o : Oper} {r p q : PT} {F : Fr} {L : List Res} {K : Fr → List Res → Prop}
theorem vto_eq_rd : vto P M W n os L0 fin true i (nth os i) r F L K = vct P M W n os L0 fin true (.rd i r) F L K := by
  simp only [vct, vto]
  cases nth os i with
  | none => rfl
  | some o =>
    simp only
    cases hg : o.guard with
    | none => rfl
    | some jb =>
      obtain ⟨j, b⟩ := jb
      simp only
      rw [guardV_gst]
      unfold vtg
      cases gst os F j b <;> rfl
theorem vto_eq_act : vto P M W n os L0 fin false i (nth os i) r F L K = vct P M W n os L0 fin true (.act i r) F L K := by
  simp only [vct, vto]
  cases nth os i with
  | none => rfl
  | some o =>
    simp only
    cases hg : o.guard with
    | none => rfl
    | some jb =>
      obtain ⟨j, b⟩ := jb
      simp only
      rw [guardV_gst]
      unfold vtg
      cases gst os F j b <;> rfl
theorem vct_done : vct P M W n os L0 fin true .done F L K = K F L := rfl
theorem vct_rd : vct P M W n os L0 fin true (.rd i r) F L K = vto P M W n os L0 fin true i (nth os i) r F L K := vto_eq_rd.symm
theorem vct_act : vct P M W n os L0 fin true (.act i r) F L K = vto P M W n os L0 fin false i (nth os i) r F L K := vto_eq_act.symm
theorem vct_alt : vct P M W n os L0 fin true (.alt i j p q) F L K = (vto P M W n os L0 fin false i (nth os i) p F L K ∧ vto P M W n os L0 fin false j (nth os j) q F L K) := by
  rw [vto_eq_act, vto_eq_act]
  rfl
variable {d : Option Nat} {op : Op} {ty : TypeId} {pos : String} {af : Array Edge} {b : Bool}
theorem vto_read : vto P M W n os L0 fin true i (some ⟨d, op, ty, pos, af, none⟩) r F L K = readV P M W ⟨d, op, ty, pos, af, none⟩ F L0 fun tok v => vct P M W n os L0 fin tok r (updo F d v) L K := rfl
theorem vto_step : vto P M W n os L0 fin false i (some ⟨d, op, ty, pos, af, none⟩) r F L K = stepV P M W ⟨d, op, ty, pos, af, none⟩ F L fun tok v L' => (fin.contains i = false → Suf L0 L') ∧ vct P M W n os L0 fin tok r (updo F d v) L' K := rfl
theorem vto_guard : vto P M W n os L0 fin x i (some ⟨d, op, ty, pos, af, some (j, b)⟩) r F L K = vtg P M W n os L0 fin x i (gst os F j b) ⟨d, op, ty, pos, af, some (j, b)⟩ r F L K := rfl
theorem vtg_read : vtg P M W n os L0 fin true i (some true) o r F L K = readV P M W o F L0 fun tok v => vct P M W n os L0 fin tok r (updo F o.dst v) L K := by simp [vtg]
theorem vtg_step : vtg P M W n os L0 fin false i (some true) o r F L K = stepV P M W o F L fun tok v L' => (fin.contains i = false → Suf L0 L') ∧ vct P M W n os L0 fin tok r (updo F o.dst v) L' K := by simp [vtg]
theorem vtg_false : vtg P M W n os L0 fin x i (some false) o r F L K = vct P M W n os L0 fin true r (updo F o.dst undef) L K := by cases x <;> simp [vtg]
end
/-- Behind an operation of fin nothing reads. -/
def PT.noRead (fin : List Nat) : PT → Bool
  | .done => true
  | .rd _ _ => false
  | .act i r => fin.contains i && r.noRead fin
  | .alt i j p q => fin.contains i && fin.contains j && p.noRead fin && q.noRead fin
def PT.finOk (fin : List Nat) : PT → Bool
  | .done => true
  | .rd _ r => r.finOk fin
  | .act i r => if fin.contains i then r.noRead fin else r.finOk fin
  | .alt i j p q => (if fin.contains i then p.noRead fin else p.finOk fin) && (if fin.contains j then q.noRead fin else q.finOk fin)
theorem PT.fin_of_no {fin : List Nat} : ∀ (p : PT), p.noRead fin = true → p.finOk fin = true
  | .done, _ => rfl
  | .rd _ _, h => by cases h
  | .act i r, h => by
    simp only [PT.noRead, Bool.and_eq_true] at h
    simp only [PT.finOk]
    rw [if_pos h.1]
    exact h.2
  | .alt i j p q, h => by
    simp only [PT.noRead, Bool.and_eq_true] at h
    simp only [PT.finOk]
    rw [if_pos h.1.1.1, if_pos h.1.1.2, h.1.2, h.2]
    rfl
theorem vct_sound {ops : Array Oper} {Q : Exit → Act → World → Prop} {L0 : List Res} {fin : List Nat} (hn : ∀ j o d, nth ops.toList j = some o → o.dst = some d → d < n) (hap : L0.Pairwise (fun r s => ∀ b ∈ r.foot, b ∉ s.foot)) : ∀ (p : PT) {F : Fr} {L : List Res} {K : Fr → List Res → Prop} {a : Act} {w : World},
    vct P M W n ops.toList L0 fin true p F L K → FrOK n a F → St M W L w → p.finOk fin = true → (p.noRead fin = true ∨ Suf L0 L) → (∀ F' L' a' w', K F' L' → FrOK n a' F' → St M W L' w' → Q .normal a' w') → wpT P ops Q (St M W L0) fin p a w
  | .done, F, L, K, a, w, h, ha, hw, hf, hsuf, hq => hq _ _ _ _ h ha hw
  | .rd i r, F, L, K, a, w, h, ha, hw, hf, hsuf, hq => by
    simp only [vct] at h
    have hsuf' : Suf L0 L := hsuf.resolve_left (by simp [PT.noRead])
    have hS : St M W L0 w := hw.of_suf hsuf' hap
    split at h
    · rename_i o ho
      have hd : dstOk n o.dst := by
        cases hdo : o.dst with
        | none => trivial
        | some d => exact hn i o d ho hdo
      rcases guardV_sound ha hn h with ⟨hwt, h⟩ | ⟨hwt, h⟩
      · obtain ⟨v, hr, hk⟩ := readV_sound h
        exact ⟨hS, o, v, nth_op ho, .inl ⟨hwt, fun w' hw' => by rw [ha.eval]; exact hr w' hw'⟩, vct_sound hn hap r hk (ha.put hd v) hw hf (.inr hsuf') hq⟩
      · exact ⟨hS, o, undef, nth_op ho, .inr ⟨hwt, rfl⟩, vct_sound hn hap r h (ha.put hd undef) hw hf (.inr hsuf') hq⟩
    · exact h.elim
  | .act i r, F, L, K, a, w, h, ha, hw, hf, hsuf, hq => by
    simp only [vct] at h
    split at h
    · rename_i o ho
      have hd : dstOk n o.dst := by
        cases hdo : o.dst with
        | none => trivial
        | some d => exact hn i o d ho hdo
      have hf' : r.finOk fin = true := by
        simp only [PT.finOk] at hf
        split at hf
        · exact r.fin_of_no hf
        · exact hf
      have hnext : ∀ L', (fin.contains i = false → Suf L0 L') → (r.noRead fin = true ∨ Suf L0 L') := by
        intro L' hL
        cases hc : fin.contains i with
        | true =>
          simp only [PT.finOk, hc, if_true] at hf
          exact .inl hf
        | false => exact .inr (hL hc)
      have hsame : fin.contains i = false → Suf L0 L := fun hc => hsuf.resolve_left (by simp only [PT.noRead, hc, Bool.false_and, Bool.and_false, Bool.false_eq_true, not_false_eq_true])
      refine ⟨o, nth_op ho, ?_⟩
      rcases guardV_sound ha hn h with ⟨hwt, h⟩ | ⟨hwt, h⟩
      · unfold wpList
        rw [if_pos hwt]
        refine .inl (step_sound h ha.eval hw fun v L' w' hk hs => ?_)
        exact ⟨fun hc => hs.of_suf (hk.1 hc) hap, vct_sound hn hap r hk.2 (ha.put hd v) hs hf' (hnext L' hk.1) hq⟩
      · unfold wpList
        rw [hwt]
        exact ⟨fun hc => hw.of_suf (hsame hc) hap, vct_sound hn hap r h (ha.put hd undef) hw hf' (hnext L hsame) hq⟩
    · exact h.elim
  | .alt i j p q, F, L, K, a, w, h, ha, hw, hf, hsuf, hq => by
    simp only [vct] at h
    obtain ⟨h1, h2⟩ := h
    simp only [PT.finOk, Bool.and_eq_true] at hf
    refine ⟨?_, ?_⟩
    · split at h1
      · rename_i o ho
        have hd : dstOk n o.dst := by
          cases hdo : o.dst with
          | none => trivial
          | some d => exact hn i o d ho hdo
        have hf' : p.finOk fin = true := by
          have := hf.1
          split at this
          · exact p.fin_of_no this
          · exact this
        have hnext : ∀ L', (fin.contains i = false → Suf L0 L') → (p.noRead fin = true ∨ Suf L0 L') := by
          intro L' hL
          cases hc : fin.contains i with
          | true =>
            have := hf.1
            rw [hc, if_pos rfl] at this
            exact .inl this
          | false => exact .inr (hL hc)
        have hsame : fin.contains i = false → Suf L0 L := fun hc => hsuf.resolve_left (by simp only [PT.noRead, hc, Bool.false_and, Bool.and_false, Bool.false_eq_true, not_false_eq_true])
        refine ⟨o, nth_op ho, ?_⟩
        rcases guardV_sound ha hn h1 with ⟨hwt, h⟩ | ⟨hwt, h⟩
        · unfold wpList
          rw [if_pos hwt]
          refine .inl (step_sound h ha.eval hw fun v L' w' hk hs => ?_)
          exact ⟨fun hc => hs.of_suf (hk.1 hc) hap, vct_sound hn hap p hk.2 (ha.put hd v) hs hf' (hnext L' hk.1) hq⟩
        · unfold wpList
          rw [hwt]
          exact ⟨fun hc => hw.of_suf (hsame hc) hap, vct_sound hn hap p h (ha.put hd undef) hw hf' (hnext L hsame) hq⟩
      · exact h1.elim
    · split at h2
      · rename_i o ho
        have hd : dstOk n o.dst := by
          cases hdo : o.dst with
          | none => trivial
          | some d => exact hn j o d ho hdo
        have hf' : q.finOk fin = true := by
          have := hf.2
          split at this
          · exact q.fin_of_no this
          · exact this
        have hnext : ∀ L', (fin.contains j = false → Suf L0 L') → (q.noRead fin = true ∨ Suf L0 L') := by
          intro L' hL
          cases hc : fin.contains j with
          | true =>
            have := hf.2
            rw [hc, if_pos rfl] at this
            exact .inl this
          | false => exact .inr (hL hc)
        have hsame : fin.contains j = false → Suf L0 L := fun hc => hsuf.resolve_left (by simp only [PT.noRead, hc, Bool.false_and, Bool.and_false, Bool.false_eq_true, not_false_eq_true])
        refine ⟨o, nth_op ho, ?_⟩
        rcases guardV_sound ha hn h2 with ⟨hwt, h⟩ | ⟨hwt, h⟩
        · unfold wpList
          rw [if_pos hwt]
          refine .inl (step_sound h ha.eval hw fun v L' w' hk hs => ?_)
          exact ⟨fun hc => hs.of_suf (hk.1 hc) hap, vct_sound hn hap q hk.2 (ha.put hd v) hs hf' (hnext L' hk.1) hq⟩
        · unfold wpList
          rw [hwt]
          exact ⟨fun hc => hw.of_suf (hsame hc) hap, vct_sound hn hap q h (ha.put hd undef) hw hf' (hnext L hsame) hq⟩
      · exact h2.elim
/-- A region by a tree; each order keeps what it names. -/
theorem cv_tree {F : Fr} {L : List Res} {Q : Exit → Fr → List Res → Prop} {id : Nat} {l : List Oper} (ix : List Nat) (hnd : ix.Nodup) (hsub : Suf (pickL ix L) L) (p : PT) (fin : List Nat) (hm : P.follows .mixedOrders = true) (hd : l.all (fun o => dstV n o.dst) = true) (hs : Region.noSelect l.toArray = true)
    (hp : p.ok .any l.toArray fin (Array.replicate l.toArray.size false) = true) (hz : p.lenOk l.toArray.size = true) (hf : p.finOk fin = true) {K : Fr → List Res → Prop}
    (h : vct P M W n l (pickL ix L) fin true p F L (fun F' L' => ∃ jx : List Nat, jx.Nodup ∧ K F' (pickL jx L'))) : CV P M W n (.region id l.toArray true) F L (thenQ K Q) := fun a w ha hw =>
  wp_region_tree p (St M W (pickL ix L)) fin hm hs hp hz (by intro c d v a w hh; exact hh)
    (vct_sound (ops := l.toArray) (slots_of (by simpa using hd)) (hw.pick hnd).apart p (by simpa using h) ha hw.drew hf (.inr hsub) fun F' L' a' w' hK h1 h2 => by
      obtain ⟨jx, hj, hk⟩ := hK
      exact ⟨F', _, h1, h2.pick hj, hk⟩)
end
theorem cT : type_of% (And.intro (And.intro (And.intro @vct_done @vct_rd) (And.intro @vct_act (And.intro @vct_alt @vto_read))) (And.intro (And.intro @vto_step @vto_guard) (And.intro @vtg_read (And.intro @vtg_step @vtg_false)))) := (And.intro (And.intro (And.intro @vct_done @vct_rd) (And.intro @vct_act (And.intro @vct_alt @vto_read))) (And.intro (And.intro @vto_step @vto_guard) (And.intro @vtg_read (And.intro @vtg_step @vtg_false))))
end Go.Proofs.Ytaifnipgefkemaa
/- Regions that draw their order among any number of operations that act. -/
namespace Go.Proofs.Ytaifnipgefkemaa
open Go.RowKit Go.Shelf
set_option linter.unusedVariables false
set_option linter.unusedSimpArgs false
/-- rd: only reads, taken first; act: acts, the last that may come up; more: acts, and others may come up. -/
inductive PM where
  | done
  | rd (i : Nat) (r : PM)
  | act (i : Nat) (r : PM)
  | more (i : Nat) (p q : PM)
def PM.ok (md : Region.Mode) (ops : Array Oper) (fin : List Nat) : PM → Nat → Array Bool → Bool
  | .done, sk, listed => sk == 0 && (Region.ready md ops listed).isEmpty
  | .rd i r, sk, listed => sk == 0 && waited md ops fin i listed && Region.free md ops listed i && (Region.ready md ops listed).contains i && PM.ok md ops fin r 0 (listed.setIfInBounds i true)
  | .act i r, sk, listed => ((Region.ready md ops listed).drop sk == [i]) && PM.ok md ops fin r 0 (listed.setIfInBounds i true)
  | .more i p q, sk, listed => (((Region.ready md ops listed).drop sk).head? == some i) && PM.ok md ops fin p 0 (listed.setIfInBounds i true) && PM.ok md ops fin q (sk + 1) listed
def PM.lenOk : PM → Nat → Bool
  | .done, n => n == 0
  | .rd _ r, n + 1 => r.lenOk n
  | .act _ r, n + 1 => r.lenOk n
  | .more _ p q, n + 1 => p.lenOk n && q.lenOk (n + 1)
  | _, 0 => false
def PM.spine : PM → Bool
  | .act _ _ => true
  | .more _ _ q => q.spine
  | _ => false
section
variable {P : Program} {ops : Array Oper} {Q : Exit → Act → World → Prop} {md : Region.Mode} {S : World → Prop} {fin : List Nat}
def wpM (P : Program) (ops : Array Oper) (Q : Exit → Act → World → Prop) (S : World → Prop) (fin : List Nat) : PM → Act → World → Prop
  | .done, a, w => Q .normal a w
  | .rd i r, a, w => S w ∧ ∃ o v, ops[i]? = some o ∧ YieldsIf P ops S o v a ∧ wpM P ops Q S fin r (a.put o.dst v) w
  | .act i r, a, w => ∃ o, ops[i]? = some o ∧ wpList P ops (Exit.then (fun a' w' => (fin.contains i = false → S w') ∧ wpM P ops Q S fin r a' w') Q) [o] a w
  | .more i p q, a, w => (∃ o, ops[i]? = some o ∧ wpList P ops (Exit.then (fun a' w' => (fin.contains i = false → S w') ∧ wpM P ops Q S fin p a' w') Q) [o] a w) ∧ wpM P ops Q S fin q a w
theorem drop_head {α : Type} {l : List α} {k : Nat} {x : α} (h : (l.drop k).head? = some x) : l.drop k = x :: l.drop (k + 1) := by
  rw [← List.tail_drop]
  cases hl : l.drop k with
  | nil => rw [hl] at h; cases h
  | cons y r => rw [hl] at h; simp at h; rw [h]; rfl
theorem more_sound (hs : Region.noSelect ops = true) (hQ : ∀ c d v (a : Act) w, Q (.panic c) (a.put d v) w → Q (.panic c) a w) :
    ∀ (p : PM), (∀ (n : Nat) (listed : Array Bool) (a : Act) (w : World), p.ok md ops fin 0 listed = true → p.lenOk n = true → wpM P ops Q S fin p a w → wpAnyN P md ops Q S fin n listed a w) ∧
      (∀ (n sk : Nat) (listed : Array Bool) (a : Act) (w : World), (0 < sk ∨ p.spine = true) → p.ok md ops fin sk listed = true → p.lenOk (n + 1) = true → wpM P ops Q S fin p a w →
        (Region.ready md ops listed).drop sk ≠ [] ∧ ∀ j ∈ (Region.ready md ops listed).drop sk, wpOp P ops Q j (fun a' w' => (fin.contains j = false → S w') ∧ wpAnyN P md ops Q S fin n (listed.setIfInBounds j true) a' w') a w) := by
  intro p
  induction p with
  | done =>
    refine ⟨fun n listed a w hp hl h => ?_, fun n sk listed a w hk hp hl h => ?_⟩
    · simp only [PM.lenOk, beq_iff_eq] at hl
      subst hl
      simp only [PM.ok, beq_self_eq_true, Bool.true_and] at hp
      exact ⟨by simpa using hp, h⟩
    · simp [PM.lenOk] at hl
  | rd i r ih =>
    refine ⟨fun n listed a w hp hl h => ?_, fun n sk listed a w hk hp hl h => ?_⟩
    · cases n with
      | zero => cases hl
      | succ n =>
        simp only [PM.ok, Bool.and_eq_true] at hp
        obtain ⟨⟨⟨⟨-, h1⟩, h2⟩, h3⟩, h4⟩ := hp
        obtain ⟨hS, o, v, ho, hy, hr⟩ := h
        exact wpAnyN_take ho h1 hs h2 h3 (fun c a w => hQ c _ _ a w) hy hS (ih.1 n _ _ _ h4 hl hr)
    · simp only [PM.ok, Bool.and_eq_true, beq_iff_eq] at hp
      rcases hk with hk | hk
      · omega
      · cases hk
  | act i r ih =>
    have main : ∀ (n sk : Nat) (listed : Array Bool) (a : Act) (w : World), (PM.act i r).ok md ops fin sk listed = true → (PM.act i r).lenOk (n + 1) = true → wpM P ops Q S fin (.act i r) a w →
        (Region.ready md ops listed).drop sk ≠ [] ∧ ∀ j ∈ (Region.ready md ops listed).drop sk, wpOp P ops Q j (fun a' w' => (fin.contains j = false → S w') ∧ wpAnyN P md ops Q S fin n (listed.setIfInBounds j true) a' w') a w := by
      intro n sk listed a w hp hl h
      simp only [PM.ok, Bool.and_eq_true, beq_iff_eq] at hp
      obtain ⟨h1, h2⟩ := hp
      obtain ⟨o, ho, hlst⟩ := h
      refine ⟨fun h0 => (by rw [h0] at h1; cases h1), fun j hj => ?_⟩
      rw [h1] at hj
      obtain rfl : j = i := by simpa using hj
      exact wpOp_mono (fun a' w' h' => ⟨h'.1, ih.1 n _ _ _ h2 hl h'.2⟩) (wpOp_of_list ho hlst)
    refine ⟨fun n listed a w hp hl h => ?_, fun n sk listed a w hk hp hl h => main n sk listed a w hp hl h⟩
    cases n with
    | zero => cases hl
    | succ n =>
      obtain ⟨h1, h2⟩ := main n 0 listed a w hp hl h
      rw [List.drop_zero] at h1 h2
      exact ⟨fun h0 => absurd h0 h1, h2⟩
  | more i p q ihp ihq =>
    have main : ∀ (n sk : Nat) (listed : Array Bool) (a : Act) (w : World), (PM.more i p q).ok md ops fin sk listed = true → (PM.more i p q).lenOk (n + 1) = true → wpM P ops Q S fin (.more i p q) a w →
        (Region.ready md ops listed).drop sk ≠ [] ∧ ∀ j ∈ (Region.ready md ops listed).drop sk, wpOp P ops Q j (fun a' w' => (fin.contains j = false → S w') ∧ wpAnyN P md ops Q S fin n (listed.setIfInBounds j true) a' w') a w := by
      intro n sk listed a w hp hl h
      simp only [PM.ok, Bool.and_eq_true, beq_iff_eq] at hp
      obtain ⟨⟨h1, h2⟩, h3⟩ := hp
      simp only [PM.lenOk, Bool.and_eq_true] at hl
      obtain ⟨⟨o, ho, hlst⟩, hq⟩ := h
      have hd := drop_head h1
      refine ⟨fun h0 => (by rw [h0] at hd; cases hd), fun j hj => ?_⟩
      rw [hd] at hj
      rcases List.mem_cons.1 hj with rfl | hj
      · exact wpOp_mono (fun a' w' h' => ⟨h'.1, ihp.1 n _ _ _ h2 hl.1 h'.2⟩) (wpOp_of_list ho hlst)
      · exact (ihq.2 n (sk + 1) listed a w (.inl (Nat.succ_pos _)) h3 hl.2 hq).2 j hj
    refine ⟨fun n listed a w hp hl h => ?_, fun n sk listed a w hk hp hl h => main n sk listed a w hp hl h⟩
    cases n with
    | zero => cases hl
    | succ n =>
      obtain ⟨h1, h2⟩ := main n 0 listed a w hp hl h
      rw [List.drop_zero] at h1 h2
      exact ⟨fun h0 => absurd h0 h1, h2⟩
theorem wp_region_more {id : Nat} {a : Act} {w : World} (p : PM) (S : World → Prop) (fin : List Nat) (hm : P.follows .mixedOrders = true) (hs : Region.noSelect ops = true)
    (hp : p.ok .any ops fin 0 (Array.replicate ops.size false) = true) (hz : p.lenOk ops.size = true) (hQ : ∀ c d v (a : Act) w, Q (.panic c) (a.put d v) w → Q (.panic c) a w)
    (h : wpM P ops Q S fin p a w.drew) : (Code.region id ops true).wp P Q a w :=
  wp_region_any hm (wpAny_of_need _ _ _ _ ((more_sound hs hQ p).1 _ _ _ _ hp hz h))
end
section
variable {P : Program} {M : List Nat} {W : World} {n : Nat}
/-- By a tree, over the abstract state. -/
def vcm (P : Program) (M : List Nat) (W : World) (n : Nat) (os : List Oper) (L0 : List Res) (fin : List Nat) (tok : Bool) : PM → Fr → List Res → (Fr → List Res → Prop) → Prop
  | .done, F, L, K => K F L
  | .rd i r, F, L, K => match nth os i with
    | some o => guardV os F o.guard (readV P M W o F L0 fun tok v => vcm P M W n os L0 fin tok r (updo F o.dst v) L K) (vcm P M W n os L0 fin tok r (updo F o.dst undef) L K)
    | none => False
  | .act i r, F, L, K => match nth os i with
    | some o => guardV os F o.guard (stepV P M W o F L fun tok v L' => (fin.contains i = false → Suf L0 L') ∧ vcm P M W n os L0 fin tok r (updo F o.dst v) L' K) (vcm P M W n os L0 fin tok r (updo F o.dst undef) L K)
    | none => False
  | .more i p q, F, L, K => (match nth os i with
    | some o => guardV os F o.guard (stepV P M W o F L fun tok v L' => (fin.contains i = false → Suf L0 L') ∧ vcm P M W n os L0 fin tok p (updo F o.dst v) L' K) (vcm P M W n os L0 fin tok p (updo F o.dst undef) L K)
    | none => False) ∧ vcm P M W n os L0 fin tok q F L K
def vmg (P : Program) (M : List Nat) (W : World) (n : Nat) (os : List Oper) (L0 : List Res) (fin : List Nat) (x : Bool) (i : Nat) (s : Option Bool) (o : Oper) (r : PM) (F : Fr) (L : List Res) (K : Fr → List Res → Prop) : Prop :=
  match s, x with
  | some t, true => (t = true → readV P M W o F L0 fun tok v => vcm P M W n os L0 fin tok r (updo F o.dst v) L K) ∧ (t = false → vcm P M W n os L0 fin true r (updo F o.dst undef) L K)
  | some t, false => (t = true → stepV P M W o F L fun tok v L' => (fin.contains i = false → Suf L0 L') ∧ vcm P M W n os L0 fin tok r (updo F o.dst v) L' K) ∧ (t = false → vcm P M W n os L0 fin true r (updo F o.dst undef) L K)
  | none, _ => False
def vmo (P : Program) (M : List Nat) (W : World) (n : Nat) (os : List Oper) (L0 : List Res) (fin : List Nat) (x : Bool) (i : Nat) (o : Option Oper) (r : PM) (F : Fr) (L : List Res) (K : Fr → List Res → Prop) : Prop :=
  match o with
  | none => False
  | some o => match o.guard with
    | none => (match x with
      | true => readV P M W o F L0 fun tok v => vcm P M W n os L0 fin tok r (updo F o.dst v) L K
      | false => stepV P M W o F L fun tok v L' => (fin.contains i = false → Suf L0 L') ∧ vcm P M W n os L0 fin tok r (updo F o.dst v) L' K)
    | some (j, b) => vmg P M W n os L0 fin x i (gst os F j b) o r F L K
section
variable {os : List Oper} {L0 : List Res} {fin : List Nat} {x : Bool} {i j : Nat} {o : Oper} {r p q : PM} {F : Fr} {L : List Res} {K : Fr → List Res → Prop}
theorem vmo_eq_rd : vmo P M W n os L0 fin true i (nth os i) r F L K = vcm P M W n os L0 fin true (.rd i r) F L K := by
  simp only [vcm, vmo]
  cases nth os i with
  | none => rfl
  | some o =>
    simp only
    cases hg : o.guard with
    | none => rfl
    | some jb =>
      obtain ⟨j, b⟩ := jb
      simp only
      rw [guardV_gst]
      unfold vmg
      cases gst os F j b <;> rfl
theorem vmo_eq_act : vmo P M W n os L0 fin false i (nth os i) r F L K = vcm P M W n os L0 fin true (.act i r) F L K := by
  simp only [vcm, vmo]
  cases nth os i with
  | none => rfl
  | some o =>
    simp only
    cases hg : o.guard with
    | none => rfl
    | some jb =>
      obtain ⟨j, b⟩ := jb
      simp only
      rw [guardV_gst]
      unfold vmg
      cases gst os F j b <;> rfl
theorem vcm_done : vcm P M W n os L0 fin true .done F L K = K F L := rfl
theorem vcm_rd : vcm P M W n os L0 fin true (.rd i r) F L K = vmo P M W n os L0 fin true i (nth os i) r F L K := vmo_eq_rd.symm
theorem vcm_act : vcm P M W n os L0 fin true (.act i r) F L K = vmo P M W n os L0 fin false i (nth os i) r F L K := vmo_eq_act.symm
theorem vcm_more : vcm P M W n os L0 fin true (.more i p q) F L K = (vmo P M W n os L0 fin false i (nth os i) p F L K ∧ vcm P M W n os L0 fin true q F L K) := by
  rw [vmo_eq_act]
  rfl
variable {d : Option Nat} {op : Op} {ty : TypeId} {pos : String} {af : Array Edge} {b : Bool}
theorem vmo_read : vmo P M W n os L0 fin true i (some ⟨d, op, ty, pos, af, none⟩) r F L K = readV P M W ⟨d, op, ty, pos, af, none⟩ F L0 fun tok v => vcm P M W n os L0 fin tok r (updo F d v) L K := rfl
theorem vmo_step : vmo P M W n os L0 fin false i (some ⟨d, op, ty, pos, af, none⟩) r F L K = stepV P M W ⟨d, op, ty, pos, af, none⟩ F L fun tok v L' => (fin.contains i = false → Suf L0 L') ∧ vcm P M W n os L0 fin tok r (updo F d v) L' K := rfl
theorem vmo_guard : vmo P M W n os L0 fin x i (some ⟨d, op, ty, pos, af, some (j, b)⟩) r F L K = vmg P M W n os L0 fin x i (gst os F j b) ⟨d, op, ty, pos, af, some (j, b)⟩ r F L K := rfl
theorem vmg_read : vmg P M W n os L0 fin true i (some true) o r F L K = readV P M W o F L0 fun tok v => vcm P M W n os L0 fin tok r (updo F o.dst v) L K := by simp [vmg]
theorem vmg_step : vmg P M W n os L0 fin false i (some true) o r F L K = stepV P M W o F L fun tok v L' => (fin.contains i = false → Suf L0 L') ∧ vcm P M W n os L0 fin tok r (updo F o.dst v) L' K := by simp [vmg]
theorem vmg_false : vmg P M W n os L0 fin x i (some false) o r F L K = vcm P M W n os L0 fin true r (updo F o.dst undef) L K := by cases x <;> simp [vmg]
end
/-- Behind an operation of fin nothing reads. -/
def PM.noRead (fin : List Nat) : PM → Bool
  | .done => true
  | .rd _ _ => false
  | .act i r => fin.contains i && r.noRead fin
  | .more i p q => fin.contains i && p.noRead fin && q.noRead fin
def PM.finOk (fin : List Nat) : PM → Bool
  | .done => true
  | .rd _ r => r.finOk fin
  | .act i r => if fin.contains i then r.noRead fin else r.finOk fin
  | .more i p q => (if fin.contains i then p.noRead fin else p.finOk fin) && q.finOk fin
theorem PM.fin_of_no {fin : List Nat} : ∀ (p : PM), p.noRead fin = true → p.finOk fin = true
  | .done, _ => rfl
  | .rd _ _, h => by cases h
  | .act i r, h => by
    simp only [PM.noRead, Bool.and_eq_true] at h
    simp only [PM.finOk]
    rw [if_pos h.1]
    exact h.2
  | .more i p q, h => by
    simp only [PM.noRead, Bool.and_eq_true] at h
    simp only [PM.finOk]
    rw [if_pos h.1.1, h.1.2, q.fin_of_no h.2]
    rfl
theorem vcm_sound {ops : Array Oper} {Q : Exit → Act → World → Prop} {L0 : List Res} {fin : List Nat} (hn : ∀ j o d, nth ops.toList j = some o → o.dst = some d → d < n) (hap : L0.Pairwise (fun r s => ∀ b ∈ r.foot, b ∉ s.foot)) : ∀ (p : PM) {F : Fr} {L : List Res} {K : Fr → List Res → Prop} {a : Act} {w : World},
    vcm P M W n ops.toList L0 fin true p F L K → FrOK n a F → St M W L w → p.finOk fin = true → (p.noRead fin = true ∨ Suf L0 L) → (∀ F' L' a' w', K F' L' → FrOK n a' F' → St M W L' w' → Q .normal a' w') → wpM P ops Q (St M W L0) fin p a w
  | .done, F, L, K, a, w, h, ha, hw, hf, hsuf, hq => hq _ _ _ _ h ha hw
  | .rd i r, F, L, K, a, w, h, ha, hw, hf, hsuf, hq => by
    simp only [vcm] at h
    have hsuf' : Suf L0 L := hsuf.resolve_left (by simp [PM.noRead])
    have hS : St M W L0 w := hw.of_suf hsuf' hap
    split at h
    · rename_i o ho
      have hd : dstOk n o.dst := by
        cases hdo : o.dst with
        | none => trivial
        | some d => exact hn i o d ho hdo
      rcases guardV_sound ha hn h with ⟨hwt, h⟩ | ⟨hwt, h⟩
      · obtain ⟨v, hr, hk⟩ := readV_sound h
        exact ⟨hS, o, v, nth_op ho, .inl ⟨hwt, fun w' hw' => by rw [ha.eval]; exact hr w' hw'⟩, vcm_sound hn hap r hk (ha.put hd v) hw hf (.inr hsuf') hq⟩
      · exact ⟨hS, o, undef, nth_op ho, .inr ⟨hwt, rfl⟩, vcm_sound hn hap r h (ha.put hd undef) hw hf (.inr hsuf') hq⟩
    · exact h.elim
  | .act i r, F, L, K, a, w, h, ha, hw, hf, hsuf, hq => by
    simp only [vcm] at h
    split at h
    · rename_i o ho
      have hd : dstOk n o.dst := by
        cases hdo : o.dst with
        | none => trivial
        | some d => exact hn i o d ho hdo
      have hf' : r.finOk fin = true := by
        simp only [PM.finOk] at hf
        split at hf
        · exact r.fin_of_no hf
        · exact hf
      have hnext : ∀ L', (fin.contains i = false → Suf L0 L') → (r.noRead fin = true ∨ Suf L0 L') := by
        intro L' hL
        cases hc : fin.contains i with
        | true =>
          simp only [PM.finOk, hc, if_true] at hf
          exact .inl hf
        | false => exact .inr (hL hc)
      have hsame : fin.contains i = false → Suf L0 L := fun hc => hsuf.resolve_left (by simp only [PM.noRead, hc, Bool.false_and, Bool.and_false, Bool.false_eq_true, not_false_eq_true])
      refine ⟨o, nth_op ho, ?_⟩
      rcases guardV_sound ha hn h with ⟨hwt, h⟩ | ⟨hwt, h⟩
      · unfold wpList
        rw [if_pos hwt]
        refine .inl (step_sound h ha.eval hw fun v L' w' hk hs => ?_)
        exact ⟨fun hc => hs.of_suf (hk.1 hc) hap, vcm_sound hn hap r hk.2 (ha.put hd v) hs hf' (hnext L' hk.1) hq⟩
      · unfold wpList
        rw [hwt]
        exact ⟨fun hc => hw.of_suf (hsame hc) hap, vcm_sound hn hap r h (ha.put hd undef) hw hf' (hnext L hsame) hq⟩
    · exact h.elim
  | .more i p q, F, L, K, a, w, h, ha, hw, hf, hsuf, hq => by
    simp only [vcm] at h
    obtain ⟨h1, h2⟩ := h
    simp only [PM.finOk, Bool.and_eq_true] at hf
    refine ⟨?_, ?_⟩
    · split at h1
      · rename_i o ho
        have hd : dstOk n o.dst := by
          cases hdo : o.dst with
          | none => trivial
          | some d => exact hn i o d ho hdo
        have hf' : p.finOk fin = true := by
          have := hf.1
          split at this
          · exact p.fin_of_no this
          · exact this
        have hnext : ∀ L', (fin.contains i = false → Suf L0 L') → (p.noRead fin = true ∨ Suf L0 L') := by
          intro L' hL
          cases hc : fin.contains i with
          | true =>
            have := hf.1
            rw [hc, if_pos rfl] at this
            exact .inl this
          | false => exact .inr (hL hc)
        have hsame : fin.contains i = false → Suf L0 L := fun hc => hsuf.resolve_left (by simp only [PM.noRead, hc, Bool.false_and, Bool.and_false, Bool.false_eq_true, not_false_eq_true])
        refine ⟨o, nth_op ho, ?_⟩
        rcases guardV_sound ha hn h1 with ⟨hwt, h⟩ | ⟨hwt, h⟩
        · unfold wpList
          rw [if_pos hwt]
          refine .inl (step_sound h ha.eval hw fun v L' w' hk hs => ?_)
          exact ⟨fun hc => hs.of_suf (hk.1 hc) hap, vcm_sound hn hap p hk.2 (ha.put hd v) hs hf' (hnext L' hk.1) hq⟩
        · unfold wpList
          rw [hwt]
          exact ⟨fun hc => hw.of_suf (hsame hc) hap, vcm_sound hn hap p h (ha.put hd undef) hw hf' (hnext L hsame) hq⟩
      · exact h1.elim
    · refine vcm_sound hn hap q h2 ha hw hf.2 ?_ hq
      rcases hsuf with h | h
      · simp only [PM.noRead, Bool.and_eq_true] at h
        exact .inl h.2
      · exact .inr h
/-- A region by such a tree. -/
theorem cv_more {F : Fr} {L : List Res} {Q : Exit → Fr → List Res → Prop} {id : Nat} {l : List Oper} (ix : List Nat) (hnd : ix.Nodup) (hsub : Suf (pickL ix L) L) (p : PM) (fin : List Nat) (hm : P.follows .mixedOrders = true) (hd : l.all (fun o => dstV n o.dst) = true) (hs : Region.noSelect l.toArray = true)
    (hp : p.ok .any l.toArray fin 0 (Array.replicate l.toArray.size false) = true) (hz : p.lenOk l.toArray.size = true) (hf : p.finOk fin = true) {K : Fr → List Res → Prop}
    (h : vcm P M W n l (pickL ix L) fin true p F L (fun F' L' => ∃ jx : List Nat, jx.Nodup ∧ K F' (pickL jx L'))) : CV P M W n (.region id l.toArray true) F L (thenQ K Q) := fun a w ha hw =>
  wp_region_more p (St M W (pickL ix L)) fin hm hs hp hz (by intro c d v a w hh; exact hh)
    (vcm_sound (ops := l.toArray) (slots_of (by simpa using hd)) (hw.pick hnd).apart p (by simpa using h) ha hw.drew hf (.inr hsub) fun F' L' a' w' hK h1 h2 => by
      obtain ⟨jx, hj, hk⟩ := hK
      exact ⟨F', _, h1, h2.pick hj, hk⟩)
end
theorem cM : type_of% (And.intro (And.intro (And.intro @vcm_done @vcm_rd) (And.intro @vcm_act (And.intro @vcm_more @vmo_read))) (And.intro (And.intro @vmo_step @vmo_guard) (And.intro @vmg_read (And.intro @vmg_step @vmg_false)))) := (And.intro (And.intro (And.intro @vcm_done @vcm_rd) (And.intro @vcm_act (And.intro @vcm_more @vmo_read))) (And.intro (And.intro @vmo_step @vmo_guard) (And.intro @vmg_read (And.intro @vmg_step @vmg_false))))
section
variable {P : Program} {M : List Nat} {W : World} {L : List Res}
/-- A row that is not empty has an address of its own. -/
theorem cv_rowA {nn : Nat} {co : Code} {F : Fr} {Q : Exit → Fr → List Res → Prop} (k : Nat) {A : Option Addr} {n c size : Nat} {t : TypeId} {xs : List Value} (hk : nth L k = some (.row (.slice A n c) t size n xs)) (hn : 0 < n)
    (h : ∀ g, A = some ⟨g, 0, none⟩ → (W.heap.size ≤ g ∨ g ∈ M) → neB (L.eraseIdx k) g → CV P M W nn co F L Q) : CV P M W nn co F L Q := fun a w ha hw => by
  rcases (hw.perm (perm_erase hk).symm).row_at with ⟨-, h0⟩ | ⟨g, e, hb, hne⟩
  · omega
  · exact h g e hb hne a w ha hw
/-- A struct is stored into a row of the call's own. -/
theorem sv_rows (k : Nat) {t T : TypeId} {g n c size i : Nat} {xs vs : List Value} (hk : nth L k = some (.row (.slice (some ⟨g, 0, none⟩) n c) T size n xs)) (hi : i + vs.length ≤ xs.length) (ht : tsz P t = some (true, vs.length)) (h1 : ones vs = true) :
    SV P M W t ⟨g, i, none⟩ (.agg vs.toArray) L (L.set k (.row (.slice (some ⟨g, 0, none⟩) n c) T size n (xs.take i ++ vs ++ xs.drop (i + vs.length)))) := fun w hw => by
  have hk' := hk
  rw [nth_eq] at hk'
  have hm := List.mem_of_getElem? hk'
  have hh : w.ownsRow 0 T size (.slice (some ⟨g, 0, none⟩) n c) n xs := hw.holds _ hm
  obtain ⟨hlen, hh2⟩ := hh
  rcases hh2 with ⟨hn, _⟩ | ⟨g', cap, cur, he, hg0, hheap, hnc, hcm, hsz, htk⟩
  · cases hn
  cases he
  have hcur : xs.length ≤ cur.toList.length := by rw [← htk, List.length_take]; omega
  have hcs : cur.toList.length = cur.size := Array.length_toList
  have hs := run_storeCells_at P g i T vs 0 cur w hheap (by omega) (fun u hu => List.all_eq_true.1 h1 u hu)
  have hsz2 := (tsz_run ht w).2
  refine ⟨w.setRow g (cur.toList.take (i + 0) ++ vs ++ cur.toList.drop (i + 0 + vs.length)).toArray, ?_, ?_⟩
  · simp only [Instr.storeAt, Instr.sureAddr, Sem.run_bind, Sem.run_pure, Result.andThen_ok, storeVar, hsz2, Value.cells, List.size_toArray, ne_eq, not_true_eq_false, if_false]
    exact hs
  · rw [Nat.add_zero]
    refine hw.replace hk rfl ?_ (fun c hc => setRow_other w g c _ (by simpa [Res.foot, Value.ownBlock] using hc)) (by simp [World.setRow]) rfl rfl rfl
    refine ⟨?_, .inr ⟨g, _, (cur.toList.take i ++ vs ++ cur.toList.drop (i + vs.length)).toArray, rfl, hg0, ?_, hnc, hcm, ?_, ?_⟩⟩
    · simp only [List.length_append, List.length_take, List.length_drop]
      omega
    · exact setRow_heap w g cur _ T (0, 0) hheap
    · simp only [List.size_toArray, List.length_append, List.length_take, List.length_drop]
      omega
    · simp only [List.toList_toArray]
      have e1 : xs.take i = cur.toList.take i := by rw [← htk, List.take_take, Nat.min_eq_left (by omega)]
      have e2 : xs.drop (i + vs.length) = (cur.toList.drop (i + vs.length)).take (n * size - (i + vs.length)) := by rw [← htk, List.drop_take]
      have e3 : (cur.toList.take i ++ vs).length = i + vs.length := by rw [List.length_append, List.length_take, Nat.min_eq_left (by omega)]
      rw [e1, e2, List.take_append, e3, List.take_of_length_le (by omega)]
end
end Go.Proofs.Ytaifnipgefkemaa
/- A range over a function, and the functions that are ranged over: the engine's rules in a round and around it. -/
namespace Go.Proofs.Ytaifnipgefkemaa
open Go.RowKit Go.Shelf
set_option linter.unusedVariables false
set_option linter.unusedSimpArgs false
def wideR (ro : Option Nat) : Fence := { Fence.wide with round := ro }
section
variable {P : Program} {ro : Option Nat} {k : Nat} {f : FuncId} {args : Array Value} {w : World} {R : Ending → World → Prop}
theorem roomR {m : Nat} : (wideR ro).room m := fun d hd => by cases hd
theorem callsR (h : Calls P f args w R) : CallsIn (wideR ro) k P f args w R := by
  have := (callsIn_wide (n := k)).2 h
  exact ⟨trivial, fun cs hr => this.2 cs (room_wide _)⟩
theorem callsR_out (h : CallsIn (wideR ro) k P f args w R) : Calls P f args w R := (callsIn_wide (n := k)).1 ⟨trivial, fun cs hr => h.2 cs roomR⟩
def undefer (l : List Oper) : Bool := l.all fun o => match o.op with
  | .defer _ => false
  | _ => true
theorem undefer_of {l : List Oper} (h : undefer l = true) {o : Oper} (ho : o ∈ l) : ∀ c, o.op ≠ .defer c := fun c e => by
  have := List.all_eq_true.1 h o ho
  rw [e] at this
  cases this
variable {ds : List Deferred}
theorem act_put (a : Act) (d : Option Tmp) (v : Value) : ({ a with defers := ds } : Act).put d v = { a.put d v with defers := ds } := by cases d <;> rfl
theorem put_defers (a : Act) (d : Option Tmp) (v : Value) : (a.put d v).defers = a.defers := by cases d <;> rfl
theorem act_eta {a : Act} (h : a.defers = []) : ({ a with defers := [] } : Act) = a := by cases a; simp_all
def wiK (ds : List Deferred) (K : Act → World → Prop) : Act → World → Prop := fun a w => a.defers = ds ∧ K { a with defers := [] } w
def wiQ (ds : List Deferred) (Q : Exit → Act → World → Prop) : Exit → Act → World → Prop := fun e a w => a.defers = ds ∧ Q e { a with defers := [] } w
/-- No panic, no outgrowing; a normal end has nothing deferred. -/
structure Calm (Q : Exit → Act → World → Prop) : Prop where
  panic : ∀ c a w, ¬ Q (.panic c) a w
  outgrown : ∀ a w, ¬ Q .outgrown a w
  normal : ∀ a w, Q .normal a w → a.defers = []
theorem wiK_put {a : Act} {d : Option Tmp} {v : Value} {K : Act → World → Prop} (ha : a.defers = []) (hh : K (a.put d v) w) : wiK ds K (({ a with defers := ds } : Act).put d v) w := by
  refine ⟨by rw [put_defers], ?_⟩
  rw [act_put]
  have e : ({ (a.put d v) with defers := [] } : Act) = a.put d v := act_eta (by rw [put_defers]; exact ha)
  show K { (a.put d v) with defers := [] } w
  rw [e]
  exact hh
theorem oper_wpIn {o : Oper} {a : Act} {next : Act → World → Prop} {Q : Exit → Act → World → Prop} (hQ : Calm Q) (hd : ∀ c, o.op ≠ .defer c) (hN : ∀ a w, next a w → a.defers = []) (ha : a.defers = []) (h : o.wp P a w next Q) :
    o.wpIn (wideR ro) k P { a with defers := ds } w (wiK ds next) (wiQ ds Q) := by
  refine ⟨fun _ _ => trivial, ?_⟩
  have e1 : (wideR ro).round = ro := rfl
  have e2 : ({ a with defers := ds } : Act).eval = a.eval := rfl
  rw [e1, Oper.semAt_eq ro _ _ hd, e2]
  unfold Oper.wp at h
  revert h
  generalize (execOp a.eval o).run P w = r
  intro h
  cases r with
  | ok x w' =>
    cases x with
    | value v => exact wiK_put ha h
    | skip => exact wiK_put ha h
    | «defer» d =>
      simp only [Oper.upon] at h
      have := hN _ _ h
      rw [put_defers] at this
      cases this
    | enter f args =>
      refine ⟨fun hh => (by cases hh), callsR ((show Calls P f args w' _ from h).mono ?_)⟩
      intro e w'' he
      cases e with
      | returned v => exact wiK_put ha he
      | panicked c => exact (hQ.panic _ _ _ he).elim
      | outgrown => obtain ⟨a0, w0, h0⟩ := he; exact (hQ.outgrown _ _ h0).elim
    | row row args =>
      refine ⟨fun hh => (by cases hh), fun c cs hr => ?_⟩
      obtain ⟨v, w'', hv, hs⟩ := (show Rows P row args w' _ from h) c cs
      exact ⟨v, w'', wiK_put ha hv, stepsIn_wide.2 hs⟩
    | _ => exact h.elim
  | halt x w' =>
    cases x with
    | panic v => exact (hQ.panic _ _ _ h).elim
    | _ => exact h.elim
/-- Whoever walks to a calm end has nothing deferred. -/
theorem oper_calm {o : Oper} {a : Act} {next : Act → World → Prop} {Q : Exit → Act → World → Prop} (hQ : Calm Q) (hN : ∀ a w, next a w → a.defers = []) (h : o.wp P a w next Q) : a.defers = [] := by
  unfold Oper.wp at h
  revert h
  generalize (execOp a.eval o).run P w = r
  intro h
  cases r with
  | ok x w' =>
    cases x with
    | value v => exact (put_defers _ _ _).symm.trans (hN _ _ h)
    | skip => exact (put_defers _ _ _).symm.trans (hN _ _ h)
    | «defer» d =>
      simp only [Oper.upon] at h
      have := hN _ _ h
      rw [put_defers] at this
      cases this
    | enter f args =>
      obtain ⟨e, w'', fr, he, -⟩ := (show Calls P f args w' _ from h) []
      cases e with
      | returned v => exact (put_defers _ _ _).symm.trans (hN _ _ he)
      | panicked c => exact (hQ.panic _ _ _ he).elim
      | outgrown => obtain ⟨a0, w0, h0⟩ := he; exact (hQ.outgrown _ _ h0).elim
    | row row args =>
      obtain ⟨v, w'', hv, hs⟩ := (show Rows P row args w' _ from h) default []
      exact (put_defers _ _ _).symm.trans (hN _ _ hv)
    | _ => exact h.elim
  | halt x w' =>
    cases x with
    | panic v => exact (hQ.panic _ _ _ h).elim
    | _ => exact h.elim
variable {ops : Array Oper} {Q : Exit → Act → World → Prop}
theorem list_calm (hQ : Calm Q) : ∀ (r : List Oper) (a : Act) (w : World), wpList P ops Q r a w → a.defers = []
  | [], a, w, h => hQ.normal _ _ h
  | o :: r, a, w, h => by
    unfold wpList at h
    split at h
    · rcases h with h | ⟨_, a0, w0, h0⟩
      · exact oper_calm hQ (list_calm hQ r) h
      · exact (hQ.outgrown _ _ h0).elim
    · exact (put_defers _ _ _).symm.trans (list_calm hQ r _ _ h)
theorem list_in (hQ : Calm Q) : ∀ (r : List Oper) (a : Act) (w : World), undefer r = true → wpList P ops Q r a w → wpListIn (wideR ro) k P ops (wiQ ds Q) r { a with defers := ds } w
  | [], a, w, _, h => ⟨rfl, by rw [act_eta (hQ.normal _ _ h)]; exact h⟩
  | o :: r, a, w, hd, h => by
    have ha := list_calm hQ _ _ _ h
    have hd1 : ∀ c, o.op ≠ .defer c := undefer_of hd (by simp)
    have hd2 : undefer r = true := by
      simp only [undefer, List.all_cons, Bool.and_eq_true] at hd
      exact hd.2
    unfold wpList at h
    unfold wpListIn
    split at h
    · rename_i hw
      rw [if_pos (show Region.wanted o (yielded ops ({ a with defers := ds } : Act).tmps) = true from hw)]
      rcases h with h | ⟨_, a0, w0, h0⟩
      · refine Oper.wpIn_mono ?_ (oper_wpIn hQ hd1 (list_calm hQ r) ha h)
        rintro a1 w1 ⟨e1, h1⟩
        have := list_in hQ r _ w1 hd2 h1
        have e : ({ ({ a1 with defers := [] } : Act) with defers := ds } : Act) = a1 := by cases a1; simp_all
        rw [e] at this
        exact this
      · exact (hQ.outgrown _ _ h0).elim
    · rename_i hw
      rw [if_neg (show ¬ Region.wanted o (yielded ops ({ a with defers := ds } : Act).tmps) = true from hw)]
      refine ⟨fun _ _ => trivial, ?_⟩
      rw [act_put]
      exact list_in hQ r _ w hd2 h
variable {md : Region.Mode}
theorem op_calm (hQ : Calm Q) {i : Nat} {K : Act → World → Prop} {a : Act} (hN : ∀ a w, K a w → a.defers = []) (h : wpOp P ops Q i K a w) : a.defers = [] := by
  unfold wpOp at h
  split at h
  · exact hN _ _ h
  · split at h
    · rcases h with h | ⟨_, a0, w0, h0⟩
      · exact oper_calm hQ hN h
      · exact (hQ.outgrown _ _ h0).elim
    · exact (put_defers _ _ _).symm.trans (hN _ _ h)
theorem any_calm (hQ : Calm Q) : ∀ (fuel : Nat) (listed : Array Bool) (a : Act) (w : World), wpAny P md ops Q fuel listed a w → a.defers = []
  | 0, listed, a, w, h => hQ.normal _ _ h.2
  | fuel + 1, listed, a, w, h => by
    obtain ⟨h1, h2⟩ := h
    cases hr : Region.ready md ops listed with
    | nil => exact hQ.normal _ _ (h1 hr)
    | cons i r => exact op_calm hQ (any_calm hQ fuel _) (h2 i (by rw [hr]; simp))
theorem any_in (hQ : Calm Q) (hd : undefer ops.toList = true) : ∀ (fuel : Nat) (listed : Array Bool) (a : Act) (w : World), wpAny P md ops Q fuel listed a w → wpAnyIn (wideR ro) k P md ops (wiQ ds Q) fuel listed { a with defers := ds } w
  | 0, listed, a, w, h => ⟨h.1, rfl, by rw [act_eta (hQ.normal _ _ h.2)]; exact h.2⟩
  | fuel + 1, listed, a, w, h => by
    have ha := any_calm hQ _ _ _ _ h
    refine ⟨fun hr => ⟨rfl, by rw [act_eta ha]; exact h.1 hr⟩, fun i hi => ?_⟩
    have h2 := h.2 i hi
    have step : ∀ a1 w1, wiK ds (wpAny P md ops Q fuel (listed.setIfInBounds i true)) a1 w1 → wpAnyIn (wideR ro) k P md ops (wiQ ds Q) fuel (listed.setIfInBounds i true) a1 w1 := by
      rintro a1 w1 ⟨e1, h1⟩
      have := any_in hQ hd fuel _ _ w1 h1
      have e : ({ ({ a1 with defers := [] } : Act) with defers := ds } : Act) = a1 := by cases a1; simp_all
      rw [e] at this
      exact this
    unfold wpOp at h2
    unfold wpOpIn
    split at h2
    · rename_i hn
      simp only [hn]
      exact step _ _ ⟨rfl, by rw [act_eta ha]; exact h2⟩
    · rename_i o ho
      simp only [ho]
      have hd1 : ∀ c, o.op ≠ .defer c := undefer_of hd (by
        obtain ⟨hlt, he⟩ := Array.getElem?_eq_some_iff.1 ho
        rw [← he]
        simp)
      split at h2
      · rename_i hw
        rw [if_pos (show Region.wanted o (yielded ops ({ a with defers := ds } : Act).tmps) = true from hw)]
        rcases h2 with h2 | ⟨_, a0, w0, h0⟩
        · exact Oper.wpIn_mono step (oper_wpIn hQ hd1 (any_calm hQ fuel _) ha h2)
        · exact (hQ.outgrown _ _ h0).elim
      · rename_i hw
        rw [if_neg (show ¬ Region.wanted o (yielded ops ({ a with defers := ds } : Act).tmps) = true from hw)]
        refine ⟨fun _ _ => trivial, step _ _ ?_⟩
        exact wiK_put ha h2
end
/-! ## Walks -/
def col (d : Nat) : Deferred := { target := .collected d, args := #[] }
def dfr (d : Nat) : Res := .dat [d] (fun w => w.heap[d]? = some (.deferred (some []))) (fun _ _ hk h => (hk d (by simp)).trans h)
structure FrD (D : List Nat) (n : Nat) (a : Act) (F : Fr) : Prop where
  defers : a.defers = D.map col
  ok : FrOK n { a with defers := [] } F
theorem FrD.of {D : List Nat} {n : Nat} {a : Act} {F : Fr} (h : FrOK n a F) : FrD D n { a with defers := D.map col } F := ⟨rfl, by
  have e : ({ ({ a with defers := D.map col } : Act) with defers := [] } : Act) = a := act_eta h.defers
  rw [e]
  exact h⟩
def liftF (M : List Nat) (W : World) (n : Nat) (Q : Exit → List Nat → Fr → List Res → Prop) : Exit → Act → World → Prop
  | .panic _, _, _ => False
  | .outgrown, _, _ => False
  | e, a, w => ∃ D F L, FrD D n a F ∧ St M W L w ∧ Q e D F L
def CVF (P : Program) (ro : Option Nat) (M : List Nat) (W : World) (n : Nat) (c : Code) (D : List Nat) (F : Fr) (L : List Res) (Q : Exit → List Nat → Fr → List Res → Prop) : Prop :=
  ∀ a w, FrD D n a F → St M W L w → c.wpIn (wideR ro) 0 P (liftF M W n Q) a w
def thenF (K : List Nat → Fr → List Res → Prop) (Q : Exit → List Nat → Fr → List Res → Prop) : Exit → List Nat → Fr → List Res → Prop
  | .normal, D, F, L => K D F L
  | e, D, F, L => Q e D F L
def blockF (id : Nat) (Q : Exit → List Nat → Fr → List Res → Prop) : Exit → List Nat → Fr → List Res → Prop
  | .exit id', D, F, L => if id' = id then Q .normal D F L else Q (.exit id') D F L
  | e, D, F, L => Q e D F L
section
variable {P : Program} {ro : Option Nat} {M : List Nat} {W : World} {n : Nat} {D : List Nat} {F : Fr} {L : List Res} {Q Q' : Exit → List Nat → Fr → List Res → Prop} {K : List Nat → Fr → List Res → Prop}
theorem CVF.mono {c : Code} (h : CVF P ro M W n c D F L Q) (hq : ∀ e D F' L', Q e D F' L' → Q' e D F' L') : CVF P ro M W n c D F L Q' := fun a w ha hw =>
  wpIn_mono (h a w ha hw) (by
    intro e a' w' hh
    cases e <;> first
      | exact hh
      | (obtain ⟨D', F', L', h1, h2, h3⟩ := hh; exact ⟨D', F', L', h1, h2, hq _ _ _ _ h3⟩))
theorem cvf_gen {c : Code} (h : ∀ G : Fr, G = F → CVF P ro M W n c D G L Q) : CVF P ro M W n c D F L Q := h F rfl
theorem cvf_seq {x y : Code} (h : CVF P ro M W n x D F L (thenF (fun D' F' L' => CVF P ro M W n y D' F' L' Q) Q)) : CVF P ro M W n (.seq x y) D F L Q := fun a w ha hw =>
  wpIn_seq (wpIn_mono (h a w ha hw) (by
    intro e a' w' hh
    cases e <;> first
      | exact hh
      | (obtain ⟨D', F', L', h1, h2, h3⟩ := hh; exact h3 _ _ h1 h2)))
theorem cvf_seq_k {x y : Code} (h : ∀ K : List Nat → Fr → List Res → Prop, (∀ D' F' L', CVF P ro M W n y D' F' L' Q → K D' F' L') → CVF P ro M W n x D F L (thenF K Q)) : CVF P ro M W n (.seq x y) D F L Q := cvf_seq (h _ fun _ _ _ h => h)
theorem cvf_cut {c : Code} (X : Fr → Fr → Prop) (R : Fr → List Res → Prop) (h : CVF P ro M W n c D F L (thenF (fun D' F' L' => D' = D ∧ X F F' ∧ R F' L') Q)) (hk : ∀ F' L', X F F' → R F' L' → K D F' L') : CVF P ro M W n c D F L (thenF K Q) :=
  h.mono fun e D' F' L' hh => by
    cases e <;> first
      | exact hh
      | (obtain ⟨rfl, h1, h2⟩ := hh; exact hk _ _ h1 h2)
theorem cvf_skip (h : Q .normal D F L) : CVF P ro M W n .skip D F L Q := fun a w ha hw => wpIn_skip ⟨D, F, L, ha, hw, h⟩
theorem cvf_ret (h : Q .ret D F L) : CVF P ro M W n .ret D F L Q := fun a w ha hw => wpIn_ret ⟨D, F, L, ha, hw, h⟩
theorem cvf_exit {id : Nat} (h : Q (.exit id) D F L) : CVF P ro M W n (.exit id) D F L Q := fun a w ha hw => wpIn_exit ⟨D, F, L, ha, hw, h⟩
theorem cvf_block {id : Nat} {c : Code} (h : CVF P ro M W n c D F L (blockF id Q)) : CVF P ro M W n (.block id c) D F L Q := fun a w ha hw =>
  wpIn_block (wpIn_mono (h a w ha hw) (by
    intro e a' w' hh
    cases e with
    | exit id' =>
      obtain ⟨D', F', L', h1, h2, h3⟩ := hh
      simp only [blockF] at h3
      simp only [Exit.inBlock]
      split
      · rename_i he; rw [if_pos he] at h3; exact ⟨D', F', L', h1, h2, h3⟩
      · rename_i he; rw [if_neg he] at h3; exact ⟨D', F', L', h1, h2, h3⟩
    | _ => exact hh))
theorem cvf_cond {c : Operand} {x y : Code} (h : condV (ev F c) (CVF P ro M W n x D F L Q) (CVF P ro M W n y D F L Q)) : CVF P ro M W n (.cond c x y) D F L Q := fun a w ha hw => by
  unfold condV at h
  split at h
  · rename_i t ht
    have he : a.eval c = .bool t := by rw [show a.eval = ev F from ha.ok.eval]; exact ht
    exact wpIn_cond_split he (fun e => h.1 e a w ha hw) (fun e => h.2 e a w ha hw)
  · exact h.elim
theorem cvf_loop {c : Code} (I : Fr → List Res → Prop) (μ : Fr → List Res → Nat) (h₀ : I F L)
    (round : ∀ F' L', I F' L' → CVF P ro M W n c D F' L' (thenF (fun D'' F'' L'' => D'' = D ∧ I F'' L'' ∧ μ F'' L'' < μ F' L') Q)) : CVF P ro M W n (.loop c) D F L Q := fun a w ha hw => by
  intro b k cs hro hb hr
  have key : ∀ m F L a w, μ F L = m → I F L → FrD D n a F → St M W L w →
      ∃ e a' w', liftF M W n Q e a' w' ∧ ArrivesIn (Machine.fenced P (wideR ro)) P (lone (b.atR a (.code c :: .inLoop c :: k)) cs w) b k cs e a' w' := by
    intro m
    induction m using Nat.strongRecOn with
    | _ m ih =>
      intro F L a w hm hI ha hw
      obtain ⟨e, a₁, w₁, hq, harr⟩ := round F L hI a w ha hw b (.inLoop c :: k) cs hro hb hr
      cases e with
      | normal =>
        obtain ⟨D', F', L', h1, h2, rfl, hI₁, hlt⟩ := hq
        obtain ⟨e₂, a₂, w₂, hq₂, harr₂⟩ := ih (μ F' L') (hm ▸ hlt) F' L' a₁ w₁ rfl hI₁ h1 h2
        exact ⟨e₂, a₂, w₂, hq₂, .of_steps (StepsIn.trans harr (.one (fenced_calm (fr := b.atR a₁ (.inLoop c :: k)) hb hr rfl) stepR_inLoop)) harr₂⟩
      | exit id => exact ⟨.exit id, a₁, w₁, hq, .pass (x := .inLoop c) rfl (fun _ _ => .inl (by simp)) harr⟩
      | goto l => exact ⟨.goto l, a₁, w₁, hq, .pass (x := .inLoop c) rfl (fun _ _ => .inl (by simp)) harr⟩
      | ret => exact ⟨.ret, a₁, w₁, hq, .pass (x := .inLoop c) rfl (fun _ _ => .inl (by simp)) harr⟩
      | panic ch => exact hq.elim
      | outgrown => exact hq.elim
  obtain ⟨e, a', w', hq, harr⟩ := key _ F L a w rfl h₀ ha hw
  exact ⟨e, a', w', hq, .of_steps (.one (fenced_calm (fr := b.atR a (.code (.loop c) :: k)) hb hr rfl) stepR_loop) harr⟩
/-- What a region leaves, as the laws of regions want it. -/
def endV (M : List Nat) (W : World) (n : Nat) (K : Fr → List Res → Prop) : Exit → Act → World → Prop
  | .normal, a, w => ∃ F L, FrOK n a F ∧ St M W L w ∧ K F L
  | _, _, _ => False
theorem endV_calm {K : Fr → List Res → Prop} : Calm (endV M W n K) := ⟨fun _ _ _ h => h, fun _ _ h => h, fun _ _ ⟨_, _, h, _⟩ => h.defers⟩
theorem endV_out {K : Fr → List Res → Prop} (hk : ∀ F' L', K F' L' → Q .normal D F' L') : ∀ e a w, wiQ (D.map col) (endV M W n K) e a w → liftF M W n Q e a w := by
  rintro e a w ⟨h1, h2⟩
  cases e <;> first
    | (obtain ⟨F', L', h3, h4, h5⟩ := h2; exact ⟨D, F', L', ⟨h1, h3⟩, h4, hk _ _ h5⟩)
    | exact h2.elim
theorem FrD.eta {a : Act} (h : FrD D n a F) : ({ ({ a with defers := [] } : Act) with defers := D.map col } : Act) = a := by
  have := h.defers
  cases a
  simp_all
theorem cvf_region {id : Nat} {l : List Oper} (hd : l.all (fun o => dstV n o.dst) = true) (hu : undefer l = true) {K : Fr → List Res → Prop} (h : vcn P M W n l true l F L K) (hk : ∀ F' L', K F' L' → Q .normal D F' L') : CVF P ro M W n (.region id l.toArray false) D F L Q := fun a w ha hw => by
  have h1 : wpList P l.toArray (endV M W n K) l { a with defers := [] } w := vcn_sound (ops := l.toArray) (slots_of (by simpa using hd)) l hd (by simpa using h) ha.ok hw fun F' L' a' w' hK h1 h2 => ⟨F', L', h1, h2, hK⟩
  have h2 := list_in (ro := ro) (k := 0) (ds := D.map col) endV_calm l _ _ hu h1
  rw [ha.eta] at h2
  exact wpIn_mono (wpIn_region_list (by simpa using h2)) (endV_out hk)
theorem cvf_region_then {id : Nat} {l : List Oper} (hd : l.all (fun o => dstV n o.dst) = true) (hu : undefer l = true) (h : vcn P M W n l true l F L (K D)) : CVF P ro M W n (.region id l.toArray false) D F L (thenF K Q) := cvf_region hd hu h fun _ _ h => h
theorem cvf_region_q {id : Nat} {l : List Oper} (hd : l.all (fun o => dstV n o.dst) = true) (hu : undefer l = true) (h : vcn P M W n l true l F L (fun F' L' => Q .normal D F' L')) : CVF P ro M W n (.region id l.toArray false) D F L Q := cvf_region hd hu h fun _ _ h => h
theorem cvf_draw_of {id : Nat} {l : List Oper} (L0 : List Res) (hL0 : ∀ w, St M W L w → St M W L0 w) (hsub : Suf L0 L) (p : List (Bool × Nat)) (fin : List Nat) (hm : P.follows .mixedOrders = true) (hd : l.all (fun o => dstV n o.dst) = true) (hs : Region.noSelect l.toArray = true)
    (hp : planOk .any l.toArray fin p (Array.replicate l.toArray.size false) = true) (hz : p.length = l.toArray.size) (hf : finOk fin p = true) (hu : undefer l = true) (h : vcd P M W n l L0 fin true p F L (K D)) : CVF P ro M W n (.region id l.toArray true) D F L (thenF K Q) := fun a w ha hw => by
  have h1 : wpPlan P l.toArray (endV M W n (K D)) (St M W L0) fin p { a with defers := [] } w.drew :=
    vcd_sound (ops := l.toArray) (K := K D) (slots_of (by simpa using hd)) (hL0 w hw).apart p (by simpa using h) ha.ok hw.drew hf (.inr hsub) fun F' L' a' w' hK h1 h2 => ⟨F', L', h1, h2, hK⟩
  have h2 := wpAny_of_need _ _ _ _ (plan_sound hs (Q := endV M W n (K D)) (by intro c d v a w hh; exact hh) p _ _ _ hp h1)
  have h3 := any_in (ro := ro) (k := 0) (ds := D.map col) endV_calm (by simpa using hu) _ _ _ _ h2
  rw [ha.eta] at h3
  rw [hz] at h3
  exact wpIn_mono (wpIn_region_any hm h3) (endV_out fun _ _ h => h)
theorem cvf_draw {id : Nat} {l : List Oper} (p : List (Bool × Nat)) (fin : List Nat) (hm : P.follows .mixedOrders = true) (hd : l.all (fun o => dstV n o.dst) = true) (hs : Region.noSelect l.toArray = true)
    (hp : planOk .any l.toArray fin p (Array.replicate l.toArray.size false) = true) (hz : p.length = l.toArray.size) (hf : finOk fin p = true) (hu : undefer l = true) (h : vcd P M W n l L fin true p F L (K D)) : CVF P ro M W n (.region id l.toArray true) D F L (thenF K Q) :=
  cvf_draw_of L (fun _ h => h) (by rw [suf_refl]; trivial) p fin hm hd hs hp hz hf hu h
theorem cvf_pick (ix : List Nat) (hnd : ix.Nodup) {c : Code} (h : CVF P ro M W n c D F (pickL ix L) Q) : CVF P ro M W n c D F L Q := fun a w ha hw => h a w ha (hw.pick hnd)
theorem cvf_pick_post (ix : List Nat) (hnd : ix.Nodup) {c : Code} (h : CVF P ro M W n c D F L (fun e D' F' L' => Q e D' F' (pickL ix L'))) : CVF P ro M W n c D F L Q := fun a w ha hw =>
  wpIn_mono (h a w ha hw) (by
    intro e a' w' hh
    cases e <;> first
      | exact hh
      | (obtain ⟨D', F', L', h1, h2, h3⟩ := hh; exact ⟨D', F', _, h1, h2.pick hnd, h3⟩))
theorem cvf_q {c : Code} (h : CVF P ro M W n c D F L (thenF (fun D' F' L' => Q .normal D' F' L') Q)) : CVF P ro M W n c D F L Q := h.mono fun e D' F' L' hh => by cases e <;> exact hh
theorem cvf_nil {c : Code} (t : TypeId) (size : Nat) (h : CVF P ro M W n c D F (.row (.slice none 0 0) t size 0 [] :: L) Q) : CVF P ro M W n c D F L Q := fun a w ha hw =>
  h a w ha (hw.add _ (World.ownsRow_nil w 0 t size) (by simp [Res.foot, Value.ownBlock]) (by simp [Res.foot, Value.ownBlock]))
theorem cvf_apart {c : Code} (h : factL W M L → CVF P ro M W n c D F L Q) : CVF P ro M W n c D F L Q := fun a w ha hw => h hw.facts a w ha hw
end
end Go.Proofs.Ytaifnipgefkemaa
/- A range over a function: the statement, a yield, the end of a function that holds such a range. -/
namespace Go.Proofs.Ytaifnipgefkemaa
open Go.RowKit Go.Shelf
set_option linter.unusedVariables false
set_option linter.unusedSimpArgs false
def ApL (L : List Res) : Prop := L.Pairwise fun r s => ∀ b ∈ r.foot, b ∉ s.foot
def foldR (L : List Res) : Res := .dat (L.flatMap Res.foot) (fun w => ∀ r ∈ L, r.holds w) (fun w w' hk h r hr => r.keep (h r hr) fun b hb => hk b (List.mem_flatMap.2 ⟨r, hr, hb⟩))
def recR (l : Nat) (r : Loop) : Res := .dat [l] (fun w => w.heap[l]? = some (.loop r)) (fun _ _ hk h => (hk l (by simp)).trans h)
section
variable {M : List Nat} {W w : World} {A B L : List Res}
theorem St.apR (h : St M W (A ++ L) w) : ApL L := (List.pairwise_append.1 h.apart).2.1
theorem St.fold (h : St M W (A ++ L) w) : St M W (A ++ [foldR L]) w := by
  obtain ⟨h1, h2, h3⟩ := List.pairwise_append.1 h.apart
  refine ⟨h.pres, fun r hr => ?_, fun r hr b hb => ?_, List.pairwise_append.2 ⟨h1, List.pairwise_singleton _ _, fun r hr s hs b hb hbs => ?_⟩⟩
  · rcases List.mem_append.1 hr with hr | hr
    · exact h.holds r (by simp [hr])
    · obtain rfl : r = foldR L := by simpa using hr
      exact fun s hs => h.holds s (by simp [hs])
  · rcases List.mem_append.1 hr with hr | hr
    · exact h.own r (by simp [hr]) b hb
    · obtain rfl : r = foldR L := by simpa using hr
      obtain ⟨s, hs, hbs⟩ := List.mem_flatMap.1 hb
      exact h.own s (by simp [hs]) b hbs
  · obtain rfl : s = foldR L := by simpa using hs
    obtain ⟨t, ht, hbt⟩ := List.mem_flatMap.1 hbs
    exact h3 r hr t ht b hb hbt
theorem St.unfold (h : St M W (A ++ [foldR L]) w) (ha : ApL L) : St M W (A ++ L) w := by
  obtain ⟨h1, h2, h3⟩ := List.pairwise_append.1 h.apart
  have hm : foldR L ∈ A ++ [foldR L] := by simp
  have hf : ∀ r ∈ L, ∀ b ∈ r.foot, b ∈ (foldR L).foot := fun r hr b hb => List.mem_flatMap.2 ⟨r, hr, hb⟩
  refine ⟨h.pres, fun r hr => ?_, fun r hr b hb => ?_, List.pairwise_append.2 ⟨h1, ha, fun r hr s hs b hb hbs => ?_⟩⟩
  · rcases List.mem_append.1 hr with hr | hr
    · exact h.holds r (by simp [hr])
    · exact h.holds _ hm r hr
  · rcases List.mem_append.1 hr with hr | hr
    · exact h.own r (by simp [hr]) b hb
    · exact h.own _ hm b (hf r hr b hb)
  · exact h3 r hr (foldR L) (by simp) b hb (hf s hs b hbs)
theorem putObj_keeps (w : World) (d : Nat) (o : Obj) : (w.putObj d o).os = w.os ∧ (w.putObj d o).tape = w.tape ∧ (w.putObj d o).output = w.output ∧ (w.putObj d o).heap.size = w.heap.size := ⟨rfl, rfl, rfl, by simp [World.putObj]⟩
/-- A block of ours that holds no cells is written. -/
theorem St.putD {d : Nat} {p p' : World → Prop} {loc loc'} {o : Obj} (h : St M W (A ++ .dat [d] p loc :: B) w) (hp : p' (w.putObj d o)) : St M W (A ++ .dat [d] p' loc' :: B) (w.putObj d o) := by
  obtain ⟨k1, k2, k3, k4⟩ := putObj_keeps w d o
  have hm : Res.dat [d] p loc ∈ A ++ .dat [d] p loc :: B := by simp
  have hd := h.own _ hm d (by simp [Res.foot])
  obtain ⟨a1, a2, a3⟩ := List.pairwise_append.1 h.apart
  obtain ⟨a4, a5⟩ := List.pairwise_cons.1 a2
  have hA : ∀ r ∈ A, d ∉ r.foot := fun r hr hb => a3 r hr (.dat [d] p loc) (by simp) d hb (by simp [Res.foot])
  have hB : ∀ r ∈ B, d ∉ r.foot := fun r hr hb => a4 r hr d (by simp [Res.foot]) hb
  have hk : ∀ r : Res, d ∉ r.foot → r.holds w → r.holds (w.putObj d o) := fun r hr hh => r.keep hh fun b hb => World.putObj_heap_other (fun e => hr (e ▸ hb))
  refine ⟨⟨k1.trans h.pres.os, k2.trans h.pres.tape, k3.trans h.pres.output, by rw [k4]; exact h.pres.size, fun j hj hjM => ?_⟩, fun r hr => ?_, fun r hr b hb => ?_, List.pairwise_append.2 ⟨a1, List.pairwise_cons.2 ⟨fun s hs => a4 s hs, a5⟩, fun r hr s hs => ?_⟩⟩
  · refine (World.putObj_heap_other (fun e => ?_)).trans (h.pres.block j hj hjM)
    subst e
    rcases hd.1 with h1 | h1
    · omega
    · exact hjM h1
  · rcases List.mem_append.1 hr with hr | hr
    · exact hk r (hA r hr) (h.holds r (by simp [hr]))
    · rcases List.mem_cons.1 hr with rfl | hr
      · exact hp
      · exact hk r (hB r hr) (h.holds r (by simp [hr]))
  · rw [k4]
    rcases List.mem_append.1 hr with hr | hr
    · exact h.own r (by simp [hr]) b hb
    · rcases List.mem_cons.1 hr with rfl | hr
      · exact h.own _ hm b hb
      · exact h.own r (by simp [hr]) b hb
  · rcases List.mem_cons.1 hs with rfl | hs
    · exact fun b hb => a3 r hr (.dat [d] p loc) (by simp) b hb
    · exact a3 r hr s (by simp [hs])
theorem St.addD {o : Obj} {p : World → Prop} {loc} (h : St M W L w) (hp : p (w.alloc o)) : St M W (.dat [w.heap.size] p loc :: L) (w.alloc o) :=
  (h.allocs o).add _ hp (fun b hb => by
    obtain rfl : b = w.heap.size := by simpa [Res.foot] using hb
    exact ⟨.inl h.pres.size, by simp⟩) (fun s hs b hb hbs => by
    obtain rfl : b = w.heap.size := by simpa [Res.foot] using hb
    have := (h.own s hs _ hbs).2
    omega)
end
/-! ## A yield -/
section
variable {P : Program} {ro : Option Nat} {M : List Nat} {W : World} {n : Nat} {D : List Nat} {F : Fr} {L : List Res} {Q : Exit → List Nat → Fr → List Res → Prop} {K : List Nat → Fr → List Res → Prop}
def YV (P : Program) (M : List Nat) (W : World) (l : Nat) (args : Array Value) (L : List Res) (K : Value → List Res → Prop) : Prop :=
  ∀ w, St M W L w → YieldAt (wideR none) 0 P l args w fun e w' => ∃ v L', e = .returned v ∧ St M W L' w' ∧ K v L'
theorem YV.mono {l : Nat} {args : Array Value} {K K' : Value → List Res → Prop} (h : YV P M W l args L K) (hk : ∀ v L', K v L' → K' v L') : YV P M W l args L K' := fun w hw => by
  obtain ⟨fn, tmps, assign, body, h1, h2⟩ := h w hw
  refine ⟨fn, tmps, assign, body, h1, h2.mono ?_⟩
  rintro e w' ⟨v, L', a1, a2, a3⟩
  exact ⟨v, L', a1, a2, hk _ _ a3⟩
def yOf (F : Fr) (o : Oper) : Option (Nat × Array Value) :=
  match o.op with
  | .call c => (match c.callee with
    | .value f => (match ev F f with
      | .func (.yield l) first cap => some (l, first ++ c.args.map (ev F))
      | _ => none)
    | _ => none)
  | _ => none
theorem operIn_monoQ {X : Fence} {k : Nat} {o : Oper} {a : Act} {w : World} {next : Act → World → Prop} {Q Q' : Exit → Act → World → Prop} (hq : ∀ e a w, Q e a w → Q' e a w) (h : o.wpIn X k P a w next Q) : o.wpIn X k P a w next Q' := by
  refine ⟨h.1, ?_⟩
  have hh := h.2
  revert hh
  generalize (o.semAt X.round a.eval).run P w = r
  intro hh
  cases r with
  | ok x w' =>
    cases x with
    | enter f args => exact ⟨hh.1, CallsIn.mono hh.2 fun e w'' he => by cases e <;> first | exact he | exact hq _ _ _ he | (obtain ⟨a0, w0, h0⟩ := he; exact ⟨a0, w0, hq _ _ _ h0⟩)⟩
    | round l f tmps assign body => exact ⟨hh.1, RoundIn.mono hh.2 fun e w'' he => by cases e <;> first | exact he | exact hq _ _ _ he | (obtain ⟨a0, w0, h0⟩ := he; exact ⟨a0, w0, hq _ _ _ h0⟩)⟩
    | _ => exact hh
  | halt x w' =>
    cases x with
    | panic v => exact hq _ _ _ hh
    | _ => exact hh
theorem listIn_monoQ {ops : Array Oper} {X : Fence} {k : Nat} {Q Q' : Exit → Act → World → Prop} (hq : ∀ e a w, Q e a w → Q' e a w) : ∀ (r : List Oper) (a : Act) (w : World), wpListIn X k P ops Q r a w → wpListIn X k P ops Q' r a w
  | [], a, w, h => hq _ _ _ h
  | o :: r, a, w, h => by
    unfold wpListIn at h ⊢
    split at h
    · rename_i hw
      rw [if_pos hw]
      exact operIn_monoQ hq (Oper.wpIn_mono (listIn_monoQ hq r) h)
    · rename_i hw
      rw [if_neg hw]
      exact ⟨h.1, listIn_monoQ hq r _ _ h.2⟩
theorem listIn_append {ops : Array Oper} {X : Fence} {k : Nat} {Q : Exit → Act → World → Prop} {K : Act → World → Prop} {r2 : List Oper} (hk : ∀ a w, K a w → wpListIn X k P ops Q r2 a w) : ∀ (r1 : List Oper) (a : Act) (w : World),
    wpListIn X k P ops (Exit.then K Q) r1 a w → wpListIn X k P ops Q (r1 ++ r2) a w
  | [], a, w, h => hk _ _ h
  | o :: r1, a, w, h => by
    simp only [List.cons_append]
    unfold wpListIn at h ⊢
    split at h
    · rename_i hw
      rw [if_pos hw]
      have h1 : o.wpIn X k P a w (wpListIn X k P ops (Exit.then K Q) r1) Q := h
      exact Oper.wpIn_mono (listIn_append hk r1) h1
    · rename_i hw
      rw [if_neg hw]
      exact ⟨h.1, listIn_append hk r1 _ _ h.2⟩
theorem yround_any {k k' : Nat} {ro ro' : Option Nat} {l : Nat} {f : FuncId} {tmps : Array Value} {assign body : Code} {w : World} {R : Ending → World → Prop} (h : RoundIn (wideR ro) k P l f tmps assign body w R) : RoundIn (wideR ro') k' P l f tmps assign body w R :=
  ⟨trivial, fun c cs _ => h.2 c cs roomR⟩
theorem yield_in {o : Oper} {a : Act} {w : World} {next : Act → World → Prop} {Q : Exit → Act → World → Prop} {l : Nat} {args : Array Value} {KK : Value → List Res → Prop} (ha : a.eval = ev F) (hy : yOf F o = some (l, args)) (hv : YV P M W l args L KK) (hw : St M W L w)
    (hn : ∀ v L' w', KK v L' → St M W L' w' → next (a.put o.dst v) w') : o.wpIn (wideR ro) 0 P a w next Q := by
  refine ⟨fun _ _ => trivial, ?_⟩
  obtain ⟨dst, op, ty, pos, after, guard⟩ := o
  unfold yOf at hy
  dsimp only at hy
  split at hy
  · rename_i c
    split at hy
    · rename_i f hf
      split at hy
      · rename_i l' first cap hfv
        simp only [Option.some.injEq, Prod.mk.injEq] at hy
        obtain ⟨rfl, rfl⟩ := hy
        obtain ⟨fn, tmps, assign, body, h1, h2⟩ := hv w hw
        rw [show (wideR ro).round = ro from rfl, Oper.semAt_eq ro _ _ (by intro c; simp), ha]
        obtain ⟨callee, cargs, ats⟩ := c
        dsimp only at hf
        subst hf
        simp only [execOp, resolve, hfv, Deferred.ofValue, Sem.run_bind, Sem.run_pure, Result.andThen_ok, invoke, h1, Oper.uponIn_round]
        refine ⟨fun hh => (by cases hh), yround_any (h2.mono ?_)⟩
        rintro e w' ⟨v, L', rfl, hs, hk⟩
        exact hn _ _ _ hk hs
      · cases hy
    · cases hy
  · cases hy
theorem cvf_yield {id : Nat} {l1 l2 : List Oper} {o : Oper} (hd : (l1 ++ o :: l2).all (fun o => dstV n o.dst) = true) (hu : undefer (l1 ++ o :: l2) = true) (hg : o.guard = none)
    (h : vcn P M W n (l1 ++ o :: l2) true l1 F L fun F1 L1 => ∃ ly args, yOf F1 o = some (ly, args) ∧ YV P M W ly args L1 fun v L2 => vcn P M W n (l1 ++ o :: l2) true l2 (updo F1 o.dst v) L2 (K D)) :
    CVF P ro M W n (.region id (l1 ++ o :: l2).toArray false) D F L (thenF K Q) := fun a w ha hw => by
  have hsl := slots_of (n := n) (ops := (l1 ++ o :: l2).toArray) (by simpa using hd)
  have hdo : dstOk n o.dst := dstV_ok (List.all_eq_true.1 hd o (by simp))
  have hd1 : l1.all (fun o => dstV n o.dst) = true := List.all_eq_true.2 fun x hx => List.all_eq_true.1 hd x (by simp [hx])
  have hd2 : l2.all (fun o => dstV n o.dst) = true := List.all_eq_true.2 fun x hx => List.all_eq_true.1 hd x (by simp [hx])
  have hu1 : undefer l1 = true := List.all_eq_true.2 fun x hx => List.all_eq_true.1 hu x (by simp [hx])
  have hu2 : undefer l2 = true := List.all_eq_true.2 fun x hx => List.all_eq_true.1 hu x (by simp [hx])
  refine wpIn_mono (Q := wiQ (D.map col) (endV M W n (K D))) ?_ (endV_out fun _ _ h => h)
  refine wpIn_region_list ?_
  simp only [List.toList_toArray]
  have h1 := vcn_sound (ops := (l1 ++ o :: l2).toArray) (Q := endV M W n fun F1 L1 => ∃ ly args, yOf F1 o = some (ly, args) ∧ YV P M W ly args L1 fun v L2 => vcn P M W n (l1 ++ o :: l2) true l2 (updo F1 o.dst v) L2 (K D)) hsl l1 hd1 (by simpa using h) ha.ok hw fun F' L' a' w' hK h1 h2 => ⟨F', L', h1, h2, hK⟩
  have h2 := list_in (ro := ro) (k := 0) (ds := D.map col) endV_calm l1 _ _ hu1 h1
  rw [ha.eta] at h2
  refine listIn_append (K := fun a1 w1 => wiQ (D.map col) (endV M W n fun F1 L1 => ∃ ly args, yOf F1 o = some (ly, args) ∧ YV P M W ly args L1 fun v L2 => vcn P M W n (l1 ++ o :: l2) true l2 (updo F1 o.dst v) L2 (K D)) .normal a1 w1) ?_ l1 a w ?_
  · rintro a1 w1 ⟨e1, F1, L1, f1, s1, ly, args, hy, hv⟩
    unfold wpListIn
    rw [if_pos (by unfold Region.wanted; rw [hg])]
    refine yield_in (F := F1) f1.eval hy hv s1 ?_
    intro v L2 w2 hK hs
    have f2 := f1.put hdo v
    have h3 := vcn_sound (ops := (l1 ++ o :: l2).toArray) (Q := endV M W n (K D)) hsl l2 hd2 (by simpa using hK) f2 hs fun F' L' a' w' hK h1 h2 => ⟨F', L', h1, h2, hK⟩
    have h4 := list_in (ro := ro) (k := 0) (ds := D.map col) endV_calm l2 _ _ hu2 h3
    have e : ({ (({ a1 with defers := [] } : Act).put o.dst v) with defers := D.map col } : Act) = a1.put o.dst v := by
      rw [act_put]
      cases a1
      cases o.dst <;> simp_all [Act.put]
    rw [e] at h4
    exact h4
  · refine listIn_monoQ ?_ _ _ _ h2
    rintro e a1 w1 hh
    cases e <;> first
      | exact hh
      | exact hh.2.elim
end
/-! ## The statement -/
def setF : Fr → List (Nat × Value) → Fr
  | F, [] => F
  | F, (t, v) :: r => setF (upd F t v) r
theorem FrOK.setF {n : Nat} : ∀ (l : List (Nat × Value)) {tm : Array Value} {F : Fr}, FrOK n { tmps := tm, defers := [] } F → (∀ x ∈ l, x.1 < n) → FrOK n { tmps := l.foldl (fun t (p : Nat × Value) => t.setIfInBounds p.1 p.2) tm, defers := [] } (Go.Proofs.Ytaifnipgefkemaa.setF F l)
  | [], tm, F, h, _ => h
  | (t, v) :: r, tm, F, h, hl => FrOK.setF r (tm := tm.setIfInBounds t v) (F := upd F t v) (h.put (d := some t) (hl (t, v) (by simp)) v) fun x hx => hl x (by simp [hx])
def Iter (P : Program) (M : List Nat) (W : World) {α : Type} (gf : Nat) (lb : Array Value) (encs : α → Array Value) (N : Nat) (S Sp : List α → Prop) (A : List Res) : Prop :=
  ∀ (l : Nat) (I Ix : List α → Res → Prop), (∀ pre R, I pre R → ∃ f p loc, R = .dat f p loc) →
    (∀ pre x X R, pre.length < N → I pre R → YV P M W l (encs x) (X ++ [R]) fun v L' => (v = .bool true ∧ ∃ R', I (pre ++ [x]) R' ∧ L' = X ++ [R']) ∨ (v = .bool false ∧ ∃ R', Ix (pre ++ [x]) R' ∧ L' = X ++ [R'])) →
    ∀ R w, I [] R → St M W (A ++ [R]) w → Calls P gf (#[.func (.yield l) #[] #[]] ++ lb) w fun e w' => (∃ v, e = .returned v) ∧
      ((∃ xs R', S xs ∧ I xs R' ∧ St M W (A ++ [R']) w') ∨ (∃ pre R', Sp pre ∧ Ix pre R' ∧ St M W (A ++ [R']) w'))
section
variable {P : Program} {M : List Nat} {W : World} {n : Nat} {D : List Nat} {F : Fr} {L : List Res} {Q : Exit → List Nat → Fr → List Res → Prop}
def rndQ {α : Type} (I : List α → List Res → Prop) (Ix : Code → List α → List Res → Prop) (pre : List α) (R : Res) : Exit → List Nat → Fr → List Res → Prop
  | .normal, _, _, L => ∃ B, L = B ++ [R] ∧ I pre B
  | .ret, _, _, L => ∃ B, L = B ++ [R] ∧ Ix .ret pre B
  | .exit id, _, _, L => ∃ B, L = B ++ [R] ∧ Ix (.exit id) pre B
  | _, _, _, _ => False
def asgQ {α : Type} (P : Program) (l : Nat) (M : List Nat) (W : World) (n : Nat) (body : Code) (I : List α → List Res → Prop) (Ix : Code → List α → List Res → Prop) (pre : List α) (R : Res) : Exit → List Nat → Fr → List Res → Prop
  | .normal, D, F, L => D = [] ∧ ∃ B, L = B ++ [R] ∧ ∀ R', CVF P (some l) M W n body [] F (B ++ [R']) (rndQ I Ix pre R')
  | _, _, _, _ => False
def jmpQ (Q : Exit → List Nat → Fr → List Res → Prop) (c : Code) (D : List Nat) (F : Fr) (L : List Res) : Prop :=
  match c with
  | .ret => Q .ret D F L
  | .exit id => Q (.exit id) D F L
  | _ => False
theorem cvf_range {α : Type} {g : Operand} {ps : Array Tmp} {assign body : Code} {gf : Nat} {lb : Array Value} {encs : α → Array Value} {N : Nat} {S Sp : List α → Prop} {A : List Res} (B : List Res)
    (hg : ev F g = .func (.func gf) #[] lb) (hgb : hasBody P gf = true) (hit : Iter P M W gf lb encs N S Sp A) (hps : ∀ x, (encs x).size = ps.size) (hpn : ps.toList.all (fun t => Nat.ble (t + 1) n) = true) (hL : L = A ++ B)
    (I : List α → List Res → Prop) (Ix : Code → List α → List Res → Prop) (h0 : I [] B)
    (hbody : ∀ l pre x R B', pre.length < N → I pre B' → CVF P (some l) M W n assign [] (setF F (ps.toList.zip (encs x).toList)) (B' ++ [R]) (asgQ P l M W n body I Ix (pre ++ [x]) R))
    (hdone : ∀ d xs B', S xs → I xs B' → Q .normal (d :: D) F (dfr d :: (A ++ B')))
    (hstop : ∀ d c pre B', Sp pre → Ix c pre B' → jmpQ Q c (d :: D) F (dfr d :: (A ++ B'))) : CVF P none M W n (.rangeFunc g ps assign body) D F L Q := fun a w ha hw => by
  subst hL
  refine wpIn_rangeFunc ?_
  intro fn hfn
  obtain ⟨rcd, hrcd⟩ : ∃ rcd : LoopState → Option Code → Loop, rcd = fun st pe => { state := st, pending := pe, fn, tmps := a.tmps, params := ps, assign, body, defers := w.heap.size } := ⟨_, rfl⟩
  obtain ⟨d, hd⟩ : ∃ d, w.heap.size = d := ⟨_, rfl⟩
  obtain ⟨l, hl⟩ : ∃ l, d + 1 = l := ⟨_, rfl⟩
  obtain ⟨W1, hW1⟩ : ∃ W1, (w.alloc (.deferred (some []))).alloc (.loop (rcd .ready none)) = W1 := ⟨_, rfl⟩
  have hst1 : St M W (A ++ (B ++ [recR l (rcd .ready none), dfr d])) W1 := by
    have q1 : St M W (dfr d :: (A ++ B)) (w.alloc (.deferred (some []))) := by
      rw [← hd]
      exact hw.addD (World.alloc_heap_new w _)
    have q2 : St M W (recR l (rcd .ready none) :: dfr d :: (A ++ B)) W1 := by
      rw [← hW1, ← hl]
      have e : (w.alloc (.deferred (some []))).heap.size = d + 1 := by simp [hd]
      have := q1.addD (o := .loop (rcd .ready none)) (p := fun w => w.heap[d + 1]? = some (.loop (rcd .ready none))) (loc := fun _ _ hk h => (hk (d + 1) (by rw [e]; simp)).trans h) (by
        have := World.alloc_heap_new (w.alloc (.deferred (some []))) (.loop (rcd .ready none))
        rwa [e] at this)
      unfold recR
      simp only [e] at this
      exact this
    refine q2.perm ?_
    rw [← List.append_assoc]
    exact (List.perm_append_comm (l₁ := A ++ B) (l₂ := [recR l (rcd .ready none), dfr d]))
  have hap0 : ApL (B ++ [recR l (rcd .ready none), dfr d]) := hst1.apR
  have key := hit l (fun pre R => ∃ B', I pre B' ∧ ApL (B' ++ [recR l (rcd .ready none), dfr d]) ∧ R = foldR (B' ++ [recR l (rcd .ready none), dfr d]))
    (fun pre R => ∃ c B', Ix c pre B' ∧ ApL (B' ++ [recR l (rcd .done (some c)), dfr d]) ∧ R = foldR (B' ++ [recR l (rcd .done (some c)), dfr d])) (by rintro pre R ⟨B', -, -, rfl⟩; exact ⟨_, _, _, rfl⟩) ?round
    (foldR (B ++ [recR l (rcd .ready none), dfr d])) W1 ⟨B, h0, hap0, rfl⟩ hst1.fold
  case round =>
    rintro pre x X R hlen ⟨B', hI, hap, rfl⟩ w1 hw1
    have hw2 := hw1.unfold hap
    have hr1 : w1.heap[l]? = some (.loop (rcd .ready none)) := hw2.holds (recR l (rcd .ready none)) (by simp)
    have hps' : (encs x).size = (rcd .ready none).params.size := by rw [hrcd]; exact hps x
    have hy := run_yield (P := P) (args := encs x) hr1 hps'
    rw [hrcd] at hy
    dsimp only at hy
    have hperm : (B' ++ (X ++ [recR l (rcd .ready none), dfr d])).Perm (X ++ (B' ++ [recR l (rcd .ready none), dfr d])) := by
      rw [← List.append_assoc, ← List.append_assoc]
      exact (List.perm_append_comm).append_right _
    have hw3 := hw2.perm hperm
    have hapX : ApL (X ++ [recR l (rcd .ready none), dfr d]) := hw3.apR
    have hfr : FrD [] n { tmps := (ps.zip (encs x)).foldl (fun tmps (t, a) => tmps.setIfInBounds t a) a.tmps, defers := [] } (setF F (ps.toList.zip (encs x).toList)) := by
      refine ⟨rfl, ?_⟩
      have := FrOK.setF (ps.toList.zip (encs x).toList) (tm := a.tmps) (F := F) ha.ok fun y hy => by
        have := List.all_eq_true.1 hpn y.1 (List.of_mem_zip hy).1
        exact Nat.le_of_ble_eq_true this
      have e : (ps.zip (encs x)).foldl (fun tmps (t, a) => tmps.setIfInBounds t a) a.tmps = (ps.toList.zip (encs x).toList).foldl (fun t (p : Nat × Value) => t.setIfInBounds p.1 p.2) a.tmps := by
        rw [← Array.toList_zip, Array.foldl_toList]
      rw [e]
      exact this
    refine ⟨fn, _, assign, body, hy, roundIn_of_wpIn hfn (wpIn_mono (hbody l pre x _ B' hlen hI _ w1 hfr hw3.fold) ?_)⟩
    intro e a1 w2 hq
    cases e with
    | normal =>
      obtain ⟨D', F', L', f1, s1, rfl, B2, rfl, hb⟩ := hq
      have s2 := s1.unfold hapX
      have hr2 : w2.heap[l]? = some (.loop (rcd .ready none)) := s2.holds (recR l (rcd .ready none)) (by simp)
      have hlt2 : l < w2.heap.size := (Array.getElem?_eq_some_iff.1 hr2).1
      refine ⟨_, run_beginRound hr2 (by rw [hrcd]), ?_⟩
      have ebusy : ({ rcd .ready none with state := .busy } : Loop) = rcd .busy none := by rw [hrcd]
      rw [ebusy]
      have s3 : St M W (B2 ++ (X ++ [recR l (rcd .busy none), dfr d])) (w2.putObj l (.loop (rcd .busy none))) := by
        have e : B2 ++ (X ++ [recR l (rcd .ready none), dfr d]) = (B2 ++ X) ++ recR l (rcd .ready none) :: [dfr d] := by simp
        rw [e] at s2
        have := s2.putD (o := .loop (rcd .busy none)) (p' := fun w => w.heap[l]? = some (.loop (rcd .busy none))) (loc' := fun _ _ hk h => (hk l (by simp)).trans h) (World.putObj_heap_same hlt2)
        have e2 : B2 ++ (X ++ [recR l (rcd .busy none), dfr d]) = (B2 ++ X) ++ recR l (rcd .busy none) :: [dfr d] := by simp
        rw [e2]
        exact this
      have hapB : ApL (X ++ [recR l (rcd .busy none), dfr d]) := s3.apR
      refine wpIn_mono (hb _ a1 _ f1 s3.fold) ?_
      have fin : ∀ (jump : Option Code) (B3 : List Res) (w3 : World), St M W (B3 ++ [foldR (X ++ [recR l (rcd .busy none), dfr d])]) w3 →
          ∃ w4, (Instr.endRound l jump).run P w3 = .ok (.bool jump.isNone) w4 ∧ St M W (X ++ (B3 ++ [recR l (rcd (if jump.isNone then .ready else .done) jump), dfr d])) w4 := fun jump B3 w3 h3 => by
        have h4 := h3.unfold hapB
        have hr3 : w3.heap[l]? = some (.loop (rcd .busy none)) := h4.holds (recR l (rcd .busy none)) (by simp)
        refine ⟨_, run_endRound jump hr3, ?_⟩
        have ee : ({ rcd .busy none with state := if jump.isNone then .ready else .done, pending := jump } : Loop) = rcd (if jump.isNone then .ready else .done) jump := by rw [hrcd]
        rw [ee]
        have e : B3 ++ (X ++ [recR l (rcd .busy none), dfr d]) = (B3 ++ X) ++ recR l (rcd .busy none) :: [dfr d] := by simp
        rw [e] at h4
        have := h4.putD (o := .loop (rcd (if jump.isNone then .ready else .done) jump)) (p' := fun w => w.heap[l]? = some (.loop (rcd (if jump.isNone then .ready else .done) jump))) (loc' := fun _ _ hk h => (hk l (by simp)).trans h) (World.putObj_heap_same (Array.getElem?_eq_some_iff.1 hr3).1)
        refine this.perm ?_
        rw [← List.append_assoc]
        exact (List.perm_append_comm).append_right _
      rintro e a3 w3 hp
      cases e with
      | normal =>
        obtain ⟨D3, F3, L3, f3, s4, B3, rfl, hi⟩ := hp
        obtain ⟨w4, hr, s5⟩ := fin none B3 w3 s4
        exact ⟨_, _, hr, _, _, rfl, s5.fold, .inl ⟨rfl, _, ⟨B3, hi, s5.apR, rfl⟩, rfl⟩⟩
      | ret =>
        obtain ⟨D3, F3, L3, f3, s4, B3, rfl, hi⟩ := hp
        obtain ⟨w4, hr, s5⟩ := fin (some .ret) B3 w3 s4
        exact ⟨_, _, hr, _, _, rfl, s5.fold, .inr ⟨rfl, _, ⟨_, B3, hi, s5.apR, rfl⟩, rfl⟩⟩
      | exit id =>
        obtain ⟨D3, F3, L3, f3, s4, B3, rfl, hi⟩ := hp
        obtain ⟨w4, hr, s5⟩ := fin (some (.exit id)) B3 w3 s4
        exact ⟨_, _, hr, _, _, rfl, s5.fold, .inr ⟨rfl, _, ⟨_, B3, hi, s5.apR, rfl⟩, rfl⟩⟩
      | goto t => obtain ⟨D3, F3, L3, f3, s4, hh⟩ := hp; exact hh.elim
      | panic c => exact hp.elim
      | outgrown => exact hp.elim
    | ret => obtain ⟨D3, F3, L3, f3, s4, hh⟩ := hq; exact hh.elim
    | exit id => obtain ⟨D3, F3, L3, f3, s4, hh⟩ := hq; exact hh.elim
    | goto t => obtain ⟨D3, F3, L3, f3, s4, hh⟩ := hq; exact hh.elim
    | panic c => exact hq.elim
    | outgrown => exact hq.elim
  have hev : a.eval = ev F := ha.ok.eval
  refine ⟨l, [col d], W1, { target := .fn (.func gf) lb, args := #[.func (.yield l) #[] #[]] }, W1, gf, #[.func (.yield l) #[] #[]] ++ lb, W1, ?_, ?_, ?_, ?_, ?_, ?_⟩
  · rw [← hW1, hrcd, ← hl, ← hd]
    exact run_enterLoop_outer _ _ _ _ _
  · simp only [resolve, hev, hg, rangeCall, Deferred.ofValue]
    simp [go_sem, ev]
  · intro _ _
    exact trivial
  · simp only [invoke, callFunc_enter hgb]
  · intro hh
    cases hh
  · refine callsR ?_
    refine key.mono ?_
    have hfr : FrD (d :: D) n { a with defers := [col d] ++ a.defers } F := ⟨by simp [ha.defers], ha.ok⟩
    have fin : ∀ (st : LoopState) (pe : Option Code) (B' : List Res) (w3 : World), st ≠ .busy → ApL (B' ++ [recR l (rcd st pe), dfr d]) → St M W (A ++ [foldR (B' ++ [recR l (rcd st pe), dfr d])]) w3 →
        ∃ w4, (Instr.endLoop l).run P w3 = .ok pe w4 ∧ St M W (dfr d :: (A ++ B')) w4 := fun st pe B' w3 hst hap h3 => by
      have h4 := h3.unfold hap
      have hr3 : w3.heap[l]? = some (.loop (rcd st pe)) := h4.holds (recR l (rcd st pe)) (by simp)
      have e1 : (rcd st pe).state = st := by rw [hrcd]
      have e2 : (rcd st pe).pending = pe := by rw [hrcd]
      have := run_endLoop (P := P) hr3 (by rw [e1]; exact hst)
      have this2 : (Instr.endLoop l).run P w3 = .ok pe (w3.putObj l (.loop { rcd st pe with state := .exhausted })) := this.trans (by subst hrcd; rfl)
      refine ⟨_, this2, ?_⟩
      have e : A ++ (B' ++ [recR l (rcd st pe), dfr d]) = (A ++ B') ++ recR l (rcd st pe) :: [dfr d] := by simp
      rw [e] at h4
      have h5 := h4.putD (o := .loop { rcd st pe with state := .exhausted }) (p' := fun _ => True) (loc' := fun _ _ _ _ => trivial) trivial
      have h6 := h5.perm (L' := .dat [l] (fun _ => True) (fun _ _ _ _ => trivial) :: dfr d :: (A ++ B')) (List.perm_append_comm (l₁ := [_, dfr d]) (l₂ := A ++ B'))
      exact h6.tail
    rintro e w3 ⟨⟨v, rfl⟩, (⟨xs, R', hS, ⟨B', hI, hap, rfl⟩, s⟩ | ⟨pre, R', hSp, ⟨c, B', hI, hap, rfl⟩, s⟩)⟩
    · obtain ⟨w4, hr, s4⟩ := fin .ready none B' w3 (by simp) hap s
      exact ⟨none, w4, hr, d :: D, F, _, hfr, s4, hdone d xs B' hS hI⟩
    · obtain ⟨w4, hr, s4⟩ := fin .done (some c) B' w3 (by simp) hap s
      refine ⟨some c, w4, hr, ?_⟩
      have hj := hstop d c pre B' hSp hI
      unfold jmpQ at hj
      split at hj
      · exact wpIn_ret ⟨d :: D, F, _, hfr, s4, hj⟩
      · exact wpIn_exit ⟨d :: D, F, _, hfr, s4, hj⟩
      · exact hj.elim
/-! ## The whole function -/
def retF (P : Program) (M : List Nat) (W : World) (rs : List ResultVar) (R : Ending → World → Prop) : Exit → List Nat → Fr → List Res → Prop
  | .normal, D, F, L => ∃ L2, L = D.map dfr ++ L2 ∧ ressV P M W L2 F rs fun tok vs => tok = true → ∀ w, St M W L2 w → R (.returned (packV vs)) w
  | .ret, D, F, L => ∃ L2, L = D.map dfr ++ L2 ∧ ressV P M W L2 F rs fun tok vs => tok = true → ∀ w, St M W L2 w → R (.returned (packV vs)) w
  | _, _, _, _ => False
theorem calls_cvf {f : FuncId} {fn : Func} {c : Code} {args : List Value} {R : Ending → World → Prop} {w : World} (rs : List ResultVar) (hrs : fn.results = rs.toArray) (hf : P.funcs[f]? = some fn) (hb : fn.body = some c) (hn : fn.ntmps = n) (hl : args.length ≤ n) (hw : St M W L w)
    (h : CVF P none M W n c [] (mkF args) L (retF P M W rs R)) : Calls P f args.toArray w R := by
  obtain rfl : fn.results.toList = rs := by rw [hrs]
  refine callsR_out (ro := none) (k := 0) (callsIn_of_wp_marks hf hb trivial (wpIn_mono (h _ w ⟨rfl, rfl, by simp [hn]; omega, fun i => ?_⟩ hw) ?_) rfl)
  · simp only [mkF]
    rcases Nat.lt_or_ge i args.length with h1 | h1
    · have h2 : i < (args.toArray ++ Array.replicate (fn.ntmps - args.toArray.size) undef).size := by simp; omega
      simp [Array.getElem?_append, h1]
    · have h2 : args[i]? = none := List.getElem?_eq_none h1
      simp [Array.getElem?_append, Nat.not_lt.2 h1, Array.getElem?_replicate, h2]
      split <;> rfl
  · have key : ∀ (a : Act) (D : List Nat) (F : Fr) (L2 : List Res), FrD D n a F → ressV P M W L2 F fn.results.toList (fun tok vs => tok = true → ∀ w, St M W L2 w → R (.returned (packV vs)) w) → ∀ (D' : List Nat) (w : World), St M W (D'.map dfr ++ L2) w →
        LeavesInM (wideR none) 0 P fn a.tmps R (D'.map col) .returning w := by
      intro a D F L2 f1 h3 D'
      induction D' with
      | nil =>
        intro w hs
        obtain ⟨vs, hk, hr⟩ := ressV_sound f1.ok h3
        exact ⟨_, results_pack (hr w hs), hk rfl w hs⟩
      | cons d D' ih =>
        intro w hs
        have hd : w.heap[d]? = some (.deferred (some [])) := hs.holds (dfr d) (by simp)
        refine ⟨by simp, .inl ⟨d, _, rfl, run_takeDeferred hd, ih _ ?_⟩⟩
        have := St.putD (A := []) (o := .deferred none) (p' := fun _ => True) (loc' := fun _ _ _ _ => trivial) (show St M W ([] ++ dfr d :: (D'.map dfr ++ L2)) w from hs) trivial
        exact St.tail this
    intro e a w hh
    cases e <;> first
      | exact hh.elim
      | (obtain ⟨D, F', L', h1, h2, h3⟩ := hh
         first
           | exact h3.elim
           | (obtain ⟨L2, rfl, h3⟩ := h3
              show LeavesInM (wideR none) 0 P fn a.tmps R a.defers .returning w
              rw [h1.defers]
              exact key a D F' L2 h1 h3 D w h2))
end
section
variable {K : List Nat → Fr → List Res → Prop} {Q : Exit → List Nat → Fr → List Res → Prop} {D : List Nat} {F : Fr} {L : List Res} {i j : Nat}
theorem thenF_normal : thenF K Q .normal D F L = K D F L := rfl
theorem thenF_exit : thenF K Q (.exit i) D F L = Q (.exit i) D F L := rfl
theorem thenF_ret : thenF K Q .ret D F L = Q .ret D F L := rfl
theorem blockF_exit : blockF i Q (.exit j) D F L = if j = i then Q .normal D F L else Q (.exit j) D F L := rfl
theorem blockF_normal : blockF i Q .normal D F L = Q .normal D F L := rfl
theorem blockF_ret : blockF i Q .ret D F L = Q .ret D F L := rfl
theorem look_dat {f : List Nat} {p : World → Prop} {loc} (L : List Res) (k : Nat) : look (.dat f p loc :: L) k = look L k := rfl
theorem putL_dat {f : List Nat} {p : World → Prop} {loc} (L : List Res) (k : Nat) (us : List Value) : putL (.dat f p loc :: L) k us = .dat f p loc :: putL L k us := rfl
theorem fresh_dat {f : List Nat} {p : World → Prop} {loc} (L : List Res) (k : Nat) : fresh (.dat f p loc :: L) k = fresh L k := rfl
theorem neB_dat {f : List Nat} {p : World → Prop} {loc} (L : List Res) (k : Nat) : neB (.dat f p loc :: L) k = neB L k := rfl
theorem neR_dat {f : List Nat} {p : World → Prop} {loc} (L : List Res) (k : Nat) : neR (.dat f p loc :: L) k = neR L k := rfl
theorem factL_dat {f : List Nat} {p : World → Prop} {loc} (W : World) (M : List Nat) (L : List Res) : factL W M (.dat f p loc :: L) = factL W M L := rfl
theorem look_dfr (d : Nat) (L : List Res) (k : Nat) : look (dfr d :: L) k = look L k := rfl
theorem putL_dfr (d : Nat) (L : List Res) (k : Nat) (us : List Value) : putL (dfr d :: L) k us = dfr d :: putL L k us := rfl
theorem fresh_dfr (d : Nat) (L : List Res) (k : Nat) : fresh (dfr d :: L) k = fresh L k := rfl
theorem neB_dfr (d : Nat) (L : List Res) (k : Nat) : neB (dfr d :: L) k = neB L k := rfl
theorem neR_dfr (d : Nat) (L : List Res) (k : Nat) : neR (dfr d :: L) k = neR L k := rfl
theorem factL_dfr (W : World) (M : List Nat) (d : Nat) (L : List Res) : factL W M (dfr d :: L) = factL W M L := rfl
theorem cF : type_of% (And.intro (And.intro (And.intro (And.intro @thenF_normal @thenF_exit) (And.intro @thenF_ret (And.intro @blockF_exit (And.intro @blockF_normal @blockF_ret)))) (And.intro (And.intro @look_dfr (And.intro @putL_dfr @fresh_dfr)) (And.intro @neB_dfr (And.intro @neR_dfr @factL_dfr)))) (And.intro (And.intro @look_dat (And.intro @putL_dat @fresh_dat)) (And.intro @neB_dat (And.intro @neR_dat @factL_dat)))) := (And.intro (And.intro (And.intro (And.intro @thenF_normal @thenF_exit) (And.intro @thenF_ret (And.intro @blockF_exit (And.intro @blockF_normal @blockF_ret)))) (And.intro (And.intro @look_dfr (And.intro @putL_dfr @fresh_dfr)) (And.intro @neB_dfr (And.intro @neR_dfr @factL_dfr)))) (And.intro (And.intro @look_dat (And.intro @putL_dat @fresh_dat)) (And.intro @neB_dat (And.intro @neR_dat @factL_dat))))
end
section
variable {P : Program} {ro : Option Nat} {M : List Nat} {W : World} {nn : Nat} {D : List Nat} {F : Fr} {L : List Res} {Q : Exit → List Nat → Fr → List Res → Prop} {co : Code}
theorem cvf_rowA (k : Nat) {A : Option Addr} {n c size : Nat} {t : TypeId} {xs : List Value} (hk : nth L k = some (.row (.slice A n c) t size n xs)) (hn : 0 < n)
    (h : ∀ g, A = some ⟨g, 0, none⟩ → (W.heap.size ≤ g ∨ g ∈ M) → neB (L.eraseIdx k) g → CVF P ro M W nn co D F L Q) : CVF P ro M W nn co D F L Q := fun a w ha hw => by
  rcases (hw.perm (perm_erase hk).symm).row_at with ⟨-, h0⟩ | ⟨g, e, hb, hne⟩
  · omega
  · exact h g e hb hne a w ha hw
theorem cvf_fact (p : Prop) (h : ∀ w, St M W L w → p) (hk : p → CVF P ro M W nn co D F L Q) : CVF P ro M W nn co D F L Q := fun a w ha hw => hk (h w hw) a w ha hw
theorem cvf_len (k : Nat) {A : Option Addr} {m d size : Nat} {t : TypeId} {xs : List Value} (hk : nth L k = some (.row (.slice A m d) t size m xs))
    (h : xs.length = m * size → CVF P ro M W nn co D F L Q) : CVF P ro M W nn co D F L Q := fun a w ha hw => h (hw.slr k hk).len a w ha hw
theorem callV_box {g : FuncId} {args : Array Value} {K : Bool → Value → List Res → Prop} {f : Nat → Value} {t : TypeId} {cs : List Value} (h : ∀ w, St M W L w → Calls P g args w fun e w' => e = .returned (f w.heap.size) ∧ w' = w.alloc (.cells cs.toArray t))
    (hk : ∀ b, W.heap.size ≤ b → fresh L b → K true (f b) (.blk b t cs :: L)) : CallV P M W g args L K := fun w hw => by
  refine (h w hw).mono ?_
  rintro e w' ⟨rfl, rfl⟩
  exact ⟨_, _, rfl, hw.alloc t cs, hk _ hw.pres.size (fresh_of hw)⟩
end
end Go.Proofs.Ytaifnipgefkemaa
/- A range over a function whose values are known: the rule of XEngG with a predicate on the next value. -/
namespace Go.Proofs.Ytaifnipgefkemaa
open Go.RowKit Go.Shelf
set_option linter.unusedVariables false
set_option linter.unusedSimpArgs false
def IterP (P : Program) (M : List Nat) (W : World) {α : Type} (gf : Nat) (lb : Array Value) (encs : α → Array Value) (Pn : List α → α → Prop) (S Sp : List α → Prop) (A : List Res) : Prop :=
  ∀ (l : Nat) (I Ix : List α → Res → Prop), (∀ pre R, I pre R → ∃ f p loc, R = .dat f p loc) →
    (∀ pre x X R, Pn pre x → I pre R → YV P M W l (encs x) (X ++ [R]) fun v L' => (v = .bool true ∧ ∃ R', I (pre ++ [x]) R' ∧ L' = X ++ [R']) ∨ (v = .bool false ∧ ∃ R', Ix (pre ++ [x]) R' ∧ L' = X ++ [R'])) →
    ∀ R w, I [] R → St M W (A ++ [R]) w → Calls P gf (#[.func (.yield l) #[] #[]] ++ lb) w fun e w' => (∃ v, e = .returned v) ∧
      ((∃ xs R', S xs ∧ I xs R' ∧ St M W (A ++ [R']) w') ∨ (∃ pre R', Sp pre ∧ Ix pre R' ∧ St M W (A ++ [R']) w'))
section
variable {P : Program} {M : List Nat} {W : World} {n : Nat} {D : List Nat} {F : Fr} {L : List Res} {Q : Exit → List Nat → Fr → List Res → Prop}
theorem cvf_rangeP {α : Type} {g : Operand} {ps : Array Tmp} {assign body : Code} {gf : Nat} {lb : Array Value} {encs : α → Array Value} {Pn : List α → α → Prop} {S Sp : List α → Prop} {A : List Res} (B : List Res)
    (hg : ev F g = .func (.func gf) #[] lb) (hgb : hasBody P gf = true) (hit : IterP P M W gf lb encs Pn S Sp A) (hps : ∀ x, (encs x).size = ps.size) (hpn : ps.toList.all (fun t => Nat.ble (t + 1) n) = true) (hL : L = A ++ B)
    (I : List α → List Res → Prop) (Ix : Code → List α → List Res → Prop) (h0 : I [] B)
    (hbody : ∀ l pre x R B', Pn pre x → I pre B' → CVF P (some l) M W n assign [] (setF F (ps.toList.zip (encs x).toList)) (B' ++ [R]) (asgQ P l M W n body I Ix (pre ++ [x]) R))
    (hdone : ∀ d xs B', S xs → I xs B' → Q .normal (d :: D) F (dfr d :: (A ++ B')))
    (hstop : ∀ d c pre B', Sp pre → Ix c pre B' → jmpQ Q c (d :: D) F (dfr d :: (A ++ B'))) : CVF P none M W n (.rangeFunc g ps assign body) D F L Q := fun a w ha hw => by
  subst hL
  refine wpIn_rangeFunc ?_
  intro fn hfn
  obtain ⟨rcd, hrcd⟩ : ∃ rcd : LoopState → Option Code → Loop, rcd = fun st pe => { state := st, pending := pe, fn, tmps := a.tmps, params := ps, assign, body, defers := w.heap.size } := ⟨_, rfl⟩
  obtain ⟨d, hd⟩ : ∃ d, w.heap.size = d := ⟨_, rfl⟩
  obtain ⟨l, hl⟩ : ∃ l, d + 1 = l := ⟨_, rfl⟩
  obtain ⟨W1, hW1⟩ : ∃ W1, (w.alloc (.deferred (some []))).alloc (.loop (rcd .ready none)) = W1 := ⟨_, rfl⟩
  have hst1 : St M W (A ++ (B ++ [recR l (rcd .ready none), dfr d])) W1 := by
    have q1 : St M W (dfr d :: (A ++ B)) (w.alloc (.deferred (some []))) := by
      rw [← hd]
      exact hw.addD (World.alloc_heap_new w _)
    have q2 : St M W (recR l (rcd .ready none) :: dfr d :: (A ++ B)) W1 := by
      rw [← hW1, ← hl]
      have e : (w.alloc (.deferred (some []))).heap.size = d + 1 := by simp [hd]
      have := q1.addD (o := .loop (rcd .ready none)) (p := fun w => w.heap[d + 1]? = some (.loop (rcd .ready none))) (loc := fun _ _ hk h => (hk (d + 1) (by rw [e]; simp)).trans h) (by
        have := World.alloc_heap_new (w.alloc (.deferred (some []))) (.loop (rcd .ready none))
        rwa [e] at this)
      unfold recR
      simp only [e] at this
      exact this
    refine q2.perm ?_
    rw [← List.append_assoc]
    exact (List.perm_append_comm (l₁ := A ++ B) (l₂ := [recR l (rcd .ready none), dfr d]))
  have hap0 : ApL (B ++ [recR l (rcd .ready none), dfr d]) := hst1.apR
  have key := hit l (fun pre R => ∃ B', I pre B' ∧ ApL (B' ++ [recR l (rcd .ready none), dfr d]) ∧ R = foldR (B' ++ [recR l (rcd .ready none), dfr d]))
    (fun pre R => ∃ c B', Ix c pre B' ∧ ApL (B' ++ [recR l (rcd .done (some c)), dfr d]) ∧ R = foldR (B' ++ [recR l (rcd .done (some c)), dfr d])) (by rintro pre R ⟨B', -, -, rfl⟩; exact ⟨_, _, _, rfl⟩) ?round
    (foldR (B ++ [recR l (rcd .ready none), dfr d])) W1 ⟨B, h0, hap0, rfl⟩ hst1.fold
  case round =>
    rintro pre x X R hlen ⟨B', hI, hap, rfl⟩ w1 hw1
    have hw2 := hw1.unfold hap
    have hr1 : w1.heap[l]? = some (.loop (rcd .ready none)) := hw2.holds (recR l (rcd .ready none)) (by simp)
    have hps' : (encs x).size = (rcd .ready none).params.size := by rw [hrcd]; exact hps x
    have hy := run_yield (P := P) (args := encs x) hr1 hps'
    rw [hrcd] at hy
    dsimp only at hy
    have hperm : (B' ++ (X ++ [recR l (rcd .ready none), dfr d])).Perm (X ++ (B' ++ [recR l (rcd .ready none), dfr d])) := by
      rw [← List.append_assoc, ← List.append_assoc]
      exact (List.perm_append_comm).append_right _
    have hw3 := hw2.perm hperm
    have hapX : ApL (X ++ [recR l (rcd .ready none), dfr d]) := hw3.apR
    have hfr : FrD [] n { tmps := (ps.zip (encs x)).foldl (fun tmps (t, a) => tmps.setIfInBounds t a) a.tmps, defers := [] } (setF F (ps.toList.zip (encs x).toList)) := by
      refine ⟨rfl, ?_⟩
      have := FrOK.setF (ps.toList.zip (encs x).toList) (tm := a.tmps) (F := F) ha.ok fun y hy => by
        have := List.all_eq_true.1 hpn y.1 (List.of_mem_zip hy).1
        exact Nat.le_of_ble_eq_true this
      have e : (ps.zip (encs x)).foldl (fun tmps (t, a) => tmps.setIfInBounds t a) a.tmps = (ps.toList.zip (encs x).toList).foldl (fun t (p : Nat × Value) => t.setIfInBounds p.1 p.2) a.tmps := by
        rw [← Array.toList_zip, Array.foldl_toList]
      rw [e]
      exact this
    refine ⟨fn, _, assign, body, hy, roundIn_of_wpIn hfn (wpIn_mono (hbody l pre x _ B' hlen hI _ w1 hfr hw3.fold) ?_)⟩
    intro e a1 w2 hq
    cases e with
    | normal =>
      obtain ⟨D', F', L', f1, s1, rfl, B2, rfl, hb⟩ := hq
      have s2 := s1.unfold hapX
      have hr2 : w2.heap[l]? = some (.loop (rcd .ready none)) := s2.holds (recR l (rcd .ready none)) (by simp)
      have hlt2 : l < w2.heap.size := (Array.getElem?_eq_some_iff.1 hr2).1
      refine ⟨_, run_beginRound hr2 (by rw [hrcd]), ?_⟩
      have ebusy : ({ rcd .ready none with state := .busy } : Loop) = rcd .busy none := by rw [hrcd]
      rw [ebusy]
      have s3 : St M W (B2 ++ (X ++ [recR l (rcd .busy none), dfr d])) (w2.putObj l (.loop (rcd .busy none))) := by
        have e : B2 ++ (X ++ [recR l (rcd .ready none), dfr d]) = (B2 ++ X) ++ recR l (rcd .ready none) :: [dfr d] := by simp
        rw [e] at s2
        have := s2.putD (o := .loop (rcd .busy none)) (p' := fun w => w.heap[l]? = some (.loop (rcd .busy none))) (loc' := fun _ _ hk h => (hk l (by simp)).trans h) (World.putObj_heap_same hlt2)
        have e2 : B2 ++ (X ++ [recR l (rcd .busy none), dfr d]) = (B2 ++ X) ++ recR l (rcd .busy none) :: [dfr d] := by simp
        rw [e2]
        exact this
      have hapB : ApL (X ++ [recR l (rcd .busy none), dfr d]) := s3.apR
      refine wpIn_mono (hb _ a1 _ f1 s3.fold) ?_
      have fin : ∀ (jump : Option Code) (B3 : List Res) (w3 : World), St M W (B3 ++ [foldR (X ++ [recR l (rcd .busy none), dfr d])]) w3 →
          ∃ w4, (Instr.endRound l jump).run P w3 = .ok (.bool jump.isNone) w4 ∧ St M W (X ++ (B3 ++ [recR l (rcd (if jump.isNone then .ready else .done) jump), dfr d])) w4 := fun jump B3 w3 h3 => by
        have h4 := h3.unfold hapB
        have hr3 : w3.heap[l]? = some (.loop (rcd .busy none)) := h4.holds (recR l (rcd .busy none)) (by simp)
        refine ⟨_, run_endRound jump hr3, ?_⟩
        have ee : ({ rcd .busy none with state := if jump.isNone then .ready else .done, pending := jump } : Loop) = rcd (if jump.isNone then .ready else .done) jump := by rw [hrcd]
        rw [ee]
        have e : B3 ++ (X ++ [recR l (rcd .busy none), dfr d]) = (B3 ++ X) ++ recR l (rcd .busy none) :: [dfr d] := by simp
        rw [e] at h4
        have := h4.putD (o := .loop (rcd (if jump.isNone then .ready else .done) jump)) (p' := fun w => w.heap[l]? = some (.loop (rcd (if jump.isNone then .ready else .done) jump))) (loc' := fun _ _ hk h => (hk l (by simp)).trans h) (World.putObj_heap_same (Array.getElem?_eq_some_iff.1 hr3).1)
        refine this.perm ?_
        rw [← List.append_assoc]
        exact (List.perm_append_comm).append_right _
      rintro e a3 w3 hp
      cases e with
      | normal =>
        obtain ⟨D3, F3, L3, f3, s4, B3, rfl, hi⟩ := hp
        obtain ⟨w4, hr, s5⟩ := fin none B3 w3 s4
        exact ⟨_, _, hr, _, _, rfl, s5.fold, .inl ⟨rfl, _, ⟨B3, hi, s5.apR, rfl⟩, rfl⟩⟩
      | ret =>
        obtain ⟨D3, F3, L3, f3, s4, B3, rfl, hi⟩ := hp
        obtain ⟨w4, hr, s5⟩ := fin (some .ret) B3 w3 s4
        exact ⟨_, _, hr, _, _, rfl, s5.fold, .inr ⟨rfl, _, ⟨_, B3, hi, s5.apR, rfl⟩, rfl⟩⟩
      | exit id =>
        obtain ⟨D3, F3, L3, f3, s4, B3, rfl, hi⟩ := hp
        obtain ⟨w4, hr, s5⟩ := fin (some (.exit id)) B3 w3 s4
        exact ⟨_, _, hr, _, _, rfl, s5.fold, .inr ⟨rfl, _, ⟨_, B3, hi, s5.apR, rfl⟩, rfl⟩⟩
      | goto t => obtain ⟨D3, F3, L3, f3, s4, hh⟩ := hp; exact hh.elim
      | panic c => exact hp.elim
      | outgrown => exact hp.elim
    | ret => obtain ⟨D3, F3, L3, f3, s4, hh⟩ := hq; exact hh.elim
    | exit id => obtain ⟨D3, F3, L3, f3, s4, hh⟩ := hq; exact hh.elim
    | goto t => obtain ⟨D3, F3, L3, f3, s4, hh⟩ := hq; exact hh.elim
    | panic c => exact hq.elim
    | outgrown => exact hq.elim
  have hev : a.eval = ev F := ha.ok.eval
  refine ⟨l, [col d], W1, { target := .fn (.func gf) lb, args := #[.func (.yield l) #[] #[]] }, W1, gf, #[.func (.yield l) #[] #[]] ++ lb, W1, ?_, ?_, ?_, ?_, ?_, ?_⟩
  · rw [← hW1, hrcd, ← hl, ← hd]
    exact run_enterLoop_outer _ _ _ _ _
  · simp only [resolve, hev, hg, rangeCall, Deferred.ofValue]
    simp [go_sem, ev]
  · intro _ _
    exact trivial
  · simp only [invoke, callFunc_enter hgb]
  · intro hh
    cases hh
  · refine callsR ?_
    refine key.mono ?_
    have hfr : FrD (d :: D) n { a with defers := [col d] ++ a.defers } F := ⟨by simp [ha.defers], ha.ok⟩
    have fin : ∀ (st : LoopState) (pe : Option Code) (B' : List Res) (w3 : World), st ≠ .busy → ApL (B' ++ [recR l (rcd st pe), dfr d]) → St M W (A ++ [foldR (B' ++ [recR l (rcd st pe), dfr d])]) w3 →
        ∃ w4, (Instr.endLoop l).run P w3 = .ok pe w4 ∧ St M W (dfr d :: (A ++ B')) w4 := fun st pe B' w3 hst hap h3 => by
      have h4 := h3.unfold hap
      have hr3 : w3.heap[l]? = some (.loop (rcd st pe)) := h4.holds (recR l (rcd st pe)) (by simp)
      have e1 : (rcd st pe).state = st := by rw [hrcd]
      have e2 : (rcd st pe).pending = pe := by rw [hrcd]
      have := run_endLoop (P := P) hr3 (by rw [e1]; exact hst)
      have this2 : (Instr.endLoop l).run P w3 = .ok pe (w3.putObj l (.loop { rcd st pe with state := .exhausted })) := this.trans (by subst hrcd; rfl)
      refine ⟨_, this2, ?_⟩
      have e : A ++ (B' ++ [recR l (rcd st pe), dfr d]) = (A ++ B') ++ recR l (rcd st pe) :: [dfr d] := by simp
      rw [e] at h4
      have h5 := h4.putD (o := .loop { rcd st pe with state := .exhausted }) (p' := fun _ => True) (loc' := fun _ _ _ _ => trivial) trivial
      have h6 := h5.perm (L' := .dat [l] (fun _ => True) (fun _ _ _ _ => trivial) :: dfr d :: (A ++ B')) (List.perm_append_comm (l₁ := [_, dfr d]) (l₂ := A ++ B'))
      exact h6.tail
    rintro e w3 ⟨⟨v, rfl⟩, (⟨xs, R', hS, ⟨B', hI, hap, rfl⟩, s⟩ | ⟨pre, R', hSp, ⟨c, B', hI, hap, rfl⟩, s⟩)⟩
    · obtain ⟨w4, hr, s4⟩ := fin .ready none B' w3 (by simp) hap s
      exact ⟨none, w4, hr, d :: D, F, _, hfr, s4, hdone d xs B' hS hI⟩
    · obtain ⟨w4, hr, s4⟩ := fin .done (some c) B' w3 (by simp) hap s
      refine ⟨some c, w4, hr, ?_⟩
      have hj := hstop d c pre B' hSp hI
      unfold jmpQ at hj
      split at hj
      · exact wpIn_ret ⟨d :: D, F, _, hfr, s4, hj⟩
      · exact wpIn_exit ⟨d :: D, F, _, hfr, s4, hj⟩
      · exact hj.elim
end
end Go.Proofs.Ytaifnipgefkemaa
/- Maps of ints over the abstract state; calls that change some of the resources and leave the others alone. -/
namespace Go.Proofs.Ytaifnipgefkemaa
open Go.RowKit Go.Shelf
set_option linter.unusedVariables false
set_option linter.unusedSimpArgs false
theorem nd_true {p : Prop} [Decidable p] (h : (!decide p) = true) : ¬ p := by simpa using h
theorem nd_false {p : Prop} [Decidable p] (h : (!decide p) = false) : ¬ ¬ p := by simpa using h
/-! ## Maps as lists of pairs -/
def mget : List (Int × Int) → Int → Option Int
  | [], _ => none
  | p :: l, k => if p.1 = k then some p.2 else mget l k
def mset : List (Int × Int) → Int → Int → List (Int × Int)
  | [], k, v => [(k, v)]
  | p :: l, k, v => if p.1 = k then (k, v) :: l else p :: mset l k v
def mdel : List (Int × Int) → Int → List (Int × Int)
  | [], _ => []
  | p :: l, k => if p.1 = k then l else p :: mdel l k
theorem map_erase {α β : Type} (f : α → β) : ∀ (l : List α) (j : Nat), (l.eraseIdx j).map f = (l.map f).eraseIdx j
  | [], j => by simp
  | a :: l, 0 => by simp
  | a :: l, j + 1 => by simp [map_erase f l j]
def prV (p : Int × Int) : Value × Value := (.int .i64 p.1, .int .i64 p.2)
theorem findNow_mp (k v : Int) : ∀ (es : List MapEntry) (l : List (Int × Int)) (i : Nat), es.map (fun e => (e.key, e.val)) = l.map prV →
    (mget l k = none ∧ Instr.findNow (.int .i64) (.int .i64 k) es i = some none ∧ mset l k v = l ++ [(k, v)] ∧ mdel l k = l) ∨
    (∃ j x, mget l k = some x ∧ Instr.findNow (.int .i64) (.int .i64 k) es i = some (some (i + j, .int .i64 x)) ∧ l[j]? = some (k, x) ∧ mset l k v = l.set j (k, v) ∧ mdel l k = l.eraseIdx j)
  | [], [], i, _ => .inl ⟨rfl, rfl, rfl, rfl⟩
  | [], p :: l, i, h => by simp at h
  | e :: es, [], i, h => by simp at h
  | e :: es, p :: l, i, h => by
    obtain ⟨⟨h1, h2⟩, h3⟩ : (e.key = .int .i64 p.1 ∧ e.val = .int .i64 p.2) ∧ es.map (fun e => (e.key, e.val)) = l.map prV := by simpa [prV] using h
    by_cases hk : p.1 = k
    · refine .inr ⟨0, p.2, by simp [mget, hk], by simp [Instr.findNow, Instr.sameNow, h1, h2, hk], ?_, by simp [mset, hk], by simp [mdel, hk]⟩
      rw [← hk]
      rfl
    · have hk2 : (k == p.1) = false := by simpa using fun e : k = p.1 => hk e.symm
      rcases findNow_mp k v es l (i + 1) h3 with ⟨a, b, c, d⟩ | ⟨j, x, a, b, c, d, e'⟩
      · exact .inl ⟨by simp [mget, hk, a], by simp [Instr.findNow, Instr.sameNow, h1, hk2, b], by simp [mset, hk, c], by simp [mdel, hk, d]⟩
      · refine .inr ⟨j + 1, x, by simp [mget, hk, a], ?_, by simpa using c, by simp [mset, hk, d], by simp [mdel, hk, e']⟩
        rw [show i + (j + 1) = i + 1 + j by omega]
        simp [Instr.findNow, Instr.sameNow, h1, hk2, b]
/-- What the block of a map holds. -/
def MpH (w : World) (b : Nat) (l : List (Int × Int)) : Prop := ∃ (es : Array MapEntry) (cl : Nat), w.heap[b]? = some (.map es cl) ∧ es.toList.map (fun e => (e.key, e.val)) = l.map prV ∧ MapKept.Stamped es cl
theorem MpH.same {w w' : World} {b : Nat} {l : List (Int × Int)} (h : MpH w b l) (e : w'.heap[b]? = w.heap[b]?) : MpH w' b l := by
  obtain ⟨es, cl, h1, h2⟩ := h
  exact ⟨es, cl, e.trans h1, h2⟩
theorem mget_not {l : List (Int × Int)} {k : Int} (h : mget l k = none) : ∀ p ∈ l, p.1 ≠ k := by
  induction l with
  | nil => simp
  | cons q l ih =>
    intro p hp
    by_cases hq : q.1 = k
    · simp [mget, hq] at h
    · rw [mget, if_neg hq] at h
      rcases List.mem_cons.1 hp with rfl | hp
      · exact hq
      · exact ih h p hp
theorem mp_apart {es : Array MapEntry} {l : List (Int × Int)} {k : Int} (h6 : es.toList.map (fun e => (e.key, e.val)) = l.map prV) (h : mget l k = none) : ∀ x ∈ es.toList, x.key ≠ .int .i64 k := fun x hx e => by
  have hm : (x.key, x.val) ∈ l.map prV := by rw [← h6]; exact List.mem_map.2 ⟨x, hx, rfl⟩
  obtain ⟨p, hp, hpe⟩ := List.mem_map.1 hm
  have h1 := (Prod.mk.inj hpe).1
  rw [e] at h1
  exact mget_not h p hp (by simpa using h1)
def mpR (b : Nat) (l : List (Int × Int)) : Res := .dat [b] (fun w => MpH w b l) (fun _ _ hk h => h.same (hk b (by simp)))
theorem mpR_foot (b : Nat) (l : List (Int × Int)) : (mpR b l).foot = [b] := rfl
theorem look_mp (b : Nat) (l : List (Int × Int)) (L : List Res) (k : Nat) : look (mpR b l :: L) k = look L k := rfl
theorem putL_mp (b : Nat) (l : List (Int × Int)) (L : List Res) (k : Nat) (us : List Value) : putL (mpR b l :: L) k us = mpR b l :: putL L k us := rfl
theorem neB_mp (b : Nat) (l : List (Int × Int)) (L : List Res) (k : Nat) : neB (mpR b l :: L) k = neB L k := rfl
theorem neR_mp (b : Nat) (l : List (Int × Int)) (L : List Res) (k : Nat) : neR (mpR b l :: L) k = neR L k := rfl
theorem factL_mp (W : World) (M : List Nat) (b : Nat) (l : List (Int × Int)) (L : List Res) : factL W M (mpR b l :: L) = factL W M L := rfl
theorem fresh_mp (b : Nat) (l : List (Int × Int)) (L : List Res) (k : Nat) : fresh (mpR b l :: L) k = fresh L k := rfl
theorem cMp : type_of% (And.intro @look_mp (And.intro @putL_mp (And.intro @neB_mp (And.intro @neR_mp (And.intro @factL_mp @fresh_mp))))) := And.intro @look_mp (And.intro @putL_mp (And.intro @neB_mp (And.intro @neR_mp (And.intro @factL_mp @fresh_mp))))
/-- A map from ints to ints. -/
def mpT (P : Program) (t : TypeId) : Bool :=
  match P.underlying t with
  | some (.map k e) => (match P.underlying k, (P.info? e).bind (fun i => i.zero) with
    | some (TypeDesc.int .i64), some (Value.int .i64 0) => true
    | _, _ => false)
  | _ => false
section
variable {P : Program} {M : List Nat} {W w : World} {L : List Res}
theorem mpT_run {t : TypeId} (h : mpT P t = true) : ∃ k e i, P.underlying t = some (.map k e) ∧ P.underlying k = some (.int .i64) ∧ P.info? e = some i ∧ i.zero = some (.int .i64 0) := by
  unfold mpT at h
  split at h
  · rename_i k e hu
    split at h
    · rename_i h1 h2
      obtain ⟨i, hi, hz⟩ := Option.bind_eq_some_iff.1 h2
      exact ⟨k, e, i, hu, h1, hi, hz⟩
    · cases h
  · cases h
theorem run_lookup_mp {t : TypeId} {b : Nat} {l : List (Int × Int)} {k : Int} (ht : mpT P t = true) (h : MpH w b l) :
    (Instr.lookup t (.map (some b)) (.int .i64 k) true).run P w = .ok (.tuple #[.int .i64 ((mget l k).getD 0), .bool (mget l k).isSome]) w := by
  obtain ⟨kt, et, i, h1, h2, h3, h4⟩ := mpT_run ht
  obtain ⟨es, cl, h5, h6, -⟩ := h
  have hk : MapKept.IsKey (.int .i64) (.int .i64 k) := rfl
  rcases findNow_mp k 0 es.toList l 0 h6 with ⟨a, b', -, -⟩ | ⟨j, x, a, b', -, -, -⟩
  · simp [Instr.lookup, run_underlying h1, MapKept.run_getObj_map h5, MapKept.run_checkKey h2 hk, MapKept.run_findKey h2 b', Result.andThen, zeroValue, typeInfo, h3, h4, a]
  · simp [Instr.lookup, run_underlying h1, MapKept.run_getObj_map h5, MapKept.run_checkKey h2 hk, MapKept.run_findKey h2 b', Result.andThen, a]
theorem xv_lookup {F : Fr} {d : Option Nat} {t ty : TypeId} {pos : String} {af : Array Edge} {gd : Option (Nat × Bool)} {m k : Operand} {b : Nat} {l : List (Int × Int)} {x : Int} {K : Bool → Value → List Res → Prop}
    (ht : mpT P t = true) (hm : ev F m = .map (some b)) (hk : ev F k = .int .i64 x) (h : ∀ w, St M W L w → MpH w b l) (hK : K true (.tuple #[.int .i64 ((mget l x).getD 0), .bool (mget l x).isSome]) L) :
    XV P M W ⟨d, .lookup t m k true, ty, pos, af, gd⟩ F L K := fun w hw =>
  ⟨_, _, w, by simp [execOp, hm, hk, run_lookup_mp ht (h w hw)], hw, hK⟩
theorem St.mpH {b : Nat} {l : List (Int × Int)} (hw : St M W L w) (k : Nat) (hk : nth L k = some (mpR b l)) : MpH w b l := hw.holds _ (nth_mem hk)
theorem run_mapUpdate_mp {t : TypeId} {b : Nat} {l : List (Int × Int)} {k v : Int} (ht : mpT P t = true) (h : MpH w b l) :
    ∃ es' cl', (Instr.mapUpdate t (.map (some b)) (.int .i64 k) (.int .i64 v)).run P w = .ok () { w with heap := w.heap.setIfInBounds b (.map es' cl') } ∧ es'.toList.map (fun e => (e.key, e.val)) = (mset l k v).map prV ∧ MapKept.Stamped es' cl' := by
  obtain ⟨kt, et, i, h1, h2, h3, h4⟩ := mpT_run ht
  obtain ⟨es, cl, h5, h6, hst⟩ := h
  have hk : MapKept.IsKey (.int .i64) (.int .i64 k) := rfl
  rcases findNow_mp k v es.toList l 0 h6 with ⟨a, b', c, -⟩ | ⟨j, x, a, b', c, e, -⟩
  · refine ⟨_, _, by simp [Instr.mapUpdate, run_underlying h1, MapKept.run_getObj_map h5, MapKept.run_checkKey h2 hk, MapKept.run_findKey h2 b', MapKept.run_setObj_map _ h5, Result.andThen]; exact rfl, ?_, MapKept.stamped_push hst (mp_apart h6 a)⟩
    rw [c]
    simp [h6, prV]
  · rw [Nat.zero_add] at b'
    have hlj : (es.toList.map (fun e => (e.key, e.val)))[j]? = some (prV (k, x)) := by rw [h6, List.getElem?_map, c]; rfl
    obtain ⟨en, he, hen⟩ : ∃ en, es[j]? = some en ∧ (en.key, en.val) = prV (k, x) := by
      rw [List.getElem?_map] at hlj
      obtain ⟨en, he, hen⟩ := Option.map_eq_some_iff.1 hlj
      exact ⟨en, by simpa using he, hen⟩
    have hkey : en.key = .int .i64 k := (Prod.mk.inj hen).1
    refine ⟨_, _, by simp [Instr.mapUpdate, run_underlying h1, MapKept.run_getObj_map h5, MapKept.run_checkKey h2 hk, MapKept.run_findKey h2 b', he, hkey, MapKept.run_keyThatStays hk, MapKept.run_setObj_map _ h5, Result.andThen]; exact rfl, ?_, ?_⟩
    rotate_left
    · exact MapKept.stamped_modify hst j _ (fun _ _ => rfl) (fun e2 _ h2 => by rw [he] at h2; cases h2; exact hkey.symm)
    rw [e]
    apply List.ext_getElem?
    intro q
    have hq : (es.toList.map (fun e => (e.key, e.val)))[q]? = (l.map prV)[q]? := by rw [h6]
    simp only [List.getElem?_map, Array.getElem?_toList, Array.getElem?_modify, List.getElem?_set] at hq ⊢
    by_cases hjq : j = q
    · subst hjq
      have hlt := (List.getElem?_eq_some_iff.1 c).1
      simp [he, hlt, prV]
    · simp [hjq, hq]
theorem St.mpSet {b kk : Nat} {l l' : List (Int × Int)} {es : Array MapEntry} {cl : Nat} (hw : St M W L w) (hk : nth L kk = some (mpR b l)) (he : es.toList.map (fun e => (e.key, e.val)) = l'.map prV) (hs : MapKept.Stamped es cl) : St M W (L.set kk (mpR b l')) { w with heap := w.heap.setIfInBounds b (.map es cl) } := by
  obtain ⟨es0, cl0, h5, -⟩ := hw.mpH kk hk
  obtain ⟨q1, q2⟩ := MapKept.heap_set (o' := .map es cl) h5
  refine hw.replace hk rfl ⟨es, cl, q1, he, hs⟩ (fun c hc => q2 c fun e => hc (by rw [e, mpR_foot]; simp)) (by simp) rfl rfl rfl
theorem xu_mapset (kk : Nat) {F : Fr} {d : Option Nat} {t ty : TypeId} {pos : String} {af : Array Edge} {gd : Option (Nat × Bool)} {m k v : Operand} {b : Nat} {l : List (Int × Int)} {x y : Int} {K : Bool → Value → List Res → Prop}
    (ht : mpT P t = true) (hm : ev F m = .map (some b)) (hk : ev F k = .int .i64 x) (hv : ev F v = .int .i64 y) (hL : nth L kk = some (mpR b l)) (hK : K true undef (L.set kk (mpR b (mset l x y)))) :
    XU P M W ⟨d, .mapUpdate t m k v, ty, pos, af, gd⟩ F L K := fun w hw => by
  obtain ⟨es, cl, hr, he, hs⟩ := run_mapUpdate_mp (k := x) (v := y) ht (hw.mpH kk hL)
  exact ⟨_, _, by simp [execOp, hm, hk, hv, hr], hw.mpSet hL he hs, hK⟩
theorem xv_mapdel (kk : Nat) {F : Fr} {d : Option Nat} {t t2 ty : TypeId} {pos : String} {af : Array Edge} {gd : Option (Nat × Bool)} {m k : Operand} {b : Nat} {l : List (Int × Int)} {x : Int} {K : Bool → Value → List Res → Prop}
    (ht : mpT P t = true) (hm : ev F m = .map (some b)) (hk : ev F k = .int .i64 x) (hL : nth L kk = some (mpR b l)) (hK : K true (.tuple #[]) (L.set kk (mpR b (mdel l x)))) :
    XV P M W ⟨d, .call { callee := .builtin .delete, args := #[m, k], argTypes := #[t, t2] }, ty, pos, af, gd⟩ F L K := fun w hw => by
  obtain ⟨kt, et, i, h1, h2, h3, h4⟩ := mpT_run ht
  obtain ⟨es, cl, h5, h6, hst⟩ := hw.mpH kk hL
  have hkk : MapKept.IsKey (.int .i64) (.int .i64 x) := rfl
  rcases findNow_mp x 0 es.toList l 0 h6 with ⟨a, b', -, c⟩ | ⟨j, y, a, b', c, -, e⟩
  · refine ⟨_, _, _, by simp [execOp, resolve, invoke, builtin, hm, hk, Builtin.delete_, run_underlying h1, MapKept.run_getObj_map h5, MapKept.run_checkKey h2 hkk, MapKept.run_findKey h2 b', MapKept.run_setObj_map _ h5, Result.andThen], hw.mpSet hL (by rw [h6, c]) hst, hK⟩
  · rw [Nat.zero_add] at b'
    refine ⟨_, _, _, by simp [execOp, resolve, invoke, builtin, hm, hk, Builtin.delete_, run_underlying h1, MapKept.run_getObj_map h5, MapKept.run_checkKey h2 hkk, MapKept.run_findKey h2 b', MapKept.run_setObj_map _ h5, Result.andThen], hw.mpSet hL ?_ (MapKept.stamped_erase hst j), hK⟩
    have hlt : j < es.size := by
      have h7 := congrArg List.length h6
      have := (List.getElem?_eq_some_iff.1 c).1
      simp at h7
      omega
    rw [e]
    unfold Array.eraseIdxIfInBounds
    rw [dif_pos hlt, Array.toList_eraseIdx, map_erase, h6, map_erase]
theorem xv_mkmap {F : Fr} {d : Option Nat} {t ty : TypeId} {pos : String} {af : Array Edge} {gd : Option (Nat × Bool)} {K : Bool → Value → List Res → Prop}
    (hK : ∀ b, W.heap.size ≤ b → fresh L b → K true (.map (some b)) (mpR b [] :: L)) : XV P M W ⟨d, .makeMap t none, ty, pos, af, gd⟩ F L K := fun w hw => by
  refine ⟨_, _, w.alloc (.map #[] 0), by simp [execOp, Instr.makeMap], ?_, hK w.heap.size hw.pres.size (fresh_of hw)⟩
  refine (hw.allocs _).add _ ⟨#[], 0, (MapKept.heap_alloc w _).1, rfl, MapKept.stamped_empty 0⟩ (fun b hb => ?_) fun s hs b hb hbs => ?_
  · obtain rfl : b = w.heap.size := by simpa [mpR_foot] using hb
    exact ⟨.inl hw.pres.size, by simp⟩
  · obtain rfl : b = w.heap.size := by simpa [mpR_foot] using hb
    exact absurd (hw.own s hs _ hbs).2 (Nat.lt_irrefl _)
/-! ## Calls that change some of the resources -/
def feet (L : List Res) : List Nat := L.flatMap Res.foot
theorem St.self (hw : St M W L w) : St (feet L) w L w :=
  ⟨Pres.refl _ _, hw.holds, fun r hr b hb => ⟨.inr (List.mem_flatMap.2 ⟨r, hr, hb⟩), (hw.own r hr b hb).2⟩, hw.apart⟩
theorem callV_grp {ι : Sort _} {g : FuncId} {args : Array Value} {K : Bool → Value → List Res → Prop} (ix jx : List Nat) (hnd : (ix ++ jx).Nodup) (f : ι → Value) (Lf : ι → List Res) (φ : ι → Prop)
    (h : ∀ w, St M W L w → St (feet (pickL ix L)) w (pickL ix L) w → Calls P g args w (fun e w' => ∃ i, e = .returned (f i) ∧ φ i ∧ St (feet (pickL ix L)) w (Lf i) w'))
    (hK : ∀ i, φ i → K true (f i) (Lf i ++ pickL jx L)) : CallV P M W g args L K := fun w hw => by
  have hp := hw.pick hnd
  rw [pickL_append] at hp
  have h1 : St M W (pickL ix L) w := hp.sub (List.sublist_append_left _ _)
  have h2 : St M W (pickL jx L) w := hp.sub (List.sublist_append_right _ _)
  have hap := List.pairwise_append.1 hp.apart
  refine (h w hw h1.self).mono ?_
  rintro e w' ⟨i, rfl, hi, hs⟩
  have hout : ∀ b, b < w.heap.size → b ∉ feet (pickL ix L) → w'.heap[b]? = w.heap[b]? := fun b hb hn => hs.pres.block b hb hn
  have hfeet : ∀ b, b ∈ feet (pickL ix L) → (W.heap.size ≤ b ∨ b ∈ M) ∧ b < w.heap.size := fun b hb => by
    obtain ⟨r, hr, hbr⟩ := List.mem_flatMap.1 hb
    exact h1.own r hr b hbr
  have hj : ∀ r ∈ pickL jx L, ∀ b ∈ r.foot, b ∉ feet (pickL ix L) := fun r hr b hb hn => by
    obtain ⟨s, hs', hbs⟩ := List.mem_flatMap.1 hn
    exact hap.2.2 s hs' r hr b hbs hb
  have hpres : Pres M W w' := ⟨hs.pres.os.trans hw.pres.os, hs.pres.tape.trans hw.pres.tape, hs.pres.output.trans hw.pres.output, Nat.le_trans hw.pres.size hs.pres.size, fun k hk hm => by
    rw [hout k (Nat.lt_of_lt_of_le hk hw.pres.size) (fun hn => by
      rcases (hfeet k hn).1 with h3 | h3
      · omega
      · exact hm h3)]
    exact hw.pres.block k hk hm⟩
  refine ⟨_, _, rfl, ⟨hpres, fun r hr => ?_, fun r hr b hb => ?_, ?_⟩, hK i hi⟩
  · rcases List.mem_append.1 hr with hr | hr
    · exact hs.holds r hr
    · exact r.keep (h2.holds r hr) fun b hb => hout b (h2.own r hr b hb).2 (hj r hr b hb)
  · rcases List.mem_append.1 hr with hr | hr
    · have := hs.own r hr b hb
      refine ⟨?_, this.2⟩
      rcases this.1 with h3 | h3
      · exact .inl (Nat.le_trans hw.pres.size h3)
      · exact (hfeet b h3).1
    · exact ⟨(h2.own r hr b hb).1, Nat.lt_of_lt_of_le (h2.own r hr b hb).2 hs.pres.size⟩
  · refine List.pairwise_append.2 ⟨hs.apart, hap.2.1, fun r hr s hs' b hb hbs => ?_⟩
    rcases (hs.own r hr b hb).1 with h3 | h3
    · have := (h2.own s hs' b hbs).2
      omega
    · exact hj s hs' b hbs h3
end
end Go.Proofs.Ytaifnipgefkemaa
