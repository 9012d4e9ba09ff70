/- Results kept in cells, calls that write into a block of the caller's, slices that only are read, strings. -/
import Derived.Test.YtddofamkmcgfmaaDoorCore
namespace Go.Proofs.YtddofamkmcgfmaaDoor
open Go.RowKit Go.Shelf
set_option linter.unusedVariables false
set_option linter.unusedSimpArgs false

/-! ## Results -/
def packV : List Value → Value
  | [v] => v
  | vs => .tuple vs.toArray
def ressV (P : Program) (M : List Nat) (W : World) (L : List Res) (F : Fr) : List ResultVar → (Bool → List Value → Prop) → Prop
  | [], K => K true []
  | .tmp t :: r, K => ressV P M W L F r fun tok vs => K tok (F t :: vs)
  | .cell a t :: r, K => (match F a with
    | .pointer (some ad) => ldV P M W t ad L fun tok' v => ressV P M W L F r fun tok vs => K tok (v :: vs)
    | _ => False)
def resOne (tmps : Array Value) : ResultVar → Sem Value
  | .tmp t => pure (tmps.getD t undef)
  | .cell c t => do loadVar t (← asAddr (tmps.getD c undef))
theorem ressV_sound {P : Program} {M : List Nat} {W : World} {L : List Res} {F : Fr} {n : Nat} {a : Act} (ha : FrOK n a F) : ∀ {rs : List ResultVar} {K : Bool → List Value → Prop}, ressV P M W L F rs K →
    ∃ vs, K true vs ∧ ∀ w, St M W L w → (rs.mapM (resOne a.tmps)).run P w = Result.ok vs w
  | [], K, h => ⟨[], h, fun w hw => by simp⟩
  | .tmp t :: r, K, h => by
    obtain ⟨vs, hk, hr⟩ := ressV_sound ha (rs := r) h
    refine ⟨_, hk, fun w hw => ?_⟩
    have hg := ha.get t
    simp only [List.mapM_cons, resOne, Sem.run_bind, Sem.run_pure, Result.andThen_ok, hr w hw, hg]
  | .cell c t :: r, K, h => by
    simp only [ressV] at h
    split at h
    · rename_i ad had
      obtain ⟨v, hl, h2⟩ := ldV_sound h
      obtain ⟨vs, hk, hr⟩ := ressV_sound ha (rs := r) h2
      refine ⟨_, hk, fun w hw => ?_⟩
      have hg := ha.get c
      have hl' := hl w hw
      simp only [Instr.loadAt, Instr.sureAddr, Sem.run_bind, Sem.run_pure, Result.andThen_ok] at hl'
      simp only [List.mapM_cons, resOne, Sem.run_bind, hg, had, asAddr, Sem.run_pure, Result.andThen_ok, hl', hr w hw]
    · exact h.elim
def retQ2 (P : Program) (M : List Nat) (W : World) (rs : List ResultVar) (R : Ending → World → Prop) : Exit → Fr → List Res → Prop
  | .normal, F, L => ressV P M W L F rs fun tok vs => tok = true → ∀ w, St M W L w → R (.returned (packV vs)) w
  | .ret, F, L => ressV P M W L F rs fun tok vs => tok = true → ∀ w, St M W L w → R (.returned (packV vs)) w
  | _, _, _ => False
theorem results_pack {P : Program} {fn : Func} {tmps : Array Value} {w : World} {vs : List Value}
    (h : (fn.results.toList.mapM (resOne tmps)).run P w = Result.ok vs w) : (results fn tmps).run P w = .ok (packV vs) w := by
  have hr : fn.results = fn.results.toList.toArray := by simp
  have he : results fn tmps = (do
      let vs ← fn.results.mapM (resOne tmps)
      pure (if h : vs.size = 1 then vs[0] else .tuple vs)) := by
    unfold results
    congr 1
  rw [he, hr, List.mapM_toArray]
  simp only [Sem.run_bind, map_eq_pure_bind, h, Result.andThen_ok, Sem.run_pure]
  congr 1
  match vs with
  | [] => simp [packV]
  | [v] => simp [packV]
  | a :: b :: r => simp [packV]
theorem calls_cv2 {P : Program} {M : List Nat} {W : World} {n : Nat} {f : FuncId} {fn : Func} {c : Code} {args : List Value} {R : Ending → World → Prop} {L : List Res} (rs : List ResultVar) (hrs : fn.results = rs.toArray) (hf : P.funcs[f]? = some fn) (hb : fn.body = some c) (hn : fn.ntmps = n) (hl : args.length ≤ n) (hw : St M W L W)
    (h : CV P M W n c (mkF args) L (retQ2 P M W rs R)) : Calls P f args.toArray W R := by
  obtain rfl : fn.results.toList = rs := by rw [hrs]
  refine calls_of_wp hf hb (wp_mono (h _ W ⟨rfl, by simp [hn]; omega, fun i => ?_⟩ hw) ?_)
  · simp only [mkF]
    rcases Nat.lt_or_ge i args.length with h1 | h1
    · have h2 : i < (args.toArray ++ Array.replicate (fn.ntmps - args.toArray.size) undef).size := by simp; omega
      simp [Array.getElem?_append, h1]
    · have h2 : args[i]? = none := List.getElem?_eq_none h1
      simp [Array.getElem?_append, Nat.not_lt.2 h1, Array.getElem?_replicate, h2]
      split <;> rfl
  · intro e a w hh
    cases e <;> first
      | exact hh.elim
      | (obtain ⟨F', L', h1, h2, h3⟩ := hh
         first
           | exact h3.elim
           | (obtain ⟨vs, hk, hr⟩ := ressV_sound h1 h3
              exact ⟨h1.defers, _, results_pack (hr w h2), hk rfl w h2⟩))

/-! ## Memory of the caller's -/
section
variable {P : Program} {M : List Nat} {W w w' : World} {L : List Res} {K : Bool → Value → List Res → Prop} {g : FuncId} {args : Array Value}
theorem Pres.trans {w'' : World} (h : Pres M W w') (h2 : Pres M w' w'') : Pres M W w'' :=
  ⟨h2.os.trans h.os, h2.tape.trans h.tape, h2.output.trans h.output, Nat.le_trans h.size h2.size, fun k hk hm => (h2.block k (Nat.lt_of_lt_of_le hk h.size) hm).trans (h.block k hk hm)⟩
theorem St.one {b : Nat} {t : TypeId} {cs : List Value} (h : W.heap[b]? = some (.cells cs.toArray t (0, 0))) : St [b] W [.blk b t cs] W := by
  have hb : b < W.heap.size := (Array.getElem?_eq_some_iff.1 h).1
  refine ⟨Pres.refl _ _, ?_, ?_, List.pairwise_singleton _ _⟩
  · intro r hr
    obtain rfl : r = .blk b t cs := by simpa using hr
    exact h
  · intro r hr c hc
    obtain rfl : r = .blk b t cs := by simpa using hr
    obtain rfl : c = b := by simpa [Res.foot] using hc
    exact ⟨.inr (by simp), hb⟩
theorem St.two {b d : Nat} {t u : TypeId} {cs ds : List Value} (h : W.heap[b]? = some (.cells cs.toArray t (0, 0))) (h2 : W.heap[d]? = some (.cells ds.toArray u (0, 0))) (hne : b ≠ d) : St [b, d] W [.blk b t cs, .blk d u ds] W := by
  have hb : b < W.heap.size := (Array.getElem?_eq_some_iff.1 h).1
  have hd : d < W.heap.size := (Array.getElem?_eq_some_iff.1 h2).1
  refine ⟨Pres.refl _ _, ?_, ?_, ?_⟩
  · intro r hr
    simp only [List.mem_cons, List.not_mem_nil, or_false] at hr
    rcases hr with rfl | rfl
    · exact h
    · exact h2
  · intro r hr c hc
    simp only [List.mem_cons, List.not_mem_nil, or_false] at hr
    rcases hr with rfl | rfl
    · obtain rfl : c = b := by simpa [Res.foot] using hc
      exact ⟨.inr (by simp), hb⟩
    · obtain rfl : c = d := by simpa [Res.foot] using hc
      exact ⟨.inr (by simp), hd⟩
  · simp [Res.foot, hne]
theorem St.mod {k b : Nat} {t : TypeId} {cs us : List Value} (h : St M W L w) (hk : nth L k = some (.blk b t cs)) (hp : Pres [b] w w') (hb : w'.heap[b]? = some (.cells us.toArray t (0, 0))) : St M W (L.set k (.blk b t us)) w' := by
  rw [nth_eq] at hk
  obtain ⟨hlt, hget⟩ := List.getElem?_eq_some_iff.1 hk
  have hL : L = L.take k ++ .blk b t cs :: L.drop (k + 1) := by
    conv => lhs; rw [← List.take_append_drop k L, List.drop_eq_getElem_cons hlt, hget]
  rw [List.set_eq_take_append_cons_drop, if_pos hlt]
  generalize L.take k = A at *
  generalize L.drop (k + 1) = B at *
  subst hL
  clear hk hlt hget
  have hmem : Res.blk b t cs ∈ A ++ .blk b t cs :: B := by simp
  have hbo := h.own _ hmem b (by simp [Res.foot])
  have hap := h.apart
  have hfoot : ∀ r ∈ A ++ B, b ∉ r.foot := by
    intro r hr hbr
    rw [List.pairwise_append] at hap
    rcases List.mem_append.1 hr with hr | hr
    · exact hap.2.2 r hr (.blk b t cs) (by simp) b hbr (by simp [Res.foot])
    · exact (List.pairwise_cons.1 hap.2.1).1 r hr b (by simp [Res.foot]) hbr
  have hkeep : ∀ r ∈ A ++ B, r ∈ A ++ .blk b t cs :: B → ∀ c ∈ r.foot, w'.heap[c]? = w.heap[c]? := fun r hr hr2 c hc =>
    hp.block c (h.own r hr2 c hc).2 (by simp only [List.mem_singleton]; rintro rfl; exact hfoot r hr hc)
  refine ⟨⟨hp.os.trans h.pres.os, hp.tape.trans h.pres.tape, hp.output.trans h.pres.output, Nat.le_trans h.pres.size hp.size, fun j hj hm => ?_⟩, ?_, ?_, ?_⟩
  · rw [hp.block j (Nat.lt_of_lt_of_le hj h.pres.size) (by
      simp only [List.mem_singleton]
      rintro rfl
      rcases hbo.1 with h1 | h1
      · omega
      · exact hm h1)]
    exact h.pres.block j hj hm
  · intro r hr
    rcases List.mem_append.1 hr with hr1 | hr1
    · exact r.keep (h.holds r (by simp [hr1])) (hkeep r (by simp [hr1]) (by simp [hr1]))
    · rcases List.mem_cons.1 hr1 with rfl | hr1
      · exact hb
      · exact r.keep (h.holds r (by simp [hr1])) (hkeep r (by simp [hr1]) (by simp [hr1]))
  · intro r hr c hc
    rcases List.mem_append.1 hr with hr1 | hr1
    · exact ⟨(h.own r (by simp [hr1]) c hc).1, Nat.lt_of_lt_of_le (h.own r (by simp [hr1]) c hc).2 hp.size⟩
    · rcases List.mem_cons.1 hr1 with rfl | hr1
      · exact ⟨(h.own _ hmem c hc).1, Nat.lt_of_lt_of_le (h.own _ hmem c hc).2 hp.size⟩
      · exact ⟨(h.own r (by simp [hr1]) c hc).1, Nat.lt_of_lt_of_le (h.own r (by simp [hr1]) c hc).2 hp.size⟩
  · rw [List.pairwise_append] at hap ⊢
    rw [List.pairwise_cons] at hap ⊢
    refine ⟨hap.1, ⟨fun r hr c hc => hap.2.1.1 r hr c hc, hap.2.1.2⟩, fun r hr s hs => ?_⟩
    rcases List.mem_cons.1 hs with rfl | hs
    · exact hap.2.2 r hr (.blk b t cs) (by simp)
    · exact hap.2.2 r hr s (by simp [hs])
/-- Another resource in the place of one, in the same blocks. -/
theorem St.replace {k : Nat} {r r' : Res} (h : St M W L w) (hk : nth L k = some r) (hf : r'.foot = r.foot) (hh : r'.holds w')
    (hp : ∀ c, c ∉ r.foot → w'.heap[c]? = w.heap[c]?) (hs : w'.heap.size = w.heap.size) (ho : w'.os = w.os) (ht : w'.tape = w.tape) (hu : w'.output = w.output) : St M W (L.set k r') w' := by
  rw [nth_eq] at hk
  obtain ⟨hlt, hget⟩ := List.getElem?_eq_some_iff.1 hk
  have hL : L = L.take k ++ r :: L.drop (k + 1) := by
    conv => lhs; rw [← List.take_append_drop k L, List.drop_eq_getElem_cons hlt, hget]
  rw [List.set_eq_take_append_cons_drop, if_pos hlt]
  generalize L.take k = A at *
  generalize L.drop (k + 1) = B at *
  subst hL
  clear hk hlt hget
  have hmem : r ∈ A ++ r :: B := by simp
  have hap := h.apart
  have hfoot : ∀ s ∈ A ++ B, ∀ c ∈ s.foot, c ∉ r.foot := by
    intro s hs c hc hcr
    rw [List.pairwise_append] at hap
    rcases List.mem_append.1 hs with hs | hs
    · exact hap.2.2 s hs r (by simp) c hc hcr
    · exact (List.pairwise_cons.1 hap.2.1).1 s hs c hcr hc
  refine ⟨⟨ho.trans h.pres.os, ht.trans h.pres.tape, hu.trans h.pres.output, by rw [hs]; exact h.pres.size, fun j hj hm => ?_⟩, ?_, ?_, ?_⟩
  · rw [hp j (fun hjr => by
      rcases (h.own r hmem j hjr).1 with h1 | h1
      · omega
      · exact hm h1)]
    exact h.pres.block j hj hm
  · intro s hs1
    rcases List.mem_append.1 hs1 with hs1 | hs1
    · exact s.keep (h.holds s (by simp [hs1])) fun c hc => hp c (hfoot s (by simp [hs1]) c hc)
    · rcases List.mem_cons.1 hs1 with rfl | hs1
      · exact hh
      · exact s.keep (h.holds s (by simp [hs1])) fun c hc => hp c (hfoot s (by simp [hs1]) c hc)
  · intro s hs1 c hc
    rw [hs]
    rcases List.mem_append.1 hs1 with hs1 | hs1
    · exact h.own s (by simp [hs1]) c hc
    · rcases List.mem_cons.1 hs1 with rfl | hs1
      · exact h.own r hmem c (hf ▸ hc)
      · exact h.own s (by simp [hs1]) c hc
  · rw [List.pairwise_append] at hap ⊢
    rw [List.pairwise_cons] at hap ⊢
    refine ⟨hap.1, ⟨fun s hs c hc => hap.2.1.1 s hs c (hf ▸ hc), hap.2.1.2⟩, fun s hs t ht => ?_⟩
    rcases List.mem_cons.1 ht with rfl | ht
    · intro c hc
      rw [hf]
      exact hap.2.2 s hs r (by simp) c hc
    · exact hap.2.2 s hs t (by simp [ht])
/-- A store into a row of the call's own. -/
theorem sv_row (k : Nat) {t T : TypeId} {g n c size i : Nat} {xs : List Value} {v : Value} (hk : nth L k = some (.row (.slice (some ⟨g, 0, none⟩) n c) T size n xs)) (hi : i < xs.length) (ht : tsz P t = some (false, 1)) (hv : v.cells.toList = [v]) (h1 : v.oneCell' = true) :
    SV P M W t ⟨g, i, none⟩ v L (L.set k (.row (.slice (some ⟨g, 0, none⟩) n c) T size n (xs.set i v))) := fun w hw => by
  have hk' := hk
  rw [nth_eq] at hk'
  have hm := List.mem_of_getElem? hk'
  have hh : w.ownsRow 0 T size (.slice (some ⟨g, 0, none⟩) n c) n xs := hw.holds _ hm
  obtain ⟨hlen, hh2⟩ := hh
  rcases hh2 with ⟨hn, _⟩ | ⟨g', cap, cur, he, hg0, hheap, hnc, hcm, hsz, htk⟩
  · cases hn
  cases he
  have hcur : i < cur.size := by
    have : xs.length ≤ cur.toList.length := by rw [← htk, List.length_take]; omega
    simp at this
    omega
  have hs := run_storeCells_at P g i T [v] 0 cur w hheap (by simp; omega) (by intro u hu; simp at hu; subst hu; exact h1)
  have hsz2 := (tsz_run ht w).2
  refine ⟨w.setRow g (cur.toList.take (i + 0) ++ [v] ++ cur.toList.drop (i + 0 + [v].length)).toArray, ?_, ?_⟩
  · have h1' : v.cells.size = 1 := by
      have := congrArg List.length hv
      simpa using this
    simp only [Instr.storeAt, Instr.sureAddr, Sem.run_bind, Sem.run_pure, Result.andThen_ok, storeVar, hsz2, h1', ne_eq, not_true_eq_false, if_false, hv]
    exact hs
  · have hnew : (cur.toList.take (i + 0) ++ [v] ++ cur.toList.drop (i + 0 + [v].length)) = cur.toList.set i v := by
      rw [List.set_eq_take_append_cons_drop, if_pos (by simpa using hcur)]
      simp
    refine hw.replace hk rfl ?_ (fun c hc => setRow_other w g c _ (by simpa [Res.foot, Value.ownBlock] using hc)) (by simp [World.setRow]) rfl rfl rfl
    refine ⟨by simp [hlen], .inr ⟨g, _, (cur.toList.set i v).toArray, rfl, hg0, ?_, hnc, hcm, by simpa using hsz, ?_⟩⟩
    · rw [hnew]
      exact setRow_heap w g cur _ T (0, 0) hheap
    · have e : (cur.toList.set i v).take (n * size) = (cur.toList.take (n * size)).set i v := by rw [List.take_set]
      simp only [List.toList_toArray]
      rw [e, htk]
/-- A new row beside the list, after a call that wrote into block b. -/
theorem St.modRow {k b : Nat} {t : TypeId} {cs us : List Value} (h : St M W L w) (hk : nth L k = some (.blk b t cs)) (hp : Pres [b] w w') (hb : w'.heap[b]? = some (.cells us.toArray t (0, 0)))
    {T : TypeId} {size n : Nat} {v : Value} {xs : List Value} (ho : w'.ownsRow w.heap.size T size v n xs) : St M W (.row v T size n xs :: L.set k (.blk b t us)) w' := by
  have h2 := h.mod hk hp hb
  refine h2.add _ (ownsRow_base ho (Nat.zero_le _)) (fun c hc => ?_) (fun s hs c hc hcs => ?_)
  · have := ho.lt c (by simpa [Res.foot] using hc)
    have h3 := h.pres.size
    exact ⟨.inl (by omega), this.2⟩
  · have h1 := ho.lt c (by simpa [Res.foot] using hc)
    have h4 : c < w.heap.size := by
      rcases List.mem_or_eq_of_mem_set hs with h5 | rfl
      · exact (h.own s h5 c hcs).2
      · rw [nth_eq] at hk
        exact (h.own _ (List.mem_of_getElem? hk) c hcs).2
    omega
/-- A call that writes into block b and hands back a value. -/
theorem callV_mod {ι : Sort _} (k : Nat) (f : ι → Value) (us : ι → List Value) (φ : ι → Prop) {b : Nat} {t : TypeId} {cs : List Value} (hk : nth L k = some (.blk b t cs))
    (h : ∀ w, St M W L w → Calls P g args w (fun e w' => ∃ i, e = .returned (f i) ∧ φ i ∧ w'.heap[b]? = some (.cells (us i).toArray t (0, 0)) ∧ Pres [b] w w'))
    (hK : ∀ i, φ i → K true (f i) (L.set k (.blk b t (us i)))) : CallV P M W g args L K := fun w hw =>
  (h w hw).mono (by rintro e w' ⟨i, rfl, hi, hb, hp⟩; exact ⟨_, _, rfl, hw.mod hk hp hb, hK i hi⟩)
def modP (b : Nat) (t : TypeId) (v : Value) (us : List Value) (w : World) (e : Ending) (w' : World) : Prop :=
  e = .returned v ∧ w'.heap[b]? = some (.cells us.toArray t (0, 0)) ∧ Pres [b] w w'
theorem callV_mod1 (k : Nat) {v : Value} {us : List Value} {b : Nat} {t : TypeId} {cs : List Value} (h : ∀ w, St M W L w → Calls P g args w (modP b t v us w)) (hk : nth L k = some (.blk b t cs))
    (hK : K true v (L.set k (.blk b t us))) : CallV P M W g args L K := fun w hw =>
  (h w hw).mono (by rintro e w' ⟨rfl, hb, hp⟩; exact ⟨_, _, rfl, hw.mod hk hp hb, hK⟩)
def modRowP (b : Nat) (t : TypeId) (us : List Value) (T : TypeId) (size : Nat) (f : Value → Value) (xs : List Value) (w : World) (e : Ending) (w' : World) : Prop :=
  ∃ A n c, e = .returned (f (.slice A n c)) ∧ w'.ownsRow w.heap.size T size (.slice A n c) n xs ∧ w'.heap[b]? = some (.cells us.toArray t (0, 0)) ∧ Pres [b] w w'
theorem callV_modRow (k : Nat) {us : List Value} {b : Nat} {t : TypeId} {cs : List Value} {T : TypeId} {size : Nat} {f : Value → Value} {xs : List Value} (h : ∀ w, St M W L w → Calls P g args w (modRowP b t us T size f xs w)) (hk : nth L k = some (.blk b t cs))
    (hK : ∀ A n c, xs.length = n * size → rowAt A n W M (L.set k (.blk b t us)) → K true (f (.slice A n c)) (.row (.slice A n c) T size n xs :: L.set k (.blk b t us))) : CallV P M W g args L K := fun w hw =>
  (h w hw).mono (by
    rintro e w' ⟨A, n, c, rfl, ho, hb, hp⟩
    exact ⟨_, _, rfl, hw.modRow hk hp hb ho, hK A n c ho.1 (hw.modRow hk hp hb ho).row_at⟩)
/-- The call's own fresh memory handed over: a row, and a block that held the pointer's target. -/
theorem callV_blk {t : TypeId} {us : List Value} (f : Nat → Value) (h : ∀ w, St M W L w → Calls P g args w (fun e w' => ∃ b, e = .returned (f b) ∧ w.heap.size ≤ b ∧ w'.heap[b]? = some (.cells us.toArray t (0, 0)) ∧ Below w.heap.size w w'))
    (hK : ∀ b, W.heap.size ≤ b → fresh L b → K true (f b) (.blk b t us :: L)) : CallV P M W g args L K := fun w hw =>
  (h w hw).mono (by
    rintro e w' ⟨b, rfl, hlt, hb, hB⟩
    refine ⟨_, _, rfl, (hw.quiet hB).add (.blk b t us) hb (fun c hc => ?_) (fun s hs c hc hcs => ?_), hK b (Nat.le_trans hw.pres.size hlt) ?_⟩
    · obtain rfl : c = b := by simpa [Res.foot] using hc
      exact ⟨.inl (Nat.le_trans hw.pres.size hlt), (Array.getElem?_eq_some_iff.1 hb).1⟩
    · obtain rfl : c = b := by simpa [Res.foot] using hc
      have := (hw.own s hs _ hcs).2
      omega
    · have key : ∀ (L : List Res), (∀ r ∈ L, ∀ c ∈ r.foot, c < w.heap.size) → fresh L b := by
        intro L
        induction L with
        | nil => intro _; trivial
        | cons r L ih =>
          intro hL
          have ih' := ih fun s hs => hL s (List.mem_cons_of_mem _ hs)
          cases r with
          | blk b' t cs => exact ⟨Nat.lt_of_lt_of_le (hL (.blk b' t cs) (by simp) b' (by simp [Res.foot])) hlt, ih'⟩
          | row v t s n xs => exact ih'
          | dat f p l => exact ih'
      exact key L fun r hr c hc => (hw.own r hr c hc).2)
end

/-! ## Strings -/
theorem bstr_eq (l : List Nat) : bstr l = ⟨(l.map fun x => UInt8.ofNat x).toArray⟩ := by
  have key : ∀ (l : List Nat) (s : ByteArray), (l.map fun x : Nat => (x : Int)).foldl (fun r n => r.push (UInt8.ofNat n.toNat)) s = ⟨s.data ++ (l.map fun x => UInt8.ofNat x).toArray⟩ := by
    intro l
    induction l with
    | nil => intro s; simp
    | cons x l ih =>
      intro s
      simp only [List.map_cons, List.foldl_cons, Int.toNat_natCast]
      rw [ih]
      simp [ByteArray.push]
  unfold bstr
  rw [key]
  show (⟨#[] ++ _⟩ : ByteArray) = _
  simp
theorem bstr_inj {l m : List Nat} (hl : ∀ x ∈ l, x < 256) (hm : ∀ x ∈ m, x < 256) (h : bstr l = bstr m) : l = m := by
  rw [bstr_eq, bstr_eq] at h
  injection h with h
  have h2 : l.map (fun x => UInt8.ofNat x) = m.map (fun x => UInt8.ofNat x) := by simpa using h
  clear h
  induction l generalizing m with
  | nil => cases m with
    | nil => rfl
    | cons y m => simp at h2
  | cons x l ih => cases m with
    | nil => simp at h2
    | cons y m =>
      simp only [List.map_cons, List.cons.injEq] at h2
      have hx := hl x (by simp)
      have hy := hm y (by simp)
      have h3 : x = y := by
        have := congrArg UInt8.toNat h2.1
        simpa [Nat.mod_eq_of_lt hx, Nat.mod_eq_of_lt hy] using this
      rw [h3, ih (fun z hz => hl z (by simp [hz])) (fun z hz => hm z (by simp [hz])) h2.2]
theorem bstr_beq {l m : List Nat} (hl : ∀ x ∈ l, x < 256) (hm : ∀ x ∈ m, x < 256) : ((bstr l).toList == (bstr m).toList) = decide (l = m) := by
  by_cases h : l = m
  · subst h
    rw [decide_eq_true rfl, beq_self_eq_true]
  · rw [decide_eq_false h, beq_eq_false_iff_ne]
    intro e
    rw [ByteArray.toList_eq, ByteArray.toList_eq] at e
    refine h (bstr_inj hl hm ?_)
    generalize bstr l = a at e
    generalize bstr m = b at e
    obtain ⟨⟨x⟩⟩ := a
    obtain ⟨⟨y⟩⟩ := b
    exact congrArg (fun l : List UInt8 => ByteArray.mk ⟨l⟩) e
end Go.Proofs.YtddofamkmcgfmaaDoor
