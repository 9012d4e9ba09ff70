/- pluginhostmake's coder: its state, and the rule for a call that works on it. -/
import Derived.Test.YtlbmnioibiomfaaMPlain
namespace Go.Proofs.Ytlbmnioibiomfaa
open Go.RowKit Go.Shelf
set_option linter.unusedVariables false
set_option linter.unusedSimpArgs false
set_option maxRecDepth 100000
/-- What a coder keeps: its box, its tape's box, the tape, and its numbers. -/
structure Cx where
  b : Nat
  tb : Nat
  TA : Option Addr
  tn : Nat
  tc : Nat
  l : List Nat
  loc : Nat
  fns : Nat
  first : Nat
/-- What it changes. -/
structure CoS where
  A : Option Addr
  n : Nat
  c : Nat
  code : List Ins
  SA : Option Addr
  sn : Nat
  sc : Nat
  st : List Nat
theorem i64_get {l : List Nat} {i x : Nat} (h : l[i]? = some x) : (i64c l)[i]? = some (.int .i64 x) := by simp [i64c, h]
theorem i64_len (l : List Nat) : (i64c l).length = l.length := by simp [i64c]
theorem i64_row {l : List Nat} {n : Nat} (h : (i64c l).length = n * 1) : l.length = n := by rw [i64_len] at h; omega
theorem ones_i64 (l : List Nat) : ones (i64c l) = true := by simp [ones, i64c, Value.oneCell']
theorem i64_snoc (l : List Nat) (x : Nat) : i64c (l ++ [x]) = i64c l ++ [.int .i64 x] := by simp [i64c]
def coC (x : Cx) (s : CoS) : List Value := [.pointer (some ⟨x.tb, 0, none⟩), .slice s.A s.n s.c, .slice s.SA s.sn s.sc, .int .i64 (x.loc : Int), .int .i64 (x.fns : Int), .int .u32 (x.first : Int)]
def coB (x : Cx) (s : CoS) : Res := .blk x.b 64 (coC x s)
def coT (x : Cx) (i : Nat) : Res := .blk x.tb 67 (tape x.TA x.tn x.tc i)
def insOk (i : Ins) : Prop := i.err = 0 ∧ i.arg < 18446744073709551616
structure CoD (w : World) (D E : Nat → Prop) (x : Cx) (s : CoS) : Prop where
  code : Sd w D 2 s.A s.n s.c (cl insc s.code)
  sts : Sd w D 1 s.SA s.sn s.sc (i64c s.st)
  tape : Sd w E 1 x.TA x.tn x.tc (u16c x.l)
  ok : ∀ i ∈ s.code, insOk i
  sok : ∀ y ∈ s.st, y ≤ 100000
structure CoPre (w : World) (D E : Nat → Prop) (x : Cx) (s : CoS) (i : Nat) : Prop where
  dat : CoD w D E x s
  box : w.heap[x.b]? = some (.cells (coC x s).toArray 64 (0, 0))
  tbox : w.heap[x.tb]? = some (.cells (tape x.TA x.tn x.tc i).toArray 67 (0, 0))
  ne : x.b ≠ x.tb
  dom : ∀ y, D y ∨ E y → y < w.heap.size ∧ y ≠ x.b ∧ y ≠ x.tb
  l16 : ∀ y ∈ x.l, y < 65536
  loc : 1 ≤ x.loc ∧ x.loc ≤ 100
  first : x.first < 4294967296
def coP (x : Cx) (D E : Nat → Prop) (kc ki ks : Nat) (s : CoS) (i : Nat) (w : World) (e : Ending) (w' : World) : Prop :=
  ∃ s' i', e = .returned (.tuple #[]) ∧ CoPre w' (fun y => D y ∨ Nw w w' y) E x s' i' ∧ Pres [x.b, x.tb] w w' ∧ s'.code.length ≤ s.code.length + kc ∧ i' ≤ i + ki ∧ s'.st.length ≤ s.st.length + ks ∧ s.code.length + 1 / kc ≤ s'.code.length ∧ s.st.length ≤ s'.st.length
/-- Within a snapshot, or the given blocks. -/
def Dn (D : Nat → Prop) (foot : List Nat) (y : Nat) : Prop := y ∈ foot ∨ D y
section
variable {P : Program} {M : List Nat} {W w w' v : World} {L R : List Res} {D D' E : Nat → Prop} {x : Cx} {s s' : CoS} {i i' : Nat} {foot : List Nat}
theorem CoD.same (h : CoD w D E x s) (hs : ∀ y, D y ∨ E y → w'.heap[y]? = w.heap[y]?) (hD : ∀ y, D y → D' y) : CoD w' D' E x s :=
  ⟨h.code.same (fun y hy => hs y (.inl hy)) hD, h.sts.same (fun y hy => hs y (.inl hy)) hD, h.tape.same (fun y hy => hs y (.inr hy)) fun _ h => h, h.ok, h.sok⟩
theorem CoPre.st (h : CoPre W D E x s i) : St [x.b, x.tb] W [snap [x.b, x.tb] W W [], coB x s, coT x i] W := by
  have h2 := St.two h.box h.tbox h.ne
  exact h2.add (snap [x.b, x.tb] W W []) ⟨Pres.refl _ _, fun b hb => by cases hb⟩ (fun b hb => by cases hb) (fun r hr b hb => by cases hb)
theorem St.two_mod {b d : Nat} {t u : TypeId} {cs ds us es : List Value} (h : St M W (.blk b t cs :: .blk d u ds :: R) w) (hp : Pres [b, d] w w') (hb : w'.heap[b]? = some (.cells us.toArray t (0, 0))) (hd : w'.heap[d]? = some (.cells es.toArray u (0, 0))) : St M W (.blk b t us :: .blk d u es :: R) w' := by
  have hbo := h.own (.blk b t cs) (.head _) b (by simp [Res.foot])
  have hdo := h.own (.blk d u ds) (.tail _ (.head _)) d (by simp [Res.foot])
  have hap := h.apart
  rw [List.pairwise_cons, List.pairwise_cons] at hap
  have hR : ∀ r ∈ R, ∀ c ∈ r.foot, c ≠ b ∧ c ≠ d := fun r hr c hc =>
    ⟨fun e => hap.1 r (by simp [hr]) b (by simp [Res.foot]) (e ▸ hc), fun e => hap.2.1 r hr d (by simp [Res.foot]) (e ▸ hc)⟩
  refine ⟨⟨hp.os.trans h.pres.os, hp.tape.trans h.pres.tape, hp.output.trans h.pres.output, Nat.le_trans h.pres.size hp.size, fun j hj hm => ?_⟩, ?_, ?_, ?_⟩
  · rw [hp.block j (Nat.lt_of_lt_of_le hj h.pres.size) (by
      simp only [List.mem_cons, List.not_mem_nil, or_false]
      rintro (rfl | rfl)
      · rcases hbo.1 with h1 | h1
        · omega
        · exact hm h1
      · rcases hdo.1 with h1 | h1
        · omega
        · exact hm h1)]
    exact h.pres.block j hj hm
  · intro r hr
    rcases List.mem_cons.1 hr with rfl | hr
    · exact hb
    rcases List.mem_cons.1 hr with rfl | hr
    · exact hd
    · exact r.keep (h.holds r (by simp [hr])) fun c hc => hp.block c (h.own r (by simp [hr]) c hc).2 (by
        have := hR r hr c hc
        simp [this])
  · intro r hr c hc
    rcases List.mem_cons.1 hr with rfl | hr
    · obtain rfl : c = b := by simpa [Res.foot] using hc
      exact ⟨hbo.1, Nat.lt_of_lt_of_le hbo.2 hp.size⟩
    rcases List.mem_cons.1 hr with rfl | hr
    · obtain rfl : c = d := by simpa [Res.foot] using hc
      exact ⟨hdo.1, Nat.lt_of_lt_of_le hdo.2 hp.size⟩
    · have := h.own r (by simp [hr]) c hc
      exact ⟨this.1, Nat.lt_of_lt_of_le this.2 hp.size⟩
  · rw [List.pairwise_cons, List.pairwise_cons]
    refine ⟨fun r hr c hc => ?_, fun r hr c hc => hap.2.1 r hr c hc, hap.2.2⟩
    rcases List.mem_cons.1 hr with rfl | hr
    · exact hap.1 (.blk d u ds) (.head _) c hc
    · exact hap.1 r (by simp [hr]) c hc
/-- The state before a call of a coder's method. -/
theorem CoD.pre (h : CoD v (Dn D foot) E x s) (hDE : ∀ y, D y ∨ E y → y < W.heap.size ∧ y ∉ M) (hw : St M W (snap M W v foot :: coB x s :: coT x i :: R) w) (l16 : ∀ y ∈ x.l, y < 65536) (loc : 1 ≤ x.loc ∧ x.loc ≤ 100) (first : x.first < 4294967296) : CoPre w (Dn D foot) E x s i := by
  have hsame := hw.snap_same (foot := foot) (.head _)
  have hlt := hw.snap_lt (foot := foot) (.head _)
  have hap := hw.apart
  rw [List.pairwise_cons, List.pairwise_cons] at hap
  have hdm : ∀ y, Dn D foot y ∨ E y → Dm M W foot y := fun y hy => by
    rcases hy with (hy | hy) | hy
    · exact .inl hy
    · exact .inr (hDE y (.inl hy))
    · exact .inr (hDE y (.inr hy))
  have hb := hw.own (coB x s) (.tail _ (.head _)) x.b (by simp [Res.foot, coB])
  have ht := hw.own (coT x i) (.tail _ (.tail _ (.head _))) x.tb (by simp [Res.foot, coT])
  refine ⟨h.same (fun y hy => hsame y (hdm y hy)) fun _ h => h, hw.holds (coB x s) (.tail _ (.head _)), hw.holds (coT x i) (.tail _ (.tail _ (.head _))), fun e => ?_, fun y hy => ⟨hlt y (hdm y hy), ?_, ?_⟩, l16, loc, first⟩
  · exact hap.2.1 (coT x i) (.head _) x.b (by simp [Res.foot, coB]) (by simp [Res.foot, coT, e])
  · rintro rfl
    rcases hdm _ hy with hy | ⟨h1, h2⟩
    · exact hap.1 (coB x s) (.head _) x.b hy (by simp [Res.foot, coB])
    · rcases hb.1 with h3 | h3
      · omega
      · exact h2 h3
  · rintro rfl
    rcases hdm _ hy with hy | ⟨h1, h2⟩
    · exact hap.1 (coT x i) (.tail _ (.head _)) x.tb hy (by simp [Res.foot, coT])
    · rcases ht.1 with h3 | h3
      · omega
      · exact h2 h3
/-- A call of a coder's method. -/
theorem callV_co {g : FuncId} {args : Array Value} {K : Bool → Value → List Res → Prop} {kc ki ks : Nat} (hD : CoD v (Dn D foot) E x s) (hDE : ∀ y, D y ∨ E y → y < W.heap.size ∧ y ∉ M) (l16 : ∀ y ∈ x.l, y < 65536) (loc : 1 ≤ x.loc ∧ x.loc ≤ 100) (first : x.first < 4294967296)
    (h : ∀ w D, CoPre w D E x s i → Calls P g args w (coP x D E kc ki ks s i w))
    (hK : ∀ s' i' v' foot', CoD v' (Dn D foot') E x s' → s'.code.length ≤ s.code.length + kc → i' ≤ i + ki → s'.st.length ≤ s.st.length + ks → s.code.length + 1 / kc ≤ s'.code.length → s.st.length ≤ s'.st.length → K true (.tuple #[]) (snap M W v' foot' :: coB x s' :: coT x i' :: R)) :
    CallV P M W g args (snap M W v foot :: coB x s :: coT x i :: R) K := fun w hw =>
  (h w _ (hD.pre hDE hw l16 loc first)).mono (by
    rintro e w' ⟨s', i', rfl, hpre, hp, k1, k2, k3, k4, k5⟩
    have h1 : St M W (coB x s' :: coT x i' :: R) w' := hw.tail.two_mod hp hpre.box hpre.tbox
    have hfo := hw.own (snap M W v foot) (.head _)
    have hfa := (List.pairwise_cons.1 hw.apart).1
    have h2 : St M W (snap M W w' (foot ++ List.range' w.heap.size (w'.heap.size - w.heap.size)) :: coB x s' :: coT x i' :: R) w' := by
      refine h1.add _ ⟨h1.pres, fun _ _ => rfl⟩ (fun b hb => ?_) fun r hr b hb hbr => ?_
      · rcases List.mem_append.1 hb with hb | hb
        · have := hfo b hb
          exact ⟨this.1, Nat.lt_of_lt_of_le this.2 hp.size⟩
        · have := List.mem_range'_1.1 hb
          have := hw.pres.size
          exact ⟨.inl (by omega), by omega⟩
      · have hr' : ∃ r' ∈ (coB x s :: coT x i :: R), r'.foot = r.foot := by
          rcases List.mem_cons.1 hr with rfl | hr
          · exact ⟨coB x s, .head _, rfl⟩
          rcases List.mem_cons.1 hr with rfl | hr
          · exact ⟨coT x i, .tail _ (.head _), rfl⟩
          · exact ⟨r, by simp [hr], rfl⟩
        obtain ⟨r', hr1, hr2⟩ := hr'
        rw [← hr2] at hbr
        rcases List.mem_append.1 hb with hb | hb
        · exact hfa r' hr1 b hb hbr
        · have := List.mem_range'_1.1 hb
          have := (hw.own r' (List.mem_cons_of_mem _ hr1) b hbr).2
          omega
    refine ⟨_, _, rfl, h2, hK s' i' w' _ (hpre.dat.same (fun _ _ => rfl) fun y hy => ?_) k1 k2 k3 k4 k5⟩
    rcases hy with (hy | hy) | hy
    · exact .inl (List.mem_append.2 (.inl hy))
    · exact .inr hy
    · refine .inl (List.mem_append.2 (.inr (List.mem_range'_1.2 ?_)))
      unfold Nw at hy
      omega)
/-- The end of a method that only calls others. -/
theorem CoPre.done (h0 : CoPre W D E x s i) (hw : St [x.b, x.tb] W (snap [x.b, x.tb] W v foot :: coB x s' :: coT x i' :: R) w) (h : CoD v (Dn D foot) E x s') {kc ki ks : Nat} (k1 : s'.code.length ≤ s.code.length + kc) (k2 : i' ≤ i + ki) (k3 : s'.st.length ≤ s.st.length + ks) (k4 : s.code.length + 1 / kc ≤ s'.code.length) (k5 : s.st.length ≤ s'.st.length) :
    coP x D E kc ki ks s i W (.returned (.tuple #[])) w := by
  have hp := h.pre (fun y hy => by have := h0.dom y hy; exact ⟨this.1, by simp [this]⟩) hw h0.l16 h0.loc h0.first
  have hfo := hw.own (snap [x.b, x.tb] W v foot) (.head _)
  have hcv : ∀ y, Dn D foot y → D y ∨ Nw W w y := fun y hy => by
    rcases hy with hy | hy
    · have h1 := hfo y hy
      have h2 := hp.dom y (.inl (.inl hy))
      refine .inr ⟨?_, h1.2⟩
      rcases h1.1 with h3 | h3
      · exact h3
      · simp [h2] at h3
    · exact .inl hy
  refine ⟨s', i', rfl, ⟨hp.dat.same (fun _ _ => rfl) hcv, hp.box, hp.tbox, hp.ne, fun y hy => ?_, hp.l16, hp.loc, hp.first⟩, hw.pres, k1, k2, k3, k4, k5⟩
  rcases hy with (hy | hy) | hy
  · exact hp.dom y (.inl (.inr hy))
  · refine ⟨hy.2, ?_, ?_⟩
    · rintro rfl
      have := (Array.getElem?_eq_some_iff.1 h0.box).1
      have := hy.1
      omega
    · rintro rfl
      have := (Array.getElem?_eq_some_iff.1 h0.tbox).1
      have := hy.1
      omega
  · exact hp.dom y (.inr hy)
theorem CoPre.in0 (h : CoPre W D E x s i) : CoD W (Dn D []) E x s := h.dat.same (fun _ _ => rfl) fun y hy => .inr hy
theorem CoPre.hDE (h : CoPre W D E x s i) : ∀ y, D y ∨ E y → y < W.heap.size ∧ y ∉ [x.b, x.tb] := fun y hy => by
  have := h.dom y hy
  exact ⟨this.1, by simp [this]⟩
/-- The end of a method that changed the box itself. -/
theorem CoPre.fin (h0 : CoPre W D E x s i) (hw : St [x.b, x.tb] W L w) (hb : w.heap[x.b]? = some (.cells (coC x s').toArray 64 (0, 0))) (ht : w.heap[x.tb]? = some (.cells (tape x.TA x.tn x.tc i').toArray 67 (0, 0)))
    (hc : Sd w (fun y => D y ∨ Nw W w y) 2 s'.A s'.n s'.c (cl insc s'.code)) (hs : Sd w (fun y => D y ∨ Nw W w y) 1 s'.SA s'.sn s'.sc (i64c s'.st)) (ok : ∀ i ∈ s'.code, insOk i) (sok : ∀ y ∈ s'.st, y ≤ 100000)
    {kc ki ks : Nat} (k1 : s'.code.length ≤ s.code.length + kc) (k2 : i' ≤ i + ki) (k3 : s'.st.length ≤ s.st.length + ks) (k4 : s.code.length + 1 / kc ≤ s'.code.length) (k5 : s.st.length ≤ s'.st.length) : coP x D E kc ki ks s i W (.returned (.tuple #[])) w := by
  have hE : ∀ y, E y → w.heap[y]? = W.heap[y]? := fun y hy => by
    have := h0.dom y (.inr hy)
    exact hw.pres.block y this.1 (by simp [this])
  refine ⟨s', i', rfl, ⟨⟨hc, hs, h0.dat.tape.same hE fun _ h => h, ok, sok⟩, hb, ht, h0.ne, fun y hy => ?_, h0.l16, h0.loc, h0.first⟩, hw.pres, k1, k2, k3, k4, k5⟩
  have hsz := hw.pres.size
  rcases hy with (hy | hy) | hy
  · have := h0.dom y (.inl hy); exact ⟨by omega, this.2⟩
  · refine ⟨hy.2, ?_, ?_⟩
    · rintro rfl
      have := (Array.getElem?_eq_some_iff.1 h0.box).1
      have := hy.1
      omega
    · rintro rfl
      have := (Array.getElem?_eq_some_iff.1 h0.tbox).1
      have := hy.1
      omega
  · have := h0.dom y (.inr hy); exact ⟨by omega, this.2⟩
/-- Old data is as it was. -/
theorem CoPre.old (h0 : CoPre W D E x s i) (hw : St [x.b, x.tb] W L w) : ∀ y, D y → w.heap[y]? = W.heap[y]? := fun y hy => by
  have := h0.dom y (.inl hy)
  exact hw.pres.block y this.1 (by simp [this])
/-- The tape, for Next. -/
theorem CoD.tp (h : CoD v (Dn D foot) E x s) (hDE : ∀ y, D y ∨ E y → y < W.heap.size ∧ y ∉ M) (hw : St M W L w) (k : Nat) (hk : nth L k = some (snap M W v foot)) : Sl w w.heap.size 1 x.TA x.tn x.tc (u16c x.l) :=
  Sd.at (h.tape.mono fun y hy => .inr (hDE y (.inr hy))) hw k hk
theorem CoD.tapt (h : CoD v (Dn D foot) E x s) (hE : ∀ y, E y → y ≠ x.tb) : 0 < x.tn → Apt x.TA [x.tb] := fun hn b o e => by
  obtain ⟨b', off, e', hb, _⟩ := h.tape.cells hn
  rw [e'] at e
  cases e
  simpa using hE _ hb
theorem CoD.cd (h : CoD v (Dn D foot) E x s) (hDE : ∀ y, D y ∨ E y → y < W.heap.size ∧ y ∉ M) (hw : St M W L w) (k : Nat) (hk : nth L k = some (snap M W v foot)) : Sl w w.heap.size 2 s.A s.n s.c (cl insc s.code) :=
  Sd.at (h.code.mono fun y hy => hy.imp id fun hy => hDE y (.inl hy)) hw k hk
theorem CoD.sd (h : CoD v (Dn D foot) E x s) (hDE : ∀ y, D y ∨ E y → y < W.heap.size ∧ y ∉ M) (hw : St M W L w) (k : Nat) (hk : nth L k = some (snap M W v foot)) : Sl w w.heap.size 1 s.SA s.sn s.sc (i64c s.st) :=
  Sd.at (h.sts.mono fun y hy => hy.imp id fun hy => hDE y (.inl hy)) hw k hk
end
end Go.Proofs.Ytlbmnioibiomfaa
