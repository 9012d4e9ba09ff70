/- A range over a function: the statement, a yield, the end of a function that holds such a range. -/
import Derived.Test.YtabjbghmldiokaaEngF
namespace Go.Proofs.Ytabjbghmldiokaa
open Go.RowKit Go.Shelf
set_option linter.unusedVariables false
set_option linter.unusedSimpArgs false
def ApL (L : List Res) : Prop := L.Pairwise fun r s => ∀ b ∈ r.foot, b ∉ s.foot
def foldR (L : List Res) : Res := .dat (L.flatMap Res.foot) (fun w => ∀ r ∈ L, r.holds w) (fun w w' hk h r hr => r.keep (h r hr) fun b hb => hk b (List.mem_flatMap.2 ⟨r, hr, hb⟩))
def recR (l : Nat) (r : Loop) : Res := .dat [l] (fun w => w.heap[l]? = some (.loop r)) (fun _ _ hk h => (hk l (by simp)).trans h)
section
variable {M : List Nat} {W w : World} {A B L : List Res}
theorem St.apR (h : St M W (A ++ L) w) : ApL L := (List.pairwise_append.1 h.apart).2.1
theorem St.fold (h : St M W (A ++ L) w) : St M W (A ++ [foldR L]) w := by
  obtain ⟨h1, h2, h3⟩ := List.pairwise_append.1 h.apart
  refine ⟨h.pres, fun r hr => ?_, fun r hr b hb => ?_, List.pairwise_append.2 ⟨h1, List.pairwise_singleton _ _, fun r hr s hs b hb hbs => ?_⟩⟩
  · rcases List.mem_append.1 hr with hr | hr
    · exact h.holds r (by simp [hr])
    · obtain rfl : r = foldR L := by simpa using hr
      exact fun s hs => h.holds s (by simp [hs])
  · rcases List.mem_append.1 hr with hr | hr
    · exact h.own r (by simp [hr]) b hb
    · obtain rfl : r = foldR L := by simpa using hr
      obtain ⟨s, hs, hbs⟩ := List.mem_flatMap.1 hb
      exact h.own s (by simp [hs]) b hbs
  · obtain rfl : s = foldR L := by simpa using hs
    obtain ⟨t, ht, hbt⟩ := List.mem_flatMap.1 hbs
    exact h3 r hr t ht b hb hbt
theorem St.unfold (h : St M W (A ++ [foldR L]) w) (ha : ApL L) : St M W (A ++ L) w := by
  obtain ⟨h1, h2, h3⟩ := List.pairwise_append.1 h.apart
  have hm : foldR L ∈ A ++ [foldR L] := by simp
  have hf : ∀ r ∈ L, ∀ b ∈ r.foot, b ∈ (foldR L).foot := fun r hr b hb => List.mem_flatMap.2 ⟨r, hr, hb⟩
  refine ⟨h.pres, fun r hr => ?_, fun r hr b hb => ?_, List.pairwise_append.2 ⟨h1, ha, fun r hr s hs b hb hbs => ?_⟩⟩
  · rcases List.mem_append.1 hr with hr | hr
    · exact h.holds r (by simp [hr])
    · exact h.holds _ hm r hr
  · rcases List.mem_append.1 hr with hr | hr
    · exact h.own r (by simp [hr]) b hb
    · exact h.own _ hm b (hf r hr b hb)
  · exact h3 r hr (foldR L) (by simp) b hb (hf s hs b hbs)
theorem putObj_keeps (w : World) (d : Nat) (o : Obj) : (w.putObj d o).os = w.os ∧ (w.putObj d o).tape = w.tape ∧ (w.putObj d o).output = w.output ∧ (w.putObj d o).heap.size = w.heap.size := ⟨rfl, rfl, rfl, by simp [World.putObj]⟩
/-- A block of ours that holds no cells is written. -/
theorem St.putD {d : Nat} {p p' : World → Prop} {loc loc'} {o : Obj} (h : St M W (A ++ .dat [d] p loc :: B) w) (hp : p' (w.putObj d o)) : St M W (A ++ .dat [d] p' loc' :: B) (w.putObj d o) := by
  obtain ⟨k1, k2, k3, k4⟩ := putObj_keeps w d o
  have hm : Res.dat [d] p loc ∈ A ++ .dat [d] p loc :: B := by simp
  have hd := h.own _ hm d (by simp [Res.foot])
  obtain ⟨a1, a2, a3⟩ := List.pairwise_append.1 h.apart
  obtain ⟨a4, a5⟩ := List.pairwise_cons.1 a2
  have hA : ∀ r ∈ A, d ∉ r.foot := fun r hr hb => a3 r hr (.dat [d] p loc) (by simp) d hb (by simp [Res.foot])
  have hB : ∀ r ∈ B, d ∉ r.foot := fun r hr hb => a4 r hr d (by simp [Res.foot]) hb
  have hk : ∀ r : Res, d ∉ r.foot → r.holds w → r.holds (w.putObj d o) := fun r hr hh => r.keep hh fun b hb => World.putObj_heap_other (fun e => hr (e ▸ hb))
  refine ⟨⟨k1.trans h.pres.os, k2.trans h.pres.tape, k3.trans h.pres.output, by rw [k4]; exact h.pres.size, fun j hj hjM => ?_⟩, fun r hr => ?_, fun r hr b hb => ?_, List.pairwise_append.2 ⟨a1, List.pairwise_cons.2 ⟨fun s hs => a4 s hs, a5⟩, fun r hr s hs => ?_⟩⟩
  · refine (World.putObj_heap_other (fun e => ?_)).trans (h.pres.block j hj hjM)
    subst e
    rcases hd.1 with h1 | h1
    · omega
    · exact hjM h1
  · rcases List.mem_append.1 hr with hr | hr
    · exact hk r (hA r hr) (h.holds r (by simp [hr]))
    · rcases List.mem_cons.1 hr with rfl | hr
      · exact hp
      · exact hk r (hB r hr) (h.holds r (by simp [hr]))
  · rw [k4]
    rcases List.mem_append.1 hr with hr | hr
    · exact h.own r (by simp [hr]) b hb
    · rcases List.mem_cons.1 hr with rfl | hr
      · exact h.own _ hm b hb
      · exact h.own r (by simp [hr]) b hb
  · rcases List.mem_cons.1 hs with rfl | hs
    · exact fun b hb => a3 r hr (.dat [d] p loc) (by simp) b hb
    · exact a3 r hr s (by simp [hs])
theorem St.addD {o : Obj} {p : World → Prop} {loc} (h : St M W L w) (hp : p (w.alloc o)) : St M W (.dat [w.heap.size] p loc :: L) (w.alloc o) :=
  (h.allocs o).add _ hp (fun b hb => by
    obtain rfl : b = w.heap.size := by simpa [Res.foot] using hb
    exact ⟨.inl h.pres.size, by simp⟩) (fun s hs b hb hbs => by
    obtain rfl : b = w.heap.size := by simpa [Res.foot] using hb
    have := (h.own s hs _ hbs).2
    omega)
end
/-! ## A yield -/
section
variable {P : Program} {ro : Option Nat} {M : List Nat} {W : World} {n : Nat} {D : List Nat} {F : Fr} {L : List Res} {Q : Exit → List Nat → Fr → List Res → Prop} {K : List Nat → Fr → List Res → Prop}
def YV (P : Program) (M : List Nat) (W : World) (l : Nat) (args : Array Value) (L : List Res) (K : Value → List Res → Prop) : Prop :=
  ∀ w, St M W L w → YieldAt (wideR none) 0 P l args w fun e w' => ∃ v L', e = .returned v ∧ St M W L' w' ∧ K v L'
theorem YV.mono {l : Nat} {args : Array Value} {K K' : Value → List Res → Prop} (h : YV P M W l args L K) (hk : ∀ v L', K v L' → K' v L') : YV P M W l args L K' := fun w hw => by
  obtain ⟨fn, tmps, assign, body, h1, h2⟩ := h w hw
  refine ⟨fn, tmps, assign, body, h1, h2.mono ?_⟩
  rintro e w' ⟨v, L', a1, a2, a3⟩
  exact ⟨v, L', a1, a2, hk _ _ a3⟩
def yOf (F : Fr) (o : Oper) : Option (Nat × Array Value) :=
  match o.op with
  | .call c => (match c.callee with
    | .value f => (match ev F f with
      | .func (.yield l) first cap => some (l, first ++ c.args.map (ev F))
      | _ => none)
    | _ => none)
  | _ => none
theorem operIn_monoQ {X : Fence} {k : Nat} {o : Oper} {a : Act} {w : World} {next : Act → World → Prop} {Q Q' : Exit → Act → World → Prop} (hq : ∀ e a w, Q e a w → Q' e a w) (h : o.wpIn X k P a w next Q) : o.wpIn X k P a w next Q' := by
  refine ⟨h.1, ?_⟩
  have hh := h.2
  revert hh
  generalize (o.semAt X.round a.eval).run P w = r
  intro hh
  cases r with
  | ok x w' =>
    cases x with
    | enter f args => exact ⟨hh.1, CallsIn.mono hh.2 fun e w'' he => by cases e <;> first | exact he | exact hq _ _ _ he | (obtain ⟨a0, w0, h0⟩ := he; exact ⟨a0, w0, hq _ _ _ h0⟩)⟩
    | round l f tmps assign body => exact ⟨hh.1, RoundIn.mono hh.2 fun e w'' he => by cases e <;> first | exact he | exact hq _ _ _ he | (obtain ⟨a0, w0, h0⟩ := he; exact ⟨a0, w0, hq _ _ _ h0⟩)⟩
    | _ => exact hh
  | halt x w' =>
    cases x with
    | panic v => exact hq _ _ _ hh
    | _ => exact hh
theorem listIn_monoQ {ops : Array Oper} {X : Fence} {k : Nat} {Q Q' : Exit → Act → World → Prop} (hq : ∀ e a w, Q e a w → Q' e a w) : ∀ (r : List Oper) (a : Act) (w : World), wpListIn X k P ops Q r a w → wpListIn X k P ops Q' r a w
  | [], a, w, h => hq _ _ _ h
  | o :: r, a, w, h => by
    unfold wpListIn at h ⊢
    split at h
    · rename_i hw
      rw [if_pos hw]
      exact operIn_monoQ hq (Oper.wpIn_mono (listIn_monoQ hq r) h)
    · rename_i hw
      rw [if_neg hw]
      exact ⟨h.1, listIn_monoQ hq r _ _ h.2⟩
theorem listIn_append {ops : Array Oper} {X : Fence} {k : Nat} {Q : Exit → Act → World → Prop} {K : Act → World → Prop} {r2 : List Oper} (hk : ∀ a w, K a w → wpListIn X k P ops Q r2 a w) : ∀ (r1 : List Oper) (a : Act) (w : World),
    wpListIn X k P ops (Exit.then K Q) r1 a w → wpListIn X k P ops Q (r1 ++ r2) a w
  | [], a, w, h => hk _ _ h
  | o :: r1, a, w, h => by
    simp only [List.cons_append]
    unfold wpListIn at h ⊢
    split at h
    · rename_i hw
      rw [if_pos hw]
      have h1 : o.wpIn X k P a w (wpListIn X k P ops (Exit.then K Q) r1) Q := h
      exact Oper.wpIn_mono (listIn_append hk r1) h1
    · rename_i hw
      rw [if_neg hw]
      exact ⟨h.1, listIn_append hk r1 _ _ h.2⟩
theorem yround_any {k k' : Nat} {ro ro' : Option Nat} {l : Nat} {f : FuncId} {tmps : Array Value} {assign body : Code} {w : World} {R : Ending → World → Prop} (h : RoundIn (wideR ro) k P l f tmps assign body w R) : RoundIn (wideR ro') k' P l f tmps assign body w R :=
  ⟨trivial, fun c cs _ => h.2 c cs roomR⟩
theorem yield_in {o : Oper} {a : Act} {w : World} {next : Act → World → Prop} {Q : Exit → Act → World → Prop} {l : Nat} {args : Array Value} {KK : Value → List Res → Prop} (ha : a.eval = ev F) (hy : yOf F o = some (l, args)) (hv : YV P M W l args L KK) (hw : St M W L w)
    (hn : ∀ v L' w', KK v L' → St M W L' w' → next (a.put o.dst v) w') : o.wpIn (wideR ro) 0 P a w next Q := by
  refine ⟨fun _ _ => trivial, ?_⟩
  obtain ⟨dst, op, ty, pos, after, guard⟩ := o
  unfold yOf at hy
  dsimp only at hy
  split at hy
  · rename_i c
    split at hy
    · rename_i f hf
      split at hy
      · rename_i l' first cap hfv
        simp only [Option.some.injEq, Prod.mk.injEq] at hy
        obtain ⟨rfl, rfl⟩ := hy
        obtain ⟨fn, tmps, assign, body, h1, h2⟩ := hv w hw
        rw [show (wideR ro).round = ro from rfl, Oper.semAt_eq ro _ _ (by intro c; simp), ha]
        obtain ⟨callee, cargs, ats⟩ := c
        dsimp only at hf
        subst hf
        simp only [execOp, resolve, hfv, Deferred.ofValue, Sem.run_bind, Sem.run_pure, Result.andThen_ok, invoke, h1, Oper.uponIn_round]
        refine ⟨fun hh => (by cases hh), yround_any (h2.mono ?_)⟩
        rintro e w' ⟨v, L', rfl, hs, hk⟩
        exact hn _ _ _ hk hs
      · cases hy
    · cases hy
  · cases hy
theorem cvf_yield {id : Nat} {l1 l2 : List Oper} {o : Oper} (hd : (l1 ++ o :: l2).all (fun o => dstV n o.dst) = true) (hu : undefer (l1 ++ o :: l2) = true) (hg : o.guard = none)
    (h : vcn P M W n (l1 ++ o :: l2) true l1 F L fun F1 L1 => ∃ ly args, yOf F1 o = some (ly, args) ∧ YV P M W ly args L1 fun v L2 => vcn P M W n (l1 ++ o :: l2) true l2 (updo F1 o.dst v) L2 (K D)) :
    CVF P ro M W n (.region id (l1 ++ o :: l2).toArray false) D F L (thenF K Q) := fun a w ha hw => by
  have hsl := slots_of (n := n) (ops := (l1 ++ o :: l2).toArray) (by simpa using hd)
  have hdo : dstOk n o.dst := dstV_ok (List.all_eq_true.1 hd o (by simp))
  have hd1 : l1.all (fun o => dstV n o.dst) = true := List.all_eq_true.2 fun x hx => List.all_eq_true.1 hd x (by simp [hx])
  have hd2 : l2.all (fun o => dstV n o.dst) = true := List.all_eq_true.2 fun x hx => List.all_eq_true.1 hd x (by simp [hx])
  have hu1 : undefer l1 = true := List.all_eq_true.2 fun x hx => List.all_eq_true.1 hu x (by simp [hx])
  have hu2 : undefer l2 = true := List.all_eq_true.2 fun x hx => List.all_eq_true.1 hu x (by simp [hx])
  refine wpIn_mono (Q := wiQ (D.map col) (endV M W n (K D))) ?_ (endV_out fun _ _ h => h)
  refine wpIn_region_list ?_
  simp only [List.toList_toArray]
  have h1 := vcn_sound (ops := (l1 ++ o :: l2).toArray) (Q := endV M W n fun F1 L1 => ∃ ly args, yOf F1 o = some (ly, args) ∧ YV P M W ly args L1 fun v L2 => vcn P M W n (l1 ++ o :: l2) true l2 (updo F1 o.dst v) L2 (K D)) hsl l1 hd1 (by simpa using h) ha.ok hw fun F' L' a' w' hK h1 h2 => ⟨F', L', h1, h2, hK⟩
  have h2 := list_in (ro := ro) (k := 0) (ds := D.map col) endV_calm l1 _ _ hu1 h1
  rw [ha.eta] at h2
  refine listIn_append (K := fun a1 w1 => wiQ (D.map col) (endV M W n fun F1 L1 => ∃ ly args, yOf F1 o = some (ly, args) ∧ YV P M W ly args L1 fun v L2 => vcn P M W n (l1 ++ o :: l2) true l2 (updo F1 o.dst v) L2 (K D)) .normal a1 w1) ?_ l1 a w ?_
  · rintro a1 w1 ⟨e1, F1, L1, f1, s1, ly, args, hy, hv⟩
    unfold wpListIn
    rw [if_pos (by unfold Region.wanted; rw [hg])]
    refine yield_in (F := F1) f1.eval hy hv s1 ?_
    intro v L2 w2 hK hs
    have f2 := f1.put hdo v
    have h3 := vcn_sound (ops := (l1 ++ o :: l2).toArray) (Q := endV M W n (K D)) hsl l2 hd2 (by simpa using hK) f2 hs fun F' L' a' w' hK h1 h2 => ⟨F', L', h1, h2, hK⟩
    have h4 := list_in (ro := ro) (k := 0) (ds := D.map col) endV_calm l2 _ _ hu2 h3
    have e : ({ (({ a1 with defers := [] } : Act).put o.dst v) with defers := D.map col } : Act) = a1.put o.dst v := by
      rw [act_put]
      cases a1
      cases o.dst <;> simp_all [Act.put]
    rw [e] at h4
    exact h4
  · refine listIn_monoQ ?_ _ _ _ h2
    rintro e a1 w1 hh
    cases e <;> first
      | exact hh
      | exact hh.2.elim
end
/-! ## The statement -/
def setF : Fr → List (Nat × Value) → Fr
  | F, [] => F
  | F, (t, v) :: r => setF (upd F t v) r
theorem FrOK.setF {n : Nat} : ∀ (l : List (Nat × Value)) {tm : Array Value} {F : Fr}, FrOK n { tmps := tm, defers := [] } F → (∀ x ∈ l, x.1 < n) → FrOK n { tmps := l.foldl (fun t (p : Nat × Value) => t.setIfInBounds p.1 p.2) tm, defers := [] } (Go.Proofs.Ytabjbghmldiokaa.setF F l)
  | [], tm, F, h, _ => h
  | (t, v) :: r, tm, F, h, hl => FrOK.setF r (tm := tm.setIfInBounds t v) (F := upd F t v) (h.put (d := some t) (hl (t, v) (by simp)) v) fun x hx => hl x (by simp [hx])
def Iter (P : Program) (M : List Nat) (W : World) {α : Type} (gf : Nat) (lb : Array Value) (encs : α → Array Value) (N : Nat) (S Sp : List α → Prop) (A : List Res) : Prop :=
  ∀ (l : Nat) (I Ix : List α → Res → Prop), (∀ pre R, I pre R → ∃ f p loc, R = .dat f p loc) →
    (∀ pre x X R, pre.length < N → I pre R → YV P M W l (encs x) (X ++ [R]) fun v L' => (v = .bool true ∧ ∃ R', I (pre ++ [x]) R' ∧ L' = X ++ [R']) ∨ (v = .bool false ∧ ∃ R', Ix (pre ++ [x]) R' ∧ L' = X ++ [R'])) →
    ∀ R w, I [] R → St M W (A ++ [R]) w → Calls P gf (#[.func (.yield l) #[] #[]] ++ lb) w fun e w' => (∃ v, e = .returned v) ∧
      ((∃ xs R', S xs ∧ I xs R' ∧ St M W (A ++ [R']) w') ∨ (∃ pre R', Sp pre ∧ Ix pre R' ∧ St M W (A ++ [R']) w'))
section
variable {P : Program} {M : List Nat} {W : World} {n : Nat} {D : List Nat} {F : Fr} {L : List Res} {Q : Exit → List Nat → Fr → List Res → Prop}
def rndQ {α : Type} (I : List α → List Res → Prop) (Ix : Code → List α → List Res → Prop) (pre : List α) (R : Res) : Exit → List Nat → Fr → List Res → Prop
  | .normal, _, _, L => ∃ B, L = B ++ [R] ∧ I pre B
  | .ret, _, _, L => ∃ B, L = B ++ [R] ∧ Ix .ret pre B
  | .exit id, _, _, L => ∃ B, L = B ++ [R] ∧ Ix (.exit id) pre B
  | _, _, _, _ => False
def asgQ {α : Type} (P : Program) (l : Nat) (M : List Nat) (W : World) (n : Nat) (body : Code) (I : List α → List Res → Prop) (Ix : Code → List α → List Res → Prop) (pre : List α) (R : Res) : Exit → List Nat → Fr → List Res → Prop
  | .normal, D, F, L => D = [] ∧ ∃ B, L = B ++ [R] ∧ ∀ R', CVF P (some l) M W n body [] F (B ++ [R']) (rndQ I Ix pre R')
  | _, _, _, _ => False
def jmpQ (Q : Exit → List Nat → Fr → List Res → Prop) (c : Code) (D : List Nat) (F : Fr) (L : List Res) : Prop :=
  match c with
  | .ret => Q .ret D F L
  | .exit id => Q (.exit id) D F L
  | _ => False
theorem cvf_range {α : Type} {g : Operand} {ps : Array Tmp} {assign body : Code} {gf : Nat} {lb : Array Value} {encs : α → Array Value} {N : Nat} {S Sp : List α → Prop} {A : List Res} (B : List Res)
    (hg : ev F g = .func (.func gf) #[] lb) (hgb : hasBody P gf = true) (hit : Iter P M W gf lb encs N S Sp A) (hps : ∀ x, (encs x).size = ps.size) (hpn : ps.toList.all (fun t => Nat.ble (t + 1) n) = true) (hL : L = A ++ B)
    (I : List α → List Res → Prop) (Ix : Code → List α → List Res → Prop) (h0 : I [] B)
    (hbody : ∀ l pre x R B', pre.length < N → I pre B' → CVF P (some l) M W n assign [] (setF F (ps.toList.zip (encs x).toList)) (B' ++ [R]) (asgQ P l M W n body I Ix (pre ++ [x]) R))
    (hdone : ∀ d xs B', S xs → I xs B' → Q .normal (d :: D) F (dfr d :: (A ++ B')))
    (hstop : ∀ d c pre B', Sp pre → Ix c pre B' → jmpQ Q c (d :: D) F (dfr d :: (A ++ B'))) : CVF P none M W n (.rangeFunc g ps assign body) D F L Q := fun a w ha hw => by
  subst hL
  refine wpIn_rangeFunc ?_
  intro fn hfn
  obtain ⟨rcd, hrcd⟩ : ∃ rcd : LoopState → Option Code → Loop, rcd = fun st pe => { state := st, pending := pe, fn, tmps := a.tmps, params := ps, assign, body, defers := w.heap.size } := ⟨_, rfl⟩
  obtain ⟨d, hd⟩ : ∃ d, w.heap.size = d := ⟨_, rfl⟩
  obtain ⟨l, hl⟩ : ∃ l, d + 1 = l := ⟨_, rfl⟩
  obtain ⟨W1, hW1⟩ : ∃ W1, (w.alloc (.deferred (some []))).alloc (.loop (rcd .ready none)) = W1 := ⟨_, rfl⟩
  have hst1 : St M W (A ++ (B ++ [recR l (rcd .ready none), dfr d])) W1 := by
    have q1 : St M W (dfr d :: (A ++ B)) (w.alloc (.deferred (some []))) := by
      rw [← hd]
      exact hw.addD (World.alloc_heap_new w _)
    have q2 : St M W (recR l (rcd .ready none) :: dfr d :: (A ++ B)) W1 := by
      rw [← hW1, ← hl]
      have e : (w.alloc (.deferred (some []))).heap.size = d + 1 := by simp [hd]
      have := q1.addD (o := .loop (rcd .ready none)) (p := fun w => w.heap[d + 1]? = some (.loop (rcd .ready none))) (loc := fun _ _ hk h => (hk (d + 1) (by rw [e]; simp)).trans h) (by
        have := World.alloc_heap_new (w.alloc (.deferred (some []))) (.loop (rcd .ready none))
        rwa [e] at this)
      unfold recR
      simp only [e] at this
      exact this
    refine q2.perm ?_
    rw [← List.append_assoc]
    exact (List.perm_append_comm (l₁ := A ++ B) (l₂ := [recR l (rcd .ready none), dfr d]))
  have hap0 : ApL (B ++ [recR l (rcd .ready none), dfr d]) := hst1.apR
  have key := hit l (fun pre R => ∃ B', I pre B' ∧ ApL (B' ++ [recR l (rcd .ready none), dfr d]) ∧ R = foldR (B' ++ [recR l (rcd .ready none), dfr d]))
    (fun pre R => ∃ c B', Ix c pre B' ∧ ApL (B' ++ [recR l (rcd .done (some c)), dfr d]) ∧ R = foldR (B' ++ [recR l (rcd .done (some c)), dfr d])) (by rintro pre R ⟨B', -, -, rfl⟩; exact ⟨_, _, _, rfl⟩) ?round
    (foldR (B ++ [recR l (rcd .ready none), dfr d])) W1 ⟨B, h0, hap0, rfl⟩ hst1.fold
  case round =>
    rintro pre x X R hlen ⟨B', hI, hap, rfl⟩ w1 hw1
    have hw2 := hw1.unfold hap
    have hr1 : w1.heap[l]? = some (.loop (rcd .ready none)) := hw2.holds (recR l (rcd .ready none)) (by simp)
    have hps' : (encs x).size = (rcd .ready none).params.size := by rw [hrcd]; exact hps x
    have hy := run_yield (P := P) (args := encs x) hr1 hps'
    rw [hrcd] at hy
    dsimp only at hy
    have hperm : (B' ++ (X ++ [recR l (rcd .ready none), dfr d])).Perm (X ++ (B' ++ [recR l (rcd .ready none), dfr d])) := by
      rw [← List.append_assoc, ← List.append_assoc]
      exact (List.perm_append_comm).append_right _
    have hw3 := hw2.perm hperm
    have hapX : ApL (X ++ [recR l (rcd .ready none), dfr d]) := hw3.apR
    have hfr : FrD [] n { tmps := (ps.zip (encs x)).foldl (fun tmps (t, a) => tmps.setIfInBounds t a) a.tmps, defers := [] } (setF F (ps.toList.zip (encs x).toList)) := by
      refine ⟨rfl, ?_⟩
      have := FrOK.setF (ps.toList.zip (encs x).toList) (tm := a.tmps) (F := F) ha.ok fun y hy => by
        have := List.all_eq_true.1 hpn y.1 (List.of_mem_zip hy).1
        exact Nat.le_of_ble_eq_true this
      have e : (ps.zip (encs x)).foldl (fun tmps (t, a) => tmps.setIfInBounds t a) a.tmps = (ps.toList.zip (encs x).toList).foldl (fun t (p : Nat × Value) => t.setIfInBounds p.1 p.2) a.tmps := by
        rw [← Array.toList_zip, Array.foldl_toList]
      rw [e]
      exact this
    refine ⟨fn, _, assign, body, hy, roundIn_of_wpIn hfn (wpIn_mono (hbody l pre x _ B' hlen hI _ w1 hfr hw3.fold) ?_)⟩
    intro e a1 w2 hq
    cases e with
    | normal =>
      obtain ⟨D', F', L', f1, s1, rfl, B2, rfl, hb⟩ := hq
      have s2 := s1.unfold hapX
      have hr2 : w2.heap[l]? = some (.loop (rcd .ready none)) := s2.holds (recR l (rcd .ready none)) (by simp)
      have hlt2 : l < w2.heap.size := (Array.getElem?_eq_some_iff.1 hr2).1
      refine ⟨_, run_beginRound hr2 (by rw [hrcd]), ?_⟩
      have ebusy : ({ rcd .ready none with state := .busy } : Loop) = rcd .busy none := by rw [hrcd]
      rw [ebusy]
      have s3 : St M W (B2 ++ (X ++ [recR l (rcd .busy none), dfr d])) (w2.putObj l (.loop (rcd .busy none))) := by
        have e : B2 ++ (X ++ [recR l (rcd .ready none), dfr d]) = (B2 ++ X) ++ recR l (rcd .ready none) :: [dfr d] := by simp
        rw [e] at s2
        have := s2.putD (o := .loop (rcd .busy none)) (p' := fun w => w.heap[l]? = some (.loop (rcd .busy none))) (loc' := fun _ _ hk h => (hk l (by simp)).trans h) (World.putObj_heap_same hlt2)
        have e2 : B2 ++ (X ++ [recR l (rcd .busy none), dfr d]) = (B2 ++ X) ++ recR l (rcd .busy none) :: [dfr d] := by simp
        rw [e2]
        exact this
      have hapB : ApL (X ++ [recR l (rcd .busy none), dfr d]) := s3.apR
      refine wpIn_mono (hb _ a1 _ f1 s3.fold) ?_
      have fin : ∀ (jump : Option Code) (B3 : List Res) (w3 : World), St M W (B3 ++ [foldR (X ++ [recR l (rcd .busy none), dfr d])]) w3 →
          ∃ w4, (Instr.endRound l jump).run P w3 = .ok (.bool jump.isNone) w4 ∧ St M W (X ++ (B3 ++ [recR l (rcd (if jump.isNone then .ready else .done) jump), dfr d])) w4 := fun jump B3 w3 h3 => by
        have h4 := h3.unfold hapB
        have hr3 : w3.heap[l]? = some (.loop (rcd .busy none)) := h4.holds (recR l (rcd .busy none)) (by simp)
        refine ⟨_, run_endRound jump hr3, ?_⟩
        have ee : ({ rcd .busy none with state := if jump.isNone then .ready else .done, pending := jump } : Loop) = rcd (if jump.isNone then .ready else .done) jump := by rw [hrcd]
        rw [ee]
        have e : B3 ++ (X ++ [recR l (rcd .busy none), dfr d]) = (B3 ++ X) ++ recR l (rcd .busy none) :: [dfr d] := by simp
        rw [e] at h4
        have := h4.putD (o := .loop (rcd (if jump.isNone then .ready else .done) jump)) (p' := fun w => w.heap[l]? = some (.loop (rcd (if jump.isNone then .ready else .done) jump))) (loc' := fun _ _ hk h => (hk l (by simp)).trans h) (World.putObj_heap_same (Array.getElem?_eq_some_iff.1 hr3).1)
        refine this.perm ?_
        rw [← List.append_assoc]
        exact (List.perm_append_comm).append_right _
      rintro e a3 w3 hp
      cases e with
      | normal =>
        obtain ⟨D3, F3, L3, f3, s4, B3, rfl, hi⟩ := hp
        obtain ⟨w4, hr, s5⟩ := fin none B3 w3 s4
        exact ⟨_, _, hr, _, _, rfl, s5.fold, .inl ⟨rfl, _, ⟨B3, hi, s5.apR, rfl⟩, rfl⟩⟩
      | ret =>
        obtain ⟨D3, F3, L3, f3, s4, B3, rfl, hi⟩ := hp
        obtain ⟨w4, hr, s5⟩ := fin (some .ret) B3 w3 s4
        exact ⟨_, _, hr, _, _, rfl, s5.fold, .inr ⟨rfl, _, ⟨_, B3, hi, s5.apR, rfl⟩, rfl⟩⟩
      | exit id =>
        obtain ⟨D3, F3, L3, f3, s4, B3, rfl, hi⟩ := hp
        obtain ⟨w4, hr, s5⟩ := fin (some (.exit id)) B3 w3 s4
        exact ⟨_, _, hr, _, _, rfl, s5.fold, .inr ⟨rfl, _, ⟨_, B3, hi, s5.apR, rfl⟩, rfl⟩⟩
      | goto t => obtain ⟨D3, F3, L3, f3, s4, hh⟩ := hp; exact hh.elim
      | panic c => exact hp.elim
      | outgrown => exact hp.elim
    | ret => obtain ⟨D3, F3, L3, f3, s4, hh⟩ := hq; exact hh.elim
    | exit id => obtain ⟨D3, F3, L3, f3, s4, hh⟩ := hq; exact hh.elim
    | goto t => obtain ⟨D3, F3, L3, f3, s4, hh⟩ := hq; exact hh.elim
    | panic c => exact hq.elim
    | outgrown => exact hq.elim
  have hev : a.eval = ev F := ha.ok.eval
  refine ⟨l, [col d], W1, { target := .fn (.func gf) lb, args := #[.func (.yield l) #[] #[]] }, W1, gf, #[.func (.yield l) #[] #[]] ++ lb, W1, ?_, ?_, ?_, ?_, ?_, ?_⟩
  · rw [← hW1, hrcd, ← hl, ← hd]
    exact run_enterLoop_outer _ _ _ _ _
  · simp only [resolve, hev, hg, rangeCall, Deferred.ofValue]
    simp [go_sem, ev]
  · intro _ _
    exact trivial
  · simp only [invoke, callFunc_enter hgb]
  · intro hh
    cases hh
  · refine callsR ?_
    refine key.mono ?_
    have hfr : FrD (d :: D) n { a with defers := [col d] ++ a.defers } F := ⟨by simp [ha.defers], ha.ok⟩
    have fin : ∀ (st : LoopState) (pe : Option Code) (B' : List Res) (w3 : World), st ≠ .busy → ApL (B' ++ [recR l (rcd st pe), dfr d]) → St M W (A ++ [foldR (B' ++ [recR l (rcd st pe), dfr d])]) w3 →
        ∃ w4, (Instr.endLoop l).run P w3 = .ok pe w4 ∧ St M W (dfr d :: (A ++ B')) w4 := fun st pe B' w3 hst hap h3 => by
      have h4 := h3.unfold hap
      have hr3 : w3.heap[l]? = some (.loop (rcd st pe)) := h4.holds (recR l (rcd st pe)) (by simp)
      have e1 : (rcd st pe).state = st := by rw [hrcd]
      have e2 : (rcd st pe).pending = pe := by rw [hrcd]
      have := run_endLoop (P := P) hr3 (by rw [e1]; exact hst)
      have this2 : (Instr.endLoop l).run P w3 = .ok pe (w3.putObj l (.loop { rcd st pe with state := .exhausted })) := this.trans (by subst hrcd; rfl)
      refine ⟨_, this2, ?_⟩
      have e : A ++ (B' ++ [recR l (rcd st pe), dfr d]) = (A ++ B') ++ recR l (rcd st pe) :: [dfr d] := by simp
      rw [e] at h4
      have h5 := h4.putD (o := .loop { rcd st pe with state := .exhausted }) (p' := fun _ => True) (loc' := fun _ _ _ _ => trivial) trivial
      have h6 := h5.perm (L' := .dat [l] (fun _ => True) (fun _ _ _ _ => trivial) :: dfr d :: (A ++ B')) (List.perm_append_comm (l₁ := [_, dfr d]) (l₂ := A ++ B'))
      exact h6.tail
    rintro e w3 ⟨⟨v, rfl⟩, (⟨xs, R', hS, ⟨B', hI, hap, rfl⟩, s⟩ | ⟨pre, R', hSp, ⟨c, B', hI, hap, rfl⟩, s⟩)⟩
    · obtain ⟨w4, hr, s4⟩ := fin .ready none B' w3 (by simp) hap s
      exact ⟨none, w4, hr, d :: D, F, _, hfr, s4, hdone d xs B' hS hI⟩
    · obtain ⟨w4, hr, s4⟩ := fin .done (some c) B' w3 (by simp) hap s
      refine ⟨some c, w4, hr, ?_⟩
      have hj := hstop d c pre B' hSp hI
      unfold jmpQ at hj
      split at hj
      · exact wpIn_ret ⟨d :: D, F, _, hfr, s4, hj⟩
      · exact wpIn_exit ⟨d :: D, F, _, hfr, s4, hj⟩
      · exact hj.elim
/-! ## The whole function -/
def retF (P : Program) (M : List Nat) (W : World) (rs : List ResultVar) (R : Ending → World → Prop) : Exit → List Nat → Fr → List Res → Prop
  | .normal, D, F, L => ∃ L2, L = D.map dfr ++ L2 ∧ ressV P M W L2 F rs fun tok vs => tok = true → ∀ w, St M W L2 w → R (.returned (packV vs)) w
  | .ret, D, F, L => ∃ L2, L = D.map dfr ++ L2 ∧ ressV P M W L2 F rs fun tok vs => tok = true → ∀ w, St M W L2 w → R (.returned (packV vs)) w
  | _, _, _, _ => False
theorem calls_cvf {f : FuncId} {fn : Func} {c : Code} {args : List Value} {R : Ending → World → Prop} {w : World} (rs : List ResultVar) (hrs : fn.results = rs.toArray) (hf : P.funcs[f]? = some fn) (hb : fn.body = some c) (hn : fn.ntmps = n) (hl : args.length ≤ n) (hw : St M W L w)
    (h : CVF P none M W n c [] (mkF args) L (retF P M W rs R)) : Calls P f args.toArray w R := by
  obtain rfl : fn.results.toList = rs := by rw [hrs]
  refine callsR_out (ro := none) (k := 0) (callsIn_of_wp_marks hf hb trivial (wpIn_mono (h _ w ⟨rfl, rfl, by simp [hn]; omega, fun i => ?_⟩ hw) ?_) rfl)
  · simp only [mkF]
    rcases Nat.lt_or_ge i args.length with h1 | h1
    · have h2 : i < (args.toArray ++ Array.replicate (fn.ntmps - args.toArray.size) undef).size := by simp; omega
      simp [Array.getElem?_append, h1]
    · have h2 : args[i]? = none := List.getElem?_eq_none h1
      simp [Array.getElem?_append, Nat.not_lt.2 h1, Array.getElem?_replicate, h2]
      split <;> rfl
  · have key : ∀ (a : Act) (D : List Nat) (F : Fr) (L2 : List Res), FrD D n a F → ressV P M W L2 F fn.results.toList (fun tok vs => tok = true → ∀ w, St M W L2 w → R (.returned (packV vs)) w) → ∀ (D' : List Nat) (w : World), St M W (D'.map dfr ++ L2) w →
        LeavesInM (wideR none) 0 P fn a.tmps R (D'.map col) .returning w := by
      intro a D F L2 f1 h3 D'
      induction D' with
      | nil =>
        intro w hs
        obtain ⟨vs, hk, hr⟩ := ressV_sound f1.ok h3
        exact ⟨_, results_pack (hr w hs), hk rfl w hs⟩
      | cons d D' ih =>
        intro w hs
        have hd : w.heap[d]? = some (.deferred (some [])) := hs.holds (dfr d) (by simp)
        refine ⟨by simp, .inl ⟨d, _, rfl, run_takeDeferred hd, ih _ ?_⟩⟩
        have := St.putD (A := []) (o := .deferred none) (p' := fun _ => True) (loc' := fun _ _ _ _ => trivial) (show St M W ([] ++ dfr d :: (D'.map dfr ++ L2)) w from hs) trivial
        exact St.tail this
    intro e a w hh
    cases e <;> first
      | exact hh.elim
      | (obtain ⟨D, F', L', h1, h2, h3⟩ := hh
         first
           | exact h3.elim
           | (obtain ⟨L2, rfl, h3⟩ := h3
              show LeavesInM (wideR none) 0 P fn a.tmps R a.defers .returning w
              rw [h1.defers]
              exact key a D F' L2 h1 h3 D w h2))
end
section
variable {K : List Nat → Fr → List Res → Prop} {Q : Exit → List Nat → Fr → List Res → Prop} {D : List Nat} {F : Fr} {L : List Res} {i j : Nat}
theorem thenF_normal : thenF K Q .normal D F L = K D F L := rfl
theorem thenF_exit : thenF K Q (.exit i) D F L = Q (.exit i) D F L := rfl
theorem thenF_ret : thenF K Q .ret D F L = Q .ret D F L := rfl
theorem blockF_exit : blockF i Q (.exit j) D F L = if j = i then Q .normal D F L else Q (.exit j) D F L := rfl
theorem blockF_normal : blockF i Q .normal D F L = Q .normal D F L := rfl
theorem blockF_ret : blockF i Q .ret D F L = Q .ret D F L := rfl
theorem look_dat {f : List Nat} {p : World → Prop} {loc} (L : List Res) (k : Nat) : look (.dat f p loc :: L) k = look L k := rfl
theorem putL_dat {f : List Nat} {p : World → Prop} {loc} (L : List Res) (k : Nat) (us : List Value) : putL (.dat f p loc :: L) k us = .dat f p loc :: putL L k us := rfl
theorem fresh_dat {f : List Nat} {p : World → Prop} {loc} (L : List Res) (k : Nat) : fresh (.dat f p loc :: L) k = fresh L k := rfl
theorem neB_dat {f : List Nat} {p : World → Prop} {loc} (L : List Res) (k : Nat) : neB (.dat f p loc :: L) k = neB L k := rfl
theorem neR_dat {f : List Nat} {p : World → Prop} {loc} (L : List Res) (k : Nat) : neR (.dat f p loc :: L) k = neR L k := rfl
theorem factL_dat {f : List Nat} {p : World → Prop} {loc} (W : World) (M : List Nat) (L : List Res) : factL W M (.dat f p loc :: L) = factL W M L := rfl
theorem look_dfr (d : Nat) (L : List Res) (k : Nat) : look (dfr d :: L) k = look L k := rfl
theorem putL_dfr (d : Nat) (L : List Res) (k : Nat) (us : List Value) : putL (dfr d :: L) k us = dfr d :: putL L k us := rfl
theorem fresh_dfr (d : Nat) (L : List Res) (k : Nat) : fresh (dfr d :: L) k = fresh L k := rfl
theorem neB_dfr (d : Nat) (L : List Res) (k : Nat) : neB (dfr d :: L) k = neB L k := rfl
theorem neR_dfr (d : Nat) (L : List Res) (k : Nat) : neR (dfr d :: L) k = neR L k := rfl
theorem factL_dfr (W : World) (M : List Nat) (d : Nat) (L : List Res) : factL W M (dfr d :: L) = factL W M L := rfl
theorem cF : type_of% (And.intro (And.intro (And.intro (And.intro @thenF_normal @thenF_exit) (And.intro @thenF_ret (And.intro @blockF_exit (And.intro @blockF_normal @blockF_ret)))) (And.intro (And.intro @look_dfr (And.intro @putL_dfr @fresh_dfr)) (And.intro @neB_dfr (And.intro @neR_dfr @factL_dfr)))) (And.intro (And.intro @look_dat (And.intro @putL_dat @fresh_dat)) (And.intro @neB_dat (And.intro @neR_dat @factL_dat)))) := (And.intro (And.intro (And.intro (And.intro @thenF_normal @thenF_exit) (And.intro @thenF_ret (And.intro @blockF_exit (And.intro @blockF_normal @blockF_ret)))) (And.intro (And.intro @look_dfr (And.intro @putL_dfr @fresh_dfr)) (And.intro @neB_dfr (And.intro @neR_dfr @factL_dfr)))) (And.intro (And.intro @look_dat (And.intro @putL_dat @fresh_dat)) (And.intro @neB_dat (And.intro @neR_dat @factL_dat))))
end
section
variable {P : Program} {ro : Option Nat} {M : List Nat} {W : World} {nn : Nat} {D : List Nat} {F : Fr} {L : List Res} {Q : Exit → List Nat → Fr → List Res → Prop} {co : Code}
theorem cvf_rowA (k : Nat) {A : Option Addr} {n c size : Nat} {t : TypeId} {xs : List Value} (hk : nth L k = some (.row (.slice A n c) t size n xs)) (hn : 0 < n)
    (h : ∀ g, A = some ⟨g, 0, none⟩ → (W.heap.size ≤ g ∨ g ∈ M) → neB (L.eraseIdx k) g → CVF P ro M W nn co D F L Q) : CVF P ro M W nn co D F L Q := fun a w ha hw => by
  rcases (hw.perm (perm_erase hk).symm).row_at with ⟨-, h0⟩ | ⟨g, e, hb, hne⟩
  · omega
  · exact h g e hb hne a w ha hw
theorem cvf_fact (p : Prop) (h : ∀ w, St M W L w → p) (hk : p → CVF P ro M W nn co D F L Q) : CVF P ro M W nn co D F L Q := fun a w ha hw => hk (h w hw) a w ha hw
theorem cvf_len (k : Nat) {A : Option Addr} {m d size : Nat} {t : TypeId} {xs : List Value} (hk : nth L k = some (.row (.slice A m d) t size m xs))
    (h : xs.length = m * size → CVF P ro M W nn co D F L Q) : CVF P ro M W nn co D F L Q := fun a w ha hw => h (hw.slr k hk).len a w ha hw
theorem callV_box {g : FuncId} {args : Array Value} {K : Bool → Value → List Res → Prop} {f : Nat → Value} {t : TypeId} {cs : List Value} (h : ∀ w, St M W L w → Calls P g args w fun e w' => e = .returned (f w.heap.size) ∧ w' = w.alloc (.cells cs.toArray t))
    (hk : ∀ b, W.heap.size ≤ b → fresh L b → K true (f b) (.blk b t cs :: L)) : CallV P M W g args L K := fun w hw => by
  refine (h w hw).mono ?_
  rintro e w' ⟨rfl, rfl⟩
  exact ⟨_, _, rfl, hw.alloc t cs, hk _ hw.pres.size (fresh_of hw)⟩
end
end Go.Proofs.Ytabjbghmldiokaa
