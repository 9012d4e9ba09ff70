/- A range over a function, and the functions that are ranged over: the engine's rules in a round and around it. -/
import Derived.Test.YtabjbghmldiokaaMore
import Derived.RangeFuncNested
import Derived.RangeFuncCalls
import Derived.RangeFuncLeaves
namespace Go.Proofs.Ytabjbghmldiokaa
open Go.RowKit Go.Shelf
set_option linter.unusedVariables false
set_option linter.unusedSimpArgs false
def wideR (ro : Option Nat) : Fence := { Fence.wide with round := ro }
section
variable {P : Program} {ro : Option Nat} {k : Nat} {f : FuncId} {args : Array Value} {w : World} {R : Ending → World → Prop}
theorem roomR {m : Nat} : (wideR ro).room m := fun d hd => by cases hd
theorem callsR (h : Calls P f args w R) : CallsIn (wideR ro) k P f args w R := by
  have := (callsIn_wide (n := k)).2 h
  exact ⟨trivial, fun cs hr => this.2 cs (room_wide _)⟩
theorem callsR_out (h : CallsIn (wideR ro) k P f args w R) : Calls P f args w R := (callsIn_wide (n := k)).1 ⟨trivial, fun cs hr => h.2 cs roomR⟩
def undefer (l : List Oper) : Bool := l.all fun o => match o.op with
  | .defer _ => false
  | _ => true
theorem undefer_of {l : List Oper} (h : undefer l = true) {o : Oper} (ho : o ∈ l) : ∀ c, o.op ≠ .defer c := fun c e => by
  have := List.all_eq_true.1 h o ho
  rw [e] at this
  cases this
variable {ds : List Deferred}
theorem act_put (a : Act) (d : Option Tmp) (v : Value) : ({ a with defers := ds } : Act).put d v = { a.put d v with defers := ds } := by cases d <;> rfl
theorem put_defers (a : Act) (d : Option Tmp) (v : Value) : (a.put d v).defers = a.defers := by cases d <;> rfl
theorem act_eta {a : Act} (h : a.defers = []) : ({ a with defers := [] } : Act) = a := by cases a; simp_all
def wiK (ds : List Deferred) (K : Act → World → Prop) : Act → World → Prop := fun a w => a.defers = ds ∧ K { a with defers := [] } w
def wiQ (ds : List Deferred) (Q : Exit → Act → World → Prop) : Exit → Act → World → Prop := fun e a w => a.defers = ds ∧ Q e { a with defers := [] } w
/-- No panic, no outgrowing; a normal end has nothing deferred. -/
structure Calm (Q : Exit → Act → World → Prop) : Prop where
  panic : ∀ c a w, ¬ Q (.panic c) a w
  outgrown : ∀ a w, ¬ Q .outgrown a w
  normal : ∀ a w, Q .normal a w → a.defers = []
theorem wiK_put {a : Act} {d : Option Tmp} {v : Value} {K : Act → World → Prop} (ha : a.defers = []) (hh : K (a.put d v) w) : wiK ds K (({ a with defers := ds } : Act).put d v) w := by
  refine ⟨by rw [put_defers], ?_⟩
  rw [act_put]
  have e : ({ (a.put d v) with defers := [] } : Act) = a.put d v := act_eta (by rw [put_defers]; exact ha)
  show K { (a.put d v) with defers := [] } w
  rw [e]
  exact hh
theorem oper_wpIn {o : Oper} {a : Act} {next : Act → World → Prop} {Q : Exit → Act → World → Prop} (hQ : Calm Q) (hd : ∀ c, o.op ≠ .defer c) (hN : ∀ a w, next a w → a.defers = []) (ha : a.defers = []) (h : o.wp P a w next Q) :
    o.wpIn (wideR ro) k P { a with defers := ds } w (wiK ds next) (wiQ ds Q) := by
  refine ⟨fun _ _ => trivial, ?_⟩
  have e1 : (wideR ro).round = ro := rfl
  have e2 : ({ a with defers := ds } : Act).eval = a.eval := rfl
  rw [e1, Oper.semAt_eq ro _ _ hd, e2]
  unfold Oper.wp at h
  revert h
  generalize (execOp a.eval o).run P w = r
  intro h
  cases r with
  | ok x w' =>
    cases x with
    | value v => exact wiK_put ha h
    | skip => exact wiK_put ha h
    | «defer» d =>
      simp only [Oper.upon] at h
      have := hN _ _ h
      rw [put_defers] at this
      cases this
    | enter f args =>
      refine ⟨fun hh => (by cases hh), callsR ((show Calls P f args w' _ from h).mono ?_)⟩
      intro e w'' he
      cases e with
      | returned v => exact wiK_put ha he
      | panicked c => exact (hQ.panic _ _ _ he).elim
      | outgrown => obtain ⟨a0, w0, h0⟩ := he; exact (hQ.outgrown _ _ h0).elim
    | row row args =>
      refine ⟨fun hh => (by cases hh), fun c cs hr => ?_⟩
      obtain ⟨v, w'', hv, hs⟩ := (show Rows P row args w' _ from h) c cs
      exact ⟨v, w'', wiK_put ha hv, stepsIn_wide.2 hs⟩
    | _ => exact h.elim
  | halt x w' =>
    cases x with
    | panic v => exact (hQ.panic _ _ _ h).elim
    | _ => exact h.elim
/-- Whoever walks to a calm end has nothing deferred. -/
theorem oper_calm {o : Oper} {a : Act} {next : Act → World → Prop} {Q : Exit → Act → World → Prop} (hQ : Calm Q) (hN : ∀ a w, next a w → a.defers = []) (h : o.wp P a w next Q) : a.defers = [] := by
  unfold Oper.wp at h
  revert h
  generalize (execOp a.eval o).run P w = r
  intro h
  cases r with
  | ok x w' =>
    cases x with
    | value v => exact (put_defers _ _ _).symm.trans (hN _ _ h)
    | skip => exact (put_defers _ _ _).symm.trans (hN _ _ h)
    | «defer» d =>
      simp only [Oper.upon] at h
      have := hN _ _ h
      rw [put_defers] at this
      cases this
    | enter f args =>
      obtain ⟨e, w'', fr, he, -⟩ := (show Calls P f args w' _ from h) []
      cases e with
      | returned v => exact (put_defers _ _ _).symm.trans (hN _ _ he)
      | panicked c => exact (hQ.panic _ _ _ he).elim
      | outgrown => obtain ⟨a0, w0, h0⟩ := he; exact (hQ.outgrown _ _ h0).elim
    | row row args =>
      obtain ⟨v, w'', hv, hs⟩ := (show Rows P row args w' _ from h) default []
      exact (put_defers _ _ _).symm.trans (hN _ _ hv)
    | _ => exact h.elim
  | halt x w' =>
    cases x with
    | panic v => exact (hQ.panic _ _ _ h).elim
    | _ => exact h.elim
variable {ops : Array Oper} {Q : Exit → Act → World → Prop}
theorem list_calm (hQ : Calm Q) : ∀ (r : List Oper) (a : Act) (w : World), wpList P ops Q r a w → a.defers = []
  | [], a, w, h => hQ.normal _ _ h
  | o :: r, a, w, h => by
    unfold wpList at h
    split at h
    · rcases h with h | ⟨_, a0, w0, h0⟩
      · exact oper_calm hQ (list_calm hQ r) h
      · exact (hQ.outgrown _ _ h0).elim
    · exact (put_defers _ _ _).symm.trans (list_calm hQ r _ _ h)
theorem list_in (hQ : Calm Q) : ∀ (r : List Oper) (a : Act) (w : World), undefer r = true → wpList P ops Q r a w → wpListIn (wideR ro) k P ops (wiQ ds Q) r { a with defers := ds } w
  | [], a, w, _, h => ⟨rfl, by rw [act_eta (hQ.normal _ _ h)]; exact h⟩
  | o :: r, a, w, hd, h => by
    have ha := list_calm hQ _ _ _ h
    have hd1 : ∀ c, o.op ≠ .defer c := undefer_of hd (by simp)
    have hd2 : undefer r = true := by
      simp only [undefer, List.all_cons, Bool.and_eq_true] at hd
      exact hd.2
    unfold wpList at h
    unfold wpListIn
    split at h
    · rename_i hw
      rw [if_pos (show Region.wanted o (yielded ops ({ a with defers := ds } : Act).tmps) = true from hw)]
      rcases h with h | ⟨_, a0, w0, h0⟩
      · refine Oper.wpIn_mono ?_ (oper_wpIn hQ hd1 (list_calm hQ r) ha h)
        rintro a1 w1 ⟨e1, h1⟩
        have := list_in hQ r _ w1 hd2 h1
        have e : ({ ({ a1 with defers := [] } : Act) with defers := ds } : Act) = a1 := by cases a1; simp_all
        rw [e] at this
        exact this
      · exact (hQ.outgrown _ _ h0).elim
    · rename_i hw
      rw [if_neg (show ¬ Region.wanted o (yielded ops ({ a with defers := ds } : Act).tmps) = true from hw)]
      refine ⟨fun _ _ => trivial, ?_⟩
      rw [act_put]
      exact list_in hQ r _ w hd2 h
variable {md : Region.Mode}
theorem op_calm (hQ : Calm Q) {i : Nat} {K : Act → World → Prop} {a : Act} (hN : ∀ a w, K a w → a.defers = []) (h : wpOp P ops Q i K a w) : a.defers = [] := by
  unfold wpOp at h
  split at h
  · exact hN _ _ h
  · split at h
    · rcases h with h | ⟨_, a0, w0, h0⟩
      · exact oper_calm hQ hN h
      · exact (hQ.outgrown _ _ h0).elim
    · exact (put_defers _ _ _).symm.trans (hN _ _ h)
theorem any_calm (hQ : Calm Q) : ∀ (fuel : Nat) (listed : Array Bool) (a : Act) (w : World), wpAny P md ops Q fuel listed a w → a.defers = []
  | 0, listed, a, w, h => hQ.normal _ _ h.2
  | fuel + 1, listed, a, w, h => by
    obtain ⟨h1, h2⟩ := h
    cases hr : Region.ready md ops listed with
    | nil => exact hQ.normal _ _ (h1 hr)
    | cons i r => exact op_calm hQ (any_calm hQ fuel _) (h2 i (by rw [hr]; simp))
theorem any_in (hQ : Calm Q) (hd : undefer ops.toList = true) : ∀ (fuel : Nat) (listed : Array Bool) (a : Act) (w : World), wpAny P md ops Q fuel listed a w → wpAnyIn (wideR ro) k P md ops (wiQ ds Q) fuel listed { a with defers := ds } w
  | 0, listed, a, w, h => ⟨h.1, rfl, by rw [act_eta (hQ.normal _ _ h.2)]; exact h.2⟩
  | fuel + 1, listed, a, w, h => by
    have ha := any_calm hQ _ _ _ _ h
    refine ⟨fun hr => ⟨rfl, by rw [act_eta ha]; exact h.1 hr⟩, fun i hi => ?_⟩
    have h2 := h.2 i hi
    have step : ∀ a1 w1, wiK ds (wpAny P md ops Q fuel (listed.setIfInBounds i true)) a1 w1 → wpAnyIn (wideR ro) k P md ops (wiQ ds Q) fuel (listed.setIfInBounds i true) a1 w1 := by
      rintro a1 w1 ⟨e1, h1⟩
      have := any_in hQ hd fuel _ _ w1 h1
      have e : ({ ({ a1 with defers := [] } : Act) with defers := ds } : Act) = a1 := by cases a1; simp_all
      rw [e] at this
      exact this
    unfold wpOp at h2
    unfold wpOpIn
    split at h2
    · rename_i hn
      simp only [hn]
      exact step _ _ ⟨rfl, by rw [act_eta ha]; exact h2⟩
    · rename_i o ho
      simp only [ho]
      have hd1 : ∀ c, o.op ≠ .defer c := undefer_of hd (by
        obtain ⟨hlt, he⟩ := Array.getElem?_eq_some_iff.1 ho
        rw [← he]
        simp)
      split at h2
      · rename_i hw
        rw [if_pos (show Region.wanted o (yielded ops ({ a with defers := ds } : Act).tmps) = true from hw)]
        rcases h2 with h2 | ⟨_, a0, w0, h0⟩
        · exact Oper.wpIn_mono step (oper_wpIn hQ hd1 (any_calm hQ fuel _) ha h2)
        · exact (hQ.outgrown _ _ h0).elim
      · rename_i hw
        rw [if_neg (show ¬ Region.wanted o (yielded ops ({ a with defers := ds } : Act).tmps) = true from hw)]
        refine ⟨fun _ _ => trivial, step _ _ ?_⟩
        exact wiK_put ha h2
end
/-! ## Walks -/
def col (d : Nat) : Deferred := { target := .collected d, args := #[] }
def dfr (d : Nat) : Res := .dat [d] (fun w => w.heap[d]? = some (.deferred (some []))) (fun _ _ hk h => (hk d (by simp)).trans h)
structure FrD (D : List Nat) (n : Nat) (a : Act) (F : Fr) : Prop where
  defers : a.defers = D.map col
  ok : FrOK n { a with defers := [] } F
theorem FrD.of {D : List Nat} {n : Nat} {a : Act} {F : Fr} (h : FrOK n a F) : FrD D n { a with defers := D.map col } F := ⟨rfl, by
  have e : ({ ({ a with defers := D.map col } : Act) with defers := [] } : Act) = a := act_eta h.defers
  rw [e]
  exact h⟩
def liftF (M : List Nat) (W : World) (n : Nat) (Q : Exit → List Nat → Fr → List Res → Prop) : Exit → Act → World → Prop
  | .panic _, _, _ => False
  | .outgrown, _, _ => False
  | e, a, w => ∃ D F L, FrD D n a F ∧ St M W L w ∧ Q e D F L
def CVF (P : Program) (ro : Option Nat) (M : List Nat) (W : World) (n : Nat) (c : Code) (D : List Nat) (F : Fr) (L : List Res) (Q : Exit → List Nat → Fr → List Res → Prop) : Prop :=
  ∀ a w, FrD D n a F → St M W L w → c.wpIn (wideR ro) 0 P (liftF M W n Q) a w
def thenF (K : List Nat → Fr → List Res → Prop) (Q : Exit → List Nat → Fr → List Res → Prop) : Exit → List Nat → Fr → List Res → Prop
  | .normal, D, F, L => K D F L
  | e, D, F, L => Q e D F L
def blockF (id : Nat) (Q : Exit → List Nat → Fr → List Res → Prop) : Exit → List Nat → Fr → List Res → Prop
  | .exit id', D, F, L => if id' = id then Q .normal D F L else Q (.exit id') D F L
  | e, D, F, L => Q e D F L
section
variable {P : Program} {ro : Option Nat} {M : List Nat} {W : World} {n : Nat} {D : List Nat} {F : Fr} {L : List Res} {Q Q' : Exit → List Nat → Fr → List Res → Prop} {K : List Nat → Fr → List Res → Prop}
theorem CVF.mono {c : Code} (h : CVF P ro M W n c D F L Q) (hq : ∀ e D F' L', Q e D F' L' → Q' e D F' L') : CVF P ro M W n c D F L Q' := fun a w ha hw =>
  wpIn_mono (h a w ha hw) (by
    intro e a' w' hh
    cases e <;> first
      | exact hh
      | (obtain ⟨D', F', L', h1, h2, h3⟩ := hh; exact ⟨D', F', L', h1, h2, hq _ _ _ _ h3⟩))
theorem cvf_gen {c : Code} (h : ∀ G : Fr, G = F → CVF P ro M W n c D G L Q) : CVF P ro M W n c D F L Q := h F rfl
theorem cvf_seq {x y : Code} (h : CVF P ro M W n x D F L (thenF (fun D' F' L' => CVF P ro M W n y D' F' L' Q) Q)) : CVF P ro M W n (.seq x y) D F L Q := fun a w ha hw =>
  wpIn_seq (wpIn_mono (h a w ha hw) (by
    intro e a' w' hh
    cases e <;> first
      | exact hh
      | (obtain ⟨D', F', L', h1, h2, h3⟩ := hh; exact h3 _ _ h1 h2)))
theorem cvf_seq_k {x y : Code} (h : ∀ K : List Nat → Fr → List Res → Prop, (∀ D' F' L', CVF P ro M W n y D' F' L' Q → K D' F' L') → CVF P ro M W n x D F L (thenF K Q)) : CVF P ro M W n (.seq x y) D F L Q := cvf_seq (h _ fun _ _ _ h => h)
theorem cvf_cut {c : Code} (X : Fr → Fr → Prop) (R : Fr → List Res → Prop) (h : CVF P ro M W n c D F L (thenF (fun D' F' L' => D' = D ∧ X F F' ∧ R F' L') Q)) (hk : ∀ F' L', X F F' → R F' L' → K D F' L') : CVF P ro M W n c D F L (thenF K Q) :=
  h.mono fun e D' F' L' hh => by
    cases e <;> first
      | exact hh
      | (obtain ⟨rfl, h1, h2⟩ := hh; exact hk _ _ h1 h2)
theorem cvf_skip (h : Q .normal D F L) : CVF P ro M W n .skip D F L Q := fun a w ha hw => wpIn_skip ⟨D, F, L, ha, hw, h⟩
theorem cvf_ret (h : Q .ret D F L) : CVF P ro M W n .ret D F L Q := fun a w ha hw => wpIn_ret ⟨D, F, L, ha, hw, h⟩
theorem cvf_exit {id : Nat} (h : Q (.exit id) D F L) : CVF P ro M W n (.exit id) D F L Q := fun a w ha hw => wpIn_exit ⟨D, F, L, ha, hw, h⟩
theorem cvf_block {id : Nat} {c : Code} (h : CVF P ro M W n c D F L (blockF id Q)) : CVF P ro M W n (.block id c) D F L Q := fun a w ha hw =>
  wpIn_block (wpIn_mono (h a w ha hw) (by
    intro e a' w' hh
    cases e with
    | exit id' =>
      obtain ⟨D', F', L', h1, h2, h3⟩ := hh
      simp only [blockF] at h3
      simp only [Exit.inBlock]
      split
      · rename_i he; rw [if_pos he] at h3; exact ⟨D', F', L', h1, h2, h3⟩
      · rename_i he; rw [if_neg he] at h3; exact ⟨D', F', L', h1, h2, h3⟩
    | _ => exact hh))
theorem cvf_cond {c : Operand} {x y : Code} (h : condV (ev F c) (CVF P ro M W n x D F L Q) (CVF P ro M W n y D F L Q)) : CVF P ro M W n (.cond c x y) D F L Q := fun a w ha hw => by
  unfold condV at h
  split at h
  · rename_i t ht
    have he : a.eval c = .bool t := by rw [show a.eval = ev F from ha.ok.eval]; exact ht
    exact wpIn_cond_split he (fun e => h.1 e a w ha hw) (fun e => h.2 e a w ha hw)
  · exact h.elim
theorem cvf_loop {c : Code} (I : Fr → List Res → Prop) (μ : Fr → List Res → Nat) (h₀ : I F L)
    (round : ∀ F' L', I F' L' → CVF P ro M W n c D F' L' (thenF (fun D'' F'' L'' => D'' = D ∧ I F'' L'' ∧ μ F'' L'' < μ F' L') Q)) : CVF P ro M W n (.loop c) D F L Q := fun a w ha hw => by
  intro b k cs hro hb hr
  have key : ∀ m F L a w, μ F L = m → I F L → FrD D n a F → St M W L w →
      ∃ e a' w', liftF M W n Q e a' w' ∧ ArrivesIn (Machine.fenced P (wideR ro)) P (lone (b.atR a (.code c :: .inLoop c :: k)) cs w) b k cs e a' w' := by
    intro m
    induction m using Nat.strongRecOn with
    | _ m ih =>
      intro F L a w hm hI ha hw
      obtain ⟨e, a₁, w₁, hq, harr⟩ := round F L hI a w ha hw b (.inLoop c :: k) cs hro hb hr
      cases e with
      | normal =>
        obtain ⟨D', F', L', h1, h2, rfl, hI₁, hlt⟩ := hq
        obtain ⟨e₂, a₂, w₂, hq₂, harr₂⟩ := ih (μ F' L') (hm ▸ hlt) F' L' a₁ w₁ rfl hI₁ h1 h2
        exact ⟨e₂, a₂, w₂, hq₂, .of_steps (StepsIn.trans harr (.one (fenced_calm (fr := b.atR a₁ (.inLoop c :: k)) hb hr rfl) stepR_inLoop)) harr₂⟩
      | exit id => exact ⟨.exit id, a₁, w₁, hq, .pass (x := .inLoop c) rfl (fun _ _ => .inl (by simp)) harr⟩
      | goto l => exact ⟨.goto l, a₁, w₁, hq, .pass (x := .inLoop c) rfl (fun _ _ => .inl (by simp)) harr⟩
      | ret => exact ⟨.ret, a₁, w₁, hq, .pass (x := .inLoop c) rfl (fun _ _ => .inl (by simp)) harr⟩
      | panic ch => exact hq.elim
      | outgrown => exact hq.elim
  obtain ⟨e, a', w', hq, harr⟩ := key _ F L a w rfl h₀ ha hw
  exact ⟨e, a', w', hq, .of_steps (.one (fenced_calm (fr := b.atR a (.code (.loop c) :: k)) hb hr rfl) stepR_loop) harr⟩
/-- What a region leaves, as the laws of regions want it. -/
def endV (M : List Nat) (W : World) (n : Nat) (K : Fr → List Res → Prop) : Exit → Act → World → Prop
  | .normal, a, w => ∃ F L, FrOK n a F ∧ St M W L w ∧ K F L
  | _, _, _ => False
theorem endV_calm {K : Fr → List Res → Prop} : Calm (endV M W n K) := ⟨fun _ _ _ h => h, fun _ _ h => h, fun _ _ ⟨_, _, h, _⟩ => h.defers⟩
theorem endV_out {K : Fr → List Res → Prop} (hk : ∀ F' L', K F' L' → Q .normal D F' L') : ∀ e a w, wiQ (D.map col) (endV M W n K) e a w → liftF M W n Q e a w := by
  rintro e a w ⟨h1, h2⟩
  cases e <;> first
    | (obtain ⟨F', L', h3, h4, h5⟩ := h2; exact ⟨D, F', L', ⟨h1, h3⟩, h4, hk _ _ h5⟩)
    | exact h2.elim
theorem FrD.eta {a : Act} (h : FrD D n a F) : ({ ({ a with defers := [] } : Act) with defers := D.map col } : Act) = a := by
  have := h.defers
  cases a
  simp_all
theorem cvf_region {id : Nat} {l : List Oper} (hd : l.all (fun o => dstV n o.dst) = true) (hu : undefer l = true) {K : Fr → List Res → Prop} (h : vcn P M W n l true l F L K) (hk : ∀ F' L', K F' L' → Q .normal D F' L') : CVF P ro M W n (.region id l.toArray false) D F L Q := fun a w ha hw => by
  have h1 : wpList P l.toArray (endV M W n K) l { a with defers := [] } w := vcn_sound (ops := l.toArray) (slots_of (by simpa using hd)) l hd (by simpa using h) ha.ok hw fun F' L' a' w' hK h1 h2 => ⟨F', L', h1, h2, hK⟩
  have h2 := list_in (ro := ro) (k := 0) (ds := D.map col) endV_calm l _ _ hu h1
  rw [ha.eta] at h2
  exact wpIn_mono (wpIn_region_list (by simpa using h2)) (endV_out hk)
theorem cvf_region_then {id : Nat} {l : List Oper} (hd : l.all (fun o => dstV n o.dst) = true) (hu : undefer l = true) (h : vcn P M W n l true l F L (K D)) : CVF P ro M W n (.region id l.toArray false) D F L (thenF K Q) := cvf_region hd hu h fun _ _ h => h
theorem cvf_region_q {id : Nat} {l : List Oper} (hd : l.all (fun o => dstV n o.dst) = true) (hu : undefer l = true) (h : vcn P M W n l true l F L (fun F' L' => Q .normal D F' L')) : CVF P ro M W n (.region id l.toArray false) D F L Q := cvf_region hd hu h fun _ _ h => h
theorem cvf_draw_of {id : Nat} {l : List Oper} (L0 : List Res) (hL0 : ∀ w, St M W L w → St M W L0 w) (hsub : Suf L0 L) (p : List (Bool × Nat)) (fin : List Nat) (hm : P.follows .mixedOrders = true) (hd : l.all (fun o => dstV n o.dst) = true) (hs : Region.noSelect l.toArray = true)
    (hp : planOk .any l.toArray fin p (Array.replicate l.toArray.size false) = true) (hz : p.length = l.toArray.size) (hf : finOk fin p = true) (hu : undefer l = true) (h : vcd P M W n l L0 fin true p F L (K D)) : CVF P ro M W n (.region id l.toArray true) D F L (thenF K Q) := fun a w ha hw => by
  have h1 : wpPlan P l.toArray (endV M W n (K D)) (St M W L0) fin p { a with defers := [] } w.drew :=
    vcd_sound (ops := l.toArray) (K := K D) (slots_of (by simpa using hd)) (hL0 w hw).apart p (by simpa using h) ha.ok hw.drew hf (.inr hsub) fun F' L' a' w' hK h1 h2 => ⟨F', L', h1, h2, hK⟩
  have h2 := wpAny_of_need _ _ _ _ (plan_sound hs (Q := endV M W n (K D)) (by intro c d v a w hh; exact hh) p _ _ _ hp h1)
  have h3 := any_in (ro := ro) (k := 0) (ds := D.map col) endV_calm (by simpa using hu) _ _ _ _ h2
  rw [ha.eta] at h3
  rw [hz] at h3
  exact wpIn_mono (wpIn_region_any hm h3) (endV_out fun _ _ h => h)
theorem cvf_draw {id : Nat} {l : List Oper} (p : List (Bool × Nat)) (fin : List Nat) (hm : P.follows .mixedOrders = true) (hd : l.all (fun o => dstV n o.dst) = true) (hs : Region.noSelect l.toArray = true)
    (hp : planOk .any l.toArray fin p (Array.replicate l.toArray.size false) = true) (hz : p.length = l.toArray.size) (hf : finOk fin p = true) (hu : undefer l = true) (h : vcd P M W n l L fin true p F L (K D)) : CVF P ro M W n (.region id l.toArray true) D F L (thenF K Q) :=
  cvf_draw_of L (fun _ h => h) (by rw [suf_refl]; trivial) p fin hm hd hs hp hz hf hu h
theorem cvf_pick (ix : List Nat) (hnd : ix.Nodup) {c : Code} (h : CVF P ro M W n c D F (pickL ix L) Q) : CVF P ro M W n c D F L Q := fun a w ha hw => h a w ha (hw.pick hnd)
theorem cvf_pick_post (ix : List Nat) (hnd : ix.Nodup) {c : Code} (h : CVF P ro M W n c D F L (fun e D' F' L' => Q e D' F' (pickL ix L'))) : CVF P ro M W n c D F L Q := fun a w ha hw =>
  wpIn_mono (h a w ha hw) (by
    intro e a' w' hh
    cases e <;> first
      | exact hh
      | (obtain ⟨D', F', L', h1, h2, h3⟩ := hh; exact ⟨D', F', _, h1, h2.pick hnd, h3⟩))
theorem cvf_q {c : Code} (h : CVF P ro M W n c D F L (thenF (fun D' F' L' => Q .normal D' F' L') Q)) : CVF P ro M W n c D F L Q := h.mono fun e D' F' L' hh => by cases e <;> exact hh
theorem cvf_nil {c : Code} (t : TypeId) (size : Nat) (h : CVF P ro M W n c D F (.row (.slice none 0 0) t size 0 [] :: L) Q) : CVF P ro M W n c D F L Q := fun a w ha hw =>
  h a w ha (hw.add _ (World.ownsRow_nil w 0 t size) (by simp [Res.foot, Value.ownBlock]) (by simp [Res.foot, Value.ownBlock]))
theorem cvf_apart {c : Code} (h : factL W M L → CVF P ro M W n c D F L Q) : CVF P ro M W n c D F L Q := fun a w ha hw => h hw.facts a w ha hw
end
end Go.Proofs.Ytabjbghmldiokaa
