/- A range over a function, and the functions that are ranged over: the engine's rules in a round and around it. -/
import Derived.Test.YtejogdielfgeoaaZ3
import Derived.RangeFuncNested
import Derived.RangeFuncCalls
import Derived.RangeFuncLeaves
import Derived.Shelf.SlIterI.Nil
import Derived.Shelf.SortM.Plain
import Derived.Shelf.SortM.SortNone
import Derived.Test.YtejogdielfgeoaaProg
import Derived.Test.YtejogdielfgeoaaZ4
namespace Go.Proofs.Ytejogdielfgeoaa
open Go.RowKit Go.Shelf
set_option linter.unusedVariables false
set_option linter.unusedSimpArgs false
def wideR (ro : Option Nat) : Fence := { Fence.wide with round := ro }
section
variable {P : Program} {ro : Option Nat} {k : Nat} {f : FuncId} {args : Array Value} {w : World} {R : Ending → World → Prop}
theorem roomR {m : Nat} : (wideR ro).room m := fun d hd => by cases hd
theorem callsR (h : Calls P f args w R) : CallsIn (wideR ro) k P f args w R := by
  have := (callsIn_wide (n := k)).2 h
  exact ⟨trivial, fun cs hr => this.2 cs (room_wide _)⟩
theorem callsR_out (h : CallsIn (wideR ro) k P f args w R) : Calls P f args w R := (callsIn_wide (n := k)).1 ⟨trivial, fun cs hr => h.2 cs roomR⟩
def undefer (l : List Oper) : Bool := l.all fun o => match o.op with
  | .defer _ => false
  | _ => true
theorem undefer_of {l : List Oper} (h : undefer l = true) {o : Oper} (ho : o ∈ l) : ∀ c, o.op ≠ .defer c := fun c e => by
  have := List.all_eq_true.1 h o ho
  rw [e] at this
  cases this
variable {ds : List Deferred}
theorem act_put (a : Act) (d : Option Tmp) (v : Value) : ({ a with defers := ds } : Act).put d v = { a.put d v with defers := ds } := by cases d <;> rfl
theorem put_defers (a : Act) (d : Option Tmp) (v : Value) : (a.put d v).defers = a.defers := by cases d <;> rfl
theorem act_eta {a : Act} (h : a.defers = []) : ({ a with defers := [] } : Act) = a := by cases a; simp_all
def wiK (ds : List Deferred) (K : Act → World → Prop) : Act → World → Prop := fun a w => a.defers = ds ∧ K { a with defers := [] } w
def wiQ (ds : List Deferred) (Q : Exit → Act → World → Prop) : Exit → Act → World → Prop := fun e a w => a.defers = ds ∧ Q e { a with defers := [] } w
/-- No panic, no outgrowing; a normal end has nothing deferred. -/
structure Calm (Q : Exit → Act → World → Prop) : Prop where
  panic : ∀ c a w, ¬ Q (.panic c) a w
  outgrown : ∀ a w, ¬ Q .outgrown a w
  normal : ∀ a w, Q .normal a w → a.defers = []
theorem wiK_put {a : Act} {d : Option Tmp} {v : Value} {K : Act → World → Prop} (ha : a.defers = []) (hh : K (a.put d v) w) : wiK ds K (({ a with defers := ds } : Act).put d v) w := by
  refine ⟨by rw [put_defers], ?_⟩
  rw [act_put]
  have e : ({ (a.put d v) with defers := [] } : Act) = a.put d v := act_eta (by rw [put_defers]; exact ha)
  show K { (a.put d v) with defers := [] } w
  rw [e]
  exact hh
theorem oper_wpIn {o : Oper} {a : Act} {next : Act → World → Prop} {Q : Exit → Act → World → Prop} (hQ : Calm Q) (hd : ∀ c, o.op ≠ .defer c) (hN : ∀ a w, next a w → a.defers = []) (ha : a.defers = []) (h : o.wp P a w next Q) :
    o.wpIn (wideR ro) k P { a with defers := ds } w (wiK ds next) (wiQ ds Q) := by
  refine ⟨fun _ _ => trivial, ?_⟩
  have e1 : (wideR ro).round = ro := rfl
  have e2 : ({ a with defers := ds } : Act).eval = a.eval := rfl
  rw [e1, Oper.semAt_eq ro _ _ hd, e2]
  unfold Oper.wp at h
  revert h
  generalize (execOp a.eval o).run P w = r
  intro h
  cases r with
  | ok x w' =>
    cases x with
    | value v => exact wiK_put ha h
    | skip => exact wiK_put ha h
    | «defer» d =>
      simp only [Oper.upon] at h
      have := hN _ _ h
      rw [put_defers] at this
      cases this
    | enter f args =>
      refine ⟨fun hh => (by cases hh), callsR ((show Calls P f args w' _ from h).mono ?_)⟩
      intro e w'' he
      cases e with
      | returned v => exact wiK_put ha he
      | panicked c => exact (hQ.panic _ _ _ he).elim
      | outgrown => obtain ⟨a0, w0, h0⟩ := he; exact (hQ.outgrown _ _ h0).elim
    | row row args =>
      refine ⟨fun hh => (by cases hh), fun c cs hr => ?_⟩
      obtain ⟨v, w'', hv, hs⟩ := (show Rows P row args w' _ from h) c cs
      exact ⟨v, w'', wiK_put ha hv, stepsIn_wide.2 hs⟩
    | _ => exact h.elim
  | halt x w' =>
    cases x with
    | panic v => exact (hQ.panic _ _ _ h).elim
    | _ => exact h.elim
/-- Whoever walks to a calm end has nothing deferred. -/
theorem oper_calm {o : Oper} {a : Act} {next : Act → World → Prop} {Q : Exit → Act → World → Prop} (hQ : Calm Q) (hN : ∀ a w, next a w → a.defers = []) (h : o.wp P a w next Q) : a.defers = [] := by
  unfold Oper.wp at h
  revert h
  generalize (execOp a.eval o).run P w = r
  intro h
  cases r with
  | ok x w' =>
    cases x with
    | value v => exact (put_defers _ _ _).symm.trans (hN _ _ h)
    | skip => exact (put_defers _ _ _).symm.trans (hN _ _ h)
    | «defer» d =>
      simp only [Oper.upon] at h
      have := hN _ _ h
      rw [put_defers] at this
      cases this
    | enter f args =>
      obtain ⟨e, w'', fr, he, -⟩ := (show Calls P f args w' _ from h) []
      cases e with
      | returned v => exact (put_defers _ _ _).symm.trans (hN _ _ he)
      | panicked c => exact (hQ.panic _ _ _ he).elim
      | outgrown => obtain ⟨a0, w0, h0⟩ := he; exact (hQ.outgrown _ _ h0).elim
    | row row args =>
      obtain ⟨v, w'', hv, hs⟩ := (show Rows P row args w' _ from h) default []
      exact (put_defers _ _ _).symm.trans (hN _ _ hv)
    | _ => exact h.elim
  | halt x w' =>
    cases x with
    | panic v => exact (hQ.panic _ _ _ h).elim
    | _ => exact h.elim
variable {ops : Array Oper} {Q : Exit → Act → World → Prop}
theorem list_calm (hQ : Calm Q) : ∀ (r : List Oper) (a : Act) (w : World), wpList P ops Q r a w → a.defers = []
  | [], a, w, h => hQ.normal _ _ h
  | o :: r, a, w, h => by
    unfold wpList at h
    split at h
    · rcases h with h | ⟨_, a0, w0, h0⟩
      · exact oper_calm hQ (list_calm hQ r) h
      · exact (hQ.outgrown _ _ h0).elim
    · exact (put_defers _ _ _).symm.trans (list_calm hQ r _ _ h)
theorem list_in (hQ : Calm Q) : ∀ (r : List Oper) (a : Act) (w : World), undefer r = true → wpList P ops Q r a w → wpListIn (wideR ro) k P ops (wiQ ds Q) r { a with defers := ds } w
  | [], a, w, _, h => ⟨rfl, by rw [act_eta (hQ.normal _ _ h)]; exact h⟩
  | o :: r, a, w, hd, h => by
    have ha := list_calm hQ _ _ _ h
    have hd1 : ∀ c, o.op ≠ .defer c := undefer_of hd (by simp)
    have hd2 : undefer r = true := by
      simp only [undefer, List.all_cons, Bool.and_eq_true] at hd
      exact hd.2
    unfold wpList at h
    unfold wpListIn
    split at h
    · rename_i hw
      rw [if_pos (show Region.wanted o (yielded ops ({ a with defers := ds } : Act).tmps) = true from hw)]
      rcases h with h | ⟨_, a0, w0, h0⟩
      · refine Oper.wpIn_mono ?_ (oper_wpIn hQ hd1 (list_calm hQ r) ha h)
        rintro a1 w1 ⟨e1, h1⟩
        have := list_in hQ r _ w1 hd2 h1
        have e : ({ ({ a1 with defers := [] } : Act) with defers := ds } : Act) = a1 := by cases a1; simp_all
        rw [e] at this
        exact this
      · exact (hQ.outgrown _ _ h0).elim
    · rename_i hw
      rw [if_neg (show ¬ Region.wanted o (yielded ops ({ a with defers := ds } : Act).tmps) = true from hw)]
      refine ⟨fun _ _ => trivial, ?_⟩
      rw [act_put]
      exact list_in hQ r _ w hd2 h
variable {md : Region.Mode}
theorem op_calm (hQ : Calm Q) {i : Nat} {K : Act → World → Prop} {a : Act} (hN : ∀ a w, K a w → a.defers = []) (h : wpOp P ops Q i K a w) : a.defers = [] := by
  unfold wpOp at h
  split at h
  · exact hN _ _ h
  · split at h
    · rcases h with h | ⟨_, a0, w0, h0⟩
      · exact oper_calm hQ hN h
      · exact (hQ.outgrown _ _ h0).elim
    · exact (put_defers _ _ _).symm.trans (hN _ _ h)
theorem any_calm (hQ : Calm Q) : ∀ (fuel : Nat) (listed : Array Bool) (a : Act) (w : World), wpAny P md ops Q fuel listed a w → a.defers = []
  | 0, listed, a, w, h => hQ.normal _ _ h.2
  | fuel + 1, listed, a, w, h => by
    obtain ⟨h1, h2⟩ := h
    cases hr : Region.ready md ops listed with
    | nil => exact hQ.normal _ _ (h1 hr)
    | cons i r => exact op_calm hQ (any_calm hQ fuel _) (h2 i (by rw [hr]; simp))
theorem any_in (hQ : Calm Q) (hd : undefer ops.toList = true) : ∀ (fuel : Nat) (listed : Array Bool) (a : Act) (w : World), wpAny P md ops Q fuel listed a w → wpAnyIn (wideR ro) k P md ops (wiQ ds Q) fuel listed { a with defers := ds } w
  | 0, listed, a, w, h => ⟨h.1, rfl, by rw [act_eta (hQ.normal _ _ h.2)]; exact h.2⟩
  | fuel + 1, listed, a, w, h => by
    have ha := any_calm hQ _ _ _ _ h
    refine ⟨fun hr => ⟨rfl, by rw [act_eta ha]; exact h.1 hr⟩, fun i hi => ?_⟩
    have h2 := h.2 i hi
    have step : ∀ a1 w1, wiK ds (wpAny P md ops Q fuel (listed.setIfInBounds i true)) a1 w1 → wpAnyIn (wideR ro) k P md ops (wiQ ds Q) fuel (listed.setIfInBounds i true) a1 w1 := by
      rintro a1 w1 ⟨e1, h1⟩
      have := any_in hQ hd fuel _ _ w1 h1
      have e : ({ ({ a1 with defers := [] } : Act) with defers := ds } : Act) = a1 := by cases a1; simp_all
      rw [e] at this
      exact this
    unfold wpOp at h2
    unfold wpOpIn
    split at h2
    · rename_i hn
      simp only [hn]
      exact step _ _ ⟨rfl, by rw [act_eta ha]; exact h2⟩
    · rename_i o ho
      simp only [ho]
      have hd1 : ∀ c, o.op ≠ .defer c := undefer_of hd (by
        obtain ⟨hlt, he⟩ := Array.getElem?_eq_some_iff.1 ho
        rw [← he]
        simp)
      split at h2
      · rename_i hw
        rw [if_pos (show Region.wanted o (yielded ops ({ a with defers := ds } : Act).tmps) = true from hw)]
        rcases h2 with h2 | ⟨_, a0, w0, h0⟩
        · exact Oper.wpIn_mono step (oper_wpIn hQ hd1 (any_calm hQ fuel _) ha h2)
        · exact (hQ.outgrown _ _ h0).elim
      · rename_i hw
        rw [if_neg (show ¬ Region.wanted o (yielded ops ({ a with defers := ds } : Act).tmps) = true from hw)]
        refine ⟨fun _ _ => trivial, step _ _ ?_⟩
        exact wiK_put ha h2
end
/-! ## Walks -/
def col (d : Nat) : Deferred := { target := .collected d, args := #[] }
def dfr (d : Nat) : Res := .dat [d] (fun w => w.heap[d]? = some (.deferred (some []))) (fun _ _ hk h => (hk d (by simp)).trans h)
structure FrD (D : List Nat) (n : Nat) (a : Act) (F : Fr) : Prop where
  defers : a.defers = D.map col
  ok : FrOK n { a with defers := [] } F
theorem FrD.of {D : List Nat} {n : Nat} {a : Act} {F : Fr} (h : FrOK n a F) : FrD D n { a with defers := D.map col } F := ⟨rfl, by
  have e : ({ ({ a with defers := D.map col } : Act) with defers := [] } : Act) = a := act_eta h.defers
  rw [e]
  exact h⟩
def liftF (M : List Nat) (W : World) (n : Nat) (Q : Exit → List Nat → Fr → List Res → Prop) : Exit → Act → World → Prop
  | .panic _, _, _ => False
  | .outgrown, _, _ => False
  | e, a, w => ∃ D F L, FrD D n a F ∧ St M W L w ∧ Q e D F L
def CVF (P : Program) (ro : Option Nat) (M : List Nat) (W : World) (n : Nat) (c : Code) (D : List Nat) (F : Fr) (L : List Res) (Q : Exit → List Nat → Fr → List Res → Prop) : Prop :=
  ∀ a w, FrD D n a F → St M W L w → c.wpIn (wideR ro) 0 P (liftF M W n Q) a w
def thenF (K : List Nat → Fr → List Res → Prop) (Q : Exit → List Nat → Fr → List Res → Prop) : Exit → List Nat → Fr → List Res → Prop
  | .normal, D, F, L => K D F L
  | e, D, F, L => Q e D F L
def blockF (id : Nat) (Q : Exit → List Nat → Fr → List Res → Prop) : Exit → List Nat → Fr → List Res → Prop
  | .exit id', D, F, L => if id' = id then Q .normal D F L else Q (.exit id') D F L
  | e, D, F, L => Q e D F L
section
variable {P : Program} {ro : Option Nat} {M : List Nat} {W : World} {n : Nat} {D : List Nat} {F : Fr} {L : List Res} {Q Q' : Exit → List Nat → Fr → List Res → Prop} {K : List Nat → Fr → List Res → Prop}
theorem CVF.mono {c : Code} (h : CVF P ro M W n c D F L Q) (hq : ∀ e D F' L', Q e D F' L' → Q' e D F' L') : CVF P ro M W n c D F L Q' := fun a w ha hw =>
  wpIn_mono (h a w ha hw) (by
    intro e a' w' hh
    cases e <;> first
      | exact hh
      | (obtain ⟨D', F', L', h1, h2, h3⟩ := hh; exact ⟨D', F', L', h1, h2, hq _ _ _ _ h3⟩))
theorem cvf_gen {c : Code} (h : ∀ G : Fr, G = F → CVF P ro M W n c D G L Q) : CVF P ro M W n c D F L Q := h F rfl
theorem cvf_seq {x y : Code} (h : CVF P ro M W n x D F L (thenF (fun D' F' L' => CVF P ro M W n y D' F' L' Q) Q)) : CVF P ro M W n (.seq x y) D F L Q := fun a w ha hw =>
  wpIn_seq (wpIn_mono (h a w ha hw) (by
    intro e a' w' hh
    cases e <;> first
      | exact hh
      | (obtain ⟨D', F', L', h1, h2, h3⟩ := hh; exact h3 _ _ h1 h2)))
theorem cvf_seq_k {x y : Code} (h : ∀ K : List Nat → Fr → List Res → Prop, (∀ D' F' L', CVF P ro M W n y D' F' L' Q → K D' F' L') → CVF P ro M W n x D F L (thenF K Q)) : CVF P ro M W n (.seq x y) D F L Q := cvf_seq (h _ fun _ _ _ h => h)
theorem cvf_cut {c : Code} (X : Fr → Fr → Prop) (R : Fr → List Res → Prop) (h : CVF P ro M W n c D F L (thenF (fun D' F' L' => D' = D ∧ X F F' ∧ R F' L') Q)) (hk : ∀ F' L', X F F' → R F' L' → K D F' L') : CVF P ro M W n c D F L (thenF K Q) :=
  h.mono fun e D' F' L' hh => by
    cases e <;> first
      | exact hh
      | (obtain ⟨rfl, h1, h2⟩ := hh; exact hk _ _ h1 h2)
theorem cvf_skip (h : Q .normal D F L) : CVF P ro M W n .skip D F L Q := fun a w ha hw => wpIn_skip ⟨D, F, L, ha, hw, h⟩
theorem cvf_ret (h : Q .ret D F L) : CVF P ro M W n .ret D F L Q := fun a w ha hw => wpIn_ret ⟨D, F, L, ha, hw, h⟩
theorem cvf_exit {id : Nat} (h : Q (.exit id) D F L) : CVF P ro M W n (.exit id) D F L Q := fun a w ha hw => wpIn_exit ⟨D, F, L, ha, hw, h⟩
theorem cvf_block {id : Nat} {c : Code} (h : CVF P ro M W n c D F L (blockF id Q)) : CVF P ro M W n (.block id c) D F L Q := fun a w ha hw =>
  wpIn_block (wpIn_mono (h a w ha hw) (by
    intro e a' w' hh
    cases e with
    | exit id' =>
      obtain ⟨D', F', L', h1, h2, h3⟩ := hh
      simp only [blockF] at h3
      simp only [Exit.inBlock]
      split
      · rename_i he; rw [if_pos he] at h3; exact ⟨D', F', L', h1, h2, h3⟩
      · rename_i he; rw [if_neg he] at h3; exact ⟨D', F', L', h1, h2, h3⟩
    | _ => exact hh))
theorem cvf_cond {c : Operand} {x y : Code} (h : condV (ev F c) (CVF P ro M W n x D F L Q) (CVF P ro M W n y D F L Q)) : CVF P ro M W n (.cond c x y) D F L Q := fun a w ha hw => by
  unfold condV at h
  split at h
  · rename_i t ht
    have he : a.eval c = .bool t := by rw [show a.eval = ev F from ha.ok.eval]; exact ht
    exact wpIn_cond_split he (fun e => h.1 e a w ha hw) (fun e => h.2 e a w ha hw)
  · exact h.elim
theorem cvf_loop {c : Code} (I : Fr → List Res → Prop) (μ : Fr → List Res → Nat) (h₀ : I F L)
    (round : ∀ F' L', I F' L' → CVF P ro M W n c D F' L' (thenF (fun D'' F'' L'' => D'' = D ∧ I F'' L'' ∧ μ F'' L'' < μ F' L') Q)) : CVF P ro M W n (.loop c) D F L Q := fun a w ha hw => by
  intro b k cs hro hb hr
  have key : ∀ m F L a w, μ F L = m → I F L → FrD D n a F → St M W L w →
      ∃ e a' w', liftF M W n Q e a' w' ∧ ArrivesIn (Machine.fenced P (wideR ro)) P (lone (b.atR a (.code c :: .inLoop c :: k)) cs w) b k cs e a' w' := by
    intro m
    induction m using Nat.strongRecOn with
    | _ m ih =>
      intro F L a w hm hI ha hw
      obtain ⟨e, a₁, w₁, hq, harr⟩ := round F L hI a w ha hw b (.inLoop c :: k) cs hro hb hr
      cases e with
      | normal =>
        obtain ⟨D', F', L', h1, h2, rfl, hI₁, hlt⟩ := hq
        obtain ⟨e₂, a₂, w₂, hq₂, harr₂⟩ := ih (μ F' L') (hm ▸ hlt) F' L' a₁ w₁ rfl hI₁ h1 h2
        exact ⟨e₂, a₂, w₂, hq₂, .of_steps (StepsIn.trans harr (.one (fenced_calm (fr := b.atR a₁ (.inLoop c :: k)) hb hr rfl) stepR_inLoop)) harr₂⟩
      | exit id => exact ⟨.exit id, a₁, w₁, hq, .pass (x := .inLoop c) rfl (fun _ _ => .inl (by simp)) harr⟩
      | goto l => exact ⟨.goto l, a₁, w₁, hq, .pass (x := .inLoop c) rfl (fun _ _ => .inl (by simp)) harr⟩
      | ret => exact ⟨.ret, a₁, w₁, hq, .pass (x := .inLoop c) rfl (fun _ _ => .inl (by simp)) harr⟩
      | panic ch => exact hq.elim
      | outgrown => exact hq.elim
  obtain ⟨e, a', w', hq, harr⟩ := key _ F L a w rfl h₀ ha hw
  exact ⟨e, a', w', hq, .of_steps (.one (fenced_calm (fr := b.atR a (.code (.loop c) :: k)) hb hr rfl) stepR_loop) harr⟩
/-- What a region leaves, as the laws of regions want it. -/
def endV (M : List Nat) (W : World) (n : Nat) (K : Fr → List Res → Prop) : Exit → Act → World → Prop
  | .normal, a, w => ∃ F L, FrOK n a F ∧ St M W L w ∧ K F L
  | _, _, _ => False
theorem endV_calm {K : Fr → List Res → Prop} : Calm (endV M W n K) := ⟨fun _ _ _ h => h, fun _ _ h => h, fun _ _ ⟨_, _, h, _⟩ => h.defers⟩
theorem endV_out {K : Fr → List Res → Prop} (hk : ∀ F' L', K F' L' → Q .normal D F' L') : ∀ e a w, wiQ (D.map col) (endV M W n K) e a w → liftF M W n Q e a w := by
  rintro e a w ⟨h1, h2⟩
  cases e <;> first
    | (obtain ⟨F', L', h3, h4, h5⟩ := h2; exact ⟨D, F', L', ⟨h1, h3⟩, h4, hk _ _ h5⟩)
    | exact h2.elim
theorem FrD.eta {a : Act} (h : FrD D n a F) : ({ ({ a with defers := [] } : Act) with defers := D.map col } : Act) = a := by
  have := h.defers
  cases a
  simp_all
theorem cvf_region {id : Nat} {l : List Oper} (hd : l.all (fun o => dstV n o.dst) = true) (hu : undefer l = true) {K : Fr → List Res → Prop} (h : vcn P M W n l true l F L K) (hk : ∀ F' L', K F' L' → Q .normal D F' L') : CVF P ro M W n (.region id l.toArray false) D F L Q := fun a w ha hw => by
  have h1 : wpList P l.toArray (endV M W n K) l { a with defers := [] } w := vcn_sound (ops := l.toArray) (slots_of (by simpa using hd)) l hd (by simpa using h) ha.ok hw fun F' L' a' w' hK h1 h2 => ⟨F', L', h1, h2, hK⟩
  have h2 := list_in (ro := ro) (k := 0) (ds := D.map col) endV_calm l _ _ hu h1
  rw [ha.eta] at h2
  exact wpIn_mono (wpIn_region_list (by simpa using h2)) (endV_out hk)
theorem cvf_region_then {id : Nat} {l : List Oper} (hd : l.all (fun o => dstV n o.dst) = true) (hu : undefer l = true) (h : vcn P M W n l true l F L (K D)) : CVF P ro M W n (.region id l.toArray false) D F L (thenF K Q) := cvf_region hd hu h fun _ _ h => h
theorem cvf_region_q {id : Nat} {l : List Oper} (hd : l.all (fun o => dstV n o.dst) = true) (hu : undefer l = true) (h : vcn P M W n l true l F L (fun F' L' => Q .normal D F' L')) : CVF P ro M W n (.region id l.toArray false) D F L Q := cvf_region hd hu h fun _ _ h => h
theorem cvf_draw_of {id : Nat} {l : List Oper} (L0 : List Res) (hL0 : ∀ w, St M W L w → St M W L0 w) (hsub : Suf L0 L) (p : List (Bool × Nat)) (fin : List Nat) (hm : P.follows .mixedOrders = true) (hd : l.all (fun o => dstV n o.dst) = true) (hs : Region.noSelect l.toArray = true)
    (hp : planOk .any l.toArray fin p (Array.replicate l.toArray.size false) = true) (hz : p.length = l.toArray.size) (hf : finOk fin p = true) (hu : undefer l = true) (h : vcd P M W n l L0 fin true p F L (K D)) : CVF P ro M W n (.region id l.toArray true) D F L (thenF K Q) := fun a w ha hw => by
  have h1 : wpPlan P l.toArray (endV M W n (K D)) (St M W L0) fin p { a with defers := [] } w.drew :=
    vcd_sound (ops := l.toArray) (K := K D) (slots_of (by simpa using hd)) (hL0 w hw).apart p (by simpa using h) ha.ok hw.drew hf (.inr hsub) fun F' L' a' w' hK h1 h2 => ⟨F', L', h1, h2, hK⟩
  have h2 := wpAny_of_need _ _ _ _ (plan_sound hs (Q := endV M W n (K D)) (by intro c d v a w hh; exact hh) p _ _ _ hp h1)
  have h3 := any_in (ro := ro) (k := 0) (ds := D.map col) endV_calm (by simpa using hu) _ _ _ _ h2
  rw [ha.eta] at h3
  rw [hz] at h3
  exact wpIn_mono (wpIn_region_any hm h3) (endV_out fun _ _ h => h)
theorem cvf_draw {id : Nat} {l : List Oper} (p : List (Bool × Nat)) (fin : List Nat) (hm : P.follows .mixedOrders = true) (hd : l.all (fun o => dstV n o.dst) = true) (hs : Region.noSelect l.toArray = true)
    (hp : planOk .any l.toArray fin p (Array.replicate l.toArray.size false) = true) (hz : p.length = l.toArray.size) (hf : finOk fin p = true) (hu : undefer l = true) (h : vcd P M W n l L fin true p F L (K D)) : CVF P ro M W n (.region id l.toArray true) D F L (thenF K Q) :=
  cvf_draw_of L (fun _ h => h) (by rw [suf_refl]; trivial) p fin hm hd hs hp hz hf hu h
theorem cvf_pick (ix : List Nat) (hnd : ix.Nodup) {c : Code} (h : CVF P ro M W n c D F (pickL ix L) Q) : CVF P ro M W n c D F L Q := fun a w ha hw => h a w ha (hw.pick hnd)
theorem cvf_pick_post (ix : List Nat) (hnd : ix.Nodup) {c : Code} (h : CVF P ro M W n c D F L (fun e D' F' L' => Q e D' F' (pickL ix L'))) : CVF P ro M W n c D F L Q := fun a w ha hw =>
  wpIn_mono (h a w ha hw) (by
    intro e a' w' hh
    cases e <;> first
      | exact hh
      | (obtain ⟨D', F', L', h1, h2, h3⟩ := hh; exact ⟨D', F', _, h1, h2.pick hnd, h3⟩))
theorem cvf_q {c : Code} (h : CVF P ro M W n c D F L (thenF (fun D' F' L' => Q .normal D' F' L') Q)) : CVF P ro M W n c D F L Q := h.mono fun e D' F' L' hh => by cases e <;> exact hh
theorem cvf_nil {c : Code} (t : TypeId) (size : Nat) (h : CVF P ro M W n c D F (.row (.slice none 0 0) t size 0 [] :: L) Q) : CVF P ro M W n c D F L Q := fun a w ha hw =>
  h a w ha (hw.add _ (World.ownsRow_nil w 0 t size) (by simp [Res.foot, Value.ownBlock]) (by simp [Res.foot, Value.ownBlock]))
theorem cvf_apart {c : Code} (h : factL W M L → CVF P ro M W n c D F L Q) : CVF P ro M W n c D F L Q := fun a w ha hw => h hw.facts a w ha hw
end
end Go.Proofs.Ytejogdielfgeoaa
/- A range over a function: the statement, a yield, the end of a function that holds such a range. -/
namespace Go.Proofs.Ytejogdielfgeoaa
open Go.RowKit Go.Shelf
set_option linter.unusedVariables false
set_option linter.unusedSimpArgs false
def ApL (L : List Res) : Prop := L.Pairwise fun r s => ∀ b ∈ r.foot, b ∉ s.foot
def foldR (L : List Res) : Res := .dat (L.flatMap Res.foot) (fun w => ∀ r ∈ L, r.holds w) (fun w w' hk h r hr => r.keep (h r hr) fun b hb => hk b (List.mem_flatMap.2 ⟨r, hr, hb⟩))
def recR (l : Nat) (r : Loop) : Res := .dat [l] (fun w => w.heap[l]? = some (.loop r)) (fun _ _ hk h => (hk l (by simp)).trans h)
section
variable {M : List Nat} {W w : World} {A B L : List Res}
theorem St.apR (h : St M W (A ++ L) w) : ApL L := (List.pairwise_append.1 h.apart).2.1
theorem St.fold (h : St M W (A ++ L) w) : St M W (A ++ [foldR L]) w := by
  obtain ⟨h1, h2, h3⟩ := List.pairwise_append.1 h.apart
  refine ⟨h.pres, fun r hr => ?_, fun r hr b hb => ?_, List.pairwise_append.2 ⟨h1, List.pairwise_singleton _ _, fun r hr s hs b hb hbs => ?_⟩⟩
  · rcases List.mem_append.1 hr with hr | hr
    · exact h.holds r (by simp [hr])
    · obtain rfl : r = foldR L := by simpa using hr
      exact fun s hs => h.holds s (by simp [hs])
  · rcases List.mem_append.1 hr with hr | hr
    · exact h.own r (by simp [hr]) b hb
    · obtain rfl : r = foldR L := by simpa using hr
      obtain ⟨s, hs, hbs⟩ := List.mem_flatMap.1 hb
      exact h.own s (by simp [hs]) b hbs
  · obtain rfl : s = foldR L := by simpa using hs
    obtain ⟨t, ht, hbt⟩ := List.mem_flatMap.1 hbs
    exact h3 r hr t ht b hb hbt
theorem St.unfold (h : St M W (A ++ [foldR L]) w) (ha : ApL L) : St M W (A ++ L) w := by
  obtain ⟨h1, h2, h3⟩ := List.pairwise_append.1 h.apart
  have hm : foldR L ∈ A ++ [foldR L] := by simp
  have hf : ∀ r ∈ L, ∀ b ∈ r.foot, b ∈ (foldR L).foot := fun r hr b hb => List.mem_flatMap.2 ⟨r, hr, hb⟩
  refine ⟨h.pres, fun r hr => ?_, fun r hr b hb => ?_, List.pairwise_append.2 ⟨h1, ha, fun r hr s hs b hb hbs => ?_⟩⟩
  · rcases List.mem_append.1 hr with hr | hr
    · exact h.holds r (by simp [hr])
    · exact h.holds _ hm r hr
  · rcases List.mem_append.1 hr with hr | hr
    · exact h.own r (by simp [hr]) b hb
    · exact h.own _ hm b (hf r hr b hb)
  · exact h3 r hr (foldR L) (by simp) b hb (hf s hs b hbs)
theorem putObj_keeps (w : World) (d : Nat) (o : Obj) : (w.putObj d o).os = w.os ∧ (w.putObj d o).tape = w.tape ∧ (w.putObj d o).output = w.output ∧ (w.putObj d o).heap.size = w.heap.size := ⟨rfl, rfl, rfl, by simp [World.putObj]⟩
/-- A block of ours that holds no cells is written. -/
theorem St.putD {d : Nat} {p p' : World → Prop} {loc loc'} {o : Obj} (h : St M W (A ++ .dat [d] p loc :: B) w) (hp : p' (w.putObj d o)) : St M W (A ++ .dat [d] p' loc' :: B) (w.putObj d o) := by
  obtain ⟨k1, k2, k3, k4⟩ := putObj_keeps w d o
  have hm : Res.dat [d] p loc ∈ A ++ .dat [d] p loc :: B := by simp
  have hd := h.own _ hm d (by simp [Res.foot])
  obtain ⟨a1, a2, a3⟩ := List.pairwise_append.1 h.apart
  obtain ⟨a4, a5⟩ := List.pairwise_cons.1 a2
  have hA : ∀ r ∈ A, d ∉ r.foot := fun r hr hb => a3 r hr (.dat [d] p loc) (by simp) d hb (by simp [Res.foot])
  have hB : ∀ r ∈ B, d ∉ r.foot := fun r hr hb => a4 r hr d (by simp [Res.foot]) hb
  have hk : ∀ r : Res, d ∉ r.foot → r.holds w → r.holds (w.putObj d o) := fun r hr hh => r.keep hh fun b hb => World.putObj_heap_other (fun e => hr (e ▸ hb))
  refine ⟨⟨k1.trans h.pres.os, k2.trans h.pres.tape, k3.trans h.pres.output, by rw [k4]; exact h.pres.size, fun j hj hjM => ?_⟩, fun r hr => ?_, fun r hr b hb => ?_, List.pairwise_append.2 ⟨a1, List.pairwise_cons.2 ⟨fun s hs => a4 s hs, a5⟩, fun r hr s hs => ?_⟩⟩
  · refine (World.putObj_heap_other (fun e => ?_)).trans (h.pres.block j hj hjM)
    subst e
    rcases hd.1 with h1 | h1
    · omega
    · exact hjM h1
  · rcases List.mem_append.1 hr with hr | hr
    · exact hk r (hA r hr) (h.holds r (by simp [hr]))
    · rcases List.mem_cons.1 hr with rfl | hr
      · exact hp
      · exact hk r (hB r hr) (h.holds r (by simp [hr]))
  · rw [k4]
    rcases List.mem_append.1 hr with hr | hr
    · exact h.own r (by simp [hr]) b hb
    · rcases List.mem_cons.1 hr with rfl | hr
      · exact h.own _ hm b hb
      · exact h.own r (by simp [hr]) b hb
  · rcases List.mem_cons.1 hs with rfl | hs
    · exact fun b hb => a3 r hr (.dat [d] p loc) (by simp) b hb
    · exact a3 r hr s (by simp [hs])
theorem St.addD {o : Obj} {p : World → Prop} {loc} (h : St M W L w) (hp : p (w.alloc o)) : St M W (.dat [w.heap.size] p loc :: L) (w.alloc o) :=
  (h.allocs o).add _ hp (fun b hb => by
    obtain rfl : b = w.heap.size := by simpa [Res.foot] using hb
    exact ⟨.inl h.pres.size, by simp⟩) (fun s hs b hb hbs => by
    obtain rfl : b = w.heap.size := by simpa [Res.foot] using hb
    have := (h.own s hs _ hbs).2
    omega)
end
/-! ## A yield -/
section
variable {P : Program} {ro : Option Nat} {M : List Nat} {W : World} {n : Nat} {D : List Nat} {F : Fr} {L : List Res} {Q : Exit → List Nat → Fr → List Res → Prop} {K : List Nat → Fr → List Res → Prop}
def YV (P : Program) (M : List Nat) (W : World) (l : Nat) (args : Array Value) (L : List Res) (K : Value → List Res → Prop) : Prop :=
  ∀ w, St M W L w → YieldAt (wideR none) 0 P l args w fun e w' => ∃ v L', e = .returned v ∧ St M W L' w' ∧ K v L'
theorem YV.mono {l : Nat} {args : Array Value} {K K' : Value → List Res → Prop} (h : YV P M W l args L K) (hk : ∀ v L', K v L' → K' v L') : YV P M W l args L K' := fun w hw => by
  obtain ⟨fn, tmps, assign, body, h1, h2⟩ := h w hw
  refine ⟨fn, tmps, assign, body, h1, h2.mono ?_⟩
  rintro e w' ⟨v, L', a1, a2, a3⟩
  exact ⟨v, L', a1, a2, hk _ _ a3⟩
def yOf (F : Fr) (o : Oper) : Option (Nat × Array Value) :=
  match o.op with
  | .call c => (match c.callee with
    | .value f => (match ev F f with
      | .func (.yield l) first cap => some (l, first ++ c.args.map (ev F))
      | _ => none)
    | _ => none)
  | _ => none
theorem operIn_monoQ {X : Fence} {k : Nat} {o : Oper} {a : Act} {w : World} {next : Act → World → Prop} {Q Q' : Exit → Act → World → Prop} (hq : ∀ e a w, Q e a w → Q' e a w) (h : o.wpIn X k P a w next Q) : o.wpIn X k P a w next Q' := by
  refine ⟨h.1, ?_⟩
  have hh := h.2
  revert hh
  generalize (o.semAt X.round a.eval).run P w = r
  intro hh
  cases r with
  | ok x w' =>
    cases x with
    | enter f args => exact ⟨hh.1, CallsIn.mono hh.2 fun e w'' he => by cases e <;> first | exact he | exact hq _ _ _ he | (obtain ⟨a0, w0, h0⟩ := he; exact ⟨a0, w0, hq _ _ _ h0⟩)⟩
    | round l f tmps assign body => exact ⟨hh.1, RoundIn.mono hh.2 fun e w'' he => by cases e <;> first | exact he | exact hq _ _ _ he | (obtain ⟨a0, w0, h0⟩ := he; exact ⟨a0, w0, hq _ _ _ h0⟩)⟩
    | _ => exact hh
  | halt x w' =>
    cases x with
    | panic v => exact hq _ _ _ hh
    | _ => exact hh
theorem listIn_monoQ {ops : Array Oper} {X : Fence} {k : Nat} {Q Q' : Exit → Act → World → Prop} (hq : ∀ e a w, Q e a w → Q' e a w) : ∀ (r : List Oper) (a : Act) (w : World), wpListIn X k P ops Q r a w → wpListIn X k P ops Q' r a w
  | [], a, w, h => hq _ _ _ h
  | o :: r, a, w, h => by
    unfold wpListIn at h ⊢
    split at h
    · rename_i hw
      rw [if_pos hw]
      exact operIn_monoQ hq (Oper.wpIn_mono (listIn_monoQ hq r) h)
    · rename_i hw
      rw [if_neg hw]
      exact ⟨h.1, listIn_monoQ hq r _ _ h.2⟩
theorem listIn_append {ops : Array Oper} {X : Fence} {k : Nat} {Q : Exit → Act → World → Prop} {K : Act → World → Prop} {r2 : List Oper} (hk : ∀ a w, K a w → wpListIn X k P ops Q r2 a w) : ∀ (r1 : List Oper) (a : Act) (w : World),
    wpListIn X k P ops (Exit.then K Q) r1 a w → wpListIn X k P ops Q (r1 ++ r2) a w
  | [], a, w, h => hk _ _ h
  | o :: r1, a, w, h => by
    simp only [List.cons_append]
    unfold wpListIn at h ⊢
    split at h
    · rename_i hw
      rw [if_pos hw]
      have h1 : o.wpIn X k P a w (wpListIn X k P ops (Exit.then K Q) r1) Q := h
      exact Oper.wpIn_mono (listIn_append hk r1) h1
    · rename_i hw
      rw [if_neg hw]
      exact ⟨h.1, listIn_append hk r1 _ _ h.2⟩
theorem yround_any {k k' : Nat} {ro ro' : Option Nat} {l : Nat} {f : FuncId} {tmps : Array Value} {assign body : Code} {w : World} {R : Ending → World → Prop} (h : RoundIn (wideR ro) k P l f tmps assign body w R) : RoundIn (wideR ro') k' P l f tmps assign body w R :=
  ⟨trivial, fun c cs _ => h.2 c cs roomR⟩
theorem yield_in {o : Oper} {a : Act} {w : World} {next : Act → World → Prop} {Q : Exit → Act → World → Prop} {l : Nat} {args : Array Value} {KK : Value → List Res → Prop} (ha : a.eval = ev F) (hy : yOf F o = some (l, args)) (hv : YV P M W l args L KK) (hw : St M W L w)
    (hn : ∀ v L' w', KK v L' → St M W L' w' → next (a.put o.dst v) w') : o.wpIn (wideR ro) 0 P a w next Q := by
  refine ⟨fun _ _ => trivial, ?_⟩
  obtain ⟨dst, op, ty, pos, after, guard⟩ := o
  unfold yOf at hy
  dsimp only at hy
  split at hy
  · rename_i c
    split at hy
    · rename_i f hf
      split at hy
      · rename_i l' first cap hfv
        simp only [Option.some.injEq, Prod.mk.injEq] at hy
        obtain ⟨rfl, rfl⟩ := hy
        obtain ⟨fn, tmps, assign, body, h1, h2⟩ := hv w hw
        rw [show (wideR ro).round = ro from rfl, Oper.semAt_eq ro _ _ (by intro c; simp), ha]
        obtain ⟨callee, cargs, ats⟩ := c
        dsimp only at hf
        subst hf
        simp only [execOp, resolve, hfv, Deferred.ofValue, Sem.run_bind, Sem.run_pure, Result.andThen_ok, invoke, h1, Oper.uponIn_round]
        refine ⟨fun hh => (by cases hh), yround_any (h2.mono ?_)⟩
        rintro e w' ⟨v, L', rfl, hs, hk⟩
        exact hn _ _ _ hk hs
      · cases hy
    · cases hy
  · cases hy
theorem cvf_yield {id : Nat} {l1 l2 : List Oper} {o : Oper} (hd : (l1 ++ o :: l2).all (fun o => dstV n o.dst) = true) (hu : undefer (l1 ++ o :: l2) = true) (hg : o.guard = none)
    (h : vcn P M W n (l1 ++ o :: l2) true l1 F L fun F1 L1 => ∃ ly args, yOf F1 o = some (ly, args) ∧ YV P M W ly args L1 fun v L2 => vcn P M W n (l1 ++ o :: l2) true l2 (updo F1 o.dst v) L2 (K D)) :
    CVF P ro M W n (.region id (l1 ++ o :: l2).toArray false) D F L (thenF K Q) := fun a w ha hw => by
  have hsl := slots_of (n := n) (ops := (l1 ++ o :: l2).toArray) (by simpa using hd)
  have hdo : dstOk n o.dst := dstV_ok (List.all_eq_true.1 hd o (by simp))
  have hd1 : l1.all (fun o => dstV n o.dst) = true := List.all_eq_true.2 fun x hx => List.all_eq_true.1 hd x (by simp [hx])
  have hd2 : l2.all (fun o => dstV n o.dst) = true := List.all_eq_true.2 fun x hx => List.all_eq_true.1 hd x (by simp [hx])
  have hu1 : undefer l1 = true := List.all_eq_true.2 fun x hx => List.all_eq_true.1 hu x (by simp [hx])
  have hu2 : undefer l2 = true := List.all_eq_true.2 fun x hx => List.all_eq_true.1 hu x (by simp [hx])
  refine wpIn_mono (Q := wiQ (D.map col) (endV M W n (K D))) ?_ (endV_out fun _ _ h => h)
  refine wpIn_region_list ?_
  simp only [List.toList_toArray]
  have h1 := vcn_sound (ops := (l1 ++ o :: l2).toArray) (Q := endV M W n fun F1 L1 => ∃ ly args, yOf F1 o = some (ly, args) ∧ YV P M W ly args L1 fun v L2 => vcn P M W n (l1 ++ o :: l2) true l2 (updo F1 o.dst v) L2 (K D)) hsl l1 hd1 (by simpa using h) ha.ok hw fun F' L' a' w' hK h1 h2 => ⟨F', L', h1, h2, hK⟩
  have h2 := list_in (ro := ro) (k := 0) (ds := D.map col) endV_calm l1 _ _ hu1 h1
  rw [ha.eta] at h2
  refine listIn_append (K := fun a1 w1 => wiQ (D.map col) (endV M W n fun F1 L1 => ∃ ly args, yOf F1 o = some (ly, args) ∧ YV P M W ly args L1 fun v L2 => vcn P M W n (l1 ++ o :: l2) true l2 (updo F1 o.dst v) L2 (K D)) .normal a1 w1) ?_ l1 a w ?_
  · rintro a1 w1 ⟨e1, F1, L1, f1, s1, ly, args, hy, hv⟩
    unfold wpListIn
    rw [if_pos (by unfold Region.wanted; rw [hg])]
    refine yield_in (F := F1) f1.eval hy hv s1 ?_
    intro v L2 w2 hK hs
    have f2 := f1.put hdo v
    have h3 := vcn_sound (ops := (l1 ++ o :: l2).toArray) (Q := endV M W n (K D)) hsl l2 hd2 (by simpa using hK) f2 hs fun F' L' a' w' hK h1 h2 => ⟨F', L', h1, h2, hK⟩
    have h4 := list_in (ro := ro) (k := 0) (ds := D.map col) endV_calm l2 _ _ hu2 h3
    have e : ({ (({ a1 with defers := [] } : Act).put o.dst v) with defers := D.map col } : Act) = a1.put o.dst v := by
      rw [act_put]
      cases a1
      cases o.dst <;> simp_all [Act.put]
    rw [e] at h4
    exact h4
  · refine listIn_monoQ ?_ _ _ _ h2
    rintro e a1 w1 hh
    cases e <;> first
      | exact hh
      | exact hh.2.elim
end
/-! ## The statement -/
def setF : Fr → List (Nat × Value) → Fr
  | F, [] => F
  | F, (t, v) :: r => setF (upd F t v) r
theorem FrOK.setF {n : Nat} : ∀ (l : List (Nat × Value)) {tm : Array Value} {F : Fr}, FrOK n { tmps := tm, defers := [] } F → (∀ x ∈ l, x.1 < n) → FrOK n { tmps := l.foldl (fun t (p : Nat × Value) => t.setIfInBounds p.1 p.2) tm, defers := [] } (Go.Proofs.Ytejogdielfgeoaa.setF F l)
  | [], tm, F, h, _ => h
  | (t, v) :: r, tm, F, h, hl => FrOK.setF r (tm := tm.setIfInBounds t v) (F := upd F t v) (h.put (d := some t) (hl (t, v) (by simp)) v) fun x hx => hl x (by simp [hx])
def Iter (P : Program) (M : List Nat) (W : World) {α : Type} (gf : Nat) (lb : Array Value) (encs : α → Array Value) (N : Nat) (S Sp : List α → Prop) (A : List Res) : Prop :=
  ∀ (l : Nat) (I Ix : List α → Res → Prop), (∀ pre R, I pre R → ∃ f p loc, R = .dat f p loc) →
    (∀ pre x X R, pre.length < N → I pre R → YV P M W l (encs x) (X ++ [R]) fun v L' => (v = .bool true ∧ ∃ R', I (pre ++ [x]) R' ∧ L' = X ++ [R']) ∨ (v = .bool false ∧ ∃ R', Ix (pre ++ [x]) R' ∧ L' = X ++ [R'])) →
    ∀ R w, I [] R → St M W (A ++ [R]) w → Calls P gf (#[.func (.yield l) #[] #[]] ++ lb) w fun e w' => (∃ v, e = .returned v) ∧
      ((∃ xs R', S xs ∧ I xs R' ∧ St M W (A ++ [R']) w') ∨ (∃ pre R', Sp pre ∧ Ix pre R' ∧ St M W (A ++ [R']) w'))
section
variable {P : Program} {M : List Nat} {W : World} {n : Nat} {D : List Nat} {F : Fr} {L : List Res} {Q : Exit → List Nat → Fr → List Res → Prop}
def rndQ {α : Type} (I : List α → List Res → Prop) (Ix : Code → List α → List Res → Prop) (pre : List α) (R : Res) : Exit → List Nat → Fr → List Res → Prop
  | .normal, _, _, L => ∃ B, L = B ++ [R] ∧ I pre B
  | .ret, _, _, L => ∃ B, L = B ++ [R] ∧ Ix .ret pre B
  | .exit id, _, _, L => ∃ B, L = B ++ [R] ∧ Ix (.exit id) pre B
  | _, _, _, _ => False
def asgQ {α : Type} (P : Program) (l : Nat) (M : List Nat) (W : World) (n : Nat) (body : Code) (I : List α → List Res → Prop) (Ix : Code → List α → List Res → Prop) (pre : List α) (R : Res) : Exit → List Nat → Fr → List Res → Prop
  | .normal, D, F, L => D = [] ∧ ∃ B, L = B ++ [R] ∧ ∀ R', CVF P (some l) M W n body [] F (B ++ [R']) (rndQ I Ix pre R')
  | _, _, _, _ => False
def jmpQ (Q : Exit → List Nat → Fr → List Res → Prop) (c : Code) (D : List Nat) (F : Fr) (L : List Res) : Prop :=
  match c with
  | .ret => Q .ret D F L
  | .exit id => Q (.exit id) D F L
  | _ => False
theorem cvf_range {α : Type} {g : Operand} {ps : Array Tmp} {assign body : Code} {gf : Nat} {lb : Array Value} {encs : α → Array Value} {N : Nat} {S Sp : List α → Prop} {A : List Res} (B : List Res)
    (hg : ev F g = .func (.func gf) #[] lb) (hgb : hasBody P gf = true) (hit : Iter P M W gf lb encs N S Sp A) (hps : ∀ x, (encs x).size = ps.size) (hpn : ps.toList.all (fun t => Nat.ble (t + 1) n) = true) (hL : L = A ++ B)
    (I : List α → List Res → Prop) (Ix : Code → List α → List Res → Prop) (h0 : I [] B)
    (hbody : ∀ l pre x R B', pre.length < N → I pre B' → CVF P (some l) M W n assign [] (setF F (ps.toList.zip (encs x).toList)) (B' ++ [R]) (asgQ P l M W n body I Ix (pre ++ [x]) R))
    (hdone : ∀ d xs B', S xs → I xs B' → Q .normal (d :: D) F (dfr d :: (A ++ B')))
    (hstop : ∀ d c pre B', Sp pre → Ix c pre B' → jmpQ Q c (d :: D) F (dfr d :: (A ++ B'))) : CVF P none M W n (.rangeFunc g ps assign body) D F L Q := fun a w ha hw => by
  subst hL
  refine wpIn_rangeFunc ?_
  intro fn hfn
  obtain ⟨rcd, hrcd⟩ : ∃ rcd : LoopState → Option Code → Loop, rcd = fun st pe => { state := st, pending := pe, fn, tmps := a.tmps, params := ps, assign, body, defers := w.heap.size } := ⟨_, rfl⟩
  obtain ⟨d, hd⟩ : ∃ d, w.heap.size = d := ⟨_, rfl⟩
  obtain ⟨l, hl⟩ : ∃ l, d + 1 = l := ⟨_, rfl⟩
  obtain ⟨W1, hW1⟩ : ∃ W1, (w.alloc (.deferred (some []))).alloc (.loop (rcd .ready none)) = W1 := ⟨_, rfl⟩
  have hst1 : St M W (A ++ (B ++ [recR l (rcd .ready none), dfr d])) W1 := by
    have q1 : St M W (dfr d :: (A ++ B)) (w.alloc (.deferred (some []))) := by
      rw [← hd]
      exact hw.addD (World.alloc_heap_new w _)
    have q2 : St M W (recR l (rcd .ready none) :: dfr d :: (A ++ B)) W1 := by
      rw [← hW1, ← hl]
      have e : (w.alloc (.deferred (some []))).heap.size = d + 1 := by simp [hd]
      have := q1.addD (o := .loop (rcd .ready none)) (p := fun w => w.heap[d + 1]? = some (.loop (rcd .ready none))) (loc := fun _ _ hk h => (hk (d + 1) (by rw [e]; simp)).trans h) (by
        have := World.alloc_heap_new (w.alloc (.deferred (some []))) (.loop (rcd .ready none))
        rwa [e] at this)
      unfold recR
      simp only [e] at this
      exact this
    refine q2.perm ?_
    rw [← List.append_assoc]
    exact (List.perm_append_comm (l₁ := A ++ B) (l₂ := [recR l (rcd .ready none), dfr d]))
  have hap0 : ApL (B ++ [recR l (rcd .ready none), dfr d]) := hst1.apR
  have key := hit l (fun pre R => ∃ B', I pre B' ∧ ApL (B' ++ [recR l (rcd .ready none), dfr d]) ∧ R = foldR (B' ++ [recR l (rcd .ready none), dfr d]))
    (fun pre R => ∃ c B', Ix c pre B' ∧ ApL (B' ++ [recR l (rcd .done (some c)), dfr d]) ∧ R = foldR (B' ++ [recR l (rcd .done (some c)), dfr d])) (by rintro pre R ⟨B', -, -, rfl⟩; exact ⟨_, _, _, rfl⟩) ?round
    (foldR (B ++ [recR l (rcd .ready none), dfr d])) W1 ⟨B, h0, hap0, rfl⟩ hst1.fold
  case round =>
    rintro pre x X R hlen ⟨B', hI, hap, rfl⟩ w1 hw1
    have hw2 := hw1.unfold hap
    have hr1 : w1.heap[l]? = some (.loop (rcd .ready none)) := hw2.holds (recR l (rcd .ready none)) (by simp)
    have hps' : (encs x).size = (rcd .ready none).params.size := by rw [hrcd]; exact hps x
    have hy := run_yield (P := P) (args := encs x) hr1 hps'
    rw [hrcd] at hy
    dsimp only at hy
    have hperm : (B' ++ (X ++ [recR l (rcd .ready none), dfr d])).Perm (X ++ (B' ++ [recR l (rcd .ready none), dfr d])) := by
      rw [← List.append_assoc, ← List.append_assoc]
      exact (List.perm_append_comm).append_right _
    have hw3 := hw2.perm hperm
    have hapX : ApL (X ++ [recR l (rcd .ready none), dfr d]) := hw3.apR
    have hfr : FrD [] n { tmps := (ps.zip (encs x)).foldl (fun tmps (t, a) => tmps.setIfInBounds t a) a.tmps, defers := [] } (setF F (ps.toList.zip (encs x).toList)) := by
      refine ⟨rfl, ?_⟩
      have := FrOK.setF (ps.toList.zip (encs x).toList) (tm := a.tmps) (F := F) ha.ok fun y hy => by
        have := List.all_eq_true.1 hpn y.1 (List.of_mem_zip hy).1
        exact Nat.le_of_ble_eq_true this
      have e : (ps.zip (encs x)).foldl (fun tmps (t, a) => tmps.setIfInBounds t a) a.tmps = (ps.toList.zip (encs x).toList).foldl (fun t (p : Nat × Value) => t.setIfInBounds p.1 p.2) a.tmps := by
        rw [← Array.toList_zip, Array.foldl_toList]
      rw [e]
      exact this
    refine ⟨fn, _, assign, body, hy, roundIn_of_wpIn hfn (wpIn_mono (hbody l pre x _ B' hlen hI _ w1 hfr hw3.fold) ?_)⟩
    intro e a1 w2 hq
    cases e with
    | normal =>
      obtain ⟨D', F', L', f1, s1, rfl, B2, rfl, hb⟩ := hq
      have s2 := s1.unfold hapX
      have hr2 : w2.heap[l]? = some (.loop (rcd .ready none)) := s2.holds (recR l (rcd .ready none)) (by simp)
      have hlt2 : l < w2.heap.size := (Array.getElem?_eq_some_iff.1 hr2).1
      refine ⟨_, run_beginRound hr2 (by rw [hrcd]), ?_⟩
      have ebusy : ({ rcd .ready none with state := .busy } : Loop) = rcd .busy none := by rw [hrcd]
      rw [ebusy]
      have s3 : St M W (B2 ++ (X ++ [recR l (rcd .busy none), dfr d])) (w2.putObj l (.loop (rcd .busy none))) := by
        have e : B2 ++ (X ++ [recR l (rcd .ready none), dfr d]) = (B2 ++ X) ++ recR l (rcd .ready none) :: [dfr d] := by simp
        rw [e] at s2
        have := s2.putD (o := .loop (rcd .busy none)) (p' := fun w => w.heap[l]? = some (.loop (rcd .busy none))) (loc' := fun _ _ hk h => (hk l (by simp)).trans h) (World.putObj_heap_same hlt2)
        have e2 : B2 ++ (X ++ [recR l (rcd .busy none), dfr d]) = (B2 ++ X) ++ recR l (rcd .busy none) :: [dfr d] := by simp
        rw [e2]
        exact this
      have hapB : ApL (X ++ [recR l (rcd .busy none), dfr d]) := s3.apR
      refine wpIn_mono (hb _ a1 _ f1 s3.fold) ?_
      have fin : ∀ (jump : Option Code) (B3 : List Res) (w3 : World), St M W (B3 ++ [foldR (X ++ [recR l (rcd .busy none), dfr d])]) w3 →
          ∃ w4, (Instr.endRound l jump).run P w3 = .ok (.bool jump.isNone) w4 ∧ St M W (X ++ (B3 ++ [recR l (rcd (if jump.isNone then .ready else .done) jump), dfr d])) w4 := fun jump B3 w3 h3 => by
        have h4 := h3.unfold hapB
        have hr3 : w3.heap[l]? = some (.loop (rcd .busy none)) := h4.holds (recR l (rcd .busy none)) (by simp)
        refine ⟨_, run_endRound jump hr3, ?_⟩
        have ee : ({ rcd .busy none with state := if jump.isNone then .ready else .done, pending := jump } : Loop) = rcd (if jump.isNone then .ready else .done) jump := by rw [hrcd]
        rw [ee]
        have e : B3 ++ (X ++ [recR l (rcd .busy none), dfr d]) = (B3 ++ X) ++ recR l (rcd .busy none) :: [dfr d] := by simp
        rw [e] at h4
        have := h4.putD (o := .loop (rcd (if jump.isNone then .ready else .done) jump)) (p' := fun w => w.heap[l]? = some (.loop (rcd (if jump.isNone then .ready else .done) jump))) (loc' := fun _ _ hk h => (hk l (by simp)).trans h) (World.putObj_heap_same (Array.getElem?_eq_some_iff.1 hr3).1)
        refine this.perm ?_
        rw [← List.append_assoc]
        exact (List.perm_append_comm).append_right _
      rintro e a3 w3 hp
      cases e with
      | normal =>
        obtain ⟨D3, F3, L3, f3, s4, B3, rfl, hi⟩ := hp
        obtain ⟨w4, hr, s5⟩ := fin none B3 w3 s4
        exact ⟨_, _, hr, _, _, rfl, s5.fold, .inl ⟨rfl, _, ⟨B3, hi, s5.apR, rfl⟩, rfl⟩⟩
      | ret =>
        obtain ⟨D3, F3, L3, f3, s4, B3, rfl, hi⟩ := hp
        obtain ⟨w4, hr, s5⟩ := fin (some .ret) B3 w3 s4
        exact ⟨_, _, hr, _, _, rfl, s5.fold, .inr ⟨rfl, _, ⟨_, B3, hi, s5.apR, rfl⟩, rfl⟩⟩
      | exit id =>
        obtain ⟨D3, F3, L3, f3, s4, B3, rfl, hi⟩ := hp
        obtain ⟨w4, hr, s5⟩ := fin (some (.exit id)) B3 w3 s4
        exact ⟨_, _, hr, _, _, rfl, s5.fold, .inr ⟨rfl, _, ⟨_, B3, hi, s5.apR, rfl⟩, rfl⟩⟩
      | goto t => obtain ⟨D3, F3, L3, f3, s4, hh⟩ := hp; exact hh.elim
      | panic c => exact hp.elim
      | outgrown => exact hp.elim
    | ret => obtain ⟨D3, F3, L3, f3, s4, hh⟩ := hq; exact hh.elim
    | exit id => obtain ⟨D3, F3, L3, f3, s4, hh⟩ := hq; exact hh.elim
    | goto t => obtain ⟨D3, F3, L3, f3, s4, hh⟩ := hq; exact hh.elim
    | panic c => exact hq.elim
    | outgrown => exact hq.elim
  have hev : a.eval = ev F := ha.ok.eval
  refine ⟨l, [col d], W1, { target := .fn (.func gf) lb, args := #[.func (.yield l) #[] #[]] }, W1, gf, #[.func (.yield l) #[] #[]] ++ lb, W1, ?_, ?_, ?_, ?_, ?_, ?_⟩
  · rw [← hW1, hrcd, ← hl, ← hd]
    exact run_enterLoop_outer _ _ _ _ _
  · simp only [resolve, hev, hg, rangeCall, Deferred.ofValue]
    simp [go_sem, ev]
  · intro _ _
    exact trivial
  · simp only [invoke, callFunc_enter hgb]
  · intro hh
    cases hh
  · refine callsR ?_
    refine key.mono ?_
    have hfr : FrD (d :: D) n { a with defers := [col d] ++ a.defers } F := ⟨by simp [ha.defers], ha.ok⟩
    have fin : ∀ (st : LoopState) (pe : Option Code) (B' : List Res) (w3 : World), st ≠ .busy → ApL (B' ++ [recR l (rcd st pe), dfr d]) → St M W (A ++ [foldR (B' ++ [recR l (rcd st pe), dfr d])]) w3 →
        ∃ w4, (Instr.endLoop l).run P w3 = .ok pe w4 ∧ St M W (dfr d :: (A ++ B')) w4 := fun st pe B' w3 hst hap h3 => by
      have h4 := h3.unfold hap
      have hr3 : w3.heap[l]? = some (.loop (rcd st pe)) := h4.holds (recR l (rcd st pe)) (by simp)
      have e1 : (rcd st pe).state = st := by rw [hrcd]
      have e2 : (rcd st pe).pending = pe := by rw [hrcd]
      have := run_endLoop (P := P) hr3 (by rw [e1]; exact hst)
      have this2 : (Instr.endLoop l).run P w3 = .ok pe (w3.putObj l (.loop { rcd st pe with state := .exhausted })) := this.trans (by subst hrcd; rfl)
      refine ⟨_, this2, ?_⟩
      have e : A ++ (B' ++ [recR l (rcd st pe), dfr d]) = (A ++ B') ++ recR l (rcd st pe) :: [dfr d] := by simp
      rw [e] at h4
      have h5 := h4.putD (o := .loop { rcd st pe with state := .exhausted }) (p' := fun _ => True) (loc' := fun _ _ _ _ => trivial) trivial
      have h6 := h5.perm (L' := .dat [l] (fun _ => True) (fun _ _ _ _ => trivial) :: dfr d :: (A ++ B')) (List.perm_append_comm (l₁ := [_, dfr d]) (l₂ := A ++ B'))
      exact h6.tail
    rintro e w3 ⟨⟨v, rfl⟩, (⟨xs, R', hS, ⟨B', hI, hap, rfl⟩, s⟩ | ⟨pre, R', hSp, ⟨c, B', hI, hap, rfl⟩, s⟩)⟩
    · obtain ⟨w4, hr, s4⟩ := fin .ready none B' w3 (by simp) hap s
      exact ⟨none, w4, hr, d :: D, F, _, hfr, s4, hdone d xs B' hS hI⟩
    · obtain ⟨w4, hr, s4⟩ := fin .done (some c) B' w3 (by simp) hap s
      refine ⟨some c, w4, hr, ?_⟩
      have hj := hstop d c pre B' hSp hI
      unfold jmpQ at hj
      split at hj
      · exact wpIn_ret ⟨d :: D, F, _, hfr, s4, hj⟩
      · exact wpIn_exit ⟨d :: D, F, _, hfr, s4, hj⟩
      · exact hj.elim
/-! ## The whole function -/
def retF (P : Program) (M : List Nat) (W : World) (rs : List ResultVar) (R : Ending → World → Prop) : Exit → List Nat → Fr → List Res → Prop
  | .normal, D, F, L => ∃ L2, L = D.map dfr ++ L2 ∧ ressV P M W L2 F rs fun tok vs => tok = true → ∀ w, St M W L2 w → R (.returned (packV vs)) w
  | .ret, D, F, L => ∃ L2, L = D.map dfr ++ L2 ∧ ressV P M W L2 F rs fun tok vs => tok = true → ∀ w, St M W L2 w → R (.returned (packV vs)) w
  | _, _, _, _ => False
theorem calls_cvf {f : FuncId} {fn : Func} {c : Code} {args : List Value} {R : Ending → World → Prop} {w : World} (rs : List ResultVar) (hrs : fn.results = rs.toArray) (hf : P.funcs[f]? = some fn) (hb : fn.body = some c) (hn : fn.ntmps = n) (hl : args.length ≤ n) (hw : St M W L w)
    (h : CVF P none M W n c [] (mkF args) L (retF P M W rs R)) : Calls P f args.toArray w R := by
  obtain rfl : fn.results.toList = rs := by rw [hrs]
  refine callsR_out (ro := none) (k := 0) (callsIn_of_wp_marks hf hb trivial (wpIn_mono (h _ w ⟨rfl, rfl, by simp [hn]; omega, fun i => ?_⟩ hw) ?_) rfl)
  · simp only [mkF]
    rcases Nat.lt_or_ge i args.length with h1 | h1
    · have h2 : i < (args.toArray ++ Array.replicate (fn.ntmps - args.toArray.size) undef).size := by simp; omega
      simp [Array.getElem?_append, h1]
    · have h2 : args[i]? = none := List.getElem?_eq_none h1
      simp [Array.getElem?_append, Nat.not_lt.2 h1, Array.getElem?_replicate, h2]
      split <;> rfl
  · have key : ∀ (a : Act) (D : List Nat) (F : Fr) (L2 : List Res), FrD D n a F → ressV P M W L2 F fn.results.toList (fun tok vs => tok = true → ∀ w, St M W L2 w → R (.returned (packV vs)) w) → ∀ (D' : List Nat) (w : World), St M W (D'.map dfr ++ L2) w →
        LeavesInM (wideR none) 0 P fn a.tmps R (D'.map col) .returning w := by
      intro a D F L2 f1 h3 D'
      induction D' with
      | nil =>
        intro w hs
        obtain ⟨vs, hk, hr⟩ := ressV_sound f1.ok h3
        exact ⟨_, results_pack (hr w hs), hk rfl w hs⟩
      | cons d D' ih =>
        intro w hs
        have hd : w.heap[d]? = some (.deferred (some [])) := hs.holds (dfr d) (by simp)
        refine ⟨by simp, .inl ⟨d, _, rfl, run_takeDeferred hd, ih _ ?_⟩⟩
        have := St.putD (A := []) (o := .deferred none) (p' := fun _ => True) (loc' := fun _ _ _ _ => trivial) (show St M W ([] ++ dfr d :: (D'.map dfr ++ L2)) w from hs) trivial
        exact St.tail this
    intro e a w hh
    cases e <;> first
      | exact hh.elim
      | (obtain ⟨D, F', L', h1, h2, h3⟩ := hh
         first
           | exact h3.elim
           | (obtain ⟨L2, rfl, h3⟩ := h3
              show LeavesInM (wideR none) 0 P fn a.tmps R a.defers .returning w
              rw [h1.defers]
              exact key a D F' L2 h1 h3 D w h2))
end
section
variable {K : List Nat → Fr → List Res → Prop} {Q : Exit → List Nat → Fr → List Res → Prop} {D : List Nat} {F : Fr} {L : List Res} {i j : Nat}
theorem thenF_normal : thenF K Q .normal D F L = K D F L := rfl
theorem thenF_exit : thenF K Q (.exit i) D F L = Q (.exit i) D F L := rfl
theorem thenF_ret : thenF K Q .ret D F L = Q .ret D F L := rfl
theorem blockF_exit : blockF i Q (.exit j) D F L = if j = i then Q .normal D F L else Q (.exit j) D F L := rfl
theorem blockF_normal : blockF i Q .normal D F L = Q .normal D F L := rfl
theorem blockF_ret : blockF i Q .ret D F L = Q .ret D F L := rfl
theorem look_dat {f : List Nat} {p : World → Prop} {loc} (L : List Res) (k : Nat) : look (.dat f p loc :: L) k = look L k := rfl
theorem putL_dat {f : List Nat} {p : World → Prop} {loc} (L : List Res) (k : Nat) (us : List Value) : putL (.dat f p loc :: L) k us = .dat f p loc :: putL L k us := rfl
theorem fresh_dat {f : List Nat} {p : World → Prop} {loc} (L : List Res) (k : Nat) : fresh (.dat f p loc :: L) k = fresh L k := rfl
theorem neB_dat {f : List Nat} {p : World → Prop} {loc} (L : List Res) (k : Nat) : neB (.dat f p loc :: L) k = neB L k := rfl
theorem neR_dat {f : List Nat} {p : World → Prop} {loc} (L : List Res) (k : Nat) : neR (.dat f p loc :: L) k = neR L k := rfl
theorem factL_dat {f : List Nat} {p : World → Prop} {loc} (W : World) (M : List Nat) (L : List Res) : factL W M (.dat f p loc :: L) = factL W M L := rfl
theorem look_dfr (d : Nat) (L : List Res) (k : Nat) : look (dfr d :: L) k = look L k := rfl
theorem putL_dfr (d : Nat) (L : List Res) (k : Nat) (us : List Value) : putL (dfr d :: L) k us = dfr d :: putL L k us := rfl
theorem fresh_dfr (d : Nat) (L : List Res) (k : Nat) : fresh (dfr d :: L) k = fresh L k := rfl
theorem neB_dfr (d : Nat) (L : List Res) (k : Nat) : neB (dfr d :: L) k = neB L k := rfl
theorem neR_dfr (d : Nat) (L : List Res) (k : Nat) : neR (dfr d :: L) k = neR L k := rfl
theorem factL_dfr (W : World) (M : List Nat) (d : Nat) (L : List Res) : factL W M (dfr d :: L) = factL W M L := rfl
theorem cF : type_of% (And.intro (And.intro (And.intro (And.intro @thenF_normal @thenF_exit) (And.intro @thenF_ret (And.intro @blockF_exit (And.intro @blockF_normal @blockF_ret)))) (And.intro (And.intro @look_dfr (And.intro @putL_dfr @fresh_dfr)) (And.intro @neB_dfr (And.intro @neR_dfr @factL_dfr)))) (And.intro (And.intro @look_dat (And.intro @putL_dat @fresh_dat)) (And.intro @neB_dat (And.intro @neR_dat @factL_dat)))) := (And.intro (And.intro (And.intro (And.intro @thenF_normal @thenF_exit) (And.intro @thenF_ret (And.intro @blockF_exit (And.intro @blockF_normal @blockF_ret)))) (And.intro (And.intro @look_dfr (And.intro @putL_dfr @fresh_dfr)) (And.intro @neB_dfr (And.intro @neR_dfr @factL_dfr)))) (And.intro (And.intro @look_dat (And.intro @putL_dat @fresh_dat)) (And.intro @neB_dat (And.intro @neR_dat @factL_dat))))
end
section
variable {P : Program} {ro : Option Nat} {M : List Nat} {W : World} {nn : Nat} {D : List Nat} {F : Fr} {L : List Res} {Q : Exit → List Nat → Fr → List Res → Prop} {co : Code}
theorem cvf_rowA (k : Nat) {A : Option Addr} {n c size : Nat} {t : TypeId} {xs : List Value} (hk : nth L k = some (.row (.slice A n c) t size n xs)) (hn : 0 < n)
    (h : ∀ g, A = some ⟨g, 0, none⟩ → (W.heap.size ≤ g ∨ g ∈ M) → neB (L.eraseIdx k) g → CVF P ro M W nn co D F L Q) : CVF P ro M W nn co D F L Q := fun a w ha hw => by
  rcases (hw.perm (perm_erase hk).symm).row_at with ⟨-, h0⟩ | ⟨g, e, hb, hne⟩
  · omega
  · exact h g e hb hne a w ha hw
theorem cvf_fact (p : Prop) (h : ∀ w, St M W L w → p) (hk : p → CVF P ro M W nn co D F L Q) : CVF P ro M W nn co D F L Q := fun a w ha hw => hk (h w hw) a w ha hw
theorem cvf_len (k : Nat) {A : Option Addr} {m d size : Nat} {t : TypeId} {xs : List Value} (hk : nth L k = some (.row (.slice A m d) t size m xs))
    (h : xs.length = m * size → CVF P ro M W nn co D F L Q) : CVF P ro M W nn co D F L Q := fun a w ha hw => h (hw.slr k hk).len a w ha hw
theorem callV_box {g : FuncId} {args : Array Value} {K : Bool → Value → List Res → Prop} {f : Nat → Value} {t : TypeId} {cs : List Value} (h : ∀ w, St M W L w → Calls P g args w fun e w' => e = .returned (f w.heap.size) ∧ w' = w.alloc (.cells cs.toArray t))
    (hk : ∀ b, W.heap.size ≤ b → fresh L b → K true (f b) (.blk b t cs :: L)) : CallV P M W g args L K := fun w hw => by
  refine (h w hw).mono ?_
  rintro e w' ⟨rfl, rfl⟩
  exact ⟨_, _, rfl, hw.alloc t cs, hk _ hw.pres.size (fresh_of hw)⟩
end
end Go.Proofs.Ytejogdielfgeoaa
/- The library's contracts on maps.Keys, slices.Sorted and slices.Sort at this program: the tables of numbers, each body compared. -/
namespace Go.Proofs.Ytejogdielfgeoaa
open Go.Shelf Go.Proofs
set_option linter.unusedVariables false
def keysLay0_ren : Go.Shelf.Ren := ⟨fun | 7 => 52 | 10 => 59 | n => n, fun | 23 => 40 | 26 => 3 | 3 => 3 | 28 => 88 | 0 => 0 | 27 => 87 | 33 => 93 | 4 => 4 | n => n, fun | n => n⟩
theorem keysLay0 : Go.Proofs.SlLaysZI.n7 Try.prog keysLay0_ren where
  mixed := by kernel_rfl
  f7 := ⟨ "maps.Keys[map[int]int,int,int]", by decide, Try.func52.trans (congrArg some (by kernel_rfl))⟩
  f10 := ⟨ "maps.Keys[map[int]int,int,int]$1", by decide, Try.func59.trans (congrArg some (by kernel_rfl))⟩
  t0 := Try.underlying0
  a0 := Try.isAgg0
  z0 := Try.sizeOf0
  v0 := Try.zeroValue0
  t4 := Try.underlying4
  a4 := Try.isAgg4
  z4 := Try.sizeOf4
  v4 := Try.zeroValue4
  t23 := Try.underlying40
  a23 := Try.isAgg40
  z23 := Try.sizeOf40
  v23 := Try.zeroValue40
  t26 := Try.underlying3
  a26 := Try.isAgg3
  z26 := Try.sizeOf3
  v26 := Try.zeroValue3
  t27 := Try.underlying87
  a27 := Try.isAgg87
  z27 := Try.sizeOf87
  v27 := Try.zeroValue87
  t28 := Try.underlying88
  a28 := Try.isAgg88
  z28 := Try.sizeOf88
  v28 := Try.zeroValue88
  t33 := Try.underlying93
  a33 := Try.isAgg93
  z33 := Try.sizeOf93
  v33 := Try.zeroValue93
def sortedLay_ren : Go.Shelf.Ren := ⟨fun | 6 => 51 | 8 => 57 | 9 => 58 | 11 => 61 | 13 => 63 | 12 => 62 | 23 => 75 | 24 => 76 | 14 => 66 | 15 => 67 | 16 => 68 | 17 => 69 | 18 => 70 | 19 => 71 | 20 => 72 | 21 => 73 | 22 => 74 | 25 => 77 | 26 => 78 | 27 => 79 | 28 => 80 | 29 => 81 | 30 => 82 | 31 => 83 | n => n, fun | 26 => 3 | 28 => 88 | 24 => 80 | 0 => 0 | 3 => 3 | 37 => 100 | 48 => 113 | 50 => 115 | 4 => 4 | 40 => 107 | 39 => 106 | 45 => 72 | 5 => 5 | 9 => 9 | 51 => 116 | 55 => 120 | 57 => 122 | 58 => 62 | 33 => 93 | n => n, fun | n => n⟩
theorem sortedLay : Go.Proofs.SlLaysZI.n6 Try.prog sortedLay_ren where
  mixed := by kernel_rfl
  f6 := ⟨ "slices.Sorted[int]", by decide, Try.func51.trans (congrArg some (by kernel_rfl))⟩
  f8 := ⟨ "slices.Collect[int]", by decide, Try.func57.trans (congrArg some (by kernel_rfl))⟩
  f11 := ⟨ "slices.AppendSeq[[]int,int]", by decide, Try.func61.trans (congrArg some (by kernel_rfl))⟩
  t0 := Try.underlying0
  a0 := Try.isAgg0
  z0 := Try.sizeOf0
  v0 := Try.zeroValue0
  t24 := Try.underlying80
  a24 := Try.isAgg80
  z24 := Try.sizeOf80
  v24 := Try.zeroValue80
  t26 := Try.underlying3
  a26 := Try.isAgg3
  z26 := Try.sizeOf3
  v26 := Try.zeroValue3
  t28 := Try.underlying88
  a28 := Try.isAgg88
  z28 := Try.sizeOf88
  v28 := Try.zeroValue88
  i26 := by kernel_rfl
def sortLay_ren : Go.Shelf.Ren := ⟨fun | 5 => 58 | 8 => 63 | 7 => 62 | 19 => 75 | 20 => 76 | 10 => 66 | 11 => 67 | 12 => 68 | 13 => 69 | 14 => 70 | 15 => 71 | 16 => 72 | 17 => 73 | 18 => 74 | 30 => 77 | 31 => 78 | 32 => 79 | 33 => 80 | 34 => 81 | 35 => 82 | 40 => 83 | n => n, fun | 23 => 80 | 25 => 3 | 3 => 3 | 32 => 100 | 22 => 80 | 0 => 0 | 44 => 113 | 46 => 115 | 4 => 4 | 36 => 107 | 35 => 106 | 41 => 72 | 5 => 5 | 9 => 9 | 53 => 116 | 57 => 120 | 63 => 122 | 64 => 62 | n => n, fun | n => n⟩
theorem sortLay : Go.Proofs.SlLaysM.n5 Try.prog sortLay_ren where
  mixed := by kernel_rfl
  f5 := ⟨ "slices.Sort[[]int,int]", by decide, Try.func58.trans (congrArg some (by kernel_rfl))⟩
  f7 := ⟨ "slices.pdqsortOrdered[int]", by decide, Try.func62.trans (congrArg some (by kernel_rfl))⟩
  f8 := Try.func63.trans (congrArg some (by kernel_rfl))
  f10 := ⟨ "slices.insertionSortOrdered[int]", by decide, Try.func66.trans (congrArg some (by kernel_rfl))⟩
  f11 := ⟨ "slices.heapSortOrdered[int]", by decide, Try.func67.trans (congrArg some (by kernel_rfl))⟩
  f12 := ⟨ "slices.breakPatternsOrdered[int]", by decide, Try.func68.trans (congrArg some (by kernel_rfl))⟩
  f13 := ⟨ "slices.choosePivotOrdered[int]", by decide, Try.func69.trans (congrArg some (by kernel_rfl))⟩
  f14 := ⟨ "slices.reverseRangeOrdered[int]", by decide, Try.func70.trans (congrArg some (by kernel_rfl))⟩
  f15 := ⟨ "slices.partialInsertionSortOrdered[int]", by decide, Try.func71.trans (congrArg some (by kernel_rfl))⟩
  f16 := ⟨ "cmp.Less[int]", by decide, Try.func72.trans (congrArg some (by kernel_rfl))⟩
  f17 := ⟨ "slices.partitionEqualOrdered[int]", by decide, Try.func73.trans (congrArg some (by kernel_rfl))⟩
  f18 := ⟨ "slices.partitionOrdered[int]", by decide, Try.func74.trans (congrArg some (by kernel_rfl))⟩
  f19 := Try.func75.trans (congrArg some (by kernel_rfl))
  f20 := Try.func76.trans (congrArg some (by kernel_rfl))
  f30 := ⟨ "slices.siftDownOrdered[int]", by decide, Try.func77.trans (congrArg some (by kernel_rfl))⟩
  f31 := Try.func78.trans (congrArg some (by kernel_rfl))
  f32 := Try.func79.trans (congrArg some (by kernel_rfl))
  f33 := ⟨ "slices.medianAdjacentOrdered[int]", by decide, Try.func80.trans (congrArg some (by kernel_rfl))⟩
  f34 := ⟨ "slices.medianOrdered[int]", by decide, Try.func81.trans (congrArg some (by kernel_rfl))⟩
  f35 := ⟨ "cmp.isNaN[int]", by decide, Try.func82.trans (congrArg some (by kernel_rfl))⟩
  f40 := ⟨ "slices.order2Ordered[int]", by decide, Try.func83.trans (congrArg some (by kernel_rfl))⟩
  t0 := Try.underlying0
  a0 := Try.isAgg0
  z0 := Try.sizeOf0
  v0 := Try.zeroValue0
  t3 := Try.underlying3
  a3 := Try.isAgg3
  z3 := Try.sizeOf3
  v3 := Try.zeroValue3
  t4 := Try.underlying4
  a4 := Try.isAgg4
  z4 := Try.sizeOf4
  v4 := Try.zeroValue4
  t5 := Try.underlying5
  a5 := Try.isAgg5
  z5 := Try.sizeOf5
  v5 := Try.zeroValue5
  t9 := Try.underlying9
  a9 := Try.isAgg9
  z9 := Try.sizeOf9
  v9 := Try.zeroValue9
  t22 := Try.underlying80
  a22 := Try.isAgg80
  z22 := Try.sizeOf80
  v22 := Try.zeroValue80
  t23 := Try.underlying80
  a23 := Try.isAgg80
  z23 := Try.sizeOf80
  v23 := Try.zeroValue80
  t25 := Try.underlying3
  a25 := Try.isAgg3
  z25 := Try.sizeOf3
  v25 := Try.zeroValue3
  t32 := Try.underlying100
  a32 := Try.isAgg100
  z32 := Try.sizeOf100
  v32 := Try.zeroValue100
  t35 := Try.underlying106
  a35 := Try.isAgg106
  z35 := Try.sizeOf106
  v35 := Try.zeroValue106
  t36 := Try.underlying107
  a36 := Try.isAgg107
  z36 := Try.sizeOf107
  v36 := Try.zeroValue107
  t41 := Try.underlying72
  a41 := Try.isAgg72
  z41 := Try.sizeOf72
  v41 := Try.zeroValue72
  t44 := Try.underlying113
  a44 := Try.isAgg113
  z44 := Try.sizeOf113
  v44 := Try.zeroValue113
  t46 := Try.underlying115
  a46 := Try.isAgg115
  z46 := Try.sizeOf115
  v46 := Try.zeroValue115
  t53 := Try.underlying116
  a53 := Try.isAgg116
  z53 := Try.sizeOf116
  v53 := Try.zeroValue116
  t57 := Try.underlying120
  a57 := Try.isAgg120
  z57 := Try.sizeOf120
  v57 := Try.zeroValue120
  t63 := Try.underlying122
  a63 := Try.isAgg122
  z63 := Try.sizeOf122
  v63 := Try.zeroValue122
  t64 := Try.underlying62
  a64 := Try.isAgg62
  z64 := Try.sizeOf62
  v64 := Try.zeroValue62
end Go.Proofs.Ytejogdielfgeoaa
/- The keys of a map of ints, sorted: maps.Keys and slices.Sorted by the library's contracts. -/
namespace Go.Proofs.Ytejogdielfgeoaa
open Go.RowKit Go.Shelf Go.Maps Go.Sort
set_option linter.unusedVariables false
set_option linter.unusedSimpArgs false
theorem sorts_any (m : Nat) : AnyZI.SortsIn Try.prog sortedLay_ren Fence.wide m :=
  ⟨fun blk off cap ss W hH hblk hsz => callsIn_wide.2 (AnyM.slices_Sort_int sortLay blk off cap ss W hH hblk hsz),
   fun p cap W => callsIn_wide.2 (AnyM.slices_Sort_int_none sortLay p cap W)⟩
/-- A value that is not looked at. -/
def blind (_ : Value) : Option (DataW Unit × List MemPlace) := some (.nil, [])
/-- A map's block with whatever keys of type int. -/
def KsH (w : World) (b : Nat) (ks : List Int) : Prop := ∃ (es : Array MapEntry) (cl : Nat), w.heap[b]? = some (.map es cl) ∧ es.toList.map (·.key) = ks.map (Value.int .i64) ∧ MapKept.Stamped es cl
theorem MpH.ks {w : World} {b : Nat} {l : List (Int × Int)} (h : MpH w b l) : KsH w b (l.map (·.1)) := by
  obtain ⟨es, cl, h1, h2, h3⟩ := h
  refine ⟨es, cl, h1, ?_, h3⟩
  have := congrArg (List.map Prod.fst) h2
  simp only [List.map_map] at this
  rw [List.map_map]
  exact this
theorem ownsMap_ks {w : World} {b : Nat} {ks : List Int} {P : Program} {k : TypeId} (hk : P.underlying k = some (.int .i64)) (h : KsH w b ks) (hwf : ∀ x ∈ ks, (Lit.int .i64 x).wf = true) (hl : ks.length ≤ maxLen) :
    ∃ D0 : DataW Unit, w.ownsMap P k blind b ks.length D0 ∧ (intKeys D0).Perm ks ∧ Maps.size D0 = ks.length := by
  obtain ⟨es, cl, h1, h2, h3⟩ := h
  have hlen : es.size = ks.length := by have := congrArg List.length h2; simpa using this
  have hrd : ∀ x ∈ es.toList, ∃ a : Int, a ∈ ks ∧ x.key = .int .i64 a ∧ WideElems.rd P k blind x = some (.int .i64 a, .nil) := fun x hx => by
    have hm : x.key ∈ ks.map (Value.int .i64) := by rw [← h2]; exact List.mem_map.2 ⟨x, hx, rfl⟩
    obtain ⟨a, ha, hax⟩ := List.mem_map.1 hm
    refine ⟨a, ha, hax.symm, ?_⟩
    simp [WideElems.rd, ← hax, Maps.keyOf_int_mk hk (hwf a ha), blind]
  refine ⟨_, ⟨es, cl, h1, ⟨by rw [hlen]; exact hl, h3, fun x hx => ?_⟩, by omega, rfl⟩, ?_, ?_⟩
  · obtain ⟨a, -, -, h⟩ := hrd x hx
    exact ⟨_, h⟩
  · have hp := (WideShapes.sorted_perm (es.toList.map (WideElems.rg P k blind))).map fun p => Go.intOf p.1
    refine hp.trans (List.Perm.of_eq ?_)
    rw [List.map_map]
    have : (es.toList.map fun x => Go.intOf (WideElems.rg P k blind x).1).map (Value.int .i64) = ks.map (Value.int .i64) := by
      rw [← h2, List.map_map]
      refine List.map_congr_left fun x hx => ?_
      obtain ⟨a, -, h4, h5⟩ := hrd x hx
      simp [WideElems.rg, h5, h4, Go.intOf]
    exact (List.map_inj_right fun a b h => by simpa using h).1 this
  · rw [Maps.size_eq, (WideShapes.sorted_perm (es.toList.map (WideElems.rg P k blind))).length_eq, List.length_map, Array.length_toList, hlen]
theorem mkeys_any (mb : Option Nat) (W : World) : Calls Try.prog 52 #[.map mb] W fun e w' => e = .returned (.func (.func 59) #[] #[.pointer (some ⟨W.heap.size, 0, none⟩)]) ∧ w' = W.alloc (.cells #[.map mb] 40) :=
  callsIn_wide.1 (AnyZI.keys_in keysLay0 Fence.wide 5 trivial rfl mb W)
theorem sortedKeys_any (Bm b : Nat) (ks : List Int) (w : World) (hm : w.cell? ⟨Bm, 0, none⟩ = some (.map (some b))) (hB : Bm < w.heap.size) (hM : KsH w b ks) (hwf : ∀ x ∈ ks, (Lit.int .i64 x).wf = true) (hl : ks.length ≤ 1000) :
    Calls Try.prog 51 #[.func (.func 59) #[] #[.pointer (some ⟨Bm, 0, none⟩)]] w fun e w' => ∃ (A : Option Addr) (n c : Nat), e = .returned (.slice A n c) ∧
      w'.ownsRow w.heap.size 3 1 (.slice A n c) n ((ks.mergeSort leI).map (Value.int .i64)) ∧ Below w.heap.size w w' := by
  obtain ⟨D0, hown, hp, hs⟩ := ownsMap_ks (P := Try.prog) (k := 3) Try.underlying3 hM hwf (Nat.le_trans hl (by decide))
  have hseq : SeqGives Fence.wide 2 Try.prog 59 #[.pointer (some ⟨Bm, 0, none⟩)] encZ (fun ss => ss.Perm (intKeys D0)) (Maps.size D0) w :=
    AnyZI.keys_gives (ρ := keysLay0_ren) { keysLay0 with } Fence.wide _ trivial rfl (by omega) Bm b ks.length D0 _ hB hm hown
  have cS := AnyZI.sorted_in sortedLay Fence.wide 5 trivial trivial trivial trivial rfl (by omega) (sorts_any _) (enters_of Try.func58 (by kernel_rfl) rfl) 59 #[.pointer (some ⟨Bm, 0, none⟩)] trivial (enters_of Try.func59 (by kernel_rfl) rfl) _ (Maps.size D0) (by rw [hs]; exact Nat.le_trans hl (by decide)) (by rw [hs]; omega) w hseq
  refine (callsIn_wide.1 cS).mono ?_
  rintro e w' ⟨v, ss, rfl, hS, hrow, -, hb⟩
  obtain ⟨A, c, rfl⟩ := slice_of_row hrow
  rw [mergeSort_of_perm_i (hS.trans hp)] at hrow
  exact ⟨A, ss.length, c, rfl, hrow, hb⟩
theorem sortI_perm (ks : List Int) : (ks.mergeSort leI).Perm ks := List.mergeSort_perm ks leI
theorem sortI_le (ks : List Int) : (ks.mergeSort leI).Pairwise (· ≤ ·) := by
  have tr : ∀ a b c : Int, leI a b = true → leI b c = true → leI a c = true := fun a b c h1 h2 => by simp only [leI, decide_eq_true_eq] at *; exact Int.le_trans h1 h2
  have to : ∀ a b : Int, (leI a b || leI b a) = true := fun a b => by simp only [leI, Bool.or_eq_true, decide_eq_true_eq]; exact Int.le_total a b
  exact (List.pairwise_mergeSort tr to ks).imp fun h => by simpa [leI] using h
end Go.Proofs.Ytejogdielfgeoaa
/- The iterator over the allocated extents, and the list of them. -/
namespace Go.Proofs.Ytejogdielfgeoaa
open Go.RowKit Go.Shelf
set_option linter.unusedVariables false
set_option linter.unusedSimpArgs false
set_option maxRecDepth 100000
def srtK (tk : List (Int × Int)) : List Int := (tk.map (·.1)).mergeSort leI
def srtT (tk : List (Int × Int)) : List Ext := (srtK tk).map fun o => ⟨o, (mget tk o).getD 0⟩
theorem srtK_len (tk : List (Int × Int)) : (srtK tk).length = tk.length := by unfold srtK; rw [List.length_mergeSort, List.length_map]
theorem srtT_len (tk : List (Int × Int)) : (srtT tk).length = tk.length := by unfold srtT; rw [List.length_map, srtK_len]
theorem wfI64q {x : Int} (h : -9223372036854775808 ≤ x ∧ x ≤ 9223372036854775807) : (Lit.int .i64 x).wf = true := by
  simp only [Lit.wf, Bool.and_eq_true, decide_eq_true_eq]
  exact h
section
variable {P : Program} {M : List Nat} {W w : World} {L : List Res}
theorem run_lookup1_mp {t : TypeId} {b : Nat} {l : List (Int × Int)} {k : Int} (ht : mpT P t = true) (h : MpH w b l) :
    (Instr.lookup t (.map (some b)) (.int .i64 k) false).run P w = .ok (.int .i64 ((mget l k).getD 0)) w := by
  obtain ⟨kt, et, i, h1, h2, h3, h4⟩ := mpT_run ht
  obtain ⟨es, cl, h5, h6, -⟩ := h
  have hk : MapKept.IsKey (.int .i64) (.int .i64 k) := rfl
  rcases findNow_mp k 0 es.toList l 0 h6 with ⟨a, b', -, -⟩ | ⟨j, x, a, b', -, -, -⟩
  · simp [Instr.lookup, run_underlying h1, MapKept.run_getObj_map h5, MapKept.run_checkKey h2 hk, MapKept.run_findKey h2 b', Result.andThen, zeroValue, typeInfo, h3, h4, a]
  · simp [Instr.lookup, run_underlying h1, MapKept.run_getObj_map h5, MapKept.run_checkKey h2 hk, MapKept.run_findKey h2 b', Result.andThen, a]
theorem xv_lookup1 {F : Fr} {d : Option Nat} {t ty : TypeId} {pos : String} {af : Array Edge} {gd : Option (Nat × Bool)} {m k : Operand} {b : Nat} {l : List (Int × Int)} {x : Int} {K : Bool → Value → List Res → Prop}
    (ht : mpT P t = true) (hm : ev F m = .map (some b)) (hk : ev F k = .int .i64 x) (h : ∀ w, St M W L w → MpH w b l) (hK : K true (.int .i64 ((mget l x).getD 0)) L) :
    XV P M W ⟨d, .lookup t m k false, ty, pos, af, gd⟩ F L K := fun w hw =>
  ⟨_, _, w, by simp [execOp, hm, hk, run_lookup1_mp ht (h w hw)], hw, hK⟩
end
theorem srt_take {tk : List (Int × Int)} {i : Nat} {o : Int} (h : (srtK tk)[i]? = some o) : (srtT tk).take (i + 1) = (srtT tk).take i ++ [⟨o, (mget tk o).getD 0⟩] := by
  rw [List.take_add_one]
  unfold srtT
  rw [List.getElem?_map, h]
  rfl
set_option maxRecDepth 100000 in
theorem sAlIter1 : type_of% (And.intro (And.intro @eBox.eq_1 (And.intro @exV.eq_1 @Nat.mul_one)) (And.intro (And.intro @wrap_in @cMp) (And.intro @cM @cF))) := (And.intro (And.intro @eBox.eq_1 (And.intro @exV.eq_1 @Nat.mul_one)) (And.intro (And.intro @wrap_in @cMp) (And.intro @cM @cF)))
set_option maxHeartbeats 2000000 in
theorem allocated_iter {W : World} (x : AlR) (bx : Nat) (h : AlW W W.heap.size x) (hl : x.tk.length ≤ 200) (hr : ∀ p ∈ x.tk, -9223372036854775808 ≤ p.1 ∧ p.1 ≤ 9223372036854775807) :
    Iter Try.prog [] W 50 #[.pointer (some ⟨bx, 0, none⟩)] (fun e : Ext => #[exV e]) x.tk.length (fun xs => xs = srtT x.tk) (fun _ => True) [.blk bx 24 [.pointer (some ⟨x.bA, 0, none⟩)]] := by
  intro l I Ix hdt hY R w hI hw
  obtain ⟨fR, pR, lR, rfl⟩ := hdt _ _ hI
  have hbA := h.lt
  have hks : ∀ y ∈ x.tk.map (·.1), (Lit.int .i64 y).wf = true := fun y hy => by
    obtain ⟨p, hp, rfl⟩ := List.mem_map.1 hy
    exact wfI64q (hr p hp)
  show Calls Try.prog 50 #[.func (.yield l) #[] #[], .pointer (some ⟨bx, 0, none⟩)] w _
  refine calls_cvf (n := 44) [] rfl Try.func50 rfl rfl (Nat.le_of_ble_eq_true rfl)  hw ?_
  refine cvf_seq_k fun K hK => ?_
  refine cvf_seq_k fun K hK => ?_
  refine cvf_region_then rfl rfl ?_
  simp -implicitDefEqProofs (disch := first | omega | decide) only [seval, -Int.reducePow, -Nat.reducePow, cC, pv, binv, sAlIter1, undef]
  refine hK _ _ _ ?_
  clear hK K
  refine cvf_cond ?_
  simp -implicitDefEqProofs (disch := first | omega | decide) only [seval, -Int.reducePow, -Nat.reducePow, cC, pv, binv, sAlIter1, undef]
  refine cvf_skip ?_
  try simp only [blockF, thenF]
  refine hK _ _ _ ?_
  clear hK K
  refine cvf_seq_k fun K hK => ?_
  refine cvf_region_then rfl rfl ?_
  simp -implicitDefEqProofs (disch := first | omega | decide) only [seval, -Int.reducePow, -Nat.reducePow, cC, pv, binv, sAlIter1, undef]
  refine hK _ _ _ ?_
  clear hK K
  refine cvf_apart fun hap => ?_
  simp only [factL_nil, factL_blk, factL_row, neR_nil, neR_blk, neR_row, neB_nil, neB_blk, neB_row, and_true, true_and, List.not_mem_nil, or_false, sAlIter1, undef] at hap
  obtain hap := hap
  refine cvf_seq_k fun K hK => ?_
  refine cvf_seq_k fun K hK => ?_
  refine cvf_region_then rfl rfl ?_
  simp -implicitDefEqProofs (disch := first | omega | decide) only [seval, -Int.reducePow, -Nat.reducePow, cC, pv, binv, sAlIter1, undef]
  refine ⟨_, h.blk.ld1 (m := 1) (i := 1) (by kernel_rfl) rfl, fun tok htok => ?_⟩
  subst htok
  simp -implicitDefEqProofs (disch := first | omega | decide) only [seval, -Int.reducePow, -Nat.reducePow, cC, pv, binv, sAlIter1, undef]
  refine callV_box (f := fun b => .func (.func 59) #[] #[.pointer (some ⟨b, 0, none⟩)]) (t := 40) (cs := [.map (some x.bm)]) (fun w hw => mkeys_any (some x.bm) w) ?_
  intro bk hbk hfk
  simp -implicitDefEqProofs (disch := first | omega | decide) only [seval, -Int.reducePow, -Nat.reducePow, cC, pv, binv, sAlIter1, undef]
  refine callV_row (fun A n c => .slice A n c) (fun w hw => (sortedKeys_any bk x.bm (x.tk.map (·.1)) w (by rw [hw.blk_cell (.head _)]; rfl) (hw.own _ (.head _) bk (by simp [Res.foot])).2 ((h.map.2.same (hw.base h.map.1 (by simp))).ks) hks (by rw [List.length_map]; omega)).mono fun e w' ⟨A, n, c, q1, q2, q3⟩ => ⟨A, n, c, q1, q2, q3⟩) ?_
  intro A2 n2 c2 hl2 hr2
  have hn2 : x.tk.length = n2 := by
    have := srtK_len x.tk
    unfold srtK at this
    simp at hl2
    simp at this
    omega
  simp -implicitDefEqProofs (disch := first | omega | decide) only [seval, -Int.reducePow, -Nat.reducePow, cC, pv, binv, sAlIter1, undef]
  refine hK _ _ _ ?_
  clear hK K
  refine cvf_gen fun G1 hG => ?_
  have g1_0 := congrFun hG 0
  have g1_1 := congrFun hG 1
  have g1_3 := congrFun hG 3
  have g1_15 := congrFun hG 15
  have g1_16 := congrFun hG 16
  have g1_17 := congrFun hG 17
  clear hG
  try simp -implicitDefEqProofs (disch := first | omega | decide) only [seval, -Int.reducePow, -Nat.reducePow, cC, pv, binv, sAlIter1, undef] at g1_0 g1_1 g1_3 g1_15 g1_16 g1_17
  have g1 := And.intro g1_0 (And.intro g1_1 (And.intro g1_3 (And.intro g1_15 (And.intro g1_16 g1_17))))
  clear hap
  refine cvf_nil 39 2 ?_
  refine cvf_pick [0, 1, 3, 4] (by decide) ?_
  simp only [pickL, nth]
  refine cvf_block ?_
  refine cvf_loop (fun F' L' => ∃ (i : Nat) (A : Option Addr) (n c : Nat), F' 0 = G1 0 ∧ F' 1 = G1 1 ∧ F' 3 = .slice A n c ∧ F' 15 = G1 15 ∧ F' 16 = G1 16 ∧ F' 17 = .int .i64 (i : Int) ∧ L' = [.row (.slice A n c) 39 2 n (exCells ((srtT x.tk).take i)), .row (.slice A2 n2 c2) 3 1 n2 ((srtK x.tk).map (Value.int .i64)), .blk bx 24 [.pointer (some ⟨x.bA, 0, none⟩)], .dat fR pR lR] ∧ i ≤ n2) (fun F' L' => 400 - (intOf (F' 17)).toNat) ?_ ?_
  · refine ⟨0, none, 0, 0, ?_⟩
    simp -implicitDefEqProofs (disch := first | omega | decide) only [seval, -Int.reducePow, -Nat.reducePow, cC, pv, binv, sAlIter1, undef, g1]
    exact ⟨rfl, by omega⟩
  intro G2 L' hI
  obtain ⟨i, A, n, c, q0, q1, q3, q15, q16, q17, rfl, hi⟩ := hI
  have g2_0 := q0.trans g1_0
  have g2_1 := q1.trans g1_1
  have g2_3 := q3
  have g2_15 := q15.trans g1_15
  have g2_16 := q16.trans g1_16
  have g2_17 := q17
  clear q0 q1 q3 q15 q16 q17
  have g2 := And.intro g2_0 (And.intro g2_1 (And.intro g2_3 (And.intro g2_15 (And.intro g2_16 g2_17))))
  refine cvf_seq_k fun K hK => ?_
  refine cvf_region_then rfl rfl ?_
  simp -implicitDefEqProofs (disch := first | omega | decide) only [seval, -Int.reducePow, -Nat.reducePow, cC, pv, binv, sAlIter1, undef, g1, g2]
  refine hK _ _ _ ?_
  clear hK K
  refine cvf_seq_k fun K hK => ?_
  refine cvf_cond ?_
  simp -implicitDefEqProofs (disch := first | omega | decide) only [seval, -Int.reducePow, -Nat.reducePow, cC, pv, binv, sAlIter1, undef, g1, g2]
  refine ⟨fun hc => ?_, fun hc => ?_⟩
  · refine cvf_skip ?_
    try simp only [blockF, thenF]
    have hit : i < n2 := by have := of_decide_eq_true ‹decide ((i : Int) < (n2 : Int)) = true›; omega
    obtain ⟨o, ho⟩ : ∃ o, (srtK x.tk)[i]? = some o := ⟨_, List.getElem?_eq_getElem (by rw [srtK_len]; omega)⟩
    have hkv : ((srtK x.tk).map (Value.int .i64))[i]? = some (.int .i64 o) := by rw [List.getElem?_map, ho]; rfl
    have htk := srt_take ho
    refine hK _ _ _ ?_
    clear hK K
    refine cvf_fact (n ≤ 200) (fun w hw => by have := (Exts.of_row (xs := (srtT x.tk).take i) hw (.head _)).len; rw [List.length_take, srtT_len] at this; omega) fun hn200 => ?_
    refine cvf_rowA 1 rfl (by omega) fun g hAA hg hNN => ?_
    subst hAA
    simp only [List.eraseIdx_cons_zero, List.eraseIdx_cons_succ, neB_nil, neB_blk, neB_row, neB_snap, and_true, List.not_mem_nil, or_false, sAlIter1, undef] at hNN hg
    replace hg := And.intro hg hNN
    clear hNN
    refine cvf_apart fun hap => ?_
    simp only [factL_nil, factL_blk, factL_row, neR_nil, neR_blk, neR_row, neB_nil, neB_blk, neB_row, and_true, true_and, List.not_mem_nil, or_false, sAlIter1, undef] at hap
    obtain hap := hap
    refine cvf_seq_k fun K hK => ?_
    refine cvf_block ?_
    refine cvf_seq_k fun K hK => ?_
    refine cvf_region_then rfl rfl ?_
    simp -implicitDefEqProofs (disch := first | omega | decide) only [seval, -Int.reducePow, -Nat.reducePow, cC, pv, binv, sAlIter1, undef, g1, g2]
    refine ⟨_, ld_row1 (i := i) (v := .int .i64 o) (.tail _ (.head _)) rfl hkv, fun tok htok => ?_⟩
    subst htok
    simp -implicitDefEqProofs (disch := first | omega | decide) only [seval, -Int.reducePow, -Nat.reducePow, cC, pv, binv, sAlIter1, undef, g1, g2]
    refine hK _ _ _ ?_
    clear hK K
    refine cvf_region_q rfl rfl ?_
    simp -implicitDefEqProofs (disch := first | omega | decide) only [seval, -Int.reducePow, -Nat.reducePow, cC, pv, binv, sAlIter1, undef, g1, g2]
    refine ⟨_, h.blk.ld1 (m := 1) (i := 1) (by kernel_rfl) rfl, fun tok htok => ?_⟩
    subst htok
    simp -implicitDefEqProofs (disch := first | omega | decide) only [seval, -Int.reducePow, -Nat.reducePow, cC, pv, binv, sAlIter1, undef, g1, g2]
    refine xv_lookup1 (b := x.bm) (l := x.tk) (x := o) (by kernel_rfl) rfl rfl (fun w hw => h.map.2.same (hw.base h.map.1 (by simp))) ?_
    simp -implicitDefEqProofs (disch := first | omega | decide) only [seval, -Int.reducePow, -Nat.reducePow, cC, pv, binv, sAlIter1, undef, g1, g2]
    intro bE hbE hfE
    refine appV_at 1 tap29 rfl (fun w hw => src_blk (size := 2) (.head _) rfl hw) rfl (by omega) (by omega) ?_
    intro A1 c1 hl1 hr1
    simp -implicitDefEqProofs (disch := first | omega | decide) only [seval, -Int.reducePow, -Nat.reducePow, cC, pv, binv, sAlIter1, undef, g1, g2]
    refine hK _ _ _ ?_
    clear hK K
    refine cvf_pick [0, 2, 3, 4] (by decide) ?_
    simp only [pickL, nth]
    refine cvf_region_then rfl rfl ?_
    simp -implicitDefEqProofs (disch := first | omega | decide) only [seval, -Int.reducePow, -Nat.reducePow, cC, pv, binv, sAlIter1, undef, g1, g2]
    refine ⟨⟨i + 1, A1, n + 1, c1, ?_⟩, ?_⟩
    · simp -implicitDefEqProofs (disch := first | omega | decide) only [seval, -Int.reducePow, -Nat.reducePow, cC, pv, binv, sAlIter1, undef, Int.natCast_add, htk, exCells_snoc, g1, g2]
      omega
    · simp only [intOf]; omega
  refine cvf_exit ?_
  simp only [blockF, thenF, if_true, ite_true]
  clear hK K
  refine hK _ _ _ ?_
  clear hK K
  have hit : ¬ i < n2 := by have := of_decide_eq_false ‹decide ((i : Int) < (n2 : Int)) = false›; omega
  rw [List.take_of_length_le (by rw [srtT_len]; omega)]
  refine cvf_fact (n = x.tk.length) (fun w hw => by have := (Exts.of_row (xs := srtT x.tk) hw (.head _)).len; rw [srtT_len] at this; omega) fun hn => ?_
  refine cvf_seq_k fun K hK => ?_
  refine cvf_region_then rfl rfl ?_
  simp -implicitDefEqProofs (disch := first | omega | decide) only [seval, -Int.reducePow, -Nat.reducePow, cC, pv, binv, sAlIter1, undef, g1, g2]
  refine hK _ _ _ ?_
  clear hK K
  refine cvf_gen fun G3 hG => ?_
  have g3_0 := congrFun hG 0
  have g3_33 := congrFun hG 33
  have g3_34 := congrFun hG 34
  have g3_35 := congrFun hG 35
  clear hG
  try simp -implicitDefEqProofs (disch := first | omega | decide) only [seval, -Int.reducePow, -Nat.reducePow, cC, pv, binv, sAlIter1, undef, g1, g2] at g3_0 g3_33 g3_34 g3_35
  have g3 := And.intro g3_0 (And.intro g3_33 (And.intro g3_34 g3_35))
  refine cvf_pick [0, 2, 3] (by decide) ?_
  simp only [pickL, nth]
  refine cvf_block ?_
  refine cvf_loop (fun F' L' => ∃ (j : Nat) (R : Res), F' 0 = G3 0 ∧ F' 33 = G3 33 ∧ F' 34 = G3 34 ∧ F' 35 = .int .i64 (j : Int) ∧ L' = [.row (.slice A n c) 39 2 n (exCells (srtT x.tk)), .blk bx 24 [.pointer (some ⟨x.bA, 0, none⟩)], R] ∧ I ((srtT x.tk).take j) R ∧ j ≤ n) (fun F' L' => 400 - (intOf (F' 35)).toNat) ?_ ?_
  · refine ⟨0, .dat fR pR lR, ?_⟩
    simp -implicitDefEqProofs (disch := first | omega | decide) only [seval, -Int.reducePow, -Nat.reducePow, cC, pv, binv, sAlIter1, undef, g1, g2, g3]
    exact ⟨hI, by omega⟩
  intro G4 L' hI
  obtain ⟨j, R, q0, q33, q34, q35, rfl, ⟨hIR, hj⟩⟩ := hI
  have g4_0 := q0.trans g3_0
  have g4_33 := q33.trans g3_33
  have g4_34 := q34.trans g3_34
  have g4_35 := q35
  clear q0 q33 q34 q35
  have g4 := And.intro g4_0 (And.intro g4_33 (And.intro g4_34 g4_35))
  obtain ⟨fR2, pR2, lR2, rfl⟩ := hdt _ _ hIR
  refine cvf_seq_k fun K hK => ?_
  refine cvf_region_then rfl rfl ?_
  simp -implicitDefEqProofs (disch := first | omega | decide) only [seval, -Int.reducePow, -Nat.reducePow, cC, pv, binv, sAlIter1, undef, g1, g2, g3, g4]
  refine hK _ _ _ ?_
  clear hK K
  refine cvf_seq_k fun K hK => ?_
  refine cvf_cond ?_
  simp -implicitDefEqProofs (disch := first | omega | decide) only [seval, -Int.reducePow, -Nat.reducePow, cC, pv, binv, sAlIter1, undef, g1, g2, g3, g4]
  refine ⟨fun hc => ?_, fun hc => ?_⟩
  · refine cvf_skip ?_
    try simp only [blockF, thenF]
    have hjt : j < n := by have := of_decide_eq_true ‹decide ((j : Int) < (n : Int)) = true›; omega
    have hlt : j < (srtT x.tk).length := by rw [srtT_len]; omega
    obtain ⟨e, he⟩ : ∃ e, Ex.get (srtT x.tk) j = e := ⟨_, rfl⟩
    have hcx := exCells_two (srtT x.tk) j hlt
    rw [he] at hcx
    have hsn : (srtT x.tk).take (j + 1) = (srtT x.tk).take j ++ [e] := by
      rw [List.take_add_one, List.getElem?_eq_getElem hlt, ← he, Ex.get_eq hlt]
      rfl
    refine hK _ _ _ ?_
    clear hK K
    refine cvf_rowA 0 rfl (by omega) fun g hAA hg hNN => ?_
    subst hAA
    simp only [List.eraseIdx_cons_zero, List.eraseIdx_cons_succ, neB_nil, neB_blk, neB_row, neB_snap, and_true, List.not_mem_nil, or_false, sAlIter1, undef] at hNN hg
    replace hg := And.intro hg hNN
    clear hNN
    refine cvf_seq_k fun K hK => ?_
    refine cvf_block ?_
    refine cvf_seq_k fun K hK => ?_
    refine cvf_region_then rfl rfl ?_
    simp -implicitDefEqProofs (disch := first | omega | decide) only [seval, -Int.reducePow, -Nat.reducePow, cC, pv, binv, sAlIter1, undef, g1, g2, g3, g4]
    refine ⟨_, ld_row (i := j * 2) (vs := [.int .i64 e.off, .int .i64 e.len]) (.head _) rfl hcx, fun tok htok => ?_⟩
    subst htok
    simp -implicitDefEqProofs (disch := first | omega | decide) only [seval, -Int.reducePow, -Nat.reducePow, cC, pv, binv, sAlIter1, undef, g1, g2, g3, g4]
    intro b7 hb7 hf7
    refine hK _ _ _ ?_
    clear hK K
    refine cvf_seq_k fun K hK => ?_
    refine cvf_yield (l1 := [_, _]) (l2 := [_]) rfl rfl rfl ?_
    simp -implicitDefEqProofs (disch := first | omega | decide) only [seval, -Int.reducePow, -Nat.reducePow, cC, pv, binv, sAlIter1, undef, g1, g2, g3, g4]
    refine ⟨l, #[exV e], by simp [exV, yOf, ev, upd_apply], ?_⟩
    refine YV.mono (hY ((srtT x.tk).take j) e [_, _, _] (.dat fR2 pR2 lR2) (by rw [List.length_take]; omega) hIR) ?_
    rintro v L' (⟨rfl, R', hI', rfl⟩ | ⟨rfl, R', hI', rfl⟩)
    · obtain ⟨fR3, pR3, lR3, rfl⟩ := hdt _ _ hI'
      simp only [List.cons_append, List.nil_append]
      simp -implicitDefEqProofs (disch := first | omega | decide) only [seval, -Int.reducePow, -Nat.reducePow, cC, pv, binv, sAlIter1, undef, g1, g2, g3, g4]
      refine hK _ _ _ ?_
      clear hK K
      refine cvf_cond ?_
      simp -implicitDefEqProofs (disch := first | omega | decide) only [seval, -Int.reducePow, -Nat.reducePow, cC, pv, binv, sAlIter1, undef, g1, g2, g3, g4]
      refine cvf_skip ?_
      try simp only [blockF, thenF]
      refine hK _ _ _ ?_
      clear hK K
      refine cvf_pick [1, 2, 3] (by decide) ?_
      simp only [pickL, nth]
      refine cvf_region_then rfl rfl ?_
      simp -implicitDefEqProofs (disch := first | omega | decide) only [seval, -Int.reducePow, -Nat.reducePow, cC, pv, binv, sAlIter1, undef, g1, g2, g3, g4]
      refine ⟨⟨j + 1, .dat fR3 pR3 lR3, ?_⟩, ?_⟩
      · simp -implicitDefEqProofs (disch := first | omega | decide) only [seval, -Int.reducePow, -Nat.reducePow, cC, pv, binv, sAlIter1, undef, Int.natCast_add, hsn, g1, g2, g3, g4]
        exact ⟨hI', by omega⟩
      · simp only [intOf]; omega
    · simp only [List.cons_append, List.nil_append]
      simp -implicitDefEqProofs (disch := first | omega | decide) only [seval, -Int.reducePow, -Nat.reducePow, cC, pv, binv, sAlIter1, undef, g1, g2, g3, g4]
      refine hK _ _ _ ?_
      clear hK K
      refine cvf_cond ?_
      simp -implicitDefEqProofs (disch := first | omega | decide) only [seval, -Int.reducePow, -Nat.reducePow, cC, pv, binv, sAlIter1, undef, g1, g2, g3, g4]
      refine cvf_ret ?_
      simp only [retF, thenF, blockF]
      refine ⟨_, rfl, ?_⟩
      simp -implicitDefEqProofs (disch := first | omega | decide) only [seval, -Int.reducePow, -Nat.reducePow, cC, pv, binv, sAlIter1, undef, ressV, packV, g1, g2, g3, g4]
      intro w hw
      exact ⟨⟨_, rfl⟩, .inr ⟨_, _, hI', hw.pick (ix := [2, 3]) (by decide)⟩⟩
  refine cvf_exit ?_
  simp only [blockF, thenF, if_true, ite_true]
  have hjt : ¬ j < n := by have := of_decide_eq_false ‹decide ((j : Int) < (n : Int)) = false›; omega
  rw [List.take_of_length_le (by rw [srtT_len]; omega)] at hIR
  simp only [retF, thenF, blockF]
  refine ⟨_, rfl, ?_⟩
  simp -implicitDefEqProofs (disch := first | omega | decide) only [seval, -Int.reducePow, -Nat.reducePow, cC, pv, binv, sAlIter1, undef, ressV, packV, g1, g2, g3, g4]
  intro w hw
  exact ⟨⟨_, rfl⟩, .inl ⟨_, _, rfl, hIR, hw.pick (ix := [1, 2]) (by decide)⟩⟩
end Go.Proofs.Ytejogdielfgeoaa
/- The list of the allocated extents: a range over Allocated. -/
namespace Go.Proofs.Ytejogdielfgeoaa
open Go.RowKit Go.Shelf
set_option linter.unusedVariables false
set_option linter.unusedSimpArgs false
set_option maxRecDepth 100000
section
variable {P : Program} {M : List Nat} {W : World} {L : List Res}
theorem xv_func {F : Fr} {d : Option Nat} {f : FuncId} {caps : Array Operand} {ty : TypeId} {pos : String} {af : Array Edge} {gd : Option (Nat × Bool)} {K : Bool → Value → List Res → Prop} (hK : K true (.func (.func f) #[] (caps.map (ev F))) L) :
    XV P M W ⟨d, .makeFunc (.func f) #[] caps, ty, pos, af, gd⟩ F L K := fun w hw => ⟨_, _, w, by simp [execOp, Instr.makeFunc], hw, hK⟩
end
set_option maxRecDepth 100000 in
theorem sAlList1 : type_of% (And.intro (And.intro @eBox.eq_1 (And.intro @exV.eq_1 @Nat.mul_one)) (And.intro (And.intro @wrap_in @cMp) (And.intro @cM @cF))) := (And.intro (And.intro @eBox.eq_1 (And.intro @exV.eq_1 @Nat.mul_one)) (And.intro (And.intro @wrap_in @cMp) (And.intro @cM @cF)))
set_option maxHeartbeats 2000000 in
theorem allocated_call {M : List Nat} {W : World} {L : List Res} (b : Nat) {K : Bool → Value → List Res → Prop} (hK : ∀ bx, W.heap.size ≤ bx → K true (.func (.func 50) #[] #[.pointer (some ⟨bx, 0, none⟩)]) (.blk bx 24 [.pointer (some ⟨b, 0, none⟩)] :: L)) :
    CallV Try.prog M W 38 #[.pointer (some ⟨b, 0, none⟩)] L K := by
  have hKK := hK
  clear hK
  intro w hw
  refine calls_cvf (n := 4) [.tmp 2] rfl Try.func38 rfl rfl (Nat.le_of_ble_eq_true rfl)  hw ?_
  refine cvf_seq_k fun K hK => ?_
  refine cvf_region_then rfl rfl ?_
  simp -implicitDefEqProofs (disch := first | omega | decide) only [seval, -Int.reducePow, -Nat.reducePow, cC, pv, binv, sAlList1, undef]
  intro bx hbx hfx
  refine hK _ _ _ ?_
  clear hK K
  refine cvf_seq_k fun K hK => ?_
  refine cvf_region_then rfl rfl ?_
  simp -implicitDefEqProofs (disch := first | omega | decide) only [seval, -Int.reducePow, -Nat.reducePow, cC, pv, binv, sAlList1, undef]
  refine xv_func ?_
  simp -implicitDefEqProofs (disch := first | omega | decide) only [seval, -Int.reducePow, -Nat.reducePow, cC, pv, binv, sAlList1, undef]
  refine hK _ _ _ ?_
  clear hK K
  refine cvf_ret ?_
  simp only [retF, thenF, blockF]
  refine ⟨_, rfl, ?_⟩
  simp -implicitDefEqProofs (disch := first | omega | decide) only [seval, -Int.reducePow, -Nat.reducePow, cC, pv, binv, sAlList1, undef, ressV, packV]
  intro w hw
  exact ⟨_, _, rfl, hw, hKK _ hbx⟩
set_option maxHeartbeats 2000000 in
theorem listed_any {W : World} (x : AlR) (h : AlW W W.heap.size x) (hl : x.tk.length ≤ 200) (hr : ∀ p ∈ x.tk, -9223372036854775808 ≤ p.1 ∧ p.1 ≤ 9223372036854775807) :
    Calls Try.prog 19 #[.pointer (some ⟨x.bA, 0, none⟩)] W (rowPost 39 2 (fun v => v) (exCells (srtT x.tk)) W) := by
  have hw : St [] W [] W := St.nil [] W
  refine calls_cvf (n := 13) [.tmp 2] rfl Try.func19 rfl rfl (Nat.le_of_ble_eq_true rfl)  hw ?_
  refine cvf_seq_k fun K hK => ?_
  refine cvf_region_then rfl rfl ?_
  simp -implicitDefEqProofs (disch := first | omega | decide) only [seval, -Int.reducePow, -Nat.reducePow, cC, pv, binv, sAlList1, undef]
  refine hK _ _ _ ?_
  clear hK K
  refine cvf_seq_k fun K hK => ?_
  refine cvf_region_then rfl rfl ?_
  simp -implicitDefEqProofs (disch := first | omega | decide) only [seval, -Int.reducePow, -Nat.reducePow, cC, pv, binv, sAlList1, undef]
  intro b3 hb3
  refine hK _ _ _ ?_
  clear hK K
  refine cvf_seq_k fun K hK => ?_
  refine cvf_seq_k fun K hK => ?_
  refine cvf_region_then rfl rfl ?_
  simp -implicitDefEqProofs (disch := first | omega | decide) only [seval, -Int.reducePow, -Nat.reducePow, cC, pv, binv, sAlList1, undef]
  refine allocated_call x.bA ?_
  intro bx hbx
  simp -implicitDefEqProofs (disch := first | omega | decide) only [seval, -Int.reducePow, -Nat.reducePow, cC, pv, binv, sAlList1, undef]
  refine hK _ _ _ ?_
  clear hK K
  refine cvf_nil 39 2 ?_
  refine cvf_pick [1, 2, 0] (by decide) ?_
  simp only [pickL, nth]
  refine cvf_block ?_
  refine cvf_range (α := Ext) (gf := 50) (lb := #[.pointer (some ⟨bx, 0, none⟩)]) (encs := fun e => #[exV e]) (N := x.tk.length) (S := fun xs => xs = srtT x.tk) (Sp := fun _ => True) (A := [.blk bx 24 [.pointer (some ⟨x.bA, 0, none⟩)]]) [.blk b3 29 [.slice none 0 0], .row (.slice none 0 0) 39 2 0 []] ?g ?gb ?it ?ps ?pn ?L
    (fun pre B => ∃ (A : Option Addr) (n c : Nat), B = [.blk b3 29 [.slice A n c], .row (.slice A n c) 39 2 n (exCells pre)]) (fun _ _ _ => False) ?h0 ?body ?done ?stop
  case g => simp -implicitDefEqProofs (disch := first | omega | decide) only [seval, -Int.reducePow, -Nat.reducePow, cC, pv, binv, sAlList1, undef]
  case gb => kernel_rfl
  case it => exact allocated_iter x bx h hl hr
  case ps => exact fun _ => rfl
  case pn => rfl
  case L => rfl
  case h0 => exact ⟨_, _, _, rfl⟩
  case stop => exact fun _ _ _ _ _ h => h.elim
  case body =>
    rintro l pre e R B' hpre ⟨A, n, c, rfl⟩
    simp only [List.toList_toArray, List.zip_cons_cons, List.zip_nil_right, setF]
    refine cvf_region_q rfl rfl ?_
    simp -implicitDefEqProofs (disch := first | omega | decide) only [seval, -Int.reducePow, -Nat.reducePow, cC, pv, binv, sAlList1, undef]
    intro b4 hb4 hf4
    refine ⟨rfl, [.blk b4 39 [.int .i64 e.off, .int .i64 e.len], .blk b3 29 [.slice A n c], .row (.slice A n c) 39 2 n (exCells pre)], rfl, fun R' => ?_⟩
    refine cvf_fact (n = pre.length) (fun w hw => (Exts.of_row (xs := pre) hw (.tail _ (.tail _ (.head _)))).len.symm) fun hn => ?_
    simp only [List.cons_append, List.nil_append]
    refine cvf_block ?_
    refine cvf_pick_post [3, 0, 4] (by decide) ?_
    refine cvf_region_q rfl rfl ?_
    simp -implicitDefEqProofs (disch := first | omega | decide) only [seval, -Int.reducePow, -Nat.reducePow, cC, pv, binv, sAlList1, undef]
    intro bE hbE hfE
    refine appV_at 3 tap29 rfl (fun w hw => src_blk (size := 2) (.head _) rfl hw) rfl (by omega) (by omega) ?_
    intro A1 c1 hl1 hr1
    simp -implicitDefEqProofs (disch := first | omega | decide) only [seval, -Int.reducePow, -Nat.reducePow, cC, pv, binv, sAlList1, undef]
    rw [← exCells_snoc]
    exact ⟨_, rfl, _, _, _, rfl⟩
  case done =>
    rintro d xs B' rfl ⟨A, n, c, rfl⟩
    simp only [List.cons_append, List.nil_append]
    simp -implicitDefEqProofs (disch := first | omega | decide) only [seval, -Int.reducePow, -Nat.reducePow, cC, pv, binv, sAlList1, undef]
    refine hK _ _ _ ?_
    clear hK K
    refine cvf_pick [0, 2, 3] (by decide) ?_
    simp only [pickL, nth]
    refine cvf_seq_k fun K hK => ?_
    refine cvf_region_then rfl rfl ?_
    simp -implicitDefEqProofs (disch := first | omega | decide) only [seval, -Int.reducePow, -Nat.reducePow, cC, pv, binv, sAlList1, undef]
    refine hK _ _ _ ?_
    clear hK K
    refine cvf_ret ?_
    simp only [retF, thenF, blockF]
    refine ⟨_, rfl, ?_⟩
    simp -implicitDefEqProofs (disch := first | omega | decide) only [seval, -Int.reducePow, -Nat.reducePow, cC, pv, binv, sAlList1, undef, ressV, packV]
    intro w hw
    exact ⟨A, n, c, rfl, ownsRow_new (hw.holds _ (.tail _ (.head _))) (hw.own _ (.tail _ (.head _))), hw.below⟩
end Go.Proofs.Ytejogdielfgeoaa
/- The model's sorted list. -/
namespace Go.Proofs.Ytejogdielfgeoaa
open Go.RowKit Go.Shelf
set_option linter.unusedVariables false
set_option linter.unusedSimpArgs false
set_option maxRecDepth 100000
theorem exCells_put (P Q : List Ext) (x y : Ext) : (exCells (P ++ x :: Q)).take (P.length * 2) ++ [Value.int .i64 y.off, Value.int .i64 y.len] ++ (exCells (P ++ x :: Q)).drop (P.length * 2 + 2) = exCells (P ++ y :: Q) := by
  have h := exCells_len P
  rw [exCells_app, exCells_app, List.take_left' h, ← List.drop_drop, List.drop_left' h]
  simp [exCells]
structure SrI (us ys : List Ext) (i : Nat) : Prop where
  perm : ys.Perm (us.take i)
  srt : ys.Pairwise fun a b => a.off ≤ b.off
structure SwI (us : List Ext) (i : Nat) (x : Ext) (P Q : List Ext) : Prop where
  perm : (P ++ Q).Perm (us.take i)
  srt : (P ++ Q).Pairwise fun a b => a.off ≤ b.off
  gt : ∀ q ∈ Q, x.off ≤ q.off
theorem SwI.end {us : List Ext} {i : Nat} {x : Ext} {P Q : List Ext} (h : SwI us i x P Q) (htk : us.take (i + 1) = us.take i ++ [x]) (hp : ∀ a ∈ P, a.off ≤ x.off) : SrI us (P ++ x :: Q) (i + 1) := by
  refine ⟨?_, ?_⟩
  · rw [htk]
    exact (List.perm_middle.trans ((h.perm.cons x).trans (List.perm_append_comm (l₁ := [x]) (l₂ := us.take i))))
  · have h2 := List.pairwise_append.1 h.srt
    exact List.pairwise_append.2 ⟨h2.1, List.pairwise_cons.2 ⟨h.gt, h2.2.1⟩, fun a ha b hb => by
      rcases List.mem_cons.1 hb with rfl | hb
      · exact hp a ha
      · exact h2.2.2 a ha b hb⟩
theorem SwI.step {us : List Ext} {i : Nat} {x p : Ext} {P Q : List Ext} (h : SwI us i x (P ++ [p]) Q) (hp : x.off ≤ p.off) : SwI us i x P (p :: Q) := by
  have e : P ++ [p] ++ Q = P ++ p :: Q := by simp
  obtain ⟨h1, h2, h3⟩ := h
  rw [e] at h1 h2
  exact ⟨h1, h2, fun q hq => by
    rcases List.mem_cons.1 hq with rfl | hq
    · exact hp
    · exact h3 q hq⟩
theorem SwI.lens {us : List Ext} {i : Nat} {x : Ext} {P Q : List Ext} (h : SwI us i x P Q) (hi : i ≤ us.length) : P.length + Q.length = i := by
  have := h.perm.length_eq
  simp at this
  omega
theorem sorted_snoc {P Q : List Ext} {p : Ext} (h : ((P ++ [p]) ++ Q).Pairwise fun a b => a.off ≤ b.off) : ∀ a ∈ P ++ [p], a.off ≤ p.off := fun a ha => by
  have h2 := List.pairwise_append.1 (List.pairwise_append.1 h).1
  rcases List.mem_append.1 ha with ha | ha
  · exact h2.2.2 a ha p (by simp)
  · obtain rfl : a = p := by simpa using ha
    exact Int.le_refl _
theorem nil_or_snoc {α : Type} (P : List α) : P = [] ∨ ∃ P' p, P = P' ++ [p] := (List.eq_nil_or_concat P).imp id fun ⟨P', p, h⟩ => ⟨P', p, h.trans (List.concat_eq_append ..)⟩
theorem get_mid (P Q : List Ext) (x : Ext) : Ex.get (P ++ x :: Q) P.length = x := by
  rw [Ex.get_eq (by simp)]
  simp
theorem get_mid2 (P Q : List Ext) (p x : Ext) : Ex.get ((P ++ [p]) ++ x :: Q) P.length = p := by
  rw [List.append_assoc]
  exact get_mid P _ p
set_option maxRecDepth 100000 in
theorem sAlSrt1 : type_of% (And.intro (And.intro @eBox.eq_1 (And.intro @exV.eq_1 @Nat.mul_one)) (And.intro @wrap_in (And.intro @cMp @cM))) := (And.intro (And.intro @eBox.eq_1 (And.intro @exV.eq_1 @Nat.mul_one)) (And.intro @wrap_in (And.intro @cMp @cM)))
set_option maxHeartbeats 2000000 in
theorem rSorted_any (y : MlR) (W : World) (h : MlW W W.heap.size y) : Calls Try.prog 27 #[.pointer (some ⟨y.bM, 0, none⟩)] W
    fun e w' => ∃ ys, SrI y.us ys y.us.length ∧ rowPost 39 2 (fun v => v) (exCells ys) W e w' := by
  have hbM := h.lt
  obtain ⟨bM, N, UA, un, uc, us⟩ := y
  have hE := h.us
  have hl := hE.len
  have h100 := h.len
  dsimp only at *
  refine calls_cv (M := []) (n := 62) [.tmp 2] rfl Try.func27 rfl rfl (Nat.le_of_ble_eq_true rfl) (St.nil _ _) ?_
  refine cv_seq_k fun K hK => ?_
  refine cv_region_then rfl ?_
  simp -implicitDefEqProofs (disch := first | omega | decide) only [seval, -Int.reducePow, -Nat.reducePow, cC, pv, binv, sAlSrt1, undef]
  refine hK _ _ ?_
  clear hK K
  refine cv_seq_k fun K hK => ?_
  refine cv_region_then rfl ?_
  simp -implicitDefEqProofs (disch := first | omega | decide) only [seval, -Int.reducePow, -Nat.reducePow, cC, pv, binv, sAlSrt1, undef]
  refine hK _ _ ?_
  clear hK K
  refine cv_seq_k fun K hK => ?_
  refine cv_seq_k fun K hK => ?_
  refine cv_region_then rfl ?_
  simp -implicitDefEqProofs (disch := first | omega | decide) only [seval, -Int.reducePow, -Nat.reducePow, cC, pv, binv, sAlSrt1, undef]
  refine hK _ _ ?_
  clear hK K
  refine cv_gen fun G1 hG => ?_
  have g1_0 := congrFun hG 0
  have g1_3 := congrFun hG 3
  have g1_4 := congrFun hG 4
  clear hG
  try simp -implicitDefEqProofs (disch := first | omega | decide) only [seval, -Int.reducePow, -Nat.reducePow, cC, pv, binv, sAlSrt1, undef] at g1_0 g1_3 g1_4
  have g1 := And.intro g1_0 (And.intro g1_3 g1_4)
  refine cv_block ?_
  refine cv_nil 39 2 ?_
  refine cv_loop (fun F' L' => ∃ (i : Nat) (A : Option Addr) (n c : Nat) (ys : List Ext), F' 0 = G1 0 ∧ F' 3 = .slice A n c ∧ F' 4 = .int .i64 (i : Int) ∧ L' = [.row (.slice A n c) 39 2 n (exCells ys)] ∧ i ≤ un ∧ SrI us ys i) (fun F' L' => 200 - (intOf (F' 4)).toNat) ?_ ?_
  · refine ⟨0, none, 0, 0, [], ?_⟩
    simp -implicitDefEqProofs (disch := first | omega | decide) only [seval, -Int.reducePow, -Nat.reducePow, cC, pv, binv, sAlSrt1, undef, g1]
    exact ⟨rfl, by omega, ⟨by simp, by simp⟩⟩
  intro G2 L' hI
  obtain ⟨i, A, n, c, ys, q0, q3, q4, rfl, ⟨hi, hs⟩⟩ := hI
  have g2_0 := q0.trans g1_0
  have g2_3 := q3
  have g2_4 := q4
  clear q0 q3 q4
  have g2 := And.intro g2_0 (And.intro g2_3 g2_4)
  refine cv_seq_k fun K hK => ?_
  refine cv_seq_k fun K hK => ?_
  refine cv_region_then rfl ?_
  simp -implicitDefEqProofs (disch := first | omega | decide) only [seval, -Int.reducePow, -Nat.reducePow, cC, pv, binv, sAlSrt1, undef, g1, g2]
  refine ⟨_, h.blk.ld1 (m := 1) (i := 1) (by kernel_rfl) rfl, fun tok htok => ?_⟩
  subst htok
  simp -implicitDefEqProofs (disch := first | omega | decide) only [seval, -Int.reducePow, -Nat.reducePow, cC, pv, binv, sAlSrt1, undef, g1, g2]
  refine hK _ _ ?_
  clear hK K
  refine cv_cond ?_
  simp -implicitDefEqProofs (disch := first | omega | decide) only [seval, -Int.reducePow, -Nat.reducePow, cC, pv, binv, sAlSrt1, undef, g1, g2]
  refine ⟨fun hc => ?_, fun hc => ?_⟩
  · refine cv_skip ?_
    try simp only [blockQ, thenQ]
    have hit : i < un := by have := of_decide_eq_true ‹decide ((i : Int) < (un : Int)) = true›; omega
    obtain ⟨bF, oF, rfl, hbF, -⟩ := hE.cells (by omega)
    obtain ⟨x, hx⟩ : ∃ x, Ex.get us i = x := ⟨_, rfl⟩
    have htk : us.take (i + 1) = us.take i ++ [x] := by rw [List.take_add_one, List.getElem?_eq_getElem (by omega), ← hx, Ex.get_eq (by omega)]; rfl
    refine hK _ _ ?_
    clear hK K
    refine cv_fact (n = ys.length) (fun w hw => (Exts.of_row (xs := ys) hw (.head _)).len.symm) fun hn => ?_
    have hyl : ys.length = i := by have := hs.perm.length_eq; simp at this; omega
    refine cv_seq_k fun K hK => ?_
    refine cv_block ?_
    refine cv_seq_k fun K hK => ?_
    refine cv_region_then rfl ?_
    simp -implicitDefEqProofs (disch := first | omega | decide) only [seval, -Int.reducePow, -Nat.reducePow, cC, pv, binv, sAlSrt1, undef, g1, g2]
    refine hK _ _ ?_
    clear hK K
    refine cv_seq_k fun K hK => ?_
    refine cv_region_then rfl ?_
    simp -implicitDefEqProofs (disch := first | omega | decide) only [seval, -Int.reducePow, -Nat.reducePow, cC, pv, binv, sAlSrt1, undef, g1, g2]
    refine ⟨_, h.blk.ld1 (m := 1) (i := 1) (by kernel_rfl) rfl, fun tok htok => ?_⟩
    subst htok
    simp -implicitDefEqProofs (disch := first | omega | decide) only [seval, -Int.reducePow, -Nat.reducePow, cC, pv, binv, sAlSrt1, undef, g1, g2]
    refine ⟨_, hE.ld hit, fun tok htok => ?_⟩
    subst htok
    simp -implicitDefEqProofs (disch := first | omega | decide) only [seval, -Int.reducePow, -Nat.reducePow, cC, pv, binv, sAlSrt1, undef, hx, g1, g2]
    intro bE hbE
    refine appV_at 1 tap29 rfl (fun w hw => src_blk (size := 2) (.head _) rfl hw) rfl (by omega) (by omega) ?_
    intro A1 c1 hl1 hr1
    simp -implicitDefEqProofs (disch := first | omega | decide) only [seval, -Int.reducePow, -Nat.reducePow, cC, pv, binv, sAlSrt1, undef, g1, g2]
    refine hK _ _ ?_
    clear hK K
    have e1 : exCells ys ++ [Value.int .i64 x.off, Value.int .i64 x.len] = exCells (ys ++ x :: []) := (exCells_snoc ys x).symm
    rw [e1]
    refine cv_pick [0] (by decide) ?_
    simp only [pickL, nth]
    refine cv_gen fun G3 hG => ?_
    have g3_0 := congrFun hG 0
    have g3_3 := congrFun hG 3
    have g3_4 := congrFun hG 4
    have g3_5 := congrFun hG 5
    clear hG
    try simp -implicitDefEqProofs (disch := first | omega | decide) only [seval, -Int.reducePow, -Nat.reducePow, cC, pv, binv, sAlSrt1, undef, g1, g2] at g3_0 g3_3 g3_4 g3_5
    have g3 := And.intro g3_0 (And.intro g3_3 (And.intro g3_4 g3_5))
    refine cv_rowA 0 rfl (by omega) fun g hAA hg hNN => ?_
    subst hAA
    simp only [List.eraseIdx_cons_zero, List.eraseIdx_cons_succ, neB_nil, neB_blk, neB_row, neB_snap, and_true, List.not_mem_nil, or_false, sAlSrt1, undef] at hNN hg
    replace hg := And.intro hg hNN
    clear hNN
    refine cv_block ?_
    refine cv_loop (fun F' L' => ∃ (k : Nat) (P Q : List Ext), F' 0 = G3 0 ∧ F' 3 = G3 3 ∧ F' 4 = G3 4 ∧ F' 5 = .int .i64 (k : Int) ∧ L' = [.row (.slice (some ⟨g, 0, none⟩) (n + 1) c1) 39 2 (n + 1) (exCells (P ++ x :: Q))] ∧ k = P.length ∧ SwI us i x P Q) (fun F' L' => (intOf (F' 5)).toNat) ?_ ?_
    · refine ⟨n, ys, [], ?_⟩
      simp -implicitDefEqProofs (disch := first | omega | decide) only [seval, -Int.reducePow, -Nat.reducePow, cC, pv, binv, sAlSrt1, undef, g1, g2, g3]
      exact ⟨hn, ⟨by simpa using hs.perm, by simpa using hs.srt, by simp⟩⟩
    intro G4 L' hI
    obtain ⟨k, P, Q, q0, q3, q4, q5, rfl, ⟨hk, hsw⟩⟩ := hI
    have g4_0 := q0.trans g3_0
    have g4_3 := q3.trans g3_3
    have g4_4 := q4.trans g3_4
    have g4_5 := q5
    clear q0 q3 q4 q5
    have g4 := And.intro g4_0 (And.intro g4_3 (And.intro g4_4 g4_5))
    have hPQ := hsw.lens (by omega)
    refine cv_seq_k fun K hK => ?_
    refine cv_seq_k fun K hK => ?_
    rcases nil_or_snoc P with rfl | ⟨P', p, rfl⟩
    · have k0 : k = 0 := by simpa using hk
      subst k0
      refine cv_draw [(true, 0), (true, 1), (true, 2), (true, 3), (true, 4), (true, 5), (true, 6), (true, 7), (true, 8), (true, 9), (true, 10), (true, 11), (true, 12), (true, 13), (true, 14), (true, 15)] [] mixA rfl (by kernel_rfl) (by kernel_rfl) rfl rfl ?_
      simp -implicitDefEqProofs (disch := first | omega | decide) only [seval, -Int.reducePow, -Nat.reducePow, cC, pv, binv, sAlSrt1, undef, g1, g2, g3, g4]
      refine hK _ _ ?_
      clear hK K
      refine cv_cond ?_
      simp -implicitDefEqProofs (disch := first | omega | decide) only [seval, -Int.reducePow, -Nat.reducePow, cC, pv, binv, sAlSrt1, undef, g1, g2, g3, g4]
      refine cv_exit ?_
      simp only [blockQ, thenQ, if_true, ite_true]
      clear hK K
      refine hK _ _ ?_
      clear hK K
      refine cv_pick [0] (by decide) ?_
      simp only [pickL, nth]
      refine cv_region_then rfl ?_
      simp -implicitDefEqProofs (disch := first | omega | decide) only [seval, -Int.reducePow, -Nat.reducePow, cC, pv, binv, sAlSrt1, undef, g1, g2, g3, g4]
      refine ⟨⟨i + 1, some ⟨g, 0, none⟩, n + 1, c1, x :: Q, ?_⟩, ?_⟩
      · simp -implicitDefEqProofs (disch := first | omega | decide) only [seval, -Int.reducePow, -Nat.reducePow, cC, pv, binv, sAlSrt1, undef, Int.natCast_add, g1, g2, g3, g4]
        exact ⟨by omega, hsw.end htk (by simp)⟩
      · simp only [intOf]; omega
    · have hk2 : k = P'.length + 1 := by simpa using hk
      have hpos : decide ((0 : Int) < (k : Int)) = true := decide_eq_true (by omega)
      have ek : IntKind.i64.wrap ((k : Int) - 1) = (P'.length : Int) := by rw [wrap_in (by omega) (by omega)]; omega
      have hPl : P'.length < n + 1 ∧ k < n + 1 := by simp at hPQ; omega
      have q1 := exCells_get ((P' ++ [p]) ++ x :: Q) P'.length (by simp)
      have q2 := exCells_get ((P' ++ [p]) ++ x :: Q) k (by simp; omega)
      have q3 := exCells_two ((P' ++ [p]) ++ x :: Q) P'.length (by simp)
      have q4 := exCells_two ((P' ++ [p]) ++ x :: Q) k (by simp; omega)
      have r1 : Ex.get ((P' ++ [p]) ++ x :: Q) P'.length = p := get_mid2 P' Q p x
      have r2 : Ex.get ((P' ++ [p]) ++ x :: Q) k = x := by
        have := get_mid (P' ++ [p]) Q x
        rwa [← hk] at this
      rw [r1] at q1 q3
      rw [r2] at q2 q4
      obtain ⟨E, hE1⟩ : ∃ E, exCells ((P' ++ [p]) ++ x :: Q) = E := ⟨_, rfl⟩
      rw [hE1]
      rw [hE1] at q1 q2 q3 q4
      refine cv_draw [(true, 0), (true, 1), (true, 2), (true, 3), (true, 4), (true, 5), (true, 6), (true, 7), (true, 8), (true, 9), (true, 10), (true, 11), (true, 12), (true, 13), (true, 14), (true, 15)] [] mixA rfl (by kernel_rfl) (by kernel_rfl) rfl rfl ?_
      simp -implicitDefEqProofs (disch := first | omega | decide) only [seval, -Int.reducePow, -Nat.reducePow, cC, pv, binv, sAlSrt1, undef, hpos, ek, g1, g2, g3, g4]
      refine ⟨_, ld_row1 (m := 1) (v := .int .i64 p.off) (i := P'.length * 2) (.head _) rfl q1.1, fun tok htok => ?_⟩
      subst htok
      simp -implicitDefEqProofs (disch := first | omega | decide) only [seval, -Int.reducePow, -Nat.reducePow, cC, pv, binv, sAlSrt1, undef, hpos, ek, g1, g2, g3, g4]
      refine ⟨_, ld_row1 (m := 1) (v := .int .i64 x.off) (i := k * 2) (.head _) rfl q2.1, fun tok htok => ?_⟩
      subst htok
      simp -implicitDefEqProofs (disch := first | omega | decide) only [seval, -Int.reducePow, -Nat.reducePow, cC, pv, binv, sAlSrt1, undef, hpos, ek, g1, g2, g3, g4]
      refine hK _ _ ?_
      clear hK K
      refine cv_cond ?_
      simp -implicitDefEqProofs (disch := first | omega | decide) only [seval, -Int.reducePow, -Nat.reducePow, cC, pv, binv, sAlSrt1, undef, g1, g2, g3, g4]
      refine ⟨fun hc => ?_, fun hc => ?_⟩
      · have hlt := of_decide_eq_true hc
        have hsw2 := hsw.step (Int.le_of_lt hlt)
        obtain ⟨E1, hE2⟩ : ∃ E1, exCells (P' ++ x :: x :: Q) = E1 := ⟨_, rfl⟩
        have w1 : E.take (P'.length * 2) ++ [Value.int .i64 x.off, Value.int .i64 x.len] ++ E.drop (P'.length * 2 + 2) = E1 := by
          have := exCells_put P' (x :: Q) p x
          rw [show P' ++ p :: x :: Q = (P' ++ [p]) ++ x :: Q by simp, hE1, hE2] at this
          exact this
        have w2 : E1.take (k * 2) ++ [Value.int .i64 p.off, Value.int .i64 p.len] ++ E1.drop (k * 2 + 2) = exCells (P' ++ x :: p :: Q) := by
          have := exCells_put (P' ++ [x]) Q x p
          rw [show (P' ++ [x]).length = k by simp; omega, show (P' ++ [x]) ++ x :: Q = P' ++ x :: x :: Q by simp, show (P' ++ [x]) ++ p :: Q = P' ++ x :: p :: Q by simp, hE2] at this
          exact this
        have l1 : E.length = (n + 1) * 2 := by rw [← hE1, exCells_len]; simp at hPQ ⊢; omega
        have l2 : E1.length = (n + 1) * 2 := by rw [← hE2, exCells_len]; simp at hPQ ⊢; omega
        refine cv_skip ?_
        try simp only [blockQ, thenQ]
        refine hK _ _ ?_
        clear hK K
        refine cv_block ?_
        refine cv_seq_k fun K hK => ?_
        refine cv_more [] (by decide) (by simp only [pickL, nth, suf_cons, suf_nil, List.mem_cons, true_or, or_true, and_true, eq_self]) (.rd 0 (.rd 1 (.rd 2 (.rd 3 (.rd 4 (.rd 5 (.rd 6 (.rd 7 (.rd 9 (.rd 10 (.rd 11 (.rd 12 (.more 8 (.act 13 (.rd 14 (.act 15 (.rd 16 (.act 17 (.done)))))) (.act 13 (.act 8 (.rd 14 (.act 15 (.rd 16 (.act 17 (.done)))))))))))))))))))) [17] mixA rfl (by kernel_rfl) (by kernel_rfl) (by kernel_rfl) (by kernel_rfl) ?_
        simp only [pickL, nth]
        simp -implicitDefEqProofs (disch := first | omega | decide) only [seval, -Int.reducePow, -Nat.reducePow, cC, pv, binv, sAlSrt1, undef, ek, g1, g2, g3, g4]
        refine ⟨?_, ?_⟩
        · refine ⟨_, ld_row (i := k * 2) (vs := [.int .i64 x.off, .int .i64 x.len]) (.head _) rfl q4, fun tok htok => ?_⟩
          subst htok
          simp -implicitDefEqProofs (disch := first | omega | decide) only [seval, -Int.reducePow, -Nat.reducePow, cC, pv, binv, sAlSrt1, undef, ek, g1, g2, g3, g4]
          refine ⟨_, ld_row (i := P'.length * 2) (vs := [.int .i64 p.off, .int .i64 p.len]) (.head _) rfl q3, fun tok htok => ?_⟩
          subst htok
          simp -implicitDefEqProofs (disch := first | omega | decide) only [seval, -Int.reducePow, -Nat.reducePow, cC, pv, binv, sAlSrt1, undef, ek, g1, g2, g3, g4]
          refine ⟨_, sv_rows 0 (i := P'.length * 2) (vs := [.int .i64 x.off, .int .i64 x.len]) rfl (by rw [l1]; show _ + 2 ≤ _; omega) (by kernel_rfl) rfl, fun tok htok => ?_⟩
          subst htok
          simp -implicitDefEqProofs (disch := first | omega | decide) only [seval, -Int.reducePow, -Nat.reducePow, cC, pv, binv, sAlSrt1, undef, w1, ek, g1, g2, g3, g4]
          refine ⟨_, sv_rows 0 (i := k * 2) (vs := [.int .i64 p.off, .int .i64 p.len]) rfl (by rw [l2]; show _ + 2 ≤ _; omega) (by kernel_rfl) rfl, fun tok htok => ?_⟩
          subst htok
          simp -implicitDefEqProofs (disch := first | omega | decide) only [seval, -Int.reducePow, -Nat.reducePow, cC, pv, binv, sAlSrt1, undef, w2, ek, g1, g2, g3, g4]
          refine ⟨[0], by decide, ?_⟩
          simp only [pickL, nth]
          refine hK _ _ ?_
          clear hK K
          refine cv_region_q rfl ?_
          simp -implicitDefEqProofs (disch := first | omega | decide) only [seval, -Int.reducePow, -Nat.reducePow, cC, pv, binv, sAlSrt1, undef, ek, g1, g2, g3, g4]
          refine ⟨⟨P'.length, P', p :: Q, ?_⟩, ?_⟩
          · simp -implicitDefEqProofs (disch := first | omega | decide) only [seval, -Int.reducePow, -Nat.reducePow, cC, pv, binv, sAlSrt1, undef, g1, g2, g3, g4]
            exact hsw2
          · simp only [intOf]; omega
        · refine ⟨_, ld_row (i := P'.length * 2) (vs := [.int .i64 p.off, .int .i64 p.len]) (.head _) rfl q3, fun tok htok => ?_⟩
          subst htok
          simp -implicitDefEqProofs (disch := first | omega | decide) only [seval, -Int.reducePow, -Nat.reducePow, cC, pv, binv, sAlSrt1, undef, ek, g1, g2, g3, g4]
          refine ⟨_, ld_row (i := k * 2) (vs := [.int .i64 x.off, .int .i64 x.len]) (.head _) rfl q4, fun tok htok => ?_⟩
          subst htok
          simp -implicitDefEqProofs (disch := first | omega | decide) only [seval, -Int.reducePow, -Nat.reducePow, cC, pv, binv, sAlSrt1, undef, ek, g1, g2, g3, g4]
          refine ⟨_, sv_rows 0 (i := P'.length * 2) (vs := [.int .i64 x.off, .int .i64 x.len]) rfl (by rw [l1]; show _ + 2 ≤ _; omega) (by kernel_rfl) rfl, fun tok htok => ?_⟩
          subst htok
          simp -implicitDefEqProofs (disch := first | omega | decide) only [seval, -Int.reducePow, -Nat.reducePow, cC, pv, binv, sAlSrt1, undef, w1, ek, g1, g2, g3, g4]
          refine ⟨_, sv_rows 0 (i := k * 2) (vs := [.int .i64 p.off, .int .i64 p.len]) rfl (by rw [l2]; show _ + 2 ≤ _; omega) (by kernel_rfl) rfl, fun tok htok => ?_⟩
          subst htok
          simp -implicitDefEqProofs (disch := first | omega | decide) only [seval, -Int.reducePow, -Nat.reducePow, cC, pv, binv, sAlSrt1, undef, w2, ek, g1, g2, g3, g4]
          refine ⟨[0], by decide, ?_⟩
          simp only [pickL, nth]
          refine hK _ _ ?_
          clear hK K
          refine cv_region_q rfl ?_
          simp -implicitDefEqProofs (disch := first | omega | decide) only [seval, -Int.reducePow, -Nat.reducePow, cC, pv, binv, sAlSrt1, undef, ek, g1, g2, g3, g4]
          refine ⟨⟨P'.length, P', p :: Q, ?_⟩, ?_⟩
          · simp -implicitDefEqProofs (disch := first | omega | decide) only [seval, -Int.reducePow, -Nat.reducePow, cC, pv, binv, sAlSrt1, undef, g1, g2, g3, g4]
            exact hsw2
          · simp only [intOf]; omega
      · have hge : ¬ x.off < p.off := of_decide_eq_false hc
        have hend := hsw.end htk fun a ha => Int.le_trans (sorted_snoc hsw.srt a ha) (by omega)
        refine cv_exit ?_
        simp only [blockQ, thenQ, if_true, ite_true]
        clear hK K
        refine hK _ _ ?_
        clear hK K
        refine cv_pick [0] (by decide) ?_
        simp only [pickL, nth]
        refine cv_region_then rfl ?_
        simp -implicitDefEqProofs (disch := first | omega | decide) only [seval, -Int.reducePow, -Nat.reducePow, cC, pv, binv, sAlSrt1, undef, g1, g2, g3, g4]
        refine ⟨⟨i + 1, some ⟨g, 0, none⟩, n + 1, c1, (P' ++ [p]) ++ x :: Q, ?_⟩, ?_⟩
        · simp -implicitDefEqProofs (disch := first | omega | decide) only [seval, -Int.reducePow, -Nat.reducePow, cC, pv, binv, sAlSrt1, undef, Int.natCast_add, hE1, g1, g2, g3, g4]
          exact ⟨by omega, hend⟩
        · simp only [intOf]; omega
  refine cv_exit ?_
  simp only [blockQ, thenQ, if_true, ite_true]
  clear hK K
  refine hK _ _ ?_
  clear hK K
  have hit : ¬ i < un := by have := of_decide_eq_false ‹decide ((i : Int) < (un : Int)) = false›; omega
  refine cv_seq_k fun K hK => ?_
  refine cv_region_then rfl ?_
  simp -implicitDefEqProofs (disch := first | omega | decide) only [seval, -Int.reducePow, -Nat.reducePow, cC, pv, binv, sAlSrt1, undef, g1, g2]
  refine hK _ _ ?_
  clear hK K
  refine cv_ret ⟨_, (by simp -implicitDefEqProofs (disch := first | omega | decide) only [seval, -Int.reducePow, -Nat.reducePow, cC, pv, binv, sAlSrt1, undef, g1, g2]; rfl), fun w hw => ?_⟩
  exact ⟨ys, by rw [show us.length = i by omega]; exact hs, _, _, _, rfl, hw.rowNew (by simp), hw.below⟩
end Go.Proofs.Ytejogdielfgeoaa
/- SameExtents of two lists that are alike. -/
namespace Go.Proofs.Ytejogdielfgeoaa
open Go.RowKit Go.Shelf
set_option linter.unusedVariables false
set_option linter.unusedSimpArgs false
set_option maxRecDepth 100000
set_option maxRecDepth 100000 in
theorem sESame1 : type_of% (And.intro (And.intro @eBox.eq_1 (And.intro @exV.eq_1 @Nat.mul_one)) (And.intro @wrap_in (And.intro @cMp @cM))) := (And.intro (And.intro @eBox.eq_1 (And.intro @exV.eq_1 @Nat.mul_one)) (And.intro @wrap_in (And.intro @cMp @cM)))
set_option maxHeartbeats 2000000 in
theorem esame_any (A B : Option Addr) (n c m d : Nat) (xs : List Ext) (W : World) (hE : Exts W W.heap.size A n c xs) (hF : Exts W W.heap.size B m d xs) (hl : xs.length ≤ 1000) :
    Calls Try.prog 23 #[.slice A n c, .slice B m d] W fun e w' => e = .returned (.bool true) ∧ Below W.heap.size W w' := by
  have hl1 := hE.len
  have hl2 := hF.len
  obtain rfl : m = n := by omega
  refine calls_cv (M := []) (n := 26) [.tmp 4] rfl Try.func23 rfl rfl (Nat.le_of_ble_eq_true rfl) (St.nil _ _) ?_
  refine cv_seq_k fun K hK => ?_
  refine cv_region_then rfl ?_
  simp -implicitDefEqProofs (disch := first | omega | decide) only [seval, -Int.reducePow, -Nat.reducePow, cC, pv, binv, sESame1, undef]
  refine hK _ _ ?_
  clear hK K
  refine cv_seq_k fun K hK => ?_
  refine cv_seq_k fun K hK => ?_
  refine cv_region_then rfl ?_
  simp -implicitDefEqProofs (disch := first | omega | decide) only [seval, -Int.reducePow, -Nat.reducePow, cC, pv, binv, sESame1, undef]
  refine hK _ _ ?_
  clear hK K
  refine cv_cond ?_
  simp -implicitDefEqProofs (disch := first | omega | decide) only [seval, -Int.reducePow, -Nat.reducePow, cC, pv, binv, sESame1, undef]
  refine cv_skip ?_
  try simp only [blockQ, thenQ]
  refine hK _ _ ?_
  clear hK K
  refine cv_seq_k fun K hK => ?_
  refine cv_seq_k fun K hK => ?_
  refine cv_region_then rfl ?_
  simp -implicitDefEqProofs (disch := first | omega | decide) only [seval, -Int.reducePow, -Nat.reducePow, cC, pv, binv, sESame1, undef]
  refine hK _ _ ?_
  clear hK K
  refine cv_gen fun G1 hG => ?_
  have g1_0 := congrFun hG 0
  have g1_1 := congrFun hG 1
  have g1_5 := congrFun hG 5
  clear hG
  try simp -implicitDefEqProofs (disch := first | omega | decide) only [seval, -Int.reducePow, -Nat.reducePow, cC, pv, binv, sESame1, undef] at g1_0 g1_1 g1_5
  have g1 := And.intro g1_0 (And.intro g1_1 g1_5)
  refine cv_block ?_
  refine cv_loop (fun F' L' => ∃ (i : Nat), F' 0 = G1 0 ∧ F' 1 = G1 1 ∧ F' 5 = .int .i64 (i : Int) ∧ L' = [] ∧ i ≤ m) (fun F' L' => 2000 - (intOf (F' 5)).toNat) ?_ ?_
  · refine ⟨0, ?_⟩
    simp -implicitDefEqProofs (disch := first | omega | decide) only [seval, -Int.reducePow, -Nat.reducePow, cC, pv, binv, sESame1, undef, g1]
    exact Nat.zero_le _
  intro G2 L' hI
  obtain ⟨i, q0, q1, q5, rfl, hi⟩ := hI
  have g2_0 := q0.trans g1_0
  have g2_1 := q1.trans g1_1
  have g2_5 := q5
  clear q0 q1 q5
  have g2 := And.intro g2_0 (And.intro g2_1 g2_5)
  refine cv_seq_k fun K hK => ?_
  refine cv_seq_k fun K hK => ?_
  refine cv_region_then rfl ?_
  simp -implicitDefEqProofs (disch := first | omega | decide) only [seval, -Int.reducePow, -Nat.reducePow, cC, pv, binv, sESame1, undef, g1, g2]
  refine hK _ _ ?_
  clear hK K
  refine cv_cond ?_
  simp -implicitDefEqProofs (disch := first | omega | decide) only [seval, -Int.reducePow, -Nat.reducePow, cC, pv, binv, sESame1, undef, g1, g2]
  refine ⟨fun hc => ?_, fun hc => ?_⟩
  · refine cv_skip ?_
    try simp only [blockQ, thenQ]
    have hit : i < m := by have := of_decide_eq_true ‹decide ((i : Int) < (m : Int)) = true›; omega
    obtain ⟨bF, oF, rfl, hbF, -⟩ := hE.cells (by omega)
    obtain ⟨bG, oG, rfl, hbG, -⟩ := hF.cells (by omega)
    refine hK _ _ ?_
    clear hK K
    refine cv_seq_k fun K hK => ?_
    refine cv_block ?_
    refine cv_seq_k fun K hK => ?_
    refine cv_draw [(true, 0), (true, 1), (true, 2), (true, 3), (true, 4), (true, 5), (true, 6), (true, 7), (true, 8)] [] mixA rfl (by kernel_rfl) (by kernel_rfl) rfl rfl ?_
    simp -implicitDefEqProofs (disch := first | omega | decide) only [seval, -Int.reducePow, -Nat.reducePow, cC, pv, binv, sESame1, undef, g1, g2]
    refine ⟨_, hE.ld hit, fun tok htok => ?_⟩
    subst htok
    simp -implicitDefEqProofs (disch := first | omega | decide) only [seval, -Int.reducePow, -Nat.reducePow, cC, pv, binv, sESame1, undef, g1, g2]
    refine ⟨_, hF.ld hit, fun tok htok => ?_⟩
    subst htok
    simp -implicitDefEqProofs (disch := first | omega | decide) only [seval, -Int.reducePow, -Nat.reducePow, cC, pv, binv, sESame1, undef, g1, g2]
    refine hK _ _ ?_
    clear hK K
    refine cv_cond ?_
    simp -implicitDefEqProofs (disch := first | omega | decide) only [seval, -Int.reducePow, -Nat.reducePow, cC, pv, binv, sESame1, undef, g1, g2]
    refine cv_skip ?_
    try simp only [blockQ, thenQ]
    refine hK _ _ ?_
    clear hK K
    refine cv_region_then rfl ?_
    simp -implicitDefEqProofs (disch := first | omega | decide) only [seval, -Int.reducePow, -Nat.reducePow, cC, pv, binv, sESame1, undef, g1, g2]
    refine ⟨⟨i + 1, ?_⟩, ?_⟩
    · simp -implicitDefEqProofs (disch := first | omega | decide) only [seval, -Int.reducePow, -Nat.reducePow, cC, pv, binv, sESame1, undef, Int.natCast_add, g1, g2]
      omega
    · simp only [intOf]; omega
  refine cv_exit ?_
  simp only [blockQ, thenQ, if_true, ite_true]
  clear hK K
  refine hK _ _ ?_
  clear hK K
  refine cv_seq_k fun K hK => ?_
  refine cv_region_then rfl ?_
  simp -implicitDefEqProofs (disch := first | omega | decide) only [seval, -Int.reducePow, -Nat.reducePow, cC, pv, binv, sESame1, undef, g1, g2]
  refine hK _ _ ?_
  clear hK K
  refine cv_ret ⟨_, (by simp -implicitDefEqProofs (disch := first | omega | decide) only [seval, -Int.reducePow, -Nat.reducePow, cC, pv, binv, sESame1, undef, g1, g2]; rfl), fun w hw => ?_⟩
  exact ⟨rfl, hw.below⟩
end Go.Proofs.Ytejogdielfgeoaa
/- The sorted lists of the code and of the model are the same. -/
namespace Go.Proofs.Ytejogdielfgeoaa
open Go.RowKit Go.Shelf
set_option linter.unusedVariables false
set_option linter.unusedSimpArgs false
set_option maxRecDepth 100000
theorem Ex.Inv.nodup {N : Int} {us fr : List Ext} {tk : List (Int × Int)} (h : Ex.Inv N us fr tk) : us.Nodup := by
  have hp := h.prop
  have := List.Pairwise.and_mem.1 h.apart
  exact this.imp fun {a b} ⟨ha, hb, hab⟩ e => by
    subst e
    have := (hp a ha).1
    exact hab a.off (by unfold Ex.inn; unfold Ext.prop at this; omega) (by unfold Ex.inn; unfold Ext.prop at this; omega)
theorem mget_key : ∀ {tk : List (Int × Int)} {o : Int}, o ∈ tk.map (·.1) → ∃ l, mget tk o = some l
  | [], o, h => by simp at h
  | p :: tk, o, h => by
    unfold mget
    by_cases hp : p.1 = o
    · exact ⟨_, if_pos hp⟩
    · rw [if_neg hp]
      refine mget_key ?_
      rcases List.mem_cons.1 h with h | h
      · exact absurd h.symm hp
      · exact h
theorem srt_mem {N : Int} {us fr : List Ext} {tk : List (Int × Int)} (h : Ex.Inv N us fr tk) (e : Ext) : e ∈ srtT tk ↔ e ∈ us := by
  unfold srtT srtK
  rw [List.mem_map]
  constructor
  · rintro ⟨o, ho, rfl⟩
    obtain ⟨l, hl⟩ := mget_key ((sortI_perm _).mem_iff.1 ho)
    rw [hl]
    exact (h.tak o l).1 hl
  · intro he
    have hg := (h.tak e.off e.len).2 he
    exact ⟨e.off, (sortI_perm _).mem_iff.2 (List.mem_map.2 ⟨_, Ex.mget_mem hg, rfl⟩), by rw [hg]; rfl⟩
theorem srt_le {tk : List (Int × Int)} : (srtT tk).Pairwise fun a b => a.off ≤ b.off := List.pairwise_map.2 (sortI_le _)
theorem srt_nodup {N : Int} {us fr : List Ext} {tk : List (Int × Int)} (h : Ex.Inv N us fr tk) : (srtT tk).Nodup :=
  List.pairwise_map.2 (((sortI_perm _).nodup_iff.2 h.nd).imp fun hne e => hne (congrArg Ext.off e))
theorem srt_perm {N : Int} {us fr : List Ext} {tk : List (Int × Int)} (h : Ex.Inv N us fr tk) : (srtT tk).Perm us := (List.perm_ext_iff_of_nodup (srt_nodup h) h.nodup).2 (srt_mem h)
theorem srt_same {N : Int} {us fr ys : List Ext} {tk : List (Int × Int)} (h : Ex.Inv N us fr tk) (hs : SrI us ys us.length) : ys = srtT tk := by
  have hp := hs.perm
  rw [List.take_length] at hp
  refine List.Perm.eq_of_pairwise (fun a b ha hb h1 h2 => ?_) hs.srt srt_le (hp.trans (srt_perm h).symm)
  have ha := hp.mem_iff.1 ha
  have hb := (srt_mem h b).1 hb
  obtain ⟨ao, al⟩ := a
  obtain ⟨bo, bl⟩ := b
  obtain rfl : ao = bo := Int.le_antisymm h1 h2
  rw [Ex.key_uniq h ha hb]
theorem Ex.Inv.tkLen {N : Int} {us fr : List Ext} {tk : List (Int × Int)} (h : Ex.Inv N us fr tk) : tk.length = us.length := by rw [← srtT_len tk, (srt_perm h).length_eq]
theorem Ex.Inv.keys {N : Int} {us fr : List Ext} {tk : List (Int × Int)} (h : Ex.Inv N us fr tk) : ∀ p ∈ tk, 0 ≤ p.1 ∧ p.1 ≤ N := fun p hp => by
  obtain ⟨l, hl⟩ := mget_key (List.mem_map.2 ⟨p, hp, rfl⟩)
  have := h.prop _ ((h.tak _ _).1 hl)
  unfold Ext.prop at this
  simp only at this
  omega
set_option maxRecDepth 100000 in
theorem sAlSame1 : type_of% (And.intro (And.intro @eBox.eq_1 (And.intro @exV.eq_1 @Nat.mul_one)) (And.intro @wrap_in (And.intro @cMp @cM))) := (And.intro (And.intro @eBox.eq_1 (And.intro @exV.eq_1 @Nat.mul_one)) (And.intro @wrap_in (And.intro @cMp @cM)))
set_option maxHeartbeats 2000000 in
theorem alike_any (x : AlR) (y : MlR) (W : World) (h : AlW W W.heap.size x) (k : MlW W W.heap.size y) (hI : Ex.Inv y.N y.us x.fr x.tk) :
    Calls Try.prog 10 #[.pointer (some ⟨x.bA, 0, none⟩), .pointer (some ⟨y.bM, 0, none⟩)] W fun e w' => e = .returned (.bool true) ∧ Below W.heap.size W w' := by
  have hfl := hI.frLen
  have h100 := k.len
  have htl := hI.tkLen
  have hN := hI.N1
  have hk := hI.keys
  have hfr := hI.fr
  have hsl := srtT_len x.tk
  refine calls_cv (M := []) (n := 17) [.tmp 4] rfl Try.func10 rfl rfl (Nat.le_of_ble_eq_true rfl) (St.nil _ _) ?_
  refine cv_seq_k fun K hK => ?_
  refine cv_region_then rfl ?_
  simp -implicitDefEqProofs (disch := first | omega | decide) only [seval, -Int.reducePow, -Nat.reducePow, cC, pv, binv, sAlSame1, undef]
  refine hK _ _ ?_
  clear hK K
  refine cv_seq_k fun K hK => ?_
  refine cv_region_then rfl ?_
  simp -implicitDefEqProofs (disch := first | omega | decide) only [seval, -Int.reducePow, -Nat.reducePow, cC, pv, binv, sAlSame1, undef]
  refine callV_row (fun A n c => .slice A n c) (fun w hw => (aFreeList_any x w (h.at hw))) ?_
  intro A1 n1 c1 hl1 hr1
  simp -implicitDefEqProofs (disch := first | omega | decide) only [seval, -Int.reducePow, -Nat.reducePow, cC, pv, binv, sAlSame1, undef]
  refine callV_row (fun A n c => .slice A n c) (fun w hw => (by have := rFreeList_any y w (k.at hw); rw [← hfr] at this; exact this)) ?_
  intro A2 n2 c2 hl2 hr2
  simp -implicitDefEqProofs (disch := first | omega | decide) only [seval, -Int.reducePow, -Nat.reducePow, cC, pv, binv, sAlSame1, undef]
  refine callV_ret (fun w hw => esame_any A1 A2 n1 c1 n2 c2 x.fr w (Exts.of_row hw (.tail _ (.head _))) (Exts.of_row hw (.head _)) (by omega)) ?_
  try simp -implicitDefEqProofs (disch := first | omega | decide) only [seval, -Int.reducePow, -Nat.reducePow, cC, pv, binv, sAlSame1, undef]
  refine callV_row (fun A n c => .slice A n c) (fun w hw => (listed_any x (h.at hw) (by omega) fun p hp => by have := hk p hp; omega)) ?_
  intro A3 n3 c3 hl3 hr3
  simp -implicitDefEqProofs (disch := first | omega | decide) only [seval, -Int.reducePow, -Nat.reducePow, cC, pv, binv, sAlSame1, undef]
  refine callV_row (fun A n c => .slice A n c) (fun w hw => ((rSorted_any y w (k.at hw)).mono fun e w' ⟨ys, q1, q2⟩ => by rw [srt_same hI q1] at q2; exact q2)) ?_
  intro A4 n4 c4 hl4 hr4
  simp -implicitDefEqProofs (disch := first | omega | decide) only [seval, -Int.reducePow, -Nat.reducePow, cC, pv, binv, sAlSame1, undef]
  refine callV_ret (fun w hw => esame_any A3 A4 n3 c3 n4 c4 (srtT x.tk) w (Exts.of_row hw (.tail _ (.head _))) (Exts.of_row hw (.head _)) (by omega)) ?_
  try simp -implicitDefEqProofs (disch := first | omega | decide) only [seval, -Int.reducePow, -Nat.reducePow, cC, pv, binv, sAlSame1, undef]
  refine hK _ _ ?_
  clear hK K
  refine cv_ret ⟨_, (by simp -implicitDefEqProofs (disch := first | omega | decide) only [seval, -Int.reducePow, -Nat.reducePow, cC, pv, binv, sAlSame1, undef]; rfl), fun w hw => ?_⟩
  exact ⟨rfl, hw.below⟩
end Go.Proofs.Ytejogdielfgeoaa
/- The size that a step asks for and the extent that it frees. -/
namespace Go.Proofs.Ytejogdielfgeoaa
open Go.RowKit Go.Shelf
set_option linter.unusedVariables false
set_option linter.unusedSimpArgs false
set_option maxRecDepth 100000
set_option maxRecDepth 100000 in
theorem sAlPick1 : type_of% (And.intro (And.intro @eBox.eq_1 (And.intro @exV.eq_1 @Nat.mul_one)) (And.intro @wrap_in (And.intro @cMp @cM))) := (And.intro (And.intro @eBox.eq_1 (And.intro @exV.eq_1 @Nat.mul_one)) (And.intro @wrap_in (And.intro @cMp @cM)))
set_option maxHeartbeats 2000000 in
theorem size_any (a b c : Int) (ha : 0 ≤ a ∧ a ≤ 255) (hb : 0 ≤ b ∧ b ≤ 255) (hc : 0 ≤ c ∧ c ≤ 255) (W : World) :
    Calls Try.prog 28 #[.agg #[.int .u8 a, .int .u8 b, .int .u8 c]] W fun e w' => (∃ n : Int, e = .returned (.int .i64 n) ∧ True) ∧ Below W.heap.size W w' := by
  refine calls_cv (M := []) (n := 23) [.tmp 2] rfl Try.func28 rfl rfl (Nat.le_of_ble_eq_true rfl) (St.nil _ _) ?_
  refine cv_seq_k fun K hK => ?_
  refine cv_region_then rfl ?_
  simp -implicitDefEqProofs (disch := first | omega | decide) only [seval, -Int.reducePow, -Nat.reducePow, cC, pv, binv, sAlPick1, undef]
  intro b1 hb1
  refine hK _ _ ?_
  clear hK K
  refine cv_seq_k fun K hK => ?_
  refine cv_seq_k fun K hK => ?_
  refine cv_region_then rfl ?_
  simp -implicitDefEqProofs (disch := first | omega | decide) only [seval, -Int.reducePow, -Nat.reducePow, cC, pv, binv, sAlPick1, undef]
  refine hK _ _ ?_
  clear hK K
  refine cv_block ?_
  refine cv_seq_k fun K hK => ?_
  refine cv_region_then rfl ?_
  simp -implicitDefEqProofs (disch := first | omega | decide) only [seval, -Int.reducePow, -Nat.reducePow, cC, pv, binv, sAlPick1, undef]
  refine hK _ _ ?_
  clear hK K
  refine cv_cond ?_
  simp -implicitDefEqProofs (disch := first | omega | decide) only [seval, -Int.reducePow, -Nat.reducePow, cC, pv, binv, sAlPick1, undef]
  refine ⟨fun hc => ?_, fun hc => ?_⟩
  · refine cv_seq_k fun K hK => ?_
    refine cv_region_then rfl ?_
    simp -implicitDefEqProofs (disch := first | omega | decide) only [seval, -Int.reducePow, -Nat.reducePow, cC, pv, binv, sAlPick1, undef]
    refine hK _ _ ?_
    clear hK K
    refine cv_ret ⟨_, (by simp -implicitDefEqProofs (disch := first | omega | decide) only [seval, -Int.reducePow, -Nat.reducePow, cC, pv, binv, sAlPick1, undef]; rfl), fun w hw => ?_⟩
    exact ⟨⟨_, rfl⟩, hw.below⟩
  · refine cv_seq_k fun K hK => ?_
    refine cv_region_then rfl ?_
    simp -implicitDefEqProofs (disch := first | omega | decide) only [seval, -Int.reducePow, -Nat.reducePow, cC, pv, binv, sAlPick1, undef]
    refine hK _ _ ?_
    clear hK K
    refine cv_cond ?_
    simp -implicitDefEqProofs (disch := first | omega | decide) only [seval, -Int.reducePow, -Nat.reducePow, cC, pv, binv, sAlPick1, undef]
    refine ⟨fun hc => ?_, fun hc => ?_⟩
    · refine cv_seq_k fun K hK => ?_
      refine cv_region_then rfl ?_
      simp -implicitDefEqProofs (disch := first | omega | decide) only [seval, -Int.reducePow, -Nat.reducePow, cC, pv, binv, sAlPick1, undef]
      refine hK _ _ ?_
      clear hK K
      refine cv_ret ⟨_, (by simp -implicitDefEqProofs (disch := first | omega | decide) only [seval, -Int.reducePow, -Nat.reducePow, cC, pv, binv, sAlPick1, undef]; rfl), fun w hw => ?_⟩
      exact ⟨⟨_, rfl⟩, hw.below⟩
    · refine cv_skip ?_
      try simp only [blockQ, thenQ]
      refine hK _ _ ?_
      clear hK K
      refine cv_seq_k fun K hK => ?_
      refine cv_region_then rfl ?_
      simp -implicitDefEqProofs (disch := first | omega | decide) only [seval, -Int.reducePow, -Nat.reducePow, cC, pv, binv, sAlPick1, undef]
      refine hK _ _ ?_
      clear hK K
      refine cv_ret ⟨_, (by simp -implicitDefEqProofs (disch := first | omega | decide) only [seval, -Int.reducePow, -Nat.reducePow, cC, pv, binv, sAlPick1, undef]; rfl), fun w hw => ?_⟩
      exact ⟨⟨_, rfl, trivial⟩, hw.below⟩
set_option maxHeartbeats 2000000 in
theorem pick_any (A : Option Addr) (n c : Nat) (xs : List Ext) (k how : Int) (hk : 0 ≤ k ∧ k ≤ 255) (hh : 0 ≤ how ∧ how ≤ 255) (W : World) (hE : Exts W W.heap.size A n c xs) :
    Calls Try.prog 30 #[.slice A n c, .int .i64 k, .int .i64 how] W fun e w' => (∃ x : Ext, e = .returned (exV x) ∧ True) ∧ Below W.heap.size W w' := by
  refine calls_cv2 (M := []) (n := 34) [.cell 6 39] rfl Try.func30 rfl rfl (Nat.le_of_ble_eq_true rfl) (St.nil _ _) ?_
  refine cv_seq_k fun K hK => ?_
  refine cv_region_then rfl ?_
  simp -implicitDefEqProofs (disch := first | omega | decide) only [seval, -Int.reducePow, -Nat.reducePow, cC, pv, binv, sAlPick1, undef]
  intro b6 hb6
  refine hK _ _ ?_
  clear hK K
  refine cv_seq_k fun K hK => ?_
  refine cv_seq_k fun K hK => ?_
  refine cv_region_then rfl ?_
  simp -implicitDefEqProofs (disch := first | omega | decide) only [seval, -Int.reducePow, -Nat.reducePow, cC, pv, binv, sAlPick1, undef]
  refine hK _ _ ?_
  clear hK K
  refine cv_cond ?_
  simp -implicitDefEqProofs (disch := first | omega | decide) only [seval, -Int.reducePow, -Nat.reducePow, cC, pv, binv, sAlPick1, undef]
  refine ⟨fun hc => ?_, fun hc => ?_⟩
  · refine cv_seq_k fun K hK => ?_
    refine cv_region_then rfl ?_
    simp -implicitDefEqProofs (disch := first | omega | decide) only [seval, -Int.reducePow, -Nat.reducePow, cC, pv, binv, sAlPick1, undef]
    refine hK _ _ ?_
    clear hK K
    refine cv_ret ?_
    simp -implicitDefEqProofs (disch := first | omega | decide) only [seval, -Int.reducePow, -Nat.reducePow, cC, pv, binv, sAlPick1, undef, retQ2, ressV, packV]
    intro w hw
    exact ⟨⟨⟨_, _⟩, rfl⟩, hw.below⟩
  · have hn : n ≠ 0 := by intro h0; subst h0; cases hc
    refine cv_skip ?_
    try simp only [blockQ, thenQ]
    refine hK _ _ ?_
    clear hK K
    obtain ⟨bF, oF, rfl, hbF, -⟩ := hE.cells (by omega)
    obtain ⟨i, hi⟩ : ∃ i : Nat, k % (n : Int) = (i : Int) := ⟨(k % n).toNat, (Int.toNat_of_nonneg (Int.emod_nonneg _ (by omega))).symm⟩
    have hin : i < n := by
      have := Int.emod_lt_of_pos k (show (0 : Int) < n by omega)
      omega
    obtain ⟨x, hx⟩ : ∃ x, Ex.get xs i = x := ⟨_, rfl⟩
    refine cv_seq_k fun K hK => ?_
    refine cv_region_then rfl ?_
    simp -implicitDefEqProofs (disch := first | omega | decide) only [seval, -Int.reducePow, -Nat.reducePow, cC, pv, binv, sAlPick1, undef, hi]
    refine ⟨_, hE.ld hin, fun tok htok => ?_⟩
    subst htok
    simp -implicitDefEqProofs (disch := first | omega | decide) only [seval, -Int.reducePow, -Nat.reducePow, cC, pv, binv, sAlPick1, undef, hx, hi]
    intro b7 hb7 hf7
    refine hK _ _ ?_
    clear hK K
    refine cv_gen fun G1 hG => ?_
    have g1_2 := congrFun hG 2
    have g1_6 := congrFun hG 6
    have g1_7 := congrFun hG 7
    clear hG
    try simp -implicitDefEqProofs (disch := first | omega | decide) only [seval, -Int.reducePow, -Nat.reducePow, cC, pv, binv, sAlPick1, undef] at g1_2 g1_6 g1_7
    have g1 := And.intro g1_2 (And.intro g1_6 g1_7)
    refine cv_seq_k fun K hK => ?_
    refine cv_cut (fun _ _ => True) (fun F' L' => ∃ (y : Ext), F' 2 = G1 2 ∧ F' 6 = .pointer (some ⟨b6, 0, none⟩) ∧ F' 7 = .pointer (some ⟨b7, 0, none⟩) ∧ L' = [.blk b7 39 [.int .i64 y.off, .int .i64 y.len], .blk b6 39 [.int .i64 0, .int .i64 0]]) ?_ ?_
    · refine cv_seq_k fun K hK => ?_
      refine cv_region_then rfl ?_
      simp -implicitDefEqProofs (disch := first | omega | decide) only [seval, -Int.reducePow, -Nat.reducePow, cC, pv, binv, sAlPick1, undef, g1]
      refine hK _ _ ?_
      clear hK K
      refine cv_cond ?_
      simp -implicitDefEqProofs (disch := first | omega | decide) only [seval, -Int.reducePow, -Nat.reducePow, cC, pv, binv, sAlPick1, undef, g1]
      refine ⟨fun hc => ?_, fun hc => ?_⟩
      · refine cv_region_q rfl ?_
        simp -implicitDefEqProofs (disch := first | omega | decide) only [seval, -Int.reducePow, -Nat.reducePow, cC, pv, binv, sAlPick1, undef, g1]
        exact ⟨⟨_, _⟩, rfl⟩
      · refine cv_skip ?_
        try simp only [blockQ, thenQ]
        refine ⟨x, ?_⟩
        simp -implicitDefEqProofs (disch := first | omega | decide) only [seval, -Int.reducePow, -Nat.reducePow, cC, pv, binv, sAlPick1, undef, g1]
    intro G2 L' _ hF
    obtain ⟨y, q2, q6, q7, rfl⟩ := hF
    have g2_2 := q2.trans g1_2
    have g2_6 := q6
    have g2_7 := q7
    clear q2 q6 q7
    have g2 := And.intro g2_2 (And.intro g2_6 g2_7)
    refine hK _ _ ?_
    clear hK K
    refine cv_gen fun G3 hG => ?_
    have g3_2 := congrFun hG 2
    have g3_6 := congrFun hG 6
    have g3_7 := congrFun hG 7
    clear hG
    try simp -implicitDefEqProofs (disch := first | omega | decide) only [seval, -Int.reducePow, -Nat.reducePow, cC, pv, binv, sAlPick1, undef, g2] at g3_2 g3_6 g3_7
    have g3 := And.intro g3_2 (And.intro g3_6 g3_7)
    refine cv_seq_k fun K hK => ?_
    refine cv_cut (fun _ _ => True) (fun F' L' => ∃ (z : Ext), F' 6 = .pointer (some ⟨b6, 0, none⟩) ∧ F' 7 = .pointer (some ⟨b7, 0, none⟩) ∧ L' = [.blk b7 39 [.int .i64 z.off, .int .i64 z.len], .blk b6 39 [.int .i64 0, .int .i64 0]]) ?_ ?_
    · refine cv_seq_k fun K hK => ?_
      refine cv_region_then rfl ?_
      simp -implicitDefEqProofs (disch := first | omega | decide) only [seval, -Int.reducePow, -Nat.reducePow, cC, pv, binv, sAlPick1, undef, g3]
      refine hK _ _ ?_
      clear hK K
      refine cv_cond ?_
      simp -implicitDefEqProofs (disch := first | omega | decide) only [seval, -Int.reducePow, -Nat.reducePow, cC, pv, binv, sAlPick1, undef, g3]
      refine ⟨fun hc => ?_, fun hc => ?_⟩
      · refine cv_region_q rfl ?_
        simp -implicitDefEqProofs (disch := first | omega | decide) only [seval, -Int.reducePow, -Nat.reducePow, cC, pv, binv, sAlPick1, undef, g3]
        exact ⟨⟨y.off, IntKind.i64.wrap (y.len - 16)⟩, rfl⟩
      · refine cv_skip ?_
        try simp only [blockQ, thenQ]
        refine ⟨y, ?_⟩
        simp -implicitDefEqProofs (disch := first | omega | decide) only [seval, -Int.reducePow, -Nat.reducePow, cC, pv, binv, sAlPick1, undef, g3]
    intro G4 L' _ hF
    obtain ⟨z, q6, q7, rfl⟩ := hF
    have g4_6 := q6
    have g4_7 := q7
    clear q6 q7
    have g4 := And.intro g4_6 g4_7
    refine hK _ _ ?_
    clear hK K
    refine cv_seq_k fun K hK => ?_
    refine cv_region_then rfl ?_
    simp -implicitDefEqProofs (disch := first | omega | decide) only [seval, -Int.reducePow, -Nat.reducePow, cC, pv, binv, sAlPick1, undef, g4]
    refine hK _ _ ?_
    clear hK K
    refine cv_ret ?_
    simp -implicitDefEqProofs (disch := first | omega | decide) only [seval, -Int.reducePow, -Nat.reducePow, cC, pv, binv, sAlPick1, undef, retQ2, ressV, packV, g4]
    intro w hw
    exact ⟨⟨⟨_, _⟩, rfl⟩, hw.below⟩
end Go.Proofs.Ytejogdielfgeoaa
/- A step of the allocator's laws. -/
namespace Go.Proofs.Ytejogdielfgeoaa
open Go.RowKit Go.Shelf
set_option linter.unusedVariables false
set_option linter.unusedSimpArgs false
set_option maxRecDepth 100000
/-- The memory of a walk: the allocator, the model, the list of all that was given. -/
structure Wk where
  al : AlR
  ml : MlR
  A : Option Addr
  n : Nat
  c : Nat
  es : List Ext
def wkL (z : Wk) : List Res := alL z.al ++ mlL 31 [] z.ml ++ [.row (.slice z.A z.n z.c) 39 2 z.n (exCells z.es)]
structure WkI (N : Int) (k : Nat) (z : Wk) : Prop where
  inv : Ex.Inv z.ml.N z.ml.us z.al.fr z.al.tk
  N : z.ml.N = N
  us : z.ml.us.length ≤ k
  es : z.es.length ≤ k
def StepPost (N : Int) (k : Nat) (z : Wk) (W : World) (e : Ending) (w' : World) : Prop :=
  ∃ z2 : Wk, e = .returned (.tuple #[.slice z2.A z2.n z2.c, .bool true]) ∧ (WkI N (k + 1) z2 ∧ z2.al.bA = z.al.bA ∧ z2.ml.bM = z.ml.bM) ∧ St (feet (wkL z)) W (wkL z2) w'
set_option maxRecDepth 100000 in
theorem sAlStep1 : type_of% (And.intro (And.intro @eBox.eq_1 (And.intro @exV.eq_1 @alL.eq_1)) (And.intro (And.intro @Nat.mul_one @wrap_in) (And.intro @cMp @cM))) := (And.intro (And.intro @eBox.eq_1 (And.intro @exV.eq_1 @alL.eq_1)) (And.intro (And.intro @Nat.mul_one @wrap_in) (And.intro @cMp @cM)))
set_option maxHeartbeats 4000000 in
theorem alStep_any (N : Int) (k : Nat) (z : Wk) (a b c : Int) (W : World) (hst : St (feet (wkL z)) W (wkL z) W) (hI : WkI N k z) (hk : k ≤ 60) (ha : 0 ≤ a ∧ a ≤ 255) (hb : 0 ≤ b ∧ b ≤ 255) (hc : 0 ≤ c ∧ c ≤ 255) :
    Calls Try.prog 11 #[.pointer (some ⟨z.al.bA, 0, none⟩), .pointer (some ⟨z.ml.bM, 0, none⟩), .agg #[.int .u8 a, .int .u8 b, .int .u8 c], .slice z.A z.n z.c] W (StepPost N k z W) := by
  unfold StepPost
  obtain ⟨M, hM⟩ : ∃ M, feet (wkL z) = M := ⟨_, rfl⟩
  rw [hM] at hst ⊢
  clear hM
  obtain ⟨⟨bA, bm, FA, fn, fc, fr, tk⟩, ⟨bM, NN, UA, un, uc, us⟩, A, n, c0, es⟩ := z
  obtain ⟨hI, rfl, hul, hel⟩ := hI
  have hfl := hI.frLen
  dsimp only at hI hul hel hfl
  dsimp only
  unfold wkL alL mlL at hst
  dsimp only [List.cons_append, List.nil_append] at hst
  have hpr := fun e he => (hI.prop e he).1
  refine calls_cv (M := M) (n := 106) [.tmp 8, .tmp 9] rfl Try.func11 rfl rfl (Nat.le_of_ble_eq_true rfl)  hst ?_
  refine cv_seq_k fun K hK => ?_
  refine cv_region_then rfl ?_
  simp -implicitDefEqProofs (disch := first | omega | decide) only [seval, -Int.reducePow, -Nat.reducePow, cC, pv, binv, sAlStep1, undef]
  intro b6 hb6 hf6
  refine hK _ _ ?_
  clear hK K
  refine cv_seq_k fun K hK => ?_
  refine cv_seq_k fun K hK => ?_
  refine cv_region_then rfl ?_
  simp -implicitDefEqProofs (disch := first | omega | decide) only [seval, -Int.reducePow, -Nat.reducePow, cC, pv, binv, sAlStep1, undef]
  refine hK _ _ ?_
  clear hK K
  refine cv_cond ?_
  simp -implicitDefEqProofs (disch := first | omega | decide) only [seval, -Int.reducePow, -Nat.reducePow, cC, pv, binv, sAlStep1, undef]
  refine ⟨fun hc => ?_, fun hc => ?_⟩
  · refine cv_seq_k fun K hK => ?_
    refine cv_region_then rfl ?_
    simp -implicitDefEqProofs (disch := first | omega | decide) only [seval, -Int.reducePow, -Nat.reducePow, cC, pv, binv, sAlStep1, undef]
    refine callV_ex (fun n : Int => .int .i64 n) (fun _ => True) (fun w hw => size_any a b c ha hb ‹0 ≤ c ∧ c ≤ 255› w) ?_
    intro m hm
    simp -implicitDefEqProofs (disch := first | omega | decide) only [seval, -Int.reducePow, -Nat.reducePow, cC, pv, binv, sAlStep1, undef]
    refine hK _ _ ?_
    clear hK K
    obtain ⟨q, hq⟩ : ∃ q, Ex.findF fr m = q := ⟨_, rfl⟩
    refine cv_seq_k fun K hK => ?_
    refine cv_region_then rfl ?_
    simp -implicitDefEqProofs (disch := first | omega | decide) only [seval, -Int.reducePow, -Nat.reducePow, cC, pv, binv, sAlStep1, undef]
    refine callV_ret (fun w hw => Fits_any ⟨bA, bm, FA, fn, fc, fr, tk⟩ m w (AlW.of (x := ⟨bA, bm, FA, fn, fc, fr, tk⟩) hw 1 2 3 rfl rfl rfl (by dsimp only; omega))) ?_
    try simp -implicitDefEqProofs (disch := first | omega | decide) only [seval, -Int.reducePow, -Nat.reducePow, cC, pv, binv, sAlStep1, undef, hq]
    refine hK _ _ ?_
    clear hK K
    refine cv_seq_k fun K hK => ?_
    refine cv_seq_k fun K hK => ?_
    refine cv_region_then rfl ?_
    simp -implicitDefEqProofs (disch := first | omega | decide) only [seval, -Int.reducePow, -Nat.reducePow, cC, pv, binv, sAlStep1, undef]
    refine callV_ret (fun w hw => rFits_any ⟨bM, NN, UA, un, uc, us⟩ m fr tk w (MlW.of (y := ⟨bM, NN, UA, un, uc, us⟩) (T := 31) (rest := []) hw 4 5 rfl rfl (by dsimp only; omega) hpr) hI) ?_
    try simp -implicitDefEqProofs (disch := first | omega | decide) only [seval, -Int.reducePow, -Nat.reducePow, cC, pv, binv, sAlStep1, undef, hq]
    refine callV_ret (fun w hw => alike_any ⟨bA, bm, FA, fn, fc, fr, tk⟩ ⟨bM, NN, UA, un, uc, us⟩ w (AlW.of (x := ⟨bA, bm, FA, fn, fc, fr, tk⟩) hw 1 2 3 rfl rfl rfl (by dsimp only; omega)) (MlW.of (y := ⟨bM, NN, UA, un, uc, us⟩) (T := 31) (rest := []) hw 4 5 rfl rfl (by dsimp only; omega) hpr) hI) ?_
    try simp -implicitDefEqProofs (disch := first | omega | decide) only [seval, -Int.reducePow, -Nat.reducePow, cC, pv, binv, sAlStep1, undef]
    refine hK _ _ ?_
    clear hK K
    refine cv_cond ?_
    simp -implicitDefEqProofs (disch := first | omega | decide) only [seval, -Int.reducePow, -Nat.reducePow, cC, pv, binv, sAlStep1, undef]
    refine cv_skip ?_
    try simp only [blockQ, thenQ]
    refine hK _ _ ?_
    clear hK K
    refine cv_seq_k fun K hK => ?_
    refine cv_region_then rfl ?_
    simp -implicitDefEqProofs (disch := first | omega | decide) only [seval, -Int.reducePow, -Nat.reducePow, cC, pv, binv, sAlStep1, undef]
    refine callV_grp [1, 2, 3] [0, 4, 5, 6] (by decide) (fun _ : AlR => .tuple #[exV q.1, .int .i64 q.2]) (fun x' => alL x') (fun x' => x'.bA = bA ∧ (¬ q.2 = 0 → x' = ⟨bA, bm, FA, fn, fc, fr, tk⟩) ∧ (q.2 = 0 → Ex.Inv NN (us ++ [q.1]) x'.fr x'.tk)) (fun w hw hs => by
      have := aAlloc_any ⟨bA, bm, FA, fn, fc, fr, tk⟩ NN us m w hs hI (by omega)
      dsimp only at this
      rw [hq] at this
      exact this) ?_
    rintro ⟨bA', bm', FA', fn', fc', fr', tk'⟩ ⟨rfl, h2, h3⟩
    dsimp only at h2 h3
    simp only [pickL, nth]
    simp -implicitDefEqProofs (disch := first | omega | decide) only [seval, -Int.reducePow, -Nat.reducePow, cC, pv, binv, sAlStep1, undef]
    intro b12 hb12 hf12
    refine hK _ _ ?_
    clear hK K
    refine cv_seq_k fun K hK => ?_
    refine cv_region_then rfl ?_
    simp -implicitDefEqProofs (disch := first | omega | decide) only [seval, -Int.reducePow, -Nat.reducePow, cC, pv, binv, sAlStep1, undef]
    refine callV_grp [5, 6] [0, 1, 2, 3, 4, 7] (by decide) (fun _ : MlR => .tuple #[exV q.1, .int .i64 q.2]) (fun z => mlL 31 [] z) (fun z => z.bM = bM ∧ z.N = NN ∧ z.us = (if q.2 = 0 then us ++ [q.1] else us)) (fun w hw hs => by
      have := rAlloc_any 31 [] ⟨bM, NN, UA, un, uc, us⟩ m fr tk w hs hI (by dsimp only; omega)
      dsimp only at this
      rw [hq] at this
      exact this) ?_
    rintro ⟨bM', N', UA', un', uc', us'⟩ ⟨hz1, hz2, hz3⟩
    dsimp only at hz1 hz2 hz3
    subst hz1 hz2
    simp only [pickL, nth]
    simp -implicitDefEqProofs (disch := first | omega | decide) only [seval, -Int.reducePow, -Nat.reducePow, cC, pv, binv, sAlStep1, undef, mlL]
    intro b14 hb14 hf14
    refine hK _ _ ?_
    clear hK K
    have hI2 : Ex.Inv N' us' fr' tk' := by
      by_cases h0 : q.2 = 0
      · rw [if_pos h0] at hz3
        rw [hz3]
        exact h3 h0
      · rw [if_neg h0] at hz3
        have := h2 h0
        cases this
        rw [hz3]
        exact hI
    have hl2 : us'.length ≤ k + 1 := by
      rw [hz3]
      split
      · simp; omega
      · omega
    clear hz3 h2 h3
    refine cv_gen fun G1 hG => ?_
    have g1_0 := congrFun hG 0
    have g1_1 := congrFun hG 1
    have g1_3 := congrFun hG 3
    have g1_11 := congrFun hG 11
    have g1_12 := congrFun hG 12
    have g1_13 := congrFun hG 13
    have g1_14 := congrFun hG 14
    have g1_15 := congrFun hG 15
    clear hG
    try simp -implicitDefEqProofs (disch := first | omega | decide) only [seval, -Int.reducePow, -Nat.reducePow, cC, pv, binv, sAlStep1, undef] at g1_0 g1_1 g1_3 g1_11 g1_12 g1_13 g1_14 g1_15
    have g1 := And.intro g1_0 (And.intro g1_1 (And.intro g1_3 (And.intro g1_11 (And.intro g1_12 (And.intro g1_13 (And.intro g1_14 g1_15))))))
    refine cv_seq_k fun K hK => ?_
    refine cv_cut (fun _ _ => True) (fun F' L' => ∃ (A5 : Option Addr) (n5 c5 : Nat) (es5 : List Ext), F' 0 = G1 0 ∧ F' 1 = G1 1 ∧ F' 3 = .slice A5 n5 c5 ∧ F' 11 = G1 11 ∧ F' 12 = G1 12 ∧ F' 13 = G1 13 ∧ F' 14 = G1 14 ∧ F' 15 = G1 15 ∧ L' = [.row (.slice A5 n5 c5) 39 2 n5 (exCells es5), .blk b14 39 [.int .i64 q.1.off, .int .i64 q.1.len], .blk bM' 31 [.int .i64 N', .slice UA' un' uc'], .row (.slice UA' un' uc') 39 2 un' (exCells us'), .blk b12 39 [.int .i64 q.1.off, .int .i64 q.1.len], .blk bA' 42 [.slice FA' fn' fc', .map (some bm')], mpR bm' tk', .row (.slice FA' fn' fc') 39 2 fn' (exCells fr')] ∧ es5.length ≤ k + 1) ?_ ?_
    · refine cv_seq_k fun K hK => ?_
      refine cv_region_then rfl ?_
      simp -implicitDefEqProofs (disch := first | omega | decide) only [seval, -Int.reducePow, -Nat.reducePow, cC, pv, binv, sAlStep1, undef, g1]
      refine hK _ _ ?_
      clear hK K
      refine cv_cond ?_
      simp -implicitDefEqProofs (disch := first | omega | decide) only [seval, -Int.reducePow, -Nat.reducePow, cC, pv, binv, sAlStep1, undef, g1]
      refine ⟨fun hc => ?_, fun hc => ?_⟩
      · refine cv_fact (n = es.length) (fun w hw => (Exts.of_row (xs := es) hw (nth_mem (k := 8) rfl)).len.symm) fun hn => ?_
        refine cv_more [0] (by decide) (by simp only [pickL, nth, suf_cons, suf_nil, List.mem_cons, true_or, or_true, and_true, eq_self]) (.rd 1 (.rd 3 (.more 0 (.more 2 (.act 4 (.act 5 (.rd 6 (.done)))) (.act 4 (.act 2 (.act 5 (.rd 6 (.done)))))) (.act 4 (.act 0 (.act 2 (.act 5 (.rd 6 (.done))))))))) [] mixA rfl (by kernel_rfl) (by kernel_rfl) (by kernel_rfl) (by kernel_rfl) ?_
        simp only [pickL, nth]
        simp -implicitDefEqProofs (disch := first | omega | decide) only [seval, -Int.reducePow, -Nat.reducePow, cC, pv, binv, sAlStep1, undef, g1]
        have o1 := ones_exCells es
        have b1 : 0 + n ≤ 9223372036854775807 := by omega
        have b2 : (0 + n) * 16 ≤ 140737488355328 := by omega
        have b3 : n + 1 ≤ 9223372036854775807 := by omega
        have b4 : (n + 1) * 16 ≤ 140737488355328 := by omega
        refine And.intro ?_ ?_
        · intro bA_ hbA_ hfA_
          refine And.intro ?_ ?_
          · refine appV_lit 0 tap29 rfl rfl (fun w hw => src_row (nth_mem (k := 9) rfl) hw) o1 b1 b2 ?_
            intro A2 c2 hl2_ hr2_
            simp -implicitDefEqProofs (disch := first | omega | decide) only [seval, -Int.reducePow, -Nat.reducePow, cC, pv, binv, sAlStep1, undef, Nat.zero_add, List.nil_append, g1]
            intro bE_ hbE_ hfE_
            refine appV_at 1 tap29 rfl (fun w hw => src_blk (size := 2) (nth_mem (k := 0) rfl) rfl hw) rfl b3 b4 ?_
            intro A4 c4 hl4_ hr4_
            simp -implicitDefEqProofs (disch := first | omega | decide) only [seval, -Int.reducePow, -Nat.reducePow, cC, pv, binv, sAlStep1, undef, g1]
            refine ⟨[0, 2, 3, 4, 5, 6, 7, 8], by decide, ?_⟩
            simp only [pickL, nth]
            refine ⟨A4, n + 1, c4, es ++ [q.1], ?_⟩
            simp -implicitDefEqProofs (disch := first | omega | decide) only [seval, -Int.reducePow, -Nat.reducePow, cC, pv, binv, sAlStep1, undef, exCells_snoc, g1]
            simp only [List.length_append, List.length_cons, List.length_nil]
            omega
          · intro bE_ hbE_ hfE_
            refine appV_lit 1 tap29 rfl rfl (fun w hw => src_row (nth_mem (k := 10) rfl) hw) o1 b1 b2 ?_
            intro A2 c2 hl2_ hr2_
            simp -implicitDefEqProofs (disch := first | omega | decide) only [seval, -Int.reducePow, -Nat.reducePow, cC, pv, binv, sAlStep1, undef, Nat.zero_add, List.nil_append, g1]
            refine appV_at 0 tap29 rfl (fun w hw => src_blk (size := 2) (nth_mem (k := 1) rfl) rfl hw) rfl b3 b4 ?_
            intro A4 c4 hl4_ hr4_
            simp -implicitDefEqProofs (disch := first | omega | decide) only [seval, -Int.reducePow, -Nat.reducePow, cC, pv, binv, sAlStep1, undef, g1]
            refine ⟨[0, 2, 3, 4, 5, 6, 7, 8], by decide, ?_⟩
            simp only [pickL, nth]
            refine ⟨A4, n + 1, c4, es ++ [q.1], ?_⟩
            simp -implicitDefEqProofs (disch := first | omega | decide) only [seval, -Int.reducePow, -Nat.reducePow, cC, pv, binv, sAlStep1, undef, exCells_snoc, g1]
            simp only [List.length_append, List.length_cons, List.length_nil]
            omega
        · intro bE_ hbE_ hfE_ bA_ hbA_ hfA_
          refine appV_lit 0 tap29 rfl rfl (fun w hw => src_row (nth_mem (k := 10) rfl) hw) o1 b1 b2 ?_
          intro A2 c2 hl2_ hr2_
          simp -implicitDefEqProofs (disch := first | omega | decide) only [seval, -Int.reducePow, -Nat.reducePow, cC, pv, binv, sAlStep1, undef, Nat.zero_add, List.nil_append, g1]
          refine appV_at 0 tap29 rfl (fun w hw => src_blk (size := 2) (nth_mem (k := 1) rfl) rfl hw) rfl b3 b4 ?_
          intro A4 c4 hl4_ hr4_
          simp -implicitDefEqProofs (disch := first | omega | decide) only [seval, -Int.reducePow, -Nat.reducePow, cC, pv, binv, sAlStep1, undef, g1]
          refine ⟨[0, 2, 3, 4, 5, 6, 7, 8], by decide, ?_⟩
          simp only [pickL, nth]
          refine ⟨A4, n + 1, c4, es ++ [q.1], ?_⟩
          simp -implicitDefEqProofs (disch := first | omega | decide) only [seval, -Int.reducePow, -Nat.reducePow, cC, pv, binv, sAlStep1, undef, exCells_snoc, g1]
          simp only [List.length_append, List.length_cons, List.length_nil]
          omega
      · refine cv_pick [8, 0, 1, 2, 3, 4, 5, 6] (by decide) ?_
        simp only [pickL, nth]
        refine cv_skip ?_
        try simp only [blockQ, thenQ]
        refine ⟨A, n, c0, es, ?_⟩
        simp -implicitDefEqProofs (disch := first | omega | decide) only [seval, -Int.reducePow, -Nat.reducePow, cC, pv, binv, sAlStep1, undef, g1]
        omega
    intro G2 L' _ hF
    obtain ⟨A5, n5, c5, es5, q0, q1, q3, q11, q12, q13, q14, q15, rfl, hl5⟩ := hF
    have g2_0 := q0.trans g1_0
    have g2_1 := q1.trans g1_1
    have g2_3 := q3
    have g2_11 := q11.trans g1_11
    have g2_12 := q12.trans g1_12
    have g2_13 := q13.trans g1_13
    have g2_14 := q14.trans g1_14
    have g2_15 := q15.trans g1_15
    clear q0 q1 q3 q11 q12 q13 q14 q15
    have g2 := And.intro g2_0 (And.intro g2_1 (And.intro g2_3 (And.intro g2_11 (And.intro g2_12 (And.intro g2_13 (And.intro g2_14 g2_15))))))
    refine hK _ _ ?_
    clear hK K
    refine cv_seq_k fun K hK => ?_
    refine cv_region_then rfl ?_
    simp -implicitDefEqProofs (disch := first | omega | decide) only [seval, -Int.reducePow, -Nat.reducePow, cC, pv, binv, sAlStep1, undef, g2]
    refine callV_ret (fun w hw => alike_any ⟨bA', bm', FA', fn', fc', fr', tk'⟩ ⟨bM', N', UA', un', uc', us'⟩ w (AlW.of (x := ⟨bA', bm', FA', fn', fc', fr', tk'⟩) hw 5 6 7 rfl rfl rfl (by have := hI2.frLen; dsimp only; omega)) (MlW.of (y := ⟨bM', N', UA', un', uc', us'⟩) (T := 31) (rest := []) hw 2 3 rfl rfl (by dsimp only; omega) fun e he => (hI2.prop e he).1) hI2) ?_
    try simp -implicitDefEqProofs (disch := first | omega | decide) only [seval, -Int.reducePow, -Nat.reducePow, cC, pv, binv, sAlStep1, undef, g2]
    refine hK _ _ ?_
    clear hK K
    refine cv_ret ⟨_, (by simp -implicitDefEqProofs (disch := first | omega | decide) only [seval, -Int.reducePow, -Nat.reducePow, cC, pv, binv, sAlStep1, undef, g2]; rfl), fun w hw => ?_⟩
    have h9 := hw.pick (ix := [5, 6, 7, 2, 3, 0]) (by decide)
    simp only [pickL, nth] at h9
    exact ⟨⟨⟨bA', bm', FA', fn', fc', fr', tk'⟩, ⟨bM', N', UA', un', uc', us'⟩, A5, n5, c5, es5⟩, rfl, ⟨⟨hI2, rfl, hl2, hl5⟩, rfl, rfl⟩, h9⟩
  · refine cv_skip ?_
    try simp only [blockQ, thenQ]
    refine hK _ _ ?_
    clear hK K
    refine cv_seq_k fun K hK => ?_
    refine cv_region_then rfl ?_
    simp -implicitDefEqProofs (disch := first | omega | decide) only [seval, -Int.reducePow, -Nat.reducePow, cC, pv, binv, sAlStep1, undef]
    refine callV_ex (fun x : Ext => exV x) (fun _ => True) (fun w hw => pick_any A n c0 es b c hb ‹0 ≤ c ∧ c ≤ 255› w (Exts.of_row hw (nth_mem (k := 6) rfl))) ?_
    intro x hx
    simp -implicitDefEqProofs (disch := first | omega | decide) only [seval, -Int.reducePow, -Nat.reducePow, cC, pv, binv, sAlStep1, undef]
    intro b16 hb16 hf16
    refine hK _ _ ?_
    clear hK K
    refine cv_gen fun G3 hG => ?_
    have g3_0 := congrFun hG 0
    have g3_1 := congrFun hG 1
    have g3_3 := congrFun hG 3
    have g3_16 := congrFun hG 16
    clear hG
    try simp -implicitDefEqProofs (disch := first | omega | decide) only [seval, -Int.reducePow, -Nat.reducePow, cC, pv, binv, sAlStep1, undef] at g3_0 g3_1 g3_3 g3_16
    have g3 := And.intro g3_0 (And.intro g3_1 (And.intro g3_3 g3_16))
    have hhas := hI.has x
    refine cv_seq_k fun K hK => ?_
    refine cv_seq_k fun K hK => ?_
    refine cv_draw_of (pickL [0] _) (fun w hw => hw.pick (by decide)) (by simp only [pickL, nth, suf_cons, suf_nil, List.mem_cons, true_or, or_true, and_true, eq_self]) [(true, 0), (true, 1), (true, 3), (true, 4), (false, 2), (false, 5), (true, 6)] [] mixA rfl (by kernel_rfl) (by kernel_rfl) rfl rfl ?_
    simp -implicitDefEqProofs (disch := first | omega | decide) only [seval, -Int.reducePow, -Nat.reducePow, cC, pv, binv, sAlStep1, undef, g3]
    refine callV_ret (fun w hw => aHas_any ⟨bA, bm, FA, fn, fc, fr, tk⟩ x w (AlW.of (x := ⟨bA, bm, FA, fn, fc, fr, tk⟩) hw 2 3 4 rfl rfl rfl (by dsimp only; omega))) ?_
    try simp -implicitDefEqProofs (disch := first | omega | decide) only [seval, -Int.reducePow, -Nat.reducePow, cC, pv, binv, sAlStep1, undef, g3]
    refine callV_ret (fun w hw => rHas_any ⟨bM, NN, UA, un, uc, us⟩ x w (MlW.of (y := ⟨bM, NN, UA, un, uc, us⟩) (T := 31) (rest := []) hw 5 6 rfl rfl (by dsimp only; omega) hpr)) ?_
    try simp -implicitDefEqProofs (disch := first | omega | decide) only [seval, -Int.reducePow, -Nat.reducePow, cC, pv, binv, sAlStep1, undef, g3]
    refine hK _ _ ?_
    clear hK K
    rw [show decide (mget tk x.off = some x.len) = decide (x ∈ us) from decide_eq_decide.2 hhas]
    refine cv_cond ?_
    simp -implicitDefEqProofs (disch := first | omega | decide) only [seval, -Int.reducePow, -Nat.reducePow, cC, pv, binv, sAlStep1, undef, g3]
    refine cv_skip ?_
    try simp only [blockQ, thenQ]
    refine hK _ _ ?_
    clear hK K
    obtain ⟨ec, hec⟩ : ∃ ec : Int, (if x ∈ us then (0 : Int) else 6) = ec := ⟨_, rfl⟩
    refine cv_seq_k fun K hK => ?_
    refine cv_draw_of (pickL [0] _) (fun w hw => hw.pick (by decide)) (by simp only [pickL, nth, suf_cons, suf_nil, List.mem_cons, true_or, or_true, and_true, eq_self]) [(true, 0), (true, 1), (true, 2), (true, 4), (true, 5), (false, 3), (false, 6), (true, 7), (true, 8), (true, 9), (true, 10), (false, 11), (true, 12), (true, 13), (true, 14)] [] mixA rfl (by kernel_rfl) (by kernel_rfl) rfl rfl ?_
    simp -implicitDefEqProofs (disch := first | omega | decide) only [seval, -Int.reducePow, -Nat.reducePow, cC, pv, binv, sAlStep1, undef, g3]
    refine callV_grp [2, 3, 4] [0, 1, 5, 6, 7] (by decide) (fun _ : AlR => .int .i64 ec) (fun x' => alL x') (fun x' => x'.bA = bA ∧ (x ∉ us → x' = ⟨bA, bm, FA, fn, fc, fr, tk⟩) ∧ (x ∈ us → Ex.Inv NN (us.filter fun y => decide (y ≠ x)) x'.fr x'.tk)) (fun w hw hs => by
      have := aFree_any ⟨bA, bm, FA, fn, fc, fr, tk⟩ NN us x w hs hI (by omega)
      dsimp only at this
      rw [hec] at this
      exact this) ?_
    rintro ⟨bA', bm', FA', fn', fc', fr', tk'⟩ ⟨hbA, h2, h3⟩
    dsimp only at hbA h2 h3
    subst hbA
    simp only [pickL, nth]
    simp -implicitDefEqProofs (disch := first | omega | decide) only [seval, -Int.reducePow, -Nat.reducePow, cC, pv, binv, sAlStep1, undef, g3]
    refine callV_grp [5, 6] [0, 1, 2, 3, 4, 7] (by decide) (fun _ : MlR => .int .i64 ec) (fun z => mlL 31 [] z) (fun z => z.bM = bM ∧ z.N = NN ∧ z.us = (us.filter fun y => decide (y ≠ x))) (fun w hw hs => by
      have := rFree_any 31 [] ⟨bM, NN, UA, un, uc, us⟩ x w hs (by dsimp only; omega)
      dsimp only at this
      rw [hec] at this
      exact this) ?_
    rintro ⟨bM', N', UA', un', uc', us'⟩ ⟨hz1, hz2, hz3⟩
    dsimp only at hz1 hz2 hz3
    subst hz1 hz2
    simp only [pickL, nth]
    simp -implicitDefEqProofs (disch := first | omega | decide) only [seval, -Int.reducePow, -Nat.reducePow, cC, pv, binv, sAlStep1, undef, mlL, g3]
    have hI2 : Ex.Inv N' us' fr' tk' := by
      by_cases h0 : x ∈ us
      · rw [hz3]
        exact h3 h0
      · have := h2 h0
        cases this
        rw [hz3, List.filter_eq_self.2 (fun y hy => decide_eq_true (by rintro rfl; exact h0 hy))]
        exact hI
    have hl2 : us'.length ≤ k := by
      rw [hz3]
      exact Nat.le_trans (List.length_filter_le _ _) hul
    refine callV_ret (fun w hw => alike_any ⟨bA', bm', FA', fn', fc', fr', tk'⟩ ⟨bM', N', UA', un', uc', us'⟩ w (AlW.of (x := ⟨bA', bm', FA', fn', fc', fr', tk'⟩) hw 2 3 4 rfl rfl rfl (by have := hI2.frLen; dsimp only; omega)) (MlW.of (y := ⟨bM', N', UA', un', uc', us'⟩) (T := 31) (rest := []) hw 0 1 rfl rfl (by dsimp only; omega) fun e he => (hI2.prop e he).1) hI2) ?_
    try simp -implicitDefEqProofs (disch := first | omega | decide) only [seval, -Int.reducePow, -Nat.reducePow, cC, pv, binv, sAlStep1, undef, g3]
    refine hK _ _ ?_
    clear hK K
    refine cv_ret ⟨_, (by simp -implicitDefEqProofs (disch := first | omega | decide) only [seval, -Int.reducePow, -Nat.reducePow, cC, pv, binv, sAlStep1, undef, g3]; rfl), fun w hw => ?_⟩
    have h9 := hw.pick (ix := [2, 3, 4, 0, 1, 7]) (by decide)
    simp only [pickL, nth] at h9
    exact ⟨⟨⟨bA', bm', FA', fn', fc', fr', tk'⟩, ⟨bM', N', UA', un', uc', us'⟩, A, n, c0, es⟩, rfl, ⟨⟨hI2, rfl, Nat.le_succ_of_le hl2, Nat.le_succ_of_le hel⟩, rfl, rfl⟩, h9⟩
end Go.Proofs.Ytejogdielfgeoaa
