/- A region that draws its order, walked in ONE order: the operations that only read are taken first, by a plan that is checked once; behind an operation that acts, the condition S is shown anew, but not behind those that wait for every read (the stores at a statement's end). After Derived/OrdersHeld.lean, turned. -/
import Derived.OrdersHeld
import Derived.Tactics
import Derived.LoopTactic
namespace Go.Proofs.Ytehfnjaompkikaa
set_option linter.unusedVariables false
section
variable {P : Program} {ops : Array Oper} {Q : Exit → Act → World → Prop} {md : Region.Mode} {S : World → Prop} {fin : List Nat}

/-- Whatever order is picked from here on, and S holds behind every operation that is carried out and is not in the list fin. -/
def wpAnyN (P : Program) (md : Region.Mode) (ops : Array Oper) (Q : Exit → Act → World → Prop) (S : World → Prop) (fin : List Nat) : Nat → Array Bool → Act → World → Prop
  | 0, listed, a, w => Region.ready md ops listed = [] ∧ Q .normal a w
  | fuel + 1, listed, a, w =>
    (Region.ready md ops listed = [] → Q .normal a w) ∧
    ∀ i ∈ Region.ready md ops listed, wpOp P ops Q i (fun a' w' => (fin.contains i = false → S w') ∧ wpAnyN P md ops Q S fin fuel (listed.setIfInBounds i true) a' w') a w

theorem wpAny_of_need : ∀ (fuel : Nat) (listed : Array Bool) (a : Act) (w : World), wpAnyN P md ops Q S fin fuel listed a w → wpAny P md ops Q fuel listed a w
  | 0, _, _, _, h => h
  | fuel + 1, _, _, _, h => ⟨h.1, fun i hi => wpOp_mono (fun a' w' h' => wpAny_of_need fuel _ a' w' h'.2) (h.2 i hi)⟩

/-- Those that wait for number i, directly or through others. -/
def behind (md : Region.Mode) (ops : Array Oper) (i : Nat) : List Nat :=
  (List.range ops.size).foldl (fun C k => if ((ops[k]?).any fun o => o.after.any fun e => Region.binds md e && (e.on == i || C.contains e.on)) then k :: C else C) []
/-- Every operation of the list waits for number i; none of those that wait is done. -/
def waited (md : Region.Mode) (ops : Array Oper) (fin : List Nat) (i : Nat) (listed : Array Bool) : Bool :=
  let C := behind md ops i
  (fin.all fun j => C.contains j) && C.all fun k => !(listed.getD k true) && match ops[k]? with
    | none => false
    | some o => o.after.any fun e => Region.binds md e && (e.on == i || C.contains e.on)
theorem waited_spec {fin : List Nat} {i : Nat} {listed : Array Bool} (h : waited md ops fin i listed = true) : (∀ j, fin.contains j = true → j ∈ behind md ops i) ∧
    (∀ k ∈ behind md ops i, listed.getD k true = false) ∧ ∀ k ∈ behind md ops i, ∀ o, ops[k]? = some o → ∃ e ∈ o.after, Region.binds md e = true ∧ (e.on = i ∨ e.on ∈ behind md ops i) := by
  simp only [waited, Bool.and_eq_true, List.all_eq_true] at h
  refine ⟨fun j hj => by simpa using h.1 j (by simpa using hj), fun k hk => by simpa using (h.2 k hk).1, fun k hk o ho => ?_⟩
  have := (h.2 k hk).2
  rw [ho] at this
  obtain ⟨m, hm, hm2⟩ := Array.any_eq_true.1 this
  have h2 := Bool.and_eq_true_iff.1 hm2
  refine ⟨o.after[m], Array.getElem_mem hm, h2.1, ?_⟩
  have h3 := h2.2
  simp only [Bool.or_eq_true, beq_iff_eq, List.contains_iff_mem] at h3
  exact h3

theorem wpAnyN_first {i : Nat} {oi : Oper} {v : Value} (hi : ops[i]? = some oi) (C : List Nat) (hn : ∀ j, fin.contains j = true → j ∈ C) (hC : ∀ k ∈ C, ∀ o, ops[k]? = some o → ∃ e ∈ o.after, Region.binds md e = true ∧ (e.on = i ∨ e.on ∈ C)) (hsel : ∀ (j : Nat) (o : Oper) cs b, ops[j]? = some o → o.op ≠ .select cs b)
    (hQ : ∀ c a w, Q (.panic c) (a.put oi.dst v) w → Q (.panic c) a w) :
    ∀ (fuel : Nat) (listed : Array Bool) (a : Act) (w : World),
      (∀ j oj, ops[j]? = some oj → j ≠ i → listed.getD j true = false → (∀ e ∈ oj.after, Region.binds md e = true → e.on ≠ i) → oi.apart ops oj = true) →
      (∀ k ∈ C, listed.getD k true = false) →
      i ∈ Region.ready md ops listed → YieldsIf P ops S oi v a → S w →
      wpAnyN P md ops Q S fin fuel (listed.setIfInBounds i true) (a.put oi.dst v) w → wpAnyN P md ops Q S fin (fuel + 1) listed a w := by
  intro fuel
  induction fuel with
  | zero =>
    intro listed a w _ _ hr hy hS H
    refine ⟨fun h => (by rw [h] at hr; cases hr), fun j hj => ?_⟩
    by_cases hji : j = i
    · subst hji; exact hy.wpOp hi hS ⟨fun _ => hS, H⟩
    · have := ready_mono hj hji
      rw [H.1] at this
      cases this
  | succ fuel ih =>
    intro listed a w hfree hun0 hr hy hS H
    refine ⟨fun h => (by rw [h] at hr; cases hr), fun j hj => ?_⟩
    by_cases hji : j = i
    · subst hji; exact hy.wpOp hi hS ⟨fun _ => hS, H⟩
    · have h1 := H.2 j (ready_mono hj hji)
      obtain ⟨hjun, oj, hoj, hall⟩ := mem_ready.1 hj
      have hnot : ∀ e ∈ oj.after, Region.binds md e = true → e.on ≠ i := fun e he hb heq => by
        have h1 := hall e he hb
        have h0 := (mem_ready.1 hr).1
        rw [heq] at h1
        rcases Nat.lt_or_ge i listed.size with h' | h'
        · simp [h'] at h0 h1; rw [h0] at h1; cases h1
        · simp [Array.getElem?_eq_none h'] at h1
      have hjC : j ∉ C := fun hjC => by
        obtain ⟨e, he, hb, heq⟩ := hC j hjC oj hoj
        rcases heq with heq | heq
        · exact hnot e he hb heq
        · have h1 := hall e he hb
          have h0 := hun0 _ heq
          rcases Nat.lt_or_ge e.on listed.size with h' | h'
          · simp [h'] at h0 h1; rw [h0] at h1; cases h1
          · simp [Array.getElem?_eq_none h'] at h1
      have hfin : fin.contains j = false := by
        cases hc : fin.contains j with
        | false => rfl
        | true => exact absurd (hn j hc) hjC
      have hun1 : ∀ k ∈ C, (listed.setIfInBounds j true).getD k true = false := fun k hk => by
        rw [getD_set_ne true (show ¬ j = k by rintro rfl; exact hjC hk)]
        exact hun0 k hk
      have h2 := wpOp_putIf hoj (hfree j oj hoj hji hjun hnot) (fun cs b => hsel i oi cs b hi) (fun cs b => hsel j oj cs b hoj) hQ hy h1
      have hfree' : ∀ k ok, ops[k]? = some ok → k ≠ i → (listed.setIfInBounds j true).getD k true = false →
          (∀ e ∈ ok.after, Region.binds md e = true → e.on ≠ i) → oi.apart ops ok = true := fun k ok hk hki hun hno => by
        refine hfree k ok hk hki ?_ hno
        by_cases hjk : j = k
        · subst hjk; exact hjun
        · rw [getD_set_ne true hjk] at hun; exact hun
      refine wpOp_mono (fun a' w' h3 => ⟨h3.2.1, ih (listed.setIfInBounds j true) a' w' hfree' hun1 (ready_mono hr (Ne.symm hji)) h3.1 (h3.2.1 hfin) ?_⟩) h2
      rw [Array.setIfInBounds_comm _ _ hji]
      exact h3.2.2

theorem wpAnyN_take {i : Nat} {oi : Oper} {v : Value} {fuel : Nat} {listed : Array Bool} {a : Act} {w : World} (hi : ops[i]? = some oi) (hn : waited md ops fin i listed = true)
    (hs : Region.noSelect ops = true) (hf : Region.free md ops listed i = true) (hr : (Region.ready md ops listed).contains i = true)
    (hQ : ∀ c a w, Q (.panic c) (a.put oi.dst v) w → Q (.panic c) a w) (hy : YieldsIf P ops S oi v a) (hS : S w)
    (h : wpAnyN P md ops Q S fin fuel (listed.setIfInBounds i true) (a.put oi.dst v) w) : wpAnyN P md ops Q S fin (fuel + 1) listed a w :=
  wpAnyN_first hi (behind md ops i) (waited_spec hn).1 (waited_spec hn).2.2 (Region.noSelect_spec hs) hQ fuel listed a w (Region.free_spec hi hf) (waited_spec hn).2.1 (by simpa using hr) hy hS h

/-- A plan: the operations in the order in which they are walked; true: it only reads and is taken first; false: it acts, and nothing else may come up in its place. -/
def planOk (md : Region.Mode) (ops : Array Oper) (fin : List Nat) : List (Bool × Nat) → Array Bool → Bool
  | [], listed => (Region.ready md ops listed).isEmpty
  | (true, i) :: r, listed => waited md ops fin i listed && Region.free md ops listed i && (Region.ready md ops listed).contains i && planOk md ops fin r (listed.setIfInBounds i true)
  | (false, i) :: r, listed => (Region.ready md ops listed == [i]) && planOk md ops fin r (listed.setIfInBounds i true)

def wpPlan (P : Program) (ops : Array Oper) (Q : Exit → Act → World → Prop) (S : World → Prop) (fin : List Nat) : List (Bool × Nat) → Act → World → Prop
  | [], a, w => Q .normal a w
  | (true, i) :: r, a, w => S w ∧ ∃ o v, ops[i]? = some o ∧ YieldsIf P ops S o v a ∧ wpPlan P ops Q S fin r (a.put o.dst v) w
  | (false, i) :: r, a, w => ∃ o, ops[i]? = some o ∧ wpList P ops (Exit.then (fun a' w' => (fin.contains i = false → S w') ∧ wpPlan P ops Q S fin r a' w') Q) [o] a w

theorem plan_done {a : Act} {w : World} (h : Q .normal a w) : wpPlan P ops Q S fin [] a w := h
/-- A place of a list, found by plain steps: so that an operation stands written out. -/
def nth {α : Type} : List α → Nat → Option α
  | [], _ => none
  | x :: _, 0 => some x
  | _ :: l, n + 1 => nth l n
theorem nth_eq {α : Type} : ∀ (l : List α) (n : Nat), nth l n = l[n]?
  | [], n => by simp [nth]
  | x :: l, 0 => by simp [nth]
  | x :: l, n + 1 => by simp [nth, nth_eq l n]
theorem nth_op {i : Nat} {o : Oper} (h : nth ops.toList i = some o) : ops[i]? = some o := by rw [nth_eq] at h; simpa using h
theorem plan_yes {i : Nat} {r : List (Bool × Nat)} {o : Oper} {v : Value} {a : Act} {w : World} (hS : S w) (ho : nth ops.toList i = some o) (hw : Region.wanted o (yielded ops a.tmps) = true)
    (hy : ∀ w, S w → (execOp a.eval o).run P w = .ok (.value v) w) (h : wpPlan P ops Q S fin r (a.put o.dst v) w) : wpPlan P ops Q S fin ((true, i) :: r) a w := ⟨hS, o, v, nth_op ho, .inl ⟨hw, hy⟩, h⟩
theorem plan_no {i : Nat} {r : List (Bool × Nat)} {o : Oper} {a : Act} {w : World} (hS : S w) (ho : nth ops.toList i = some o) (hw : Region.wanted o (yielded ops a.tmps) = false)
    (h : wpPlan P ops Q S fin r (a.put o.dst undef) w) : wpPlan P ops Q S fin ((true, i) :: r) a w := ⟨hS, o, undef, nth_op ho, .inr ⟨hw, rfl⟩, h⟩
theorem plan_act {i : Nat} {r : List (Bool × Nat)} {o : Oper} {a : Act} {w : World} (ho : nth ops.toList i = some o)
    (h : ∀ K : Act → World → Prop, (∀ a' w', (fin.contains i = false → S w') → wpPlan P ops Q S fin r a' w' → K a' w') → wpList P ops (Exit.then K Q) [o] a w) : wpPlan P ops Q S fin ((false, i) :: r) a w :=
  ⟨o, nth_op ho, h _ fun a' w' h1 h2 => ⟨h1, h2⟩⟩
theorem plan_skip {i : Nat} {r : List (Bool × Nat)} {o : Oper} {a : Act} {w : World} (ho : nth ops.toList i = some o) (hw : Region.wanted o (yielded ops a.tmps) = false) (hS : S w)
    (h : wpPlan P ops Q S fin r (a.put o.dst undef) w) : wpPlan P ops Q S fin ((false, i) :: r) a w :=
  ⟨o, nth_op ho, by simp only [wpList, hw]; exact ⟨fun _ => hS, h⟩⟩

theorem wpOp_of_list {i : Nat} {o : Oper} {K : Act → World → Prop} {a : Act} {w : World} (ho : ops[i]? = some o) (h : wpList P ops (Exit.then K Q) [o] a w) : wpOp P ops Q i K a w := by
  unfold wpOp
  simp only [ho]
  unfold wpList at h
  split
  · rename_i hw
    rw [if_pos hw] at h
    rcases h with h | h
    · refine .inl ?_
      unfold Oper.wp at *
      generalize (execOp a.eval o).run P w = res at *
      cases res with
      | ok n w' =>
        cases n <;> simp only [Oper.upon] at h ⊢ <;> first
          | exact h
          | exact Calls.mono h (fun e w'' he => by cases e <;> exact he)
          | exact Rows.mono h (fun _ _ he => he)
      | halt x w' => cases x <;> simp only [Oper.upon] at h ⊢ <;> exact h
    · exact .inr h
  · rename_i hw
    rw [if_neg hw] at h
    exact h

theorem plan_sound (hs : Region.noSelect ops = true) (hQ : ∀ c d v (a : Act) w, Q (.panic c) (a.put d v) w → Q (.panic c) a w) :
    ∀ (p : List (Bool × Nat)) (listed : Array Bool) (a : Act) (w : World), planOk md ops fin p listed = true → wpPlan P ops Q S fin p a w → wpAnyN P md ops Q S fin p.length listed a w
  | [], listed, a, w, hp, h => ⟨by simpa [planOk] using hp, h⟩
  | (true, i) :: r, listed, a, w, hp, h => by
    simp only [planOk, Bool.and_eq_true] at hp
    obtain ⟨⟨⟨h1, h2⟩, h3⟩, h4⟩ := hp
    obtain ⟨hS, o, v, ho, hy, hr⟩ := h
    exact wpAnyN_take ho h1 hs h2 h3 (fun c a w => hQ c _ _ a w) hy hS (plan_sound hs hQ r _ _ _ h4 hr)
  | (false, i) :: r, listed, a, w, hp, h => by
    simp only [planOk, Bool.and_eq_true, beq_iff_eq] at hp
    obtain ⟨h1, h2⟩ := hp
    obtain ⟨o, ho, hl⟩ := h
    refine ⟨fun h0 => (by rw [h0] at h1; cases h1), fun j hj => ?_⟩
    rw [h1] at hj
    obtain rfl : j = i := by simpa using hj
    exact wpOp_mono (fun a' w' h' => ⟨h'.1, plan_sound hs hQ r _ _ _ h2 h'.2⟩) (wpOp_of_list ho hl)

/-- **A region that draws its order, by a plan.** -/
theorem wp_region_plan {id : Nat} {a : Act} {w : World} (p : List (Bool × Nat)) (S : World → Prop) (fin : List Nat) (hm : P.follows .mixedOrders = true) (hs : Region.noSelect ops = true)
    (hp : planOk .any ops fin p (Array.replicate ops.size false) = true) (hz : p.length = ops.size) (hQ : ∀ c d v (a : Act) w, Q (.panic c) (a.put d v) w → Q (.panic c) a w)
    (h : wpPlan P ops Q S fin p a w.drew) : (Code.region id ops true).wp P Q a w :=
  wp_region_any hm (wpAny_of_need _ _ _ _ (by rw [← hz]; exact plan_sound hs hQ p _ _ _ (by rw [hz]; exact hp) h))
end
end Go.Proofs.Ytehfnjaompkikaa
