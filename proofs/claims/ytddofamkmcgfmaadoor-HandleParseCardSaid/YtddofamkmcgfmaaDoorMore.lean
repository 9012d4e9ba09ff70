/- Regions that draw their order among any number of operations that act. -/
import Derived.Test.YtddofamkmcgfmaaDoorTree
import Derived.Test.YtddofamkmcgfmaaDoorEng10
namespace Go.Proofs.YtddofamkmcgfmaaDoor
open Go.RowKit Go.Shelf
set_option linter.unusedVariables false
set_option linter.unusedSimpArgs false
/-- rd: only reads, taken first; act: acts, the last that may come up; more: acts, and others may come up. -/
inductive PM where
  | done
  | rd (i : Nat) (r : PM)
  | act (i : Nat) (r : PM)
  | more (i : Nat) (p q : PM)
def PM.ok (md : Region.Mode) (ops : Array Oper) (fin : List Nat) : PM → Nat → Array Bool → Bool
  | .done, sk, listed => sk == 0 && (Region.ready md ops listed).isEmpty
  | .rd i r, sk, listed => sk == 0 && waited md ops fin i listed && Region.free md ops listed i && (Region.ready md ops listed).contains i && PM.ok md ops fin r 0 (listed.setIfInBounds i true)
  | .act i r, sk, listed => ((Region.ready md ops listed).drop sk == [i]) && PM.ok md ops fin r 0 (listed.setIfInBounds i true)
  | .more i p q, sk, listed => (((Region.ready md ops listed).drop sk).head? == some i) && PM.ok md ops fin p 0 (listed.setIfInBounds i true) && PM.ok md ops fin q (sk + 1) listed
def PM.lenOk : PM → Nat → Bool
  | .done, n => n == 0
  | .rd _ r, n + 1 => r.lenOk n
  | .act _ r, n + 1 => r.lenOk n
  | .more _ p q, n + 1 => p.lenOk n && q.lenOk (n + 1)
  | _, 0 => false
def PM.spine : PM → Bool
  | .act _ _ => true
  | .more _ _ q => q.spine
  | _ => false
section
variable {P : Program} {ops : Array Oper} {Q : Exit → Act → World → Prop} {md : Region.Mode} {S : World → Prop} {fin : List Nat}
def wpM (P : Program) (ops : Array Oper) (Q : Exit → Act → World → Prop) (S : World → Prop) (fin : List Nat) : PM → Act → World → Prop
  | .done, a, w => Q .normal a w
  | .rd i r, a, w => S w ∧ ∃ o v, ops[i]? = some o ∧ YieldsIf P ops S o v a ∧ wpM P ops Q S fin r (a.put o.dst v) w
  | .act i r, a, w => ∃ o, ops[i]? = some o ∧ wpList P ops (Exit.then (fun a' w' => (fin.contains i = false → S w') ∧ wpM P ops Q S fin r a' w') Q) [o] a w
  | .more i p q, a, w => (∃ o, ops[i]? = some o ∧ wpList P ops (Exit.then (fun a' w' => (fin.contains i = false → S w') ∧ wpM P ops Q S fin p a' w') Q) [o] a w) ∧ wpM P ops Q S fin q a w
theorem drop_head {α : Type} {l : List α} {k : Nat} {x : α} (h : (l.drop k).head? = some x) : l.drop k = x :: l.drop (k + 1) := by
  rw [← List.tail_drop]
  cases hl : l.drop k with
  | nil => rw [hl] at h; cases h
  | cons y r => rw [hl] at h; simp at h; rw [h]; rfl
theorem more_sound (hs : Region.noSelect ops = true) (hQ : ∀ c d v (a : Act) w, Q (.panic c) (a.put d v) w → Q (.panic c) a w) :
    ∀ (p : PM), (∀ (n : Nat) (listed : Array Bool) (a : Act) (w : World), p.ok md ops fin 0 listed = true → p.lenOk n = true → wpM P ops Q S fin p a w → wpAnyN P md ops Q S fin n listed a w) ∧
      (∀ (n sk : Nat) (listed : Array Bool) (a : Act) (w : World), (0 < sk ∨ p.spine = true) → p.ok md ops fin sk listed = true → p.lenOk (n + 1) = true → wpM P ops Q S fin p a w →
        (Region.ready md ops listed).drop sk ≠ [] ∧ ∀ j ∈ (Region.ready md ops listed).drop sk, wpOp P ops Q j (fun a' w' => (fin.contains j = false → S w') ∧ wpAnyN P md ops Q S fin n (listed.setIfInBounds j true) a' w') a w) := by
  intro p
  induction p with
  | done =>
    refine ⟨fun n listed a w hp hl h => ?_, fun n sk listed a w hk hp hl h => ?_⟩
    · simp only [PM.lenOk, beq_iff_eq] at hl
      subst hl
      simp only [PM.ok, beq_self_eq_true, Bool.true_and] at hp
      exact ⟨by simpa using hp, h⟩
    · simp [PM.lenOk] at hl
  | rd i r ih =>
    refine ⟨fun n listed a w hp hl h => ?_, fun n sk listed a w hk hp hl h => ?_⟩
    · cases n with
      | zero => cases hl
      | succ n =>
        simp only [PM.ok, Bool.and_eq_true] at hp
        obtain ⟨⟨⟨⟨-, h1⟩, h2⟩, h3⟩, h4⟩ := hp
        obtain ⟨hS, o, v, ho, hy, hr⟩ := h
        exact wpAnyN_take ho h1 hs h2 h3 (fun c a w => hQ c _ _ a w) hy hS (ih.1 n _ _ _ h4 hl hr)
    · simp only [PM.ok, Bool.and_eq_true, beq_iff_eq] at hp
      rcases hk with hk | hk
      · omega
      · cases hk
  | act i r ih =>
    have main : ∀ (n sk : Nat) (listed : Array Bool) (a : Act) (w : World), (PM.act i r).ok md ops fin sk listed = true → (PM.act i r).lenOk (n + 1) = true → wpM P ops Q S fin (.act i r) a w →
        (Region.ready md ops listed).drop sk ≠ [] ∧ ∀ j ∈ (Region.ready md ops listed).drop sk, wpOp P ops Q j (fun a' w' => (fin.contains j = false → S w') ∧ wpAnyN P md ops Q S fin n (listed.setIfInBounds j true) a' w') a w := by
      intro n sk listed a w hp hl h
      simp only [PM.ok, Bool.and_eq_true, beq_iff_eq] at hp
      obtain ⟨h1, h2⟩ := hp
      obtain ⟨o, ho, hlst⟩ := h
      refine ⟨fun h0 => (by rw [h0] at h1; cases h1), fun j hj => ?_⟩
      rw [h1] at hj
      obtain rfl : j = i := by simpa using hj
      exact wpOp_mono (fun a' w' h' => ⟨h'.1, ih.1 n _ _ _ h2 hl h'.2⟩) (wpOp_of_list ho hlst)
    refine ⟨fun n listed a w hp hl h => ?_, fun n sk listed a w hk hp hl h => main n sk listed a w hp hl h⟩
    cases n with
    | zero => cases hl
    | succ n =>
      obtain ⟨h1, h2⟩ := main n 0 listed a w hp hl h
      rw [List.drop_zero] at h1 h2
      exact ⟨fun h0 => absurd h0 h1, h2⟩
  | more i p q ihp ihq =>
    have main : ∀ (n sk : Nat) (listed : Array Bool) (a : Act) (w : World), (PM.more i p q).ok md ops fin sk listed = true → (PM.more i p q).lenOk (n + 1) = true → wpM P ops Q S fin (.more i p q) a w →
        (Region.ready md ops listed).drop sk ≠ [] ∧ ∀ j ∈ (Region.ready md ops listed).drop sk, wpOp P ops Q j (fun a' w' => (fin.contains j = false → S w') ∧ wpAnyN P md ops Q S fin n (listed.setIfInBounds j true) a' w') a w := by
      intro n sk listed a w hp hl h
      simp only [PM.ok, Bool.and_eq_true, beq_iff_eq] at hp
      obtain ⟨⟨h1, h2⟩, h3⟩ := hp
      simp only [PM.lenOk, Bool.and_eq_true] at hl
      obtain ⟨⟨o, ho, hlst⟩, hq⟩ := h
      have hd := drop_head h1
      refine ⟨fun h0 => (by rw [h0] at hd; cases hd), fun j hj => ?_⟩
      rw [hd] at hj
      rcases List.mem_cons.1 hj with rfl | hj
      · exact wpOp_mono (fun a' w' h' => ⟨h'.1, ihp.1 n _ _ _ h2 hl.1 h'.2⟩) (wpOp_of_list ho hlst)
      · exact (ihq.2 n (sk + 1) listed a w (.inl (Nat.succ_pos _)) h3 hl.2 hq).2 j hj
    refine ⟨fun n listed a w hp hl h => ?_, fun n sk listed a w hk hp hl h => main n sk listed a w hp hl h⟩
    cases n with
    | zero => cases hl
    | succ n =>
      obtain ⟨h1, h2⟩ := main n 0 listed a w hp hl h
      rw [List.drop_zero] at h1 h2
      exact ⟨fun h0 => absurd h0 h1, h2⟩
theorem wp_region_more {id : Nat} {a : Act} {w : World} (p : PM) (S : World → Prop) (fin : List Nat) (hm : P.follows .mixedOrders = true) (hs : Region.noSelect ops = true)
    (hp : p.ok .any ops fin 0 (Array.replicate ops.size false) = true) (hz : p.lenOk ops.size = true) (hQ : ∀ c d v (a : Act) w, Q (.panic c) (a.put d v) w → Q (.panic c) a w)
    (h : wpM P ops Q S fin p a w.drew) : (Code.region id ops true).wp P Q a w :=
  wp_region_any hm (wpAny_of_need _ _ _ _ ((more_sound hs hQ p).1 _ _ _ _ hp hz h))
end
section
variable {P : Program} {M : List Nat} {W : World} {n : Nat}
/-- By a tree, over the abstract state. -/
def vcm (P : Program) (M : List Nat) (W : World) (n : Nat) (os : List Oper) (L0 : List Res) (fin : List Nat) (tok : Bool) : PM → Fr → List Res → (Fr → List Res → Prop) → Prop
  | .done, F, L, K => K F L
  | .rd i r, F, L, K => match nth os i with
    | some o => guardV os F o.guard (readV P M W o F L0 fun tok v => vcm P M W n os L0 fin tok r (updo F o.dst v) L K) (vcm P M W n os L0 fin tok r (updo F o.dst undef) L K)
    | none => False
  | .act i r, F, L, K => match nth os i with
    | some o => guardV os F o.guard (stepV P M W o F L fun tok v L' => (fin.contains i = false → Suf L0 L') ∧ vcm P M W n os L0 fin tok r (updo F o.dst v) L' K) (vcm P M W n os L0 fin tok r (updo F o.dst undef) L K)
    | none => False
  | .more i p q, F, L, K => (match nth os i with
    | some o => guardV os F o.guard (stepV P M W o F L fun tok v L' => (fin.contains i = false → Suf L0 L') ∧ vcm P M W n os L0 fin tok p (updo F o.dst v) L' K) (vcm P M W n os L0 fin tok p (updo F o.dst undef) L K)
    | none => False) ∧ vcm P M W n os L0 fin tok q F L K
def vmg (P : Program) (M : List Nat) (W : World) (n : Nat) (os : List Oper) (L0 : List Res) (fin : List Nat) (x : Bool) (i : Nat) (s : Option Bool) (o : Oper) (r : PM) (F : Fr) (L : List Res) (K : Fr → List Res → Prop) : Prop :=
  match s, x with
  | some t, true => (t = true → readV P M W o F L0 fun tok v => vcm P M W n os L0 fin tok r (updo F o.dst v) L K) ∧ (t = false → vcm P M W n os L0 fin true r (updo F o.dst undef) L K)
  | some t, false => (t = true → stepV P M W o F L fun tok v L' => (fin.contains i = false → Suf L0 L') ∧ vcm P M W n os L0 fin tok r (updo F o.dst v) L' K) ∧ (t = false → vcm P M W n os L0 fin true r (updo F o.dst undef) L K)
  | none, _ => False
def vmo (P : Program) (M : List Nat) (W : World) (n : Nat) (os : List Oper) (L0 : List Res) (fin : List Nat) (x : Bool) (i : Nat) (o : Option Oper) (r : PM) (F : Fr) (L : List Res) (K : Fr → List Res → Prop) : Prop :=
  match o with
  | none => False
  | some o => match o.guard with
    | none => (match x with
      | true => readV P M W o F L0 fun tok v => vcm P M W n os L0 fin tok r (updo F o.dst v) L K
      | false => stepV P M W o F L fun tok v L' => (fin.contains i = false → Suf L0 L') ∧ vcm P M W n os L0 fin tok r (updo F o.dst v) L' K)
    | some (j, b) => vmg P M W n os L0 fin x i (gst os F j b) o r F L K
section
variable {os : List Oper} {L0 : List Res} {fin : List Nat} {x : Bool} {i j : Nat} {o : Oper} {r p q : PM} {F : Fr} {L : List Res} {K : Fr → List Res → Prop}
theorem vmo_eq_rd : vmo P M W n os L0 fin true i (nth os i) r F L K = vcm P M W n os L0 fin true (.rd i r) F L K := by
  simp only [vcm, vmo]
  cases nth os i with
  | none => rfl
  | some o =>
    simp only
    cases hg : o.guard with
    | none => rfl
    | some jb =>
      obtain ⟨j, b⟩ := jb
      simp only
      rw [guardV_gst]
      unfold vmg
      cases gst os F j b <;> rfl
theorem vmo_eq_act : vmo P M W n os L0 fin false i (nth os i) r F L K = vcm P M W n os L0 fin true (.act i r) F L K := by
  simp only [vcm, vmo]
  cases nth os i with
  | none => rfl
  | some o =>
    simp only
    cases hg : o.guard with
    | none => rfl
    | some jb =>
      obtain ⟨j, b⟩ := jb
      simp only
      rw [guardV_gst]
      unfold vmg
      cases gst os F j b <;> rfl
theorem vcm_done : vcm P M W n os L0 fin true .done F L K = K F L := rfl
theorem vcm_rd : vcm P M W n os L0 fin true (.rd i r) F L K = vmo P M W n os L0 fin true i (nth os i) r F L K := vmo_eq_rd.symm
theorem vcm_act : vcm P M W n os L0 fin true (.act i r) F L K = vmo P M W n os L0 fin false i (nth os i) r F L K := vmo_eq_act.symm
theorem vcm_more : vcm P M W n os L0 fin true (.more i p q) F L K = (vmo P M W n os L0 fin false i (nth os i) p F L K ∧ vcm P M W n os L0 fin true q F L K) := by
  rw [vmo_eq_act]
  rfl
variable {d : Option Nat} {op : Op} {ty : TypeId} {pos : String} {af : Array Edge} {b : Bool}
theorem vmo_read : vmo P M W n os L0 fin true i (some ⟨d, op, ty, pos, af, none⟩) r F L K = readV P M W ⟨d, op, ty, pos, af, none⟩ F L0 fun tok v => vcm P M W n os L0 fin tok r (updo F d v) L K := rfl
theorem vmo_step : vmo P M W n os L0 fin false i (some ⟨d, op, ty, pos, af, none⟩) r F L K = stepV P M W ⟨d, op, ty, pos, af, none⟩ F L fun tok v L' => (fin.contains i = false → Suf L0 L') ∧ vcm P M W n os L0 fin tok r (updo F d v) L' K := rfl
theorem vmo_guard : vmo P M W n os L0 fin x i (some ⟨d, op, ty, pos, af, some (j, b)⟩) r F L K = vmg P M W n os L0 fin x i (gst os F j b) ⟨d, op, ty, pos, af, some (j, b)⟩ r F L K := rfl
theorem vmg_read : vmg P M W n os L0 fin true i (some true) o r F L K = readV P M W o F L0 fun tok v => vcm P M W n os L0 fin tok r (updo F o.dst v) L K := by simp [vmg]
theorem vmg_step : vmg P M W n os L0 fin false i (some true) o r F L K = stepV P M W o F L fun tok v L' => (fin.contains i = false → Suf L0 L') ∧ vcm P M W n os L0 fin tok r (updo F o.dst v) L' K := by simp [vmg]
theorem vmg_false : vmg P M W n os L0 fin x i (some false) o r F L K = vcm P M W n os L0 fin true r (updo F o.dst undef) L K := by cases x <;> simp [vmg]
end
/-- Behind an operation of fin nothing reads. -/
def PM.noRead (fin : List Nat) : PM → Bool
  | .done => true
  | .rd _ _ => false
  | .act i r => fin.contains i && r.noRead fin
  | .more i p q => fin.contains i && p.noRead fin && q.noRead fin
def PM.finOk (fin : List Nat) : PM → Bool
  | .done => true
  | .rd _ r => r.finOk fin
  | .act i r => if fin.contains i then r.noRead fin else r.finOk fin
  | .more i p q => (if fin.contains i then p.noRead fin else p.finOk fin) && q.finOk fin
theorem PM.fin_of_no {fin : List Nat} : ∀ (p : PM), p.noRead fin = true → p.finOk fin = true
  | .done, _ => rfl
  | .rd _ _, h => by cases h
  | .act i r, h => by
    simp only [PM.noRead, Bool.and_eq_true] at h
    simp only [PM.finOk]
    rw [if_pos h.1]
    exact h.2
  | .more i p q, h => by
    simp only [PM.noRead, Bool.and_eq_true] at h
    simp only [PM.finOk]
    rw [if_pos h.1.1, h.1.2, q.fin_of_no h.2]
    rfl
theorem vcm_sound {ops : Array Oper} {Q : Exit → Act → World → Prop} {L0 : List Res} {fin : List Nat} (hn : ∀ j o d, nth ops.toList j = some o → o.dst = some d → d < n) (hap : L0.Pairwise (fun r s => ∀ b ∈ r.foot, b ∉ s.foot)) : ∀ (p : PM) {F : Fr} {L : List Res} {K : Fr → List Res → Prop} {a : Act} {w : World},
    vcm P M W n ops.toList L0 fin true p F L K → FrOK n a F → St M W L w → p.finOk fin = true → (p.noRead fin = true ∨ Suf L0 L) → (∀ F' L' a' w', K F' L' → FrOK n a' F' → St M W L' w' → Q .normal a' w') → wpM P ops Q (St M W L0) fin p a w
  | .done, F, L, K, a, w, h, ha, hw, hf, hsuf, hq => hq _ _ _ _ h ha hw
  | .rd i r, F, L, K, a, w, h, ha, hw, hf, hsuf, hq => by
    simp only [vcm] at h
    have hsuf' : Suf L0 L := hsuf.resolve_left (by simp [PM.noRead])
    have hS : St M W L0 w := hw.of_suf hsuf' hap
    split at h
    · rename_i o ho
      have hd : dstOk n o.dst := by
        cases hdo : o.dst with
        | none => trivial
        | some d => exact hn i o d ho hdo
      rcases guardV_sound ha hn h with ⟨hwt, h⟩ | ⟨hwt, h⟩
      · obtain ⟨v, hr, hk⟩ := readV_sound h
        exact ⟨hS, o, v, nth_op ho, .inl ⟨hwt, fun w' hw' => by rw [ha.eval]; exact hr w' hw'⟩, vcm_sound hn hap r hk (ha.put hd v) hw hf (.inr hsuf') hq⟩
      · exact ⟨hS, o, undef, nth_op ho, .inr ⟨hwt, rfl⟩, vcm_sound hn hap r h (ha.put hd undef) hw hf (.inr hsuf') hq⟩
    · exact h.elim
  | .act i r, F, L, K, a, w, h, ha, hw, hf, hsuf, hq => by
    simp only [vcm] at h
    split at h
    · rename_i o ho
      have hd : dstOk n o.dst := by
        cases hdo : o.dst with
        | none => trivial
        | some d => exact hn i o d ho hdo
      have hf' : r.finOk fin = true := by
        simp only [PM.finOk] at hf
        split at hf
        · exact r.fin_of_no hf
        · exact hf
      have hnext : ∀ L', (fin.contains i = false → Suf L0 L') → (r.noRead fin = true ∨ Suf L0 L') := by
        intro L' hL
        cases hc : fin.contains i with
        | true =>
          simp only [PM.finOk, hc, if_true] at hf
          exact .inl hf
        | false => exact .inr (hL hc)
      have hsame : fin.contains i = false → Suf L0 L := fun hc => hsuf.resolve_left (by simp only [PM.noRead, hc, Bool.false_and, Bool.and_false, Bool.false_eq_true, not_false_eq_true])
      refine ⟨o, nth_op ho, ?_⟩
      rcases guardV_sound ha hn h with ⟨hwt, h⟩ | ⟨hwt, h⟩
      · unfold wpList
        rw [if_pos hwt]
        refine .inl (step_sound h ha.eval hw fun v L' w' hk hs => ?_)
        exact ⟨fun hc => hs.of_suf (hk.1 hc) hap, vcm_sound hn hap r hk.2 (ha.put hd v) hs hf' (hnext L' hk.1) hq⟩
      · unfold wpList
        rw [hwt]
        exact ⟨fun hc => hw.of_suf (hsame hc) hap, vcm_sound hn hap r h (ha.put hd undef) hw hf' (hnext L hsame) hq⟩
    · exact h.elim
  | .more i p q, F, L, K, a, w, h, ha, hw, hf, hsuf, hq => by
    simp only [vcm] at h
    obtain ⟨h1, h2⟩ := h
    simp only [PM.finOk, Bool.and_eq_true] at hf
    refine ⟨?_, ?_⟩
    · split at h1
      · rename_i o ho
        have hd : dstOk n o.dst := by
          cases hdo : o.dst with
          | none => trivial
          | some d => exact hn i o d ho hdo
        have hf' : p.finOk fin = true := by
          have := hf.1
          split at this
          · exact p.fin_of_no this
          · exact this
        have hnext : ∀ L', (fin.contains i = false → Suf L0 L') → (p.noRead fin = true ∨ Suf L0 L') := by
          intro L' hL
          cases hc : fin.contains i with
          | true =>
            have := hf.1
            rw [hc, if_pos rfl] at this
            exact .inl this
          | false => exact .inr (hL hc)
        have hsame : fin.contains i = false → Suf L0 L := fun hc => hsuf.resolve_left (by simp only [PM.noRead, hc, Bool.false_and, Bool.and_false, Bool.false_eq_true, not_false_eq_true])
        refine ⟨o, nth_op ho, ?_⟩
        rcases guardV_sound ha hn h1 with ⟨hwt, h⟩ | ⟨hwt, h⟩
        · unfold wpList
          rw [if_pos hwt]
          refine .inl (step_sound h ha.eval hw fun v L' w' hk hs => ?_)
          exact ⟨fun hc => hs.of_suf (hk.1 hc) hap, vcm_sound hn hap p hk.2 (ha.put hd v) hs hf' (hnext L' hk.1) hq⟩
        · unfold wpList
          rw [hwt]
          exact ⟨fun hc => hw.of_suf (hsame hc) hap, vcm_sound hn hap p h (ha.put hd undef) hw hf' (hnext L hsame) hq⟩
      · exact h1.elim
    · refine vcm_sound hn hap q h2 ha hw hf.2 ?_ hq
      rcases hsuf with h | h
      · simp only [PM.noRead, Bool.and_eq_true] at h
        exact .inl h.2
      · exact .inr h
/-- A region by such a tree. -/
theorem cv_more {F : Fr} {L : List Res} {Q : Exit → Fr → List Res → Prop} {id : Nat} {l : List Oper} (ix : List Nat) (hnd : ix.Nodup) (hsub : Suf (pickL ix L) L) (p : PM) (fin : List Nat) (hm : P.follows .mixedOrders = true) (hd : l.all (fun o => dstV n o.dst) = true) (hs : Region.noSelect l.toArray = true)
    (hp : p.ok .any l.toArray fin 0 (Array.replicate l.toArray.size false) = true) (hz : p.lenOk l.toArray.size = true) (hf : p.finOk fin = true) {K : Fr → List Res → Prop}
    (h : vcm P M W n l (pickL ix L) fin true p F L (fun F' L' => ∃ jx : List Nat, jx.Nodup ∧ K F' (pickL jx L'))) : CV P M W n (.region id l.toArray true) F L (thenQ K Q) := fun a w ha hw =>
  wp_region_more p (St M W (pickL ix L)) fin hm hs hp hz (by intro c d v a w hh; exact hh)
    (vcm_sound (ops := l.toArray) (slots_of (by simpa using hd)) (hw.pick hnd).apart p (by simpa using h) ha hw.drew hf (.inr hsub) fun F' L' a' w' hK h1 h2 => by
      obtain ⟨jx, hj, hk⟩ := hK
      exact ⟨F', _, h1, h2.pick hj, hk⟩)
end
theorem cM : type_of% (And.intro (And.intro (And.intro @vcm_done @vcm_rd) (And.intro @vcm_act (And.intro @vcm_more @vmo_read))) (And.intro (And.intro @vmo_step @vmo_guard) (And.intro @vmg_read (And.intro @vmg_step @vmg_false)))) := (And.intro (And.intro (And.intro @vcm_done @vcm_rd) (And.intro @vcm_act (And.intro @vcm_more @vmo_read))) (And.intro (And.intro @vmo_step @vmo_guard) (And.intro @vmg_read (And.intro @vmg_step @vmg_false))))
section
variable {P : Program} {M : List Nat} {W : World} {L : List Res}
/-- A row that is not empty has an address of its own. -/
theorem cv_rowA {nn : Nat} {co : Code} {F : Fr} {Q : Exit → Fr → List Res → Prop} (k : Nat) {A : Option Addr} {n c size : Nat} {t : TypeId} {xs : List Value} (hk : nth L k = some (.row (.slice A n c) t size n xs)) (hn : 0 < n)
    (h : ∀ g, A = some ⟨g, 0, none⟩ → (W.heap.size ≤ g ∨ g ∈ M) → neB (L.eraseIdx k) g → CV P M W nn co F L Q) : CV P M W nn co F L Q := fun a w ha hw => by
  rcases (hw.perm (perm_erase hk).symm).row_at with ⟨-, h0⟩ | ⟨g, e, hb, hne⟩
  · omega
  · exact h g e hb hne a w ha hw
/-- A struct is stored into a row of the call's own. -/
theorem sv_rows (k : Nat) {t T : TypeId} {g n c size i : Nat} {xs vs : List Value} (hk : nth L k = some (.row (.slice (some ⟨g, 0, none⟩) n c) T size n xs)) (hi : i + vs.length ≤ xs.length) (ht : tsz P t = some (true, vs.length)) (h1 : ones vs = true) :
    SV P M W t ⟨g, i, none⟩ (.agg vs.toArray) L (L.set k (.row (.slice (some ⟨g, 0, none⟩) n c) T size n (xs.take i ++ vs ++ xs.drop (i + vs.length)))) := fun w hw => by
  have hk' := hk
  rw [nth_eq] at hk'
  have hm := List.mem_of_getElem? hk'
  have hh : w.ownsRow 0 T size (.slice (some ⟨g, 0, none⟩) n c) n xs := hw.holds _ hm
  obtain ⟨hlen, hh2⟩ := hh
  rcases hh2 with ⟨hn, _⟩ | ⟨g', cap, cur, he, hg0, hheap, hnc, hcm, hsz, htk⟩
  · cases hn
  cases he
  have hcur : xs.length ≤ cur.toList.length := by rw [← htk, List.length_take]; omega
  have hcs : cur.toList.length = cur.size := Array.length_toList
  have hs := run_storeCells_at P g i T vs 0 cur w hheap (by omega) (fun u hu => List.all_eq_true.1 h1 u hu)
  have hsz2 := (tsz_run ht w).2
  refine ⟨w.setRow g (cur.toList.take (i + 0) ++ vs ++ cur.toList.drop (i + 0 + vs.length)).toArray, ?_, ?_⟩
  · simp only [Instr.storeAt, Instr.sureAddr, Sem.run_bind, Sem.run_pure, Result.andThen_ok, storeVar, hsz2, Value.cells, List.size_toArray, ne_eq, not_true_eq_false, if_false]
    exact hs
  · rw [Nat.add_zero]
    refine hw.replace hk rfl ?_ (fun c hc => setRow_other w g c _ (by simpa [Res.foot, Value.ownBlock] using hc)) (by simp [World.setRow]) rfl rfl rfl
    refine ⟨?_, .inr ⟨g, _, (cur.toList.take i ++ vs ++ cur.toList.drop (i + vs.length)).toArray, rfl, hg0, ?_, hnc, hcm, ?_, ?_⟩⟩
    · simp only [List.length_append, List.length_take, List.length_drop]
      omega
    · exact setRow_heap w g cur _ T (0, 0) hheap
    · simp only [List.size_toArray, List.length_append, List.length_take, List.length_drop]
      omega
    · simp only [List.toList_toArray]
      have e1 : xs.take i = cur.toList.take i := by rw [← htk, List.take_take, Nat.min_eq_left (by omega)]
      have e2 : xs.drop (i + vs.length) = (cur.toList.drop (i + vs.length)).take (n * size - (i + vs.length)) := by rw [← htk, List.drop_take]
      have e3 : (cur.toList.take i ++ vs).length = i + vs.length := by rw [List.length_append, List.length_take, Nat.min_eq_left (by omega)]
      rw [e1, e2, List.take_append, e3, List.take_of_length_le (by omega)]
end
end Go.Proofs.YtddofamkmcgfmaaDoor
