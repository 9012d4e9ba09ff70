/- A region's operations in order (drawn or not), and statements, over the abstract state. -/
import Derived.Test.YtehfnjaompkikaaEng4
namespace Go.Proofs.Ytehfnjaompkikaa
open Go.RowKit Go.Shelf
set_option linter.unusedVariables false
set_option linter.unusedSimpArgs false

def dstV (n : Nat) : Option Nat → Bool
  | none => true
  | some d => Nat.ble (d + 1) n
theorem dstV_ok {n : Nat} {d : Option Nat} (h : dstV n d = true) : dstOk n d := by
  cases d with
  | none => trivial
  | some d => exact Nat.le_of_ble_eq_true h
/-- What the guard asks: A where it says so, else B. -/
def guardV (os : List Oper) (F : Fr) (g : Option (Nat × Bool)) (A B : Prop) : Prop :=
  match g with
  | none => A
  | some (j, b) => match (nth os j).bind (·.dst) with
    | some d => (match F d with
      | .bool t => (t = b → A) ∧ (t = (!b) → B)
      | .tuple _ => B
      | _ => False)
    | none => False
section
variable {P : Program} {M : List Nat} {W : World} {n : Nat}

theorem guardV_sound {ops : Array Oper} {a : Act} {F : Fr} {o : Oper} {A B : Prop} (ha : FrOK n a F) (hn : ∀ j o d, nth ops.toList j = some o → o.dst = some d → d < n) (h : guardV ops.toList F o.guard A B) :
    (Region.wanted o (yielded ops a.tmps) = true ∧ A) ∨ (Region.wanted o (yielded ops a.tmps) = false ∧ B) := by
  unfold guardV at h
  split at h
  · rename_i hg
    exact .inl ⟨by simp [Region.wanted, hg], h⟩
  · rename_i j b hg
    split at h
    · rename_i d hd
      obtain ⟨oj, hoj, hdj⟩ := Option.bind_eq_some_iff.1 hd
      have hlt := hn j oj d hoj hdj
      have hoj' : ops[j]? = some oj := nth_op hoj
      have hget : a.tmps[d]? = some (F d) := by
        have h1 := ha.get d
        have h2 : d < a.tmps.size := by rw [ha.size]; exact hlt
        rw [Array.getElem?_eq_getElem h2, ← h1]
        simp [h2]
      have hy : ∀ x, F d = x → yielded ops a.tmps j = (match x with | .bool b => some b | _ => none) := by
        intro x hx
        unfold yielded
        rw [hoj']
        simp only [Option.bind_some, hdj]
        rw [hget, hx]
        cases x <;> rfl
      split at h
      · rename_i t ht
        have := hy _ ht
        by_cases e : t = b
        · exact .inl ⟨by simp [Region.wanted, hg, this, e], h.1 e⟩
        · exact .inr ⟨by simp [Region.wanted, hg, this, e], h.2 (by cases t <;> cases b <;> simp_all)⟩
      · rename_i t ht
        have := hy _ ht
        exact .inr ⟨by simp [Region.wanted, hg, this], h⟩
      · exact h.elim
    · exact h.elim

/-- In the text's order. -/
def vcn (P : Program) (M : List Nat) (W : World) (n : Nat) (os : List Oper) (tok : Bool) : List Oper → Fr → List Res → (Fr → List Res → Prop) → Prop
  | [], F, L, K => K F L
  | o :: r, F, L, K => guardV os F o.guard (stepV P M W o F L fun tok v L' => vcn P M W n os tok r (updo F o.dst v) L' K) (vcn P M W n os tok r (updo F o.dst undef) L K)
/-- What the guard's slot says: is the operation wanted? -/
def gst (os : List Oper) (F : Fr) (j : Nat) (b : Bool) : Option Bool :=
  match (nth os j).bind (·.dst) with
  | some d => (match F d with
    | .bool t => (match b with | true => some t | false => some (!t))
    | .tuple _ => some false
    | _ => none)
  | none => none
def vcg (P : Program) (M : List Nat) (W : World) (n : Nat) (os : List Oper) (s : Option Bool) (o : Oper) (r : List Oper) (F : Fr) (L : List Res) (K : Fr → List Res → Prop) : Prop :=
  match s with
  | some t => (t = true → stepV P M W o F L fun tok v L' => vcn P M W n os tok r (updo F o.dst v) L' K) ∧ (t = false → vcn P M W n os true r (updo F o.dst undef) L K)
  | none => False
theorem guardV_gst {os : List Oper} {F : Fr} {j : Nat} {b : Bool} {A B : Prop} : guardV os F (some (j, b)) A B = (match gst os F j b with | some t => (t = true → A) ∧ (t = false → B) | none => False) := by
  unfold guardV gst
  cases hd : (nth os j).bind (·.dst) with
  | none => simp [hd]
  | some d =>
    simp only [hd]
    cases F d <;> simp
    cases b <;> simp
theorem vcn_nil {os : List Oper} {F : Fr} {L : List Res} {K : Fr → List Res → Prop} : vcn P M W n os true [] F L K = K F L := rfl
theorem vcn_none {os : List Oper} {d : Option Nat} {op : Op} {ty : TypeId} {pos : String} {af : Array Edge} {r : List Oper} {F : Fr} {L : List Res} {K : Fr → List Res → Prop} :
    vcn P M W n os true (⟨d, op, ty, pos, af, none⟩ :: r) F L K = stepV P M W ⟨d, op, ty, pos, af, none⟩ F L fun tok v L' => vcn P M W n os tok r (updo F d v) L' K := rfl
theorem vcn_guard {os : List Oper} {d : Option Nat} {op : Op} {ty : TypeId} {pos : String} {af : Array Edge} {j : Nat} {b : Bool} {r : List Oper} {F : Fr} {L : List Res} {K : Fr → List Res → Prop} :
    vcn P M W n os true (⟨d, op, ty, pos, af, some (j, b)⟩ :: r) F L K = vcg P M W n os (gst os F j b) ⟨d, op, ty, pos, af, some (j, b)⟩ r F L K := by
  show guardV os F (some (j, b)) _ _ = _
  rw [guardV_gst]
  rfl
theorem vcg_true {os : List Oper} {o : Oper} {r : List Oper} {F : Fr} {L : List Res} {K : Fr → List Res → Prop} : vcg P M W n os (some true) o r F L K = stepV P M W o F L fun tok v L' => vcn P M W n os tok r (updo F o.dst v) L' K := by simp [vcg]
theorem vcg_false {os : List Oper} {o : Oper} {r : List Oper} {F : Fr} {L : List Res} {K : Fr → List Res → Prop} : vcg P M W n os (some false) o r F L K = vcn P M W n os true r (updo F o.dst undef) L K := by simp [vcg]
theorem vcg_cases {os : List Oper} {t : Bool} {o : Oper} {r : List Oper} {F : Fr} {L : List Res} {K : Fr → List Res → Prop} (h1 : t = true → vcg P M W n os (some true) o r F L K) (h2 : t = false → vcg P M W n os (some false) o r F L K) : vcg P M W n os (some t) o r F L K := by
  cases t
  · exact h2 rfl
  · exact h1 rfl

theorem vcn_sound {ops : Array Oper} {Q : Exit → Act → World → Prop} (hn : ∀ j o d, nth ops.toList j = some o → o.dst = some d → d < n) : ∀ (r : List Oper) {F : Fr} {L : List Res} {K : Fr → List Res → Prop} {a : Act} {w : World},
    r.all (fun o => dstV n o.dst) = true → vcn P M W n ops.toList true r F L K → FrOK n a F → St M W L w → (∀ F' L' a' w', K F' L' → FrOK n a' F' → St M W L' w' → Q .normal a' w') → wpList P ops Q r a w
  | [], F, L, K, a, w, _, h, ha, hw, hq => hq _ _ _ _ h ha hw
  | o :: r, F, L, K, a, w, hdd, h, ha, hw, hq => by
    simp only [List.all_cons, Bool.and_eq_true] at hdd
    have hd := dstV_ok hdd.1
    rcases guardV_sound ha hn h with ⟨hwt, h⟩ | ⟨hwt, h⟩
    · unfold wpList
      rw [if_pos hwt]
      exact .inl (step_sound h ha.eval hw fun v L' w' hk hs => vcn_sound hn r hdd.2 hk (ha.put hd v) hs hq)
    · unfold wpList
      rw [hwt]
      exact vcn_sound hn r hdd.2 h (ha.put hd undef) hw hq

/-- Reading alone: by the state at the region's beginning. -/
def RX (P : Program) (M : List Nat) (W : World) (o : Oper) (F : Fr) (L0 : List Res) (K : Bool → Value → Prop) : Prop :=
  ∃ v, (∀ w, St M W L0 w → (execOp (ev F) o).run P w = .ok (.value v) w) ∧ ∀ tok, tok = true → K tok v
def pureR (P : Program) (M : List Nat) (W : World) (o : Oper) (F : Fr) (L0 : List Res) (K : Bool → Value → Prop) : Prop :=
  match pv P F o.op with
  | .need p v => Need p ∧ K true v
  | .no => RX P M W o F L0 K
def readV (P : Program) (M : List Nat) (W : World) (o : Oper) (F : Fr) (L0 : List Res) (K : Bool → Value → Prop) : Prop :=
  match o.op with
  | .load t x => (match ev F x with
    | .pointer (some a) => ldV P M W t a L0 K
    | _ => False)
  | .convert s d x => (match ev F x with
    | .slice A n _ => strV P M W s d A n L0 (fun tok v _ => K tok v)
    | _ => pureR P M W o F L0 K)
  | _ => pureR P M W o F L0 K
theorem pureR_sound {P : Program} {M : List Nat} {W : World} {o : Oper} {F : Fr} {L0 : List Res} {K : Bool → Value → Prop} (h : pureR P M W o F L0 K) : ∃ v, (∀ w, St M W L0 w → (execOp (ev F) o).run P w = .ok (.value v) w) ∧ K true v := by
  unfold pureR at h
  split at h
  · rename_i p v hp
    exact ⟨v, fun w _ => pv_sound hp h.1 w, h.2⟩
  · obtain ⟨v, h1, h2⟩ := h
    exact ⟨v, h1, h2 true rfl⟩
theorem readV_sound {o : Oper} {F : Fr} {L0 : List Res} {K : Bool → Value → Prop} (h : readV P M W o F L0 K) : ∃ v, (∀ w, St M W L0 w → (execOp (ev F) o).run P w = .ok (.value v) w) ∧ K true v := by
  unfold readV at h
  split at h
  · rename_i t x hop
    split at h
    · rename_i a ha
      obtain ⟨v, hl, hk⟩ := ldV_sound h
      refine ⟨v, fun w hw => ?_, hk⟩
      obtain ⟨dst, op, ty, pos, after, guard⟩ := o
      subst hop
      simp only [execOp, ha, Sem.run_bind, hl w hw, Result.andThen_ok, Sem.run_pure]
    · exact h.elim
  · rename_i s d x hop
    split at h
    · rename_i A m c hx2
      obtain ⟨v, hr, hk⟩ := strV_sound (c := c) h
      refine ⟨v, fun w hw => ?_, hk⟩
      obtain ⟨dst, op, ty, pos, after, guard⟩ := o
      subst hop
      simp only [execOp, hx2, Sem.run_bind, hr w hw, Result.andThen_ok, Sem.run_pure]
    · exact pureR_sound h
  · exact pureR_sound h
def Suf (L0 L : List Res) : Prop := ∀ r ∈ L0, r ∈ L
theorem suf_refl (L : List Res) : Suf L L = True := by simp [Suf]
theorem suf_nil (L : List Res) : Suf [] L = True := by simp [Suf]
theorem suf_cons (r : Res) (L0 L : List Res) : Suf (r :: L0) L = (r ∈ L ∧ Suf L0 L) := by simp [Suf]
theorem St.of_suf {M : List Nat} {W w : World} {L0 L : List Res} (h : St M W L w) (hs : Suf L0 L) (ha : L0.Pairwise (fun r s => ∀ b ∈ r.foot, b ∉ s.foot)) : St M W L0 w :=
  ⟨h.pres, fun r hr => h.holds r (hs r hr), fun r hr => h.own r (hs r hr), ha⟩
/-- In the order of a plan. -/
def vcd (P : Program) (M : List Nat) (W : World) (n : Nat) (os : List Oper) (L0 : List Res) (fin : List Nat) (tok : Bool) : List (Bool × Nat) → Fr → List Res → (Fr → List Res → Prop) → Prop
  | [], F, L, K => K F L
  | (true, i) :: r, F, L, K => match nth os i with
    | some o => guardV os F o.guard (readV P M W o F L0 fun tok v => vcd P M W n os L0 fin tok r (updo F o.dst v) L K) (vcd P M W n os L0 fin tok r (updo F o.dst undef) L K)
    | none => False
  | (false, i) :: r, F, L, K => match nth os i with
    | some o => guardV os F o.guard (stepV P M W o F L fun tok v L' => (fin.contains i = false → Suf L0 L') ∧ vcd P M W n os L0 fin tok r (updo F o.dst v) L' K) (vcd P M W n os L0 fin tok r (updo F o.dst undef) L K)
    | none => False
def vdg (P : Program) (M : List Nat) (W : World) (n : Nat) (os : List Oper) (L0 : List Res) (fin : List Nat) (x : Bool) (i : Nat) (s : Option Bool) (o : Oper) (r : List (Bool × Nat)) (F : Fr) (L : List Res) (K : Fr → List Res → Prop) : Prop :=
  match s, x with
  | some t, true => (t = true → readV P M W o F L0 fun tok v => vcd P M W n os L0 fin tok r (updo F o.dst v) L K) ∧ (t = false → vcd P M W n os L0 fin true r (updo F o.dst undef) L K)
  | some t, false => (t = true → stepV P M W o F L fun tok v L' => (fin.contains i = false → Suf L0 L') ∧ vcd P M W n os L0 fin tok r (updo F o.dst v) L' K) ∧ (t = false → vcd P M W n os L0 fin true r (updo F o.dst undef) L K)
  | none, _ => False
/-- An operation of the plan, found. -/
def vdo (P : Program) (M : List Nat) (W : World) (n : Nat) (os : List Oper) (L0 : List Res) (fin : List Nat) (x : Bool) (i : Nat) (o : Option Oper) (r : List (Bool × Nat)) (F : Fr) (L : List Res) (K : Fr → List Res → Prop) : Prop :=
  match o with
  | none => False
  | some o => match o.guard with
    | none => (match x with
      | true => readV P M W o F L0 fun tok v => vcd P M W n os L0 fin tok r (updo F o.dst v) L K
      | false => stepV P M W o F L fun tok v L' => (fin.contains i = false → Suf L0 L') ∧ vcd P M W n os L0 fin tok r (updo F o.dst v) L' K)
    | some (j, b) => vdg P M W n os L0 fin x i (gst os F j b) o r F L K
section
variable {os : List Oper} {L0 : List Res} {fin : List Nat} {x : Bool} {i : Nat} {o : Oper} {r : List (Bool × Nat)} {F : Fr} {L : List Res} {K : Fr → List Res → Prop}
theorem vcd_nil : vcd P M W n os L0 fin true [] F L K = K F L := rfl
theorem vcd_cons : vcd P M W n os L0 fin true ((x, i) :: r) F L K = vdo P M W n os L0 fin x i (nth os i) r F L K := by
  cases x
  · simp only [vcd, vdo]
    cases nth os i with
    | none => rfl
    | some o =>
      simp only
      cases hg : o.guard with
      | none => rfl
      | some jb =>
        obtain ⟨j, b⟩ := jb
        simp only
        rw [guardV_gst]
        unfold vdg
        cases gst os F j b <;> rfl
  · simp only [vcd, vdo]
    cases nth os i with
    | none => rfl
    | some o =>
      simp only
      cases hg : o.guard with
      | none => rfl
      | some jb =>
        obtain ⟨j, b⟩ := jb
        simp only
        rw [guardV_gst]
        unfold vdg
        cases gst os F j b <;> rfl
variable {d : Option Nat} {op : Op} {ty : TypeId} {pos : String} {af : Array Edge} {j : Nat} {b : Bool}
theorem vdo_read : vdo P M W n os L0 fin true i (some ⟨d, op, ty, pos, af, none⟩) r F L K = readV P M W ⟨d, op, ty, pos, af, none⟩ F L0 fun tok v => vcd P M W n os L0 fin tok r (updo F d v) L K := rfl
theorem vdo_step : vdo P M W n os L0 fin false i (some ⟨d, op, ty, pos, af, none⟩) r F L K = stepV P M W ⟨d, op, ty, pos, af, none⟩ F L fun tok v L' => (fin.contains i = false → Suf L0 L') ∧ vcd P M W n os L0 fin tok r (updo F d v) L' K := rfl
theorem vdo_guard : vdo P M W n os L0 fin x i (some ⟨d, op, ty, pos, af, some (j, b)⟩) r F L K = vdg P M W n os L0 fin x i (gst os F j b) ⟨d, op, ty, pos, af, some (j, b)⟩ r F L K := rfl
theorem vdg_read : vdg P M W n os L0 fin true i (some true) o r F L K = readV P M W o F L0 fun tok v => vcd P M W n os L0 fin tok r (updo F o.dst v) L K := by simp [vdg]
theorem vdg_step : vdg P M W n os L0 fin false i (some true) o r F L K = stepV P M W o F L fun tok v L' => (fin.contains i = false → Suf L0 L') ∧ vcd P M W n os L0 fin tok r (updo F o.dst v) L' K := by simp [vdg]
theorem vdg_false : vdg P M W n os L0 fin x i (some false) o r F L K = vcd P M W n os L0 fin true r (updo F o.dst undef) L K := by cases x <;> simp [vdg]
theorem vdg_cases {t : Bool} (h1 : t = true → vdg P M W n os L0 fin x i (some true) o r F L K) (h2 : t = false → vdg P M W n os L0 fin x i (some false) o r F L K) : vdg P M W n os L0 fin x i (some t) o r F L K := by
  cases t
  · exact h2 rfl
  · exact h1 rfl
end
/-- Behind an operation of fin nothing reads. -/
def finOk (fin : List Nat) : List (Bool × Nat) → Bool
  | [] => true
  | (true, _) :: r => finOk fin r
  | (false, i) :: r => if fin.contains i then r.all (fun x => !x.1 && fin.contains x.2) else finOk fin r
theorem finOk_of_all {fin : List Nat} : ∀ (r : List (Bool × Nat)), r.all (fun x => !x.1 && fin.contains x.2) = true → finOk fin r = true
  | [], _ => rfl
  | (true, _) :: r, h => by simp at h
  | (false, i) :: r, h => by
    simp only [List.all_cons, Bool.and_eq_true] at h
    simp only [finOk]
    split
    · exact h.2
    · exact finOk_of_all r h.2
theorem vcd_sound {ops : Array Oper} {Q : Exit → Act → World → Prop} {L0 : List Res} {fin : List Nat} (hn : ∀ j o d, nth ops.toList j = some o → o.dst = some d → d < n) (hap : L0.Pairwise (fun r s => ∀ b ∈ r.foot, b ∉ s.foot)) : ∀ (p : List (Bool × Nat)) {F : Fr} {L : List Res} {K : Fr → List Res → Prop} {a : Act} {w : World},
    vcd P M W n ops.toList L0 fin true p F L K → FrOK n a F → St M W L w → finOk fin p = true → (p.all (fun x => !x.1 && fin.contains x.2) = true ∨ Suf L0 L) → (∀ F' L' a' w', K F' L' → FrOK n a' F' → St M W L' w' → Q .normal a' w') → wpPlan P ops Q (St M W L0) fin p a w
  | [], F, L, K, a, w, h, ha, hw, hf, hsuf, hq => plan_done (hq _ _ _ _ h ha hw)
  | (true, i) :: r, F, L, K, a, w, h, ha, hw, hf, hsuf, hq => by
    simp only [vcd] at h
    have hsuf' : Suf L0 L := hsuf.resolve_left (by simp)
    have hS : St M W L0 w := hw.of_suf hsuf' hap
    split at h
    · rename_i o ho
      have hd : dstOk n o.dst := by
        cases hdo : o.dst with
        | none => trivial
        | some d => exact hn i o d ho hdo
      rcases guardV_sound ha hn h with ⟨hwt, h⟩ | ⟨hwt, h⟩
      · obtain ⟨v, hr, hk⟩ := readV_sound h
        exact plan_yes (v := v) hS ho hwt (fun w' hw' => by rw [ha.eval]; exact hr w' hw') (vcd_sound hn hap r hk (ha.put hd v) hw hf (.inr hsuf') hq)
      · exact plan_no hS ho hwt (vcd_sound hn hap r h (ha.put hd undef) hw hf (.inr hsuf') hq)
    · exact h.elim
  | (false, i) :: r, F, L, K, a, w, h, ha, hw, hf, hsuf, hq => by
    simp only [vcd] at h
    have hr : (r.all (fun x => !x.1 && fin.contains x.2) = true ∧ fin.contains i = true) ∨ (fin.contains i = false ∧ Suf L0 L ∧ finOk fin r = true) := by
      cases hc : fin.contains i with
      | true =>
        refine .inl ⟨?_, rfl⟩
        rcases hsuf with h1 | h1
        · simp only [List.all_cons, Bool.and_eq_true] at h1
          exact h1.2
        · simp only [finOk, hc, if_true] at hf
          exact hf
      | false =>
        refine .inr ⟨rfl, ?_, ?_⟩
        · rcases hsuf with h1 | h1
          · simp only [List.all_cons, Bool.and_eq_true] at h1
            rw [hc] at h1
            exact absurd h1.1.2 (by simp)
          · exact h1
        · simp only [finOk, hc, Bool.false_eq_true, if_false] at hf
          exact hf
    have hf' : finOk fin r = true := by
      rcases hr with ⟨h1, _⟩ | ⟨_, _, h1⟩
      · exact finOk_of_all r h1
      · exact h1
    have hS : ∀ L' w', (fin.contains i = false → Suf L0 L') → St M W L' w' → fin.contains i = false → St M W L0 w' := by
      intro L' w' hL hw' hc
      exact hw'.of_suf (hL hc) hap
    have hnext : ∀ L', (fin.contains i = false → Suf L0 L') → (r.all (fun x => !x.1 && fin.contains x.2) = true ∨ Suf L0 L') := by
      intro L' hL
      rcases hr with ⟨h1, _⟩ | ⟨h1, _, _⟩
      · exact .inl h1
      · exact .inr (hL h1)
    have hsame : fin.contains i = false → Suf L0 L := by
      intro hc
      rcases hr with ⟨_, h1⟩ | ⟨_, h1, _⟩
      · rw [hc] at h1; cases h1
      · exact h1
    split at h
    · rename_i o ho
      have hd : dstOk n o.dst := by
        cases hdo : o.dst with
        | none => trivial
        | some d => exact hn i o d ho hdo
      refine ⟨o, nth_op ho, ?_⟩
      rcases guardV_sound ha hn h with ⟨hwt, h⟩ | ⟨hwt, h⟩
      · unfold wpList
        rw [if_pos hwt]
        refine .inl (step_sound h ha.eval hw fun v L' w' hk hs => ?_)
        exact ⟨hS L' w' hk.1 hs, vcd_sound hn hap r hk.2 (ha.put hd v) hs hf' (hnext L' hk.1) hq⟩
      · unfold wpList
        rw [hwt]
        exact ⟨hS L w hsame hw, vcd_sound hn hap r h (ha.put hd undef) hw hf' (hnext L hsame) hq⟩
    · exact h.elim

/-! ## Statements -/
/-- What a statement leaves. -/
def liftQ (M : List Nat) (W : World) (n : Nat) (Q : Exit → Fr → List Res → Prop) : Exit → Act → World → Prop
  | .panic _, _, _ => False
  | .outgrown, _, _ => False
  | e, a, w => ∃ F L, FrOK n a F ∧ St M W L w ∧ Q e F L
def CV (P : Program) (M : List Nat) (W : World) (n : Nat) (c : Code) (F : Fr) (L : List Res) (Q : Exit → Fr → List Res → Prop) : Prop :=
  ∀ a w, FrOK n a F → St M W L w → c.wp P (liftQ M W n Q) a w
def thenQ (K : Fr → List Res → Prop) (Q : Exit → Fr → List Res → Prop) : Exit → Fr → List Res → Prop
  | .normal, F, L => K F L
  | e, F, L => Q e F L
def blockQ (id : Nat) (Q : Exit → Fr → List Res → Prop) : Exit → Fr → List Res → Prop
  | .exit id', F, L => if id' = id then Q .normal F L else Q (.exit id') F L
  | e, F, L => Q e F L
variable {F : Fr} {L : List Res} {Q Q' : Exit → Fr → List Res → Prop}
theorem CV.mono {c : Code} (h : CV P M W n c F L Q) (hq : ∀ e F' L', Q e F' L' → Q' e F' L') : CV P M W n c F L Q' := fun a w ha hw =>
  wp_mono (h a w ha hw) (by
    intro e a' w' hh
    cases e <;> first
      | exact hh
      | (obtain ⟨F', L', h1, h2, h3⟩ := hh; exact ⟨F', L', h1, h2, hq _ _ _ h3⟩))
theorem cv_gen {c : Code} (h : ∀ G : Fr, G = F → CV P M W n c G L Q) : CV P M W n c F L Q := h F rfl
theorem cv_seq {x y : Code} (h : CV P M W n x F L (thenQ (fun F' L' => CV P M W n y F' L' Q) Q)) : CV P M W n (.seq x y) F L Q := fun a w ha hw =>
  wp_seq (wp_mono (h a w ha hw) (by
    intro e a' w' hh
    cases e <;> first
      | exact hh
      | (obtain ⟨F', L', h1, h2, h3⟩ := hh; exact h3 _ _ h1 h2)))
theorem cv_seq_k {x y : Code} (h : ∀ K : Fr → List Res → Prop, (∀ F' L', CV P M W n y F' L' Q → K F' L') → CV P M W n x F L (thenQ K Q)) : CV P M W n (.seq x y) F L Q := cv_seq (h _ fun _ _ h => h)
theorem cv_cut {c : Code} {K : Fr → List Res → Prop} (D : Fr → Fr → Prop) (R : Fr → List Res → Prop) (h : CV P M W n c F L (thenQ (fun F' L' => D F F' ∧ R F' L') Q)) (hk : ∀ F' L', D F F' → R F' L' → K F' L') : CV P M W n c F L (thenQ K Q) :=
  h.mono fun e F' L' hh => by
    cases e <;> first
      | exact hh
      | exact hk _ _ hh.1 hh.2
theorem cv_skip (h : Q .normal F L) : CV P M W n .skip F L Q := fun a w ha hw => wp_skip ⟨F, L, ha, hw, h⟩
theorem cv_ret (h : Q .ret F L) : CV P M W n .ret F L Q := fun a w ha hw => wp_ret ⟨F, L, ha, hw, h⟩
theorem cv_exit {id : Nat} (h : Q (.exit id) F L) : CV P M W n (.exit id) F L Q := fun a w ha hw => wp_exit ⟨F, L, ha, hw, h⟩
theorem cv_block {id : Nat} {c : Code} (h : CV P M W n c F L (blockQ id Q)) : CV P M W n (.block id c) F L Q := fun a w ha hw =>
  wp_block (wp_mono (h a w ha hw) (by
    intro e a' w' hh
    cases e with
    | exit id' =>
      obtain ⟨F', L', h1, h2, h3⟩ := hh
      simp only [blockQ] at h3
      simp only [Exit.inBlock]
      split
      · rename_i he; rw [if_pos he] at h3; exact ⟨F', L', h1, h2, h3⟩
      · rename_i he; rw [if_neg he] at h3; exact ⟨F', L', h1, h2, h3⟩
    | _ => exact hh))
def condV (v : Value) (A B : Prop) : Prop :=
  match v with
  | .bool t => (t = true → A) ∧ (t = false → B)
  | _ => False
theorem cv_cond {c : Operand} {x y : Code} (h : condV (ev F c) (CV P M W n x F L Q) (CV P M W n y F L Q)) : CV P M W n (.cond c x y) F L Q := fun a w ha hw => by
  unfold condV at h
  split at h
  · rename_i t ht
    have he : a.eval c = .bool t := by rw [ha.eval]; exact ht
    exact wp_cond_split he (fun e => h.1 e a w ha hw) (fun e => h.2 e a w ha hw)
  · exact h.elim
theorem cv_loop {c : Code} (I : Fr → List Res → Prop) (μ : Fr → List Res → Nat) (h₀ : I F L)
    (round : ∀ F' L', I F' L' → CV P M W n c F' L' (thenQ (fun F'' L'' => I F'' L'' ∧ μ F'' L'' < μ F' L') Q)) : CV P M W n (.loop c) F L Q := fun a w ha hw => by
  intro b k cs
  have key : ∀ m F L a w, μ F L = m → I F L → FrOK n a F → St M W L w →
      ∃ e a' w', liftQ M W n Q e a' w' ∧ Arrives P (lone (b.at a (.code c :: .inLoop c :: k)) cs w) b k cs e a' w' := by
    intro m
    induction m using Nat.strongRecOn with
    | _ m ih =>
      intro F L a w hm hI ha hw
      obtain ⟨e, a₁, w₁, hq, harr⟩ := round F L hI a w ha hw b (.inLoop c :: k) cs
      cases e with
      | normal =>
        obtain ⟨F', L', h1, h2, hI₁, hlt⟩ := hq
        obtain ⟨e₂, a₂, w₂, hq₂, harr₂⟩ := ih (μ F' L') (hm ▸ hlt) F' L' a₁ w₁ rfl hI₁ h1 h2
        exact ⟨e₂, a₂, w₂, hq₂, .of_steps (Steps.trans harr (.one step_inLoop)) harr₂⟩
      | exit id => exact ⟨.exit id, a₁, w₁, hq, .pass (x := .inLoop c) rfl (fun _ _ => .inl (by simp)) harr⟩
      | goto l => exact ⟨.goto l, a₁, w₁, hq, .pass (x := .inLoop c) rfl (fun _ _ => .inl (by simp)) harr⟩
      | ret => exact ⟨.ret, a₁, w₁, hq, .pass (x := .inLoop c) rfl (fun _ _ => .inl (by simp)) harr⟩
      | panic ch => exact hq.elim
      | outgrown => exact hq.elim
  obtain ⟨e, a', w', hq, harr⟩ := key _ F L a w rfl h₀ ha hw
  exact ⟨e, a', w', hq, .of_steps (.one step_loop) harr⟩
theorem slots_of {ops : Array Oper} (h : ops.toList.all (fun o => dstV n o.dst) = true) : ∀ j o d, nth ops.toList j = some o → o.dst = some d → d < n := by
  intro j o d ho hd
  rw [nth_eq] at ho
  have := List.all_eq_true.1 h o (List.mem_of_getElem? ho)
  rw [hd] at this
  exact dstV_ok this
theorem cv_region {id : Nat} {l : List Oper} (hd : l.all (fun o => dstV n o.dst) = true) {K : Fr → List Res → Prop} (h : vcn P M W n l true l F L K) (hk : ∀ F' L', K F' L' → Q .normal F' L') : CV P M W n (.region id l.toArray false) F L Q := fun a w ha hw =>
  wp_region_list (vcn_sound (ops := l.toArray) (slots_of (by simpa using hd)) l hd (by simpa using h) ha hw fun F' L' a' w' hK h1 h2 => ⟨F', L', h1, h2, hk _ _ hK⟩)
theorem cv_region_then {id : Nat} {l : List Oper} (hd : l.all (fun o => dstV n o.dst) = true) {K : Fr → List Res → Prop} (h : vcn P M W n l true l F L K) : CV P M W n (.region id l.toArray false) F L (thenQ K Q) := cv_region hd h fun _ _ h => h
theorem cv_draw_of {id : Nat} {l : List Oper} (L0 : List Res) (hL0 : ∀ w, St M W L w → St M W L0 w) (hsub : Suf L0 L) (p : List (Bool × Nat)) (fin : List Nat) (hm : P.follows .mixedOrders = true) (hd : l.all (fun o => dstV n o.dst) = true) (hs : Region.noSelect l.toArray = true)
    (hp : planOk .any l.toArray fin p (Array.replicate l.toArray.size false) = true) (hz : p.length = l.toArray.size) (hf : finOk fin p = true) {K : Fr → List Res → Prop} (h : vcd P M W n l L0 fin true p F L K) : CV P M W n (.region id l.toArray true) F L (thenQ K Q) := fun a w ha hw =>
  wp_region_plan p (St M W L0) fin hm hs hp hz (by intro c d v a w hh; exact hh)
    (vcd_sound (ops := l.toArray) (K := K) (slots_of (by simpa using hd)) (hL0 w hw).apart p (by simpa using h) ha hw.drew hf (.inr hsub) fun F' L' a' w' hK h1 h2 => ⟨F', L', h1, h2, hK⟩)
theorem cv_draw {id : Nat} {l : List Oper} (p : List (Bool × Nat)) (fin : List Nat) (hm : P.follows .mixedOrders = true) (hd : l.all (fun o => dstV n o.dst) = true) (hs : Region.noSelect l.toArray = true)
    (hp : planOk .any l.toArray fin p (Array.replicate l.toArray.size false) = true) (hz : p.length = l.toArray.size) (hf : finOk fin p = true) {K : Fr → List Res → Prop} (h : vcd P M W n l L fin true p F L K) : CV P M W n (.region id l.toArray true) F L (thenQ K Q) :=
  cv_draw_of L (fun _ h => h) (by rw [suf_refl]; trivial) p fin hm hd hs hp hz hf h

/-! ## Calls -/
def retV : List ResultVar → Fr → Option Value
  | [.tmp t], F => some (F t)
  | [.tmp t, .tmp u], F => some (.tuple #[F t, F u])
  | [.tmp t, .tmp u, .tmp v], F => some (.tuple #[F t, F u, F v])
  | [], F => some (.tuple #[])
  | _, _ => none
theorem retV_sound {fn : Func} {a : Act} {v : Value} (ha : FrOK n a F) (h : retV fn.results.toList F = some v) (w : World) : (results fn a.tmps).run P w = .ok v w := by
  have hr : fn.results = fn.results.toList.toArray := by simp
  revert h hr
  generalize fn.results.toList = l
  intro h hr
  unfold retV at h
  split at h
  · cases h; rw [results_tmp hr, ← ha.get]
  · cases h; rw [results_tmp2 hr, ← ha.get, ← ha.get]
  · cases h
    simp [results, hr]
    exact ⟨by simpa using ha.get _, by simpa using ha.get _, by simpa using ha.get _⟩
  · cases h; rw [results_none hr]
  · cases h
def retQ (M : List Nat) (W : World) (rs : List ResultVar) (R : Ending → World → Prop) : Exit → Fr → List Res → Prop
  | .normal, F, L => ∃ v, retV rs F = some v ∧ ∀ w, St M W L w → R (.returned v) w
  | .ret, F, L => ∃ v, retV rs F = some v ∧ ∀ w, St M W L w → R (.returned v) w
  | _, _, _ => False
theorem calls_cv {f : FuncId} {fn : Func} {c : Code} {args : List Value} {R : Ending → World → Prop} {L : List Res} (rs : List ResultVar) (hrs : fn.results = rs.toArray) (hf : P.funcs[f]? = some fn) (hb : fn.body = some c) (hn : fn.ntmps = n) (hl : args.length ≤ n) (hw : St M W L W)
    (h : CV P M W n c (mkF args) L (retQ M W rs R)) : Calls P f args.toArray W R := by
  obtain rfl : fn.results.toList = rs := by rw [hrs]
  refine calls_of_wp hf hb (wp_mono (h _ W ⟨rfl, by simp [hn]; omega, fun i => ?_⟩ hw) ?_)
  · simp only [mkF]
    rcases Nat.lt_or_ge i args.length with h1 | h1
    · have h2 : i < (args.toArray ++ Array.replicate (fn.ntmps - args.toArray.size) undef).size := by simp; omega
      simp [Array.getElem?_append, h1]
    · have h2 : args[i]? = none := List.getElem?_eq_none h1
      simp [Array.getElem?_append, Nat.not_lt.2 h1, Array.getElem?_replicate, h2]
      split <;> rfl
  · intro e a w hh
    cases e <;> first
      | exact hh.elim
      | (obtain ⟨F', L', h1, h2, h3⟩ := hh
         first
           | exact h3.elim
           | (obtain ⟨v, hv, hr⟩ := h3
              exact ⟨h1.defers, v, retV_sound h1 hv w, hr w h2⟩))
end

/-! ## Slots that a piece writes -/
def inI : List (Nat × Nat) → Nat → Bool
  | [], _ => false
  | (a, b) :: r, i => (Nat.ble a i && Nat.ble i b) || inI r i
def Only (D : List (Nat × Nat)) (F F' : Fr) : Prop := ∀ i, inI D i = false → F' i = F i
theorem Only.get {D : List (Nat × Nat)} {F F' : Fr} (h : Only D F F') : ∀ i, inI D i = false → F' i = F i := h
theorem Only.refl (D : List (Nat × Nat)) (F : Fr) : Only D F F := fun _ _ => rfl
theorem Only.upd {D : List (Nat × Nat)} {F F' : Fr} (h : Only D F F') {d : Nat} (hd : inI D d = true) (v : Value) : Only D F (upd F' d v) := fun i hi => by
  unfold Go.Proofs.Ytehfnjaompkikaa.upd
  by_cases e : i = d
  · subst e; rw [hd] at hi; cases hi
  · rw [if_neg e]; exact h i hi
end Go.Proofs.Ytehfnjaompkikaa
