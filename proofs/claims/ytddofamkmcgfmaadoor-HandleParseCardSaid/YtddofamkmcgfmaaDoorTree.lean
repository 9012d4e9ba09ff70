/- Regions that draw their order among operations that act: a tree of orders. -/
import Derived.Test.YtddofamkmcgfmaaDoorEng9
namespace Go.Proofs.YtddofamkmcgfmaaDoor
open Go.RowKit Go.Shelf
set_option linter.unusedVariables false
set_option linter.unusedSimpArgs false
/-- rd: only reads, taken first; act: acts, nothing else may come up; alt: two that act may come up. -/
inductive PT where
  | done
  | rd (i : Nat) (r : PT)
  | act (i : Nat) (r : PT)
  | alt (i j : Nat) (p q : PT)
def PT.ok (md : Region.Mode) (ops : Array Oper) (fin : List Nat) : PT → Array Bool → Bool
  | .done, listed => (Region.ready md ops listed).isEmpty
  | .rd i r, listed => waited md ops fin i listed && Region.free md ops listed i && (Region.ready md ops listed).contains i && PT.ok md ops fin r (listed.setIfInBounds i true)
  | .act i r, listed => (Region.ready md ops listed == [i]) && PT.ok md ops fin r (listed.setIfInBounds i true)
  | .alt i j p q, listed => (Region.ready md ops listed == [i, j]) && PT.ok md ops fin p (listed.setIfInBounds i true) && PT.ok md ops fin q (listed.setIfInBounds j true)
def PT.lenOk : PT → Nat → Bool
  | .done, n => n == 0
  | .rd _ r, n + 1 => r.lenOk n
  | .act _ r, n + 1 => r.lenOk n
  | .alt _ _ p q, n + 1 => p.lenOk n && q.lenOk n
  | _, 0 => false
section
variable {P : Program} {ops : Array Oper} {Q : Exit → Act → World → Prop} {md : Region.Mode} {S : World → Prop} {fin : List Nat}
def wpT (P : Program) (ops : Array Oper) (Q : Exit → Act → World → Prop) (S : World → Prop) (fin : List Nat) : PT → Act → World → Prop
  | .done, a, w => Q .normal a w
  | .rd i r, a, w => S w ∧ ∃ o v, ops[i]? = some o ∧ YieldsIf P ops S o v a ∧ wpT P ops Q S fin r (a.put o.dst v) w
  | .act i r, a, w => ∃ o, ops[i]? = some o ∧ wpList P ops (Exit.then (fun a' w' => (fin.contains i = false → S w') ∧ wpT P ops Q S fin r a' w') Q) [o] a w
  | .alt i j p q, a, w => (∃ o, ops[i]? = some o ∧ wpList P ops (Exit.then (fun a' w' => (fin.contains i = false → S w') ∧ wpT P ops Q S fin p a' w') Q) [o] a w) ∧
      (∃ o, ops[j]? = some o ∧ wpList P ops (Exit.then (fun a' w' => (fin.contains j = false → S w') ∧ wpT P ops Q S fin q a' w') Q) [o] a w)
theorem tree_sound (hs : Region.noSelect ops = true) (hQ : ∀ c d v (a : Act) w, Q (.panic c) (a.put d v) w → Q (.panic c) a w) :
    ∀ (p : PT) (n : Nat) (listed : Array Bool) (a : Act) (w : World), p.ok md ops fin listed = true → p.lenOk n = true → wpT P ops Q S fin p a w → wpAnyN P md ops Q S fin n listed a w
  | .done, n, listed, a, w, hp, hl, h => by
    simp only [PT.lenOk, beq_iff_eq] at hl
    subst hl
    exact ⟨by simpa [PT.ok] using hp, h⟩
  | .rd i r, 0, listed, a, w, hp, hl, h => by cases hl
  | .act i r, 0, listed, a, w, hp, hl, h => by cases hl
  | .alt i j p q, 0, listed, a, w, hp, hl, h => by cases hl
  | .rd i r, n + 1, listed, a, w, hp, hl, h => by
    simp only [PT.ok, Bool.and_eq_true] at hp
    obtain ⟨⟨⟨h1, h2⟩, h3⟩, h4⟩ := hp
    obtain ⟨hS, o, v, ho, hy, hr⟩ := h
    exact wpAnyN_take ho h1 hs h2 h3 (fun c a w => hQ c _ _ a w) hy hS (tree_sound hs hQ r n _ _ _ h4 hl hr)
  | .act i r, n + 1, listed, a, w, hp, hl, h => by
    simp only [PT.ok, Bool.and_eq_true, beq_iff_eq] at hp
    obtain ⟨h1, h2⟩ := hp
    obtain ⟨o, ho, hlst⟩ := h
    refine ⟨fun h0 => (by rw [h0] at h1; cases h1), fun j hj => ?_⟩
    rw [h1] at hj
    obtain rfl : j = i := by simpa using hj
    exact wpOp_mono (fun a' w' h' => ⟨h'.1, tree_sound hs hQ r n _ _ _ h2 hl h'.2⟩) (wpOp_of_list ho hlst)
  | .alt i j p q, n + 1, listed, a, w, hp, hl, h => by
    simp only [PT.ok, Bool.and_eq_true, beq_iff_eq] at hp
    simp only [PT.lenOk, Bool.and_eq_true] at hl
    obtain ⟨⟨h1, h2⟩, h3⟩ := hp
    obtain ⟨⟨o, ho, hlst⟩, ⟨o2, ho2, hlst2⟩⟩ := h
    refine ⟨fun h0 => (by rw [h0] at h1; cases h1), fun k hk => ?_⟩
    rw [h1] at hk
    simp only [List.mem_cons, List.not_mem_nil, or_false] at hk
    rcases hk with rfl | rfl
    · exact wpOp_mono (fun a' w' h' => ⟨h'.1, tree_sound hs hQ p n _ _ _ h2 hl.1 h'.2⟩) (wpOp_of_list ho hlst)
    · exact wpOp_mono (fun a' w' h' => ⟨h'.1, tree_sound hs hQ q n _ _ _ h3 hl.2 h'.2⟩) (wpOp_of_list ho2 hlst2)
theorem wp_region_tree {id : Nat} {a : Act} {w : World} (p : PT) (S : World → Prop) (fin : List Nat) (hm : P.follows .mixedOrders = true) (hs : Region.noSelect ops = true)
    (hp : p.ok .any ops fin (Array.replicate ops.size false) = true) (hz : p.lenOk ops.size = true) (hQ : ∀ c d v (a : Act) w, Q (.panic c) (a.put d v) w → Q (.panic c) a w)
    (h : wpT P ops Q S fin p a w.drew) : (Code.region id ops true).wp P Q a w :=
  wp_region_any hm (wpAny_of_need _ _ _ _ (tree_sound hs hQ p _ _ _ _ hp hz h))
end
section
variable {P : Program} {M : List Nat} {W : World} {n : Nat}
/-- By a tree, over the abstract state. -/
def vct (P : Program) (M : List Nat) (W : World) (n : Nat) (os : List Oper) (L0 : List Res) (fin : List Nat) (tok : Bool) : PT → Fr → List Res → (Fr → List Res → Prop) → Prop
  | .done, F, L, K => K F L
  | .rd i r, F, L, K => match nth os i with
    | some o => guardV os F o.guard (readV P M W o F L0 fun tok v => vct P M W n os L0 fin tok r (updo F o.dst v) L K) (vct P M W n os L0 fin tok r (updo F o.dst undef) L K)
    | none => False
  | .act i r, F, L, K => match nth os i with
    | some o => guardV os F o.guard (stepV P M W o F L fun tok v L' => (fin.contains i = false → Suf L0 L') ∧ vct P M W n os L0 fin tok r (updo F o.dst v) L' K) (vct P M W n os L0 fin tok r (updo F o.dst undef) L K)
    | none => False
  | .alt i j p q, F, L, K => (match nth os i with
    | some o => guardV os F o.guard (stepV P M W o F L fun tok v L' => (fin.contains i = false → Suf L0 L') ∧ vct P M W n os L0 fin tok p (updo F o.dst v) L' K) (vct P M W n os L0 fin tok p (updo F o.dst undef) L K)
    | none => False) ∧ (match nth os j with
    | some o => guardV os F o.guard (stepV P M W o F L fun tok v L' => (fin.contains j = false → Suf L0 L') ∧ vct P M W n os L0 fin tok q (updo F o.dst v) L' K) (vct P M W n os L0 fin tok q (updo F o.dst undef) L K)
    | none => False)
def vtg (P : Program) (M : List Nat) (W : World) (n : Nat) (os : List Oper) (L0 : List Res) (fin : List Nat) (x : Bool) (i : Nat) (s : Option Bool) (o : Oper) (r : PT) (F : Fr) (L : List Res) (K : Fr → List Res → Prop) : Prop :=
  match s, x with
  | some t, true => (t = true → readV P M W o F L0 fun tok v => vct P M W n os L0 fin tok r (updo F o.dst v) L K) ∧ (t = false → vct P M W n os L0 fin true r (updo F o.dst undef) L K)
  | some t, false => (t = true → stepV P M W o F L fun tok v L' => (fin.contains i = false → Suf L0 L') ∧ vct P M W n os L0 fin tok r (updo F o.dst v) L' K) ∧ (t = false → vct P M W n os L0 fin true r (updo F o.dst undef) L K)
  | none, _ => False
def vto (P : Program) (M : List Nat) (W : World) (n : Nat) (os : List Oper) (L0 : List Res) (fin : List Nat) (x : Bool) (i : Nat) (o : Option Oper) (r : PT) (F : Fr) (L : List Res) (K : Fr → List Res → Prop) : Prop :=
  match o with
  | none => False
  | some o => match o.guard with
    | none => (match x with
      | true => readV P M W o F L0 fun tok v => vct P M W n os L0 fin tok r (updo F o.dst v) L K
      | false => stepV P M W o F L fun tok v L' => (fin.contains i = false → Suf L0 L') ∧ vct P M W n os L0 fin tok r (updo F o.dst v) L' K)
    | some (j, b) => vtg P M W n os L0 fin x i (gst os F j b) o r F L K
section
variable {os : List Oper} {L0 : List Res} {fin : List Nat} {x : Bool} {i j : Nat} {o : Oper} {r p q : PT} {F : Fr} {L : List Res} {K : Fr → List Res → Prop}
theorem vto_eq_rd : vto P M W n os L0 fin true i (nth os i) r F L K = vct P M W n os L0 fin true (.rd i r) F L K := by
  simp only [vct, vto]
  cases nth os i with
  | none => rfl
  | some o =>
    simp only
    cases hg : o.guard with
    | none => rfl
    | some jb =>
      obtain ⟨j, b⟩ := jb
      simp only
      rw [guardV_gst]
      unfold vtg
      cases gst os F j b <;> rfl
theorem vto_eq_act : vto P M W n os L0 fin false i (nth os i) r F L K = vct P M W n os L0 fin true (.act i r) F L K := by
  simp only [vct, vto]
  cases nth os i with
  | none => rfl
  | some o =>
    simp only
    cases hg : o.guard with
    | none => rfl
    | some jb =>
      obtain ⟨j, b⟩ := jb
      simp only
      rw [guardV_gst]
      unfold vtg
      cases gst os F j b <;> rfl
theorem vct_done : vct P M W n os L0 fin true .done F L K = K F L := rfl
theorem vct_rd : vct P M W n os L0 fin true (.rd i r) F L K = vto P M W n os L0 fin true i (nth os i) r F L K := vto_eq_rd.symm
theorem vct_act : vct P M W n os L0 fin true (.act i r) F L K = vto P M W n os L0 fin false i (nth os i) r F L K := vto_eq_act.symm
theorem vct_alt : vct P M W n os L0 fin true (.alt i j p q) F L K = (vto P M W n os L0 fin false i (nth os i) p F L K ∧ vto P M W n os L0 fin false j (nth os j) q F L K) := by
  rw [vto_eq_act, vto_eq_act]
  rfl
variable {d : Option Nat} {op : Op} {ty : TypeId} {pos : String} {af : Array Edge} {b : Bool}
theorem vto_read : vto P M W n os L0 fin true i (some ⟨d, op, ty, pos, af, none⟩) r F L K = readV P M W ⟨d, op, ty, pos, af, none⟩ F L0 fun tok v => vct P M W n os L0 fin tok r (updo F d v) L K := rfl
theorem vto_step : vto P M W n os L0 fin false i (some ⟨d, op, ty, pos, af, none⟩) r F L K = stepV P M W ⟨d, op, ty, pos, af, none⟩ F L fun tok v L' => (fin.contains i = false → Suf L0 L') ∧ vct P M W n os L0 fin tok r (updo F d v) L' K := rfl
theorem vto_guard : vto P M W n os L0 fin x i (some ⟨d, op, ty, pos, af, some (j, b)⟩) r F L K = vtg P M W n os L0 fin x i (gst os F j b) ⟨d, op, ty, pos, af, some (j, b)⟩ r F L K := rfl
theorem vtg_read : vtg P M W n os L0 fin true i (some true) o r F L K = readV P M W o F L0 fun tok v => vct P M W n os L0 fin tok r (updo F o.dst v) L K := by simp [vtg]
theorem vtg_step : vtg P M W n os L0 fin false i (some true) o r F L K = stepV P M W o F L fun tok v L' => (fin.contains i = false → Suf L0 L') ∧ vct P M W n os L0 fin tok r (updo F o.dst v) L' K := by simp [vtg]
theorem vtg_false : vtg P M W n os L0 fin x i (some false) o r F L K = vct P M W n os L0 fin true r (updo F o.dst undef) L K := by cases x <;> simp [vtg]
end
/-- Behind an operation of fin nothing reads. -/
def PT.noRead (fin : List Nat) : PT → Bool
  | .done => true
  | .rd _ _ => false
  | .act i r => fin.contains i && r.noRead fin
  | .alt i j p q => fin.contains i && fin.contains j && p.noRead fin && q.noRead fin
def PT.finOk (fin : List Nat) : PT → Bool
  | .done => true
  | .rd _ r => r.finOk fin
  | .act i r => if fin.contains i then r.noRead fin else r.finOk fin
  | .alt i j p q => (if fin.contains i then p.noRead fin else p.finOk fin) && (if fin.contains j then q.noRead fin else q.finOk fin)
theorem PT.fin_of_no {fin : List Nat} : ∀ (p : PT), p.noRead fin = true → p.finOk fin = true
  | .done, _ => rfl
  | .rd _ _, h => by cases h
  | .act i r, h => by
    simp only [PT.noRead, Bool.and_eq_true] at h
    simp only [PT.finOk]
    rw [if_pos h.1]
    exact h.2
  | .alt i j p q, h => by
    simp only [PT.noRead, Bool.and_eq_true] at h
    simp only [PT.finOk]
    rw [if_pos h.1.1.1, if_pos h.1.1.2, h.1.2, h.2]
    rfl
theorem vct_sound {ops : Array Oper} {Q : Exit → Act → World → Prop} {L0 : List Res} {fin : List Nat} (hn : ∀ j o d, nth ops.toList j = some o → o.dst = some d → d < n) (hap : L0.Pairwise (fun r s => ∀ b ∈ r.foot, b ∉ s.foot)) : ∀ (p : PT) {F : Fr} {L : List Res} {K : Fr → List Res → Prop} {a : Act} {w : World},
    vct P M W n ops.toList L0 fin true p F L K → FrOK n a F → St M W L w → p.finOk fin = true → (p.noRead fin = true ∨ Suf L0 L) → (∀ F' L' a' w', K F' L' → FrOK n a' F' → St M W L' w' → Q .normal a' w') → wpT P ops Q (St M W L0) fin p a w
  | .done, F, L, K, a, w, h, ha, hw, hf, hsuf, hq => hq _ _ _ _ h ha hw
  | .rd i r, F, L, K, a, w, h, ha, hw, hf, hsuf, hq => by
    simp only [vct] at h
    have hsuf' : Suf L0 L := hsuf.resolve_left (by simp [PT.noRead])
    have hS : St M W L0 w := hw.of_suf hsuf' hap
    split at h
    · rename_i o ho
      have hd : dstOk n o.dst := by
        cases hdo : o.dst with
        | none => trivial
        | some d => exact hn i o d ho hdo
      rcases guardV_sound ha hn h with ⟨hwt, h⟩ | ⟨hwt, h⟩
      · obtain ⟨v, hr, hk⟩ := readV_sound h
        exact ⟨hS, o, v, nth_op ho, .inl ⟨hwt, fun w' hw' => by rw [ha.eval]; exact hr w' hw'⟩, vct_sound hn hap r hk (ha.put hd v) hw hf (.inr hsuf') hq⟩
      · exact ⟨hS, o, undef, nth_op ho, .inr ⟨hwt, rfl⟩, vct_sound hn hap r h (ha.put hd undef) hw hf (.inr hsuf') hq⟩
    · exact h.elim
  | .act i r, F, L, K, a, w, h, ha, hw, hf, hsuf, hq => by
    simp only [vct] at h
    split at h
    · rename_i o ho
      have hd : dstOk n o.dst := by
        cases hdo : o.dst with
        | none => trivial
        | some d => exact hn i o d ho hdo
      have hf' : r.finOk fin = true := by
        simp only [PT.finOk] at hf
        split at hf
        · exact r.fin_of_no hf
        · exact hf
      have hnext : ∀ L', (fin.contains i = false → Suf L0 L') → (r.noRead fin = true ∨ Suf L0 L') := by
        intro L' hL
        cases hc : fin.contains i with
        | true =>
          simp only [PT.finOk, hc, if_true] at hf
          exact .inl hf
        | false => exact .inr (hL hc)
      have hsame : fin.contains i = false → Suf L0 L := fun hc => hsuf.resolve_left (by simp only [PT.noRead, hc, Bool.false_and, Bool.and_false, Bool.false_eq_true, not_false_eq_true])
      refine ⟨o, nth_op ho, ?_⟩
      rcases guardV_sound ha hn h with ⟨hwt, h⟩ | ⟨hwt, h⟩
      · unfold wpList
        rw [if_pos hwt]
        refine .inl (step_sound h ha.eval hw fun v L' w' hk hs => ?_)
        exact ⟨fun hc => hs.of_suf (hk.1 hc) hap, vct_sound hn hap r hk.2 (ha.put hd v) hs hf' (hnext L' hk.1) hq⟩
      · unfold wpList
        rw [hwt]
        exact ⟨fun hc => hw.of_suf (hsame hc) hap, vct_sound hn hap r h (ha.put hd undef) hw hf' (hnext L hsame) hq⟩
    · exact h.elim
  | .alt i j p q, F, L, K, a, w, h, ha, hw, hf, hsuf, hq => by
    simp only [vct] at h
    obtain ⟨h1, h2⟩ := h
    simp only [PT.finOk, Bool.and_eq_true] at hf
    refine ⟨?_, ?_⟩
    · split at h1
      · rename_i o ho
        have hd : dstOk n o.dst := by
          cases hdo : o.dst with
          | none => trivial
          | some d => exact hn i o d ho hdo
        have hf' : p.finOk fin = true := by
          have := hf.1
          split at this
          · exact p.fin_of_no this
          · exact this
        have hnext : ∀ L', (fin.contains i = false → Suf L0 L') → (p.noRead fin = true ∨ Suf L0 L') := by
          intro L' hL
          cases hc : fin.contains i with
          | true =>
            have := hf.1
            rw [hc, if_pos rfl] at this
            exact .inl this
          | false => exact .inr (hL hc)
        have hsame : fin.contains i = false → Suf L0 L := fun hc => hsuf.resolve_left (by simp only [PT.noRead, hc, Bool.false_and, Bool.and_false, Bool.false_eq_true, not_false_eq_true])
        refine ⟨o, nth_op ho, ?_⟩
        rcases guardV_sound ha hn h1 with ⟨hwt, h⟩ | ⟨hwt, h⟩
        · unfold wpList
          rw [if_pos hwt]
          refine .inl (step_sound h ha.eval hw fun v L' w' hk hs => ?_)
          exact ⟨fun hc => hs.of_suf (hk.1 hc) hap, vct_sound hn hap p hk.2 (ha.put hd v) hs hf' (hnext L' hk.1) hq⟩
        · unfold wpList
          rw [hwt]
          exact ⟨fun hc => hw.of_suf (hsame hc) hap, vct_sound hn hap p h (ha.put hd undef) hw hf' (hnext L hsame) hq⟩
      · exact h1.elim
    · split at h2
      · rename_i o ho
        have hd : dstOk n o.dst := by
          cases hdo : o.dst with
          | none => trivial
          | some d => exact hn j o d ho hdo
        have hf' : q.finOk fin = true := by
          have := hf.2
          split at this
          · exact q.fin_of_no this
          · exact this
        have hnext : ∀ L', (fin.contains j = false → Suf L0 L') → (q.noRead fin = true ∨ Suf L0 L') := by
          intro L' hL
          cases hc : fin.contains j with
          | true =>
            have := hf.2
            rw [hc, if_pos rfl] at this
            exact .inl this
          | false => exact .inr (hL hc)
        have hsame : fin.contains j = false → Suf L0 L := fun hc => hsuf.resolve_left (by simp only [PT.noRead, hc, Bool.false_and, Bool.and_false, Bool.false_eq_true, not_false_eq_true])
        refine ⟨o, nth_op ho, ?_⟩
        rcases guardV_sound ha hn h2 with ⟨hwt, h⟩ | ⟨hwt, h⟩
        · unfold wpList
          rw [if_pos hwt]
          refine .inl (step_sound h ha.eval hw fun v L' w' hk hs => ?_)
          exact ⟨fun hc => hs.of_suf (hk.1 hc) hap, vct_sound hn hap q hk.2 (ha.put hd v) hs hf' (hnext L' hk.1) hq⟩
        · unfold wpList
          rw [hwt]
          exact ⟨fun hc => hw.of_suf (hsame hc) hap, vct_sound hn hap q h (ha.put hd undef) hw hf' (hnext L hsame) hq⟩
      · exact h2.elim
/-- A region by a tree; each order keeps what it names. -/
theorem cv_tree {F : Fr} {L : List Res} {Q : Exit → Fr → List Res → Prop} {id : Nat} {l : List Oper} (ix : List Nat) (hnd : ix.Nodup) (hsub : Suf (pickL ix L) L) (p : PT) (fin : List Nat) (hm : P.follows .mixedOrders = true) (hd : l.all (fun o => dstV n o.dst) = true) (hs : Region.noSelect l.toArray = true)
    (hp : p.ok .any l.toArray fin (Array.replicate l.toArray.size false) = true) (hz : p.lenOk l.toArray.size = true) (hf : p.finOk fin = true) {K : Fr → List Res → Prop}
    (h : vct P M W n l (pickL ix L) fin true p F L (fun F' L' => ∃ jx : List Nat, jx.Nodup ∧ K F' (pickL jx L'))) : CV P M W n (.region id l.toArray true) F L (thenQ K Q) := fun a w ha hw =>
  wp_region_tree p (St M W (pickL ix L)) fin hm hs hp hz (by intro c d v a w hh; exact hh)
    (vct_sound (ops := l.toArray) (slots_of (by simpa using hd)) (hw.pick hnd).apart p (by simpa using h) ha hw.drew hf (.inr hsub) fun F' L' a' w' hK h1 h2 => by
      obtain ⟨jx, hj, hk⟩ := hK
      exact ⟨F', _, h1, h2.pick hj, hk⟩)
end
theorem cT : type_of% (And.intro (And.intro (And.intro @vct_done @vct_rd) (And.intro @vct_act (And.intro @vct_alt @vto_read))) (And.intro (And.intro @vto_step @vto_guard) (And.intro @vtg_read (And.intro @vtg_step @vtg_false)))) := (And.intro (And.intro (And.intro @vct_done @vct_rd) (And.intro @vct_act (And.intro @vct_alt @vto_read))) (And.intro (And.intro @vto_step @vto_guard) (And.intro @vtg_read (And.intro @vtg_step @vtg_false))))
end Go.Proofs.YtddofamkmcgfmaaDoor
