/- Decoding modules inverts encoding them: plain. -/
import Derived.Test.YtehfnjaompkikaaMDPlain
namespace Go.Proofs.Ytehfnjaompkikaa
open Go.RowKit Go.Shelf
set_option linter.unusedVariables false
set_option linter.unusedSimpArgs false
def bytesP (l : List Nat) : Prop := ∀ x ∈ l, x < 256
/-- What is read does not depend on what follows. -/
def Ext {α : Type} (g : List Nat → Rs α) : Prop := ∀ l a r, bytesP l → g l = .ok (a, r) → bytesP r ∧ ∀ s, g (l ++ s) = .ok (a, r ++ s)
theorem bytes_drop {l : List Nat} (h : bytesP l) (k : Nat) : bytesP (l.drop k) := fun x hx => h x (List.mem_of_mem_drop hx)
theorem uD_ext {l : List Nat} (hb : bytesP l) (h : (uD 0 l).2.2 = 0) (s : List Nat) : uD 0 (l ++ s) = uD 0 l := by
  have hlt := (uD_lt hb).1
  rcases uD_cases l 0 (by omega) hb with ⟨h1, h2, h3⟩ | ⟨h1, h2, h3, h4, h5, h6, h7⟩
  · omega
  have e : l = putU (uD 0 l).1 ++ l.drop (uD 0 l).2.1 := by rw [h7, List.take_append_drop]
  have e1 := uD_put0 hlt (l.drop (uD 0 l).2.1)
  rw [← e] at e1
  have e2 := uD_put0 hlt (l.drop (uD 0 l).2.1 ++ s)
  rw [← List.append_assoc, ← e] at e2
  rw [e2]
  exact e1.symm
theorem smF_ext {l : List Nat} {most : Nat} (hb : bytesP l) (h : (smF l 0 most).2.2 = 0) (s : List Nat) : smF (l ++ s) 0 most = smF l 0 most := by
  unfold smF at *
  rw [List.drop_zero] at *
  rw [List.drop_zero]
  by_cases h0 : (uD 0 l).2.2 = 0
  · rw [uD_ext hb h0]
  · rw [if_neg h0] at h
    exact absurd h h0
theorem drop_ext {l : List Nat} {k : Nat} (hk : k ≤ l.length) (s : List Nat) : (l ++ s).drop k = l.drop k ++ s := List.drop_append_of_le_length hk
theorem numX_ext (most : Nat) : Ext (numX most) := fun l a r hb h => by
  unfold numX at *
  by_cases h0 : (smF l 0 most).2.2 = 0
  · rw [if_pos h0] at h
    injection h with h
    injection h with h1 h2
    subst h1 h2
    have hle : (smF l 0 most).2.1 ≤ l.length := by
      rcases smF_cases hb (Nat.zero_le _) (most := most) with h | h
      · exact absurd h0 h.1
      · exact h.2.2.2.1
    exact ⟨bytes_drop hb _, fun s => by rw [smF_ext hb h0, if_pos h0, drop_ext hle]⟩
  · rw [if_neg h0] at h
    cases h
theorem decF_ext {l : List Nat} (hb : bytesP l) (h : (decF l).2.2.2 = 0) (s : List Nat) : decF (l ++ s) = decF l := by
  obtain ⟨h1, h2, h3⟩ := decF_only hb h
  have e : l = encB (decF l).1 (decF l).2.1 ++ l.drop (decF l).2.2.1 := by rw [h2, List.take_append_drop]
  have e1 := decF_enc h1 (l.drop (decF l).2.2.1)
  rw [← e] at e1
  have e2 := decF_enc h1 (l.drop (decF l).2.2.1 ++ s)
  rw [← List.append_assoc, ← e] at e2
  rw [e2]
  exact e1.symm
theorem tyX_ext : Ext tyX := fun l a r hb h => by
  unfold tyX at *
  by_cases h0 : (decF l).2.2.2 = 0
  · rw [if_pos h0] at h
    injection h with h
    injection h with h1 h2
    subst h1 h2
    have hle := (decF_only hb h0).2.2
    exact ⟨bytes_drop hb _, fun s => by rw [decF_ext hb h0, if_pos h0, drop_ext hle]⟩
  · rw [if_neg h0] at h
    cases h
theorem decI_ext {l : List Nat} (hb : bytesP l) (h : (decI l).2.2 = 0) (s : List Nat) : decI (l ++ s) = decI l := by
  cases l with
  | nil => simp [decI] at h
  | cons c r =>
    rw [List.cons_append, decI_cons, decI_cons]
    rw [decI_cons] at h
    by_cases h1 : knownP (c : Int)
    · have n1 : ¬ ¬ knownP (c : Int) := fun h => h h1
      rw [if_neg n1, if_neg n1]
      rw [if_neg n1] at h
      by_cases h2 : argP (c : Int)
      · have n2 : ¬ ¬ argP (c : Int) := fun h => h h2
        rw [if_neg n2, if_neg n2]
        rw [if_neg n2] at h
        by_cases h3 : (uD 0 r).2.2 = 0
        · rw [uD_ext (fun x hx => hb x (by simp [hx])) h3]
        · rw [if_neg h3] at h
          exact absurd h h3
      · rw [if_pos h2, if_pos h2]
    · rw [if_pos h1] at h
      cases h
theorem decI_used {l : List Nat} (hb : bytesP l) : (decI l).2.1 ≤ l.length := by
  cases l with
  | nil => decide
  | cons x l =>
    have hlt := uD_lt (l := l) fun y hy => hb y (by simp [hy])
    rw [decI_cons]
    split
    · simp
    · split
      · simp
      · split
        · have := hlt.2.1
          rw [List.length_cons]
          dsimp only
          omega
        · simp
theorem inX_ext : Ext inX := fun l a r hb h => by
  unfold inX at *
  by_cases h0 : (decI l).2.2 = 0
  · rw [if_pos h0] at h
    injection h with h
    injection h with h1 h2
    subst h1 h2
    exact ⟨bytes_drop hb _, fun s => by rw [decI_ext hb h0, if_pos h0, drop_ext (decI_used hb)]⟩
  · rw [if_neg h0] at h
    cases h
theorem thenX_ok {α β : Type} {r : Rs α} {g : List Nat → Rs β} {a : α} {b : β} {l : List Nat} (h : thenX r g = .ok ((a, b), l)) : ∃ l', r = .ok (a, l') ∧ g l' = .ok (b, l) := by
  unfold thenX at h
  cases r with
  | error e => cases h
  | ok p =>
    obtain ⟨a', l'⟩ := p
    dsimp only at h
    cases hg : g l' with
    | error e => rw [hg] at h; cases h
    | ok p =>
      obtain ⟨b', l''⟩ := p
      rw [hg] at h
      injection h with h
      injection h with h1 h2
      injection h1 with h3 h4
      subst h2 h3 h4
      exact ⟨l', rfl, hg⟩
theorem thenX_mk {α β : Type} {r : Rs α} {g : List Nat → Rs β} {a : α} {b : β} {l l' : List Nat} (h : r = .ok (a, l')) (hg : g l' = .ok (b, l)) : thenX r g = .ok ((a, b), l) := by
  unfold thenX
  rw [h]
  dsimp only
  rw [hg]
theorem thenX_ext {α β : Type} {f : List Nat → Rs α} {g : List Nat → Rs β} (hf : Ext f) (hg : Ext g) : Ext (fun l => thenX (f l) g) := fun l a r hb h => by
  obtain ⟨a, b⟩ := a
  obtain ⟨l', h1, h2⟩ := thenX_ok h
  obtain ⟨k1, k2⟩ := hf l a l' hb h1
  obtain ⟨k3, k4⟩ := hg l' b r k1 h2
  exact ⟨k3, fun s => thenX_mk (k2 s) (k4 s)⟩
theorem unit_ext : Ext (fun l => (.ok ((), l) : Rs Unit)) := fun l a r hb h => by
  injection h with h
  injection h with h1 h2
  subst h2
  exact ⟨hb, fun s => rfl⟩
theorem manyX_ext {α : Type} {g : List Nat → Rs α} (hg : Ext g) : ∀ k, Ext (manyX g k)
  | 0 => fun l a r hb h => by
    rw [manyX] at h
    injection h with h
    injection h with h1 h2
    subst h1 h2
    exact ⟨hb, fun s => rfl⟩
  | k + 1 => fun l a r hb h => by
    rw [manyX] at h
    cases h1 : g l with
    | error e => rw [h1] at h; cases h
    | ok p =>
      obtain ⟨x, l'⟩ := p
      rw [h1] at h
      dsimp only at h
      cases h2 : manyX g k l' with
      | error e => rw [h2] at h; cases h
      | ok p =>
        obtain ⟨xs, l''⟩ := p
        rw [h2] at h
        injection h with h
        injection h with h3 h4
        subst h3 h4
        obtain ⟨k1, k2⟩ := hg l x l' hb h1
        obtain ⟨k3, k4⟩ := manyX_ext hg k l' xs l'' k1 h2
        exact ⟨k3, fun s => by rw [manyX, k2 s]; dsimp only; rw [k4 s]⟩
theorem cntX_ext {α : Type} {g : List Nat → Rs α} (hg : Ext g) (most : Nat) : Ext (cntX g most) := fun l a r hb h => by
  unfold cntX at *
  cases h1 : numX most l with
  | error e => rw [h1] at h; cases h
  | ok p =>
    obtain ⟨n, l'⟩ := p
    rw [h1] at h
    dsimp only at h
    obtain ⟨k1, k2⟩ := numX_ext most l n l' hb h1
    obtain ⟨k3, k4⟩ := manyX_ext hg n l' a r k1 h
    exact ⟨k3, fun s => by rw [k2 s]; exact k4 s⟩
theorem fnX_ext : Ext fnX := thenX_ext (thenX_ext (thenX_ext (thenX_ext unit_ext (numX_ext _)) (numX_ext _)) (numX_ext _)) (cntX_ext inX_ext _)
theorem decX_ext : Ext decX := thenX_ext (thenX_ext unit_ext (cntX_ext tyX_ext _)) (cntX_ext fnX_ext _)
/-! ## An encoding is read back -/
theorem numX_put {n most : Nat} (hn : n ≤ most) (h : n < 18446744073709551616) (r : List Nat) : numX most (putU n ++ r) = .ok (n, r) := by
  have := smF_put (l := putU n ++ r) (p := 0) (most := most) (n := n) (r := r) (by rw [List.drop_zero]) h hn
  unfold numX
  rw [this, if_pos rfl]
  dsimp only
  rw [Nat.zero_add, List.drop_left]
theorem tyX_enc {t : TyR} (h : chk t.len t.fs = 0) (r : List Nat) : tyX (encTy t ++ r) = .ok ((t.len, t.fs), r) := by
  unfold tyX encTy
  rw [decF_enc h, if_pos rfl]
  dsimp only
  rw [List.drop_left]
theorem inX_enc {i : Ins} (h : i.err = 0) (ha : i.arg < 18446744073709551616) (r : List Nat) : inX (encI i ++ r) = .ok (i, r) := by
  obtain ⟨hk, hz⟩ := Ins.err_zero h
  have hop : ((i.op.toNat : Nat) : Int) = i.op := Int.toNat_of_nonneg (by omega)
  unfold inX encI
  have n1 : ¬ ¬ knownP i.op := fun h => h hk
  rw [List.cons_append, decI_cons, hop, if_neg n1]
  by_cases h2 : argP i.op
  · have n2 : ¬ ¬ argP i.op := fun h => h h2
    rw [if_neg n2, if_pos h2, uD_put0 ha]
    simp only [if_true]
    rw [Nat.add_comm, List.drop_succ_cons, List.drop_left]
  · rw [if_pos h2, if_neg h2]
    simp only [if_true]
    obtain ⟨op, arg⟩ := i
    have : arg = 0 := hz h2
    subst this
    rfl
theorem manyX_enc {α β : Type} {g : List Nat → Rs α} (f : β → List Nat) (d : β → α) : ∀ (xs : List β), (∀ x ∈ xs, ∀ r, g (f x ++ r) = .ok (d x, r)) → ∀ r, manyX g xs.length (xs.flatMap f ++ r) = .ok (xs.map d, r)
  | [], _, r => rfl
  | x :: xs, h, r => by
    rw [List.length_cons, manyX, List.flatMap_cons, List.append_assoc, h x (by simp)]
    dsimp only
    rw [manyX_enc f d xs fun y hy => h y (by simp [hy])]
    rfl
theorem cntX_enc {α β : Type} {g : List Nat → Rs α} (f : β → List Nat) (d : β → α) {most : Nat} (xs : List β) (h : ∀ x ∈ xs, ∀ r, g (f x ++ r) = .ok (d x, r)) (hl : xs.length ≤ most) (hm : most < 18446744073709551616) (r : List Nat) :
    cntX g most (putU xs.length ++ (xs.flatMap f ++ r)) = .ok (xs.map d, r) := by
  unfold cntX
  rw [numX_put hl (by omega)]
  exact manyX_enc f d xs h r
def fnQ (f : FnR) : FnQ := (((((), f.p.toNat), f.r.toNat), f.l.toNat), f.code)
theorem fnX_enc {f : FnR} {j : Int} (h : fnErr j f = 0) (hi : ∀ x ∈ f.code, x.err = 0) (ha : ∀ x ∈ f.code, x.arg < 18446744073709551616) (r : List Nat) : fnX (encFn f ++ r) = .ok (fnQ f, r) := by
  obtain ⟨h1, h2, h3, h4, h5, h6, h7, h8, -⟩ := fnErr_ok h
  have e : encFn f ++ r = putU f.p.toNat ++ (putU f.r.toNat ++ (putU f.l.toNat ++ (putU f.code.length ++ (f.code.flatMap encI ++ r)))) := by
    unfold encFn
    simp
  rw [e]
  have k := cntX_enc (g := inX) encI id f.code (fun x hx r => inX_enc (hi x hx) (ha x hx) r) h8 (by decide) r
  rw [List.map_id] at k
  exact thenX_mk (thenX_mk (thenX_mk (thenX_mk rfl (numX_put (by omega) (by omega) _)) (numX_put (by omega) (by omega) _)) (numX_put (by omega) (by omega) _)) k
theorem qD_fnQ {f : FnR} {j : Int} (h : fnErr j f = 0) : qD (fnQ f) = fnD f := by
  obtain ⟨h1, h2, h3, -⟩ := fnErr_ok h
  unfold qD fnQ fnD
  dsimp only
  rw [Int.toNat_of_nonneg h1, Int.toNat_of_nonneg h2, Int.toNat_of_nonneg h3]
def modQ (m : ModR) : ModQ := (((), m.ts.map fun t => (t.len, t.fs)), m.gs.map fnQ)
theorem decX_enc {m : ModR} (h : (chkM m).1 = 0) (ha : ∀ g ∈ m.gs, ∀ i ∈ g.code, i.arg < 18446744073709551616) (r : List Nat) : decX ((encM m).drop 4 ++ r) = .ok (modQ m, r) := by
  obtain ⟨h1, h2, h3, h4, h5⟩ := chkM_ok h
  have e : (encM m).drop 4 ++ r = putU m.ts.length ++ (m.ts.flatMap encTy ++ (putU m.gs.length ++ (m.gs.flatMap encFn ++ r))) := by
    unfold encM
    rw [List.append_assoc, List.append_assoc, List.append_assoc]
    show (magicB ++ _).drop magicB.length ++ r = _
    rw [List.drop_left]
    simp
  rw [e]
  refine thenX_mk (thenX_mk rfl (cntX_enc encTy (fun t => (t.len, t.fs)) m.ts (fun t ht r => tyX_enc (h2 t ht) r) h1 (by decide) _)) (cntX_enc encFn fnQ m.gs (fun g hg r => ?_) h4 (by decide) r)
  obtain ⟨j, hj⟩ := List.mem_iff_getElem?.1 hg
  exact fnX_enc (h5 j g hj).1 (h5 j g hj).2 (ha g hg) r
theorem datQ_modQ {m : ModR} (h : (chkM m).1 = 0) : datQ (modQ m) = datM m := by
  obtain ⟨h1, h2, h3, h4, h5⟩ := chkM_ok h
  unfold datQ modQ datM
  dsimp only
  refine Prod.ext rfl ?_
  dsimp only
  rw [List.map_map]
  refine List.map_congr_left fun g hg => ?_
  obtain ⟨j, hj⟩ := List.mem_iff_getElem?.1 hg
  exact qD_fnQ (h5 j g hj).1
theorem encM_magic (m : ModR) : (encM m).take 4 = magicB := by
  unfold encM
  rw [List.append_assoc, List.append_assoc, List.append_assoc]
  show (magicB ++ _).take magicB.length = _
  rw [List.take_left]
theorem decM_enc {m : ModR} (h : (chkM m).1 = 0) (ha : ∀ g ∈ m.gs, ∀ i ∈ g.code, i.arg < 18446744073709551616) (hl : (encM m).length ≤ 65536) : decM (encM m) = .ok (datM m) := by
  have hd := decX_enc h ha []
  rw [List.append_nil] at hd
  unfold decM
  rw [if_neg (by omega), if_neg (fun hh => hh (encM_magic m))]
  rw [decK_ok (q := modQ m) (m := m) (by unfold decL; rw [hd]; rfl) (datQ_modQ h).symm, if_pos h]
theorem encTy_bytes (t : TyR) : bytesP (encTy t) := encB_byte _ _
theorem encI_bytes {i : Ins} (h : i.err = 0) : bytesP (encI i) := fun x hx => by
  obtain ⟨hk, -⟩ := Ins.err_zero h
  unfold encI at hx
  rcases List.mem_cons.1 hx with rfl | hx
  · omega
  · split at hx
    · exact putU_byte _ x hx
    · cases hx
theorem flat_bytes {α : Type} (f : α → List Nat) : ∀ (l : List α), (∀ x ∈ l, bytesP (f x)) → bytesP (l.flatMap f) := fun l h x hx => by
  obtain ⟨y, hy, hx⟩ := List.mem_flatMap.1 hx
  exact h y hy x hx
theorem app_bytes {a b : List Nat} (ha : bytesP a) (hb : bytesP b) : bytesP (a ++ b) := fun x hx => (List.mem_append.1 hx).elim (ha x) (hb x)
theorem encM_bytes {m : ModR} (h : (chkM m).1 = 0) : bytesP (encM m) := by
  obtain ⟨h1, h2, h3, h4, h5⟩ := chkM_ok h
  unfold encM
  refine app_bytes (app_bytes (app_bytes (app_bytes (show ∀ x ∈ magicB, x < 256 by decide) (putU_byte _)) (flat_bytes _ _ fun t _ => encTy_bytes t)) (putU_byte _)) (flat_bytes _ _ fun g hg => ?_)
  obtain ⟨j, hj⟩ := List.mem_iff_getElem?.1 hg
  exact app_bytes (flat_bytes _ _ fun n _ => putU_byte n) (flat_bytes _ _ fun i hi => encI_bytes ((h5 j g hj).2 i hi))
/-- No proper prefix of an encoding is one. -/
theorem decM_pre {m : ModR} (h : (chkM m).1 = 0) (ha : ∀ g ∈ m.gs, ∀ i ∈ g.code, i.arg < 18446744073709551616) {k : Nat} (hk : k < (encM m).length) (d : List (Int × List Fd) × List (Int × Int × Int × List Ins)) : ¬ decM ((encM m).take k) = .ok d := fun hd => by
  unfold decM at hd
  split at hd
  · cases hd
  split at hd
  · cases hd
  · rename_i h4
    cases hL : decL (((encM m).take k).drop 4) with
    | error e => rw [hL] at hd; cases hd
    | ok q =>
      unfold decL at hL
      cases hX : decX (((encM m).take k).drop 4) with
      | error e => rw [hX] at hL; cases hL
      | ok p =>
        obtain ⟨q', r⟩ := p
        rw [hX] at hL
        dsimp only at hL
        by_cases hr : r = []
        · subst hr
          have hk4 : 4 ≤ k := by
            have h5 := congrArg List.length (Classical.not_not.1 h4)
            rw [List.length_take, List.length_take] at h5
            simp only [magicB, List.length_cons, List.length_nil] at h5
            omega
          have hb : bytesP (((encM m).take k).drop 4) := fun x hx => encM_bytes h x (List.mem_of_mem_take (List.mem_of_mem_drop hx))
          have h6 := (decX_ext _ _ _ hb hX).2 ((encM m).drop k)
          have h7 : ((encM m).take k).drop 4 ++ (encM m).drop k = (encM m).drop 4 := by
            rw [← List.drop_append_of_le_length (by rw [List.length_take]; omega), List.take_append_drop]
          have h8 := decX_enc h ha []
          rw [List.append_nil] at h8
          rw [h7, h8] at h6
          injection h6 with h6
          injection h6 with h6 h9
          have := congrArg List.length h9
          rw [List.nil_append, List.length_drop, List.length_nil] at this
          omega
        · rw [if_neg hr] at hL
          cases hL
end Go.Proofs.Ytehfnjaompkikaa
