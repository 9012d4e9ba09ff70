/- Control flow and stack heights: plain. -/
import Derived.Test.YtlbmnioibiomfaaMod
namespace Go.Proofs.Ytlbmnioibiomfaa
set_option linter.unusedVariables false
set_option linter.unusedSimpArgs false
/-- The arguments of a host call. -/
def arP (c : Nat) : Nat := if c = 1 ∨ c = 2 ∨ c = 11 then 1 else if c = 3 ∨ c = 8 ∨ c = 9 ∨ c = 10 then 2 else if c = 4 ∨ c = 5 then 3 else if c = 6 then 4 else if c = 7 then 5 else 0
abbrev hostP (c : Nat) : Prop := 1 ≤ c ∧ c ≤ 11
theorem arP_le (c : Nat) : arP c ≤ 5 := by
  unfold arP
  repeat' split
  all_goals omega
/-- What an instruction pops and pushes, calls aside. -/
def popP (op : Int) : Nat := if op = 1 ∨ op = 2 then 0 else if op = 3 ∨ op = 4 ∨ op = 20 then 1 else if op = 5 then 1 else if op = 18 then 1 else if op = 19 ∨ op = 24 ∨ op = 25 then 0 else if 6 ≤ op ∧ op ≤ 17 then 2 else 0
def pushP (op : Int) : Nat := if op = 1 ∨ op = 2 then 1 else if op = 3 ∨ op = 4 ∨ op = 20 then 0 else if op = 5 then 2 else if op = 18 then 1 else if op = 19 ∨ op = 24 ∨ op = 25 then 0 else if 6 ≤ op ∧ op ≤ 17 then 1 else 0
abbrev fxOk (op : Int) : Prop := op = 1 ∨ op = 2 ∨ op = 3 ∨ op = 4 ∨ op = 20 ∨ op = 5 ∨ op = 18 ∨ op = 19 ∨ op = 24 ∨ op = 25 ∨ (6 ≤ op ∧ op ≤ 17)
def fxP (gs : List FnR) (i : Ins) : Int × Int :=
  if i.op = 21 then ((gs[i.arg]?.map FnR.p).getD 0, (gs[i.arg]?.map FnR.r).getD 0) else if i.op = 23 then ((arP i.arg : Int), 2) else ((popP i.op : Int), (pushP i.op : Int))
abbrev endsP (op : Int) : Prop := op = 19 ∨ op = 22 ∨ op = 24 ∨ op = 25
/-- The instructions that come next. -/
def nxP (i : Ins) (k : Nat) : List Nat :=
  if i.op = 19 then [i.arg] else if i.op = 20 then (if i.arg < k + 1 then [i.arg, k + 1] else if k + 1 < i.arg then [k + 1, i.arg] else [k + 1]) else if i.op = 22 ∨ i.op = 24 ∨ i.op = 25 then [] else [k + 1]
/-- The fault of an instruction that does not depend on the stack. -/
def stE (gl : Nat) (x : FnR) (k : Nat) (i : Ins) : Int :=
  if (i.op = 19 ∨ i.op = 20) ∧ x.code.length ≤ i.arg then 23 else if (i.op = 2 ∨ i.op = 3) ∧ x.p + x.l ≤ (i.arg : Int) then 25 else if i.op = 21 ∧ gl ≤ i.arg then 26
  else if i.op = 23 ∧ ¬ hostP i.arg then 22 else if k + 1 = x.code.length ∧ ¬ endsP i.op then 27 else 0
def firstS (gl : Nat) (x : FnR) : Nat → List Ins → Int × Int
  | _, [] => (0, -1)
  | k, i :: r => if stE gl x k i = 0 then firstS gl x (k + 1) r else (stE gl x k i, (k : Int))
theorem firstS_no {gl : Nat} {x : FnR} {k : Nat} {i : Ins} (r : List Ins) (h : ¬ stE gl x k i = 0) : firstS gl x k (i :: r) = (stE gl x k i, (k : Int)) := by rw [firstS, if_neg h]
theorem firstS_yes {gl : Nat} {x : FnR} {k : Nat} {i : Ins} (r : List Ins) (h : stE gl x k i = 0) : firstS gl x k (i :: r) = firstS gl x (k + 1) r := by rw [firstS, if_pos h]
theorem firstS_ok {gl : Nat} {x : FnR} : ∀ {k : Nat} {l : List Ins}, (firstS gl x k l).1 = 0 → ∀ (j : Nat) (i : Ins), l[j]? = some i → stE gl x (k + j) i = 0
  | _, [], _, j, i, h => by simp at h
  | k, y :: r, h, j, i, hj => by
    by_cases h0 : stE gl x k y = 0
    · rw [firstS_yes r h0] at h
      cases j with
      | zero => simp at hj; subst hj; exact h0
      | succ j =>
        have := firstS_ok h j i (by simpa using hj)
        rwa [show k + (j + 1) = k + 1 + j by omega]
    · rw [firstS_no r h0] at h; exact absurd h h0
/-- The function of that number. -/
def fnAt (m : ModR) (f : Int) : Option FnR := if f < 0 then none else m.gs[f.toNat]?
theorem fnAt_some {m : ModR} {f : Int} {x : FnR} (h : fnAt m f = some x) : ∃ k : Nat, f = (k : Int) ∧ m.gs[k]? = some x := by
  unfold fnAt at h
  split at h
  · cases h
  · exact ⟨f.toNat, by omega, h⟩
theorem fnAt_nat {m : ModR} (k : Nat) : fnAt m (k : Int) = m.gs[k]? := by
  unfold fnAt
  rw [if_neg (by omega), Int.toNat_natCast]
def stX (gl : Nat) (f : Int) (x : FnR) : Flt := if (firstS gl x 0 x.code).1 = 0 then fineF else ((firstS gl x 0 x.code).1, f, (firstS gl x 0 x.code).2)
def stF (m : ModR) (f : Int) : Flt := if (chkM m).1 = 0 then (match fnAt m f with | none => (26, -1, -1) | some x => stX m.gs.length f x) else chkM m
theorem stF_ok {m : ModR} {f : Int} (h : (stF m f).1 = 0) : (chkM m).1 = 0 ∧ ∃ (k : Nat) (x : FnR), f = (k : Int) ∧ m.gs[k]? = some x ∧ ∀ (j : Nat) (i : Ins), x.code[j]? = some i → stE m.gs.length x j i = 0 := by
  unfold stF at h
  split at h
  · rename_i h0
    cases hx : fnAt m f with
    | none => rw [hx] at h; exact absurd (show (26 : Int) = 0 from h) (by decide)
    | some x =>
      rw [hx] at h
      obtain ⟨k, rfl, hk⟩ := fnAt_some hx
      refine ⟨h0, k, x, rfl, hk, fun j i hj => ?_⟩
      simp only [stX] at h
      split at h
      · rename_i h1
        have := firstS_ok h1 j i hj
        rwa [Nat.zero_add] at this
      · rename_i h1
        exact absurd h h1
  · rename_i h0
    exact absurd h h0
theorem stF_fine {m : ModR} {f : Int} (h : (stF m f).1 = 0) : stF m f = fineF := by
  have h0 := (stF_ok h).1
  unfold stF at h ⊢
  rw [if_pos h0] at h ⊢
  cases hx : fnAt m f with
  | none => rw [hx] at h; exact absurd (show (26 : Int) = 0 from h) (by decide)
  | some x =>
    rw [hx] at h
    simp only [stX] at h ⊢
    split
    · rfl
    · rename_i h1
      rw [if_neg h1] at h
      exact absurd h h1
/-! ## Heights -/
def hAt (h : List Int) (k : Nat) : Int := (h[k]?).getD (-1)
theorem hAt_of {h : List Int} {k : Nat} {y : Int} (hk : h[k]? = some y) : hAt h k = y := by unfold hAt; rw [hk]; rfl
theorem hAt_get {h : List Int} {k : Nat} (hk : k < h.length) : h[k]? = some (hAt h k) := by
  unfold hAt
  rw [List.getElem?_eq_getElem hk]
  rfl
theorem hAt_set {h : List Int} {k j : Nat} {v : Int} (hk : k < h.length) : hAt (h.set k v) j = if k = j then v else hAt h j := by
  unfold hAt
  rw [List.getElem?_set]
  split
  · rename_i e
    subst e
    first | rfl | (rw [if_pos hk]; rfl)
  · rfl
/-- Reached, and not yet done. -/
def openB (h : List Int) (d : List Bool) (k : Nat) : Bool := decide (hAt h k ≠ -1) && !((d[k]?).getD true)
def leastB (h : List Int) (d : List Bool) : Option Nat := (List.range h.length).find? (openB h d)
theorem leastB_some {h : List Int} {d : List Bool} {k : Nat} (hk : k < h.length) (ho : openB h d k = true) (hb : ∀ j, j < k → openB h d j = false) : leastB h d = some k := by
  unfold leastB
  rw [List.find?_range_eq_some]
  exact ⟨ho, by simpa using hk, fun j hj => by rw [hb j hj]; rfl⟩
theorem leastB_none {h : List Int} {d : List Bool} (hb : ∀ j, j < h.length → openB h d j = false) : leastB h d = none := by
  unfold leastB
  rw [List.find?_eq_none]
  intro j hj
  rw [hb j (List.mem_range.1 hj)]
  decide
theorem leastB_inv {h : List Int} {d : List Bool} {k : Nat} (hk : leastB h d = some k) : k < h.length ∧ openB h d k = true ∧ ∀ j, j < k → openB h d j = false := by
  unfold leastB at hk
  rw [List.find?_range_eq_some] at hk
  exact ⟨by simpa using hk.2.1, hk.1, fun j hj => by simpa using hk.2.2 j hj⟩
theorem leastB_ninv {h : List Int} {d : List Bool} (hk : leastB h d = none) : ∀ j, j < h.length → openB h d j = false := by
  unfold leastB at hk
  rw [List.find?_eq_none] at hk
  intro j hj
  have := hk j (List.mem_range.2 hj)
  simpa using this
/-- The successors get their height. -/
def updF : List Nat → Int → List Int → Option (List Int)
  | [], _, h => some h
  | k :: l, v, h => if hAt h k ≠ -1 ∧ hAt h k ≠ v then none else updF l v (h.set k v)
def stepF (gs : List FnR) (x : FnR) (h : List Int) (k : Nat) (i : Ins) : Option (List Int) :=
  if (i.op = 22 ∧ hAt h k ≠ x.r) ∨ hAt h k < (fxP gs i).1 ∨ 64 < hAt h k + (fxP gs i).2 - (fxP gs i).1 then none else updF (nxP i k) (hAt h k + (fxP gs i).2 - (fxP gs i).1) h
def insAt (x : FnR) (k : Nat) : Ins := (x.code[k]?).getD ⟨0, 0⟩
theorem insAt_of {x : FnR} {k : Nat} {i : Ins} (h : x.code[k]? = some i) : insAt x k = i := by unfold insAt; rw [h]; rfl
def runF (gs : List FnR) (x : FnR) : Nat → List Int → List Bool → List Int ⊕ Nat
  | 0, h, _ => .inl h
  | q + 1, h, d => match leastB h d with
    | none => .inl h
    | some k => match stepF gs x h k (insAt x k) with
      | none => .inr k
      | some h' => runF gs x q h' (d.set k true)
def undone (d : List Bool) : Nat := (d.filter fun b => !b).length
theorem undone_set {d : List Bool} {k : Nat} (h : d[k]? = some false) : undone d = undone (d.set k true) + 1 := by
  unfold undone
  induction d generalizing k with
  | nil => simp at h
  | cons b d ih =>
    cases k with
    | zero => simp at h; subst h; simp
    | succ k =>
      have := ih (by simpa using h)
      cases b <;> simp [this]
theorem undone_zero {d : List Bool} (h : undone d = 0) (h' : List Int) (hl : h'.length = d.length) : leastB h' d = none := by
  refine leastB_none fun j hj => ?_
  have hjd : j < d.length := by omega
  have hd : d[j]? = some true := by
    rw [List.getElem?_eq_getElem hjd]
    have h0 := List.eq_nil_of_length_eq_zero h
    rw [List.filter_eq_nil_iff] at h0
    have := h0 _ (List.getElem_mem hjd)
    simpa using this
  unfold openB
  rw [hd]
  simp
def h0F (n : Nat) : List Int := (List.replicate n (-1)).set 0 0
def hgtR (gs : List FnR) (x : FnR) : List Int ⊕ Nat := runF gs x x.code.length (h0F x.code.length) (List.replicate x.code.length false)
def hgtV (f : Int) : List Int ⊕ Nat → List Int × Flt
  | .inl h => (h, fineF)
  | .inr k => ([], (24, f, (k : Int)))
def hgtF (m : ModR) (f : Int) : List Int × Flt := if (stF m f).1 = 0 then (match fnAt m f with | none => ([], fineF) | some x => hgtV f (hgtR m.gs x)) else ([], stF m f)
theorem hgtF_no {m : ModR} {f : Int} (h : ¬ (stF m f).1 = 0) : hgtF m f = ([], stF m f) := by unfold hgtF; rw [if_neg h]
theorem hgtF_yes {m : ModR} {k : Nat} {x : FnR} (h : (stF m (k : Int)).1 = 0) (hx : m.gs[k]? = some x) : hgtF m (k : Int) = hgtV (k : Int) (hgtR m.gs x) := by
  unfold hgtF
  rw [if_pos h, fnAt_nat, hx]
/-- The successors, asked from without. -/
def nxtF (m : ModR) (f k : Int) : List Nat := if (stF m f).1 = 0 then (match fnAt m f with | none => [] | some x => if k < 0 then [] else match x.code[k.toNat]? with | none => [] | some i => nxP i k.toNat) else []
end Go.Proofs.Ytlbmnioibiomfaa
