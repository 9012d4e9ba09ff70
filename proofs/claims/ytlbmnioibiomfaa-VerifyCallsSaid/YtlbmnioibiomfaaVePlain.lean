/- What verify computes, plainly. -/
import Derived.Test.YtlbmnioibiomfaaFlReach
import Derived.Test.YtlbmnioibiomfaaFlRun
namespace Go.Proofs.Ytlbmnioibiomfaa
open Go.RowKit Go.Shelf
set_option linter.unusedVariables false
set_option linter.unusedSimpArgs false
theorem hgtF_fin {m : ModR} {f : Int} (h : (hgtF m f).2.1 = 0) : (hgtF m f).2 = fineF := by
  unfold hgtF at h ⊢
  split
  · rename_i h0
    rw [if_pos h0] at h
    cases hx : fnAt m f with
    | none => rfl
    | some x =>
      rw [hx] at h
      dsimp only at h ⊢
      cases hr : hgtR m.gs x with
      | inl a => rfl
      | inr a =>
        rw [hr] at h
        exact absurd (show (24 : Int) = 0 from h) (by decide)
  · rename_i h0
    rw [if_neg h0] at h
    exact absurd h h0
def verG (m : ModR) : Nat → Nat → Flt
  | 0, _ => fineF
  | q + 1, f => if (hgtF m (f : Int)).2.1 = 0 then verG m q (f + 1) else (hgtF m (f : Int)).2
def verM (m : ModR) : Flt := if (chkM m).1 = 0 then verG m m.gs.length 0 else chkM m
theorem verG_yes {m : ModR} {q f : Nat} (h : (hgtF m (f : Int)).2.1 = 0) : verG m (q + 1) f = verG m q (f + 1) := by rw [verG, if_pos h]
theorem verG_no {m : ModR} {q f : Nat} (h : ¬ (hgtF m (f : Int)).2.1 = 0) : verG m (q + 1) f = (hgtF m (f : Int)).2 := by rw [verG, if_neg h]
theorem verG_ok {m : ModR} : ∀ {q f : Nat}, (verG m q f).1 = 0 → verG m q f = fineF ∧ ∀ j, f ≤ j → j < f + q → (hgtF m (j : Int)).2.1 = 0
  | 0, f, _ => ⟨rfl, fun j h1 h2 => by omega⟩
  | q + 1, f, h => by
    by_cases h0 : (hgtF m (f : Int)).2.1 = 0
    · rw [verG_yes h0] at h ⊢
      obtain ⟨h1, h2⟩ := verG_ok h
      refine ⟨h1, fun j hj hj2 => ?_⟩
      rcases Nat.eq_or_lt_of_le hj with rfl | hlt
      · exact h0
      · exact h2 j hlt (by omega)
    · rw [verG_no h0] at h
      exact absurd h h0
theorem verM_ok {m : ModR} (h : (verM m).1 = 0) : (chkM m).1 = 0 ∧ verM m = fineF ∧ ∀ j, j < m.gs.length → (hgtF m (j : Int)).2.1 = 0 := by
  unfold verM at h ⊢
  split at h
  · rename_i h0
    rw [if_pos h0]
    obtain ⟨h1, h2⟩ := verG_ok h
    exact ⟨h0, h1, fun j hj => h2 j (Nat.zero_le _) (by omega)⟩
  · rename_i h0
    exact absurd h h0
theorem hgtF_okk {m : ModR} {k : Nat} (hk : k < m.gs.length) (h : (hgtF m (k : Int)).2.1 = 0) : ∃ x hf, m.gs[k]? = some x ∧ (stF m (k : Int)).1 = 0 ∧ hgtR m.gs x = .inl hf ∧ hgtF m (k : Int) = (hf, fineF) := by
  by_cases h0 : (stF m (k : Int)).1 = 0
  · obtain ⟨x, hx⟩ : ∃ x, m.gs[k]? = some x := ⟨_, List.getElem?_eq_getElem hk⟩
    have hy := hgtF_yes h0 hx
    cases hr : hgtR m.gs x with
    | inl hf => exact ⟨x, hf, hx, h0, hr, by rw [hy, hr]; rfl⟩
    | inr a =>
      rw [hy, hr] at h
      exact absurd (show (24 : Int) = 0 from h) (by decide)
  · rw [hgtF_no h0] at h
    exact absurd h h0
/-! ## The greatest height -/
def mxL (h : List Int) : Int := h.foldl max 0
theorem mx_fold : ∀ (h : List Int) (a : Int), a ≤ h.foldl max a ∧ (∀ x ∈ h, x ≤ h.foldl max a) ∧ ∀ M, a ≤ M → (∀ x ∈ h, x ≤ M) → h.foldl max a ≤ M
  | [], a => ⟨Int.le_refl _, by simp, fun M h _ => h⟩
  | x :: h, a => by
    obtain ⟨h1, h2, h3⟩ := mx_fold h (max a x)
    rw [List.foldl_cons]
    refine ⟨by omega, fun y hy => ?_, fun M hM hx => h3 M ?_ fun y hy => hx y (.tail _ hy)⟩
    · rcases List.mem_cons.1 hy with rfl | hy
      · omega
      · exact h2 y hy
    · have := hx x (.head _)
      omega
theorem mx_take {h : List Int} {k : Nat} {x : Int} (hx : h[k]? = some x) : (h.take (k + 1)).foldl max 0 = max ((h.take k).foldl max 0) x := by
  rw [List.take_add_one, hx, List.foldl_append]
  rfl
theorem mx_le {h : List Int} {M : Int} (h0 : 0 ≤ M) (hh : ∀ x ∈ h, x ≤ M) : mxL h ≤ M := (mx_fold h 0).2.2 M h0 hh
theorem le_mx {h : List Int} {x : Int} (hx : x ∈ h) : x ≤ mxL h := (mx_fold h 0).2.1 x hx
theorem mx_nn (h : List Int) : 0 ≤ mxL h := (mx_fold h 0).1
theorem hAt_mem {h : List Int} {j : Nat} (hj : j < h.length) : hAt h j ∈ h := by
  unfold hAt
  rw [List.getElem?_eq_getElem hj]
  exact List.getElem_mem hj
theorem after_mx {gs : List FnR} {x : FnR} {h : List Int} {j : Nat} (hj : j < h.length) (hg : GoodF gs x h j) (hn : ∀ y ∈ nxP (insAt x j) j, y < h.length) : hAt h j - (fxP gs (insAt x j)).1 + (fxP gs (insAt x j)).2 ≤ mxL h := by
  obtain ⟨i, hi⟩ : ∃ i, insAt x j = i := ⟨_, rfl⟩
  have hnx := hg.next
  rw [hi] at hn hnx ⊢
  have h0 := le_mx (hAt_mem hj)
  cases hl : nxP i j with
  | nil =>
    have hop : i.op = 22 ∨ i.op = 24 ∨ i.op = 25 := by
      unfold nxP at hl
      repeat' split at hl
      all_goals first | assumption | cases hl
    have h1 : popP i.op = 0 ∧ pushP i.op = 0 := by
      rcases hop with h | h | h <;> rw [h] <;> decide
    unfold fxP
    rw [if_neg (by omega), if_neg (by omega), h1.1, h1.2]
    dsimp only
    omega
  | cons y r =>
    have hy : y ∈ nxP i j := by rw [hl]; exact .head _
    have h1 := hnx y hy
    have h2 := le_mx (hAt_mem (hn y hy))
    omega
def maxM (m : ModR) (f : Int) : Int × Int := if (verM m).1 = 0 then (if f < 0 ∨ (m.gs.length : Int) ≤ f then (0, 26) else (mxL (hgtF m f).1, 0)) else (0, (verM m).1)
/-! ## What can be called -/
/-- An arrow: the instruction at p of function f, where control comes, calls j. -/
def Arr (m : ModR) (f p j : Nat) : Prop := ∃ (x : FnR) (i : Ins), m.gs[f]? = some x ∧ x.code[p]? = some i ∧ ¬ hAt (hgtF m (f : Int)).1 p = -1 ∧ i.op = 21 ∧ i.arg = j
def Rch (m : ModR) (j : Nat) : Prop := ∀ S : Nat → Prop, S 0 → (∀ f p j, S f → Arr m f p j → S j) → S j
open Classical in
noncomputable def rchL (m : ModR) : List Bool := (List.range m.gs.length).map fun j => decide (Rch m j)
theorem rch_len (m : ModR) : (rchL m).length = m.gs.length := by simp [rchL]
theorem rch_zero (m : ModR) : Rch m 0 := fun S h0 _ => h0
theorem rch_step {m : ModR} {f p j : Nat} (h : Rch m f) (ha : Arr m f p j) : Rch m j := fun S h0 hc => hc f p j (h S h0 hc) ha
/-- The state of a search: what is seen is reached, and either waits or is done. -/
structure SI (m : ModR) (s : List Bool) : Prop where
  len : s.length = m.gs.length
  zero : bAt s 0 = true
  kn : ∀ i, bAt s i = true → Rch m i
theorem SI.start {m : ModR} (h : 0 < m.gs.length) : SI m ((List.replicate m.gs.length false).set 0 true) := by
  refine ⟨by simp, bAt_new (by simpa), fun i hi => ?_⟩
  rcases bAt_old hi with rfl | h
  · exact rch_zero m
  · unfold bAt at h
    rw [List.getD_eq_getElem?_getD, List.getElem?_replicate] at h
    split at h <;> simp at h
theorem SI.new {m : ModR} {s : List Bool} {f p j : Nat} (h : SI m s) (hf : bAt s f = true) (ha : Arr m f p j) : SI m (s.set j true) := by
  refine ⟨by rw [List.length_set]; exact h.len, bAt_set h.zero, fun i hi => ?_⟩
  rcases bAt_old hi with rfl | h1
  · exact rch_step (h.kn f hf) ha
  · exact h.kn i h1
/-- All arrows from f ahead of position q lead to what is seen. -/
def Done (m : ModR) (s : List Bool) (f q : Nat) : Prop := ∀ p j, p < q → Arr m f p j → bAt s j = true
theorem Done.set {m : ModR} {s : List Bool} {f q k : Nat} (h : Done m s f q) : Done m (s.set k true) f q := fun p j hp ha => bAt_set (h p j hp ha)
theorem Done.succ {m : ModR} {s : List Bool} {f q : Nat} (h : Done m s f q) (hq : ∀ j, Arr m f q j → bAt s j = true) : Done m s f (q + 1) := fun p j hp ha => by
  rcases Nat.lt_or_ge p q with h1 | h1
  · exact h p j h1 ha
  · obtain rfl : p = q := by omega
    exact hq j ha
theorem Done.arr {m : ModR} {s : List Bool} {f q : Nat} {x : FnR} (hx : m.gs[f]? = some x) (h : Done m s f q) (hq : x.code.length ≤ q) {p j : Nat} (ha : Arr m f p j) : bAt s j = true := by
  refine h p j ?_ ha
  obtain ⟨y, i, h1, h2, -⟩ := ha
  rw [hx] at h1
  cases h1
  have := (List.getElem?_eq_some_iff.1 h2).1
  omega
theorem arr_lt {m : ModR} {f p j : Nat} (ha : Arr m f p j) : f < m.gs.length := by
  obtain ⟨x, i, h1, -⟩ := ha
  exact (List.getElem?_eq_some_iff.1 h1).1
theorem SI.end_ {m : ModR} {s : List Bool} (h : SI m s) (hc : ∀ f, bAt s f = true → ∀ p j, Arr m f p j → bAt s j = true) : s = rchL m := by
  apply List.ext_getElem?
  intro j
  rcases Nat.lt_or_ge j m.gs.length with hj | hj
  · rw [bAt_get (by rw [h.len]; exact hj), List.getElem?_eq_getElem (by rw [rch_len]; exact hj)]
    congr 1
    rw [show (rchL m)[j]'(by rw [rch_len]; exact hj) = @decide (Rch m j) (Classical.propDecidable _) from by simp [rchL], Bool.eq_iff_iff, @decide_eq_true_iff _ (Classical.propDecidable _)]
    exact ⟨h.kn j, fun hr => hr (fun i => bAt s i = true) h.zero fun f p j hf ha => hc f hf p j ha⟩
  · rw [List.getElem?_eq_none (by rw [h.len]; exact hj), List.getElem?_eq_none (by rw [rch_len]; exact hj)]
end Go.Proofs.Ytlbmnioibiomfaa
