/- The reference's Insert takes the same way: plain. -/
import Derived.Test.YtabjbghmldiokaaFIns
namespace Go.Proofs.Ytabjbghmldiokaa
open Go.RowKit Go.Shelf
set_option linter.unusedVariables false

theorem vld_gap {xs : List Ext} (h : Ex.vld xs) {j k : Nat} (hj : j < k) (hk : k < xs.length) : (Ex.get xs j).end_ < (Ex.get xs k).off := by
  have h1 := vld_le h (show j ≤ k - 1 by omega) (by omega)
  have h2 := (h k hk).2 (by omega)
  omega
theorem vld_prop {xs : List Ext} (h : Ex.vld xs) {k : Nat} (hk : k < xs.length) : 0 ≤ (Ex.get xs k).off ∧ 0 < (Ex.get xs k).len ∧ (Ex.get xs k).off + (Ex.get xs k).len ≤ 1048576 := (h k hk).1

def Ex.iL (xs : List Ext) (f1 k : Nat) : List Ext := xs.take (min k f1)
def Ex.iR (xs : List Ext) (l2 k : Nat) : List Ext := (xs.take k).drop l2
def Ex.iE (e e1 e2 : Ext) (f1 i k : Nat) : Ext := if k ≤ f1 then e else if k ≤ i then e1 else e2

theorem insR_prop {xs : List Ext} {e1 e2 : Ext} {i l2 : Nat} (hv : Ex.vld xs) (hp : e1.prop) (h : Ex.insR xs e1 i = (l2, e2)) : e2.prop := by
  unfold Ex.insR at h
  split at h
  · rename_i hc
    have hx := vld_prop hv hc.1
    obtain ⟨rfl, rfl⟩ := Prod.mk.inj h
    have h2 := hc.2
    unfold Ext.end_ at h2
    unfold Ext.prop at *
    dsimp only
    omega
  · obtain ⟨rfl, rfl⟩ := Prod.mk.inj h
    exact hp

theorem iE_prop {e e1 e2 : Ext} {f1 i k : Nat} (h : e.prop) (h1 : e1.prop) (h2 : e2.prop) : (Ex.iE e e1 e2 f1 i k).prop := by
  unfold Ex.iE
  split
  · exact h
  · split
    · exact h1
    · exact h2

theorem take_get {xs : List Ext} {k : Nat} (hk : k < xs.length) : xs.take (k + 1) = xs.take k ++ [Ex.get xs k] := by
  rw [List.take_add_one]
  simp [Ex.get, hk]

theorem iL_stay {xs : List Ext} {f1 k : Nat} (h : f1 ≤ k) : Ex.iL xs f1 (k + 1) = Ex.iL xs f1 k := by
  unfold Ex.iL
  rw [Nat.min_eq_right h, Nat.min_eq_right (by omega)]
theorem iL_add {xs : List Ext} {f1 k : Nat} (hk : k < xs.length) (h : k < f1) : Ex.iL xs f1 (k + 1) = Ex.iL xs f1 k ++ [Ex.get xs k] := by
  unfold Ex.iL
  rw [Nat.min_eq_left (by omega), Nat.min_eq_left (by omega), take_get hk]
theorem iR_nil {xs : List Ext} {l2 k : Nat} (h : k ≤ l2) : Ex.iR xs l2 k = [] := by
  unfold Ex.iR
  rw [List.drop_eq_nil_iff, List.length_take]
  omega
theorem iR_add {xs : List Ext} {l2 k : Nat} (hk : k < xs.length) (h : l2 ≤ k) : Ex.iR xs l2 (k + 1) = Ex.iR xs l2 k ++ [Ex.get xs k] := by
  unfold Ex.iR
  rw [take_get hk, List.drop_append_of_le_length (by rw [List.length_take]; omega)]

/-- What one round of the reference's second loop does. -/
inductive InsStep (xs : List Ext) (e e1 e2 : Ext) (f1 l2 i k : Nat) : Prop
  | left (a : (Ex.get xs k).end_ = (Ex.iE e e1 e2 f1 i k).off) (b : Ex.iE e e1 e2 f1 i (k + 1) = ⟨(Ex.get xs k).off, (Ex.get xs k).len + (Ex.iE e e1 e2 f1 i k).len⟩) (c : Ex.iL xs f1 (k + 1) = Ex.iL xs f1 k) (d : Ex.iR xs l2 (k + 1) = Ex.iR xs l2 k)
  | right (a : (Ex.get xs k).end_ ≠ (Ex.iE e e1 e2 f1 i k).off) (a2 : (Ex.iE e e1 e2 f1 i k).end_ = (Ex.get xs k).off) (b : Ex.iE e e1 e2 f1 i (k + 1) = ⟨(Ex.iE e e1 e2 f1 i k).off, (Ex.iE e e1 e2 f1 i k).len + (Ex.get xs k).len⟩) (c : Ex.iL xs f1 (k + 1) = Ex.iL xs f1 k) (d : Ex.iR xs l2 (k + 1) = Ex.iR xs l2 k)
  | low (a : (Ex.get xs k).end_ ≠ (Ex.iE e e1 e2 f1 i k).off) (a2 : (Ex.iE e e1 e2 f1 i k).end_ ≠ (Ex.get xs k).off) (a3 : (Ex.get xs k).off < (Ex.iE e e1 e2 f1 i k).off) (b : Ex.iE e e1 e2 f1 i (k + 1) = Ex.iE e e1 e2 f1 i k) (c : Ex.iL xs f1 (k + 1) = Ex.iL xs f1 k ++ [Ex.get xs k]) (d : Ex.iR xs l2 (k + 1) = Ex.iR xs l2 k)
  | high (a : (Ex.get xs k).end_ ≠ (Ex.iE e e1 e2 f1 i k).off) (a2 : (Ex.iE e e1 e2 f1 i k).end_ ≠ (Ex.get xs k).off) (a3 : ¬ (Ex.get xs k).off < (Ex.iE e e1 e2 f1 i k).off) (b : Ex.iE e e1 e2 f1 i (k + 1) = Ex.iE e e1 e2 f1 i k) (c : Ex.iL xs f1 (k + 1) = Ex.iL xs f1 k) (d : Ex.iR xs l2 (k + 1) = Ex.iR xs l2 k ++ [Ex.get xs k])

theorem ins_step {xs : List Ext} {e e1 e2 : Ext} {i f1 l2 : Nat} (hv : Ex.vld xs) (hp : e.prop) (hA : Aft xs e.off i) (hno : ¬ (i < xs.length ∧ (Ex.get xs i).off < e.end_)) (hL : Ex.insL xs e i = (f1, e1)) (hR : Ex.insR xs e1 i = (l2, e2)) {k : Nat} (hk : k < xs.length) :
    InsStep xs e e1 e2 f1 l2 i k := by
  obtain ⟨hi, hlo, hhi⟩ := hA
  have hxk := vld_prop hv hk
  have hpe : 0 ≤ e.off ∧ 0 < e.len ∧ e.off + e.len ≤ 1048576 := hp
  have hLc : (f1 = i ∧ e1 = e ∧ ¬ (0 < i ∧ (Ex.get xs (i - 1)).end_ = e.off)) ∨ (f1 + 1 = i ∧ (Ex.get xs f1).end_ = e.off ∧ e1 = ⟨(Ex.get xs f1).off, (Ex.get xs f1).len + e.len⟩) := by
    unfold Ex.insL at hL
    split at hL
    · rename_i hc
      obtain ⟨rfl, rfl⟩ := Prod.mk.inj hL
      exact .inr ⟨by omega, hc.2, rfl⟩
    · rename_i hc
      obtain ⟨rfl, rfl⟩ := Prod.mk.inj hL
      exact .inl ⟨rfl, rfl, hc⟩
  have hRc : (l2 = i ∧ e2 = e1 ∧ ¬ (i < xs.length ∧ (Ex.get xs i).off = e1.end_)) ∨ (l2 = i + 1 ∧ i < xs.length ∧ (Ex.get xs i).off = e1.end_ ∧ e2 = ⟨e1.off, e1.len + (Ex.get xs i).len⟩) := by
    unfold Ex.insR at hR
    split at hR
    · rename_i hc
      obtain ⟨rfl, rfl⟩ := Prod.mk.inj hR
      exact .inr ⟨rfl, hc.1, hc.2, rfl⟩
    · rename_i hc
      obtain ⟨rfl, rfl⟩ := Prod.mk.inj hR
      exact .inl ⟨rfl, rfl, hc⟩
  have he1 : e1.off ≤ e.off ∧ e1.off + e1.len = e.off + e.len := by
    rcases hLc with ⟨_, rfl, _⟩ | ⟨h1, h2, rfl⟩
    · exact ⟨Int.le_refl _, rfl⟩
    · have := vld_prop hv (show f1 < xs.length by omega)
      unfold Ext.end_ at h2
      dsimp only
      omega
  have hend : (Ex.get xs k).end_ = (Ex.get xs k).off + (Ex.get xs k).len := rfl
  by_cases h1 : k < f1
  · have hE : Ex.iE e e1 e2 f1 i k = e := if_pos (by omega)
    have hE' : Ex.iE e e1 e2 f1 i (k + 1) = e := if_pos (by omega)
    have hki : k < i := by rcases hLc with ⟨h, _⟩ | ⟨h, _⟩ <;> omega
    have hle := hlo k hki
    have hne : (Ex.get xs k).end_ ≠ e.off := by
      rcases hLc with ⟨h, _, hc⟩ | ⟨h, hc, _⟩
      · intro hq
        by_cases hk1 : k = i - 1
        · subst hk1; exact hc ⟨by omega, hq⟩
        · have g1 := vld_gap hv (show k < i - 1 by omega) (by omega)
          have g2 := hlo (i - 1) (by omega)
          have g3 := vld_prop hv (show i - 1 < xs.length by omega)
          have : (Ex.get xs (i - 1)).end_ = (Ex.get xs (i - 1)).off + (Ex.get xs (i - 1)).len := rfl
          omega
      · intro hq
        have g1 := vld_gap hv h1 (by omega)
        have g3 := vld_prop hv (show f1 < xs.length by omega)
        have : (Ex.get xs f1).end_ = (Ex.get xs f1).off + (Ex.get xs f1).len := rfl
        omega
    have hee : e.end_ = e.off + e.len := rfl
    refine .low ?_ ?_ ?_ ?_ (iL_add hk h1) (by rw [iR_nil, iR_nil] <;> (rcases hRc with ⟨h, _⟩ | ⟨h, _⟩ <;> omega)) <;> simp only [hE, hE']
    · exact hne
    · omega
    · omega
  · by_cases h2 : k < i
    · have hf : k = f1 ∧ (Ex.get xs f1).end_ = e.off ∧ e1 = ⟨(Ex.get xs f1).off, (Ex.get xs f1).len + e.len⟩ := by
        rcases hLc with ⟨h, _⟩ | ⟨h, h3, h4⟩
        · omega
        · exact ⟨by omega, h3, h4⟩
      obtain ⟨rfl, h3, h4⟩ := hf
      have hE : Ex.iE e e1 e2 k i k = e := if_pos (by omega)
      have hE' : Ex.iE e e1 e2 k i (k + 1) = e1 := by unfold Ex.iE; rw [if_neg (by omega), if_pos (by omega)]
      refine .left ?_ ?_ (iL_stay (by omega)) (by rw [iR_nil, iR_nil] <;> (rcases hRc with ⟨h, _⟩ | ⟨h, _⟩ <;> omega)) <;> simp only [hE, hE']
      · exact h3
      · exact h4
    · -- k ≥ i
      have hf1 : f1 ≤ i := by rcases hLc with ⟨h, _⟩ | ⟨h, _⟩ <;> omega
      have hgt := hhi k (by omega) hk
      have hEe : k = i → Ex.iE e e1 e2 f1 i k = e1 := fun hki => by
        subst hki
        unfold Ex.iE
        rcases hLc with ⟨h, h', _⟩ | ⟨h, _⟩
        · rw [if_pos (by omega), h']
        · rw [if_neg (by omega), if_pos (by omega)]
      have hE2 : k ≠ i → Ex.iE e e1 e2 f1 i k = e2 := fun hki => by
        unfold Ex.iE
        rw [if_neg (by omega), if_neg (by omega)]
      have hE' : Ex.iE e e1 e2 f1 i (k + 1) = e2 := by
        unfold Ex.iE
        rw [if_neg (by omega), if_neg (by omega)]
      by_cases hki : k = i
      · have hE := hEe hki
        subst hki
        have hov : e.end_ ≤ (Ex.get xs k).off := by
          have : ¬ (Ex.get xs k).off < e.end_ := fun h => hno ⟨hk, h⟩
          omega
        have hee : e.end_ = e.off + e.len := rfl
        have hee1 : e1.end_ = e1.off + e1.len := rfl
        rcases hRc with ⟨h, h', hc⟩ | ⟨h, _, hc, h'⟩
        · refine .high ?_ ?_ ?_ ?_ (iL_stay hf1) (iR_add hk (by omega)) <;> simp only [hE, hE']
          · omega
          · intro hq; exact hc ⟨hk, hq.symm⟩
          · omega
          · exact h'
        · refine .right ?_ ?_ ?_ (iL_stay hf1) (by rw [iR_nil, iR_nil] <;> omega) <;> simp only [hE, hE']
          · omega
          · exact hc.symm
          · exact h'
      · have hE := hE2 hki
        have g1 := vld_gap hv (show i < k by omega) hk
        have g2 := vld_prop hv (show i < xs.length by omega)
        have g3 : (Ex.get xs i).end_ = (Ex.get xs i).off + (Ex.get xs i).len := rfl
        have hov : e.end_ ≤ (Ex.get xs i).off := by
          have : ¬ (Ex.get xs i).off < e.end_ := fun h => hno ⟨by omega, h⟩
          omega
        have hee : e.end_ = e.off + e.len := rfl
        have hee1 : e1.end_ = e1.off + e1.len := rfl
        have hee2 : e2.end_ = e2.off + e2.len := rfl
        have he2 : e2.off = e1.off ∧ e2.off + e2.len ≤ (Ex.get xs i).end_ := by
          rcases hRc with ⟨h, h', hc⟩ | ⟨h, _, hc, h'⟩
          · subst h'; exact ⟨rfl, by omega⟩
          · subst h'; exact ⟨rfl, by dsimp only; omega⟩
        refine .high ?_ ?_ ?_ ?_ (iL_stay (by omega)) (iR_add hk (by rcases hRc with ⟨h, _⟩ | ⟨h, _⟩ <;> omega)) <;> simp only [hE, hE']
        · omega
        · omega
        · omega

theorem aft_ex {xs : List Ext} (hv : Ex.vld xs) (o : Int) : ∃ i, Aft xs o i := by
  suffices h : ∀ d i, i + d = xs.length → (∀ k, k < i → (Ex.get xs k).end_ ≤ o) → ∃ i, Aft xs o i from h xs.length 0 (by omega) (fun k hk => by omega)
  intro d
  induction d with
  | zero => exact fun i hi h => ⟨i, by omega, h, fun k h1 h2 => by omega⟩
  | succ d ih =>
    intro i hi h
    by_cases hc : o < (Ex.get xs i).end_
    · exact ⟨i, by omega, h, fun k h1 h2 => by have := vld_le hv h1 h2; omega⟩
    · exact ih (i + 1) (by omega) (fun k hk => by
        by_cases hki : k = i
        · subst hki; omega
        · exact h k (by omega))

theorem meet_iff {xs : List Ext} {e : Ext} {i : Nat} (hv : Ex.vld xs) (hA : Aft xs e.off i) {k : Nat} (hk : k < xs.length) (h : (Ex.get xs k).off < e.end_ ∧ e.off < (Ex.get xs k).end_) : i < xs.length ∧ (Ex.get xs i).off < e.end_ := by
  obtain ⟨hi, hlo, hhi⟩ := hA
  by_cases hki : k < i
  · have := hlo k hki; omega
  · refine ⟨by omega, ?_⟩
    by_cases hq : k = i
    · subst hq; exact h.1
    · have g1 := vld_gap hv (show i < k by omega) hk
      have g2 := vld_prop hv (show i < xs.length by omega)
      have g3 : (Ex.get xs i).end_ = (Ex.get xs i).off + (Ex.get xs i).len := rfl
      omega
end Go.Proofs.Ytabjbghmldiokaa
