/- Decoding types: plain. -/
import Derived.Test.YtehfnjaompkikaaTEnc
namespace Go.Proofs.Ytehfnjaompkikaa
open Go.RowKit Go.Shelf
set_option linter.unusedVariables false
set_option linter.unusedSimpArgs false
/-- A number that is at most most. -/
def smF (l : List Nat) (at' most : Nat) : Nat × Nat × Int :=
  if (uD 0 (l.drop at')).2.2 = 0 then (if most < (uD 0 (l.drop at')).1 then (0, 0, 4) else ((uD 0 (l.drop at')).1, at' + (uD 0 (l.drop at')).2.1, 0)) else (0, 0, (uD 0 (l.drop at')).2.2)
/-- The reader's: the first error stays. -/
def numF (l : List Nat) (used : Nat) (err : Int) (most : Nat) : Nat × Nat × Int :=
  if err = 0 then (if (smF l used most).2.2 = 0 then smF l used most else (0, used, (smF l used most).2.2)) else (0, used, err)
abbrev RD := List Fd × Nat × Int
def rdC (gs : List Fd) (r : RD) : RD := if r.2.2 = 0 then (gs ++ r.1, r.2.1, 0) else ([], 0, r.2.2)
/-- j fields. -/
def rdE (l : List Nat) : Nat → Nat → RD
  | 0, p => ([], p, 0)
  | j + 1, p =>
    if (smF l p 65536).2.2 = 0 then
      (if (smF l (smF l p 65536).2.1 65536).2.2 = 0 then rdC [⟨((smF l p 65536).1 : Int), ((smF l (smF l p 65536).2.1 65536).1 : Int)⟩] (rdE l j (smF l (smF l p 65536).2.1 65536).2.1)
      else ([], 0, (smF l (smF l p 65536).2.1 65536).2.2))
    else ([], 0, (smF l p 65536).2.2)
def decF (l : List Nat) : Int × List Fd × Nat × Int :=
  if (smF l 0 65536).2.2 = 0 then
    (if (smF l (smF l 0 65536).2.1 32).2.2 = 0 then
      (if (rdE l (smF l (smF l 0 65536).2.1 32).1 (smF l (smF l 0 65536).2.1 32).2.1).2.2 = 0 then
        (if chk ((smF l 0 65536).1 : Int) (rdE l (smF l (smF l 0 65536).2.1 32).1 (smF l (smF l 0 65536).2.1 32).2.1).1 = 0 then
          (((smF l 0 65536).1 : Int), (rdE l (smF l (smF l 0 65536).2.1 32).1 (smF l (smF l 0 65536).2.1 32).2.1).1, (rdE l (smF l (smF l 0 65536).2.1 32).1 (smF l (smF l 0 65536).2.1 32).2.1).2.1, 0)
        else (0, [], 0, chk ((smF l 0 65536).1 : Int) (rdE l (smF l (smF l 0 65536).2.1 32).1 (smF l (smF l 0 65536).2.1 32).2.1).1))
      else (0, [], 0, (rdE l (smF l (smF l 0 65536).2.1 32).1 (smF l (smF l 0 65536).2.1 32).2.1).2.2))
    else (0, [], 0, (smF l (smF l 0 65536).2.1 32).2.2))
  else (0, [], 0, (smF l 0 65536).2.2)
section
variable {l : List Nat}
theorem drop_byte (hb : ∀ x ∈ l, x < 256) (k : Nat) : ∀ x ∈ l.drop k, x < 256 := fun x hx => hb x (List.mem_of_mem_drop hx)
theorem smF_cases (hb : ∀ x ∈ l, x < 256) {p most : Nat} (hp : p ≤ l.length) :
    (¬ (smF l p most).2.2 = 0 ∧ (smF l p most).1 = 0 ∧ (smF l p most).2.1 = 0) ∨
    ((smF l p most).2.2 = 0 ∧ (smF l p most).1 ≤ most ∧ p < (smF l p most).2.1 ∧ (smF l p most).2.1 ≤ l.length ∧ putU (smF l p most).1 = (l.drop p).take ((smF l p most).2.1 - p) ∧ (smF l p most).1 < 18446744073709551616) := by
  have hlt := (uD_lt (drop_byte hb p)).1
  unfold smF
  rcases uD_cases (l.drop p) 0 (by omega) (drop_byte hb p) with ⟨h1, h2, h3⟩ | ⟨h1, h2, h3, h4, h5, h6, h7⟩
  · rw [if_neg (by omega)]
    exact .inl ⟨by dsimp only; omega, rfl, rfl⟩
  · rw [if_pos h1]
    rw [List.length_drop] at h5
    split
    · exact .inl ⟨by simp, rfl, rfl⟩
    · refine .inr ⟨rfl, by dsimp only; omega, by dsimp only; omega, by dsimp only; omega, ?_, hlt⟩
      dsimp only
      rw [h7, Nat.add_sub_cancel_left]
theorem smF_put {p n most : Nat} {r : List Nat} (h : l.drop p = putU n ++ r) (hn : n < 18446744073709551616) (hm : n ≤ most) : smF l p most = (n, p + (putU n).length, 0) := by
  unfold smF
  rw [h, uD_put0 hn]
  simp only [if_true]
  rw [if_neg (by omega)]
theorem smF_cut {p n k most : Nat} (h : l.drop p = (putU n).take k) (hn : n < 18446744073709551616) (hk : k < (putU n).length) : smF l p most = (0, 0, 2) := by
  unfold smF
  rw [h, uD_cut0 hn hk, if_neg (by simp)]
theorem numF_le (hb : ∀ x ∈ l, x < 256) {used most : Nat} {err : Int} (hu : used ≤ l.length) : (numF l used err most).1 ≤ most ∧ (numF l used err most).2.1 ≤ l.length := by
  unfold numF
  split
  · rcases smF_cases hb hu (most := most) with h | h
    · rw [if_neg h.1]; exact ⟨by simp, hu⟩
    · rw [if_pos h.1]; exact ⟨h.2.1, h.2.2.2.1⟩
  · exact ⟨by simp, hu⟩
theorem rdC_rdC (gs hs : List Fd) (r : RD) : rdC gs (rdC hs r) = rdC (gs ++ hs) r := by
  unfold rdC
  by_cases h : r.2.2 = 0
  · simp [h]
  · simp [h]
theorem rdE_norm : ∀ (j p : Nat), ¬ (rdE l j p).2.2 = 0 → rdE l j p = ([], 0, (rdE l j p).2.2)
  | 0, p, h => absurd rfl h
  | j + 1, p, h => by
    unfold rdE
    split
    · split
      · unfold rdC
        by_cases h2 : (rdE l j (smF l (smF l p 65536).2.1 65536).2.1).2.2 = 0
        · exfalso
          apply h
          unfold rdE rdC
          rw [if_pos ‹_›, if_pos ‹_›, if_pos h2]
        · rw [if_neg h2]
      · rfl
    · rfl
theorem rdC_nil (j p : Nat) : rdC [] (rdE l j p) = rdE l j p := by
  by_cases h : (rdE l j p).2.2 = 0
  · unfold rdC
    rw [if_pos h]
    exact Prod.ext rfl (Prod.ext rfl h.symm)
  · have := rdE_norm j p h
    unfold rdC
    rw [if_neg h]
    exact this.symm
/-- What the reader's loop keeps. -/
def rInv (l : List Nat) (m p0 j : Nat) (gs : List Fd) (used : Nat) (err : Int) : Prop :=
  j ≤ m ∧ gs.length = j ∧ used ≤ l.length ∧ ((err = 0 ∧ rdC gs (rdE l (m - j) used) = rdE l m p0) ∨ (¬ err = 0 ∧ rdE l m p0 = ([], 0, err)))
theorem rInv_start {m p0 : Nat} (h : p0 ≤ l.length) : rInv l m p0 0 [] p0 0 := ⟨by omega, rfl, h, .inl ⟨rfl, rdC_nil _ _⟩⟩
theorem rInv_step (hb : ∀ x ∈ l, x < 256) {m p0 j used : Nat} {gs : List Fd} {err : Int} (h : rInv l m p0 j gs used err) (hj : j < m) {q1 q2 : Nat × Nat × Int} (h1 : q1 = numF l used err 65536) (h2 : q2 = numF l q1.2.1 q1.2.2 65536) :
    rInv l m p0 (j + 1) (gs ++ [⟨(q1.1 : Int), (q2.1 : Int)⟩]) q2.2.1 q2.2.2 := by
  obtain ⟨ha, hg, hu, hI⟩ := h
  have k1 := numF_le hb (most := 65536) (err := err) hu
  rw [← h1] at k1
  have k2 := numF_le hb (most := 65536) (err := q1.2.2) k1.2
  rw [← h2] at k2
  refine ⟨by omega, by simp [hg], k2.2, ?_⟩
  rcases hI with ⟨he, hI⟩ | ⟨he, hI⟩
  · obtain ⟨d, rfl⟩ : ∃ d, m = j + 1 + d := ⟨m - (j + 1), by omega⟩
    rw [show j + 1 + d - j = d + 1 by omega] at hI
    rw [show j + 1 + d - (j + 1) = d by omega]
    unfold numF at h1
    rw [if_pos he] at h1
    rw [rdE] at hI
    by_cases e1 : (smF l used 65536).2.2 = 0
    · rw [if_pos e1] at hI h1
      subst h1
      unfold numF at h2
      rw [if_pos e1] at h2
      by_cases e2 : (smF l (smF l used 65536).2.1 65536).2.2 = 0
      · rw [if_pos e2] at hI h2
        subst h2
        rw [rdC_rdC] at hI
        exact .inl ⟨e2, hI⟩
      · rw [if_neg e2] at hI h2
        subst h2
        refine .inr ⟨e2, ?_⟩
        rw [← hI]
        unfold rdC
        rw [if_neg e2]
    · rw [if_neg e1] at hI h1
      subst h1
      unfold numF at h2
      rw [if_neg e1] at h2
      subst h2
      refine .inr ⟨e1, ?_⟩
      rw [← hI]
      unfold rdC
      rw [if_neg e1]
  · unfold numF at h1
    rw [if_neg he] at h1
    subst h1
    unfold numF at h2
    rw [if_neg he] at h2
    subst h2
    exact .inr ⟨he, hI⟩
/-- What the reference's loop keeps. -/
def dInv (l : List Nat) (m p0 j : Nat) (gs : List Fd) (p : Nat) : Prop := j ≤ m ∧ gs.length = j ∧ p ≤ l.length ∧ rdC gs (rdE l (m - j) p) = rdE l m p0
theorem dInv_start {m p0 : Nat} (h : p0 ≤ l.length) : dInv l m p0 0 [] p0 := ⟨by omega, rfl, h, rdC_nil _ _⟩
theorem dInv_err1 {m p0 j p : Nat} {gs : List Fd} (h : dInv l m p0 j gs p) (hj : j < m) (e1 : ¬ (smF l p 65536).2.2 = 0) : rdE l m p0 = ([], 0, (smF l p 65536).2.2) := by
  obtain ⟨ha, hg, hu, hI⟩ := h
  obtain ⟨d, rfl⟩ : ∃ d, m = j + 1 + d := ⟨m - (j + 1), by omega⟩
  rw [show j + 1 + d - j = d + 1 by omega, rdE, if_neg e1] at hI
  rw [← hI]
  unfold rdC
  rw [if_neg e1]
theorem dInv_err2 {m p0 j p : Nat} {gs : List Fd} (h : dInv l m p0 j gs p) (hj : j < m) (e1 : (smF l p 65536).2.2 = 0) (e2 : ¬ (smF l (smF l p 65536).2.1 65536).2.2 = 0) : rdE l m p0 = ([], 0, (smF l (smF l p 65536).2.1 65536).2.2) := by
  obtain ⟨ha, hg, hu, hI⟩ := h
  obtain ⟨d, rfl⟩ : ∃ d, m = j + 1 + d := ⟨m - (j + 1), by omega⟩
  rw [show j + 1 + d - j = d + 1 by omega, rdE, if_pos e1, if_neg e2] at hI
  rw [← hI]
  unfold rdC
  rw [if_neg e2]
theorem dInv_step (hb : ∀ x ∈ l, x < 256) {m p0 j p : Nat} {gs : List Fd} (h : dInv l m p0 j gs p) (hj : j < m) (e1 : (smF l p 65536).2.2 = 0) (e2 : (smF l (smF l p 65536).2.1 65536).2.2 = 0) :
    dInv l m p0 (j + 1) (gs ++ [⟨((smF l p 65536).1 : Int), ((smF l (smF l p 65536).2.1 65536).1 : Int)⟩]) (smF l (smF l p 65536).2.1 65536).2.1 := by
  obtain ⟨ha, hg, hu, hI⟩ := h
  obtain ⟨d, rfl⟩ : ∃ d, m = j + 1 + d := ⟨m - (j + 1), by omega⟩
  rw [show j + 1 + d - j = d + 1 by omega, rdE, if_pos e1, if_pos e2, rdC_rdC] at hI
  rcases smF_cases hb hu (most := 65536) with h1 | h1
  · exact absurd e1 h1.1
  rcases smF_cases hb h1.2.2.2.1 (most := 65536) with h2 | h2
  · exact absurd e2 h2.1
  refine ⟨by omega, by simp [hg], h2.2.2.2.1, ?_⟩
  rw [show j + 1 + d - (j + 1) = d by omega]
  exact hI
theorem inv_end {m p0 p : Nat} {gs : List Fd} (h : rdC gs (rdE l (m - m) p) = rdE l m p0) : rdE l m p0 = (gs, p, 0) := by
  rw [← h, Nat.sub_self]
  simp [rdE, rdC]
theorem numF_err {used most : Nat} {err : Int} (hb : ∀ x ∈ l, x < 256) (hu : used ≤ l.length) (h : ¬ (numF l used err most).2.2 = 0) : (numF l used err most).1 = 0 := by
  unfold numF at *
  split
  · rename_i h0
    rw [if_pos h0] at h
    split
    · rename_i h1
      rw [if_pos h1] at h
      exact absurd h1 h
    · rfl
  · rfl
theorem dec_end (hb : ∀ x ∈ l, x < 256) {q1 q2 : Nat × Nat × Int} {j used : Nat} {gs : List Fd} {err : Int} (h1 : numF l 0 0 65536 = q1) (h2 : numF l q1.2.1 q1.2.2 32 = q2)
    (hI : (¬ q2.2.2 = 0 ∧ j = 0 ∧ gs = [] ∧ err = q2.2.2 ∧ used = q2.2.1 ∧ q2.1 = 0) ∨ (q2.2.2 = 0 ∧ rInv l q2.1 q2.2.1 j gs used err)) (hj : ¬ j < q2.1) :
    (¬ err = 0 → decF l = (0, [], 0, err)) ∧ (err = 0 → decF l = if chk (q1.1 : Int) gs = 0 then ((q1.1 : Int), gs, used, 0) else (0, [], 0, chk (q1.1 : Int) gs)) := by
  have h1' := h1
  unfold numF at h1
  rw [if_pos rfl] at h1
  by_cases e1 : (smF l 0 65536).2.2 = 0
  · rw [if_pos e1] at h1
    subst h1
    unfold numF at h2
    rw [if_pos e1] at h2
    by_cases e2 : (smF l (smF l 0 65536).2.1 32).2.2 = 0
    · rw [if_pos e2] at h2
      subst h2
      rcases hI with ⟨h, _⟩ | ⟨_, ha, hg, hu, hI⟩
      · exact absurd e2 h
      · obtain rfl : j = (smF l (smF l 0 65536).2.1 32).1 := by omega
        rcases hI with ⟨he, hI⟩ | ⟨he, hI⟩
        · have hr := inv_end hI
          refine ⟨fun h => absurd he h, fun _ => ?_⟩
          unfold decF
          rw [if_pos e1, if_pos e2, hr, if_pos rfl]
        · refine ⟨fun _ => ?_, fun h => absurd h he⟩
          unfold decF
          rw [if_pos e1, if_pos e2, hI, if_neg he]
    · rw [if_neg e2] at h2
      subst h2
      rcases hI with ⟨_, _, _, he, _, _⟩ | ⟨h, _⟩
      · refine ⟨fun _ => ?_, fun h => absurd (he ▸ h) e2⟩
        unfold decF
        rw [if_pos e1, if_neg e2, he]
      · exact absurd h e2
  · rw [if_neg e1] at h1
    subst h1
    unfold numF at h2
    rw [if_neg e1] at h2
    subst h2
    rcases hI with ⟨_, _, _, he, _, _⟩ | ⟨h, _⟩
    · refine ⟨fun _ => ?_, fun h => absurd (he ▸ h) e1⟩
      unfold decF
      rw [if_neg e1, he]
    · exact absurd h e1
end
end Go.Proofs.Ytehfnjaompkikaa
