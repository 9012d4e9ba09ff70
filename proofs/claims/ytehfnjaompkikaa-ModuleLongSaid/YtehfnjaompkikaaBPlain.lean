/- Encodings of types read back: plain. -/
import Derived.Test.YtehfnjaompkikaaDPlain
namespace Go.Proofs.Ytehfnjaompkikaa
open Go.RowKit Go.Shelf
set_option linter.unusedVariables false
set_option linter.unusedSimpArgs false
theorem byt_app2 (a b : List Nat) : byt a ++ byt b = byt (a ++ b) := by simp [byt]
theorem decF_bad (l : List Nat) (h : ¬ (decF l).2.2.2 = 0) : decF l = (0, [], 0, (decF l).2.2.2) := by
  unfold decF at *
  by_cases e1 : (smF l 0 65536).2.2 = 0
  · rw [if_pos e1] at h ⊢
    by_cases e2 : (smF l (smF l 0 65536).2.1 32).2.2 = 0
    · rw [if_pos e2] at h ⊢
      by_cases e3 : (rdE l (smF l (smF l 0 65536).2.1 32).1 (smF l (smF l 0 65536).2.1 32).2.1).2.2 = 0
      · rw [if_pos e3] at h ⊢
        by_cases e4 : chk ((smF l 0 65536).1 : Int) (rdE l (smF l (smF l 0 65536).2.1 32).1 (smF l (smF l 0 65536).2.1 32).2.1).1 = 0
        · rw [if_pos e4] at h
          exact absurd rfl h
        · rw [if_neg e4]
      · rw [if_neg e3]
    · rw [if_neg e2]
  · rw [if_neg e1]
section
variable {l : List Nat}
theorem rdE_inv (hb : ∀ x ∈ l, x < 256) : ∀ (j p : Nat), p ≤ l.length → (rdE l j p).2.2 = 0 → p ≤ (rdE l j p).2.1 ∧ (rdE l j p).2.1 ≤ l.length ∧ (rdE l j p).1.length = j ∧ (l.drop p).take ((rdE l j p).2.1 - p) = (rdE l j p).1.flatMap encFd
  | 0, p, hp, h => by simp [rdE, hp]
  | j + 1, p, hp, h => by
    rw [rdE] at h ⊢
    by_cases e1 : (smF l p 65536).2.2 = 0
    · rw [if_pos e1] at h ⊢
      by_cases e2 : (smF l (smF l p 65536).2.1 65536).2.2 = 0
      · rw [if_pos e2] at h ⊢
        rcases smF_cases hb hp (most := 65536) with h1 | h1
        · exact absurd e1 h1.1
        rcases smF_cases hb h1.2.2.2.1 (most := 65536) with h2 | h2
        · exact absurd e2 h2.1
        have h3 : (rdE l j (smF l (smF l p 65536).2.1 65536).2.1).2.2 = 0 := by
          unfold rdC at h
          by_cases e3 : (rdE l j (smF l (smF l p 65536).2.1 65536).2.1).2.2 = 0
          · exact e3
          · rw [if_neg e3] at h; exact absurd h e3
        obtain ⟨i1, i2, i3, i4⟩ := rdE_inv hb j _ h2.2.2.2.1 h3
        unfold rdC
        rw [if_pos h3]
        dsimp only
        refine ⟨by omega, i2, by simp [i3], ?_⟩
        rw [List.singleton_append, List.flatMap_cons, ← i4]
        unfold encFd
        dsimp only
        rw [Int.toNat_natCast, Int.toNat_natCast, h1.2.2.2.2.1, h2.2.2.2.2.1]
        generalize (smF l p 65536).2.1 = a at *
        generalize (smF l a 65536).2.1 = b at *
        generalize (rdE l j b).2.1 = c at *
        have e5 : (l.drop p).take (c - p) = (l.drop p).take (a - p) ++ ((l.drop p).drop (a - p)).take (c - a) := by
          rw [show c - p = (a - p) + (c - a) by omega, List.take_add]
        have e6 : (l.drop p).drop (a - p) = l.drop a := by rw [List.drop_drop]; congr 1; omega
        have e7 : (l.drop a).take (c - a) = (l.drop a).take (b - a) ++ ((l.drop a).drop (b - a)).take (c - b) := by
          rw [show c - a = (b - a) + (c - b) by omega, List.take_add]
        have e8 : (l.drop a).drop (b - a) = l.drop b := by rw [List.drop_drop]; congr 1; omega
        rw [e5, e6, e7, e8, List.append_assoc]
      · rw [if_neg e2] at h; exact absurd h e2
    · rw [if_neg e1] at h; exact absurd h e1
/-- What was read has its bytes as its encoding. -/
theorem decF_only (hb : ∀ x ∈ l, x < 256) (h : (decF l).2.2.2 = 0) : chk (decF l).1 (decF l).2.1 = 0 ∧ encB (decF l).1 (decF l).2.1 = l.take (decF l).2.2.1 ∧ (decF l).2.2.1 ≤ l.length := by
  unfold decF at *
  by_cases e1 : (smF l 0 65536).2.2 = 0
  · rw [if_pos e1] at h ⊢
    by_cases e2 : (smF l (smF l 0 65536).2.1 32).2.2 = 0
    · rw [if_pos e2] at h ⊢
      by_cases e3 : (rdE l (smF l (smF l 0 65536).2.1 32).1 (smF l (smF l 0 65536).2.1 32).2.1).2.2 = 0
      · rw [if_pos e3] at h ⊢
        by_cases e4 : chk ((smF l 0 65536).1 : Int) (rdE l (smF l (smF l 0 65536).2.1 32).1 (smF l (smF l 0 65536).2.1 32).2.1).1 = 0
        · rw [if_pos e4]
          dsimp only
          rcases smF_cases hb (Nat.zero_le _) (most := 65536) with h1 | h1
          · exact absurd e1 h1.1
          rcases smF_cases hb h1.2.2.2.1 (most := 32) with h2 | h2
          · exact absurd e2 h2.1
          obtain ⟨i1, i2, i3, i4⟩ := rdE_inv hb _ _ h2.2.2.2.1 e3
          refine ⟨e4, ?_, i2⟩
          unfold encB
          rw [Int.toNat_natCast, i3, h1.2.2.2.2.1, h2.2.2.2.2.1, ← i4]
          generalize (smF l 0 65536).2.1 = a at *
          generalize (smF l a 32).2.1 = b at *
          generalize (smF l a 32).1 = j at *
          generalize (rdE l j b).2.1 = c at *
          rw [List.drop_zero, Nat.sub_zero]
          have e5 : l.take c = l.take a ++ (l.drop a).take (c - a) := by
            conv => lhs; rw [show c = a + (c - a) by omega, List.take_add]
          have e7 : (l.drop a).take (c - a) = (l.drop a).take (b - a) ++ ((l.drop a).drop (b - a)).take (c - b) := by
            rw [show c - a = (b - a) + (c - b) by omega, List.take_add]
          have e8 : (l.drop a).drop (b - a) = l.drop b := by rw [List.drop_drop]; congr 1; omega
          rw [e5, e7, e8, List.append_assoc]
        · rw [if_neg e4] at h; exact absurd h e4
      · rw [if_neg e3] at h; exact absurd h e3
    · rw [if_neg e2] at h; exact absurd h e2
  · rw [if_neg e1] at h; exact absurd h e1
end
theorem drop_app {l m r : List Nat} {p : Nat} (h : l.drop p = m ++ r) : l.drop (p + m.length) = r := by
  rw [← List.drop_drop, h, List.drop_left]
theorem rdE_enc {l : List Nat} : ∀ (fs : List Fd) (p : Nat) (r : List Nat), okFs fs → l.drop p = fs.flatMap encFd ++ r → rdE l fs.length p = (fs, p + (fs.flatMap encFd).length, 0)
  | [], p, r, _, _ => by simp [rdE]
  | f :: fs, p, r, hok, h => by
    have hz := Fd.err_zero (hok f (by simp))
    rw [List.flatMap_cons, encFd, List.append_assoc, List.append_assoc] at h
    have s1 := smF_put (most := 65536) h (by omega) (by omega)
    have h2 := drop_app h
    have s2 := smF_put (most := 65536) h2 (by omega) (by omega)
    have h3 := drop_app h2
    have ih := rdE_enc fs _ r (fun x hx => hok x (by simp [hx])) h3
    rw [List.length_cons, rdE, s1]
    simp only [if_true]
    rw [s2]
    simp only [if_true]
    rw [ih]
    unfold rdC
    simp only [if_true]
    have e : (⟨(f.kind.toNat : Int), (f.count.toNat : Int)⟩ : Fd) = f := by
      obtain ⟨k, c⟩ := f
      dsimp only at hz ⊢
      rw [Int.toNat_of_nonneg (by omega), Int.toNat_of_nonneg (by omega)]
    rw [e, List.flatMap_cons, encFd, List.length_append, List.length_append]
    simp only [List.singleton_append, Nat.add_assoc]
/-- An encoding is read back, whatever follows. -/
theorem decF_enc {len : Int} {fs : List Fd} (h : chk len fs = 0) (r : List Nat) : decF (encB len fs ++ r) = (len, fs, (encB len fs).length, 0) := by
  obtain ⟨q1, q2, q3, q4, q5, q6, q7⟩ := chk_zero h
  obtain ⟨l, hl⟩ : ∃ l, l = encB len fs ++ r := ⟨_, rfl⟩
  have h0 : l.drop 0 = putU len.toNat ++ (putU fs.length ++ (fs.flatMap encFd ++ r)) := by rw [hl, List.drop_zero, encB]; simp
  have s1 := smF_put (most := 65536) h0 (by omega) (by omega)
  have h2 := drop_app h0
  have s2 := smF_put (most := 32) h2 (by omega) (by omega)
  have h3 := drop_app h2
  have s3 := rdE_enc fs _ r q6 h3
  rw [← hl]
  unfold decF
  rw [s1]
  simp only [if_true]
  rw [s2]
  simp only [if_true]
  rw [s3]
  simp only [if_true]
  rw [Int.toNat_of_nonneg q1, if_pos h]
  unfold encB
  rw [List.length_append, List.length_append]
  simp only [Nat.zero_add]
theorem take_cases (a b : List Nat) (k : Nat) : (k < a.length ∧ (a ++ b).take k = a.take k) ∨ (a.length ≤ k ∧ (a ++ b).take k = a ++ b.take (k - a.length)) := by
  rcases Nat.lt_or_ge k a.length with h | h
  · exact .inl ⟨h, List.take_append_of_le_length (by omega)⟩
  · exact .inr ⟨h, by rw [List.take_append, List.take_of_length_le h]⟩
theorem rdE_cut {l : List Nat} : ∀ (fs : List Fd) (p k : Nat), okFs fs → k < (fs.flatMap encFd).length → l.drop p = (fs.flatMap encFd).take k → rdE l fs.length p = ([], 0, 2)
  | [], p, k, _, hk, _ => by simp at hk
  | f :: fs, p, k, hok, hk, h => by
    have hz := Fd.err_zero (hok f (by simp))
    rw [List.flatMap_cons, encFd, List.append_assoc] at h hk
    rw [List.length_append, List.length_append] at hk
    rw [List.length_cons, rdE]
    rcases take_cases (putU f.kind.toNat) (putU f.count.toNat ++ fs.flatMap encFd) k with ⟨h1, h2⟩ | ⟨h1, h2⟩
    · rw [h2] at h
      rw [smF_cut h (by omega) h1]
      rfl
    · rw [h2] at h
      have s1 := smF_put (most := 65536) h (by omega) (by omega)
      have hd := drop_app h
      rw [s1]
      simp only [if_true]
      rcases take_cases (putU f.count.toNat) (fs.flatMap encFd) (k - (putU f.kind.toNat).length) with ⟨h3, h4⟩ | ⟨h3, h4⟩
      · rw [h4] at hd
        rw [smF_cut hd (by omega) h3]
        rfl
      · rw [h4] at hd
        have s2 := smF_put (most := 65536) hd (by omega) (by omega)
        have hd2 := drop_app hd
        rw [s2]
        simp only [if_true]
        rw [rdE_cut fs _ _ (fun x hx => hok x (by simp [hx])) (by omega) hd2]
        rfl
/-- No proper prefix of an encoding is one. -/
theorem decF_cut {len : Int} {fs : List Fd} (h : chk len fs = 0) {k : Nat} (hk : k < (encB len fs).length) : decF ((encB len fs).take k) = (0, [], 0, 2) := by
  obtain ⟨q1, q2, q3, q4, q5, q6, q7⟩ := chk_zero h
  obtain ⟨l, hl⟩ : ∃ l, l = (encB len fs).take k := ⟨_, rfl⟩
  rw [← hl]
  unfold encB at hl hk
  rw [List.append_assoc] at hl hk
  rw [List.length_append, List.length_append] at hk
  have h0 : l.drop 0 = l := List.drop_zero
  unfold decF
  rcases take_cases (putU len.toNat) (putU fs.length ++ fs.flatMap encFd) k with ⟨h1, h2⟩ | ⟨h1, h2⟩
  · rw [h2] at hl
    rw [smF_cut (h0.trans hl) (by omega) h1]
    rfl
  · rw [h2] at hl
    have s1 := smF_put (most := 65536) (h0.trans hl) (by omega) (by omega)
    have hd := drop_app (h0.trans hl)
    rw [s1]
    simp only [if_true]
    rcases take_cases (putU fs.length) (fs.flatMap encFd) (k - (putU len.toNat).length) with ⟨h3, h4⟩ | ⟨h3, h4⟩
    · rw [h4] at hd
      rw [smF_cut hd (by omega) h3]
      rfl
    · rw [h4] at hd
      have s2 := smF_put (most := 32) hd (by omega) (by omega)
      have hd2 := drop_app hd
      rw [s2]
      simp only [if_true]
      rw [rdE_cut fs _ _ q6 (by omega) hd2]
      rfl
end Go.Proofs.Ytehfnjaompkikaa
