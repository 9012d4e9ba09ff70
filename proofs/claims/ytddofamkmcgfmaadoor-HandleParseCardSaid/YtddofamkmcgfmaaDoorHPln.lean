/- Decimal numbers and pieces of a text: plain. -/
import Derived.Lib.SplitLaws
import Derived.Lib.ItoaMem
import Derived.Lib.AtoiAll
namespace Go.Proofs.YtddofamkmcgfmaaDoor
set_option linter.unusedVariables false
set_option linter.unusedSimpArgs false
def dec (n : Nat) : List Nat := if h : n < 10 then [48 + n] else dec (n / 10) ++ [48 + n % 10]
termination_by n
decreasing_by omega
theorem dec_one {n : Nat} (h : n < 10) : dec n = [48 + n] := by rw [dec, dif_pos h]
theorem dec_more {n : Nat} (h : ¬ n < 10) : dec n = dec (n / 10) ++ [48 + n % 10] := by rw [dec, dif_neg h]
theorem dec_lib (n : Nat) : (dec n).map UInt8.ofNat = Go.Lib.decDigits n := by
  induction n using Nat.strongRecOn with
  | ind n ih =>
    by_cases h : n < 10
    · rw [dec_one h, Go.Lib.decDigits_one h]
      rfl
    · rw [dec_more h, Go.Lib.decDigits, dif_neg h, List.map_append, ih _ (by omega)]
      rfl
theorem dec_dig (n : Nat) : ∀ x ∈ dec n, 48 ≤ x ∧ x ≤ 57 := by
  induction n using Nat.strongRecOn with
  | ind n ih =>
    intro x hx
    by_cases h : n < 10
    · rw [dec_one h] at hx
      simp at hx
      omega
    · rw [dec_more h] at hx
      rcases List.mem_append.1 hx with hx | hx
      · exact ih _ (by omega) x hx
      · simp at hx
        omega
theorem dec_ne (n : Nat) : dec n ≠ [] := by
  by_cases h : n < 10
  · rw [dec_one h]; simp
  · rw [dec_more h]; simp
theorem dec_head (n : Nat) (h : 0 < n) : (dec n)[0]? ≠ some 48 := by
  induction n using Nat.strongRecOn with
  | ind n ih =>
    by_cases h1 : n < 10
    · rw [dec_one h1]
      simp
      omega
    · rw [dec_more h1]
      have hl : 0 < (dec (n / 10)).length := List.length_pos_iff.2 (dec_ne _)
      rw [List.getElem?_append_left hl]
      exact ih _ (by omega) (by omega)
theorem dec_len1 {n : Nat} (h : 1 < (dec n).length) : 0 < n := by
  rcases Nat.eq_zero_or_pos n with rfl | h0
  · rw [dec_one (by omega)] at h
    simp at h
  · exact h0
def val10 (acc : Nat) : List Nat → Nat
  | [] => acc
  | x :: r => val10 (10 * acc + (x - 48)) r
theorem val10_app : ∀ (l m : List Nat) (a : Nat), val10 a (l ++ m) = val10 (val10 a l) m
  | [], m, a => rfl
  | x :: l, m, a => val10_app l m _
theorem val_dec (n : Nat) : val10 0 (dec n) = n := by
  induction n using Nat.strongRecOn with
  | ind n ih =>
    by_cases h : n < 10
    · rw [dec_one h]
      show 10 * 0 + (48 + n - 48) = n
      omega
    · rw [dec_more h, val10_app, ih _ (by omega)]
      show 10 * (n / 10) + (48 + n % 10 - 48) = n
      omega
theorem val10_mono : ∀ (l : List Nat) (a : Nat), a ≤ val10 a l
  | [], a => Nat.le_refl _
  | x :: l, a => Nat.le_trans (by omega) (val10_mono l (10 * a + (x - 48)))
structure Canon (l : List Nat) : Prop where
  ne : l ≠ []
  dig : ∀ x ∈ l, 48 ≤ x ∧ x ≤ 57
  lead : 1 < l.length → l[0]? ≠ some 48
theorem canon_dec (n : Nat) : Canon (dec n) := ⟨dec_ne n, dec_dig n, fun h => dec_head n (dec_len1 h)⟩
theorem dec_val : ∀ (k : Nat) (l : List Nat), l.length = k → Canon l → dec (val10 0 l) = l
  | 0, l, hk, h => absurd (List.length_eq_zero_iff.1 hk) h.ne
  | k + 1, l, hk, h => by
    rcases List.eq_nil_or_concat l with rfl | ⟨m, x, rfl⟩
    · exact absurd rfl h.ne
    · rw [List.concat_eq_append] at hk h ⊢
      have hx := h.dig x (by simp)
      rw [val10_app]
      show dec (10 * val10 0 m + (x - 48)) = m ++ [x]
      by_cases hm : m = []
      · subst hm
        rw [show val10 0 [] = 0 from rfl, dec_one (by omega)]
        simp
        omega
      · have hml : 0 < m.length := List.length_pos_iff.2 hm
        have h0 : m[0]? ≠ some 48 := by
          have := h.lead (by simp; omega)
          rwa [List.getElem?_append_left hml] at this
        have hc : Canon m := ⟨hm, fun y hy => h.dig y (by simp [hy]), fun _ => h0⟩
        have hpos : 0 < val10 0 m := by
          cases m with
          | nil => exact absurd rfl hm
          | cons y m =>
            have hy := h.dig y (by simp)
            have : y ≠ 48 := by simpa using h0
            have := val10_mono m (10 * 0 + (y - 48))
            show 0 < val10 (10 * 0 + (y - 48)) m
            omega
        rw [dec_more (by omega), show (10 * val10 0 m + (x - 48)) / 10 = val10 0 m by omega, dec_val k m (by simpa using hk) hc, show 48 + (10 * val10 0 m + (x - 48)) % 10 = x by omega]
/-- The number that digits are, if it is at most most. -/
def numG (most : Nat) : Nat → List Nat → Nat × Bool
  | acc, [] => (acc, true)
  | acc, x :: r => if x < 48 ∨ 57 < x then (0, false) else if most < 10 * acc + (x - 48) then (0, false) else numG most (10 * acc + (x - 48)) r
def numF (l : List Nat) (most : Nat) : Nat × Bool := if l = [] ∨ (1 < l.length ∧ l[0]? = some 48) then (0, false) else numG most 0 l
theorem numG_no {most : Nat} : ∀ (l : List Nat) (a : Nat), (numG most a l).2 = false → numG most a l = (0, false)
  | [], a, h => by cases h
  | x :: r, a, h => by
    unfold numG at h ⊢
    split
    · rfl
    · rename_i h1
      rw [if_neg h1] at h
      split
      · rfl
      · rename_i h2
        rw [if_neg h2] at h
        exact numG_no r _ h
theorem numG_yes {most : Nat} : ∀ (l : List Nat) (a : Nat), a ≤ most → (numG most a l).2 = true → numG most a l = (val10 a l, true) ∧ (∀ x ∈ l, 48 ≤ x ∧ x ≤ 57) ∧ val10 a l ≤ most
  | [], a, ha, h => ⟨rfl, by simp, ha⟩
  | x :: r, a, ha, h => by
    unfold numG at h ⊢
    split at h
    · cases h
    · rename_i h1
      rw [if_neg h1]
      split at h
      · cases h
      · rename_i h2
        rw [if_neg h2]
        obtain ⟨k1, k2, k3⟩ := numG_yes r _ (by omega) h
        refine ⟨k1, fun y hy => ?_, k3⟩
        rcases List.mem_cons.1 hy with rfl | hy
        · omega
        · exact k2 y hy
theorem numG_of {most : Nat} : ∀ (l : List Nat) (a : Nat), (∀ x ∈ l, 48 ≤ x ∧ x ≤ 57) → val10 a l ≤ most → numG most a l = (val10 a l, true)
  | [], a, _, _ => rfl
  | x :: r, a, hd, hv => by
    have hx := hd x (by simp)
    have hm := val10_mono r (10 * a + (x - 48))
    have hv' : val10 (10 * a + (x - 48)) r ≤ most := hv
    unfold numG
    rw [if_neg (by omega), if_neg (by omega)]
    exact numG_of r _ (fun y hy => hd y (by simp [hy])) hv
theorem numF_dec {v most : Nat} (h : v ≤ most) : numF (dec v) most = (v, true) := by
  have hc := canon_dec v
  unfold numF
  rw [if_neg (fun h => h.elim hc.ne fun h => hc.lead h.1 h.2), numG_of _ _ hc.dig (by rw [val_dec]; exact h), val_dec]
theorem numF_inv {l : List Nat} {most : Nat} (h : (numF l most).2 = true) : l = dec (numF l most).1 ∧ (numF l most).1 ≤ most := by
  unfold numF at h ⊢
  split at h
  · cases h
  · rename_i h1
    rw [if_neg h1]
    obtain ⟨k1, k2, k3⟩ := numG_yes l 0 (Nat.zero_le _) h
    rw [k1]
    have hc : Canon l := ⟨fun e => h1 (.inl e), k2, fun hl e => h1 (.inr ⟨hl, e⟩)⟩
    exact ⟨(dec_val _ l rfl hc).symm, k3⟩
theorem numF_no {l : List Nat} {most : Nat} (h : (numF l most).2 = false) : numF l most = (0, false) := by
  unfold numF at h ⊢
  split
  · rfl
  · rename_i h1
    rw [if_neg h1] at h
    exact numG_no _ _ h
/-! ## Pieces -/
def spl (c : Nat) : List Nat → List (List Nat)
  | [] => [[]]
  | x :: r => if x = c then [] :: spl c r else match spl c r with
    | [] => [[x]]
    | h :: t => (x :: h) :: t
theorem spl_ne (c : Nat) : ∀ l, spl c l ≠ []
  | [] => by simp [spl]
  | x :: r => by
    unfold spl
    split
    · simp
    · split <;> simp
theorem spl_none {c : Nat} : ∀ {l : List Nat}, (∀ x ∈ l, x ≠ c) → spl c l = [l]
  | [], _ => rfl
  | x :: r, h => by
    unfold spl
    rw [if_neg (h x (by simp)), spl_none fun y hy => h y (by simp [hy])]
theorem spl_app {c : Nat} : ∀ {a : List Nat} (b : List Nat), (∀ x ∈ a, x ≠ c) → spl c (a ++ c :: b) = a :: spl c b
  | [], b, _ => by
    show spl c (c :: b) = _
    conv => lhs; unfold spl
    rw [if_pos rfl]
  | x :: r, b, h => by
    show spl c (x :: (r ++ c :: b)) = _
    conv => lhs; unfold spl
    rw [if_neg (h x (by simp)), spl_app b fun y hy => h y (by simp [hy])]
theorem spl_cut {c : Nat} : ∀ (l : List Nat), (∀ x ∈ l, x ≠ c) ∨ ∃ a b, l = a ++ c :: b ∧ ∀ x ∈ a, x ≠ c
  | [] => .inl (by simp)
  | x :: r => by
    by_cases hx : x = c
    · exact .inr ⟨[], r, by rw [hx]; rfl, by simp⟩
    · rcases spl_cut (c := c) r with h | ⟨a, b, h1, h2⟩
      · exact .inl fun y hy => (List.mem_cons.1 hy).elim (fun e => e ▸ hx) (h y)
      · exact .inr ⟨x :: a, b, by rw [h1]; rfl, fun y hy => (List.mem_cons.1 hy).elim (fun e => e ▸ hx) (h2 y)⟩
theorem spl_mem {c : Nat} (k : Nat) : ∀ (l : List Nat), l.length ≤ k → ∀ p ∈ spl c l, ∀ x ∈ p, x ∈ l := by
  induction k with
  | zero =>
    intro l hl p hp x hx
    obtain rfl := List.length_eq_zero_iff.1 (Nat.le_zero.1 hl)
    simp [spl] at hp
    subst hp
    cases hx
  | succ k ih =>
    intro l hl p hp x hx
    rcases spl_cut (c := c) l with h | ⟨a, b, rfl, h2⟩
    · rw [spl_none h] at hp
      simp at hp
      exact hp ▸ hx
    · rw [spl_app b h2] at hp
      rcases List.mem_cons.1 hp with rfl | hp
      · simp [hx]
      · have := ih b (by simp at hl; omega) p hp x hx
        simp [this]
theorem ofN_inj {a b : Nat} (ha : a < 256) (hb : b < 256) (h : UInt8.ofNat a = UInt8.ofNat b) : a = b := by
  have := congrArg UInt8.toNat h
  simpa [Nat.mod_eq_of_lt ha, Nat.mod_eq_of_lt hb] using this
/-- The library's pieces are these. -/
theorem lib_split (c : Nat) (hc : c < 256) (k : Nat) : ∀ (l : List Nat), l.length ≤ k → (∀ x ∈ l, x < 256) →
    Go.Lib.splitK [UInt8.ofNat c] 0 ((l.map UInt8.ofNat).count (UInt8.ofNat c)) (l.map UInt8.ofNat) = (spl c l).map (List.map UInt8.ofNat) := by
  induction k with
  | zero =>
    intro l hl hb
    obtain rfl := List.length_eq_zero_iff.1 (Nat.le_zero.1 hl)
    rfl
  | succ k ih =>
    intro l hl hb
    rcases spl_cut (c := c) l with h | ⟨a, b, rfl, h2⟩
    · have h0 : (l.map UInt8.ofNat).count (UInt8.ofNat c) = 0 := by
        rw [List.count_eq_zero]
        intro hm
        obtain ⟨y, hy, e⟩ := List.mem_map.1 hm
        exact h y hy (ofN_inj (hb y hy) hc e)
      rw [h0, spl_none h]
      rfl
    · have hna : ¬ UInt8.ofNat c ∈ a.map UInt8.ofNat := by
        intro hm
        obtain ⟨y, hy, e⟩ := List.mem_map.1 hm
        exact h2 y hy (ofN_inj (hb y (by simp [hy])) hc e)
      have hcnt : ((a ++ c :: b).map UInt8.ofNat).count (UInt8.ofNat c) = (b.map UInt8.ofNat).count (UInt8.ofNat c) + 1 := by
        rw [List.map_append, List.map_cons, List.count_append, List.count_cons_self, List.count_eq_zero.2 hna]
        omega
      have hidx : Go.Lib.index ((a ++ c :: b).map UInt8.ofNat) [UInt8.ofNat c] = (a.length : Nat) := by
        refine Go.Lib.index_first (by simp) ?_ fun j hj => ?_
        · unfold Go.Lib.occAt
          rw [List.map_append, List.map_cons, show a.length = (a.map UInt8.ofNat).length by simp, List.drop_left]
          simp [List.isPrefixOf]
        · unfold Go.Lib.occAt
          rw [List.map_append, List.drop_append_of_le_length (by simp; omega), List.drop_eq_getElem_cons (i := j) (by simp; omega), List.cons_append]
          simp only [List.isPrefixOf, List.getElem_map, Bool.and_true]
          refine beq_eq_false_iff_ne.2 fun e => ?_
          exact h2 _ (List.getElem_mem (by simpa using hj)) (ofN_inj (hb _ (by simp)) hc e.symm)
      rw [hcnt, spl_app b h2]
      unfold Go.Lib.splitK
      rw [hidx]
      have hne : ¬ ((a.length : Int) == -1) = true := by simp
      rw [if_neg hne]
      simp only [Int.toNat_natCast, Nat.add_zero, List.length_singleton, List.map_append, List.map_cons]
      have e1 : List.take a.length (a.map UInt8.ofNat ++ UInt8.ofNat c :: b.map UInt8.ofNat) = a.map UInt8.ofNat := by
        rw [show a.length = (a.map UInt8.ofNat).length by simp, List.take_left]
      have e2 : List.drop (a.length + 1) (a.map UInt8.ofNat ++ UInt8.ofNat c :: b.map UInt8.ofNat) = b.map UInt8.ofNat := by
        rw [show a.length + 1 = (a.map UInt8.ofNat ++ [UInt8.ofNat c]).length by simp, show a.map UInt8.ofNat ++ UInt8.ofNat c :: b.map UInt8.ofNat = (a.map UInt8.ofNat ++ [UInt8.ofNat c]) ++ b.map UInt8.ofNat by simp, List.drop_left]
      rw [e1, e2, ih b (by simp at hl; omega) fun y hy => hb y (by simp [hy])]
/-! ## A word's text -/
def txt (s g t : Nat) : List Nat := dec s ++ 47 :: (dec g ++ 47 :: dec t)
theorem dec47 (n : Nat) : ∀ x ∈ dec n, x ≠ 47 := fun x hx => by have := dec_dig n x hx; omega
theorem spl_txt (s g t : Nat) : spl 47 (txt s g t) = [dec s, dec g, dec t] := by
  unfold txt
  rw [spl_app _ (dec47 s), spl_app _ (dec47 g), spl_none (dec47 t)]
/-- What a text is: the parts, if it is one. -/
def prsF (l : List Nat) : Option (Nat × Nat × Nat) :=
  match spl 47 l with
  | [a, b, d] => if (numF a 16777215).2 = true ∧ (numF b 4294967295).2 = true ∧ (numF d 255).2 = true then some ((numF a 16777215).1, (numF b 4294967295).1, (numF d 255).1) else none
  | _ => none
theorem prsF_txt {s g t : Nat} (h1 : s ≤ 16777215) (h2 : g ≤ 4294967295) (h3 : t ≤ 255) : prsF (txt s g t) = some (s, g, t) := by
  unfold prsF
  rw [spl_txt]
  dsimp only
  rw [numF_dec h1, numF_dec h2, numF_dec h3]
  simp
theorem prsF_len {l : List Nat} (h : (spl 47 l).length ≠ 3) : prsF l = none := by
  unfold prsF
  split
  · rename_i a b d e
    rw [e] at h
    exact absurd rfl h
  · rfl
end Go.Proofs.YtddofamkmcgfmaaDoor
