/- Numbers on the wire: plain. -/
import Derived.Test.YtfaanphjaghbpaaSl
import Derived.Laws.BitsLemmas
import Derived.Laws.Bits64b
namespace Go.Proofs.Ytfaanphjaghbpaa
open Go.RowKit Go.Shelf
set_option linter.unusedVariables false
set_option linter.unusedSimpArgs false

/-- The encoding of a number. -/
def putU (n : Nat) : List Nat := if h : n < 128 then [n] else (n % 128 + 128) :: putU (n / 128)
termination_by n
decreasing_by omega
theorem putU_small {n : Nat} (h : n < 128) : putU n = [n] := by rw [putU, dif_pos h]
theorem putU_big {n : Nat} (h : ¬ n < 128) : putU n = (n % 128 + 128) :: putU (n / 128) := by rw [putU, dif_neg h]
theorem putU_len : ∀ (k n : Nat), n < 128 ^ (k + 1) → (putU n).length ≤ k + 1
  | 0, n, h => by rw [putU_small (by omega)]; simp
  | k + 1, n, h => by
    by_cases hn : n < 128
    · rw [putU_small hn]; simp
    · rw [putU_big hn]
      have := putU_len k (n / 128) (by rw [Nat.pow_succ] at h; omega)
      simp
      omega
theorem putU_len10 {n : Nat} (h : n < 18446744073709551616) : (putU n).length ≤ 10 := putU_len 9 n (by rw [show (128 : Nat) ^ (9 + 1) = 1180591620717411303424 by decide]; omega)
theorem putU_pos (n : Nat) : 0 < (putU n).length := by
  by_cases hn : n < 128
  · rw [putU_small hn]; simp
  · rw [putU_big hn]; simp
theorem putU_byte : ∀ (n : Nat), ∀ x ∈ putU n, x < 256 := by
  intro n
  induction n using Nat.strongRecOn with
  | _ n ih =>
    intro x hx
    by_cases hn : n < 128
    · rw [putU_small hn] at hx
      simp at hx
      omega
    · rw [putU_big hn] at hx
      rcases List.mem_cons.1 hx with rfl | hx
      · omega
      · exact ih (n / 128) (by omega) x hx

/-- The number that bytes begin with (i of its bytes were read before): value, bytes, error. -/
def uD : Nat → List Nat → Nat × Nat × Int
  | _, [] => (0, 0, 2)
  | i, c :: r => if (i = 9 ∧ 1 < c) ∨ (0 < i ∧ c = 0) then (0, 0, 3) else if c < 128 then (c, 1, 0) else
      if (uD (i + 1) r).2.2 = 0 then (c % 128 + 128 * (uD (i + 1) r).1, (uD (i + 1) r).2.1 + 1, 0) else (0, 0, (uD (i + 1) r).2.2)
theorem uD_nil (i : Nat) : uD i [] = (0, 0, 2) := rfl
theorem uD_form {i c : Nat} (r : List Nat) (h : (i = 9 ∧ 1 < c) ∨ (0 < i ∧ c = 0)) : uD i (c :: r) = (0, 0, 3) := by rw [uD, if_pos h]
theorem uD_last {i c : Nat} (r : List Nat) (h : ¬ ((i = 9 ∧ 1 < c) ∨ (0 < i ∧ c = 0))) (hc : c < 128) : uD i (c :: r) = (c, 1, 0) := by rw [uD, if_neg h, if_pos hc]
theorem uD_more {i c : Nat} (r : List Nat) (h : ¬ ((i = 9 ∧ 1 < c) ∨ (0 < i ∧ c = 0))) (hc : ¬ c < 128) :
    uD i (c :: r) = if (uD (i + 1) r).2.2 = 0 then (c % 128 + 128 * (uD (i + 1) r).1, (uD (i + 1) r).2.1 + 1, 0) else (0, 0, (uD (i + 1) r).2.2) := by rw [uD, if_neg h, if_neg hc]
/-- Refused, or a number of its own. -/
theorem uD_cases : ∀ (l : List Nat) (i : Nat), i ≤ 9 → (∀ x ∈ l, x < 256) →
    ((uD i l).1 = 0 ∧ (uD i l).2.1 = 0 ∧ ((uD i l).2.2 = 2 ∨ (uD i l).2.2 = 3)) ∨
    ((uD i l).2.2 = 0 ∧ (uD i l).1 < 2 * 128 ^ (9 - i) ∧ (0 < i → 0 < (uD i l).1) ∧ 0 < (uD i l).2.1 ∧ (uD i l).2.1 ≤ l.length ∧ (uD i l).2.1 ≤ 10 - i ∧ putU (uD i l).1 = l.take (uD i l).2.1)
  | [], i, hi, _ => .inl ⟨rfl, rfl, .inl rfl⟩
  | c :: r, i, hi, hb => by
    by_cases h : (i = 9 ∧ 1 < c) ∨ (0 < i ∧ c = 0)
    · rw [uD_form r h]; exact .inl ⟨rfl, rfl, .inr rfl⟩
    · by_cases hc : c < 128
      · rw [uD_last r h hc]
        have hp : 1 ≤ 128 ^ (9 - i) := Nat.pow_pos (by omega)
        refine .inr ⟨rfl, ?_, fun h0 => ?_, by simp, by simp, by simp; omega, by simp [putU_small hc]⟩
        · dsimp only
          by_cases h9 : i = 9
          · subst h9; simp; omega
          · have : 128 ^ 1 ≤ 128 ^ (9 - i) := Nat.pow_le_pow_right (by omega) (by omega)
            omega
        · dsimp only
          omega
      · have h9 : i ≤ 8 := by omega
        have hcb := hb c (by simp)
        rw [uD_more r h hc]
        rcases uD_cases r (i + 1) (by omega) (fun x hx => hb x (by simp [hx])) with ⟨h1, h2, h3⟩ | ⟨h1, h2, h3, h4, h5, h6, h7⟩
        · rw [if_neg (by omega)]
          exact .inl ⟨rfl, rfl, h3⟩
        · rw [if_pos h1]
          have hpw : 128 ^ (9 - i) = 128 * 128 ^ (9 - (i + 1)) := by
            rw [show 9 - i = (9 - (i + 1)) + 1 by omega, Nat.pow_succ, Nat.mul_comm]
          have hv := h3 (by omega)
          refine .inr ⟨rfl, ?_, fun _ => ?_, by simp, by simp; omega, by simp; omega, ?_⟩
          · dsimp only
            rw [hpw]
            generalize 128 ^ (9 - (i + 1)) = p at *
            omega
          · dsimp only
            omega
          · dsimp only
            rw [putU_big (by omega)]
            have e1 : (c % 128 + 128 * (uD (i + 1) r).1) % 128 + 128 = c := by omega
            have e2 : (c % 128 + 128 * (uD (i + 1) r).1) / 128 = (uD (i + 1) r).1 := by omega
            rw [e1, e2, h7, List.take_succ_cons]
theorem uD_lt {l : List Nat} (hb : ∀ x ∈ l, x < 256) : (uD 0 l).1 < 18446744073709551616 ∧ (uD 0 l).2.1 ≤ l.length ∧ (uD 0 l).2.1 ≤ 10 := by
  rcases uD_cases l 0 (by omega) hb with ⟨h1, h2, h3⟩ | ⟨h1, h2, h3, h4, h5, h6, h7⟩
  · omega
  · simp at h2 h6
    omega
/-- An encoding is read back, whatever follows. -/
theorem uD_put : ∀ (n i : Nat) (r : List Nat), i ≤ 9 → n < 2 * 128 ^ (9 - i) → (0 < i → 0 < n) → uD i (putU n ++ r) = (n, (putU n).length, 0) := by
  intro n
  induction n using Nat.strongRecOn with
  | _ n ih =>
    intro i r hi hn h0
    by_cases hc : n < 128
    · rw [putU_small hc, List.singleton_append, uD_last r _ hc]
      · rfl
      · rintro (⟨h9, h1⟩ | ⟨h1, h2⟩)
        · subst h9; simp at hn; omega
        · have := h0 h1; omega
    · have h9 : i ≤ 8 := by
        rcases Nat.lt_or_ge i 9 with h | h
        · omega
        · obtain rfl : i = 9 := by omega
          simp at hn
          omega
      have hpw : 128 ^ (9 - i) = 128 * 128 ^ (9 - (i + 1)) := by
        rw [show 9 - i = (9 - (i + 1)) + 1 by omega, Nat.pow_succ, Nat.mul_comm]
      rw [hpw] at hn
      have hr := ih (n / 128) (by omega) (i + 1) r (by omega) (by generalize 128 ^ (9 - (i + 1)) = p at *; omega) (fun _ => by omega)
      rw [putU_big hc, List.cons_append, uD_more _ (by omega) (by omega), hr]
      simp only [if_true]
      have e1 : (n % 128 + 128) % 128 + 128 * (n / 128) = n := by omega
      rw [e1]
      rfl
theorem uD_put0 {n : Nat} (h : n < 18446744073709551616) (r : List Nat) : uD 0 (putU n ++ r) = (n, (putU n).length, 0) :=
  uD_put n 0 r (by omega) (by simp only [Nat.sub_zero, Nat.reducePow]; omega) (by omega)
/-- A proper prefix of an encoding ends too early. -/
theorem uD_cut : ∀ (n i k : Nat), i ≤ 9 → n < 2 * 128 ^ (9 - i) → (0 < i → 0 < n) → k < (putU n).length → uD i ((putU n).take k) = (0, 0, 2) := by
  intro n
  induction n using Nat.strongRecOn with
  | _ n ih =>
    intro i k hi hn h0 hk
    by_cases hc : n < 128
    · rw [putU_small hc] at hk ⊢
      simp at hk
      subst hk
      rfl
    · have h9 : i ≤ 8 := by
        rcases Nat.lt_or_ge i 9 with h | h
        · omega
        · obtain rfl : i = 9 := by omega
          simp at hn
          omega
      have hpw : 128 ^ (9 - i) = 128 * 128 ^ (9 - (i + 1)) := by
        rw [show 9 - i = (9 - (i + 1)) + 1 by omega, Nat.pow_succ, Nat.mul_comm]
      rw [hpw] at hn
      rw [putU_big hc] at hk ⊢
      cases k with
      | zero => rfl
      | succ k =>
        simp at hk
        have hr := ih (n / 128) (by omega) (i + 1) k (by omega) (by generalize 128 ^ (9 - (i + 1)) = p at *; omega) (fun _ => by omega) hk
        rw [List.take_succ_cons, uD_more _ (by omega) (by omega), hr]
        rfl
theorem uD_cut0 {n k : Nat} (h : n < 18446744073709551616) (hk : k < (putU n).length) : uD 0 ((putU n).take k) = (0, 0, 2) :=
  uD_cut n 0 k (by omega) (by simp only [Nat.sub_zero, Nat.reducePow]; omega) (by omega) hk

/-! The walks' own forms. -/
/-- What is read after i bytes with the value n, put together. -/
def fin (i n : Nat) (r : Nat × Nat × Int) : Nat × Nat × Int := if r.2.2 = 0 then (n + 128 ^ i * r.1, i + r.2.1, 0) else (0, 0, r.2.2)
theorem fin_zero {l : List Nat} (hb : ∀ x ∈ l, x < 256) : fin 0 0 (uD 0 l) = uD 0 l := by
  unfold fin
  rcases uD_cases l 0 (by omega) hb with ⟨h1, h2, h3⟩ | ⟨h1, h2, h3, h4, h5, h6, h7⟩
  · rw [if_neg (by omega)]
    exact Prod.ext h1.symm (Prod.ext h2.symm rfl)
  · rw [if_pos h1]
    exact Prod.ext (by simp) (Prod.ext (by simp) h1.symm)
theorem fin_more {i n c : Nat} (r : List Nat) (h : ¬ ((i = 9 ∧ 1 < c) ∨ (0 < i ∧ c = 0))) (hc : ¬ c < 128) : fin i n (uD i (c :: r)) = fin (i + 1) (n + c % 128 * 128 ^ i) (uD (i + 1) r) := by
  rw [uD_more r h hc]
  unfold fin
  split
  · simp only [if_true]
    refine Prod.ext ?_ (Prod.ext ?_ rfl)
    · dsimp only
      rw [Nat.pow_succ, Nat.mul_add, Nat.mul_comm (128 ^ i) (c % 128), Nat.mul_assoc]
      omega
    · dsimp only
      omega
  · rfl
/-- The value of groups, the lowest first. -/
def val : List Nat → Nat
  | [] => 0
  | c :: r => c % 128 + 128 * val r
theorem val_drop_le : ∀ (l : List Nat) (i : Nat), val (l.drop i) ≤ val l
  | l, 0 => by simp
  | [], i + 1 => by simp
  | c :: r, i + 1 => by
    have := val_drop_le r i
    simp only [List.drop_succ_cons, val]
    omega
theorem uD_lead : ∀ (k i : Nat) (l : List Nat), k ≤ l.length → (∀ j, j < k → 128 ≤ l.getD j 0) → i + k ≤ 9 → fin i 0 (uD i l) = fin (i + k) (128 ^ i * val (l.take k)) (uD (i + k) (l.drop k))
  | 0, i, l, _, _, _ => by simp [val]
  | k + 1, i, [], h, _, _ => by simp at h
  | k + 1, i, c :: r, h, hl, hi => by
    have hc : 128 ≤ c := by simpa using hl 0 (by omega)
    have key : ∀ (n : Nat) (k i : Nat) (l : List Nat), k ≤ l.length → (∀ j, j < k → 128 ≤ l.getD j 0) → i + k ≤ 9 → fin i n (uD i l) = fin (i + k) (n + 128 ^ i * val (l.take k)) (uD (i + k) (l.drop k)) := by
      intro n k
      induction k generalizing n with
      | zero => intro i l _ _ _; simp [val]
      | succ k ih =>
        intro i l h hl hi
        cases l with
        | nil => simp at h
        | cons c r =>
          have hc : 128 ≤ c := by simpa using hl 0 (by omega)
          rw [fin_more r (by omega) (by omega), ih _ (i + 1) r (by simpa using h) (fun j hj => by simpa using hl (j + 1) (by omega)) (by omega)]
          rw [List.take_succ_cons, List.drop_succ_cons, val]
          rw [show i + 1 + k = i + (k + 1) by omega]
          congr 1
          rw [Nat.pow_succ, Nat.mul_add, Nat.mul_comm (128 ^ i) (c % 128), Nat.mul_assoc]
          omega
    have := key 0 (k + 1) i (c :: r) h hl hi
    rw [Nat.zero_add] at this
    exact this
theorem getD_cons_drop {l : List Nat} {k : Nat} (h : k < l.length) : l.drop k = l.getD k 0 :: l.drop (k + 1) := by
  rw [List.drop_eq_getElem_cons h, List.getD_eq_getElem?_getD, List.getElem?_eq_getElem h]
  rfl
theorem val_snoc : ∀ (l : List Nat) (c : Nat), val (l ++ [c]) = val l + 128 ^ l.length * (c % 128)
  | [], c => by simp [val]
  | x :: l, c => by
    rw [List.cons_append, val, val, val_snoc l c, List.length_cons, Nat.pow_succ, Nat.mul_add, ← Nat.mul_assoc, Nat.mul_comm 128 (128 ^ l.length)]
    omega
section
variable {l : List Nat} {k : Nat}
/-- The reference's cases, by the number of leading bytes with the mark. -/
theorem uD_trunc (hb : ∀ x ∈ l, x < 256) (hl : ∀ j, j < k → 128 ≤ l.getD j 0) (hk : k = l.length) (h : k < 10) : uD 0 l = (0, 0, 2) := by
  rw [← fin_zero hb, uD_lead k 0 l (by omega) hl (by omega), List.drop_of_length_le (by omega), uD_nil]
  rfl
theorem uD_bad10 (hb : ∀ x ∈ l, x < 256) (hl : ∀ j, j < k → 128 ≤ l.getD j 0) (hk : k ≤ l.length) (h : k = 10) : uD 0 l = (0, 0, 3) := by
  rw [← fin_zero hb, uD_lead 9 0 l (by omega) (fun j hj => hl j (by omega)) (by omega), getD_cons_drop (by omega), uD_form _ (.inl ⟨rfl, by have := hl 9 (by omega); omega⟩)]
  rfl
theorem uD_bad (hb : ∀ x ∈ l, x < 256) (hl : ∀ j, j < k → 128 ≤ l.getD j 0) (hk : k < l.length) (h : k ≤ 9) (hc : (k = 9 ∧ 1 < l.getD k 0) ∨ (0 < k ∧ l.getD k 0 = 0)) : uD 0 l = (0, 0, 3) := by
  rw [← fin_zero hb, uD_lead k 0 l (by omega) hl (by omega), getD_cons_drop hk, uD_form _ (by rw [Nat.zero_add]; exact hc)]
  rfl
theorem uD_good (hb : ∀ x ∈ l, x < 256) (hl : ∀ j, j < k → 128 ≤ l.getD j 0) (hk : k < l.length) (h : k ≤ 9) (hc : ¬ ((k = 9 ∧ 1 < l.getD k 0) ∨ (0 < k ∧ l.getD k 0 = 0))) (hs : l.getD k 0 < 128) : uD 0 l = (val (l.take (k + 1)), k + 1, 0) := by
  rw [← fin_zero hb, uD_lead k 0 l (by omega) hl (by omega), getD_cons_drop hk, uD_last _ (by rw [Nat.zero_add]; exact hc) hs]
  unfold fin
  simp only [if_true]
  refine Prod.ext ?_ (Prod.ext (by dsimp only; omega) rfl)
  dsimp only
  have e : l.take (k + 1) = l.take k ++ [l.getD k 0] := by
    rw [List.take_succ_eq_append_getElem hk, List.getD_eq_getElem?_getD, List.getElem?_eq_getElem hk]
    rfl
  rw [e, val_snoc, List.length_take, Nat.min_eq_left (by omega), Nat.mod_eq_of_lt hs]
  simp
end

/-! Bits. -/
theorem or128 : ∀ a, a < 256 → a ||| 128 = a % 128 + 128 := by decide +kernel
theorem low_or (n : Nat) : bits .or .u8 (IntKind.u8.wrap (n : Int)) 128 = ((n % 128 + 128 : Nat) : Int) := by
  have h := (bits_nat .u8 8 (by decide) wraps_u8 (n % 256) 128 (by omega) (by omega)).2
  have e : IntKind.u8.wrap (n : Int) = ((n % 256 : Nat) : Int) := by rw [IntKind.wrap_u8]; omega
  rw [e]
  rw [or128 _ (by omega)] at h
  rw [show (n % 256) % 128 = n % 128 by omega] at h
  exact h
theorem and127 {c : Nat} (h : c < 256) : bits .and .u8 (c : Int) 127 = ((c % 128 : Nat) : Int) := by
  have := bits_mask .u8 8 (by decide) wraps_u8 7 (by decide) (c : Int) (by omega) (by omega)
  rw [show ((2 : Int) ^ 7 - 1) = 127 by decide, show ((2 : Int) ^ 7) = 128 by decide] at this
  rw [this]
  omega
theorem or_high {n c i : Nat} (hn : n < 128 ^ i) (hc : c < 128) (h9 : i ≤ 9) (h1 : i = 9 → c ≤ 1) :
    IntKind.u64.wrap ((c : Int) * 2 ^ (7 * i)) = ((c * 128 ^ i : Nat) : Int) ∧ bits .or .u64 (n : Int) ((c * 128 ^ i : Nat) : Int) = ((n + c * 128 ^ i : Nat) : Int) ∧ n + c * 128 ^ i < 18446744073709551616 := by
  have e : (2 : Nat) ^ (7 * i) = 128 ^ i := by rw [Nat.pow_mul]
  have hle : c * 128 ^ i + 128 ^ i ≤ 18446744073709551616 := by
    by_cases h : i = 9
    · subst h
      have := h1 rfl
      have e9 : (128 : Nat) ^ 9 = 9223372036854775808 := by decide
      rw [e9]
      omega
    · have h8 : 128 ^ i ≤ 128 ^ 8 := Nat.pow_le_pow_right (by omega) (by omega)
      have : c * 128 ^ i ≤ 127 * 128 ^ 8 := Nat.mul_le_mul (by omega) h8
      have e8 : (128 : Nat) ^ 8 = 72057594037927936 := by decide
      rw [e8] at this h8
      omega
  have hp : 0 < 128 ^ i := Nat.pow_pos (by omega)
  refine ⟨?_, ?_, by omega⟩
  · have e2 : ((c : Int) * 2 ^ (7 * i)) = ((c * 128 ^ i : Nat) : Int) := by
      rw [← e]
      push_cast
      rfl
    rw [e2, IntKind.wrap_u64]
    omega
  · rw [bits_or_u64_nat _ _ (by omega) (by omega)]
    have h2 := Nat.two_pow_add_eq_or_of_lt (i := 7 * i) (b := n) (by rw [e]; exact hn) c
    rw [e, Nat.mul_comm] at h2
    rw [Nat.or_comm, ← h2, Nat.add_comm]
theorem byt_drop (l : List Nat) (k : Nat) : (byt l).drop (k * 1) = byt (l.drop k) := by rw [Nat.mul_one]; simp [byt]
theorem byt_take (l : List Nat) (k : Nat) : (byt l).take (k * 1) = byt (l.take k) := by rw [Nat.mul_one]; simp [byt]
theorem Sl.bdrop {w : World} {B n c : Nat} {A : Option Addr} {l : List Nat} (h : Sl w B 1 A n c (byt l)) {k : Nat} (hk : k ≤ n) : Sl w B 1 (sbase c k 1 A) (n - k) (c - k) (byt (l.drop k)) := by
  rw [← byt_drop]; exact h.drop hk
theorem Sl.btake {w : World} {B n c : Nat} {A : Option Addr} {l : List Nat} (h : Sl w B 1 A n c (byt l)) {k : Nat} (hk : k ≤ n) : Sl w B 1 A k c (byt (l.take k)) := by
  rw [← byt_take]; exact h.take hk
theorem u64_in {y : Nat} (h : y < 18446744073709551616) : IntKind.u64.wrap (y : Int) = (y : Int) := by rw [IntKind.wrap_u64]; omega
theorem getD_of {l : List Nat} {i x : Nat} (h : l[i]? = some x) : l.getD i 0 = x := by rw [List.getD_eq_getElem?_getD, h]; rfl
theorem some_at {l : List Nat} {i : Nat} (h : i < l.length) : ∃ x, l[i]? = some x := ⟨_, List.getElem?_eq_getElem h⟩
theorem drop_at {l : List Nat} {i x : Nat} (h : l[i]? = some x) : l.drop i = x :: l.drop (i + 1) := by
  obtain ⟨hi, hx⟩ := List.getElem?_eq_some_iff.1 h
  rw [List.drop_eq_getElem_cons hi, hx]

/-- The values of a number that was read. -/
def uV (r : Nat × Nat × Int) : Value := .tuple #[.int .u64 (r.1 : Int), .int .i64 (r.2.1 : Int), .int .i64 r.2.2]
theorem u64_shr {y : Nat} : (y : Int) / 2 ^ 7 = ((y / 128 : Nat) : Int) := by omega
theorem u8_of {y : Nat} (h : y < 128) : IntKind.u8.wrap (y : Int) = (y : Int) := by rw [IntKind.wrap_u8]; omega
end Go.Proofs.Ytfaanphjaghbpaa
