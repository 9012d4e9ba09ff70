/- Numbers on the wire: plain. -/
import Derived.Test.YtaifnipgefkemaaZ1
import Derived.Laws.BitsLemmas
import Derived.Laws.Bits64b
import Derived.Test.YtaifnipgefkemaaEng7
import Derived.Carry
import Derived.ProofKit
import Derived.OpenShut
import Derived.Deep.Slices
import Derived.Deep.Fields
import Derived.ChangeSame
import Derived.Lib.SmallJoins
namespace Go.Proofs.Ytaifnipgefkemaa
open Go.RowKit Go.Shelf
set_option linter.unusedVariables false
set_option linter.unusedSimpArgs false

/-- The encoding of a number. -/
def putU (n : Nat) : List Nat := if h : n < 128 then [n] else (n % 128 + 128) :: putU (n / 128)
termination_by n
decreasing_by omega
theorem putU_small {n : Nat} (h : n < 128) : putU n = [n] := by rw [putU, dif_pos h]
theorem putU_big {n : Nat} (h : ¬ n < 128) : putU n = (n % 128 + 128) :: putU (n / 128) := by rw [putU, dif_neg h]
theorem putU_len : ∀ (k n : Nat), n < 128 ^ (k + 1) → (putU n).length ≤ k + 1
  | 0, n, h => by rw [putU_small (by omega)]; simp
  | k + 1, n, h => by
    by_cases hn : n < 128
    · rw [putU_small hn]; simp
    · rw [putU_big hn]
      have := putU_len k (n / 128) (by rw [Nat.pow_succ] at h; omega)
      simp
      omega
theorem putU_len10 {n : Nat} (h : n < 18446744073709551616) : (putU n).length ≤ 10 := putU_len 9 n (by rw [show (128 : Nat) ^ (9 + 1) = 1180591620717411303424 by decide]; omega)
theorem putU_pos (n : Nat) : 0 < (putU n).length := by
  by_cases hn : n < 128
  · rw [putU_small hn]; simp
  · rw [putU_big hn]; simp
theorem putU_byte : ∀ (n : Nat), ∀ x ∈ putU n, x < 256 := by
  intro n
  induction n using Nat.strongRecOn with
  | _ n ih =>
    intro x hx
    by_cases hn : n < 128
    · rw [putU_small hn] at hx
      simp at hx
      omega
    · rw [putU_big hn] at hx
      rcases List.mem_cons.1 hx with rfl | hx
      · omega
      · exact ih (n / 128) (by omega) x hx

/-- The number that bytes begin with (i of its bytes were read before): value, bytes, error. -/
def uD : Nat → List Nat → Nat × Nat × Int
  | _, [] => (0, 0, 2)
  | i, c :: r => if (i = 9 ∧ 1 < c) ∨ (0 < i ∧ c = 0) then (0, 0, 3) else if c < 128 then (c, 1, 0) else
      if (uD (i + 1) r).2.2 = 0 then (c % 128 + 128 * (uD (i + 1) r).1, (uD (i + 1) r).2.1 + 1, 0) else (0, 0, (uD (i + 1) r).2.2)
theorem uD_nil (i : Nat) : uD i [] = (0, 0, 2) := rfl
theorem uD_form {i c : Nat} (r : List Nat) (h : (i = 9 ∧ 1 < c) ∨ (0 < i ∧ c = 0)) : uD i (c :: r) = (0, 0, 3) := by rw [uD, if_pos h]
theorem uD_last {i c : Nat} (r : List Nat) (h : ¬ ((i = 9 ∧ 1 < c) ∨ (0 < i ∧ c = 0))) (hc : c < 128) : uD i (c :: r) = (c, 1, 0) := by rw [uD, if_neg h, if_pos hc]
theorem uD_more {i c : Nat} (r : List Nat) (h : ¬ ((i = 9 ∧ 1 < c) ∨ (0 < i ∧ c = 0))) (hc : ¬ c < 128) :
    uD i (c :: r) = if (uD (i + 1) r).2.2 = 0 then (c % 128 + 128 * (uD (i + 1) r).1, (uD (i + 1) r).2.1 + 1, 0) else (0, 0, (uD (i + 1) r).2.2) := by rw [uD, if_neg h, if_neg hc]
/-- Refused, or a number of its own. -/
theorem uD_cases : ∀ (l : List Nat) (i : Nat), i ≤ 9 → (∀ x ∈ l, x < 256) →
    ((uD i l).1 = 0 ∧ (uD i l).2.1 = 0 ∧ ((uD i l).2.2 = 2 ∨ (uD i l).2.2 = 3)) ∨
    ((uD i l).2.2 = 0 ∧ (uD i l).1 < 2 * 128 ^ (9 - i) ∧ (0 < i → 0 < (uD i l).1) ∧ 0 < (uD i l).2.1 ∧ (uD i l).2.1 ≤ l.length ∧ (uD i l).2.1 ≤ 10 - i ∧ putU (uD i l).1 = l.take (uD i l).2.1)
  | [], i, hi, _ => .inl ⟨rfl, rfl, .inl rfl⟩
  | c :: r, i, hi, hb => by
    by_cases h : (i = 9 ∧ 1 < c) ∨ (0 < i ∧ c = 0)
    · rw [uD_form r h]; exact .inl ⟨rfl, rfl, .inr rfl⟩
    · by_cases hc : c < 128
      · rw [uD_last r h hc]
        have hp : 1 ≤ 128 ^ (9 - i) := Nat.pow_pos (by omega)
        refine .inr ⟨rfl, ?_, fun h0 => ?_, by simp, by simp, by simp; omega, by simp [putU_small hc]⟩
        · dsimp only
          by_cases h9 : i = 9
          · subst h9; simp; omega
          · have : 128 ^ 1 ≤ 128 ^ (9 - i) := Nat.pow_le_pow_right (by omega) (by omega)
            omega
        · dsimp only
          omega
      · have h9 : i ≤ 8 := by omega
        have hcb := hb c (by simp)
        rw [uD_more r h hc]
        rcases uD_cases r (i + 1) (by omega) (fun x hx => hb x (by simp [hx])) with ⟨h1, h2, h3⟩ | ⟨h1, h2, h3, h4, h5, h6, h7⟩
        · rw [if_neg (by omega)]
          exact .inl ⟨rfl, rfl, h3⟩
        · rw [if_pos h1]
          have hpw : 128 ^ (9 - i) = 128 * 128 ^ (9 - (i + 1)) := by
            rw [show 9 - i = (9 - (i + 1)) + 1 by omega, Nat.pow_succ, Nat.mul_comm]
          have hv := h3 (by omega)
          refine .inr ⟨rfl, ?_, fun _ => ?_, by simp, by simp; omega, by simp; omega, ?_⟩
          · dsimp only
            rw [hpw]
            generalize 128 ^ (9 - (i + 1)) = p at *
            omega
          · dsimp only
            omega
          · dsimp only
            rw [putU_big (by omega)]
            have e1 : (c % 128 + 128 * (uD (i + 1) r).1) % 128 + 128 = c := by omega
            have e2 : (c % 128 + 128 * (uD (i + 1) r).1) / 128 = (uD (i + 1) r).1 := by omega
            rw [e1, e2, h7, List.take_succ_cons]
theorem uD_lt {l : List Nat} (hb : ∀ x ∈ l, x < 256) : (uD 0 l).1 < 18446744073709551616 ∧ (uD 0 l).2.1 ≤ l.length ∧ (uD 0 l).2.1 ≤ 10 := by
  rcases uD_cases l 0 (by omega) hb with ⟨h1, h2, h3⟩ | ⟨h1, h2, h3, h4, h5, h6, h7⟩
  · omega
  · simp at h2 h6
    omega
/-- An encoding is read back, whatever follows. -/
theorem uD_put : ∀ (n i : Nat) (r : List Nat), i ≤ 9 → n < 2 * 128 ^ (9 - i) → (0 < i → 0 < n) → uD i (putU n ++ r) = (n, (putU n).length, 0) := by
  intro n
  induction n using Nat.strongRecOn with
  | _ n ih =>
    intro i r hi hn h0
    by_cases hc : n < 128
    · rw [putU_small hc, List.singleton_append, uD_last r _ hc]
      · rfl
      · rintro (⟨h9, h1⟩ | ⟨h1, h2⟩)
        · subst h9; simp at hn; omega
        · have := h0 h1; omega
    · have h9 : i ≤ 8 := by
        rcases Nat.lt_or_ge i 9 with h | h
        · omega
        · obtain rfl : i = 9 := by omega
          simp at hn
          omega
      have hpw : 128 ^ (9 - i) = 128 * 128 ^ (9 - (i + 1)) := by
        rw [show 9 - i = (9 - (i + 1)) + 1 by omega, Nat.pow_succ, Nat.mul_comm]
      rw [hpw] at hn
      have hr := ih (n / 128) (by omega) (i + 1) r (by omega) (by generalize 128 ^ (9 - (i + 1)) = p at *; omega) (fun _ => by omega)
      rw [putU_big hc, List.cons_append, uD_more _ (by omega) (by omega), hr]
      simp only [if_true]
      have e1 : (n % 128 + 128) % 128 + 128 * (n / 128) = n := by omega
      rw [e1]
      rfl
theorem uD_put0 {n : Nat} (h : n < 18446744073709551616) (r : List Nat) : uD 0 (putU n ++ r) = (n, (putU n).length, 0) :=
  uD_put n 0 r (by omega) (by simp only [Nat.sub_zero, Nat.reducePow]; omega) (by omega)
/-- A proper prefix of an encoding ends too early. -/
theorem uD_cut : ∀ (n i k : Nat), i ≤ 9 → n < 2 * 128 ^ (9 - i) → (0 < i → 0 < n) → k < (putU n).length → uD i ((putU n).take k) = (0, 0, 2) := by
  intro n
  induction n using Nat.strongRecOn with
  | _ n ih =>
    intro i k hi hn h0 hk
    by_cases hc : n < 128
    · rw [putU_small hc] at hk ⊢
      simp at hk
      subst hk
      rfl
    · have h9 : i ≤ 8 := by
        rcases Nat.lt_or_ge i 9 with h | h
        · omega
        · obtain rfl : i = 9 := by omega
          simp at hn
          omega
      have hpw : 128 ^ (9 - i) = 128 * 128 ^ (9 - (i + 1)) := by
        rw [show 9 - i = (9 - (i + 1)) + 1 by omega, Nat.pow_succ, Nat.mul_comm]
      rw [hpw] at hn
      rw [putU_big hc] at hk ⊢
      cases k with
      | zero => rfl
      | succ k =>
        simp at hk
        have hr := ih (n / 128) (by omega) (i + 1) k (by omega) (by generalize 128 ^ (9 - (i + 1)) = p at *; omega) (fun _ => by omega) hk
        rw [List.take_succ_cons, uD_more _ (by omega) (by omega), hr]
        rfl
theorem uD_cut0 {n k : Nat} (h : n < 18446744073709551616) (hk : k < (putU n).length) : uD 0 ((putU n).take k) = (0, 0, 2) :=
  uD_cut n 0 k (by omega) (by simp only [Nat.sub_zero, Nat.reducePow]; omega) (by omega) hk

/-! The walks' own forms. -/
/-- What is read after i bytes with the value n, put together. -/
def fin (i n : Nat) (r : Nat × Nat × Int) : Nat × Nat × Int := if r.2.2 = 0 then (n + 128 ^ i * r.1, i + r.2.1, 0) else (0, 0, r.2.2)
theorem fin_zero {l : List Nat} (hb : ∀ x ∈ l, x < 256) : fin 0 0 (uD 0 l) = uD 0 l := by
  unfold fin
  rcases uD_cases l 0 (by omega) hb with ⟨h1, h2, h3⟩ | ⟨h1, h2, h3, h4, h5, h6, h7⟩
  · rw [if_neg (by omega)]
    exact Prod.ext h1.symm (Prod.ext h2.symm rfl)
  · rw [if_pos h1]
    exact Prod.ext (by simp) (Prod.ext (by simp) h1.symm)
theorem fin_more {i n c : Nat} (r : List Nat) (h : ¬ ((i = 9 ∧ 1 < c) ∨ (0 < i ∧ c = 0))) (hc : ¬ c < 128) : fin i n (uD i (c :: r)) = fin (i + 1) (n + c % 128 * 128 ^ i) (uD (i + 1) r) := by
  rw [uD_more r h hc]
  unfold fin
  split
  · simp only [if_true]
    refine Prod.ext ?_ (Prod.ext ?_ rfl)
    · dsimp only
      rw [Nat.pow_succ, Nat.mul_add, Nat.mul_comm (128 ^ i) (c % 128), Nat.mul_assoc]
      omega
    · dsimp only
      omega
  · rfl
/-- The value of groups, the lowest first. -/
def val : List Nat → Nat
  | [] => 0
  | c :: r => c % 128 + 128 * val r
theorem val_drop_le : ∀ (l : List Nat) (i : Nat), val (l.drop i) ≤ val l
  | l, 0 => by simp
  | [], i + 1 => by simp
  | c :: r, i + 1 => by
    have := val_drop_le r i
    simp only [List.drop_succ_cons, val]
    omega
theorem uD_lead : ∀ (k i : Nat) (l : List Nat), k ≤ l.length → (∀ j, j < k → 128 ≤ l.getD j 0) → i + k ≤ 9 → fin i 0 (uD i l) = fin (i + k) (128 ^ i * val (l.take k)) (uD (i + k) (l.drop k))
  | 0, i, l, _, _, _ => by simp [val]
  | k + 1, i, [], h, _, _ => by simp at h
  | k + 1, i, c :: r, h, hl, hi => by
    have hc : 128 ≤ c := by simpa using hl 0 (by omega)
    have key : ∀ (n : Nat) (k i : Nat) (l : List Nat), k ≤ l.length → (∀ j, j < k → 128 ≤ l.getD j 0) → i + k ≤ 9 → fin i n (uD i l) = fin (i + k) (n + 128 ^ i * val (l.take k)) (uD (i + k) (l.drop k)) := by
      intro n k
      induction k generalizing n with
      | zero => intro i l _ _ _; simp [val]
      | succ k ih =>
        intro i l h hl hi
        cases l with
        | nil => simp at h
        | cons c r =>
          have hc : 128 ≤ c := by simpa using hl 0 (by omega)
          rw [fin_more r (by omega) (by omega), ih _ (i + 1) r (by simpa using h) (fun j hj => by simpa using hl (j + 1) (by omega)) (by omega)]
          rw [List.take_succ_cons, List.drop_succ_cons, val]
          rw [show i + 1 + k = i + (k + 1) by omega]
          congr 1
          rw [Nat.pow_succ, Nat.mul_add, Nat.mul_comm (128 ^ i) (c % 128), Nat.mul_assoc]
          omega
    have := key 0 (k + 1) i (c :: r) h hl hi
    rw [Nat.zero_add] at this
    exact this
theorem getD_cons_drop {l : List Nat} {k : Nat} (h : k < l.length) : l.drop k = l.getD k 0 :: l.drop (k + 1) := by
  rw [List.drop_eq_getElem_cons h, List.getD_eq_getElem?_getD, List.getElem?_eq_getElem h]
  rfl
theorem val_snoc : ∀ (l : List Nat) (c : Nat), val (l ++ [c]) = val l + 128 ^ l.length * (c % 128)
  | [], c => by simp [val]
  | x :: l, c => by
    rw [List.cons_append, val, val, val_snoc l c, List.length_cons, Nat.pow_succ, Nat.mul_add, ← Nat.mul_assoc, Nat.mul_comm 128 (128 ^ l.length)]
    omega
section
variable {l : List Nat} {k : Nat}
/-- The reference's cases, by the number of leading bytes with the mark. -/
theorem uD_trunc (hb : ∀ x ∈ l, x < 256) (hl : ∀ j, j < k → 128 ≤ l.getD j 0) (hk : k = l.length) (h : k < 10) : uD 0 l = (0, 0, 2) := by
  rw [← fin_zero hb, uD_lead k 0 l (by omega) hl (by omega), List.drop_of_length_le (by omega), uD_nil]
  rfl
theorem uD_bad10 (hb : ∀ x ∈ l, x < 256) (hl : ∀ j, j < k → 128 ≤ l.getD j 0) (hk : k ≤ l.length) (h : k = 10) : uD 0 l = (0, 0, 3) := by
  rw [← fin_zero hb, uD_lead 9 0 l (by omega) (fun j hj => hl j (by omega)) (by omega), getD_cons_drop (by omega), uD_form _ (.inl ⟨rfl, by have := hl 9 (by omega); omega⟩)]
  rfl
theorem uD_bad (hb : ∀ x ∈ l, x < 256) (hl : ∀ j, j < k → 128 ≤ l.getD j 0) (hk : k < l.length) (h : k ≤ 9) (hc : (k = 9 ∧ 1 < l.getD k 0) ∨ (0 < k ∧ l.getD k 0 = 0)) : uD 0 l = (0, 0, 3) := by
  rw [← fin_zero hb, uD_lead k 0 l (by omega) hl (by omega), getD_cons_drop hk, uD_form _ (by rw [Nat.zero_add]; exact hc)]
  rfl
theorem uD_good (hb : ∀ x ∈ l, x < 256) (hl : ∀ j, j < k → 128 ≤ l.getD j 0) (hk : k < l.length) (h : k ≤ 9) (hc : ¬ ((k = 9 ∧ 1 < l.getD k 0) ∨ (0 < k ∧ l.getD k 0 = 0))) (hs : l.getD k 0 < 128) : uD 0 l = (val (l.take (k + 1)), k + 1, 0) := by
  rw [← fin_zero hb, uD_lead k 0 l (by omega) hl (by omega), getD_cons_drop hk, uD_last _ (by rw [Nat.zero_add]; exact hc) hs]
  unfold fin
  simp only [if_true]
  refine Prod.ext ?_ (Prod.ext (by dsimp only; omega) rfl)
  dsimp only
  have e : l.take (k + 1) = l.take k ++ [l.getD k 0] := by
    rw [List.take_succ_eq_append_getElem hk, List.getD_eq_getElem?_getD, List.getElem?_eq_getElem hk]
    rfl
  rw [e, val_snoc, List.length_take, Nat.min_eq_left (by omega), Nat.mod_eq_of_lt hs]
  simp
end

/-! Bits. -/
theorem or128 : ∀ a, a < 256 → a ||| 128 = a % 128 + 128 := by decide +kernel
theorem low_or (n : Nat) : bits .or .u8 (IntKind.u8.wrap (n : Int)) 128 = ((n % 128 + 128 : Nat) : Int) := by
  have h := (bits_nat .u8 8 (by decide) wraps_u8 (n % 256) 128 (by omega) (by omega)).2
  have e : IntKind.u8.wrap (n : Int) = ((n % 256 : Nat) : Int) := by rw [IntKind.wrap_u8]; omega
  rw [e]
  rw [or128 _ (by omega)] at h
  rw [show (n % 256) % 128 = n % 128 by omega] at h
  exact h
theorem and127 {c : Nat} (h : c < 256) : bits .and .u8 (c : Int) 127 = ((c % 128 : Nat) : Int) := by
  have := bits_mask .u8 8 (by decide) wraps_u8 7 (by decide) (c : Int) (by omega) (by omega)
  rw [show ((2 : Int) ^ 7 - 1) = 127 by decide, show ((2 : Int) ^ 7) = 128 by decide] at this
  rw [this]
  omega
theorem or_high {n c i : Nat} (hn : n < 128 ^ i) (hc : c < 128) (h9 : i ≤ 9) (h1 : i = 9 → c ≤ 1) :
    IntKind.u64.wrap ((c : Int) * 2 ^ (7 * i)) = ((c * 128 ^ i : Nat) : Int) ∧ bits .or .u64 (n : Int) ((c * 128 ^ i : Nat) : Int) = ((n + c * 128 ^ i : Nat) : Int) ∧ n + c * 128 ^ i < 18446744073709551616 := by
  have e : (2 : Nat) ^ (7 * i) = 128 ^ i := by rw [Nat.pow_mul]
  have hle : c * 128 ^ i + 128 ^ i ≤ 18446744073709551616 := by
    by_cases h : i = 9
    · subst h
      have := h1 rfl
      have e9 : (128 : Nat) ^ 9 = 9223372036854775808 := by decide
      rw [e9]
      omega
    · have h8 : 128 ^ i ≤ 128 ^ 8 := Nat.pow_le_pow_right (by omega) (by omega)
      have : c * 128 ^ i ≤ 127 * 128 ^ 8 := Nat.mul_le_mul (by omega) h8
      have e8 : (128 : Nat) ^ 8 = 72057594037927936 := by decide
      rw [e8] at this h8
      omega
  have hp : 0 < 128 ^ i := Nat.pow_pos (by omega)
  refine ⟨?_, ?_, by omega⟩
  · have e2 : ((c : Int) * 2 ^ (7 * i)) = ((c * 128 ^ i : Nat) : Int) := by
      rw [← e]
      push_cast
      rfl
    rw [e2, IntKind.wrap_u64]
    omega
  · rw [bits_or_u64_nat _ _ (by omega) (by omega)]
    have h2 := Nat.two_pow_add_eq_or_of_lt (i := 7 * i) (b := n) (by rw [e]; exact hn) c
    rw [e, Nat.mul_comm] at h2
    rw [Nat.or_comm, ← h2, Nat.add_comm]
theorem byt_drop (l : List Nat) (k : Nat) : (byt l).drop (k * 1) = byt (l.drop k) := by rw [Nat.mul_one]; simp [byt]
theorem byt_take (l : List Nat) (k : Nat) : (byt l).take (k * 1) = byt (l.take k) := by rw [Nat.mul_one]; simp [byt]
theorem Sl.bdrop {w : World} {B n c : Nat} {A : Option Addr} {l : List Nat} (h : Sl w B 1 A n c (byt l)) {k : Nat} (hk : k ≤ n) : Sl w B 1 (sbase c k 1 A) (n - k) (c - k) (byt (l.drop k)) := by
  rw [← byt_drop]; exact h.drop hk
theorem Sl.btake {w : World} {B n c : Nat} {A : Option Addr} {l : List Nat} (h : Sl w B 1 A n c (byt l)) {k : Nat} (hk : k ≤ n) : Sl w B 1 A k c (byt (l.take k)) := by
  rw [← byt_take]; exact h.take hk
theorem u64_in {y : Nat} (h : y < 18446744073709551616) : IntKind.u64.wrap (y : Int) = (y : Int) := by rw [IntKind.wrap_u64]; omega
theorem getD_of {l : List Nat} {i x : Nat} (h : l[i]? = some x) : l.getD i 0 = x := by rw [List.getD_eq_getElem?_getD, h]; rfl
theorem some_at {l : List Nat} {i : Nat} (h : i < l.length) : ∃ x, l[i]? = some x := ⟨_, List.getElem?_eq_getElem h⟩
theorem drop_at {l : List Nat} {i x : Nat} (h : l[i]? = some x) : l.drop i = x :: l.drop (i + 1) := by
  obtain ⟨hi, hx⟩ := List.getElem?_eq_some_iff.1 h
  rw [List.drop_eq_getElem_cons hi, hx]

/-- The values of a number that was read. -/
def uV (r : Nat × Nat × Int) : Value := .tuple #[.int .u64 (r.1 : Int), .int .i64 (r.2.1 : Int), .int .i64 r.2.2]
theorem u64_shr {y : Nat} : (y : Int) / 2 ^ 7 = ((y / 128 : Nat) : Int) := by omega
theorem u8_of {y : Nat} (h : y < 128) : IntKind.u8.wrap (y : Int) = (y : Int) := by rw [IntKind.wrap_u8]; omega
end Go.Proofs.Ytaifnipgefkemaa
/- Layouts: plain. -/
namespace Go.Proofs.Ytaifnipgefkemaa
open Go.RowKit Go.Shelf
set_option linter.unusedVariables false
set_option linter.unusedSimpArgs false

structure Fd where
  kind : Int
  count : Int
  deriving DecidableEq
def fdc (f : Fd) : List Value := [.int .i64 f.kind, .int .i64 f.count]
def fdV (f : Fd) : Value := .agg #[.int .i64 f.kind, .int .i64 f.count]
theorem fdc_len (f : Fd) : (fdc f).length = 2 := rfl
theorem fdc_ones (f : Fd) : ones (fdc f) = true := rfl
namespace Fd
def wid (f : Fd) : Int := if f.kind = 1 then 1 else if f.kind = 2 then 2 else if f.kind = 3 then 4 else if f.kind = 6 then f.count else 8
def ali (f : Fd) : Int := if f.kind = 6 then 1 else f.wid
def err (f : Fd) : Int := if f.kind < 1 ∨ 6 < f.kind then 8 else if (f.kind = 6 ∧ f.count < 1) ∨ (¬ f.kind = 6 ∧ ¬ f.count = 0) then 3 else if 65536 < f.count then 4 else 0
theorem err_zero {f : Fd} (h : f.err = 0) : 1 ≤ f.kind ∧ f.kind ≤ 6 ∧ (f.kind = 6 → 1 ≤ f.count) ∧ (f.kind ≠ 6 → f.count = 0) ∧ f.count ≤ 65536 ∧ 0 ≤ f.count := by
  unfold err at h
  split at h
  · cases h
  · split at h
    · cases h
    · split at h
      · cases h
      · omega
theorem err_cases (f : Fd) : f.err = 0 ∨ f.err = 3 ∨ f.err = 4 ∨ f.err = 8 := by
  unfold err
  split
  · omega
  · split
    · omega
    · split <;> omega
theorem wid_rng {f : Fd} (h : f.err = 0) : 1 ≤ f.wid ∧ f.wid ≤ 65536 := by
  have := err_zero h
  unfold wid
  split
  · omega
  · split
    · omega
    · split
      · omega
      · split <;> omega
theorem ali_rng {f : Fd} (h : f.err = 0) : 1 ≤ f.ali ∧ f.ali ≤ 8 := by
  have := err_zero h
  unfold ali wid
  repeat' split
  all_goals omega
end Fd
def upI (n a : Int) : Int := (n + a - 1) / a * a
theorem upI_rng {n a : Int} (hn : 0 ≤ n) (ha : 1 ≤ a) : n ≤ upI n a ∧ upI n a ≤ n + a - 1 := by
  unfold upI
  have h1 := Int.emod_add_mul_ediv (n + a - 1) a
  have h2 := Int.emod_lt_of_pos (n + a - 1) (show 0 < a by omega)
  have h3 := Int.emod_nonneg (n + a - 1) (show a ≠ 0 by omega)
  rw [Int.mul_comm] at h1
  generalize (n + a - 1) / a * a = q at *
  generalize (n + a - 1) % a = r at *
  omega
/-- End and greatest alignment. -/
def layS (s : Int × Int) (f : Fd) : Int × Int := (upI s.1 f.ali + f.wid, max s.2 f.ali)
def lay (fs : List Fd) : Int × Int := fs.foldl layS (0, 1)
def sizeF (fs : List Fd) : Int := upI (lay fs).1 (lay fs).2
theorem lay_snoc (fs : List Fd) (f : Fd) : lay (fs ++ [f]) = layS (lay fs) f := by simp [lay]
theorem lay_take {fs : List Fd} {k : Nat} {f : Fd} (h : fs[k]? = some f) : lay (fs.take (k + 1)) = layS (lay (fs.take k)) f := by
  obtain ⟨hk, hf⟩ := List.getElem?_eq_some_iff.1 h
  rw [List.take_succ_eq_append_getElem hk, hf, lay_snoc]
def okFs (fs : List Fd) : Prop := ∀ f ∈ fs, f.err = 0
theorem okFs_take {fs : List Fd} (h : okFs fs) (k : Nat) : okFs (fs.take k) := fun f hf => h f (List.mem_of_mem_take hf)
theorem lay_rng {fs : List Fd} (h : okFs fs) : 0 ≤ (lay fs).1 ∧ (lay fs).1 ≤ 65600 * fs.length ∧ 1 ≤ (lay fs).2 ∧ (lay fs).2 ≤ 8 := by
  have key : ∀ (fs : List Fd) (s : Int × Int) (k : Nat), okFs fs → 0 ≤ s.1 → s.1 ≤ 65600 * k → 1 ≤ s.2 → s.2 ≤ 8 →
      0 ≤ (fs.foldl layS s).1 ∧ (fs.foldl layS s).1 ≤ 65600 * (k + fs.length : Nat) ∧ 1 ≤ (fs.foldl layS s).2 ∧ (fs.foldl layS s).2 ≤ 8 := by
    intro fs
    induction fs with
    | nil => intro s k _ h1 h2 h3 h4; exact ⟨h1, by simpa using h2, h3, h4⟩
    | cons f fs ih =>
      intro s k h h1 h2 h3 h4
      have hf := h f (by simp)
      have hw := Fd.wid_rng hf
      have ha := Fd.ali_rng hf
      have hu := upI_rng h1 ha.1
      have := ih (layS s f) (k + 1) (fun x hx => h x (by simp [hx])) (by unfold layS; dsimp only; omega) (by unfold layS; dsimp only; omega) (by unfold layS; dsimp only; omega) (by unfold layS; dsimp only; omega)
      rw [List.foldl_cons, List.length_cons, show k + (fs.length + 1) = k + 1 + fs.length by omega]
      exact this
  have := key fs (0, 1) 0 h (by decide) (by decide) (by decide) (by decide)
  rwa [Nat.zero_add] at this
def firstErr : List Fd → Int
  | [] => 0
  | f :: r => if f.err = 0 then firstErr r else f.err
theorem firstErr_no {f : Fd} (r : List Fd) (h : ¬ f.err = 0) : firstErr (f :: r) = f.err := by rw [firstErr, if_neg h]
theorem firstErr_yes {f : Fd} (r : List Fd) (h : f.err = 0) : firstErr (f :: r) = firstErr r := by rw [firstErr, if_pos h]
theorem firstErr_zero : ∀ {fs : List Fd}, firstErr fs = 0 → okFs fs
  | [], _ => fun f hf => by cases hf
  | f :: r, h => by
    unfold firstErr at h
    split at h
    · rename_i h0
      intro g hg
      rcases List.mem_cons.1 hg with rfl | hg
      · exact h0
      · exact firstErr_zero h g hg
    · rename_i h0
      exact absurd h h0
theorem firstErr_ok : ∀ {fs : List Fd}, okFs fs → firstErr fs = 0
  | [], _ => rfl
  | f :: r, h => by
    unfold firstErr
    rw [if_pos (h f (by simp))]
    exact firstErr_ok fun g hg => h g (by simp [hg])
theorem firstErr_cases : ∀ fs : List Fd, firstErr fs = 0 ∨ firstErr fs = 3 ∨ firstErr fs = 4 ∨ firstErr fs = 8
  | [] => .inl rfl
  | f :: r => by
    unfold firstErr
    split
    · exact firstErr_cases r
    · exact f.err_cases
def sizeT (len : Int) (fs : List Fd) : Int := if 0 < len then len * (fs.headD ⟨0, 0⟩).wid else sizeF fs
def chk (len : Int) (fs : List Fd) : Int :=
  if len < 0 then 3 else if 65536 < len then 4 else if (len = 0 ∧ fs.length = 0) ∨ (0 < len ∧ ¬ fs.length = 1) then 3 else if 32 < fs.length then 4
  else if ¬ firstErr fs = 0 then firstErr fs else if 65536 < sizeT len fs then 4 else 0
theorem chk_zero {len : Int} {fs : List Fd} (h : chk len fs = 0) : 0 ≤ len ∧ len ≤ 65536 ∧ fs.length ≤ 32 ∧ 1 ≤ fs.length ∧ (0 < len → fs.length = 1) ∧ okFs fs ∧ sizeT len fs ≤ 65536 := by
  unfold chk at h
  split at h
  · cases h
  split at h
  · cases h
  split at h
  · cases h
  split at h
  · cases h
  split at h
  · rename_i h0
    exact absurd h h0
  rename_i h0
  split at h
  · cases h
  exact ⟨by omega, by omega, by omega, by omega, by omega, firstErr_zero (by omega), by omega⟩
theorem chk_of {len : Int} {fs : List Fd} (h1 : 0 ≤ len) (h2 : len ≤ 65536) (h3 : fs.length ≤ 32) (h4 : 1 ≤ fs.length) (h5 : 0 < len → fs.length = 1) (h6 : okFs fs) (h7 : sizeT len fs ≤ 65536) : chk len fs = 0 := by
  unfold chk
  rw [if_neg (by omega), if_neg (by omega), if_neg (by omega), if_neg (by omega), if_neg (by rw [firstErr_ok h6]; simp), if_neg (by omega)]
theorem chk_cases (len : Int) (fs : List Fd) : chk len fs = 0 ∨ chk len fs = 3 ∨ chk len fs = 4 ∨ chk len fs = 8 := by
  unfold chk
  have := firstErr_cases fs
  repeat' split
  all_goals omega
theorem mul_small {a b : Int} (h1 : 0 ≤ a) (h2 : a ≤ 65536) (h3 : 0 ≤ b) (h4 : b ≤ 65536) : 0 ≤ a * b ∧ a * b ≤ 4294967296 :=
  ⟨Int.mul_nonneg h1 h3, Int.le_trans (Int.mul_le_mul h2 h4 h3 (by omega)) (by decide)⟩
end Go.Proofs.Ytaifnipgefkemaa
/- Package layout: what its functions answer. -/
namespace Go.Proofs.Ytaifnipgefkemaa
open Go.RowKit Go.Shelf
set_option linter.unusedVariables false
set_option linter.unusedSimpArgs false
set_option maxRecDepth 100000

section
variable {W w : World} {L : List Res} {M : List Nat} {n c : Nat} {A : Option Addr} {fs : List Fd}
theorem Sl.fld0 {b off k : Nat} {x : Fd} (h : Sl W W.heap.size 2 (some ⟨b, off, none⟩) n c (cl fdc fs)) (hx : fs[k]? = some x) : LD Try.prog [] W L 3 ⟨b, off + k * 2, none⟩ (.int .i64 x.kind) :=
  h.ld1 (m := 1) (i := k * 2) (by kernel_rfl) (cl_get (j := 0) fdc_len hx rfl)
theorem Sl.fld1 {b off k : Nat} {x : Fd} (h : Sl W W.heap.size 2 (some ⟨b, off, none⟩) n c (cl fdc fs)) (hx : fs[k]? = some x) : LD Try.prog [] W L 3 ⟨b, off + k * 2 + 1, none⟩ (.int .i64 x.count) := by
  rw [Nat.add_assoc]
  exact h.ld1 (m := 1) (i := k * 2 + 1) (by kernel_rfl) (cl_get (j := 1) fdc_len hx rfl)
end
def tyV (len : Int) (A : Option Addr) (n c : Nat) : Value := .agg #[.int .i64 len, .slice A n c]
theorem some_of {α : Type} {l : List α} {i : Nat} (h : i < l.length) : ∃ x, l[i]? = some x := ⟨_, List.getElem?_eq_getElem h⟩

set_option maxRecDepth 100000 in
theorem sLay1 : type_of% (And.intro @fdV.eq_1 @tyV.eq_1) := (And.intro @fdV.eq_1 @tyV.eq_1)
end Go.Proofs.Ytaifnipgefkemaa
/- Types made of numbers: plain. -/
namespace Go.Proofs.Ytaifnipgefkemaa
open Go.RowKit Go.Shelf
set_option linter.unusedVariables false
set_option linter.unusedSimpArgs false
def nextF (l : List Nat) (i m : Nat) : Nat := l.getD i 0 % m
theorem nextF_lt {l : List Nat} {i m : Nat} (h : 0 < m) : nextF l i m < m := Nat.mod_lt _ h
def fieldF (l : List Nat) (i : Nat) : Fd × Nat := if 1 + nextF l i 6 = 6 then (⟨6, ((1 + nextF l (i + 1) 9 : Nat) : Int)⟩, i + 2) else (⟨((1 + nextF l i 6 : Nat) : Int), 0⟩, i + 1)
def fieldsF (l : List Nat) : Nat → Nat → List Fd × Nat
  | 0, i => ([], i)
  | n + 1, i => ((fieldF l i).1 :: (fieldsF l n (fieldF l i).2).1, (fieldsF l n (fieldF l i).2).2)
def typeF (l : List Nat) (i : Nat) : Int × List Fd × Nat :=
  if nextF l i 4 = 0 then (((1 + nextF l (i + 1) 5 : Nat) : Int), [(fieldF l (i + 2)).1], (fieldF l (i + 2)).2)
  else (0, (fieldsF l (1 + nextF l (i + 1) 4) (i + 2)).1, (fieldsF l (1 + nextF l (i + 1) 4) (i + 2)).2)
theorem fieldF_ok (l : List Nat) (i : Nat) : (fieldF l i).1.err = 0 ∧ (fieldF l i).1.wid ≤ 9 ∧ i < (fieldF l i).2 ∧ (fieldF l i).2 ≤ i + 2 := by
  have h1 := nextF_lt (l := l) (i := i) (m := 6) (by omega)
  have h2 := nextF_lt (l := l) (i := i + 1) (m := 9) (by omega)
  unfold fieldF
  split
  · refine ⟨?_, ?_, by dsimp only; omega, by dsimp only; omega⟩
    · unfold Fd.err
      dsimp only
      repeat' split
      all_goals omega
    · unfold Fd.wid
      dsimp only
      repeat' split
      all_goals omega
  · refine ⟨?_, ?_, by dsimp only; omega, by dsimp only; omega⟩
    · unfold Fd.err
      dsimp only
      repeat' split
      all_goals omega
    · unfold Fd.wid
      dsimp only
      repeat' split
      all_goals omega
theorem fieldsF_ok (l : List Nat) : ∀ (n i : Nat), (∀ f ∈ (fieldsF l n i).1, f.err = 0 ∧ f.wid ≤ 9) ∧ (fieldsF l n i).1.length = n ∧ i ≤ (fieldsF l n i).2 ∧ (fieldsF l n i).2 ≤ i + 2 * n
  | 0, i => ⟨by simp [fieldsF], rfl, Nat.le_refl _, Nat.le_refl _⟩
  | n + 1, i => by
    have h1 := fieldF_ok l i
    have h2 := fieldsF_ok l n (fieldF l i).2
    simp only [fieldsF]
    refine ⟨fun f hf => ?_, by simp [h2.2.1], by omega, by omega⟩
    rcases List.mem_cons.1 hf with rfl | hf
    · exact ⟨h1.1, h1.2.1⟩
    · exact h2.1 f hf
theorem lay_small {fs : List Fd} (h : ∀ f ∈ fs, f.err = 0 ∧ f.wid ≤ 9) : 0 ≤ (lay fs).1 ∧ (lay fs).1 ≤ 17 * fs.length ∧ 1 ≤ (lay fs).2 ∧ (lay fs).2 ≤ 8 := by
  have key : ∀ (fs : List Fd) (s : Int × Int) (k : Nat), (∀ f ∈ fs, f.err = 0 ∧ f.wid ≤ 9) → 0 ≤ s.1 → s.1 ≤ 17 * k → 1 ≤ s.2 → s.2 ≤ 8 →
      0 ≤ (fs.foldl layS s).1 ∧ (fs.foldl layS s).1 ≤ 17 * (k + fs.length : Nat) ∧ 1 ≤ (fs.foldl layS s).2 ∧ (fs.foldl layS s).2 ≤ 8 := by
    intro fs
    induction fs with
    | nil => intro s k _ h1 h2 h3 h4; exact ⟨h1, by simpa using h2, h3, h4⟩
    | cons f fs ih =>
      intro s k h h1 h2 h3 h4
      have hf := h f (by simp)
      have hw := Fd.wid_rng hf.1
      have ha := Fd.ali_rng hf.1
      have hu := upI_rng h1 ha.1
      have := ih (layS s f) (k + 1) (fun x hx => h x (by simp [hx])) (by unfold layS; dsimp only; omega) (by unfold layS; dsimp only; omega) (by unfold layS; dsimp only; omega) (by unfold layS; dsimp only; omega)
      rw [List.foldl_cons, List.length_cons, show k + (fs.length + 1) = k + 1 + fs.length by omega]
      exact this
  have := key fs (0, 1) 0 h (by decide) (by decide) (by decide) (by decide)
  rwa [Nat.zero_add] at this
theorem typeF_ok (l : List Nat) (i : Nat) : chk (typeF l i).1 (typeF l i).2.1 = 0 ∧ i + 2 ≤ (typeF l i).2.2 ∧ (typeF l i).2.2 ≤ i + 12 ∧ 0 ≤ (typeF l i).1 ∧ (typeF l i).1 ≤ 5 ∧ (typeF l i).2.1.length ≤ 4 ∧ sizeT (typeF l i).1 (typeF l i).2.1 ≤ 120 ∧ (∀ f ∈ (typeF l i).2.1, f.err = 0 ∧ f.wid ≤ 9) := by
  have h1 := nextF_lt (l := l) (i := i + 1) (m := 5) (by omega)
  have h2 := nextF_lt (l := l) (i := i + 1) (m := 4) (by omega)
  unfold typeF
  split
  · have hf := fieldF_ok l (i + 2)
    have hw := Fd.wid_rng hf.1
    have hs : sizeT ((1 + nextF l (i + 1) 5 : Nat) : Int) [(fieldF l (i + 2)).1] ≤ 45 := by
      unfold sizeT
      rw [if_pos (by omega)]
      simp only [List.headD_cons]
      exact Int.le_trans (Int.mul_le_mul (show (_ : Int) ≤ 5 by omega) hf.2.1 (by omega) (by omega)) (by decide)
    refine ⟨chk_of (by dsimp only; omega) (by dsimp only; omega) (by simp) (by simp) (by simp) ?_ ?_, by dsimp only; omega, by dsimp only; omega, by dsimp only; omega, by dsimp only; omega, by simp, by dsimp only; omega, ?_⟩
    · intro f h
      obtain rfl : f = (fieldF l (i + 2)).1 := by simpa using h
      exact hf.1
    · dsimp only
      omega
    · intro f h
      obtain rfl : f = (fieldF l (i + 2)).1 := by simpa using h
      exact ⟨hf.1, hf.2.1⟩
  · obtain ⟨ha, hl, hi1, hi2⟩ := fieldsF_ok l (1 + nextF l (i + 1) 4) (i + 2)
    have hy := lay_small ha
    have hu := upI_rng hy.1 hy.2.2.1
    have hs : sizeT 0 (fieldsF l (1 + nextF l (i + 1) 4) (i + 2)).1 ≤ 100 := by
      unfold sizeT sizeF
      rw [if_neg (by omega)]
      omega
    refine ⟨chk_of (by dsimp only; omega) (by dsimp only; omega) (by dsimp only; omega) (by dsimp only; omega) (by dsimp only; omega) (fun f h => (ha f h).1) (by dsimp only; omega), by dsimp only; omega, by dsimp only; omega, by dsimp only; omega, by dsimp only; omega, by dsimp only; omega, by dsimp only; omega, ha⟩
theorem fieldsF_snoc (l : List Nat) (y i : Nat) (gs : List Fd) : (gs ++ (fieldsF l (y + 1) i).1, (fieldsF l (y + 1) i).2) = ((gs ++ [(fieldF l i).1]) ++ (fieldsF l y (fieldF l i).2).1, (fieldsF l y (fieldF l i).2).2) := by simp [fieldsF]
end Go.Proofs.Ytaifnipgefkemaa
/- pluginhostmake: Next, Field, Type, Of. -/
namespace Go.Proofs.Ytaifnipgefkemaa
open Go.RowKit Go.Shelf
set_option linter.unusedVariables false
set_option linter.unusedSimpArgs false
set_option maxRecDepth 100000

def tape (A : Option Addr) (n c i : Nat) : List Value := [.slice A n c, .int .i64 (i : Int)]
def tpBox (b : Nat) (A : Option Addr) (n c i : Nat) : Res := .blk b 58 [.slice A n c, .int .i64 (i : Int)]
set_option maxRecDepth 100000 in
theorem sMake1 : type_of% (And.intro (And.intro @fdV.eq_1 @tyV.eq_1) (And.intro @tpBox.eq_1 (And.intro @tape.eq_1 @Nat.mul_one))) := (And.intro (And.intro @fdV.eq_1 @tyV.eq_1) (And.intro @tpBox.eq_1 (And.intro @tape.eq_1 @Nat.mul_one)))
set_option maxHeartbeats 1000000 in
theorem next_anyN (b : Nat) (A : Option Addr) (n c : Nat) (l : List Nat) (i m : Nat) (W : World) (hW : W.heap[b]? = some (.cells (tape A n c i).toArray 58 (0, 0))) (hE : Sl W W.heap.size 1 A n c (u16c l)) (ha : 0 < n → Apt A [b]) (hl : ∀ x ∈ l, x < 65536) (hi : i ≤ 1000000) (hm : 0 < m ∧ m ≤ 100000) :
    Calls Try.prog 28 #[.pointer (some ⟨b, 0, none⟩), .int .i64 (m : Int)] W (modP b 58 (.int .i64 (nextF l i m : Int)) (tape A n c (i + 1)) W) := by
  have hln : l.length = n := u16_row hE.len
  have hx16 : ∀ j, l.getD j 0 < 65536 := fun j => by
    rw [List.getD_eq_getElem?_getD]
    cases hq : l[j]? with
    | none => simp
    | some z => exact hl z (List.mem_of_getElem? hq)
  refine calls_cv (M := [b]) (n := 37) [.tmp 4] rfl Try.func28 rfl rfl (Nat.le_of_ble_eq_true rfl)  (St.one hW) ?_
  refine cv_seq_k fun K hK => ?_
  refine cv_region_then rfl ?_
  simp -implicitDefEqProofs (disch := first | omega | decide) only [seval, -Int.reducePow, -Nat.reducePow, cC, pv, binv, sMake1, undef]
  refine hK _ _ ?_
  clear hK K
  refine cv_seq_k fun K hK => ?_
  refine cv_region_then rfl ?_
  simp -implicitDefEqProofs (disch := first | omega | decide) only [seval, -Int.reducePow, -Nat.reducePow, cC, pv, binv, sMake1, undef]
  refine hK _ _ ?_
  clear hK K
  refine cv_gen fun G1 hG => ?_
  have g1_0 := congrFun hG 0
  have g1_1 := congrFun hG 1
  have g1_5 := congrFun hG 5
  clear hG
  try simp -implicitDefEqProofs (disch := first | omega | decide) only [seval, -Int.reducePow, -Nat.reducePow, cC, pv, binv, sMake1, undef] at g1_0 g1_1 g1_5
  have g1 := And.intro g1_0 (And.intro g1_1 g1_5)
  refine cv_seq_k fun K hK => ?_
  refine cv_seq_k fun K hK => ?_
  refine cv_draw [(true, 0), (true, 1), (true, 2), (true, 3), (true, 4), (true, 5), (true, 6), (true, 7), (true, 8), (true, 9)] [] mixA rfl (by kernel_rfl) (by kernel_rfl) rfl rfl ?_
  simp -implicitDefEqProofs (disch := first | omega | decide) only [seval, -Int.reducePow, -Nat.reducePow, cC, pv, binv, sMake1, undef, g1]
  refine hK _ _ ?_
  clear hK K
  refine cv_cut (fun _ _ => True) (fun F' L' => F' 0 = G1 0 ∧ F' 1 = G1 1 ∧ F' 5 = .int .i64 ((l.getD i 0 : Nat) : Int) ∧ L' = [tpBox b A n c i]) ?_ ?_
  · refine cv_cond ?_
    simp -implicitDefEqProofs (disch := first | omega | decide) only [seval, -Int.reducePow, -Nat.reducePow, cC, pv, binv, sMake1, undef, g1]
    refine ⟨fun hc => ?_, fun hc => ?_⟩
    · have hlt : i < n := by have := of_decide_eq_true hc; omega
      obtain ⟨b0, off, rfl, hb0, -⟩ := hE.cells (by omega)
      obtain ⟨x, hx⟩ := some_of (l := l) (i := i) (by omega)
      have hxb := hl x (List.mem_of_getElem? hx)
      have hbb : b ≠ b0 := fun e => ha (by omega) b0 off rfl (by simp [e])
      rw [getD_of hx]
      refine cv_q ?_
      refine cv_draw [(true, 0), (true, 1), (true, 2), (true, 3), (true, 4), (true, 5), (true, 6), (true, 7), (true, 8), (true, 9), (true, 10), (true, 11)] [] mixA rfl (by kernel_rfl) (by kernel_rfl) rfl rfl ?_
      simp -implicitDefEqProofs (disch := first | omega | decide) only [seval, -Int.reducePow, -Nat.reducePow, cC, pv, binv, sMake1, undef, g1]
      refine ⟨_, hE.ld1M (m := 1) (ha (by omega)) (by kernel_rfl) (u16_get hx), fun tok htok => ?_⟩
      subst htok
      simp -implicitDefEqProofs (disch := first | omega | decide) only [seval, -Int.reducePow, -Nat.reducePow, cC, pv, binv, sMake1, undef, wrap_in, g1]
    · have hge : ¬ i < n := by have := of_decide_eq_false hc; omega
      rw [List.getD_eq_getElem?_getD, List.getElem?_eq_none (by omega)]
      refine cv_skip ?_
      try simp only [blockQ, thenQ]
      simp -implicitDefEqProofs (disch := first | omega | decide) only [seval, -Int.reducePow, -Nat.reducePow, cC, pv, binv, sMake1, undef, g1]
      all_goals (first | (simp; done) | (simp; omega))
  · intro G2 L' _ hF
    obtain ⟨q0, q1, q5, rfl⟩ := hF
    have g2_0 := q0.trans g1_0
    have g2_1 := q1.trans g1_1
    have g2_5 := q5
    clear q0 q1 q5
    have g2 := And.intro g2_0 (And.intro g2_1 g2_5)
    refine hK _ _ ?_
    clear hK K
    have hv : ((l.getD i 0 : Nat) : Int) % (m : Int) = (nextF l i m : Int) := by unfold nextF; rw [Int.natCast_emod]
    have h16 := hx16 i
    refine cv_seq_k fun K hK => ?_
    refine cv_region_then rfl ?_
    simp -implicitDefEqProofs (disch := first | omega | decide) only [seval, -Int.reducePow, -Nat.reducePow, cC, pv, binv, sMake1, undef, wrap_in, g2]
    refine hK _ _ ?_
    clear hK K
    refine cv_seq_k fun K hK => ?_
    refine cv_region_then rfl ?_
    simp -implicitDefEqProofs (disch := first | omega | decide) only [seval, -Int.reducePow, -Nat.reducePow, cC, pv, binv, sMake1, undef, hv, g2]
    refine hK _ _ ?_
    clear hK K
    refine cv_ret ⟨_, (by simp -implicitDefEqProofs (disch := first | omega | decide) only [seval, -Int.reducePow, -Nat.reducePow, cC, pv, binv, sMake1, undef, g2]; rfl), fun w hw => ?_⟩
    exact ⟨rfl, hw.holds _ (.head _), hw.pres⟩
theorem next_any (b : Nat) (A : Option Addr) (n c : Nat) (l : List Nat) (i m : Nat) (W : World) (hW : W.heap[b]? = some (.cells (tape A n c i).toArray 58 (0, 0))) (hE : Sl W W.heap.size 1 A n c (u16c l)) (ha : Apt A [b]) (hl : ∀ x ∈ l, x < 65536) (hi : i ≤ 1000000) (hm : 0 < m ∧ m ≤ 100000) :
    Calls Try.prog 28 #[.pointer (some ⟨b, 0, none⟩), .int .i64 (m : Int)] W (modP b 58 (.int .i64 (nextF l i m : Int)) (tape A n c (i + 1)) W) :=
  next_anyN b A n c l i m W hW hE (fun _ => ha) hl hi hm
set_option maxHeartbeats 1000000 in
theorem of_any (A : Option Addr) (n c : Nat) (l : List Nat) (m : Nat) (W : World) (hE : Sl W W.heap.size 1 A n c (u16c l)) (hm : m ≤ 100000) :
    Calls Try.prog 7 #[.slice A n c, .int .i64 (m : Int)] W (boxRowP 58 (fun v => [v, .int .i64 0]) 100 1 (u16c (l.take m)) W) := by
  have hln : l.length = n := u16_row hE.len
  have hcap := hE.cap
  have hmax := hE.max
  refine calls_cv (M := []) (n := 17) [.tmp 4] rfl Try.func7 rfl rfl (Nat.le_of_ble_eq_true rfl) (St.nil _ _) ?_
  refine cv_seq_k fun K hK => ?_
  refine cv_region_then rfl ?_
  simp -implicitDefEqProofs (disch := first | omega | decide) only [seval, -Int.reducePow, -Nat.reducePow, cC, pv, binv, sMake1, undef]
  refine hK _ _ ?_
  clear hK K
  refine cv_gen fun G3 hG => ?_
  have g3_0 := congrFun hG 0
  have g3_1 := congrFun hG 1
  clear hG
  try simp -implicitDefEqProofs (disch := first | omega | decide) only [seval, -Int.reducePow, -Nat.reducePow, cC, pv, binv, sMake1, undef] at g3_0 g3_1
  have g3 := And.intro g3_0 g3_1
  refine cv_seq_k fun K hK => ?_
  refine cv_seq_k fun K hK => ?_
  refine cv_region_then rfl ?_
  simp -implicitDefEqProofs (disch := first | omega | decide) only [seval, -Int.reducePow, -Nat.reducePow, cC, pv, binv, sMake1, undef, g3]
  refine hK _ _ ?_
  clear hK K
  refine cv_cut (fun _ _ => True) (fun F' L' => F' 0 = .slice A (min n m) c ∧ L' = []) ?_ ?_
  · refine cv_cond ?_
    simp -implicitDefEqProofs (disch := first | omega | decide) only [seval, -Int.reducePow, -Nat.reducePow, cC, pv, binv, sMake1, undef, g3]
    refine ⟨fun hc => ?_, fun hc => ?_⟩
    · have hlt : m < n := by have := of_decide_eq_true hc; omega
      rw [Nat.min_eq_right (by omega)]
      refine cv_region_q rfl ?_
      simp -implicitDefEqProofs (disch := first | omega | decide) only [seval, -Int.reducePow, -Nat.reducePow, cC, pv, binv, sMake1, undef, g3]
    · have hge : ¬ m < n := by have := of_decide_eq_false hc; omega
      rw [Nat.min_eq_left (by omega)]
      refine cv_skip ?_
      try simp only [blockQ, thenQ]
      simp -implicitDefEqProofs (disch := first | omega | decide) only [seval, -Int.reducePow, -Nat.reducePow, cC, pv, binv, sMake1, undef, g3]
  · intro G4 L' _ hF
    obtain ⟨q0, rfl⟩ := hF
    have g4_0 := q0
    clear q0
    have g4 := g4_0
    refine hK _ _ ?_
    clear hK K
    have hE2 : Sl W W.heap.size 1 A (min n m) c (u16c (l.take m)) := by
      have := hE.utake (k := min n m) (by omega)
      rwa [show l.take (min n m) = l.take m by rw [← hln, Nat.min_comm, ← List.take_take, List.take_length]] at this
    refine cv_seq_k fun K hK => ?_
    refine cv_region_then rfl ?_
    simp -implicitDefEqProofs (disch := first | omega | decide) only [seval, -Int.reducePow, -Nat.reducePow, cC, pv, binv, sMake1, undef, g4]
    intro b5 hb5
    refine appV_lit 0 tap23 rfl rfl (fun w hw => (hE2.at hw).reads) (ones_u16 _) (by omega) (by omega) ?_
    intro A' c' hl' _
    simp -implicitDefEqProofs (disch := first | omega | decide) only [seval, -Int.reducePow, -Nat.reducePow, cC, pv, binv, sMake1, undef, g4]
    intro b6 hb6
    refine hK _ _ ?_
    clear hK K
    refine cv_ret ⟨_, (by simp -implicitDefEqProofs (disch := first | omega | decide) only [seval, -Int.reducePow, -Nat.reducePow, cC, pv, binv, sMake1, undef, g4]; rfl), fun w hw => ?_⟩
    exact hw.boxRow (us := fun v => [v, .int .i64 0])
end Go.Proofs.Ytaifnipgefkemaa
/- Frames of laws, whatever the parameters: the arguments read afterwards as before (Below), and how an argument is opened to what the walks ask. -/
namespace Go.Proofs.Ytaifnipgefkemaa
open Go.ChangeShapes Go.WideShapes Go.ChangeAt Go.RowKit Go.Deep Go.Joins
set_option linter.unusedVariables false
section
variable {H : Type} {enc : TypeId × Value → H} {P : Program}

/-- Every type of the list reads as data. -/
def readAll (P : Program) (ts : List TypeId) : Bool := ts.all fun t => P.readableRec t && decide (t < P.types.size)

theorem trodAll_stays (hl : laidOutB P = true) {W W' : World} (hb : Below W.heap.size W W') {sp : Nat → Bool} : ∀ {ts : List TypeId} {vs : List Value} {ds : List (DataW H)} {ps : List MemPlace}, readAll P ts = true →
    DataW.TrodAll enc P W 0 (fun _ => true) true ts vs ds ps → (∀ x ∈ ps, x.block < W.heap.size) → (∀ x ∈ ps, sp x.block = true) → DataW.TrodAll enc P W' 0 sp true ts vs ds ps
  | [], vs, ds, ps, _, h, _, _ => by
    obtain ⟨rfl, rfl, rfl⟩ := trodAll_nil h
    exact trodAll_mk0
  | t :: ts, vs, ds, ps, hr, h, hlt, hs => by
    obtain ⟨v, vs', d, ds', p, q, rfl, rfl, rfl, h1, h2⟩ := trodAll_cons h
    simp only [readAll, List.all_cons, Bool.and_eq_true, decide_eq_true_eq] at hr
    refine trodAll_cons_mk (WideElems.Trod_stays hl hr.1.1 hr.1.2 h1 (fun x hx => hb.same (hlt x (List.mem_append_left _ hx))) (fun x hx => hs x (List.mem_append_left _ hx))) ?_
    exact trodAll_stays hl hb hr.2 h2 (fun x hx => hlt x (List.mem_append_right _ hx)) (fun x hx => hs x (List.mem_append_right _ hx))

/-- The post of a law that only reads: one result, the arguments as they were. -/
theorem post_of_reads {f : Func} {s : ChangeSpec} {apart fresh handsOn again : Bool} {W W' : World} {args : Array Value} {v : Value} {ds : List (DataW H)} {before : List MemPlace}
    (hl : laidOutB P = true) (hr : readAll P f.params.toList = true) (hsv : s.vars = [])
    (hW : DataW.Whole enc P f.params.toList s.vars apart W args.toList ds [] before)
    (hA : DataW.TrodAll enc P W 0 (fun _ => true) true f.params.toList args.toList ds before)
    (hres : ∀ (b : Nat) (sp : Nat → Bool) (hd : Bool), DataW.TrodAll enc P W' b sp hd f.resultTypes.toList (v.resultList f.resultTypes.size) (s.fn H (ds ++ [])).results [])
    (hargs : (s.fn H (ds ++ [])).args = ds) (hvars : (s.fn H (ds ++ [])).vars = []) (hb : Below W.heap.size W W')
    (hok : ∀ (j : Nat) (t : TypeId) (r : Value), f.resultTypes[j]? = some t → (v.resultList f.resultTypes.size)[j]? = some r → Value.okWide P W' .any 0 t r) :
    s.post enc P f apart fresh handsOn again W args v W' :=
  post_of_below (pa := before) (pv := []) hW hres (fun sp hsp => by
    rw [hargs]
    exact trodAll_stays hl hb hr hA (fun x hx => hW.lt x hx) hsp) (fun sp _ => by rw [hsv, hvars]; rfl) (by simp) hb hok
end
end Go.Proofs.Ytaifnipgefkemaa
/- Encodings of types: plain. -/
namespace Go.Proofs.Ytaifnipgefkemaa
open Go.RowKit Go.Shelf
set_option linter.unusedVariables false
set_option linter.unusedSimpArgs false
def encFd (f : Fd) : List Nat := putU f.kind.toNat ++ putU f.count.toNat
def encB (len : Int) (fs : List Fd) : List Nat := putU len.toNat ++ putU fs.length ++ fs.flatMap encFd
def encT (len : Int) (fs : List Fd) : List Nat := if chk len fs = 0 then encB len fs else []
theorem putU_le3 {n : Nat} (h : n ≤ 65536) : (putU n).length ≤ 3 := putU_len 2 n (by rw [show (128 : Nat) ^ (2 + 1) = 2097152 by decide]; omega)
theorem encFd_len {f : Fd} (h : f.err = 0) : (encFd f).length ≤ 6 := by
  have := Fd.err_zero h
  have h1 := putU_le3 (n := f.kind.toNat) (by omega)
  have h2 := putU_le3 (n := f.count.toNat) (by omega)
  unfold encFd
  rw [List.length_append]
  omega
theorem flat_len : ∀ {fs : List Fd}, okFs fs → (fs.flatMap encFd).length ≤ 6 * fs.length
  | [], _ => by simp
  | f :: r, h => by
    have h1 := encFd_len (h f (by simp))
    have h2 := flat_len (fs := r) fun x hx => h x (by simp [hx])
    rw [List.flatMap_cons, List.length_append, List.length_cons]
    omega
theorem encB_len {len : Int} {fs : List Fd} (h : chk len fs = 0) : (encB len fs).length ≤ 198 ∧ 2 ≤ (encB len fs).length := by
  obtain ⟨h1, h2, h3, h4, h5, h6, h7⟩ := chk_zero h
  have q1 := putU_le3 (n := len.toNat) (by omega)
  have q2 := putU_le3 (n := fs.length) (by omega)
  have q3 := flat_len h6
  have q4 := putU_pos len.toNat
  have q5 := putU_pos fs.length
  unfold encB
  rw [List.length_append, List.length_append]
  omega
theorem encFd_byte (f : Fd) : ∀ x ∈ encFd f, x < 256 := fun x hx => by
  rcases List.mem_append.1 hx with h | h
  · exact putU_byte _ x h
  · exact putU_byte _ x h
theorem encB_byte (len : Int) (fs : List Fd) : ∀ x ∈ encB len fs, x < 256 := fun x hx => by
  unfold encB at hx
  rcases List.mem_append.1 hx with h | h
  · rcases List.mem_append.1 h with h | h
    · exact putU_byte _ x h
    · exact putU_byte _ x h
  · obtain ⟨f, _, hf⟩ := List.mem_flatMap.1 h
    exact encFd_byte f x hf
theorem flat_take {fs : List Fd} {k : Nat} {x : Fd} (h : fs[k]? = some x) : (fs.take (k + 1)).flatMap encFd = (fs.take k).flatMap encFd ++ putU x.kind.toNat ++ putU x.count.toNat := by
  obtain ⟨hk, hf⟩ := List.getElem?_eq_some_iff.1 h
  rw [List.take_succ_eq_append_getElem hk, hf, List.flatMap_append]
  simp [encFd]
theorem u64_toNat {x : Int} (h0 : 0 ≤ x) (h1 : x ≤ 9223372036854775807) : IntKind.u64.wrap x = (x.toNat : Int) := by rw [IntKind.wrap_u64]; omega
theorem nat_toNat (n : Nat) : ((n : Int)).toNat = n := by omega
def awB : List Nat := [0, 3, 1, 0, 3, 0, 2, 0]
theorem awake_chk : chk 0 [⟨1, 0⟩, ⟨3, 0⟩, ⟨2, 0⟩] = 0 := by decide
theorem awake_enc : encT 0 [⟨1, 0⟩, ⟨3, 0⟩, ⟨2, 0⟩] = awB := by
  unfold encT
  rw [if_pos awake_chk]
  simp [encB, encFd, putU_small, awB]
theorem awake_str : bstr awB = ⟨#[0, 3, 1, 0, 3, 0, 2, 0]⟩ := by rw [bstr_eq]; rfl
end Go.Proofs.Ytaifnipgefkemaa
/- Arguments opened: slices of numbers, slices of structs, types. -/
namespace Go.Proofs.Ytaifnipgefkemaa
open Go.ChangeShapes Go.WideShapes Go.ChangeAt Go.RowKit Go.Deep Go.Joins
set_option linter.unusedVariables false
set_option linter.unusedSimpArgs false
set_option maxRecDepth 100000
/-- The number that a value holds. -/
def intOfV : Value → Int
  | .int _ n => n
  | _ => 0
section
variable {H : Type} {enc : TypeId × Value → H} {P : Program} {w : World} {base : Nat} {spare : Nat → Bool} {held : Bool}
theorem spot_none {w : World} {a : Addr} {v : Value} (h : w.cell? a = some v) : a.spot = none := by
  unfold World.cell? at h
  split at h
  · split at h
    · cases h
    · rename_i hs
      simpa using hs
  · cases h
theorem add_spot {a : Addr} (hs : a.spot = none) (k : Nat) : a.add k = ⟨a.block, a.off + k, none⟩ := by
  obtain ⟨ab, ao, sq⟩ := a
  dsimp only at hs
  subst hs
  unfold Addr.add
  split
  · rename_i h; subst h; rfl
  · rfl
/-- A slice whose cells are known, one by one. -/
theorem Sl.of_cells {a : Addr} {n c size : Nat} {xs : List Value} (hl : xs.length = n * size) (hs : 0 < size) (hc : n ≤ c) (hm : c ≤ maxLen) (h : ∀ i v, xs[i]? = some v → w.cell? (a.add i) = some v) : Sl w w.heap.size size (some a) n c xs :=
  ⟨hl, hc, by unfold maxLen at hm; omega, fun hn => by
    have hpos : 0 < xs.length := by rw [hl]; exact Nat.mul_pos hn hs
    have h0 := h 0 _ (List.getElem?_eq_getElem hpos)
    have hsp : a.spot = none := by rw [Addr.add_zero'] at h0; exact spot_none h0
    refine ⟨a.block, a.off, ?_, ?_, fun i v hv => ?_⟩
    · obtain ⟨ab, ao, sq⟩ := a
      dsimp only at hsp
      subst hsp
      rfl
    · have := World.block_lt_of_cell? w _ h0
      rwa [add_spot hsp] at this
    · have := h i v hv
      rwa [add_spot hsp] at this⟩
theorem flat_get {n m : Nat} {R : Nat → Nat → Value} {i : Nat} {v : Value} (h : ((List.range n).flatMap fun i => (List.range m).map (R i))[i]? = some v) : 0 < m ∧ i / m < n ∧ v = R (i / m) (i % m) := by
  have hf : ∀ k, ((List.range m).map (R k)).length = m := fun k => by simp
  have hlen := cl_len (f := fun i => (List.range m).map (R i)) hf (List.range n)
  unfold cl at hlen
  have hi := (List.getElem?_eq_some_iff.1 h).1
  rw [hlen, List.length_range] at hi
  have hm : 0 < m := by
    rcases Nat.eq_zero_or_pos m with h0 | h0
    · subst h0; simp at hi
    · exact h0
  have hd : i / m < n := Nat.div_lt_of_lt_mul (by rw [Nat.mul_comm]; exact hi)
  have hr : (List.range n)[i / m]? = some (i / m) := List.getElem?_range hd
  have hv : ((List.range m).map (R (i / m)))[i % m]? = some (R (i / m) (i % m)) := by
    rw [List.getElem?_map, List.getElem?_range (Nat.mod_lt _ hm)]
    rfl
  have := cl_get (f := fun i => (List.range m).map (R i)) hf hr hv
  rw [Nat.mul_comm, Nat.div_add_mod] at this
  unfold cl at this
  rw [h] at this
  injection this with this
  exact ⟨hm, hd, this⟩
/-- A slice of structs with fields of a cell each. -/
theorem open_rows {t e : TypeId} {fs : Array Field} {fuel : Nat} {cs : List Value} {x : DataW H × List MemPlace} (ht : P.underlying t = some (.slice e)) (he : P.underlying e = some (.struct fs))
    (hone : oneCellFields P fs = true) (hC : P.cellsOf e = fs.size) (hp : 0 < fs.size) (h : DataW.trod enc P w base (fun _ => true) held fuel t cs = some x) :
    ∃ A n c, ∃ R : Nat → Nat → Value, cs = [.slice A n c] ∧ Sl w w.heap.size fs.size A n c ((List.range n).flatMap fun i => (List.range fs.size).map (R i)) ∧
      ∀ i, i < n → ∀ j f, fs[j]? = some f → ∃ y m, DataW.trod enc P w base (fun _ => true) held m f.type [R i j] = some y := by
  rcases open_slice ht h with h0 | ⟨a, len, cap, m, n, D, Pl, hcs, hb, hl, hm, hmm, hx, hi⟩
  · exact ⟨none, 0, 0, fun _ _ => undef, h0.1, Sl.nil _, fun i hi => by omega⟩
  · simp only [if_true] at hmm
    subst hmm
    have hcell : ∀ i, i < m → ∀ j f, fs[j]? = some f → ∃ v y k, w.cell? (a.add (i * fs.size + j)) = some v ∧ DataW.trod enc P w base (fun _ => true) held k f.type [v] = some y := fun i him j f hj => by
      obtain ⟨cs', hc, ht'⟩ := hi i him
      rw [hC] at hc
      obtain ⟨ys, n', hn', hy, hlen, hyl, hf⟩ := DataW.trod_struct he ht'
      obtain ⟨_, hcl, hat⟩ := World.cells?_some hc
      obtain ⟨ho, hk⟩ := hone_of hone j f hj
      have hjl : j < fs.size := (Array.getElem?_eq_some_iff.1 hj).1
      have hcell := hat j hjl
      have hv : cs'[j]? = some (cs'[j]'(by omega)) := List.getElem?_eq_getElem (by omega)
      have h1 := hf j f hj
      rw [ho, hk] at h1
      have hone' : (cs'.drop j).take 1 = [cs'[j]'(by omega)] := by
        rw [List.drop_eq_getElem_cons (by omega)]
        rfl
      rw [hone'] at h1
      have hys : ys[j]? = some (ys[j]'(by omega)) := List.getElem?_eq_getElem (by omega)
      refine ⟨_, _, _, ?_, h1.trans hys⟩
      rw [← Go.Deep.add_add, hcell, hv]
    refine ⟨some a, len, m, fun i j => (w.cell? (a.add (i * fs.size + j))).getD undef, hcs, Sl.of_cells (by
      have := cl_len (f := fun i => (List.range fs.size).map fun j => (w.cell? (a.add (i * fs.size + j))).getD undef) (k := fs.size) (fun x => by simp) (List.range len)
      rw [List.length_range] at this
      exact this) hp hl hm fun i v hv => ?_, fun i hil j f hj => ?_⟩
    · obtain ⟨hp, hd, rfl⟩ := flat_get hv
      have hj : i % fs.size < fs.size := Nat.mod_lt _ hp
      obtain ⟨v, y, k, hc, _⟩ := hcell (i / fs.size) (by omega) (i % fs.size) _ (Array.getElem?_eq_getElem hj)
      have e : i / fs.size * fs.size + i % fs.size = i := by rw [Nat.mul_comm]; exact Nat.div_add_mod i fs.size
      try dsimp only
      rw [e] at hc ⊢
      rw [hc]
      rfl
    · obtain ⟨v, y, k, hc, hy⟩ := hcell i (by omega) j f hj
      refine ⟨y, k, ?_⟩
      try dsimp only
      rw [hc]
      exact hy
/-- A slice of numbers. -/
theorem open_nums {t e : TypeId} {k : IntKind} {fuel : Nat} {cs : List Value} {x : DataW H × List MemPlace} (ht : P.underlying t = some (.slice e)) (he : P.underlying e = some (.int k)) (hC : P.cellsOf e = 1)
    (h : DataW.trod enc P w base (fun _ => true) held fuel t cs = some x) :
    ∃ A n c, ∃ L : List Int, cs = [.slice A n c] ∧ Sl w w.heap.size 1 A n c (L.map (Value.int k)) ∧ ∀ x ∈ L, (Lit.int k x).wf = true := by
  rcases open_ints ht he hC h with ⟨hcs, hx⟩ | ⟨a, len, cap, zs, hcs, _, hl, hm, hz, hx, hcell, hwz⟩
  · exact ⟨none, 0, 0, [], hcs, Sl.nil _, by simp⟩
  · simp only [if_true] at hz
    refine ⟨some a, len, cap, zs.take len, hcs, Sl.of_cells (by simp; omega) (by omega) hl hm fun i v hv => ?_, fun y hy => hwz y (List.mem_of_mem_take hy)⟩
    rw [List.getElem?_map, List.getElem?_take] at hv
    split at hv
    · rename_i hi
      obtain ⟨z, hz1, rfl⟩ := Option.map_eq_some_iff.1 hv
      rw [hcell i (by omega), List.getD_eq_getElem?_getD, hz1]
      rfl
    · cases hv
theorem wf64 {n : Int} (h : (Lit.int .i64 n).wf = true) : -9223372036854775808 ≤ n ∧ n ≤ 9223372036854775807 := by
  simp only [Lit.wf, Bool.and_eq_true, decide_eq_true_eq] at h
  exact h
theorem wf16 {n : Int} (h : (Lit.int .u16 n).wf = true) : 0 ≤ n ∧ n ≤ 65535 := by
  simp only [Lit.wf, Bool.and_eq_true, decide_eq_true_eq] at h
  exact h
theorem wf8 {n : Int} (h : (Lit.int .u8 n).wf = true) : 0 ≤ n ∧ n ≤ 255 := by
  simp only [Lit.wf, Bool.and_eq_true, decide_eq_true_eq] at h
  exact h
theorem wfu64 {n : Int} (h : (Lit.int .u64 n).wf = true) : 0 ≤ n ∧ n ≤ 18446744073709551615 := by
  simp only [Lit.wf, Bool.and_eq_true, decide_eq_true_eq] at h
  exact h
theorem wf_i64 {n : Int} (h : (Lit.int .i64 n).wf = true) : -9223372036854775808 ≤ n ∧ n ≤ 9223372036854775807 := wf64 h
theorem wf_u8 {n : Int} (h : (Lit.int .u8 n).wf = true) : 0 ≤ n ∧ n ≤ 255 := wf8 h
theorem wf_u16 {n : Int} (h : (Lit.int .u16 n).wf = true) : 0 ≤ n ∧ n ≤ 65535 := wf16 h
theorem wf_u64 {n : Int} (h : (Lit.int .u64 n).wf = true) : 0 ≤ n ∧ n ≤ 18446744073709551615 := wfu64 h
theorem toNats {k : IntKind} : ∀ {L : List Int}, (∀ x ∈ L, 0 ≤ x) → L.map (Value.int k) = (L.map Int.toNat).map fun x : Nat => Value.int k (x : Int)
  | [], _ => rfl
  | x :: L, h => by
    have h1 := h x (by simp)
    rw [List.map_cons, List.map_cons, List.map_cons, toNats fun y hy => h y (by simp [hy])]
    rw [Int.toNat_of_nonneg h1]
theorem trod_of {sp : Nat → Bool} {t : TypeId} {v : Value} {d : DataW H} {p : List MemPlace} (h : DataW.Trod enc P w base sp held t v d p) : ∃ fuel, DataW.trod enc P w base sp held fuel t v.cells.toList = some (d, p) := h
variable {b0 : Nat} {v : Value} {d : DataW H} {p : List MemPlace} {fuel : Nat} {x : DataW H × List MemPlace} {cs : List Value}
theorem nums_trod {e : TypeId} {k : IntKind} {t : TypeId} {B : Int} (ht : P.underlying t = some (.slice e)) (he : P.underlying e = some (.int k)) (hC : P.cellsOf e = 1) (hwf : ∀ n : Int, (Lit.int k n).wf = true → 0 ≤ n ∧ n < B)
    (h : DataW.trod enc P w base (fun _ => true) held fuel t cs = some x) : ∃ (A : Option Addr) (n c : Nat) (l : List Nat), cs = [.slice A n c] ∧ Sl w w.heap.size 1 A n c (l.map fun x : Nat => Value.int k (x : Int)) ∧ ∀ x ∈ l, (x : Int) < B := by
  obtain ⟨A, n, c, L, hcs, hE, hwz⟩ := open_nums ht he hC h
  rw [toNats fun y hy => (hwf y (hwz y hy)).1] at hE
  refine ⟨A, n, c, _, hcs, hE, fun y hy => ?_⟩
  obtain ⟨z, hz, rfl⟩ := List.mem_map.1 hy
  have := hwf z (hwz z hz)
  omega
theorem top_slice {t e : TypeId} (ht : P.underlying t = some (.slice e)) (hval : Value.okWide P w .any b0 t v) {Q : List Value → Prop} (h : Q v.cells.toList) {A : Option Addr} {n c : Nat} (hv : v.cells.toList = [.slice A n c]) : v = .slice A n c := by
  obtain ⟨a0, len, cap, rfl⟩ := okWide_slice ht hval
  simpa [Value.cells] using hv
theorem open_bytes (t : TypeId) (ht : Try.prog.underlying t = some (.slice 5)) (hval : Value.okWide Try.prog w .any b0 t v) (h : DataW.Trod enc Try.prog w base (fun _ => true) held t v d p) :
    ∃ (A : Option Addr) (n c : Nat) (l : List Nat), v = .slice A n c ∧ Sl w w.heap.size 1 A n c (byt l) ∧ ∀ x ∈ l, x < 256 := by
  obtain ⟨fuel, hf⟩ := h
  obtain ⟨A, n, c, l, hcs, hE, hl⟩ := nums_trod (B := 256) ht Try.underlying5 (by kernel_rfl) (fun n h => by have := wf8 h; omega) hf
  exact ⟨A, n, c, l, top_slice (Q := fun _ => True) ht hval trivial hcs, hE, fun x hx => by have := hl x hx; omega⟩
theorem open_u16n (hval : Value.okWide Try.prog w .any b0 23 v) (h : DataW.Trod enc Try.prog w base (fun _ => true) held 23 v d p) :
    ∃ (A : Option Addr) (n c : Nat) (l : List Nat), v = .slice A n c ∧ Sl w w.heap.size 1 A n c (u16c l) ∧ ∀ x ∈ l, x < 65536 := by
  obtain ⟨fuel, hf⟩ := h
  obtain ⟨A, n, c, l, hcs, hE, hl⟩ := nums_trod (B := 65536) Try.underlying23 Try.underlying100 (by kernel_rfl) (fun n h => by have := wf16 h; omega) hf
  exact ⟨A, n, c, l, top_slice (Q := fun _ => True) Try.underlying23 hval trivial hcs, hE, fun x hx => by have := hl x hx; omega⟩
theorem open_u64n (t : TypeId) (ht : Try.prog.underlying t = some (.slice 34)) (hval : Value.okWide Try.prog w .any b0 t v) (h : DataW.Trod enc Try.prog w base (fun _ => true) held t v d p) :
    ∃ (A : Option Addr) (n c : Nat) (l : List Nat), v = .slice A n c ∧ Sl w w.heap.size 1 A n c (u64c l) ∧ ∀ x ∈ l, x < 18446744073709551616 := by
  obtain ⟨fuel, hf⟩ := h
  obtain ⟨A, n, c, l, hcs, hE, hl⟩ := nums_trod (B := 18446744073709551616) ht Try.underlying34 (by kernel_rfl) (fun n h => by have := wfu64 h; omega) hf
  exact ⟨A, n, c, l, top_slice (Q := fun _ => True) ht hval trivial hcs, hE, fun x hx => by have := hl x hx; omega⟩
end
end Go.Proofs.Ytaifnipgefkemaa
