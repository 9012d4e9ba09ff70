/- Numbers and their bytes, the least one first: plain. -/
import Derived.Test.YtfaanphjaghbpaaSl
namespace Go.Proofs.Ytfaanphjaghbpaa
open Go.RowKit Go.Shelf
set_option linter.unusedVariables false
set_option linter.unusedSimpArgs false
theorem some_of {α : Type} {l : List α} {i : Nat} (h : i < l.length) : ∃ x, l[i]? = some x := ⟨_, List.getElem?_eq_getElem h⟩
theorem bits64 : ((IntKind.u64.bits : Nat) : Int) = 64 := rfl
def leN : List Nat → Nat
  | [] => 0
  | b :: l => b + 256 * leN l
theorem leN_snoc : ∀ (l : List Nat) (c : Nat), leN (l ++ [c]) = leN l + c * 256 ^ l.length
  | [], c => by simp [leN]
  | b :: l, c => by
    show b + 256 * leN (l ++ [c]) = b + 256 * leN l + c * 256 ^ (l.length + 1)
    rw [leN_snoc l c, Nat.pow_succ, Nat.mul_add, Nat.add_assoc]
    congr 2
    rw [Nat.mul_comm 256, Nat.mul_assoc]
theorem leN_lt : ∀ (l : List Nat), (∀ x ∈ l, x < 256) → leN l < 256 ^ l.length
  | [], _ => by simp [leN]
  | b :: l, h => by
    have h1 := leN_lt l fun x hx => h x (.tail _ hx)
    have h2 := h b (.head _)
    show b + 256 * leN l < 256 ^ (l.length + 1)
    rw [Nat.pow_succ]
    omega
theorem leN_take {l : List Nat} {i c : Nat} (h : l[i]? = some c) : leN (l.take (i + 1)) = leN (l.take i) + c * 256 ^ i := by
  have hlt := (List.getElem?_eq_some_iff.1 h).1
  rw [List.take_add_one, h]
  show leN (l.take i ++ [c]) = _
  rw [leN_snoc, List.length_take, Nat.min_eq_left (by omega)]
theorem leN_drop {l : List Nat} {i c : Nat} (h : l[i]? = some c) : leN (l.drop i) = c + 256 * leN (l.drop (i + 1)) := by
  obtain ⟨hlt, he⟩ := List.getElem?_eq_some_iff.1 h
  rw [List.drop_eq_getElem_cons hlt, he]
  rfl
theorem pow256 {i : Nat} (h : i ≤ 8) : 256 ^ i ≤ 18446744073709551616 := by
  have : 256 ^ i ≤ 256 ^ 8 := Nat.pow_le_pow_right (by omega) h
  have e : (256 : Nat) ^ 8 = 18446744073709551616 := by decide
  omega
theorem or_hi {n c i : Nat} (hn : n < 256 ^ i) (hc : c < 256) (h7 : i ≤ 7) :
    IntKind.u64.wrap ((c : Int) * 2 ^ (8 * i)) = ((c * 256 ^ i : Nat) : Int) ∧ bits .or .u64 (n : Int) ((c * 256 ^ i : Nat) : Int) = ((n + c * 256 ^ i : Nat) : Int) ∧ n + c * 256 ^ i < 18446744073709551616 := by
  have e : (2 : Nat) ^ (8 * i) = 256 ^ i := by rw [Nat.pow_mul]
  have hle : c * 256 ^ i + 256 ^ i ≤ 18446744073709551616 := by
    have h1 : (c + 1) * 256 ^ i ≤ 256 * 256 ^ i := Nat.mul_le_mul_right _ (by omega)
    have h2 : 256 * 256 ^ i = 256 ^ (i + 1) := by rw [Nat.pow_succ, Nat.mul_comm]
    have h3 := pow256 (i := i + 1) (by omega)
    rw [Nat.add_mul] at h1
    omega
  have hp : 0 < 256 ^ i := Nat.pow_pos (by omega)
  refine ⟨?_, ?_, by omega⟩
  · have e2 : ((c : Int) * 2 ^ (8 * i)) = ((c * 256 ^ i : Nat) : Int) := by
      rw [← e]
      push_cast
      rfl
    rw [e2, IntKind.wrap_u64]
    omega
  · rw [bits_or_u64_nat _ _ (by omega) (by omega)]
    have h2 := Nat.two_pow_add_eq_or_of_lt (i := 8 * i) (b := n) (by rw [e]; exact hn) c
    rw [e, Nat.mul_comm] at h2
    rw [Nat.or_comm, ← h2, Nat.add_comm]
theorem or_lo {n c : Nat} (hn : n < 72057594037927936) (hc : c < 256) : IntKind.u64.wrap ((n : Int) * 256) = ((256 * n : Nat) : Int) ∧ bits .or .u64 ((256 * n : Nat) : Int) (c : Int) = ((c + 256 * n : Nat) : Int) := by
  refine ⟨?_, ?_⟩
  · rw [IntKind.wrap_u64]
    omega
  · rw [bits_or_u64_nat _ _ (by omega) (by omega)]
    have h2 := Nat.two_pow_add_eq_or_of_lt (i := 8) (b := c) (by omega) n
    rw [show (2 : Nat) ^ 8 = 256 by decide] at h2
    rw [← h2, Nat.add_comm]
/-- The bytes of a number. -/
def leB (v w : Nat) : List Nat := (List.range w).map fun i => v / 256 ^ i % 256
theorem leB_len (v w : Nat) : (leB v w).length = w := by simp [leB]
theorem leB_get {v w i : Nat} (h : i < w) : (leB v w)[i]? = some (v / 256 ^ i % 256) := by simp [leB, h]
theorem leB_lt {v w : Nat} : ∀ x ∈ leB v w, x < 256 := fun x hx => by
  obtain ⟨i, -, rfl⟩ := List.mem_map.1 hx
  omega
theorem shr_byte (v i : Nat) : IntKind.u8.wrap ((v : Int) / 2 ^ (8 * i)) = ((v / 256 ^ i % 256 : Nat) : Int) := by
  have e : ((2 : Int) ^ (8 * i)) = ((256 ^ i : Nat) : Int) := by
    rw [show (256 : Nat) ^ i = 2 ^ (8 * i) by rw [Nat.pow_mul]]
    push_cast
    rfl
  rw [e, ← Int.natCast_ediv, IntKind.wrap_u8]
  omega
theorem leN_leB (v : Nat) : ∀ w, leN (leB v w) = v % 256 ^ w
  | 0 => by simp [leB, leN, Nat.mod_one]
  | w + 1 => by
    have h1 : leB v (w + 1) = leB v w ++ [v / 256 ^ w % 256] := by simp [leB, List.range_succ]
    rw [h1, leN_snoc, leB_len, leN_leB v w, Nat.pow_succ, Nat.mod_mul, Nat.mul_comm (v / 256 ^ w % 256)]
end Go.Proofs.Ytfaanphjaghbpaa
