/- Numbers on the wire: plain. -/
import Derived.Test.YtlbmnioibiomfaaGreatDLoad1
import Derived.Laws.BitsLemmas
import Derived.Laws.Bits64b
namespace Go.Proofs.YtlbmnioibiomfaaGreat
open Go.RowKit Go.Shelf
set_option linter.unusedVariables false
set_option linter.unusedSimpArgs false

/-- The encoding of a number. -/
def putU (n : Nat) : List Nat := if h : n < 128 then [n] else (n % 128 + 128) :: putU (n / 128)
termination_by n
decreasing_by omega
theorem putU_small {n : Nat} (h : n < 128) : putU n = [n] := by rw [putU, dif_pos h]
theorem putU_big {n : Nat} (h : ¬ n < 128) : putU n = (n % 128 + 128) :: putU (n / 128) := by rw [putU, dif_neg h]
theorem putU_len : ∀ (k n : Nat), n < 128 ^ (k + 1) → (putU n).length ≤ k + 1
  | 0, n, h => by rw [putU_small (by omega)]; simp
  | k + 1, n, h => by
    by_cases hn : n < 128
    · rw [putU_small hn]; simp
    · rw [putU_big hn]
      have := putU_len k (n / 128) (by rw [Nat.pow_succ] at h; omega)
      simp
      omega
theorem putU_len10 {n : Nat} (h : n < 18446744073709551616) : (putU n).length ≤ 10 := putU_len 9 n (by rw [show (128 : Nat) ^ (9 + 1) = 1180591620717411303424 by decide]; omega)
theorem putU_pos (n : Nat) : 0 < (putU n).length := by
  by_cases hn : n < 128
  · rw [putU_small hn]; simp
  · rw [putU_big hn]; simp
theorem putU_byte : ∀ (n : Nat), ∀ x ∈ putU n, x < 256 := by
  intro n
  induction n using Nat.strongRecOn with
  | _ n ih =>
    intro x hx
    by_cases hn : n < 128
    · rw [putU_small hn] at hx
      simp at hx
      omega
    · rw [putU_big hn] at hx
      rcases List.mem_cons.1 hx with rfl | hx
      · omega
      · exact ih (n / 128) (by omega) x hx

/-- The number that bytes begin with (i of its bytes were read before): value, bytes, error. -/
def uD : Nat → List Nat → Nat × Nat × Int
  | _, [] => (0, 0, 2)
  | i, c :: r => if (i = 9 ∧ 1 < c) ∨ (0 < i ∧ c = 0) then (0, 0, 3) else if c < 128 then (c, 1, 0) else
      if (uD (i + 1) r).2.2 = 0 then (c % 128 + 128 * (uD (i + 1) r).1, (uD (i + 1) r).2.1 + 1, 0) else (0, 0, (uD (i + 1) r).2.2)
theorem uD_nil (i : Nat) : uD i [] = (0, 0, 2) := rfl
theorem uD_form {i c : Nat} (r : List Nat) (h : (i = 9 ∧ 1 < c) ∨ (0 < i ∧ c = 0)) : uD i (c :: r) = (0, 0, 3) := by rw [uD, if_pos h]
theorem uD_last {i c : Nat} (r : List Nat) (h : ¬ ((i = 9 ∧ 1 < c) ∨ (0 < i ∧ c = 0))) (hc : c < 128) : uD i (c :: r) = (c, 1, 0) := by rw [uD, if_neg h, if_pos hc]
theorem uD_more {i c : Nat} (r : List Nat) (h : ¬ ((i = 9 ∧ 1 < c) ∨ (0 < i ∧ c = 0))) (hc : ¬ c < 128) :
    uD i (c :: r) = if (uD (i + 1) r).2.2 = 0 then (c % 128 + 128 * (uD (i + 1) r).1, (uD (i + 1) r).2.1 + 1, 0) else (0, 0, (uD (i + 1) r).2.2) := by rw [uD, if_neg h, if_neg hc]
/-- Refused, or a number of its own. -/
theorem uD_cases : ∀ (l : List Nat) (i : Nat), i ≤ 9 → (∀ x ∈ l, x < 256) →
    ((uD i l).1 = 0 ∧ (uD i l).2.1 = 0 ∧ ((uD i l).2.2 = 2 ∨ (uD i l).2.2 = 3)) ∨
    ((uD i l).2.2 = 0 ∧ (uD i l).1 < 2 * 128 ^ (9 - i) ∧ (0 < i → 0 < (uD i l).1) ∧ 0 < (uD i l).2.1 ∧ (uD i l).2.1 ≤ l.length ∧ (uD i l).2.1 ≤ 10 - i ∧ putU (uD i l).1 = l.take (uD i l).2.1)
  | [], i, hi, _ => .inl ⟨rfl, rfl, .inl rfl⟩
  | c :: r, i, hi, hb => by
    by_cases h : (i = 9 ∧ 1 < c) ∨ (0 < i ∧ c = 0)
    · rw [uD_form r h]; exact .inl ⟨rfl, rfl, .inr rfl⟩
    · by_cases hc : c < 128
      · rw [uD_last r h hc]
        have hp : 1 ≤ 128 ^ (9 - i) := Nat.pow_pos (by omega)
        refine .inr ⟨rfl, ?_, fun h0 => ?_, by simp, by simp, by simp; omega, by simp [putU_small hc]⟩
        · dsimp only
          by_cases h9 : i = 9
          · subst h9; simp; omega
          · have : 128 ^ 1 ≤ 128 ^ (9 - i) := Nat.pow_le_pow_right (by omega) (by omega)
            omega
        · dsimp only
          omega
      · have h9 : i ≤ 8 := by omega
        have hcb := hb c (by simp)
        rw [uD_more r h hc]
        rcases uD_cases r (i + 1) (by omega) (fun x hx => hb x (by simp [hx])) with ⟨h1, h2, h3⟩ | ⟨h1, h2, h3, h4, h5, h6, h7⟩
        · rw [if_neg (by omega)]
          exact .inl ⟨rfl, rfl, h3⟩
        · rw [if_pos h1]
          have hpw : 128 ^ (9 - i) = 128 * 128 ^ (9 - (i + 1)) := by
            rw [show 9 - i = (9 - (i + 1)) + 1 by omega, Nat.pow_succ, Nat.mul_comm]
          have hv := h3 (by omega)
          refine .inr ⟨rfl, ?_, fun _ => ?_, by simp, by simp; omega, by simp; omega, ?_⟩
          · dsimp only
            rw [hpw]
            generalize 128 ^ (9 - (i + 1)) = p at *
            omega
          · dsimp only
            omega
          · dsimp only
            rw [putU_big (by omega)]
            have e1 : (c % 128 + 128 * (uD (i + 1) r).1) % 128 + 128 = c := by omega
            have e2 : (c % 128 + 128 * (uD (i + 1) r).1) / 128 = (uD (i + 1) r).1 := by omega
            rw [e1, e2, h7, List.take_succ_cons]
theorem uD_lt {l : List Nat} (hb : ∀ x ∈ l, x < 256) : (uD 0 l).1 < 18446744073709551616 ∧ (uD 0 l).2.1 ≤ l.length ∧ (uD 0 l).2.1 ≤ 10 := by
  rcases uD_cases l 0 (by omega) hb with ⟨h1, h2, h3⟩ | ⟨h1, h2, h3, h4, h5, h6, h7⟩
  · omega
  · simp at h2 h6
    omega
/-! The walks' own forms. -/
/-- What is read after i bytes with the value n, put together. -/
def fin (i n : Nat) (r : Nat × Nat × Int) : Nat × Nat × Int := if r.2.2 = 0 then (n + 128 ^ i * r.1, i + r.2.1, 0) else (0, 0, r.2.2)
theorem fin_zero {l : List Nat} (hb : ∀ x ∈ l, x < 256) : fin 0 0 (uD 0 l) = uD 0 l := by
  unfold fin
  rcases uD_cases l 0 (by omega) hb with ⟨h1, h2, h3⟩ | ⟨h1, h2, h3, h4, h5, h6, h7⟩
  · rw [if_neg (by omega)]
    exact Prod.ext h1.symm (Prod.ext h2.symm rfl)
  · rw [if_pos h1]
    exact Prod.ext (by simp) (Prod.ext (by simp) h1.symm)
theorem fin_more {i n c : Nat} (r : List Nat) (h : ¬ ((i = 9 ∧ 1 < c) ∨ (0 < i ∧ c = 0))) (hc : ¬ c < 128) : fin i n (uD i (c :: r)) = fin (i + 1) (n + c % 128 * 128 ^ i) (uD (i + 1) r) := by
  rw [uD_more r h hc]
  unfold fin
  split
  · simp only [if_true]
    refine Prod.ext ?_ (Prod.ext ?_ rfl)
    · dsimp only
      rw [Nat.pow_succ, Nat.mul_add, Nat.mul_comm (128 ^ i) (c % 128), Nat.mul_assoc]
      omega
    · dsimp only
      omega
  · rfl
/-- The value of groups, the lowest first. -/
def val : List Nat → Nat
  | [] => 0
  | c :: r => c % 128 + 128 * val r
theorem val_drop_le : ∀ (l : List Nat) (i : Nat), val (l.drop i) ≤ val l
  | l, 0 => by simp
  | [], i + 1 => by simp
  | c :: r, i + 1 => by
    have := val_drop_le r i
    simp only [List.drop_succ_cons, val]
    omega
theorem uD_lead : ∀ (k i : Nat) (l : List Nat), k ≤ l.length → (∀ j, j < k → 128 ≤ l.getD j 0) → i + k ≤ 9 → fin i 0 (uD i l) = fin (i + k) (128 ^ i * val (l.take k)) (uD (i + k) (l.drop k))
  | 0, i, l, _, _, _ => by simp [val]
  | k + 1, i, [], h, _, _ => by simp at h
  | k + 1, i, c :: r, h, hl, hi => by
    have hc : 128 ≤ c := by simpa using hl 0 (by omega)
    have key : ∀ (n : Nat) (k i : Nat) (l : List Nat), k ≤ l.length → (∀ j, j < k → 128 ≤ l.getD j 0) → i + k ≤ 9 → fin i n (uD i l) = fin (i + k) (n + 128 ^ i * val (l.take k)) (uD (i + k) (l.drop k)) := by
      intro n k
      induction k generalizing n with
      | zero => intro i l _ _ _; simp [val]
      | succ k ih =>
        intro i l h hl hi
        cases l with
        | nil => simp at h
        | cons c r =>
          have hc : 128 ≤ c := by simpa using hl 0 (by omega)
          rw [fin_more r (by omega) (by omega), ih _ (i + 1) r (by simpa using h) (fun j hj => by simpa using hl (j + 1) (by omega)) (by omega)]
          rw [List.take_succ_cons, List.drop_succ_cons, val]
          rw [show i + 1 + k = i + (k + 1) by omega]
          congr 1
          rw [Nat.pow_succ, Nat.mul_add, Nat.mul_comm (128 ^ i) (c % 128), Nat.mul_assoc]
          omega
    have := key 0 (k + 1) i (c :: r) h hl hi
    rw [Nat.zero_add] at this
    exact this
theorem getD_cons_drop {l : List Nat} {k : Nat} (h : k < l.length) : l.drop k = l.getD k 0 :: l.drop (k + 1) := by
  rw [List.drop_eq_getElem_cons h, List.getD_eq_getElem?_getD, List.getElem?_eq_getElem h]
  rfl
theorem val_snoc : ∀ (l : List Nat) (c : Nat), val (l ++ [c]) = val l + 128 ^ l.length * (c % 128)
  | [], c => by simp [val]
  | x :: l, c => by
    rw [List.cons_append, val, val, val_snoc l c, List.length_cons, Nat.pow_succ, Nat.mul_add, ← Nat.mul_assoc, Nat.mul_comm 128 (128 ^ l.length)]
    omega
section
variable {l : List Nat} {k : Nat}
/-- The reference's cases, by the number of leading bytes with the mark. -/
theorem uD_trunc (hb : ∀ x ∈ l, x < 256) (hl : ∀ j, j < k → 128 ≤ l.getD j 0) (hk : k = l.length) (h : k < 10) : uD 0 l = (0, 0, 2) := by
  rw [← fin_zero hb, uD_lead k 0 l (by omega) hl (by omega), List.drop_of_length_le (by omega), uD_nil]
  rfl
theorem uD_bad10 (hb : ∀ x ∈ l, x < 256) (hl : ∀ j, j < k → 128 ≤ l.getD j 0) (hk : k ≤ l.length) (h : k = 10) : uD 0 l = (0, 0, 3) := by
  rw [← fin_zero hb, uD_lead 9 0 l (by omega) (fun j hj => hl j (by omega)) (by omega), getD_cons_drop (by omega), uD_form _ (.inl ⟨rfl, by have := hl 9 (by omega); omega⟩)]
  rfl
theorem uD_bad (hb : ∀ x ∈ l, x < 256) (hl : ∀ j, j < k → 128 ≤ l.getD j 0) (hk : k < l.length) (h : k ≤ 9) (hc : (k = 9 ∧ 1 < l.getD k 0) ∨ (0 < k ∧ l.getD k 0 = 0)) : uD 0 l = (0, 0, 3) := by
  rw [← fin_zero hb, uD_lead k 0 l (by omega) hl (by omega), getD_cons_drop hk, uD_form _ (by rw [Nat.zero_add]; exact hc)]
  rfl
theorem uD_good (hb : ∀ x ∈ l, x < 256) (hl : ∀ j, j < k → 128 ≤ l.getD j 0) (hk : k < l.length) (h : k ≤ 9) (hc : ¬ ((k = 9 ∧ 1 < l.getD k 0) ∨ (0 < k ∧ l.getD k 0 = 0))) (hs : l.getD k 0 < 128) : uD 0 l = (val (l.take (k + 1)), k + 1, 0) := by
  rw [← fin_zero hb, uD_lead k 0 l (by omega) hl (by omega), getD_cons_drop hk, uD_last _ (by rw [Nat.zero_add]; exact hc) hs]
  unfold fin
  simp only [if_true]
  refine Prod.ext ?_ (Prod.ext (by dsimp only; omega) rfl)
  dsimp only
  have e : l.take (k + 1) = l.take k ++ [l.getD k 0] := by
    rw [List.take_succ_eq_append_getElem hk, List.getD_eq_getElem?_getD, List.getElem?_eq_getElem hk]
    rfl
  rw [e, val_snoc, List.length_take, Nat.min_eq_left (by omega), Nat.mod_eq_of_lt hs]
  simp
end

/-! Bits. -/
theorem and127 {c : Nat} (h : c < 256) : bits .and .u8 (c : Int) 127 = ((c % 128 : Nat) : Int) := by
  have := bits_mask .u8 8 (by decide) wraps_u8 7 (by decide) (c : Int) (by omega) (by omega)
  rw [show ((2 : Int) ^ 7 - 1) = 127 by decide, show ((2 : Int) ^ 7) = 128 by decide] at this
  rw [this]
  omega
theorem or_high {n c i : Nat} (hn : n < 128 ^ i) (hc : c < 128) (h9 : i ≤ 9) (h1 : i = 9 → c ≤ 1) :
    IntKind.u64.wrap ((c : Int) * 2 ^ (7 * i)) = ((c * 128 ^ i : Nat) : Int) ∧ bits .or .u64 (n : Int) ((c * 128 ^ i : Nat) : Int) = ((n + c * 128 ^ i : Nat) : Int) ∧ n + c * 128 ^ i < 18446744073709551616 := by
  have e : (2 : Nat) ^ (7 * i) = 128 ^ i := by rw [Nat.pow_mul]
  have hle : c * 128 ^ i + 128 ^ i ≤ 18446744073709551616 := by
    by_cases h : i = 9
    · subst h
      have := h1 rfl
      have e9 : (128 : Nat) ^ 9 = 9223372036854775808 := by decide
      rw [e9]
      omega
    · have h8 : 128 ^ i ≤ 128 ^ 8 := Nat.pow_le_pow_right (by omega) (by omega)
      have : c * 128 ^ i ≤ 127 * 128 ^ 8 := Nat.mul_le_mul (by omega) h8
      have e8 : (128 : Nat) ^ 8 = 72057594037927936 := by decide
      rw [e8] at this h8
      omega
  have hp : 0 < 128 ^ i := Nat.pow_pos (by omega)
  refine ⟨?_, ?_, by omega⟩
  · have e2 : ((c : Int) * 2 ^ (7 * i)) = ((c * 128 ^ i : Nat) : Int) := by
      rw [← e]
      push_cast
      rfl
    rw [e2, IntKind.wrap_u64]
    omega
  · rw [bits_or_u64_nat _ _ (by omega) (by omega)]
    have h2 := Nat.two_pow_add_eq_or_of_lt (i := 7 * i) (b := n) (by rw [e]; exact hn) c
    rw [e, Nat.mul_comm] at h2
    rw [Nat.or_comm, ← h2, Nat.add_comm]
theorem byt_drop (l : List Nat) (k : Nat) : (byt l).drop (k * 1) = byt (l.drop k) := by rw [Nat.mul_one]; simp [byt]
theorem byt_take (l : List Nat) (k : Nat) : (byt l).take (k * 1) = byt (l.take k) := by rw [Nat.mul_one]; simp [byt]
theorem Sl.bdrop {w : World} {B n c : Nat} {A : Option Addr} {l : List Nat} (h : Sl w B 1 A n c (byt l)) {k : Nat} (hk : k ≤ n) : Sl w B 1 (sbase c k 1 A) (n - k) (c - k) (byt (l.drop k)) := by
  rw [← byt_drop]; exact h.drop hk
theorem Sl.btake {w : World} {B n c : Nat} {A : Option Addr} {l : List Nat} (h : Sl w B 1 A n c (byt l)) {k : Nat} (hk : k ≤ n) : Sl w B 1 A k c (byt (l.take k)) := by
  rw [← byt_take]; exact h.take hk
theorem u64_in {y : Nat} (h : y < 18446744073709551616) : IntKind.u64.wrap (y : Int) = (y : Int) := by rw [IntKind.wrap_u64]; omega
theorem getD_of {l : List Nat} {i x : Nat} (h : l[i]? = some x) : l.getD i 0 = x := by rw [List.getD_eq_getElem?_getD, h]; rfl
theorem some_at {l : List Nat} {i : Nat} (h : i < l.length) : ∃ x, l[i]? = some x := ⟨_, List.getElem?_eq_getElem h⟩
theorem drop_at {l : List Nat} {i x : Nat} (h : l[i]? = some x) : l.drop i = x :: l.drop (i + 1) := by
  obtain ⟨hi, hx⟩ := List.getElem?_eq_some_iff.1 h
  rw [List.drop_eq_getElem_cons hi, hx]

/-- The values of a number that was read. -/
def uV (r : Nat × Nat × Int) : Value := .tuple #[.int .u64 (r.1 : Int), .int .i64 (r.2.1 : Int), .int .i64 r.2.2]
theorem u8_of {y : Nat} (h : y < 128) : IntKind.u8.wrap (y : Int) = (y : Int) := by rw [IntKind.wrap_u8]; omega
end Go.Proofs.YtlbmnioibiomfaaGreat
/- Instructions: known, HasArg, Check, Encode, Decode, in both packages. -/
namespace Go.Proofs.YtlbmnioibiomfaaGreat
open Go.RowKit Go.Shelf
set_option linter.unusedVariables false
set_option linter.unusedSimpArgs false
set_option maxRecDepth 100000
structure Ins where
  op : Int
  arg : Nat
  deriving DecidableEq
def insc (i : Ins) : List Value := [.int .i64 i.op, .int .u64 (i.arg : Int)]
def insV (i : Ins) : Value := .agg #[.int .i64 i.op, .int .u64 (i.arg : Int)]
def iBox (b : Nat) (i : Ins) : Res := .blk b 39 [.int .i64 i.op, .int .u64 (i.arg : Int)]
theorem insc_len (i : Ins) : (insc i).length = 2 := rfl
theorem insc_ones (i : Ins) : ones (insc i) = true := rfl
abbrev knownP (op : Int) : Prop := 1 ≤ op ∧ op ≤ 25
abbrev argP (op : Int) : Prop := op = 1 ∨ op = 2 ∨ op = 3 ∨ op = 19 ∨ op = 20 ∨ op = 21 ∨ op = 23
namespace Ins
def err (i : Ins) : Int := if ¬ knownP i.op then 22 else if ¬ argP i.op ∧ ¬ i.arg = 0 then 1 else 0
theorem err_zero {i : Ins} (h : i.err = 0) : knownP i.op ∧ (¬ argP i.op → i.arg = 0) := by
  unfold err at h
  split at h
  · cases h
  split at h
  · cases h
  exact ⟨by omega, by omega⟩
end Ins
def encI (i : Ins) : List Nat := i.op.toNat :: (if argP i.op then putU i.arg else [])
def encIE (i : Ins) : List Nat := if i.err = 0 then encI i else []
/-- The instruction that bytes begin with: it, its bytes, the error. -/
def decI : List Nat → Ins × Nat × Int
  | [] => (⟨0, 0⟩, 0, 2)
  | c :: r => if ¬ knownP (c : Int) then (⟨0, 0⟩, 0, 22) else if ¬ argP (c : Int) then (⟨(c : Int), 0⟩, 1, 0) else
      if (uD 0 r).2.2 = 0 then (⟨(c : Int), (uD 0 r).1⟩, 1 + (uD 0 r).2.1, 0) else (⟨0, 0⟩, 0, (uD 0 r).2.2)
theorem decI_cons (c : Nat) (r : List Nat) : decI (c :: r) = if ¬ knownP (c : Int) then (⟨0, 0⟩, 0, 22) else if ¬ argP (c : Int) then (⟨(c : Int), 0⟩, 1, 0) else
      if (uD 0 r).2.2 = 0 then (⟨(c : Int), (uD 0 r).1⟩, 1 + (uD 0 r).2.1, 0) else (⟨0, 0⟩, 0, (uD 0 r).2.2) := rfl
theorem nd_true {p : Prop} [Decidable p] (h : (!decide p) = true) : ¬ p := by simpa using h
theorem nd_false {p : Prop} [Decidable p] (h : (!decide p) = false) : ¬ ¬ p := by simpa using h
section
variable {W w : World} {L : List Res} {n c : Nat} {A : Option Addr} {is : List Ins}
theorem Sl.ins {b off k : Nat} {x : Ins} (h : Sl W W.heap.size 2 (some ⟨b, off, none⟩) n c (cl insc is)) (hx : is[k]? = some x) : LD Tryz.prog [] W L 39 ⟨b, off + k * 2, none⟩ (.agg #[.int .i64 x.op, .int .u64 (x.arg : Int)]) :=
  h.ld (vs := insc x) (by
    have := cl_row insc_len (by omega) h.len
    have := (List.getElem?_eq_some_iff.1 hx).1
    omega) (by kernel_rfl) (cl_at insc_len hx)
end
set_option maxRecDepth 100000 in
theorem sIns1 : type_of% (And.intro (And.intro @iBox.eq_1 @insV.eq_1) (And.intro @uV.eq_1 @Nat.mul_one)) := (And.intro (And.intro @iBox.eq_1 @insV.eq_1) (And.intro @uV.eq_1 @Nat.mul_one))
theorem i_known_any (op : Int) (W : World) : Calls Tryz.prog 58 #[.int .i64 op] W fun e w' => e = .returned (.bool (decide (knownP op))) ∧ Below W.heap.size W w' := by
  refine calls_cv (M := []) (n := 9) [.tmp 2] rfl Tryz.func58 rfl rfl (Nat.le_of_ble_eq_true rfl) (St.nil _ _) ?_
  refine cv_seq_k fun K hK => ?_
  refine cv_region_then rfl ?_
  simp -implicitDefEqProofs (disch := first | omega | decide) only [seval, -Int.reducePow, -Nat.reducePow, cC, pv, binv, sIns1, undef]
  refine hK _ _ ?_
  clear hK K
  refine cv_gen fun G1 hG => ?_
  have g1_0 := congrFun hG 0
  clear hG
  try simp -implicitDefEqProofs (disch := first | omega | decide) only [seval, -Int.reducePow, -Nat.reducePow, cC, pv, binv, sIns1, undef] at g1_0
  have g1 := g1_0
  refine cv_seq_k fun K hK => ?_
  refine cv_cut (fun _ _ => True) (fun F' L' => F' 2 = .bool (decide (knownP op)) ∧ L' = []) ?_ ?_
  · refine cv_region_then rfl ?_
    simp -implicitDefEqProofs (disch := first | omega | decide) only [seval, -Int.reducePow, -Nat.reducePow, cC, pv, binv, sIns1, undef, g1]
    repeat' ((first | refine vcg_cases (fun hg => ?_) (fun hg => ?_) | refine vdg_cases (fun hg => ?_) (fun hg => ?_)) <;> ((try simp only [Bool.not_eq_true', Bool.not_eq_false', decide_eq_true_eq, decide_eq_false_iff_not] at hg); (try simp -implicitDefEqProofs (disch := first | omega | decide) only [seval, -Int.reducePow, -Nat.reducePow, cC, pv, binv, sIns1, undef, hg, g1])))
    all_goals (repeat' refine And.intro ?_ ?_)
    all_goals (first | with_reducible rfl | (refine congrArg Value.bool ?_; rw [Bool.eq_iff_iff]; (try simp only [knownP, decide_eq_true_eq, eq_self, true_and, and_true, false_and, and_false, true_or, or_true, false_or, or_false, not_true_eq_false, not_false_eq_true, true_iff, iff_true, false_iff, iff_false, Bool.false_eq_true, Bool.not_eq_true', Bool.not_eq_true, decide_eq_false_iff_not, Bool.and_eq_true, Bool.or_eq_true]) <;> omega) | (refine congrArg (Value.int _) ?_; omega) | omega)
  intro G2 L' _ hF
  obtain ⟨q2, rfl⟩ := hF
  have g2_2 := q2
  clear q2
  have g2 := g2_2
  refine hK _ _ ?_
  clear hK K
  refine cv_ret ⟨_, (by simp -implicitDefEqProofs (disch := first | omega | decide) only [seval, -Int.reducePow, -Nat.reducePow, cC, pv, binv, sIns1, undef, g2]; rfl), fun w hw => ?_⟩
  exact ⟨rfl, hw.below⟩
theorem i_hasArg_any (op : Int) (W : World) : Calls Tryz.prog 59 #[.int .i64 op] W fun e w' => e = .returned (.bool (decide (argP op))) ∧ Below W.heap.size W w' := by
  refine calls_cv (M := []) (n := 12) [.tmp 2] rfl Tryz.func59 rfl rfl (Nat.le_of_ble_eq_true rfl) (St.nil _ _) ?_
  refine cv_seq_k fun K hK => ?_
  refine cv_region_then rfl ?_
  simp -implicitDefEqProofs (disch := first | omega | decide) only [seval, -Int.reducePow, -Nat.reducePow, cC, pv, binv, sIns1, undef]
  refine hK _ _ ?_
  clear hK K
  refine cv_seq_k fun K hK => ?_
  refine cv_seq_k fun K hK => ?_
  refine cv_region_then rfl ?_
  simp -implicitDefEqProofs (disch := first | omega | decide) only [seval, -Int.reducePow, -Nat.reducePow, cC, pv, binv, sIns1, undef]
  refine hK _ _ ?_
  clear hK K
  refine cv_gen fun G3 hG => ?_
  have g3_3 := congrFun hG 3
  clear hG
  try simp -implicitDefEqProofs (disch := first | omega | decide) only [seval, -Int.reducePow, -Nat.reducePow, cC, pv, binv, sIns1, undef] at g3_3
  have g3 := g3_3
  refine cv_block ?_
  refine cv_seq_k fun K hK => ?_
  refine cv_cut (fun _ _ => True) (fun F' L' => F' 3 = G3 3 ∧ F' 4 = .bool (decide (op = 1 ∨ op = 2 ∨ op = 3 ∨ op = 19 ∨ op = 20 ∨ op = 21 ∨ op = 23)) ∧ L' = []) ?_ ?_
  · refine cv_seq_k fun K hK => ?_
    refine cv_region_then rfl ?_
    simp -implicitDefEqProofs (disch := first | omega | decide) only [seval, -Int.reducePow, -Nat.reducePow, cC, pv, binv, sIns1, undef, g3]
    refine hK _ _ ?_
    clear hK K
    refine cv_cond ?_
    simp -implicitDefEqProofs (disch := first | omega | decide) only [seval, -Int.reducePow, -Nat.reducePow, cC, pv, binv, sIns1, undef, g3]
    refine ⟨fun hc => ?_, fun hc => ?_⟩
    · have q0 := of_decide_eq_true ‹_›
      refine cv_skip ?_
      try simp only [blockQ, thenQ]
      simp -implicitDefEqProofs (disch := first | omega | decide) only [seval, -Int.reducePow, -Nat.reducePow, cC, pv, binv, sIns1, undef, g3]
      all_goals (repeat' refine And.intro ?_ ?_)
      all_goals (first | with_reducible rfl | (refine congrArg Value.bool ?_; rw [Bool.eq_iff_iff]; (try simp only [decide_eq_true_eq, eq_self, true_and, and_true, false_and, and_false, true_or, or_true, false_or, or_false, not_true_eq_false, not_false_eq_true, true_iff, iff_true, false_iff, iff_false, Bool.false_eq_true, Bool.not_eq_true', Bool.not_eq_true, decide_eq_false_iff_not, Bool.and_eq_true, Bool.or_eq_true]) <;> omega) | (refine congrArg (Value.int _) ?_; omega) | omega)
    have q0 := of_decide_eq_false ‹_›
    refine cv_seq_k fun K hK => ?_
    refine cv_region_then rfl ?_
    simp -implicitDefEqProofs (disch := first | omega | decide) only [seval, -Int.reducePow, -Nat.reducePow, cC, pv, binv, sIns1, undef, g3]
    refine hK _ _ ?_
    clear hK K
    refine cv_cond ?_
    simp -implicitDefEqProofs (disch := first | omega | decide) only [seval, -Int.reducePow, -Nat.reducePow, cC, pv, binv, sIns1, undef, g3]
    refine ⟨fun hc => ?_, fun hc => ?_⟩
    · have q1 := of_decide_eq_true ‹_›
      refine cv_skip ?_
      try simp only [blockQ, thenQ]
      simp -implicitDefEqProofs (disch := first | omega | decide) only [seval, -Int.reducePow, -Nat.reducePow, cC, pv, binv, sIns1, undef, g3]
      all_goals (repeat' refine And.intro ?_ ?_)
      all_goals (first | with_reducible rfl | (refine congrArg Value.bool ?_; rw [Bool.eq_iff_iff]; (try simp only [decide_eq_true_eq, eq_self, true_and, and_true, false_and, and_false, true_or, or_true, false_or, or_false, not_true_eq_false, not_false_eq_true, true_iff, iff_true, false_iff, iff_false, Bool.false_eq_true, Bool.not_eq_true', Bool.not_eq_true, decide_eq_false_iff_not, Bool.and_eq_true, Bool.or_eq_true]) <;> omega) | (refine congrArg (Value.int _) ?_; omega) | omega)
    have q1 := of_decide_eq_false ‹_›
    refine cv_seq_k fun K hK => ?_
    refine cv_region_then rfl ?_
    simp -implicitDefEqProofs (disch := first | omega | decide) only [seval, -Int.reducePow, -Nat.reducePow, cC, pv, binv, sIns1, undef, g3]
    refine hK _ _ ?_
    clear hK K
    refine cv_cond ?_
    simp -implicitDefEqProofs (disch := first | omega | decide) only [seval, -Int.reducePow, -Nat.reducePow, cC, pv, binv, sIns1, undef, g3]
    refine ⟨fun hc => ?_, fun hc => ?_⟩
    · have q2 := of_decide_eq_true ‹_›
      refine cv_skip ?_
      try simp only [blockQ, thenQ]
      simp -implicitDefEqProofs (disch := first | omega | decide) only [seval, -Int.reducePow, -Nat.reducePow, cC, pv, binv, sIns1, undef, g3]
      all_goals (repeat' refine And.intro ?_ ?_)
      all_goals (first | with_reducible rfl | (refine congrArg Value.bool ?_; rw [Bool.eq_iff_iff]; (try simp only [decide_eq_true_eq, eq_self, true_and, and_true, false_and, and_false, true_or, or_true, false_or, or_false, not_true_eq_false, not_false_eq_true, true_iff, iff_true, false_iff, iff_false, Bool.false_eq_true, Bool.not_eq_true', Bool.not_eq_true, decide_eq_false_iff_not, Bool.and_eq_true, Bool.or_eq_true]) <;> omega) | (refine congrArg (Value.int _) ?_; omega) | omega)
    have q2 := of_decide_eq_false ‹_›
    refine cv_seq_k fun K hK => ?_
    refine cv_region_then rfl ?_
    simp -implicitDefEqProofs (disch := first | omega | decide) only [seval, -Int.reducePow, -Nat.reducePow, cC, pv, binv, sIns1, undef, g3]
    refine hK _ _ ?_
    clear hK K
    refine cv_cond ?_
    simp -implicitDefEqProofs (disch := first | omega | decide) only [seval, -Int.reducePow, -Nat.reducePow, cC, pv, binv, sIns1, undef, g3]
    refine ⟨fun hc => ?_, fun hc => ?_⟩
    · have q3 := of_decide_eq_true ‹_›
      refine cv_skip ?_
      try simp only [blockQ, thenQ]
      simp -implicitDefEqProofs (disch := first | omega | decide) only [seval, -Int.reducePow, -Nat.reducePow, cC, pv, binv, sIns1, undef, g3]
      all_goals (repeat' refine And.intro ?_ ?_)
      all_goals (first | with_reducible rfl | (refine congrArg Value.bool ?_; rw [Bool.eq_iff_iff]; (try simp only [decide_eq_true_eq, eq_self, true_and, and_true, false_and, and_false, true_or, or_true, false_or, or_false, not_true_eq_false, not_false_eq_true, true_iff, iff_true, false_iff, iff_false, Bool.false_eq_true, Bool.not_eq_true', Bool.not_eq_true, decide_eq_false_iff_not, Bool.and_eq_true, Bool.or_eq_true]) <;> omega) | (refine congrArg (Value.int _) ?_; omega) | omega)
    have q3 := of_decide_eq_false ‹_›
    refine cv_seq_k fun K hK => ?_
    refine cv_region_then rfl ?_
    simp -implicitDefEqProofs (disch := first | omega | decide) only [seval, -Int.reducePow, -Nat.reducePow, cC, pv, binv, sIns1, undef, g3]
    refine hK _ _ ?_
    clear hK K
    refine cv_cond ?_
    simp -implicitDefEqProofs (disch := first | omega | decide) only [seval, -Int.reducePow, -Nat.reducePow, cC, pv, binv, sIns1, undef, g3]
    refine ⟨fun hc => ?_, fun hc => ?_⟩
    · have q4 := of_decide_eq_true ‹_›
      refine cv_skip ?_
      try simp only [blockQ, thenQ]
      simp -implicitDefEqProofs (disch := first | omega | decide) only [seval, -Int.reducePow, -Nat.reducePow, cC, pv, binv, sIns1, undef, g3]
      all_goals (repeat' refine And.intro ?_ ?_)
      all_goals (first | with_reducible rfl | (refine congrArg Value.bool ?_; rw [Bool.eq_iff_iff]; (try simp only [decide_eq_true_eq, eq_self, true_and, and_true, false_and, and_false, true_or, or_true, false_or, or_false, not_true_eq_false, not_false_eq_true, true_iff, iff_true, false_iff, iff_false, Bool.false_eq_true, Bool.not_eq_true', Bool.not_eq_true, decide_eq_false_iff_not, Bool.and_eq_true, Bool.or_eq_true]) <;> omega) | (refine congrArg (Value.int _) ?_; omega) | omega)
    have q4 := of_decide_eq_false ‹_›
    refine cv_seq_k fun K hK => ?_
    refine cv_region_then rfl ?_
    simp -implicitDefEqProofs (disch := first | omega | decide) only [seval, -Int.reducePow, -Nat.reducePow, cC, pv, binv, sIns1, undef, g3]
    refine hK _ _ ?_
    clear hK K
    refine cv_cond ?_
    simp -implicitDefEqProofs (disch := first | omega | decide) only [seval, -Int.reducePow, -Nat.reducePow, cC, pv, binv, sIns1, undef, g3]
    refine ⟨fun hc => ?_, fun hc => ?_⟩
    · have q5 := of_decide_eq_true ‹_›
      refine cv_skip ?_
      try simp only [blockQ, thenQ]
      simp -implicitDefEqProofs (disch := first | omega | decide) only [seval, -Int.reducePow, -Nat.reducePow, cC, pv, binv, sIns1, undef, g3]
      all_goals (repeat' refine And.intro ?_ ?_)
      all_goals (first | with_reducible rfl | (refine congrArg Value.bool ?_; rw [Bool.eq_iff_iff]; (try simp only [decide_eq_true_eq, eq_self, true_and, and_true, false_and, and_false, true_or, or_true, false_or, or_false, not_true_eq_false, not_false_eq_true, true_iff, iff_true, false_iff, iff_false, Bool.false_eq_true, Bool.not_eq_true', Bool.not_eq_true, decide_eq_false_iff_not, Bool.and_eq_true, Bool.or_eq_true]) <;> omega) | (refine congrArg (Value.int _) ?_; omega) | omega)
    have q5 := of_decide_eq_false ‹_›
    refine cv_region_q rfl ?_
    simp -implicitDefEqProofs (disch := first | omega | decide) only [seval, -Int.reducePow, -Nat.reducePow, cC, pv, binv, sIns1, undef, g3]
    all_goals (repeat' refine And.intro ?_ ?_)
    all_goals (first | with_reducible rfl | (refine congrArg Value.bool ?_; rw [Bool.eq_iff_iff]; (try simp only [decide_eq_true_eq, eq_self, true_and, and_true, false_and, and_false, true_or, or_true, false_or, or_false, not_true_eq_false, not_false_eq_true, true_iff, iff_true, false_iff, iff_false, Bool.false_eq_true, Bool.not_eq_true', Bool.not_eq_true, decide_eq_false_iff_not, Bool.and_eq_true, Bool.or_eq_true]) <;> omega) | (refine congrArg (Value.int _) ?_; omega) | omega)
  intro G4 L' _ hF
  obtain ⟨q3, q4, rfl⟩ := hF
  have g4_3 := q3.trans g3_3
  have g4_4 := q4
  clear q3 q4
  have g4 := And.intro g4_3 g4_4
  refine hK _ _ ?_
  clear hK K
  refine cv_cond ?_
  simp -implicitDefEqProofs (disch := first | omega | decide) only [seval, -Int.reducePow, -Nat.reducePow, cC, pv, binv, sIns1, undef, g4]
  refine ⟨fun hc => ?_, fun hc => ?_⟩
  · have h := of_decide_eq_true hc
    refine cv_seq_k fun K hK => ?_
    refine cv_region_then rfl ?_
    simp -implicitDefEqProofs (disch := first | omega | decide) only [seval, -Int.reducePow, -Nat.reducePow, cC, pv, binv, sIns1, undef, g4]
    refine hK _ _ ?_
    clear hK K
    refine cv_ret ⟨_, (by simp -implicitDefEqProofs (disch := first | omega | decide) only [seval, -Int.reducePow, -Nat.reducePow, cC, pv, binv, sIns1, undef, g4]; rfl), fun w hw => ?_⟩
    exact ⟨by rw [decide_eq_true h], hw.below⟩
  have h := of_decide_eq_false hc
  refine cv_skip ?_
  try simp only [blockQ, thenQ]
  refine hK _ _ ?_
  clear hK K
  refine cv_seq_k fun K hK => ?_
  refine cv_region_then rfl ?_
  simp -implicitDefEqProofs (disch := first | omega | decide) only [seval, -Int.reducePow, -Nat.reducePow, cC, pv, binv, sIns1, undef, g4]
  refine hK _ _ ?_
  clear hK K
  refine cv_ret ⟨_, (by simp -implicitDefEqProofs (disch := first | omega | decide) only [seval, -Int.reducePow, -Nat.reducePow, cC, pv, binv, sIns1, undef, g4]; rfl), fun w hw => ?_⟩
  exact ⟨by rw [decide_eq_false h], hw.below⟩
theorem i_icheck_any (i : Ins) (W : World) : Calls Tryz.prog 38 #[insV i] W fun e w' => e = .returned (.int .i64 i.err) ∧ Below W.heap.size W w' := by
  refine calls_cv (M := []) (n := 16) [.tmp 2] rfl Tryz.func38 rfl rfl (Nat.le_of_ble_eq_true rfl) (St.nil _ _) ?_
  refine cv_seq_k fun K hK => ?_
  refine cv_region_then rfl ?_
  simp -implicitDefEqProofs (disch := first | omega | decide) only [seval, -Int.reducePow, -Nat.reducePow, cC, pv, binv, sIns1, undef]
  intro b hb
  refine hK _ _ ?_
  clear hK K
  refine cv_gen fun G5 hG => ?_
  have g5_1 := congrFun hG 1
  clear hG
  try simp -implicitDefEqProofs (disch := first | omega | decide) only [seval, -Int.reducePow, -Nat.reducePow, cC, pv, binv, sIns1, undef] at g5_1
  have g5 := g5_1
  refine cv_seq_k fun K hK => ?_
  refine cv_seq_k fun K hK => ?_
  refine cv_region_then rfl ?_
  simp -implicitDefEqProofs (disch := first | omega | decide) only [seval, -Int.reducePow, -Nat.reducePow, cC, pv, binv, sIns1, undef, g5]
  refine callV_ret (fun w hw => i_known_any i.op w) ?_
  try simp -implicitDefEqProofs (disch := first | omega | decide) only [seval, -Int.reducePow, -Nat.reducePow, cC, pv, binv, sIns1, undef, g5]
  refine hK _ _ ?_
  clear hK K
  refine cv_cond ?_
  simp -implicitDefEqProofs (disch := first | omega | decide) only [seval, -Int.reducePow, -Nat.reducePow, cC, pv, binv, sIns1, undef, g5]
  refine ⟨fun hc => ?_, fun hc => ?_⟩
  · have h : ¬ knownP i.op := nd_true hc
    refine cv_seq_k fun K hK => ?_
    refine cv_region_then rfl ?_
    simp -implicitDefEqProofs (disch := first | omega | decide) only [seval, -Int.reducePow, -Nat.reducePow, cC, pv, binv, sIns1, undef, g5]
    refine hK _ _ ?_
    clear hK K
    refine cv_ret ⟨_, (by simp -implicitDefEqProofs (disch := first | omega | decide) only [seval, -Int.reducePow, -Nat.reducePow, cC, pv, binv, sIns1, undef, g5]; rfl), fun w hw => ?_⟩
    exact ⟨by unfold Ins.err; rw [if_pos h], hw.below⟩
  have h : ¬ ¬ knownP i.op := nd_false hc
  refine cv_skip ?_
  try simp only [blockQ, thenQ]
  refine hK _ _ ?_
  clear hK K
  refine cv_seq_k fun K hK => ?_
  refine cv_seq_k fun K hK => ?_
  by_cases ha : argP i.op
  · have ha' : decide (argP i.op) = true := decide_eq_true ha
    refine cv_region_then rfl ?_
    simp -implicitDefEqProofs (disch := first | omega | decide) only [seval, -Int.reducePow, -Nat.reducePow, cC, pv, binv, sIns1, undef, g5]
    refine callV_ret (fun w hw => i_hasArg_any i.op w) ?_
    try simp -implicitDefEqProofs (disch := first | omega | decide) only [seval, -Int.reducePow, -Nat.reducePow, cC, pv, binv, sIns1, undef, ha', g5]
    refine hK _ _ ?_
    clear hK K
    refine cv_cond ?_
    simp -implicitDefEqProofs (disch := first | omega | decide) only [seval, -Int.reducePow, -Nat.reducePow, cC, pv, binv, sIns1, undef, g5]
    refine cv_skip ?_
    try simp only [blockQ, thenQ]
    refine hK _ _ ?_
    clear hK K
    refine cv_seq_k fun K hK => ?_
    refine cv_region_then rfl ?_
    simp -implicitDefEqProofs (disch := first | omega | decide) only [seval, -Int.reducePow, -Nat.reducePow, cC, pv, binv, sIns1, undef, g5]
    refine hK _ _ ?_
    clear hK K
    refine cv_ret ⟨_, (by simp -implicitDefEqProofs (disch := first | omega | decide) only [seval, -Int.reducePow, -Nat.reducePow, cC, pv, binv, sIns1, undef, g5]; rfl), fun w hw => ?_⟩
    exact ⟨by unfold Ins.err; rw [if_neg h, if_neg (by rintro ⟨h1, -⟩; exact h1 ha)], hw.below⟩
  · have ha' : decide (argP i.op) = false := decide_eq_false ha
    refine cv_region_then rfl ?_
    simp -implicitDefEqProofs (disch := first | omega | decide) only [seval, -Int.reducePow, -Nat.reducePow, cC, pv, binv, sIns1, undef, g5]
    refine callV_ret (fun w hw => i_hasArg_any i.op w) ?_
    try simp -implicitDefEqProofs (disch := first | omega | decide) only [seval, -Int.reducePow, -Nat.reducePow, cC, pv, binv, sIns1, undef, ha', g5]
    refine hK _ _ ?_
    clear hK K
    refine cv_cond ?_
    simp -implicitDefEqProofs (disch := first | omega | decide) only [seval, -Int.reducePow, -Nat.reducePow, cC, pv, binv, sIns1, undef, g5]
    refine ⟨fun hc => ?_, fun hc => ?_⟩
    · have hz : ¬ i.arg = 0 := by simp at hc; omega
      refine cv_seq_k fun K hK => ?_
      refine cv_region_then rfl ?_
      simp -implicitDefEqProofs (disch := first | omega | decide) only [seval, -Int.reducePow, -Nat.reducePow, cC, pv, binv, sIns1, undef, g5]
      refine hK _ _ ?_
      clear hK K
      refine cv_ret ⟨_, (by simp -implicitDefEqProofs (disch := first | omega | decide) only [seval, -Int.reducePow, -Nat.reducePow, cC, pv, binv, sIns1, undef, g5]; rfl), fun w hw => ?_⟩
      exact ⟨by unfold Ins.err; rw [if_neg h, if_pos ⟨ha, hz⟩], hw.below⟩
    have hz : i.arg = 0 := by simp at hc; omega
    refine cv_skip ?_
    try simp only [blockQ, thenQ]
    refine hK _ _ ?_
    clear hK K
    refine cv_seq_k fun K hK => ?_
    refine cv_region_then rfl ?_
    simp -implicitDefEqProofs (disch := first | omega | decide) only [seval, -Int.reducePow, -Nat.reducePow, cC, pv, binv, sIns1, undef, g5]
    refine hK _ _ ?_
    clear hK K
    refine cv_ret ⟨_, (by simp -implicitDefEqProofs (disch := first | omega | decide) only [seval, -Int.reducePow, -Nat.reducePow, cC, pv, binv, sIns1, undef, g5]; rfl), fun w hw => ?_⟩
    exact ⟨by unfold Ins.err; rw [if_neg h, if_neg (by rintro ⟨-, h1⟩; exact h1 hz)], hw.below⟩
end Go.Proofs.YtlbmnioibiomfaaGreat
/- Layouts: plain. -/
namespace Go.Proofs.YtlbmnioibiomfaaGreat
open Go.RowKit Go.Shelf
set_option linter.unusedVariables false
set_option linter.unusedSimpArgs false

structure Fd where
  kind : Int
  count : Int
  deriving DecidableEq
def fdc (f : Fd) : List Value := [.int .i64 f.kind, .int .i64 f.count]
def fdV (f : Fd) : Value := .agg #[.int .i64 f.kind, .int .i64 f.count]
theorem fdc_len (f : Fd) : (fdc f).length = 2 := rfl
namespace Fd
def wid (f : Fd) : Int := if f.kind = 1 then 1 else if f.kind = 2 then 2 else if f.kind = 3 then 4 else if f.kind = 6 then f.count else 8
def ali (f : Fd) : Int := if f.kind = 6 then 1 else f.wid
def err (f : Fd) : Int := if f.kind < 1 ∨ 6 < f.kind then 8 else if (f.kind = 6 ∧ f.count < 1) ∨ (¬ f.kind = 6 ∧ ¬ f.count = 0) then 3 else if 65536 < f.count then 4 else 0
theorem err_zero {f : Fd} (h : f.err = 0) : 1 ≤ f.kind ∧ f.kind ≤ 6 ∧ (f.kind = 6 → 1 ≤ f.count) ∧ (f.kind ≠ 6 → f.count = 0) ∧ f.count ≤ 65536 ∧ 0 ≤ f.count := by
  unfold err at h
  split at h
  · cases h
  · split at h
    · cases h
    · split at h
      · cases h
      · omega
theorem wid_rng {f : Fd} (h : f.err = 0) : 1 ≤ f.wid ∧ f.wid ≤ 65536 := by
  have := err_zero h
  unfold wid
  split
  · omega
  · split
    · omega
    · split
      · omega
      · split <;> omega
theorem ali_rng {f : Fd} (h : f.err = 0) : 1 ≤ f.ali ∧ f.ali ≤ 8 := by
  have := err_zero h
  unfold ali wid
  repeat' split
  all_goals omega
end Fd
def upI (n a : Int) : Int := (n + a - 1) / a * a
theorem upI_rng {n a : Int} (hn : 0 ≤ n) (ha : 1 ≤ a) : n ≤ upI n a ∧ upI n a ≤ n + a - 1 := by
  unfold upI
  have h1 := Int.emod_add_mul_ediv (n + a - 1) a
  have h2 := Int.emod_lt_of_pos (n + a - 1) (show 0 < a by omega)
  have h3 := Int.emod_nonneg (n + a - 1) (show a ≠ 0 by omega)
  rw [Int.mul_comm] at h1
  generalize (n + a - 1) / a * a = q at *
  generalize (n + a - 1) % a = r at *
  omega
/-- End and greatest alignment. -/
def layS (s : Int × Int) (f : Fd) : Int × Int := (upI s.1 f.ali + f.wid, max s.2 f.ali)
def lay (fs : List Fd) : Int × Int := fs.foldl layS (0, 1)
def sizeF (fs : List Fd) : Int := upI (lay fs).1 (lay fs).2
theorem lay_snoc (fs : List Fd) (f : Fd) : lay (fs ++ [f]) = layS (lay fs) f := by simp [lay]
theorem lay_take {fs : List Fd} {k : Nat} {f : Fd} (h : fs[k]? = some f) : lay (fs.take (k + 1)) = layS (lay (fs.take k)) f := by
  obtain ⟨hk, hf⟩ := List.getElem?_eq_some_iff.1 h
  rw [List.take_succ_eq_append_getElem hk, hf, lay_snoc]
def okFs (fs : List Fd) : Prop := ∀ f ∈ fs, f.err = 0
theorem okFs_take {fs : List Fd} (h : okFs fs) (k : Nat) : okFs (fs.take k) := fun f hf => h f (List.mem_of_mem_take hf)
theorem lay_rng {fs : List Fd} (h : okFs fs) : 0 ≤ (lay fs).1 ∧ (lay fs).1 ≤ 65600 * fs.length ∧ 1 ≤ (lay fs).2 ∧ (lay fs).2 ≤ 8 := by
  have key : ∀ (fs : List Fd) (s : Int × Int) (k : Nat), okFs fs → 0 ≤ s.1 → s.1 ≤ 65600 * k → 1 ≤ s.2 → s.2 ≤ 8 →
      0 ≤ (fs.foldl layS s).1 ∧ (fs.foldl layS s).1 ≤ 65600 * (k + fs.length : Nat) ∧ 1 ≤ (fs.foldl layS s).2 ∧ (fs.foldl layS s).2 ≤ 8 := by
    intro fs
    induction fs with
    | nil => intro s k _ h1 h2 h3 h4; exact ⟨h1, by simpa using h2, h3, h4⟩
    | cons f fs ih =>
      intro s k h h1 h2 h3 h4
      have hf := h f (by simp)
      have hw := Fd.wid_rng hf
      have ha := Fd.ali_rng hf
      have hu := upI_rng h1 ha.1
      have := ih (layS s f) (k + 1) (fun x hx => h x (by simp [hx])) (by unfold layS; dsimp only; omega) (by unfold layS; dsimp only; omega) (by unfold layS; dsimp only; omega) (by unfold layS; dsimp only; omega)
      rw [List.foldl_cons, List.length_cons, show k + (fs.length + 1) = k + 1 + fs.length by omega]
      exact this
  have := key fs (0, 1) 0 h (by decide) (by decide) (by decide) (by decide)
  rwa [Nat.zero_add] at this
def firstErr : List Fd → Int
  | [] => 0
  | f :: r => if f.err = 0 then firstErr r else f.err
theorem firstErr_no {f : Fd} (r : List Fd) (h : ¬ f.err = 0) : firstErr (f :: r) = f.err := by rw [firstErr, if_neg h]
theorem firstErr_yes {f : Fd} (r : List Fd) (h : f.err = 0) : firstErr (f :: r) = firstErr r := by rw [firstErr, if_pos h]
theorem firstErr_zero : ∀ {fs : List Fd}, firstErr fs = 0 → okFs fs
  | [], _ => fun f hf => by cases hf
  | f :: r, h => by
    unfold firstErr at h
    split at h
    · rename_i h0
      intro g hg
      rcases List.mem_cons.1 hg with rfl | hg
      · exact h0
      · exact firstErr_zero h g hg
    · rename_i h0
      exact absurd h h0
theorem firstErr_ok : ∀ {fs : List Fd}, okFs fs → firstErr fs = 0
  | [], _ => rfl
  | f :: r, h => by
    unfold firstErr
    rw [if_pos (h f (by simp))]
    exact firstErr_ok fun g hg => h g (by simp [hg])
def sizeT (len : Int) (fs : List Fd) : Int := if 0 < len then len * (fs.headD ⟨0, 0⟩).wid else sizeF fs
def chk (len : Int) (fs : List Fd) : Int :=
  if len < 0 then 3 else if 65536 < len then 4 else if (len = 0 ∧ fs.length = 0) ∨ (0 < len ∧ ¬ fs.length = 1) then 3 else if 32 < fs.length then 4
  else if ¬ firstErr fs = 0 then firstErr fs else if 65536 < sizeT len fs then 4 else 0
theorem chk_zero {len : Int} {fs : List Fd} (h : chk len fs = 0) : 0 ≤ len ∧ len ≤ 65536 ∧ fs.length ≤ 32 ∧ 1 ≤ fs.length ∧ (0 < len → fs.length = 1) ∧ okFs fs ∧ sizeT len fs ≤ 65536 := by
  unfold chk at h
  split at h
  · cases h
  split at h
  · cases h
  split at h
  · cases h
  split at h
  · cases h
  split at h
  · rename_i h0
    exact absurd h h0
  rename_i h0
  split at h
  · cases h
  exact ⟨by omega, by omega, by omega, by omega, by omega, firstErr_zero (by omega), by omega⟩
theorem chk_of {len : Int} {fs : List Fd} (h1 : 0 ≤ len) (h2 : len ≤ 65536) (h3 : fs.length ≤ 32) (h4 : 1 ≤ fs.length) (h5 : 0 < len → fs.length = 1) (h6 : okFs fs) (h7 : sizeT len fs ≤ 65536) : chk len fs = 0 := by
  unfold chk
  rw [if_neg (by omega), if_neg (by omega), if_neg (by omega), if_neg (by omega), if_neg (by rw [firstErr_ok h6]; simp), if_neg (by omega)]
theorem mul_small {a b : Int} (h1 : 0 ≤ a) (h2 : a ≤ 65536) (h3 : 0 ≤ b) (h4 : b ≤ 65536) : 0 ≤ a * b ∧ a * b ≤ 4294967296 :=
  ⟨Int.mul_nonneg h1 h3, Int.le_trans (Int.mul_le_mul h2 h4 h3 (by omega)) (by decide)⟩
end Go.Proofs.YtlbmnioibiomfaaGreat
/- Package layout: what its functions answer. -/
namespace Go.Proofs.YtlbmnioibiomfaaGreat
open Go.RowKit Go.Shelf
set_option linter.unusedVariables false
set_option linter.unusedSimpArgs false
set_option maxRecDepth 100000

section
variable {W w : World} {L : List Res} {M : List Nat} {n c : Nat} {A : Option Addr} {fs : List Fd}
theorem Sl.fld {b off k : Nat} {x : Fd} (h : Sl W W.heap.size 2 (some ⟨b, off, none⟩) n c (cl fdc fs)) (hx : fs[k]? = some x) : LD Tryz.prog [] W L 89 ⟨b, off + k * 2, none⟩ (.agg #[.int .i64 x.kind, .int .i64 x.count]) :=
  h.ld (vs := fdc x) (by
    have := cl_row fdc_len (by omega) h.len
    have := (List.getElem?_eq_some_iff.1 hx).1
    omega) (by kernel_rfl) (cl_at fdc_len hx)
theorem Sl.fld0 {b off k : Nat} {x : Fd} (h : Sl W W.heap.size 2 (some ⟨b, off, none⟩) n c (cl fdc fs)) (hx : fs[k]? = some x) : LD Tryz.prog [] W L 3 ⟨b, off + k * 2, none⟩ (.int .i64 x.kind) :=
  h.ld1 (m := 1) (i := k * 2) (by kernel_rfl) (cl_get (j := 0) fdc_len hx rfl)
theorem Sl.fld1 {b off k : Nat} {x : Fd} (h : Sl W W.heap.size 2 (some ⟨b, off, none⟩) n c (cl fdc fs)) (hx : fs[k]? = some x) : LD Tryz.prog [] W L 3 ⟨b, off + k * 2 + 1, none⟩ (.int .i64 x.count) := by
  rw [Nat.add_assoc]
  exact h.ld1 (m := 1) (i := k * 2 + 1) (by kernel_rfl) (cl_get (j := 1) fdc_len hx rfl)
end
def fBox (b : Nat) (f : Fd) : Res := .blk b 89 [.int .i64 f.kind, .int .i64 f.count]
def tBox (b : Nat) (len : Int) (A : Option Addr) (n c : Nat) : Res := .blk b 67 [.int .i64 len, .slice A n c]
def pBox (b : Nat) : Res := .blk b 145 [.int .i64 0, .int .i64 0, .int .i64 0]
def tyV (len : Int) (A : Option Addr) (n c : Nat) : Value := .agg #[.int .i64 len, .slice A n c]
theorem some_of {α : Type} {l : List α} {i : Nat} (h : i < l.length) : ∃ x, l[i]? = some x := ⟨_, List.getElem?_eq_getElem h⟩

set_option maxRecDepth 100000 in
theorem sLay1 : type_of% (And.intro (And.intro @fBox.eq_1 @tBox.eq_1) (And.intro @pBox.eq_1 (And.intro @fdV.eq_1 @tyV.eq_1))) := (And.intro (And.intro @fBox.eq_1 @tBox.eq_1) (And.intro @pBox.eq_1 (And.intro @fdV.eq_1 @tyV.eq_1)))
theorem width_any (f : Fd) (W : World) : Calls Tryz.prog 102 #[fdV f] W fun e w' => e = .returned (.int .i64 f.wid) ∧ Below W.heap.size W w' := by
  refine calls_cv (M := []) (n := 15) [.tmp 2] rfl Tryz.func102 rfl rfl (Nat.le_of_ble_eq_true rfl) (St.nil _ _) ?_
  refine cv_seq_k fun K hK => ?_
  refine cv_region_then rfl ?_
  simp -implicitDefEqProofs (disch := first | omega | decide) only [seval, -Int.reducePow, -Nat.reducePow, cC, pv, binv, sLay1, undef]
  intro b hb
  refine hK _ _ ?_
  clear hK K
  refine cv_seq_k fun K hK => ?_
  refine cv_seq_k fun K hK => ?_
  refine cv_region_then rfl ?_
  simp -implicitDefEqProofs (disch := first | omega | decide) only [seval, -Int.reducePow, -Nat.reducePow, cC, pv, binv, sLay1, undef]
  refine hK _ _ ?_
  clear hK K
  refine cv_block ?_
  refine cv_seq_k fun K hK => ?_
  refine cv_region_then rfl ?_
  simp -implicitDefEqProofs (disch := first | omega | decide) only [seval, -Int.reducePow, -Nat.reducePow, cC, pv, binv, sLay1, undef]
  refine hK _ _ ?_
  clear hK K
  refine cv_cond ?_
  simp -implicitDefEqProofs (disch := first | omega | decide) only [seval, -Int.reducePow, -Nat.reducePow, cC, pv, binv, sLay1, undef]
  refine ⟨fun hc => ?_, fun hc => ?_⟩
  · refine cv_seq_k fun K hK => ?_
    refine cv_region_then rfl ?_
    simp -implicitDefEqProofs (disch := first | omega | decide) only [seval, -Int.reducePow, -Nat.reducePow, cC, pv, binv, sLay1, undef]
    refine hK _ _ ?_
    clear hK K
    refine cv_ret ⟨_, (by simp -implicitDefEqProofs (disch := first | omega | decide) only [seval, -Int.reducePow, -Nat.reducePow, cC, pv, binv, sLay1, undef]; rfl), fun w hw => ?_⟩
    exact ⟨by simp [Fd.wid, of_decide_eq_true hc], hw.below⟩
  · have q1 := of_decide_eq_false hc
    refine cv_seq_k fun K hK => ?_
    refine cv_region_then rfl ?_
    simp -implicitDefEqProofs (disch := first | omega | decide) only [seval, -Int.reducePow, -Nat.reducePow, cC, pv, binv, sLay1, undef]
    refine hK _ _ ?_
    clear hK K
    refine cv_cond ?_
    simp -implicitDefEqProofs (disch := first | omega | decide) only [seval, -Int.reducePow, -Nat.reducePow, cC, pv, binv, sLay1, undef]
    refine ⟨fun hc => ?_, fun hc => ?_⟩
    · refine cv_seq_k fun K hK => ?_
      refine cv_region_then rfl ?_
      simp -implicitDefEqProofs (disch := first | omega | decide) only [seval, -Int.reducePow, -Nat.reducePow, cC, pv, binv, sLay1, undef]
      refine hK _ _ ?_
      clear hK K
      refine cv_ret ⟨_, (by simp -implicitDefEqProofs (disch := first | omega | decide) only [seval, -Int.reducePow, -Nat.reducePow, cC, pv, binv, sLay1, undef]; rfl), fun w hw => ?_⟩
      exact ⟨by simp [Fd.wid, q1, of_decide_eq_true ‹_›], hw.below⟩
    · have q2 := of_decide_eq_false ‹_›
      refine cv_seq_k fun K hK => ?_
      refine cv_region_then rfl ?_
      simp -implicitDefEqProofs (disch := first | omega | decide) only [seval, -Int.reducePow, -Nat.reducePow, cC, pv, binv, sLay1, undef]
      refine hK _ _ ?_
      clear hK K
      refine cv_cond ?_
      simp -implicitDefEqProofs (disch := first | omega | decide) only [seval, -Int.reducePow, -Nat.reducePow, cC, pv, binv, sLay1, undef]
      refine ⟨fun hc => ?_, fun hc => ?_⟩
      · refine cv_seq_k fun K hK => ?_
        refine cv_region_then rfl ?_
        simp -implicitDefEqProofs (disch := first | omega | decide) only [seval, -Int.reducePow, -Nat.reducePow, cC, pv, binv, sLay1, undef]
        refine hK _ _ ?_
        clear hK K
        refine cv_ret ⟨_, (by simp -implicitDefEqProofs (disch := first | omega | decide) only [seval, -Int.reducePow, -Nat.reducePow, cC, pv, binv, sLay1, undef]; rfl), fun w hw => ?_⟩
        exact ⟨by simp [Fd.wid, q1, q2, of_decide_eq_true ‹_›], hw.below⟩
      · have q3 := of_decide_eq_false ‹_›
        refine cv_seq_k fun K hK => ?_
        refine cv_region_then rfl ?_
        simp -implicitDefEqProofs (disch := first | omega | decide) only [seval, -Int.reducePow, -Nat.reducePow, cC, pv, binv, sLay1, undef]
        refine hK _ _ ?_
        clear hK K
        refine cv_cond ?_
        simp -implicitDefEqProofs (disch := first | omega | decide) only [seval, -Int.reducePow, -Nat.reducePow, cC, pv, binv, sLay1, undef]
        refine ⟨fun hc => ?_, fun hc => ?_⟩
        · refine cv_seq_k fun K hK => ?_
          refine cv_region_then rfl ?_
          simp -implicitDefEqProofs (disch := first | omega | decide) only [seval, -Int.reducePow, -Nat.reducePow, cC, pv, binv, sLay1, undef]
          refine hK _ _ ?_
          clear hK K
          refine cv_ret ⟨_, (by simp -implicitDefEqProofs (disch := first | omega | decide) only [seval, -Int.reducePow, -Nat.reducePow, cC, pv, binv, sLay1, undef]; rfl), fun w hw => ?_⟩
          exact ⟨by simp [Fd.wid, q1, q2, q3, of_decide_eq_true ‹_›], hw.below⟩
        · have q4 := of_decide_eq_false ‹_›
          refine cv_skip ?_
          try simp only [blockQ, thenQ]
          refine hK _ _ ?_
          clear hK K
          refine cv_seq_k fun K hK => ?_
          refine cv_region_then rfl ?_
          simp -implicitDefEqProofs (disch := first | omega | decide) only [seval, -Int.reducePow, -Nat.reducePow, cC, pv, binv, sLay1, undef]
          refine hK _ _ ?_
          clear hK K
          refine cv_ret ⟨_, (by simp -implicitDefEqProofs (disch := first | omega | decide) only [seval, -Int.reducePow, -Nat.reducePow, cC, pv, binv, sLay1, undef]; rfl), fun w hw => ?_⟩
          exact ⟨by simp [Fd.wid, q1, q2, q3, q4], hw.below⟩
theorem alignment_any (f : Fd) (W : World) : Calls Tryz.prog 116 #[fdV f] W fun e w' => e = .returned (.int .i64 f.ali) ∧ Below W.heap.size W w' := by
  refine calls_cv (M := []) (n := 8) [.tmp 2] rfl Tryz.func116 rfl rfl (Nat.le_of_ble_eq_true rfl) (St.nil _ _) ?_
  refine cv_seq_k fun K hK => ?_
  refine cv_region_then rfl ?_
  simp -implicitDefEqProofs (disch := first | omega | decide) only [seval, -Int.reducePow, -Nat.reducePow, cC, pv, binv, sLay1, undef]
  intro b hb
  refine hK _ _ ?_
  clear hK K
  refine cv_seq_k fun K hK => ?_
  refine cv_seq_k fun K hK => ?_
  refine cv_region_then rfl ?_
  simp -implicitDefEqProofs (disch := first | omega | decide) only [seval, -Int.reducePow, -Nat.reducePow, cC, pv, binv, sLay1, undef]
  refine hK _ _ ?_
  clear hK K
  refine cv_cond ?_
  simp -implicitDefEqProofs (disch := first | omega | decide) only [seval, -Int.reducePow, -Nat.reducePow, cC, pv, binv, sLay1, undef]
  refine ⟨fun hc => ?_, fun hc => ?_⟩
  · refine cv_seq_k fun K hK => ?_
    refine cv_region_then rfl ?_
    simp -implicitDefEqProofs (disch := first | omega | decide) only [seval, -Int.reducePow, -Nat.reducePow, cC, pv, binv, sLay1, undef]
    refine hK _ _ ?_
    clear hK K
    refine cv_ret ⟨_, (by simp -implicitDefEqProofs (disch := first | omega | decide) only [seval, -Int.reducePow, -Nat.reducePow, cC, pv, binv, sLay1, undef]; rfl), fun w hw => ?_⟩
    exact ⟨by simp [Fd.ali, of_decide_eq_true hc], hw.below⟩
  · refine cv_skip ?_
    try simp only [blockQ, thenQ]
    refine hK _ _ ?_
    clear hK K
    refine cv_seq_k fun K hK => ?_
    refine cv_region_then rfl ?_
    simp -implicitDefEqProofs (disch := first | omega | decide) only [seval, -Int.reducePow, -Nat.reducePow, cC, pv, binv, sLay1, undef]
    refine callV_ret (fun w hw => width_any f w) ?_
    try simp -implicitDefEqProofs (disch := first | omega | decide) only [seval, -Int.reducePow, -Nat.reducePow, cC, pv, binv, sLay1, undef]
    refine hK _ _ ?_
    clear hK K
    refine cv_ret ⟨_, (by simp -implicitDefEqProofs (disch := first | omega | decide) only [seval, -Int.reducePow, -Nat.reducePow, cC, pv, binv, sLay1, undef]; rfl), fun w hw => ?_⟩
    exact ⟨by simp [Fd.ali, of_decide_eq_false hc], hw.below⟩
theorem up_any (n a : Int) (W : World) (hn : 0 ≤ n ∧ n ≤ 1000000000) (ha : 1 ≤ a ∧ a ≤ 100) : Calls Tryz.prog 117 #[.int .i64 n, .int .i64 a] W fun e w' => e = .returned (.int .i64 (upI n a)) ∧ Below W.heap.size W w' := by
  have hr := upI_rng hn.1 ha.1
  have h0 : 0 ≤ (n + a - 1) / a ∧ (n + a - 1) / a ≤ n + a - 1 := ⟨Int.ediv_nonneg (by omega) (by omega), Int.ediv_le_self _ (by omega)⟩
  have h1 : IntKind.i64.wrap ((n + a - 1) / a) = (n + a - 1) / a := wrap_in (by omega) (by omega)
  have h2 : IntKind.i64.wrap ((n + a - 1) / a * a) = upI n a := wrap_in (by unfold upI at hr; omega) (by unfold upI at hr; omega)
  refine calls_cv (M := []) (n := 13) [.tmp 4] rfl Tryz.func117 rfl rfl (Nat.le_of_ble_eq_true rfl) (St.nil _ _) ?_
  refine cv_seq_k fun K hK => ?_
  refine cv_region_then rfl ?_
  simp -implicitDefEqProofs (disch := first | omega | decide) only [seval, -Int.reducePow, -Nat.reducePow, cC, pv, binv, sLay1, undef]
  refine hK _ _ ?_
  clear hK K
  refine cv_seq_k fun K hK => ?_
  refine cv_region_then rfl ?_
  simp -implicitDefEqProofs (disch := first | omega | decide) only [seval, -Int.reducePow, -Nat.reducePow, cC, pv, binv, sLay1, undef, h1, h2, wrap_in]
  refine hK _ _ ?_
  clear hK K
  refine cv_ret ⟨_, (by simp -implicitDefEqProofs (disch := first | omega | decide) only [seval, -Int.reducePow, -Nat.reducePow, cC, pv, binv, sLay1, undef]; rfl), fun w hw => ?_⟩
  exact ⟨rfl, hw.below⟩
theorem checkField_any (f : Fd) (W : World) : Calls Tryz.prog 81 #[fdV f] W fun e w' => e = .returned (.int .i64 f.err) ∧ Below W.heap.size W w' := by
  refine calls_cv (M := []) (n := 35) [.tmp 2] rfl Tryz.func81 rfl rfl (Nat.le_of_ble_eq_true rfl) (St.nil _ _) ?_
  refine cv_seq_k fun K hK => ?_
  refine cv_region_then rfl ?_
  simp -implicitDefEqProofs (disch := first | omega | decide) only [seval, -Int.reducePow, -Nat.reducePow, cC, pv, binv, sLay1, undef]
  intro b hb
  refine hK _ _ ?_
  clear hK K
  refine cv_gen fun G1 hG => ?_
  have g1_1 := congrFun hG 1
  clear hG
  try simp -implicitDefEqProofs (disch := first | omega | decide) only [seval, -Int.reducePow, -Nat.reducePow, cC, pv, binv, sLay1, undef] at g1_1
  have g1 := g1_1
  refine cv_seq_k fun K hK => ?_
  refine cv_block ?_
  refine cv_seq_k fun K hK => ?_
  refine cv_cut (fun _ _ => True) (fun F' L' => F' 1 = G1 1 ∧ F' 3 = .bool (decide (f.kind < 1 ∨ 6 < f.kind)) ∧ L' = [fBox b f]) ?_ ?_
  · refine cv_region_then rfl ?_
    simp -implicitDefEqProofs (disch := first | omega | decide) only [seval, -Int.reducePow, -Nat.reducePow, cC, pv, binv, sLay1, undef, g1]
    repeat' ((first | refine vcg_cases (fun hg => ?_) (fun hg => ?_) | refine vdg_cases (fun hg => ?_) (fun hg => ?_)) <;> ((try simp only [Bool.not_eq_true', Bool.not_eq_false', decide_eq_true_eq, decide_eq_false_iff_not] at hg); (try simp -implicitDefEqProofs (disch := first | omega | decide) only [seval, -Int.reducePow, -Nat.reducePow, cC, pv, binv, sLay1, undef, hg, g1])))
    all_goals (repeat' refine And.intro ?_ ?_)
    all_goals (first | with_reducible rfl | (refine congrArg Value.bool ?_; rw [Bool.eq_iff_iff]; (try simp only [decide_eq_true_eq, eq_self, true_and, and_true, false_and, and_false, true_or, or_true, false_or, or_false, not_true_eq_false, not_false_eq_true, true_iff, iff_true, false_iff, iff_false, Bool.false_eq_true, Bool.not_eq_true', Bool.not_eq_true, decide_eq_false_iff_not, Bool.and_eq_true, Bool.or_eq_true]) <;> omega) | (refine congrArg (Value.int _) ?_; omega) | omega)
  · intro G2 L' _ hF
    obtain ⟨q1, q3, rfl⟩ := hF
    have g2_1 := q1.trans g1_1
    have g2_3 := q3
    clear q1 q3
    have g2 := And.intro g2_1 g2_3
    refine hK _ _ ?_
    clear hK K
    refine cv_cond ?_
    simp -implicitDefEqProofs (disch := first | omega | decide) only [seval, -Int.reducePow, -Nat.reducePow, cC, pv, binv, sLay1, undef, g2]
    refine ⟨fun hc => ?_, fun hc => ?_⟩
    · refine cv_seq_k fun K hK => ?_
      refine cv_region_then rfl ?_
      simp -implicitDefEqProofs (disch := first | omega | decide) only [seval, -Int.reducePow, -Nat.reducePow, cC, pv, binv, sLay1, undef, g2]
      refine hK _ _ ?_
      clear hK K
      refine cv_ret ⟨_, (by simp -implicitDefEqProofs (disch := first | omega | decide) only [seval, -Int.reducePow, -Nat.reducePow, cC, pv, binv, sLay1, undef, g2]; rfl), fun w hw => ?_⟩
      exact ⟨by simp [Fd.err, of_decide_eq_true hc], hw.below⟩
    · have q1 := of_decide_eq_false hc
      refine cv_seq_k fun K hK => ?_
      refine cv_cut (fun _ _ => True) (fun F' L' => F' 1 = G2 1 ∧ F' 12 = .bool (decide ((f.kind = 6 ∧ f.count < 1) ∨ (¬ f.kind = 6 ∧ ¬ f.count = 0))) ∧ L' = [fBox b f]) ?_ ?_
      · refine cv_region_then rfl ?_
        simp -implicitDefEqProofs (disch := first | omega | decide) only [seval, -Int.reducePow, -Nat.reducePow, cC, pv, binv, sLay1, undef, g2]
        repeat' ((first | refine vcg_cases (fun hg => ?_) (fun hg => ?_) | refine vdg_cases (fun hg => ?_) (fun hg => ?_)) <;> ((try simp only [Bool.not_eq_true', Bool.not_eq_false', decide_eq_true_eq, decide_eq_false_iff_not] at hg); (try simp -implicitDefEqProofs (disch := first | omega | decide) only [seval, -Int.reducePow, -Nat.reducePow, cC, pv, binv, sLay1, undef, hg, g2])))
        all_goals (repeat' refine And.intro ?_ ?_)
        all_goals (first | with_reducible rfl | (refine congrArg Value.bool ?_; rw [Bool.eq_iff_iff]; (try simp only [decide_eq_true_eq, eq_self, true_and, and_true, false_and, and_false, true_or, or_true, false_or, or_false, not_true_eq_false, not_false_eq_true, true_iff, iff_true, false_iff, iff_false, Bool.false_eq_true, Bool.not_eq_true', Bool.not_eq_true, decide_eq_false_iff_not, Bool.and_eq_true, Bool.or_eq_true]) <;> omega) | (refine congrArg (Value.int _) ?_; omega) | omega)
      · intro G3 L' _ hF
        obtain ⟨q1, q12, rfl⟩ := hF
        have g3_1 := q1.trans g2_1
        have g3_12 := q12
        clear q1 q12
        have g3 := And.intro g3_1 g3_12
        refine hK _ _ ?_
        clear hK K
        refine cv_cond ?_
        simp -implicitDefEqProofs (disch := first | omega | decide) only [seval, -Int.reducePow, -Nat.reducePow, cC, pv, binv, sLay1, undef, g3]
        refine ⟨fun hc => ?_, fun hc => ?_⟩
        · have q2 := of_decide_eq_true ‹_›
          refine cv_seq_k fun K hK => ?_
          refine cv_region_then rfl ?_
          simp -implicitDefEqProofs (disch := first | omega | decide) only [seval, -Int.reducePow, -Nat.reducePow, cC, pv, binv, sLay1, undef, g3]
          refine hK _ _ ?_
          clear hK K
          refine cv_ret ⟨_, (by simp -implicitDefEqProofs (disch := first | omega | decide) only [seval, -Int.reducePow, -Nat.reducePow, cC, pv, binv, sLay1, undef, g3]; rfl), fun w hw => ?_⟩
          exact ⟨by unfold Fd.err; rw [if_neg q1, if_pos q2], hw.below⟩
        · have q2 := of_decide_eq_false ‹_›
          refine cv_seq_k fun K hK => ?_
          refine cv_region_then rfl ?_
          simp -implicitDefEqProofs (disch := first | omega | decide) only [seval, -Int.reducePow, -Nat.reducePow, cC, pv, binv, sLay1, undef, g3]
          refine hK _ _ ?_
          clear hK K
          refine cv_cond ?_
          simp -implicitDefEqProofs (disch := first | omega | decide) only [seval, -Int.reducePow, -Nat.reducePow, cC, pv, binv, sLay1, undef, g3]
          refine ⟨fun hc => ?_, fun hc => ?_⟩
          · have q3 := of_decide_eq_true ‹_›
            refine cv_seq_k fun K hK => ?_
            refine cv_region_then rfl ?_
            simp -implicitDefEqProofs (disch := first | omega | decide) only [seval, -Int.reducePow, -Nat.reducePow, cC, pv, binv, sLay1, undef, g3]
            refine hK _ _ ?_
            clear hK K
            refine cv_ret ⟨_, (by simp -implicitDefEqProofs (disch := first | omega | decide) only [seval, -Int.reducePow, -Nat.reducePow, cC, pv, binv, sLay1, undef, g3]; rfl), fun w hw => ?_⟩
            exact ⟨by unfold Fd.err; rw [if_neg q1, if_neg q2, if_pos q3], hw.below⟩
          · have q3 := of_decide_eq_false ‹_›
            refine cv_skip ?_
            try simp only [blockQ, thenQ]
            refine hK _ _ ?_
            clear hK K
            refine cv_seq_k fun K hK => ?_
            refine cv_region_then rfl ?_
            simp -implicitDefEqProofs (disch := first | omega | decide) only [seval, -Int.reducePow, -Nat.reducePow, cC, pv, binv, sLay1, undef, g3]
            refine hK _ _ ?_
            clear hK K
            refine cv_ret ⟨_, (by simp -implicitDefEqProofs (disch := first | omega | decide) only [seval, -Int.reducePow, -Nat.reducePow, cC, pv, binv, sLay1, undef, g3]; rfl), fun w hw => ?_⟩
            exact ⟨by unfold Fd.err; rw [if_neg q1, if_neg q2, if_neg q3], hw.below⟩
set_option maxHeartbeats 2000000 in
theorem places_any (A : Option Addr) (n c : Nat) (fs : List Fd) (W : World) (hE : Sl W W.heap.size 2 A n c (cl fdc fs)) (hn : n ≤ 40) (hok : okFs fs) :
    Calls Tryz.prog 103 #[.slice A n c, .int .i64 (-1)] W fun e w' => e = .returned (.tuple #[.agg #[.int .i64 0, .int .i64 0, .int .i64 0], .int .i64 (sizeF fs)]) ∧ Below W.heap.size W w' := by
  have hln : fs.length = n := cl_row fdc_len (by omega) hE.len
  refine calls_cv2 (M := []) (n := 46) [.cell 4 145, .tmp 5] rfl Tryz.func103 rfl rfl (Nat.le_of_ble_eq_true rfl) (St.nil _ _) ?_
  refine cv_seq_k fun K hK => ?_
  refine cv_region_then rfl ?_
  simp -implicitDefEqProofs (disch := first | omega | decide) only [seval, -Int.reducePow, -Nat.reducePow, cC, pv, binv, sLay1, undef]
  intro b4 hb4
  refine hK _ _ ?_
  clear hK K
  refine cv_seq_k fun K hK => ?_
  refine cv_region_then rfl ?_
  simp -implicitDefEqProofs (disch := first | omega | decide) only [seval, -Int.reducePow, -Nat.reducePow, cC, pv, binv, sLay1, undef]
  intro b6 hb6 h6
  refine hK _ _ ?_
  clear hK K
  refine cv_seq_k fun K hK => ?_
  refine cv_region_then rfl ?_
  simp -implicitDefEqProofs (disch := first | omega | decide) only [seval, -Int.reducePow, -Nat.reducePow, cC, pv, binv, sLay1, undef]
  refine hK _ _ ?_
  clear hK K
  refine cv_seq_k fun K hK => ?_
  refine cv_seq_k fun K hK => ?_
  refine cv_region_then rfl ?_
  simp -implicitDefEqProofs (disch := first | omega | decide) only [seval, -Int.reducePow, -Nat.reducePow, cC, pv, binv, sLay1, undef]
  refine hK _ _ ?_
  clear hK K
  refine cv_gen fun G4 hG => ?_
  have g4_1 := congrFun hG 1
  have g4_4 := congrFun hG 4
  have g4_6 := congrFun hG 6
  have g4_7 := congrFun hG 7
  have g4_8 := congrFun hG 8
  have g4_13 := congrFun hG 13
  have g4_14 := congrFun hG 14
  have g4_15 := congrFun hG 15
  clear hG
  try simp -implicitDefEqProofs (disch := first | omega | decide) only [seval, -Int.reducePow, -Nat.reducePow, cC, pv, binv, sLay1, undef] at g4_1 g4_4 g4_6 g4_7 g4_8 g4_13 g4_14 g4_15
  have g4 := And.intro g4_1 (And.intro g4_4 (And.intro g4_6 (And.intro g4_7 (And.intro g4_8 (And.intro g4_13 (And.intro g4_14 g4_15))))))
  refine cv_block ?_
  refine cv_loop (fun F' L' => ∃ (k : Nat), F' 1 = G4 1 ∧ F' 4 = G4 4 ∧ F' 6 = G4 6 ∧ F' 7 = .int .i64 (lay (fs.take k)).1 ∧ F' 8 = .int .i64 (lay (fs.take k)).2 ∧ F' 13 = G4 13 ∧ F' 14 = G4 14 ∧ F' 15 = .int .i64 (k : Int) ∧ L' = [pBox b6, pBox b4] ∧ k ≤ n) (fun F' L' => 40 - (intOf (F' 15)).toNat) ?_ ?_
  · refine ⟨0, ?_⟩
    simp -implicitDefEqProofs (disch := first | omega | decide) only [seval, -Int.reducePow, -Nat.reducePow, cC, pv, binv, sLay1, undef, g4]
    exact ⟨rfl, rfl, by omega⟩
  · intro G5 L' hI
    obtain ⟨k, q1, q4, q6, q7, q8, q13, q14, q15, rfl, hk⟩ := hI
    have g5_1 := q1.trans g4_1
    have g5_4 := q4.trans g4_4
    have g5_6 := q6.trans g4_6
    have g5_7 := q7
    have g5_8 := q8
    have g5_13 := q13.trans g4_13
    have g5_14 := q14.trans g4_14
    have g5_15 := q15
    clear q1 q4 q6 q7 q8 q13 q14 q15
    have g5 := And.intro g5_1 (And.intro g5_4 (And.intro g5_6 (And.intro g5_7 (And.intro g5_8 (And.intro g5_13 (And.intro g5_14 g5_15))))))
    have hR := lay_rng (okFs_take hok k)
    rw [List.length_take, Nat.min_eq_left (by omega)] at hR
    refine cv_seq_k fun K hK => ?_
    refine cv_region_then rfl ?_
    simp -implicitDefEqProofs (disch := first | omega | decide) only [seval, -Int.reducePow, -Nat.reducePow, cC, pv, binv, sLay1, undef, g4, g5]
    refine hK _ _ ?_
    clear hK K
    refine cv_seq_k fun K hK => ?_
    refine cv_cond ?_
    simp -implicitDefEqProofs (disch := first | omega | decide) only [seval, -Int.reducePow, -Nat.reducePow, cC, pv, binv, sLay1, undef, g4, g5]
    refine ⟨fun hc => ?_, fun hc => ?_⟩
    · refine cv_skip ?_
      try simp only [blockQ, thenQ]
      have hlt : k < n := by simp at hc; omega
      obtain ⟨b0, off, rfl, hb0, -⟩ := hE.cells (by omega)
      obtain ⟨x, hx⟩ := some_of (l := fs) (i := k) (by omega)
      have hxe := hok x (List.mem_of_getElem? hx)
      have hxw := Fd.wid_rng hxe
      have hxa := Fd.ali_rng hxe
      have hu := upI_rng (n := (lay (fs.take k)).1) (a := x.ali) hR.1 hxa.1
      have hs := lay_take hx
      have hk1 : ¬ (k : Int) = -1 := by omega
      refine hK _ _ ?_
      clear hK K
      refine cv_seq_k fun K hK => ?_
      refine cv_block ?_
      refine cv_seq_k fun K hK => ?_
      refine cv_region_then rfl ?_
      simp -implicitDefEqProofs (disch := first | omega | decide) only [seval, -Int.reducePow, -Nat.reducePow, cC, pv, binv, sLay1, undef, g4, g5]
      refine ⟨_, hE.fld hx, fun tok htok => ?_⟩
      subst htok
      simp -implicitDefEqProofs (disch := first | omega | decide) only [seval, -Int.reducePow, -Nat.reducePow, cC, pv, binv, sLay1, undef, g4, g5]
      intro b10 hb10 h10
      refine hK _ _ ?_
      clear hK K
      refine cv_seq_k fun K hK => ?_
      refine cv_region_then rfl ?_
      simp -implicitDefEqProofs (disch := first | omega | decide) only [seval, -Int.reducePow, -Nat.reducePow, cC, pv, binv, sLay1, undef, g4, g5]
      refine callV_ret (fun w hw => alignment_any x w) ?_
      try simp -implicitDefEqProofs (disch := first | omega | decide) only [seval, -Int.reducePow, -Nat.reducePow, cC, pv, binv, sLay1, undef, g4, g5]
      refine hK _ _ ?_
      clear hK K
      refine cv_seq_k fun K hK => ?_
      refine cv_region_then rfl ?_
      simp -implicitDefEqProofs (disch := first | omega | decide) only [seval, -Int.reducePow, -Nat.reducePow, cC, pv, binv, sLay1, undef, g4, g5]
      refine callV_ret (fun w hw => up_any _ _ w (by omega) (by omega)) ?_
      try simp -implicitDefEqProofs (disch := first | omega | decide) only [seval, -Int.reducePow, -Nat.reducePow, cC, pv, binv, sLay1, undef, g4, g5]
      refine hK _ _ ?_
      clear hK K
      refine cv_seq_k fun K hK => ?_
      refine cv_region_then rfl ?_
      simp -implicitDefEqProofs (disch := first | omega | decide) only [seval, -Int.reducePow, -Nat.reducePow, cC, pv, binv, sLay1, undef, wrap_in, g4, g5]
      refine callV_ret (fun w hw => width_any x w) ?_
      try simp -implicitDefEqProofs (disch := first | omega | decide) only [seval, -Int.reducePow, -Nat.reducePow, cC, pv, binv, sLay1, undef, wrap_in, g4, g5]
      refine hK _ _ ?_
      clear hK K
      refine cv_seq_k fun K hK => ?_
      refine cv_region_then rfl ?_
      simp -implicitDefEqProofs (disch := first | omega | decide) only [seval, -Int.reducePow, -Nat.reducePow, cC, pv, binv, sLay1, undef, g4, g5]
      refine hK _ _ ?_
      clear hK K
      refine cv_seq_k fun K hK => ?_
      refine cv_region_then rfl ?_
      simp -implicitDefEqProofs (disch := first | omega | decide) only [seval, -Int.reducePow, -Nat.reducePow, cC, pv, binv, sLay1, undef, hk1, g4, g5]
      refine hK _ _ ?_
      clear hK K
      refine cv_cond ?_
      simp -implicitDefEqProofs (disch := first | omega | decide) only [seval, -Int.reducePow, -Nat.reducePow, cC, pv, binv, sLay1, undef, g4, g5]
      refine cv_skip ?_
      try simp only [blockQ, thenQ]
      refine hK _ _ ?_
      clear hK K
      refine cv_pick [1, 2] (by decide) ?_
      simp only [pickL, nth]
      refine cv_region_then rfl ?_
      simp -implicitDefEqProofs (disch := first | omega | decide) only [seval, -Int.reducePow, -Nat.reducePow, cC, pv, binv, sLay1, undef, wrap_in, g4, g5]
      refine ⟨⟨k + 1, ?_⟩, ?_⟩
      · simp -implicitDefEqProofs (disch := first | omega | decide) only [seval, -Int.reducePow, -Nat.reducePow, cC, pv, binv, sLay1, undef, Int.natCast_add, hs, layS, g4, g5]
        omega
      · simp only [intOf]; omega
    · refine cv_exit ?_
      simp only [blockQ, thenQ, if_true, ite_true]
      clear hK K
      refine hK _ _ ?_
      clear hK K
      obtain rfl : n = k := by simp at hc; omega
      rw [List.take_of_length_le (by omega)] at *
      refine cv_seq_k fun K hK => ?_
      refine cv_draw [(true, 0), (true, 1), (true, 2), (false, 3), (false, 4), (true, 5)] [] mixA rfl (by kernel_rfl) (by kernel_rfl) rfl rfl ?_
      simp -implicitDefEqProofs (disch := first | omega | decide) only [seval, -Int.reducePow, -Nat.reducePow, cC, pv, binv, sLay1, undef, g4, g5]
      refine callV_ret (fun w hw => up_any _ _ w (by omega) (by omega)) ?_
      try simp -implicitDefEqProofs (disch := first | omega | decide) only [seval, -Int.reducePow, -Nat.reducePow, cC, pv, binv, sLay1, undef, g4, g5]
      refine hK _ _ ?_
      clear hK K
      refine cv_ret ?_
      simp -implicitDefEqProofs (disch := first | omega | decide) only [seval, -Int.reducePow, -Nat.reducePow, cC, pv, binv, sLay1, undef, retQ2, ressV, packV, g4, g5]
      intro w hw
      exact ⟨rfl, hw.below⟩
set_option maxHeartbeats 2000000 in
theorem size_any (A : Option Addr) (n c : Nat) (fs : List Fd) (len : Int) (W : World) (hE : Sl W W.heap.size 2 A n c (cl fdc fs)) (hn : n ≤ 40) (hok : okFs fs) (h0 : 0 ≤ len ∧ len ≤ 65536) (h1 : 0 < len → n = 1) :
    Calls Tryz.prog 82 #[tyV len A n c] W fun e w' => e = .returned (.int .i64 (sizeT len fs)) ∧ Below W.heap.size W w' := by
  have hln : fs.length = n := cl_row fdc_len (by omega) hE.len
  refine calls_cv (M := []) (n := 23) [.tmp 2] rfl Tryz.func82 rfl rfl (Nat.le_of_ble_eq_true rfl) (St.nil _ _) ?_
  refine cv_seq_k fun K hK => ?_
  refine cv_region_then rfl ?_
  simp -implicitDefEqProofs (disch := first | omega | decide) only [seval, -Int.reducePow, -Nat.reducePow, cC, pv, binv, sLay1, undef]
  intro b hb
  refine hK _ _ ?_
  clear hK K
  refine cv_seq_k fun K hK => ?_
  refine cv_seq_k fun K hK => ?_
  refine cv_region_then rfl ?_
  simp -implicitDefEqProofs (disch := first | omega | decide) only [seval, -Int.reducePow, -Nat.reducePow, cC, pv, binv, sLay1, undef]
  refine hK _ _ ?_
  clear hK K
  refine cv_cond ?_
  simp -implicitDefEqProofs (disch := first | omega | decide) only [seval, -Int.reducePow, -Nat.reducePow, cC, pv, binv, sLay1, undef]
  refine ⟨fun hc => ?_, fun hc => ?_⟩
  · have hl : 0 < len := of_decide_eq_true hc
    have hn1 := h1 hl
    subst hn1
    obtain ⟨b0, off, rfl, hb0, -⟩ := hE.cells (by omega)
    obtain ⟨x, hx⟩ := some_of (l := fs) (i := 0) (by omega)
    have hhd : fs.headD ⟨0, 0⟩ = x := by
      cases fs with
      | nil => simp at hx
      | cons y r => simpa using hx
    have hxw := Fd.wid_rng (hok x (List.mem_of_getElem? hx))
    have hm := mul_small h0.1 h0.2 (show 0 ≤ x.wid by omega) hxw.2
    have hx0 := hE.fld (L := [tBox b len (some ⟨b0, off, none⟩) 1 c]) hx
    simp only [Nat.zero_mul, Nat.add_zero, tBox] at hx0
    refine cv_seq_k fun K hK => ?_
    refine cv_draw [(true, 0), (true, 1), (true, 2), (true, 3), (true, 4), (true, 5), (false, 6), (true, 7), (true, 8)] [] mixA rfl (by kernel_rfl) (by kernel_rfl) rfl rfl ?_
    simp -implicitDefEqProofs (disch := first | omega | decide) only [seval, -Int.reducePow, -Nat.reducePow, cC, pv, binv, sLay1, undef, Nat.zero_mul]
    refine ⟨_, hx0, fun tok htok => ?_⟩
    subst htok
    simp -implicitDefEqProofs (disch := first | omega | decide) only [seval, -Int.reducePow, -Nat.reducePow, cC, pv, binv, sLay1, undef, Nat.zero_mul]
    refine callV_ret (fun w hw => width_any x w) ?_
    try simp -implicitDefEqProofs (disch := first | omega | decide) only [seval, -Int.reducePow, -Nat.reducePow, cC, pv, binv, sLay1, undef, wrap_in]
    refine hK _ _ ?_
    clear hK K
    refine cv_ret ⟨_, (by simp -implicitDefEqProofs (disch := first | omega | decide) only [seval, -Int.reducePow, -Nat.reducePow, cC, pv, binv, sLay1, undef]; rfl), fun w hw => ?_⟩
    exact ⟨by unfold sizeT; rw [if_pos hl, hhd], hw.below⟩
  · have hl : ¬ 0 < len := of_decide_eq_false hc
    refine cv_skip ?_
    try simp only [blockQ, thenQ]
    refine hK _ _ ?_
    clear hK K
    refine cv_seq_k fun K hK => ?_
    refine cv_region_then rfl ?_
    simp -implicitDefEqProofs (disch := first | omega | decide) only [seval, -Int.reducePow, -Nat.reducePow, cC, pv, binv, sLay1, undef]
    refine callV_ret (fun w hw => places_any A n c fs w (hE.at hw) hn hok) ?_
    try simp -implicitDefEqProofs (disch := first | omega | decide) only [seval, -Int.reducePow, -Nat.reducePow, cC, pv, binv, sLay1, undef]
    intro b3 hb3 h3
    refine hK _ _ ?_
    clear hK K
    refine cv_seq_k fun K hK => ?_
    refine cv_region_then rfl ?_
    simp -implicitDefEqProofs (disch := first | omega | decide) only [seval, -Int.reducePow, -Nat.reducePow, cC, pv, binv, sLay1, undef]
    refine hK _ _ ?_
    clear hK K
    refine cv_ret ⟨_, (by simp -implicitDefEqProofs (disch := first | omega | decide) only [seval, -Int.reducePow, -Nat.reducePow, cC, pv, binv, sLay1, undef]; rfl), fun w hw => ?_⟩
    exact ⟨by unfold sizeT; rw [if_neg hl], hw.below⟩
set_option maxHeartbeats 2000000 in
theorem check_any (A : Option Addr) (n c : Nat) (fs : List Fd) (len : Int) (W : World) (hE : Sl W W.heap.size 2 A n c (cl fdc fs)) :
    Calls Tryz.prog 57 #[tyV len A n c] W fun e w' => e = .returned (.int .i64 (chk len fs)) ∧ Below W.heap.size W w' := by
  have hln : fs.length = n := cl_row fdc_len (by omega) hE.len
  refine calls_cv (M := []) (n := 56) [.tmp 2] rfl Tryz.func57 rfl rfl (Nat.le_of_ble_eq_true rfl) (St.nil _ _) ?_
  refine cv_seq_k fun K hK => ?_
  refine cv_region_then rfl ?_
  simp -implicitDefEqProofs (disch := first | omega | decide) only [seval, -Int.reducePow, -Nat.reducePow, cC, pv, binv, sLay1, undef]
  intro b hb
  refine hK _ _ ?_
  clear hK K
  refine cv_gen fun G6 hG => ?_
  have g6_1 := congrFun hG 1
  clear hG
  try simp -implicitDefEqProofs (disch := first | omega | decide) only [seval, -Int.reducePow, -Nat.reducePow, cC, pv, binv, sLay1, undef] at g6_1
  have g6 := g6_1
  refine cv_seq_k fun K hK => ?_
  refine cv_block ?_
  refine cv_seq_k fun K hK => ?_
  refine cv_region_then rfl ?_
  simp -implicitDefEqProofs (disch := first | omega | decide) only [seval, -Int.reducePow, -Nat.reducePow, cC, pv, binv, sLay1, undef, g6]
  refine hK _ _ ?_
  clear hK K
  refine cv_cond ?_
  simp -implicitDefEqProofs (disch := first | omega | decide) only [seval, -Int.reducePow, -Nat.reducePow, cC, pv, binv, sLay1, undef, g6]
  refine ⟨fun hc => ?_, fun hc => ?_⟩
  · refine cv_seq_k fun K hK => ?_
    refine cv_region_then rfl ?_
    simp -implicitDefEqProofs (disch := first | omega | decide) only [seval, -Int.reducePow, -Nat.reducePow, cC, pv, binv, sLay1, undef, g6]
    refine hK _ _ ?_
    clear hK K
    refine cv_ret ⟨_, (by simp -implicitDefEqProofs (disch := first | omega | decide) only [seval, -Int.reducePow, -Nat.reducePow, cC, pv, binv, sLay1, undef, g6]; rfl), fun w hw => ?_⟩
    exact ⟨by unfold chk; rw [if_pos (of_decide_eq_true hc)], hw.below⟩
  · have q1 := of_decide_eq_false hc
    refine cv_seq_k fun K hK => ?_
    refine cv_region_then rfl ?_
    simp -implicitDefEqProofs (disch := first | omega | decide) only [seval, -Int.reducePow, -Nat.reducePow, cC, pv, binv, sLay1, undef, g6]
    refine hK _ _ ?_
    clear hK K
    refine cv_cond ?_
    simp -implicitDefEqProofs (disch := first | omega | decide) only [seval, -Int.reducePow, -Nat.reducePow, cC, pv, binv, sLay1, undef, g6]
    refine ⟨fun hc => ?_, fun hc => ?_⟩
    · refine cv_seq_k fun K hK => ?_
      refine cv_region_then rfl ?_
      simp -implicitDefEqProofs (disch := first | omega | decide) only [seval, -Int.reducePow, -Nat.reducePow, cC, pv, binv, sLay1, undef, g6]
      refine hK _ _ ?_
      clear hK K
      refine cv_ret ⟨_, (by simp -implicitDefEqProofs (disch := first | omega | decide) only [seval, -Int.reducePow, -Nat.reducePow, cC, pv, binv, sLay1, undef, g6]; rfl), fun w hw => ?_⟩
      exact ⟨by unfold chk; rw [if_neg q1, if_pos (of_decide_eq_true ‹_›)], hw.below⟩
    · have q2 := of_decide_eq_false ‹_›
      refine cv_gen fun G7 hG => ?_
      have g7_1 := congrFun hG 1
      clear hG
      try simp -implicitDefEqProofs (disch := first | omega | decide) only [seval, -Int.reducePow, -Nat.reducePow, cC, pv, binv, sLay1, undef, g6] at g7_1
      have g7 := g7_1
      refine cv_seq_k fun K hK => ?_
      refine cv_cut (fun _ _ => True) (fun F' L' => F' 1 = G7 1 ∧ F' 14 = .bool (decide ((len = 0 ∧ fs.length = 0) ∨ (0 < len ∧ ¬ fs.length = 1))) ∧ L' = [tBox b len A n c]) ?_ ?_
      · refine cv_region_then rfl ?_
        simp -implicitDefEqProofs (disch := first | omega | decide) only [seval, -Int.reducePow, -Nat.reducePow, cC, pv, binv, sLay1, undef, g7]
        repeat' ((first | refine vcg_cases (fun hg => ?_) (fun hg => ?_) | refine vdg_cases (fun hg => ?_) (fun hg => ?_)) <;> ((try simp only [Bool.not_eq_true', Bool.not_eq_false', decide_eq_true_eq, decide_eq_false_iff_not] at hg); (try simp -implicitDefEqProofs (disch := first | omega | decide) only [seval, -Int.reducePow, -Nat.reducePow, cC, pv, binv, sLay1, undef, hg, g7])))
        all_goals (repeat' refine And.intro ?_ ?_)
        all_goals (first | with_reducible rfl | (refine congrArg Value.bool ?_; rw [Bool.eq_iff_iff]; (try simp only [decide_eq_true_eq, eq_self, true_and, and_true, false_and, and_false, true_or, or_true, false_or, or_false, not_true_eq_false, not_false_eq_true, true_iff, iff_true, false_iff, iff_false, Bool.false_eq_true, Bool.not_eq_true', Bool.not_eq_true, decide_eq_false_iff_not, Bool.and_eq_true, Bool.or_eq_true]) <;> omega) | (refine congrArg (Value.int _) ?_; omega) | omega)
      · intro G8 L' _ hF
        obtain ⟨q1, q14, rfl⟩ := hF
        have g8_1 := q1.trans g7_1
        have g8_14 := q14
        clear q1 q14
        have g8 := And.intro g8_1 g8_14
        refine hK _ _ ?_
        clear hK K
        refine cv_cond ?_
        simp -implicitDefEqProofs (disch := first | omega | decide) only [seval, -Int.reducePow, -Nat.reducePow, cC, pv, binv, sLay1, undef, g8]
        refine ⟨fun hc => ?_, fun hc => ?_⟩
        · refine cv_seq_k fun K hK => ?_
          refine cv_region_then rfl ?_
          simp -implicitDefEqProofs (disch := first | omega | decide) only [seval, -Int.reducePow, -Nat.reducePow, cC, pv, binv, sLay1, undef, g8]
          refine hK _ _ ?_
          clear hK K
          refine cv_ret ⟨_, (by simp -implicitDefEqProofs (disch := first | omega | decide) only [seval, -Int.reducePow, -Nat.reducePow, cC, pv, binv, sLay1, undef, g8]; rfl), fun w hw => ?_⟩
          exact ⟨by unfold chk; rw [if_neg q1, if_neg q2, if_pos (of_decide_eq_true ‹_›)], hw.below⟩
        · have q3 := of_decide_eq_false ‹_›
          refine cv_seq_k fun K hK => ?_
          refine cv_region_then rfl ?_
          simp -implicitDefEqProofs (disch := first | omega | decide) only [seval, -Int.reducePow, -Nat.reducePow, cC, pv, binv, sLay1, undef, g8]
          refine hK _ _ ?_
          clear hK K
          refine cv_cond ?_
          simp -implicitDefEqProofs (disch := first | omega | decide) only [seval, -Int.reducePow, -Nat.reducePow, cC, pv, binv, sLay1, undef, g8]
          refine ⟨fun hc => ?_, fun hc => ?_⟩
          · have q4 : 32 < fs.length := by have := of_decide_eq_true ‹_›; omega
            refine cv_seq_k fun K hK => ?_
            refine cv_region_then rfl ?_
            simp -implicitDefEqProofs (disch := first | omega | decide) only [seval, -Int.reducePow, -Nat.reducePow, cC, pv, binv, sLay1, undef, g8]
            refine hK _ _ ?_
            clear hK K
            refine cv_ret ⟨_, (by simp -implicitDefEqProofs (disch := first | omega | decide) only [seval, -Int.reducePow, -Nat.reducePow, cC, pv, binv, sLay1, undef, g8]; rfl), fun w hw => ?_⟩
            exact ⟨by unfold chk; rw [if_neg q1, if_neg q2, if_neg q3, if_pos q4], hw.below⟩
          · have q4 : ¬ 32 < fs.length := by have := of_decide_eq_false ‹_›; omega
            refine cv_skip ?_
            try simp only [blockQ, thenQ]
            refine hK _ _ ?_
            clear hK K
            refine cv_seq_k fun K hK => ?_
            refine cv_seq_k fun K hK => ?_
            refine cv_region_then rfl ?_
            simp -implicitDefEqProofs (disch := first | omega | decide) only [seval, -Int.reducePow, -Nat.reducePow, cC, pv, binv, sLay1, undef, g8]
            refine hK _ _ ?_
            clear hK K
            refine cv_gen fun G9 hG => ?_
            have g9_1 := congrFun hG 1
            have g9_41 := congrFun hG 41
            have g9_42 := congrFun hG 42
            have g9_43 := congrFun hG 43
            clear hG
            try simp -implicitDefEqProofs (disch := first | omega | decide) only [seval, -Int.reducePow, -Nat.reducePow, cC, pv, binv, sLay1, undef, g8] at g9_1 g9_41 g9_42 g9_43
            have g9 := And.intro g9_1 (And.intro g9_41 (And.intro g9_42 g9_43))
            refine cv_block ?_
            refine cv_loop (fun F' L' => ∃ (k : Nat), F' 1 = G9 1 ∧ F' 41 = G9 41 ∧ F' 42 = G9 42 ∧ F' 43 = .int .i64 (k : Int) ∧ L' = [tBox b len A n c] ∧ k ≤ n ∧ firstErr fs = firstErr (fs.drop k)) (fun F' L' => 40 - (intOf (F' 43)).toNat) ?_ ?_
            · refine ⟨0, ?_⟩
              simp -implicitDefEqProofs (disch := first | omega | decide) only [seval, -Int.reducePow, -Nat.reducePow, cC, pv, binv, sLay1, undef, g9]
              omega
            · intro G10 L' hI
              obtain ⟨k, q1, q41, q42, q43, rfl, ⟨hk, hf⟩⟩ := hI
              have g10_1 := q1.trans g9_1
              have g10_41 := q41.trans g9_41
              have g10_42 := q42.trans g9_42
              have g10_43 := q43
              clear q1 q41 q42 q43
              have g10 := And.intro g10_1 (And.intro g10_41 (And.intro g10_42 g10_43))
              refine cv_seq_k fun K hK => ?_
              refine cv_region_then rfl ?_
              simp -implicitDefEqProofs (disch := first | omega | decide) only [seval, -Int.reducePow, -Nat.reducePow, cC, pv, binv, sLay1, undef, g9, g10]
              refine hK _ _ ?_
              clear hK K
              refine cv_seq_k fun K hK => ?_
              refine cv_cond ?_
              simp -implicitDefEqProofs (disch := first | omega | decide) only [seval, -Int.reducePow, -Nat.reducePow, cC, pv, binv, sLay1, undef, g9, g10]
              refine ⟨fun hc => ?_, fun hc => ?_⟩
              · refine cv_skip ?_
                try simp only [blockQ, thenQ]
                have hlt : k < n := by have := of_decide_eq_true ‹_›; omega
                obtain ⟨b0, off, rfl, hb0, -⟩ := hE.cells (by omega)
                obtain ⟨x, hx⟩ := some_of (l := fs) (i := k) (by omega)
                obtain ⟨hkl, hxk⟩ := List.getElem?_eq_some_iff.1 hx
                rw [List.drop_eq_getElem_cons hkl, hxk] at hf
                refine hK _ _ ?_
                clear hK K
                refine cv_seq_k fun K hK => ?_
                refine cv_block ?_
                refine cv_seq_k fun K hK => ?_
                refine cv_region_then rfl ?_
                simp -implicitDefEqProofs (disch := first | omega | decide) only [seval, -Int.reducePow, -Nat.reducePow, cC, pv, binv, sLay1, undef, g9, g10]
                refine ⟨_, hE.fld hx, fun tok htok => ?_⟩
                subst htok
                simp -implicitDefEqProofs (disch := first | omega | decide) only [seval, -Int.reducePow, -Nat.reducePow, cC, pv, binv, sLay1, undef, g9, g10]
                intro b4 hb4 h4
                refine hK _ _ ?_
                clear hK K
                refine cv_seq_k fun K hK => ?_
                refine cv_region_then rfl ?_
                simp -implicitDefEqProofs (disch := first | omega | decide) only [seval, -Int.reducePow, -Nat.reducePow, cC, pv, binv, sLay1, undef, g9, g10]
                refine callV_ret (fun w hw => checkField_any x w) ?_
                try simp -implicitDefEqProofs (disch := first | omega | decide) only [seval, -Int.reducePow, -Nat.reducePow, cC, pv, binv, sLay1, undef, g9, g10]
                refine hK _ _ ?_
                clear hK K
                refine cv_seq_k fun K hK => ?_
                refine cv_region_then rfl ?_
                simp -implicitDefEqProofs (disch := first | omega | decide) only [seval, -Int.reducePow, -Nat.reducePow, cC, pv, binv, sLay1, undef, g9, g10]
                refine hK _ _ ?_
                clear hK K
                refine cv_cond ?_
                simp -implicitDefEqProofs (disch := first | omega | decide) only [seval, -Int.reducePow, -Nat.reducePow, cC, pv, binv, sLay1, undef, g9, g10]
                refine ⟨fun hc => ?_, fun hc => ?_⟩
                · have q5 : ¬ x.err = 0 := by simpa using ‹(!decide (x.err = 0)) = true›
                  refine cv_seq_k fun K hK => ?_
                  refine cv_region_then rfl ?_
                  simp -implicitDefEqProofs (disch := first | omega | decide) only [seval, -Int.reducePow, -Nat.reducePow, cC, pv, binv, sLay1, undef, g9, g10]
                  refine hK _ _ ?_
                  clear hK K
                  refine cv_ret ⟨_, (by simp -implicitDefEqProofs (disch := first | omega | decide) only [seval, -Int.reducePow, -Nat.reducePow, cC, pv, binv, sLay1, undef, g9, g10]; rfl), fun w hw => ?_⟩
                  rw [firstErr_no _ q5] at hf
                  exact ⟨by unfold chk; rw [if_neg q1, if_neg q2, if_neg q3, if_neg q4, if_pos (by rw [hf]; exact q5), hf], hw.below⟩
                · have q5 : x.err = 0 := by simpa using ‹(!decide (x.err = 0)) = false›
                  refine cv_skip ?_
                  try simp only [blockQ, thenQ]
                  rw [firstErr_yes _ q5] at hf
                  refine hK _ _ ?_
                  clear hK K
                  refine cv_pick [1] (by decide) ?_
                  simp only [pickL, nth]
                  refine cv_region_then rfl ?_
                  simp -implicitDefEqProofs (disch := first | omega | decide) only [seval, -Int.reducePow, -Nat.reducePow, cC, pv, binv, sLay1, undef, wrap_in, g9, g10]
                  refine ⟨⟨k + 1, ?_⟩, ?_⟩
                  · simp -implicitDefEqProofs (disch := first | omega | decide) only [seval, -Int.reducePow, -Nat.reducePow, cC, pv, binv, sLay1, undef, Int.natCast_add, g9, g10]
                    exact ⟨by omega, hf⟩
                  · simp only [intOf]; omega
              · refine cv_exit ?_
                simp only [blockQ, thenQ, if_true, ite_true]
                clear hK K
                refine hK _ _ ?_
                clear hK K
                obtain rfl : n = k := by have := of_decide_eq_false ‹_›; omega
                rw [List.drop_of_length_le (by omega)] at hf
                have hok := firstErr_zero hf
                have q5 : ¬ ¬ firstErr fs = 0 := by rw [hf]; simp [firstErr]
                refine cv_seq_k fun K hK => ?_
                refine cv_seq_k fun K hK => ?_
                refine cv_region_then rfl ?_
                simp -implicitDefEqProofs (disch := first | omega | decide) only [seval, -Int.reducePow, -Nat.reducePow, cC, pv, binv, sLay1, undef, g9, g10]
                refine callV_ret (fun w hw => size_any A n c fs len w (hE.at hw) (by omega) hok (by omega) (by omega)) ?_
                try simp -implicitDefEqProofs (disch := first | omega | decide) only [seval, -Int.reducePow, -Nat.reducePow, cC, pv, binv, sLay1, undef, g9, g10]
                refine hK _ _ ?_
                clear hK K
                refine cv_cond ?_
                simp -implicitDefEqProofs (disch := first | omega | decide) only [seval, -Int.reducePow, -Nat.reducePow, cC, pv, binv, sLay1, undef, g9, g10]
                refine ⟨fun hc => ?_, fun hc => ?_⟩
                · refine cv_seq_k fun K hK => ?_
                  refine cv_region_then rfl ?_
                  simp -implicitDefEqProofs (disch := first | omega | decide) only [seval, -Int.reducePow, -Nat.reducePow, cC, pv, binv, sLay1, undef, g9, g10]
                  refine hK _ _ ?_
                  clear hK K
                  refine cv_ret ⟨_, (by simp -implicitDefEqProofs (disch := first | omega | decide) only [seval, -Int.reducePow, -Nat.reducePow, cC, pv, binv, sLay1, undef, g9, g10]; rfl), fun w hw => ?_⟩
                  exact ⟨by unfold chk; rw [if_neg q1, if_neg q2, if_neg q3, if_neg q4, if_neg q5, if_pos (of_decide_eq_true ‹_›)], hw.below⟩
                · refine cv_skip ?_
                  try simp only [blockQ, thenQ]
                  refine hK _ _ ?_
                  clear hK K
                  refine cv_seq_k fun K hK => ?_
                  refine cv_region_then rfl ?_
                  simp -implicitDefEqProofs (disch := first | omega | decide) only [seval, -Int.reducePow, -Nat.reducePow, cC, pv, binv, sLay1, undef, g9, g10]
                  refine hK _ _ ?_
                  clear hK K
                  refine cv_ret ⟨_, (by simp -implicitDefEqProofs (disch := first | omega | decide) only [seval, -Int.reducePow, -Nat.reducePow, cC, pv, binv, sLay1, undef, g9, g10]; rfl), fun w hw => ?_⟩
                  exact ⟨by unfold chk; rw [if_neg q1, if_neg q2, if_neg q3, if_neg q4, if_neg q5, if_neg (of_decide_eq_false ‹_›)], hw.below⟩
end Go.Proofs.YtlbmnioibiomfaaGreat
/- Modules: their data, and their first fault. -/
namespace Go.Proofs.YtlbmnioibiomfaaGreat
open Go.RowKit Go.Shelf
set_option linter.unusedVariables false
set_option linter.unusedSimpArgs false
theorem drop_at' {α : Type} {l : List α} {i : Nat} {x : α} (h : l[i]? = some x) : l.drop i = x :: l.drop (i + 1) := by
  obtain ⟨hi, hx⟩ := List.getElem?_eq_some_iff.1 h
  rw [List.drop_eq_getElem_cons hi, hx]
structure TyR where
  len : Int
  A : Option Addr
  n : Nat
  c : Nat
  fs : List Fd
structure FnR where
  p : Int
  r : Int
  l : Int
  A : Option Addr
  n : Nat
  c : Nat
  code : List Ins
structure ModR where
  TA : Option Addr
  tn : Nat
  tc : Nat
  ts : List TyR
  FA : Option Addr
  fn : Nat
  fc : Nat
  gs : List FnR
def tyc (t : TyR) : List Value := [.int .i64 t.len, .slice t.A t.n t.c]
def fnc (f : FnR) : List Value := [.int .i64 f.p, .int .i64 f.r, .int .i64 f.l, .slice f.A f.n f.c]
def fnV (f : FnR) : Value := .agg #[.int .i64 f.p, .int .i64 f.r, .int .i64 f.l, .slice f.A f.n f.c]
def modV (m : ModR) : Value := .agg #[.slice m.TA m.tn m.tc, .slice m.FA m.fn m.fc]
theorem tyc_len (t : TyR) : (tyc t).length = 2 := rfl
theorem fnc_len (f : FnR) : (fnc f).length = 4 := rfl
structure Mod (w : World) (B : Nat) (m : ModR) : Prop where
  ts : Sl w B 2 m.TA m.tn m.tc (cl tyc m.ts)
  ty : ∀ t ∈ m.ts, Sl w B 2 t.A t.n t.c (cl fdc t.fs)
  gs : Sl w B 4 m.FA m.fn m.fc (cl fnc m.gs)
  fn : ∀ g ∈ m.gs, Sl w B 2 g.A g.n g.c (cl insc g.code)
  arg : ∀ g ∈ m.gs, ∀ i ∈ g.code, i.arg < 18446744073709551616
section
variable {W w : World} {L : List Res} {n c : Nat} {A : Option Addr} {m : ModR} {ts : List TyR} {gs : List FnR}
theorem Mod.at (h : Mod W W.heap.size m) (hw : St [] W L w) : Mod w w.heap.size m := ⟨h.ts.at hw, fun t ht => (h.ty t ht).at hw, h.gs.at hw, fun g hg => (h.fn g hg).at hw, h.arg⟩
theorem Mod.tlen {B : Nat} (h : Mod w B m) : m.ts.length = m.tn := cl_row tyc_len (by omega) h.ts.len
theorem Mod.glen {B : Nat} (h : Mod w B m) : m.gs.length = m.fn := cl_row fnc_len (by omega) h.gs.len
theorem Sl.tyl {b off k : Nat} {x : TyR} (h : Sl W W.heap.size 2 (some ⟨b, off, none⟩) n c (cl tyc ts)) (hx : ts[k]? = some x) : LD Tryz.prog [] W L 67 ⟨b, off + k * 2, none⟩ (.agg #[.int .i64 x.len, .slice x.A x.n x.c]) :=
  h.ld (vs := tyc x) (by
    have := cl_row tyc_len (by omega) h.len
    have := (List.getElem?_eq_some_iff.1 hx).1
    omega) (by kernel_rfl) (cl_at tyc_len hx)
theorem Sl.fnl {b off k : Nat} {x : FnR} (h : Sl W W.heap.size 4 (some ⟨b, off, none⟩) n c (cl fnc gs)) (hx : gs[k]? = some x) : LD Tryz.prog [] W L 42 ⟨b, off + k * 4, none⟩ (.agg #[.int .i64 x.p, .int .i64 x.r, .int .i64 x.l, .slice x.A x.n x.c]) :=
  h.ld (vs := fnc x) (by
    have := cl_row fnc_len (by omega) h.len
    have := (List.getElem?_eq_some_iff.1 hx).1
    omega) (by kernel_rfl) (cl_at fnc_len hx)
end
/-! ## The first fault -/
def firstT : List TyR → Int
  | [] => 0
  | t :: r => if chk t.len t.fs = 0 then firstT r else chk t.len t.fs
theorem firstT_no {t : TyR} (r : List TyR) (h : ¬ chk t.len t.fs = 0) : firstT (t :: r) = chk t.len t.fs := by rw [firstT, if_neg h]
theorem firstT_yes {t : TyR} (r : List TyR) (h : chk t.len t.fs = 0) : firstT (t :: r) = firstT r := by rw [firstT, if_pos h]
def firstI : Nat → List Ins → Int × Int
  | _, [] => (0, -1)
  | k, x :: r => if x.err = 0 then firstI (k + 1) r else (x.err, (k : Int))
theorem firstI_no {k : Nat} {x : Ins} (r : List Ins) (h : ¬ x.err = 0) : firstI k (x :: r) = (x.err, (k : Int)) := by rw [firstI, if_neg h]
theorem firstI_yes {k : Nat} {x : Ins} (r : List Ins) (h : x.err = 0) : firstI k (x :: r) = firstI (k + 1) r := by rw [firstI, if_pos h]
def fnErr (i : Int) (f : FnR) : Int :=
  if f.p < 0 ∨ f.r < 0 ∨ f.l < 0 then 3 else if 64 < f.p ∨ 64 - f.p < f.l ∨ 8 < f.r then 4 else if i = 0 ∧ (¬ f.p = 0 ∨ ¬ f.r = 0) then 3
  else if f.code.length = 0 then 3 else if 1024 < f.code.length then 4 else 0
/-- A fault: its error, the function, the instruction. -/
abbrev Flt := Int × Int × Int
def fltV (f : Flt) : Value := .agg #[.int .i64 f.1, .int .i64 f.2.1, .int .i64 f.2.2]
def fineF : Flt := (0, -1, -1)
def fltF (i : Nat) (f : FnR) : Flt := if fnErr i f = 0 then (if (firstI 0 f.code).1 = 0 then fineF else ((firstI 0 f.code).1, (i : Int), (firstI 0 f.code).2)) else (fnErr i f, (i : Int), -1)
def firstF : Nat → List FnR → Flt
  | _, [] => fineF
  | i, f :: r => if (fltF i f).1 = 0 then firstF (i + 1) r else fltF i f
theorem firstF_no {i : Nat} {f : FnR} (r : List FnR) (h : ¬ (fltF i f).1 = 0) : firstF i (f :: r) = fltF i f := by rw [firstF, if_neg h]
theorem firstF_yes {i : Nat} {f : FnR} (r : List FnR) (h : (fltF i f).1 = 0) : firstF i (f :: r) = firstF (i + 1) r := by rw [firstF, if_pos h]
/-- The error of the types and of the numbers. -/
def chkP (m : ModR) : Int := if 32 < m.ts.length then 4 else if firstT m.ts = 0 then (if m.gs.length = 0 then 3 else if 32 < m.gs.length then 4 else 0) else firstT m.ts
def chkM (m : ModR) : Flt := if chkP m = 0 then firstF 0 m.gs else (chkP m, -1, -1)
theorem firstT_ok : ∀ {ts : List TyR}, firstT ts = 0 → ∀ t ∈ ts, chk t.len t.fs = 0
  | [], _, t, h => by cases h
  | t :: r, h, u, hu => by
    by_cases h0 : chk t.len t.fs = 0
    · rw [firstT_yes r h0] at h
      rcases List.mem_cons.1 hu with rfl | hu
      · exact h0
      · exact firstT_ok h u hu
    · rw [firstT_no r h0] at h; exact absurd h h0
theorem firstI_ok : ∀ {k : Nat} {l : List Ins}, (firstI k l).1 = 0 → ∀ x ∈ l, x.err = 0
  | _, [], _, x, h => by cases h
  | k, y :: r, h, x, hx => by
    by_cases h0 : y.err = 0
    · rw [firstI_yes r h0] at h
      rcases List.mem_cons.1 hx with rfl | hx
      · exact h0
      · exact firstI_ok h x hx
    · rw [firstI_no r h0] at h; exact absurd h h0
theorem fnErr_ok {i : Int} {f : FnR} (h : fnErr i f = 0) : 0 ≤ f.p ∧ 0 ≤ f.r ∧ 0 ≤ f.l ∧ f.p ≤ 64 ∧ f.p + f.l ≤ 64 ∧ f.r ≤ 8 ∧ 1 ≤ f.code.length ∧ f.code.length ≤ 1024 ∧ (i = 0 → f.p = 0 ∧ f.r = 0) := by
  unfold fnErr at h
  repeat' split at h
  all_goals first | (cases h; done) | omega
theorem fltF_ok {i : Nat} {f : FnR} (h : (fltF i f).1 = 0) : fnErr i f = 0 ∧ ∀ x ∈ f.code, x.err = 0 := by
  unfold fltF at h
  split at h
  · rename_i h0
    split at h
    · rename_i h1
      exact ⟨h0, firstI_ok h1⟩
    · rename_i h1
      exact absurd h h1
  · rename_i h0
    exact absurd h h0
theorem firstF_ok : ∀ {i : Nat} {l : List FnR}, (firstF i l).1 = 0 → ∀ (j : Nat) (f : FnR), l[j]? = some f → (fltF (i + j) f).1 = 0
  | _, [], _, j, f, h => by simp at h
  | i, g :: r, h, j, f, hj => by
    by_cases h0 : (fltF i g).1 = 0
    · rw [firstF_yes r h0] at h
      cases j with
      | zero => simp at hj; subst hj; exact h0
      | succ j =>
        have := firstF_ok h j f (by simpa using hj)
        rwa [show i + (j + 1) = i + 1 + j by omega]
    · rw [firstF_no r h0] at h; exact absurd h h0
theorem chkM_ok {m : ModR} (h : (chkM m).1 = 0) : m.ts.length ≤ 32 ∧ (∀ t ∈ m.ts, chk t.len t.fs = 0) ∧ 1 ≤ m.gs.length ∧ m.gs.length ≤ 32 ∧ ∀ (j : Nat) (f : FnR), m.gs[j]? = some f → fnErr j f = 0 ∧ ∀ x ∈ f.code, x.err = 0 := by
  unfold chkM at h
  split at h
  · rename_i h0
    unfold chkP at h0
    split at h0
    · cases h0
    split at h0
    · rename_i h1 h2
      split at h0
      · cases h0
      split at h0
      · cases h0
      exact ⟨by omega, firstT_ok h2, by omega, by omega, fun j f hj => by have := firstF_ok h j f hj; rw [Nat.zero_add] at this; exact fltF_ok this⟩
    · rename_i h1 h2
      exact absurd h0 h2
  · rename_i h0
    exact absurd h h0
section
variable {W w : World} {L : List Res} {n c : Nat} {A : Option Addr} {ts : List TyR} {gs : List FnR}
theorem Sl.fnf {b off k : Nat} {x : FnR} (h : Sl W W.heap.size 4 (some ⟨b, off, none⟩) n c (cl fnc gs)) (hx : gs[k]? = some x) : LD Tryz.prog [] W L 40 ⟨b, off + k * 4 + 3, none⟩ (.slice x.A x.n x.c) := by
  have := h.ld1 (L := L) (P := Tryz.prog) (T := 40) (m := 1) (by kernel_rfl) (cl_get (j := 3) fnc_len hx rfl)
  rwa [← Nat.add_assoc] at this
end
end Go.Proofs.YtlbmnioibiomfaaGreat
/- module.Check. -/
namespace Go.Proofs.YtlbmnioibiomfaaGreat
open Go.RowKit Go.Shelf
set_option linter.unusedVariables false
set_option linter.unusedSimpArgs false
set_option maxRecDepth 100000
def mBox (b : Nat) (m : ModR) : Res := .blk b 30 [.slice m.TA m.tn m.tc, .slice m.FA m.fn m.fc]
def gBox (b : Nat) (f : FnR) : Res := .blk b 42 [.int .i64 f.p, .int .i64 f.r, .int .i64 f.l, .slice f.A f.n f.c]
def flBox (b : Nat) (e f a : Int) : Res := .blk b 45 [.int .i64 e, .int .i64 f, .int .i64 a]
set_option maxRecDepth 100000 in
theorem sMChk1 : type_of% (And.intro (And.intro (And.intro @fBox.eq_1 @tBox.eq_1) (And.intro @iBox.eq_1 (And.intro @mBox.eq_1 @gBox.eq_1))) (And.intro (And.intro @flBox.eq_1 (And.intro @fdV.eq_1 @tyV.eq_1)) (And.intro @insV.eq_1 (And.intro @fnV.eq_1 @modV.eq_1)))) := (And.intro (And.intro (And.intro @fBox.eq_1 @tBox.eq_1) (And.intro @iBox.eq_1 (And.intro @mBox.eq_1 @gBox.eq_1))) (And.intro (And.intro @flBox.eq_1 (And.intro @fdV.eq_1 @tyV.eq_1)) (And.intro @insV.eq_1 (And.intro @fnV.eq_1 @modV.eq_1))))
set_option maxHeartbeats 2000000 in
theorem checkParts_any (m : ModR) (W : World) (hM : Mod W W.heap.size m) : Calls Tryz.prog 36 #[modV m] W fun e w' => e = .returned (.int .i64 (chkP m)) ∧ Below W.heap.size W w' := by
  have hlt := hM.tlen
  have hlg := hM.glen
  have hE := hM.ts
  have hty := hM.ty
  obtain ⟨TA, tn, tc, ts, FA, fn, fc, gs⟩ := m
  dsimp only at *
  refine calls_cv (M := []) (n := 31) [.tmp 2] rfl Tryz.func36 rfl rfl (Nat.le_of_ble_eq_true rfl) (St.nil _ _) ?_
  refine cv_seq_k fun K hK => ?_
  refine cv_region_then rfl ?_
  simp -implicitDefEqProofs (disch := first | omega | decide) only [seval, -Int.reducePow, -Nat.reducePow, cC, pv, binv, sMChk1, undef]
  intro b hb
  refine hK _ _ ?_
  clear hK K
  refine cv_gen fun G1 hG => ?_
  have g1_1 := congrFun hG 1
  clear hG
  try simp -implicitDefEqProofs (disch := first | omega | decide) only [seval, -Int.reducePow, -Nat.reducePow, cC, pv, binv, sMChk1, undef] at g1_1
  have g1 := g1_1
  refine cv_seq_k fun K hK => ?_
  refine cv_seq_k fun K hK => ?_
  refine cv_region_then rfl ?_
  simp -implicitDefEqProofs (disch := first | omega | decide) only [seval, -Int.reducePow, -Nat.reducePow, cC, pv, binv, sMChk1, undef, g1]
  refine hK _ _ ?_
  clear hK K
  refine cv_cond ?_
  simp -implicitDefEqProofs (disch := first | omega | decide) only [seval, -Int.reducePow, -Nat.reducePow, cC, pv, binv, sMChk1, undef, g1]
  refine ⟨fun hc => ?_, fun hc => ?_⟩
  · have q1 : 32 < ts.length := by have := of_decide_eq_true hc; omega
    refine cv_seq_k fun K hK => ?_
    refine cv_region_then rfl ?_
    simp -implicitDefEqProofs (disch := first | omega | decide) only [seval, -Int.reducePow, -Nat.reducePow, cC, pv, binv, sMChk1, undef, g1]
    refine hK _ _ ?_
    clear hK K
    refine cv_ret ⟨_, (by simp -implicitDefEqProofs (disch := first | omega | decide) only [seval, -Int.reducePow, -Nat.reducePow, cC, pv, binv, sMChk1, undef, g1]; rfl), fun w hw => ?_⟩
    exact ⟨by unfold chkP; dsimp only; rw [if_pos q1], hw.below⟩
  have q1 : ¬ 32 < ts.length := by have := of_decide_eq_false hc; omega
  refine cv_skip ?_
  try simp only [blockQ, thenQ]
  refine hK _ _ ?_
  clear hK K
  refine cv_seq_k fun K hK => ?_
  refine cv_seq_k fun K hK => ?_
  refine cv_region_then rfl ?_
  simp -implicitDefEqProofs (disch := first | omega | decide) only [seval, -Int.reducePow, -Nat.reducePow, cC, pv, binv, sMChk1, undef, g1]
  refine hK _ _ ?_
  clear hK K
  refine cv_gen fun G2 hG => ?_
  have g2_1 := congrFun hG 1
  have g2_11 := congrFun hG 11
  have g2_12 := congrFun hG 12
  have g2_13 := congrFun hG 13
  clear hG
  try simp -implicitDefEqProofs (disch := first | omega | decide) only [seval, -Int.reducePow, -Nat.reducePow, cC, pv, binv, sMChk1, undef, g1] at g2_1 g2_11 g2_12 g2_13
  have g2 := And.intro g2_1 (And.intro g2_11 (And.intro g2_12 g2_13))
  refine cv_block ?_
  refine cv_loop (fun F' L' => ∃ (k : Nat), F' 1 = G2 1 ∧ F' 11 = G2 11 ∧ F' 12 = G2 12 ∧ F' 13 = .int .i64 (k : Int) ∧ L' = [mBox b ⟨TA, tn, tc, ts, FA, fn, fc, gs⟩] ∧ k ≤ tn ∧ firstT ts = firstT (ts.drop k)) (fun F' L' => 40 - (intOf (F' 13)).toNat) ?_ ?_
  · refine ⟨0, ?_⟩
    simp -implicitDefEqProofs (disch := first | omega | decide) only [seval, -Int.reducePow, -Nat.reducePow, cC, pv, binv, sMChk1, undef, g2]
    omega
  intro G3 L' hI
  obtain ⟨k, q1, q11, q12, q13, rfl, ⟨hk, hf⟩⟩ := hI
  have g3_1 := q1.trans g2_1
  have g3_11 := q11.trans g2_11
  have g3_12 := q12.trans g2_12
  have g3_13 := q13
  clear q1 q11 q12 q13
  have g3 := And.intro g3_1 (And.intro g3_11 (And.intro g3_12 g3_13))
  refine cv_seq_k fun K hK => ?_
  refine cv_region_then rfl ?_
  simp -implicitDefEqProofs (disch := first | omega | decide) only [seval, -Int.reducePow, -Nat.reducePow, cC, pv, binv, sMChk1, undef, g2, g3]
  refine hK _ _ ?_
  clear hK K
  refine cv_seq_k fun K hK => ?_
  refine cv_cond ?_
  simp -implicitDefEqProofs (disch := first | omega | decide) only [seval, -Int.reducePow, -Nat.reducePow, cC, pv, binv, sMChk1, undef, g2, g3]
  refine ⟨fun hc => ?_, fun hc => ?_⟩
  · refine cv_skip ?_
    try simp only [blockQ, thenQ]
    have hlt2 : k < tn := by have := of_decide_eq_true ‹_›; omega
    obtain ⟨b0, off, rfl, hb0, -⟩ := hE.cells (by omega)
    obtain ⟨x, hx⟩ := some_of (l := ts) (i := k) (by omega)
    have hX := hty x (List.mem_of_getElem? hx)
    rw [drop_at' hx] at hf
    refine hK _ _ ?_
    clear hK K
    refine cv_seq_k fun K hK => ?_
    refine cv_block ?_
    refine cv_seq_k fun K hK => ?_
    refine cv_region_then rfl ?_
    simp -implicitDefEqProofs (disch := first | omega | decide) only [seval, -Int.reducePow, -Nat.reducePow, cC, pv, binv, sMChk1, undef, g2, g3]
    refine ⟨_, hE.tyl hx, fun tok htok => ?_⟩
    subst htok
    simp -implicitDefEqProofs (disch := first | omega | decide) only [seval, -Int.reducePow, -Nat.reducePow, cC, pv, binv, sMChk1, undef, g2, g3]
    intro b4 hb4 h4
    refine hK _ _ ?_
    clear hK K
    refine cv_seq_k fun K hK => ?_
    refine cv_region_then rfl ?_
    simp -implicitDefEqProofs (disch := first | omega | decide) only [seval, -Int.reducePow, -Nat.reducePow, cC, pv, binv, sMChk1, undef, g2, g3]
    refine callV_ret (fun w hw => check_any x.A x.n x.c x.fs x.len w (hX.at hw)) ?_
    try simp -implicitDefEqProofs (disch := first | omega | decide) only [seval, -Int.reducePow, -Nat.reducePow, cC, pv, binv, sMChk1, undef, g2, g3]
    refine hK _ _ ?_
    clear hK K
    refine cv_seq_k fun K hK => ?_
    refine cv_region_then rfl ?_
    simp -implicitDefEqProofs (disch := first | omega | decide) only [seval, -Int.reducePow, -Nat.reducePow, cC, pv, binv, sMChk1, undef, g2, g3]
    refine hK _ _ ?_
    clear hK K
    refine cv_cond ?_
    simp -implicitDefEqProofs (disch := first | omega | decide) only [seval, -Int.reducePow, -Nat.reducePow, cC, pv, binv, sMChk1, undef, g2, g3]
    refine ⟨fun hc => ?_, fun hc => ?_⟩
    · have hz : ¬ chk x.len x.fs = 0 := nd_true ‹(!decide (chk x.len x.fs = 0)) = true›
      rw [firstT_no _ hz] at hf
      refine cv_seq_k fun K hK => ?_
      refine cv_region_then rfl ?_
      simp -implicitDefEqProofs (disch := first | omega | decide) only [seval, -Int.reducePow, -Nat.reducePow, cC, pv, binv, sMChk1, undef, g2, g3]
      refine hK _ _ ?_
      clear hK K
      refine cv_ret ⟨_, (by simp -implicitDefEqProofs (disch := first | omega | decide) only [seval, -Int.reducePow, -Nat.reducePow, cC, pv, binv, sMChk1, undef, g2, g3]; rfl), fun w hw => ?_⟩
      exact ⟨by unfold chkP; dsimp only; rw [if_neg q1, hf, if_neg hz], hw.below⟩
    have hz : chk x.len x.fs = 0 := Decidable.not_not.1 (nd_false ‹(!decide (chk x.len x.fs = 0)) = false›)
    rw [firstT_yes _ hz] at hf
    refine cv_skip ?_
    try simp only [blockQ, thenQ]
    refine hK _ _ ?_
    clear hK K
    refine cv_pick [1] (by decide) ?_
    simp only [pickL, nth]
    refine cv_region_then rfl ?_
    simp -implicitDefEqProofs (disch := first | omega | decide) only [seval, -Int.reducePow, -Nat.reducePow, cC, pv, binv, sMChk1, undef, wrap_in, g2, g3]
    refine ⟨⟨k + 1, ?_⟩, ?_⟩
    · simp -implicitDefEqProofs (disch := first | omega | decide) only [seval, -Int.reducePow, -Nat.reducePow, cC, pv, binv, sMChk1, undef, Int.natCast_add, g2, g3]
      exact ⟨by omega, hf⟩
    · simp only [intOf]; omega
  refine cv_exit ?_
  simp only [blockQ, thenQ, if_true, ite_true]
  clear hK K
  refine hK _ _ ?_
  clear hK K
  obtain rfl : tn = k := by have := of_decide_eq_false ‹_›; omega
  rw [List.drop_of_length_le (by omega)] at hf
  have hf : firstT ts = 0 := hf
  refine cv_seq_k fun K hK => ?_
  refine cv_seq_k fun K hK => ?_
  refine cv_region_then rfl ?_
  simp -implicitDefEqProofs (disch := first | omega | decide) only [seval, -Int.reducePow, -Nat.reducePow, cC, pv, binv, sMChk1, undef, g2, g3]
  refine hK _ _ ?_
  clear hK K
  refine cv_cond ?_
  simp -implicitDefEqProofs (disch := first | omega | decide) only [seval, -Int.reducePow, -Nat.reducePow, cC, pv, binv, sMChk1, undef, g2, g3]
  refine ⟨fun hc => ?_, fun hc => ?_⟩
  · have q2 : gs.length = 0 := by have := of_decide_eq_true ‹_›; omega
    refine cv_seq_k fun K hK => ?_
    refine cv_region_then rfl ?_
    simp -implicitDefEqProofs (disch := first | omega | decide) only [seval, -Int.reducePow, -Nat.reducePow, cC, pv, binv, sMChk1, undef, g2, g3]
    refine hK _ _ ?_
    clear hK K
    refine cv_ret ⟨_, (by simp -implicitDefEqProofs (disch := first | omega | decide) only [seval, -Int.reducePow, -Nat.reducePow, cC, pv, binv, sMChk1, undef, g2, g3]; rfl), fun w hw => ?_⟩
    exact ⟨by unfold chkP; dsimp only; rw [if_neg q1, if_pos hf, if_pos q2], hw.below⟩
  have q2 : ¬ gs.length = 0 := by have := of_decide_eq_false ‹_›; omega
  refine cv_skip ?_
  try simp only [blockQ, thenQ]
  refine hK _ _ ?_
  clear hK K
  refine cv_seq_k fun K hK => ?_
  refine cv_seq_k fun K hK => ?_
  refine cv_region_then rfl ?_
  simp -implicitDefEqProofs (disch := first | omega | decide) only [seval, -Int.reducePow, -Nat.reducePow, cC, pv, binv, sMChk1, undef, g2, g3]
  refine hK _ _ ?_
  clear hK K
  refine cv_cond ?_
  simp -implicitDefEqProofs (disch := first | omega | decide) only [seval, -Int.reducePow, -Nat.reducePow, cC, pv, binv, sMChk1, undef, g2, g3]
  refine ⟨fun hc => ?_, fun hc => ?_⟩
  · have q3 : 32 < gs.length := by have := of_decide_eq_true ‹_›; omega
    refine cv_seq_k fun K hK => ?_
    refine cv_region_then rfl ?_
    simp -implicitDefEqProofs (disch := first | omega | decide) only [seval, -Int.reducePow, -Nat.reducePow, cC, pv, binv, sMChk1, undef, g2, g3]
    refine hK _ _ ?_
    clear hK K
    refine cv_ret ⟨_, (by simp -implicitDefEqProofs (disch := first | omega | decide) only [seval, -Int.reducePow, -Nat.reducePow, cC, pv, binv, sMChk1, undef, g2, g3]; rfl), fun w hw => ?_⟩
    exact ⟨by unfold chkP; dsimp only; rw [if_neg q1, if_pos hf, if_neg q2, if_pos q3], hw.below⟩
  have q3 : ¬ 32 < gs.length := by have := of_decide_eq_false ‹_›; omega
  refine cv_skip ?_
  try simp only [blockQ, thenQ]
  refine hK _ _ ?_
  clear hK K
  refine cv_seq_k fun K hK => ?_
  refine cv_region_then rfl ?_
  simp -implicitDefEqProofs (disch := first | omega | decide) only [seval, -Int.reducePow, -Nat.reducePow, cC, pv, binv, sMChk1, undef, g2, g3]
  refine hK _ _ ?_
  clear hK K
  refine cv_ret ⟨_, (by simp -implicitDefEqProofs (disch := first | omega | decide) only [seval, -Int.reducePow, -Nat.reducePow, cC, pv, binv, sMChk1, undef, g2, g3]; rfl), fun w hw => ?_⟩
  exact ⟨by unfold chkP; dsimp only; rw [if_neg q1, if_pos hf, if_neg q2, if_neg q3], hw.below⟩
set_option maxHeartbeats 2000000 in
theorem checkFunc_any (i : Int) (f : FnR) (W : World) (hl : f.code.length = f.n) : Calls Tryz.prog 37 #[.int .i64 i, fnV f] W fun e w' => e = .returned (.int .i64 (fnErr i f)) ∧ Below W.heap.size W w' := by
  refine calls_cv (M := []) (n := 59) [.tmp 4] rfl Tryz.func37 rfl rfl (Nat.le_of_ble_eq_true rfl) (St.nil _ _) ?_
  refine cv_seq_k fun K hK => ?_
  refine cv_region_then rfl ?_
  simp -implicitDefEqProofs (disch := first | omega | decide) only [seval, -Int.reducePow, -Nat.reducePow, cC, pv, binv, sMChk1, undef]
  intro b hb
  refine hK _ _ ?_
  clear hK K
  refine cv_gen fun G4 hG => ?_
  have g4_0 := congrFun hG 0
  have g4_3 := congrFun hG 3
  clear hG
  try simp -implicitDefEqProofs (disch := first | omega | decide) only [seval, -Int.reducePow, -Nat.reducePow, cC, pv, binv, sMChk1, undef] at g4_0 g4_3
  have g4 := And.intro g4_0 g4_3
  refine cv_seq_k fun K hK => ?_
  refine cv_block ?_
  refine cv_seq_k fun K hK => ?_
  refine cv_cut (fun _ _ => True) (fun F' L' => F' 0 = G4 0 ∧ F' 3 = G4 3 ∧ F' 5 = .bool (decide (f.p < 0 ∨ f.r < 0 ∨ f.l < 0)) ∧ L' = [gBox b f]) ?_ ?_
  · refine cv_region_then rfl ?_
    simp -implicitDefEqProofs (disch := first | omega | decide) only [seval, -Int.reducePow, -Nat.reducePow, cC, pv, binv, sMChk1, undef, g4]
    repeat' ((first | refine vcg_cases (fun hg => ?_) (fun hg => ?_) | refine vdg_cases (fun hg => ?_) (fun hg => ?_)) <;> ((try simp only [Bool.not_eq_true', Bool.not_eq_false', decide_eq_true_eq, decide_eq_false_iff_not] at hg); (try simp -implicitDefEqProofs (disch := first | omega | decide) only [seval, -Int.reducePow, -Nat.reducePow, cC, pv, binv, sMChk1, undef, hg, g4])))
    all_goals (repeat' refine And.intro ?_ ?_)
    all_goals (first | with_reducible rfl | (refine congrArg Value.bool ?_; rw [Bool.eq_iff_iff]; (try simp only [decide_eq_true_eq, eq_self, true_and, and_true, false_and, and_false, true_or, or_true, false_or, or_false, not_true_eq_false, not_false_eq_true, true_iff, iff_true, false_iff, iff_false, Bool.false_eq_true, Bool.not_eq_true', Bool.not_eq_true, decide_eq_false_iff_not, Bool.and_eq_true, Bool.or_eq_true]) <;> omega) | (refine congrArg (Value.int _) ?_; omega) | omega)
  intro G5 L' _ hF
  obtain ⟨q0, q3, q5, rfl⟩ := hF
  have g5_0 := q0.trans g4_0
  have g5_3 := q3.trans g4_3
  have g5_5 := q5
  clear q0 q3 q5
  have g5 := And.intro g5_0 (And.intro g5_3 g5_5)
  refine hK _ _ ?_
  clear hK K
  refine cv_cond ?_
  simp -implicitDefEqProofs (disch := first | omega | decide) only [seval, -Int.reducePow, -Nat.reducePow, cC, pv, binv, sMChk1, undef, g5]
  refine ⟨fun hc => ?_, fun hc => ?_⟩
  · have q1 := of_decide_eq_true ‹_›
    refine cv_seq_k fun K hK => ?_
    refine cv_region_then rfl ?_
    simp -implicitDefEqProofs (disch := first | omega | decide) only [seval, -Int.reducePow, -Nat.reducePow, cC, pv, binv, sMChk1, undef, g5]
    refine hK _ _ ?_
    clear hK K
    refine cv_ret ⟨_, (by simp -implicitDefEqProofs (disch := first | omega | decide) only [seval, -Int.reducePow, -Nat.reducePow, cC, pv, binv, sMChk1, undef, g5]; rfl), fun w hw => ?_⟩
    exact ⟨by unfold fnErr; rw [if_pos q1], hw.below⟩
  have q1 := of_decide_eq_false ‹_›
  refine cv_seq_k fun K hK => ?_
  refine cv_cut (fun _ _ => True) (fun F' L' => F' 0 = G5 0 ∧ F' 3 = G5 3 ∧ F' 19 = .bool (decide (64 < f.p ∨ 64 - f.p < f.l ∨ 8 < f.r)) ∧ L' = [gBox b f]) ?_ ?_
  · refine cv_region_then rfl ?_
    simp -implicitDefEqProofs (disch := first | omega | decide) only [seval, -Int.reducePow, -Nat.reducePow, cC, pv, binv, sMChk1, undef, g5]
    repeat' ((first | refine vcg_cases (fun hg => ?_) (fun hg => ?_) | refine vdg_cases (fun hg => ?_) (fun hg => ?_)) <;> ((try simp only [Bool.not_eq_true', Bool.not_eq_false', decide_eq_true_eq, decide_eq_false_iff_not] at hg); (try simp -implicitDefEqProofs (disch := first | omega | decide) only [seval, -Int.reducePow, -Nat.reducePow, cC, pv, binv, sMChk1, undef, hg, wrap_in, g5])))
    all_goals (repeat' refine And.intro ?_ ?_)
    all_goals (first | with_reducible rfl | (refine congrArg Value.bool ?_; rw [Bool.eq_iff_iff]; (try simp only [decide_eq_true_eq, eq_self, true_and, and_true, false_and, and_false, true_or, or_true, false_or, or_false, not_true_eq_false, not_false_eq_true, true_iff, iff_true, false_iff, iff_false, Bool.false_eq_true, Bool.not_eq_true', Bool.not_eq_true, decide_eq_false_iff_not, Bool.and_eq_true, Bool.or_eq_true]) <;> omega) | (refine congrArg (Value.int _) ?_; omega) | omega)
  intro G6 L' _ hF
  obtain ⟨q0, q3, q19, rfl⟩ := hF
  have g6_0 := q0.trans g5_0
  have g6_3 := q3.trans g5_3
  have g6_19 := q19
  clear q0 q3 q19
  have g6 := And.intro g6_0 (And.intro g6_3 g6_19)
  refine hK _ _ ?_
  clear hK K
  refine cv_cond ?_
  simp -implicitDefEqProofs (disch := first | omega | decide) only [seval, -Int.reducePow, -Nat.reducePow, cC, pv, binv, sMChk1, undef, g6]
  refine ⟨fun hc => ?_, fun hc => ?_⟩
  · have q2 := of_decide_eq_true ‹_›
    refine cv_seq_k fun K hK => ?_
    refine cv_region_then rfl ?_
    simp -implicitDefEqProofs (disch := first | omega | decide) only [seval, -Int.reducePow, -Nat.reducePow, cC, pv, binv, sMChk1, undef, g6]
    refine hK _ _ ?_
    clear hK K
    refine cv_ret ⟨_, (by simp -implicitDefEqProofs (disch := first | omega | decide) only [seval, -Int.reducePow, -Nat.reducePow, cC, pv, binv, sMChk1, undef, g6]; rfl), fun w hw => ?_⟩
    exact ⟨by unfold fnErr; rw [if_neg q1, if_pos q2], hw.below⟩
  have q2 := of_decide_eq_false ‹_›
  refine cv_seq_k fun K hK => ?_
  refine cv_cut (fun _ _ => True) (fun F' L' => F' 3 = G6 3 ∧ F' 36 = .bool (decide (i = 0 ∧ (¬ f.p = 0 ∨ ¬ f.r = 0))) ∧ L' = [gBox b f]) ?_ ?_
  · refine cv_region_then rfl ?_
    simp -implicitDefEqProofs (disch := first | omega | decide) only [seval, -Int.reducePow, -Nat.reducePow, cC, pv, binv, sMChk1, undef, g6]
    repeat' ((first | refine vcg_cases (fun hg => ?_) (fun hg => ?_) | refine vdg_cases (fun hg => ?_) (fun hg => ?_)) <;> ((try simp only [Bool.not_eq_true', Bool.not_eq_false', decide_eq_true_eq, decide_eq_false_iff_not] at hg); (try simp -implicitDefEqProofs (disch := first | omega | decide) only [seval, -Int.reducePow, -Nat.reducePow, cC, pv, binv, sMChk1, undef, hg, g6])))
    all_goals (repeat' refine And.intro ?_ ?_)
    all_goals (first | with_reducible rfl | (refine congrArg Value.bool ?_; rw [Bool.eq_iff_iff]; (try simp only [decide_eq_true_eq, eq_self, true_and, and_true, false_and, and_false, true_or, or_true, false_or, or_false, not_true_eq_false, not_false_eq_true, true_iff, iff_true, false_iff, iff_false, Bool.false_eq_true, Bool.not_eq_true', Bool.not_eq_true, decide_eq_false_iff_not, Bool.and_eq_true, Bool.or_eq_true]) <;> omega) | (refine congrArg (Value.int _) ?_; omega) | omega)
  intro G7 L' _ hF
  obtain ⟨q3, q36, rfl⟩ := hF
  have g7_3 := q3.trans g6_3
  have g7_36 := q36
  clear q3 q36
  have g7 := And.intro g7_3 g7_36
  refine hK _ _ ?_
  clear hK K
  refine cv_cond ?_
  simp -implicitDefEqProofs (disch := first | omega | decide) only [seval, -Int.reducePow, -Nat.reducePow, cC, pv, binv, sMChk1, undef, g7]
  refine ⟨fun hc => ?_, fun hc => ?_⟩
  · have q3 := of_decide_eq_true ‹_›
    refine cv_seq_k fun K hK => ?_
    refine cv_region_then rfl ?_
    simp -implicitDefEqProofs (disch := first | omega | decide) only [seval, -Int.reducePow, -Nat.reducePow, cC, pv, binv, sMChk1, undef, g7]
    refine hK _ _ ?_
    clear hK K
    refine cv_ret ⟨_, (by simp -implicitDefEqProofs (disch := first | omega | decide) only [seval, -Int.reducePow, -Nat.reducePow, cC, pv, binv, sMChk1, undef, g7]; rfl), fun w hw => ?_⟩
    exact ⟨by unfold fnErr; rw [if_neg q1, if_neg q2, if_pos q3], hw.below⟩
  have q3 := of_decide_eq_false ‹_›
  refine cv_seq_k fun K hK => ?_
  refine cv_region_then rfl ?_
  simp -implicitDefEqProofs (disch := first | omega | decide) only [seval, -Int.reducePow, -Nat.reducePow, cC, pv, binv, sMChk1, undef, g7]
  refine hK _ _ ?_
  clear hK K
  refine cv_cond ?_
  simp -implicitDefEqProofs (disch := first | omega | decide) only [seval, -Int.reducePow, -Nat.reducePow, cC, pv, binv, sMChk1, undef, g7]
  refine ⟨fun hc => ?_, fun hc => ?_⟩
  · have q4 : f.code.length = 0 := by have := of_decide_eq_true ‹_›; omega
    refine cv_seq_k fun K hK => ?_
    refine cv_region_then rfl ?_
    simp -implicitDefEqProofs (disch := first | omega | decide) only [seval, -Int.reducePow, -Nat.reducePow, cC, pv, binv, sMChk1, undef, g7]
    refine hK _ _ ?_
    clear hK K
    refine cv_ret ⟨_, (by simp -implicitDefEqProofs (disch := first | omega | decide) only [seval, -Int.reducePow, -Nat.reducePow, cC, pv, binv, sMChk1, undef, g7]; rfl), fun w hw => ?_⟩
    exact ⟨by unfold fnErr; rw [if_neg q1, if_neg q2, if_neg q3, if_pos q4], hw.below⟩
  have q4 : ¬ f.code.length = 0 := by have := of_decide_eq_false ‹_›; omega
  refine cv_seq_k fun K hK => ?_
  refine cv_region_then rfl ?_
  simp -implicitDefEqProofs (disch := first | omega | decide) only [seval, -Int.reducePow, -Nat.reducePow, cC, pv, binv, sMChk1, undef, g7]
  refine hK _ _ ?_
  clear hK K
  refine cv_cond ?_
  simp -implicitDefEqProofs (disch := first | omega | decide) only [seval, -Int.reducePow, -Nat.reducePow, cC, pv, binv, sMChk1, undef, g7]
  refine ⟨fun hc => ?_, fun hc => ?_⟩
  · have q5 : 1024 < f.code.length := by have := of_decide_eq_true ‹_›; omega
    refine cv_seq_k fun K hK => ?_
    refine cv_region_then rfl ?_
    simp -implicitDefEqProofs (disch := first | omega | decide) only [seval, -Int.reducePow, -Nat.reducePow, cC, pv, binv, sMChk1, undef, g7]
    refine hK _ _ ?_
    clear hK K
    refine cv_ret ⟨_, (by simp -implicitDefEqProofs (disch := first | omega | decide) only [seval, -Int.reducePow, -Nat.reducePow, cC, pv, binv, sMChk1, undef, g7]; rfl), fun w hw => ?_⟩
    exact ⟨by unfold fnErr; rw [if_neg q1, if_neg q2, if_neg q3, if_neg q4, if_pos q5], hw.below⟩
  have q5 : ¬ 1024 < f.code.length := by have := of_decide_eq_false ‹_›; omega
  refine cv_skip ?_
  try simp only [blockQ, thenQ]
  refine hK _ _ ?_
  clear hK K
  refine cv_seq_k fun K hK => ?_
  refine cv_region_then rfl ?_
  simp -implicitDefEqProofs (disch := first | omega | decide) only [seval, -Int.reducePow, -Nat.reducePow, cC, pv, binv, sMChk1, undef, g7]
  refine hK _ _ ?_
  clear hK K
  refine cv_ret ⟨_, (by simp -implicitDefEqProofs (disch := first | omega | decide) only [seval, -Int.reducePow, -Nat.reducePow, cC, pv, binv, sMChk1, undef, g7]; rfl), fun w hw => ?_⟩
  exact ⟨by unfold fnErr; rw [if_neg q1, if_neg q2, if_neg q3, if_neg q4, if_neg q5], hw.below⟩
set_option maxHeartbeats 4000000 in
theorem mcheck_any (m : ModR) (W : World) (hM : Mod W W.heap.size m) : Calls Tryz.prog 19 #[modV m] W fun e w' => e = .returned (fltV (chkM m)) ∧ Below W.heap.size W w' := by
  have hlg := hM.glen
  have hG := hM.gs
  have hfn := hM.fn
  have hMat := fun {L : List Res} {w : World} (hw : St [] W L w) => hM.at hw
  obtain ⟨p, hp⟩ : ∃ p, chkP m = p := ⟨_, rfl⟩
  obtain ⟨TA, tn, tc, ts, FA, fn, fc, gs⟩ := m
  dsimp only at *
  refine calls_cv2 (M := []) (n := 51) [.cell 2 45] rfl Tryz.func19 rfl rfl (Nat.le_of_ble_eq_true rfl) (St.nil _ _) ?_
  refine cv_seq_k fun K hK => ?_
  refine cv_region_then rfl ?_
  simp -implicitDefEqProofs (disch := first | omega | decide) only [seval, -Int.reducePow, -Nat.reducePow, cC, pv, binv, sMChk1, undef]
  intro b1 hb1 b2 hb2 h2
  refine hK _ _ ?_
  clear hK K
  refine cv_gen fun G8 hG => ?_
  have g8_1 := congrFun hG 1
  have g8_2 := congrFun hG 2
  clear hG
  try simp -implicitDefEqProofs (disch := first | omega | decide) only [seval, -Int.reducePow, -Nat.reducePow, cC, pv, binv, sMChk1, undef] at g8_1 g8_2
  have g8 := And.intro g8_1 g8_2
  refine cv_seq_k fun K hK => ?_
  refine cv_seq_k fun K hK => ?_
  refine cv_region_then rfl ?_
  simp -implicitDefEqProofs (disch := first | omega | decide) only [seval, -Int.reducePow, -Nat.reducePow, cC, pv, binv, sMChk1, undef, g8]
  refine callV_ret (fun w hw => checkParts_any ⟨TA, tn, tc, ts, FA, fn, fc, gs⟩ w (hMat hw)) ?_
  try simp -implicitDefEqProofs (disch := first | omega | decide) only [seval, -Int.reducePow, -Nat.reducePow, cC, pv, binv, sMChk1, undef, hp, g8]
  refine hK _ _ ?_
  clear hK K
  refine cv_seq_k fun K hK => ?_
  refine cv_region_then rfl ?_
  simp -implicitDefEqProofs (disch := first | omega | decide) only [seval, -Int.reducePow, -Nat.reducePow, cC, pv, binv, sMChk1, undef, g8]
  refine hK _ _ ?_
  clear hK K
  refine cv_cond ?_
  simp -implicitDefEqProofs (disch := first | omega | decide) only [seval, -Int.reducePow, -Nat.reducePow, cC, pv, binv, sMChk1, undef, g8]
  refine ⟨fun hc => ?_, fun hc => ?_⟩
  · have hz : ¬ p = 0 := nd_true ‹(!decide (p = 0)) = true›
    refine cv_seq_k fun K hK => ?_
    refine cv_region_then rfl ?_
    simp -implicitDefEqProofs (disch := first | omega | decide) only [seval, -Int.reducePow, -Nat.reducePow, cC, pv, binv, sMChk1, undef, g8]
    refine hK _ _ ?_
    clear hK K
    refine cv_ret ?_
    simp -implicitDefEqProofs (disch := first | omega | decide) only [seval, -Int.reducePow, -Nat.reducePow, cC, pv, binv, sMChk1, undef, retQ2, ressV, packV, g8]
    intro w hw
    exact ⟨by unfold chkM; rw [hp, if_neg hz]; rfl, hw.below⟩
  have hz : p = 0 := Decidable.not_not.1 (nd_false ‹(!decide (p = 0)) = false›)
  have hC : chkM ⟨TA, tn, tc, ts, FA, fn, fc, gs⟩ = firstF 0 gs := by unfold chkM; rw [hp, if_pos hz]
  have hb32 : gs.length ≤ 32 := by
    rw [hz] at hp
    unfold chkP at hp
    dsimp only at hp
    repeat' split at hp
    all_goals first | (cases hp; done) | omega
  refine cv_skip ?_
  try simp only [blockQ, thenQ]
  refine hK _ _ ?_
  clear hK K
  refine cv_seq_k fun K hK => ?_
  refine cv_seq_k fun K hK => ?_
  refine cv_region_then rfl ?_
  simp -implicitDefEqProofs (disch := first | omega | decide) only [seval, -Int.reducePow, -Nat.reducePow, cC, pv, binv, sMChk1, undef, g8]
  refine hK _ _ ?_
  clear hK K
  refine cv_gen fun G9 hG => ?_
  have g9_2 := congrFun hG 2
  have g9_17 := congrFun hG 17
  have g9_18 := congrFun hG 18
  have g9_19 := congrFun hG 19
  clear hG
  try simp -implicitDefEqProofs (disch := first | omega | decide) only [seval, -Int.reducePow, -Nat.reducePow, cC, pv, binv, sMChk1, undef, g8] at g9_2 g9_17 g9_18 g9_19
  have g9 := And.intro g9_2 (And.intro g9_17 (And.intro g9_18 g9_19))
  refine cv_block ?_
  refine cv_loop (fun F' L' => ∃ (k : Nat), F' 2 = G9 2 ∧ F' 17 = G9 17 ∧ F' 18 = G9 18 ∧ F' 19 = .int .i64 (k : Int) ∧ L' = [flBox b2 0 0 0, mBox b1 ⟨TA, tn, tc, ts, FA, fn, fc, gs⟩] ∧ k ≤ fn ∧ firstF 0 gs = firstF k (gs.drop k)) (fun F' L' => 40 - (intOf (F' 19)).toNat) ?_ ?_
  · refine ⟨0, ?_⟩
    simp -implicitDefEqProofs (disch := first | omega | decide) only [seval, -Int.reducePow, -Nat.reducePow, cC, pv, binv, sMChk1, undef, g9]
    omega
  intro G10 L' hI
  obtain ⟨k, q2, q17, q18, q19, rfl, ⟨hk, hf⟩⟩ := hI
  have g10_2 := q2.trans g9_2
  have g10_17 := q17.trans g9_17
  have g10_18 := q18.trans g9_18
  have g10_19 := q19
  clear q2 q17 q18 q19
  have g10 := And.intro g10_2 (And.intro g10_17 (And.intro g10_18 g10_19))
  refine cv_seq_k fun K hK => ?_
  refine cv_region_then rfl ?_
  simp -implicitDefEqProofs (disch := first | omega | decide) only [seval, -Int.reducePow, -Nat.reducePow, cC, pv, binv, sMChk1, undef, g9, g10]
  refine hK _ _ ?_
  clear hK K
  refine cv_seq_k fun K hK => ?_
  refine cv_cond ?_
  simp -implicitDefEqProofs (disch := first | omega | decide) only [seval, -Int.reducePow, -Nat.reducePow, cC, pv, binv, sMChk1, undef, g9, g10]
  refine ⟨fun hc => ?_, fun hc => ?_⟩
  · refine cv_skip ?_
    try simp only [blockQ, thenQ]
    have hlt : k < fn := by have := of_decide_eq_true ‹_›; omega
    obtain ⟨b0, off, rfl, hb0, -⟩ := hG.cells (by omega)
    obtain ⟨x, hx⟩ := some_of (l := gs) (i := k) (by omega)
    have hX := hfn x (List.mem_of_getElem? hx)
    have hxl : x.code.length = x.n := cl_row insc_len (by omega) hX.len
    rw [drop_at' hx] at hf
    refine hK _ _ ?_
    clear hK K
    refine cv_seq_k fun K hK => ?_
    refine cv_block ?_
    refine cv_seq_k fun K hK => ?_
    refine cv_region_then rfl ?_
    simp -implicitDefEqProofs (disch := first | omega | decide) only [seval, -Int.reducePow, -Nat.reducePow, cC, pv, binv, sMChk1, undef, g9, g10]
    refine ⟨_, hG.fnl hx, fun tok htok => ?_⟩
    subst htok
    simp -implicitDefEqProofs (disch := first | omega | decide) only [seval, -Int.reducePow, -Nat.reducePow, cC, pv, binv, sMChk1, undef, g9, g10]
    intro b5 hb5 h5
    refine hK _ _ ?_
    clear hK K
    refine cv_seq_k fun K hK => ?_
    refine cv_seq_k fun K hK => ?_
    refine cv_region_then rfl ?_
    simp -implicitDefEqProofs (disch := first | omega | decide) only [seval, -Int.reducePow, -Nat.reducePow, cC, pv, binv, sMChk1, undef, g9, g10]
    refine callV_ret (fun w hw => checkFunc_any (k : Int) x w hxl) ?_
    try simp -implicitDefEqProofs (disch := first | omega | decide) only [seval, -Int.reducePow, -Nat.reducePow, cC, pv, binv, sMChk1, undef, g9, g10]
    refine hK _ _ ?_
    clear hK K
    refine cv_seq_k fun K hK => ?_
    refine cv_region_then rfl ?_
    simp -implicitDefEqProofs (disch := first | omega | decide) only [seval, -Int.reducePow, -Nat.reducePow, cC, pv, binv, sMChk1, undef, g9, g10]
    refine hK _ _ ?_
    clear hK K
    refine cv_cond ?_
    simp -implicitDefEqProofs (disch := first | omega | decide) only [seval, -Int.reducePow, -Nat.reducePow, cC, pv, binv, sMChk1, undef, g9, g10]
    refine ⟨fun hc => ?_, fun hc => ?_⟩
    · have hz2 : ¬ fnErr k x = 0 := nd_true ‹(!decide (fnErr (k : Int) x = 0)) = true›
      have hff : fltF k x = (fnErr k x, (k : Int), -1) := by unfold fltF; rw [if_neg hz2]
      rw [firstF_no _ (by rw [hff]; exact hz2), hff] at hf
      refine cv_seq_k fun K hK => ?_
      refine cv_region_then rfl ?_
      simp -implicitDefEqProofs (disch := first | omega | decide) only [seval, -Int.reducePow, -Nat.reducePow, cC, pv, binv, sMChk1, undef, g9, g10]
      refine hK _ _ ?_
      clear hK K
      refine cv_ret ?_
      simp -implicitDefEqProofs (disch := first | omega | decide) only [seval, -Int.reducePow, -Nat.reducePow, cC, pv, binv, sMChk1, undef, retQ2, ressV, packV, g9, g10]
      intro w hw
      exact ⟨by rw [hC, hf]; rfl, hw.below⟩
    have hz2 : fnErr k x = 0 := Decidable.not_not.1 (nd_false ‹(!decide (fnErr (k : Int) x = 0)) = false›)
    have hx1024 := (fnErr_ok hz2).2.2.2.2.2.2.2.1
    refine cv_skip ?_
    try simp only [blockQ, thenQ]
    refine hK _ _ ?_
    clear hK K
    refine cv_seq_k fun K hK => ?_
    refine cv_region_then rfl ?_
    simp -implicitDefEqProofs (disch := first | omega | decide) only [seval, -Int.reducePow, -Nat.reducePow, cC, pv, binv, sMChk1, undef, g9, g10]
    refine hK _ _ ?_
    clear hK K
    refine cv_gen fun G11 hG => ?_
    have g11_2 := congrFun hG 2
    have g11_4 := congrFun hG 4
    have g11_17 := congrFun hG 17
    have g11_18 := congrFun hG 18
    have g11_19 := congrFun hG 19
    have g11_33 := congrFun hG 33
    have g11_34 := congrFun hG 34
    have g11_35 := congrFun hG 35
    clear hG
    try simp -implicitDefEqProofs (disch := first | omega | decide) only [seval, -Int.reducePow, -Nat.reducePow, cC, pv, binv, sMChk1, undef, g9, g10] at g11_2 g11_4 g11_17 g11_18 g11_19 g11_33 g11_34 g11_35
    have g11 := And.intro g11_2 (And.intro g11_4 (And.intro g11_17 (And.intro g11_18 (And.intro g11_19 (And.intro g11_33 (And.intro g11_34 g11_35))))))
    refine cv_block ?_
    refine cv_loop (fun F' L' => ∃ (j : Nat), F' 2 = G11 2 ∧ F' 4 = G11 4 ∧ F' 17 = G11 17 ∧ F' 18 = G11 18 ∧ F' 19 = G11 19 ∧ F' 33 = G11 33 ∧ F' 34 = G11 34 ∧ F' 35 = .int .i64 (j : Int) ∧ L' = [gBox b5 x, flBox b2 0 0 0, mBox b1 ⟨TA, tn, tc, ts, some ⟨b0, off, none⟩, fn, fc, gs⟩] ∧ j ≤ x.n ∧ firstI 0 x.code = firstI j (x.code.drop j)) (fun F' L' => 1100 - (intOf (F' 35)).toNat) ?_ ?_
    · refine ⟨0, ?_⟩
      simp -implicitDefEqProofs (disch := first | omega | decide) only [seval, -Int.reducePow, -Nat.reducePow, cC, pv, binv, sMChk1, undef, g9, g10, g11]
      omega
    intro G12 L' hI
    obtain ⟨j, q2, q4, q17, q18, q19, q33, q34, q35, rfl, ⟨hj, hi⟩⟩ := hI
    have g12_2 := q2.trans g11_2
    have g12_4 := q4.trans g11_4
    have g12_17 := q17.trans g11_17
    have g12_18 := q18.trans g11_18
    have g12_19 := q19.trans g11_19
    have g12_33 := q33.trans g11_33
    have g12_34 := q34.trans g11_34
    have g12_35 := q35
    clear q2 q4 q17 q18 q19 q33 q34 q35
    have g12 := And.intro g12_2 (And.intro g12_4 (And.intro g12_17 (And.intro g12_18 (And.intro g12_19 (And.intro g12_33 (And.intro g12_34 g12_35))))))
    refine cv_seq_k fun K hK => ?_
    refine cv_region_then rfl ?_
    simp -implicitDefEqProofs (disch := first | omega | decide) only [seval, -Int.reducePow, -Nat.reducePow, cC, pv, binv, sMChk1, undef, g9, g10, g11, g12]
    refine hK _ _ ?_
    clear hK K
    refine cv_seq_k fun K hK => ?_
    refine cv_cond ?_
    simp -implicitDefEqProofs (disch := first | omega | decide) only [seval, -Int.reducePow, -Nat.reducePow, cC, pv, binv, sMChk1, undef, g9, g10, g11, g12]
    refine ⟨fun hc => ?_, fun hc => ?_⟩
    · refine cv_skip ?_
      try simp only [blockQ, thenQ]
      have hjt : j < x.n := by have := of_decide_eq_true ‹decide ((j : Int) < (x.n : Int)) = true›; omega
      obtain ⟨xb, xo, hxA, hxb, -⟩ := hX.cells (by omega)
      obtain ⟨y, hy⟩ := some_of (l := x.code) (i := j) (by omega)
      rw [drop_at' hy] at hi
      have hX' := hX
      rw [hxA] at hX'
      refine hK _ _ ?_
      clear hK K
      refine cv_seq_k fun K hK => ?_
      refine cv_block ?_
      refine cv_seq_k fun K hK => ?_
      refine cv_region_then rfl ?_
      simp -implicitDefEqProofs (disch := first | omega | decide) only [seval, -Int.reducePow, -Nat.reducePow, cC, pv, binv, sMChk1, undef, hxA, g9, g10, g11, g12]
      refine ⟨_, hX'.ins hy, fun tok htok => ?_⟩
      subst htok
      simp -implicitDefEqProofs (disch := first | omega | decide) only [seval, -Int.reducePow, -Nat.reducePow, cC, pv, binv, sMChk1, undef, g9, g10, g11, g12]
      intro b8 hb8 h8
      refine hK _ _ ?_
      clear hK K
      refine cv_seq_k fun K hK => ?_
      refine cv_region_then rfl ?_
      simp -implicitDefEqProofs (disch := first | omega | decide) only [seval, -Int.reducePow, -Nat.reducePow, cC, pv, binv, sMChk1, undef, g9, g10, g11, g12]
      refine callV_ret (fun w hw => i_icheck_any y w) ?_
      try simp -implicitDefEqProofs (disch := first | omega | decide) only [seval, -Int.reducePow, -Nat.reducePow, cC, pv, binv, sMChk1, undef, g9, g10, g11, g12]
      refine hK _ _ ?_
      clear hK K
      refine cv_seq_k fun K hK => ?_
      refine cv_region_then rfl ?_
      simp -implicitDefEqProofs (disch := first | omega | decide) only [seval, -Int.reducePow, -Nat.reducePow, cC, pv, binv, sMChk1, undef, g9, g10, g11, g12]
      refine hK _ _ ?_
      clear hK K
      refine cv_cond ?_
      simp -implicitDefEqProofs (disch := first | omega | decide) only [seval, -Int.reducePow, -Nat.reducePow, cC, pv, binv, sMChk1, undef, g9, g10, g11, g12]
      refine ⟨fun hc => ?_, fun hc => ?_⟩
      · have hz3 : ¬ y.err = 0 := nd_true ‹(!decide (y.err = 0)) = true›
        rw [firstI_no _ hz3] at hi
        have hff : fltF k x = (y.err, (k : Int), (j : Int)) := by unfold fltF; rw [if_pos hz2, hi, if_neg hz3]
        rw [firstF_no _ (by rw [hff]; exact hz3), hff] at hf
        refine cv_seq_k fun K hK => ?_
        refine cv_region_then rfl ?_
        simp -implicitDefEqProofs (disch := first | omega | decide) only [seval, -Int.reducePow, -Nat.reducePow, cC, pv, binv, sMChk1, undef, g9, g10, g11, g12]
        refine hK _ _ ?_
        clear hK K
        refine cv_ret ?_
        simp -implicitDefEqProofs (disch := first | omega | decide) only [seval, -Int.reducePow, -Nat.reducePow, cC, pv, binv, sMChk1, undef, retQ2, ressV, packV, g9, g10, g11, g12]
        intro w hw
        exact ⟨by rw [hC, hf]; rfl, hw.below⟩
      have hz3 : y.err = 0 := Decidable.not_not.1 (nd_false ‹(!decide (y.err = 0)) = false›)
      rw [firstI_yes _ hz3] at hi
      refine cv_skip ?_
      try simp only [blockQ, thenQ]
      refine hK _ _ ?_
      clear hK K
      refine cv_pick [1, 2, 3] (by decide) ?_
      simp only [pickL, nth]
      refine cv_region_then rfl ?_
      simp -implicitDefEqProofs (disch := first | omega | decide) only [seval, -Int.reducePow, -Nat.reducePow, cC, pv, binv, sMChk1, undef, wrap_in, g9, g10, g11, g12]
      refine ⟨⟨j + 1, ?_⟩, ?_⟩
      · simp -implicitDefEqProofs (disch := first | omega | decide) only [seval, -Int.reducePow, -Nat.reducePow, cC, pv, binv, sMChk1, undef, Int.natCast_add, g9, g10, g11, g12]
        exact ⟨by first | rfl | rw [hxA], by omega, hi⟩
      · simp only [intOf]; omega
    refine cv_exit ?_
    simp only [blockQ, thenQ, if_true, ite_true]
    clear hK K
    refine hK _ _ ?_
    clear hK K
    have hje : j = x.n := by have := of_decide_eq_false ‹decide ((j : Int) < (x.n : Int)) = false›; omega
    rw [List.drop_of_length_le (by omega)] at hi
    have hff : fltF k x = fineF := by unfold fltF; rw [if_pos hz2, hi]; rfl
    rw [firstF_yes _ (by rw [hff]; rfl)] at hf
    refine cv_pick [1, 2] (by decide) ?_
    simp only [pickL, nth]
    refine cv_region_then rfl ?_
    simp -implicitDefEqProofs (disch := first | omega | decide) only [seval, -Int.reducePow, -Nat.reducePow, cC, pv, binv, sMChk1, undef, wrap_in, g9, g10, g11, g12]
    refine ⟨⟨k + 1, ?_⟩, ?_⟩
    · simp -implicitDefEqProofs (disch := first | omega | decide) only [seval, -Int.reducePow, -Nat.reducePow, cC, pv, binv, sMChk1, undef, Int.natCast_add, g9, g10, g11, g12]
      exact ⟨by omega, hf⟩
    · simp only [intOf]; omega
  refine cv_exit ?_
  simp only [blockQ, thenQ, if_true, ite_true]
  clear hK K
  refine hK _ _ ?_
  clear hK K
  obtain rfl : fn = k := by have := of_decide_eq_false ‹_›; omega
  rw [List.drop_of_length_le (by omega)] at hf
  refine cv_seq_k fun K hK => ?_
  refine cv_region_then rfl ?_
  simp -implicitDefEqProofs (disch := first | omega | decide) only [seval, -Int.reducePow, -Nat.reducePow, cC, pv, binv, sMChk1, undef, g9, g10]
  refine hK _ _ ?_
  clear hK K
  refine cv_ret ?_
  simp -implicitDefEqProofs (disch := first | omega | decide) only [seval, -Int.reducePow, -Nat.reducePow, cC, pv, binv, sMChk1, undef, retQ2, ressV, packV, g9, g10]
  intro w hw
  exact ⟨by rw [hC, hf]; rfl, hw.below⟩
end Go.Proofs.YtlbmnioibiomfaaGreat
/- The reference's instructions. -/
namespace Go.Proofs.YtlbmnioibiomfaaGreat
open Go.RowKit Go.Shelf
set_option linter.unusedVariables false
set_option linter.unusedSimpArgs false
set_option maxRecDepth 100000
set_option maxRecDepth 100000 in
theorem sRIns1 : type_of% (And.intro (And.intro @iBox.eq_1 @insV.eq_1) (And.intro @uV.eq_1 @Nat.mul_one)) := (And.intro (And.intro @iBox.eq_1 @insV.eq_1) (And.intro @uV.eq_1 @Nat.mul_one))
theorem r_known_any (op : Int) (W : World) : Calls Tryz.prog 68 #[.int .i64 op] W fun e w' => e = .returned (.bool (decide (knownP op))) ∧ Below W.heap.size W w' := by
  refine calls_cv (M := []) (n := 9) [.tmp 2] rfl Tryz.func68 rfl rfl (Nat.le_of_ble_eq_true rfl) (St.nil _ _) ?_
  refine cv_seq_k fun K hK => ?_
  refine cv_region_then rfl ?_
  simp -implicitDefEqProofs (disch := first | omega | decide) only [seval, -Int.reducePow, -Nat.reducePow, cC, pv, binv, sRIns1, undef]
  refine hK _ _ ?_
  clear hK K
  refine cv_gen fun G1 hG => ?_
  have g1_0 := congrFun hG 0
  clear hG
  try simp -implicitDefEqProofs (disch := first | omega | decide) only [seval, -Int.reducePow, -Nat.reducePow, cC, pv, binv, sRIns1, undef] at g1_0
  have g1 := g1_0
  refine cv_seq_k fun K hK => ?_
  refine cv_cut (fun _ _ => True) (fun F' L' => F' 2 = .bool (decide (knownP op)) ∧ L' = []) ?_ ?_
  · refine cv_region_then rfl ?_
    simp -implicitDefEqProofs (disch := first | omega | decide) only [seval, -Int.reducePow, -Nat.reducePow, cC, pv, binv, sRIns1, undef, g1]
    repeat' ((first | refine vcg_cases (fun hg => ?_) (fun hg => ?_) | refine vdg_cases (fun hg => ?_) (fun hg => ?_)) <;> ((try simp only [Bool.not_eq_true', Bool.not_eq_false', decide_eq_true_eq, decide_eq_false_iff_not] at hg); (try simp -implicitDefEqProofs (disch := first | omega | decide) only [seval, -Int.reducePow, -Nat.reducePow, cC, pv, binv, sRIns1, undef, hg, g1])))
    all_goals (repeat' refine And.intro ?_ ?_)
    all_goals (first | with_reducible rfl | (refine congrArg Value.bool ?_; rw [Bool.eq_iff_iff]; (try simp only [knownP, decide_eq_true_eq, eq_self, true_and, and_true, false_and, and_false, true_or, or_true, false_or, or_false, not_true_eq_false, not_false_eq_true, true_iff, iff_true, false_iff, iff_false, Bool.false_eq_true, Bool.not_eq_true', Bool.not_eq_true, decide_eq_false_iff_not, Bool.and_eq_true, Bool.or_eq_true]) <;> omega) | (refine congrArg (Value.int _) ?_; omega) | omega)
  intro G2 L' _ hF
  obtain ⟨q2, rfl⟩ := hF
  have g2_2 := q2
  clear q2
  have g2 := g2_2
  refine hK _ _ ?_
  clear hK K
  refine cv_ret ⟨_, (by simp -implicitDefEqProofs (disch := first | omega | decide) only [seval, -Int.reducePow, -Nat.reducePow, cC, pv, binv, sRIns1, undef, g2]; rfl), fun w hw => ?_⟩
  exact ⟨rfl, hw.below⟩
theorem r_hasArg_any (op : Int) (W : World) : Calls Tryz.prog 47 #[.int .i64 op] W fun e w' => e = .returned (.bool (decide (argP op))) ∧ Below W.heap.size W w' := by
  refine calls_cv (M := []) (n := 12) [.tmp 2] rfl Tryz.func47 rfl rfl (Nat.le_of_ble_eq_true rfl) (St.nil _ _) ?_
  refine cv_seq_k fun K hK => ?_
  refine cv_region_then rfl ?_
  simp -implicitDefEqProofs (disch := first | omega | decide) only [seval, -Int.reducePow, -Nat.reducePow, cC, pv, binv, sRIns1, undef]
  refine hK _ _ ?_
  clear hK K
  refine cv_seq_k fun K hK => ?_
  refine cv_seq_k fun K hK => ?_
  refine cv_region_then rfl ?_
  simp -implicitDefEqProofs (disch := first | omega | decide) only [seval, -Int.reducePow, -Nat.reducePow, cC, pv, binv, sRIns1, undef]
  refine hK _ _ ?_
  clear hK K
  refine cv_gen fun G3 hG => ?_
  have g3_3 := congrFun hG 3
  clear hG
  try simp -implicitDefEqProofs (disch := first | omega | decide) only [seval, -Int.reducePow, -Nat.reducePow, cC, pv, binv, sRIns1, undef] at g3_3
  have g3 := g3_3
  refine cv_block ?_
  refine cv_seq_k fun K hK => ?_
  refine cv_cut (fun _ _ => True) (fun F' L' => F' 3 = G3 3 ∧ F' 4 = .bool (decide (op = 1 ∨ op = 2 ∨ op = 3 ∨ op = 19 ∨ op = 20 ∨ op = 21 ∨ op = 23)) ∧ L' = []) ?_ ?_
  · refine cv_seq_k fun K hK => ?_
    refine cv_region_then rfl ?_
    simp -implicitDefEqProofs (disch := first | omega | decide) only [seval, -Int.reducePow, -Nat.reducePow, cC, pv, binv, sRIns1, undef, g3]
    refine hK _ _ ?_
    clear hK K
    refine cv_cond ?_
    simp -implicitDefEqProofs (disch := first | omega | decide) only [seval, -Int.reducePow, -Nat.reducePow, cC, pv, binv, sRIns1, undef, g3]
    refine ⟨fun hc => ?_, fun hc => ?_⟩
    · have q0 := of_decide_eq_true ‹_›
      refine cv_skip ?_
      try simp only [blockQ, thenQ]
      simp -implicitDefEqProofs (disch := first | omega | decide) only [seval, -Int.reducePow, -Nat.reducePow, cC, pv, binv, sRIns1, undef, g3]
      all_goals (repeat' refine And.intro ?_ ?_)
      all_goals (first | with_reducible rfl | (refine congrArg Value.bool ?_; rw [Bool.eq_iff_iff]; (try simp only [decide_eq_true_eq, eq_self, true_and, and_true, false_and, and_false, true_or, or_true, false_or, or_false, not_true_eq_false, not_false_eq_true, true_iff, iff_true, false_iff, iff_false, Bool.false_eq_true, Bool.not_eq_true', Bool.not_eq_true, decide_eq_false_iff_not, Bool.and_eq_true, Bool.or_eq_true]) <;> omega) | (refine congrArg (Value.int _) ?_; omega) | omega)
    have q0 := of_decide_eq_false ‹_›
    refine cv_seq_k fun K hK => ?_
    refine cv_region_then rfl ?_
    simp -implicitDefEqProofs (disch := first | omega | decide) only [seval, -Int.reducePow, -Nat.reducePow, cC, pv, binv, sRIns1, undef, g3]
    refine hK _ _ ?_
    clear hK K
    refine cv_cond ?_
    simp -implicitDefEqProofs (disch := first | omega | decide) only [seval, -Int.reducePow, -Nat.reducePow, cC, pv, binv, sRIns1, undef, g3]
    refine ⟨fun hc => ?_, fun hc => ?_⟩
    · have q1 := of_decide_eq_true ‹_›
      refine cv_skip ?_
      try simp only [blockQ, thenQ]
      simp -implicitDefEqProofs (disch := first | omega | decide) only [seval, -Int.reducePow, -Nat.reducePow, cC, pv, binv, sRIns1, undef, g3]
      all_goals (repeat' refine And.intro ?_ ?_)
      all_goals (first | with_reducible rfl | (refine congrArg Value.bool ?_; rw [Bool.eq_iff_iff]; (try simp only [decide_eq_true_eq, eq_self, true_and, and_true, false_and, and_false, true_or, or_true, false_or, or_false, not_true_eq_false, not_false_eq_true, true_iff, iff_true, false_iff, iff_false, Bool.false_eq_true, Bool.not_eq_true', Bool.not_eq_true, decide_eq_false_iff_not, Bool.and_eq_true, Bool.or_eq_true]) <;> omega) | (refine congrArg (Value.int _) ?_; omega) | omega)
    have q1 := of_decide_eq_false ‹_›
    refine cv_seq_k fun K hK => ?_
    refine cv_region_then rfl ?_
    simp -implicitDefEqProofs (disch := first | omega | decide) only [seval, -Int.reducePow, -Nat.reducePow, cC, pv, binv, sRIns1, undef, g3]
    refine hK _ _ ?_
    clear hK K
    refine cv_cond ?_
    simp -implicitDefEqProofs (disch := first | omega | decide) only [seval, -Int.reducePow, -Nat.reducePow, cC, pv, binv, sRIns1, undef, g3]
    refine ⟨fun hc => ?_, fun hc => ?_⟩
    · have q2 := of_decide_eq_true ‹_›
      refine cv_skip ?_
      try simp only [blockQ, thenQ]
      simp -implicitDefEqProofs (disch := first | omega | decide) only [seval, -Int.reducePow, -Nat.reducePow, cC, pv, binv, sRIns1, undef, g3]
      all_goals (repeat' refine And.intro ?_ ?_)
      all_goals (first | with_reducible rfl | (refine congrArg Value.bool ?_; rw [Bool.eq_iff_iff]; (try simp only [decide_eq_true_eq, eq_self, true_and, and_true, false_and, and_false, true_or, or_true, false_or, or_false, not_true_eq_false, not_false_eq_true, true_iff, iff_true, false_iff, iff_false, Bool.false_eq_true, Bool.not_eq_true', Bool.not_eq_true, decide_eq_false_iff_not, Bool.and_eq_true, Bool.or_eq_true]) <;> omega) | (refine congrArg (Value.int _) ?_; omega) | omega)
    have q2 := of_decide_eq_false ‹_›
    refine cv_seq_k fun K hK => ?_
    refine cv_region_then rfl ?_
    simp -implicitDefEqProofs (disch := first | omega | decide) only [seval, -Int.reducePow, -Nat.reducePow, cC, pv, binv, sRIns1, undef, g3]
    refine hK _ _ ?_
    clear hK K
    refine cv_cond ?_
    simp -implicitDefEqProofs (disch := first | omega | decide) only [seval, -Int.reducePow, -Nat.reducePow, cC, pv, binv, sRIns1, undef, g3]
    refine ⟨fun hc => ?_, fun hc => ?_⟩
    · have q3 := of_decide_eq_true ‹_›
      refine cv_skip ?_
      try simp only [blockQ, thenQ]
      simp -implicitDefEqProofs (disch := first | omega | decide) only [seval, -Int.reducePow, -Nat.reducePow, cC, pv, binv, sRIns1, undef, g3]
      all_goals (repeat' refine And.intro ?_ ?_)
      all_goals (first | with_reducible rfl | (refine congrArg Value.bool ?_; rw [Bool.eq_iff_iff]; (try simp only [decide_eq_true_eq, eq_self, true_and, and_true, false_and, and_false, true_or, or_true, false_or, or_false, not_true_eq_false, not_false_eq_true, true_iff, iff_true, false_iff, iff_false, Bool.false_eq_true, Bool.not_eq_true', Bool.not_eq_true, decide_eq_false_iff_not, Bool.and_eq_true, Bool.or_eq_true]) <;> omega) | (refine congrArg (Value.int _) ?_; omega) | omega)
    have q3 := of_decide_eq_false ‹_›
    refine cv_seq_k fun K hK => ?_
    refine cv_region_then rfl ?_
    simp -implicitDefEqProofs (disch := first | omega | decide) only [seval, -Int.reducePow, -Nat.reducePow, cC, pv, binv, sRIns1, undef, g3]
    refine hK _ _ ?_
    clear hK K
    refine cv_cond ?_
    simp -implicitDefEqProofs (disch := first | omega | decide) only [seval, -Int.reducePow, -Nat.reducePow, cC, pv, binv, sRIns1, undef, g3]
    refine ⟨fun hc => ?_, fun hc => ?_⟩
    · have q4 := of_decide_eq_true ‹_›
      refine cv_skip ?_
      try simp only [blockQ, thenQ]
      simp -implicitDefEqProofs (disch := first | omega | decide) only [seval, -Int.reducePow, -Nat.reducePow, cC, pv, binv, sRIns1, undef, g3]
      all_goals (repeat' refine And.intro ?_ ?_)
      all_goals (first | with_reducible rfl | (refine congrArg Value.bool ?_; rw [Bool.eq_iff_iff]; (try simp only [decide_eq_true_eq, eq_self, true_and, and_true, false_and, and_false, true_or, or_true, false_or, or_false, not_true_eq_false, not_false_eq_true, true_iff, iff_true, false_iff, iff_false, Bool.false_eq_true, Bool.not_eq_true', Bool.not_eq_true, decide_eq_false_iff_not, Bool.and_eq_true, Bool.or_eq_true]) <;> omega) | (refine congrArg (Value.int _) ?_; omega) | omega)
    have q4 := of_decide_eq_false ‹_›
    refine cv_seq_k fun K hK => ?_
    refine cv_region_then rfl ?_
    simp -implicitDefEqProofs (disch := first | omega | decide) only [seval, -Int.reducePow, -Nat.reducePow, cC, pv, binv, sRIns1, undef, g3]
    refine hK _ _ ?_
    clear hK K
    refine cv_cond ?_
    simp -implicitDefEqProofs (disch := first | omega | decide) only [seval, -Int.reducePow, -Nat.reducePow, cC, pv, binv, sRIns1, undef, g3]
    refine ⟨fun hc => ?_, fun hc => ?_⟩
    · have q5 := of_decide_eq_true ‹_›
      refine cv_skip ?_
      try simp only [blockQ, thenQ]
      simp -implicitDefEqProofs (disch := first | omega | decide) only [seval, -Int.reducePow, -Nat.reducePow, cC, pv, binv, sRIns1, undef, g3]
      all_goals (repeat' refine And.intro ?_ ?_)
      all_goals (first | with_reducible rfl | (refine congrArg Value.bool ?_; rw [Bool.eq_iff_iff]; (try simp only [decide_eq_true_eq, eq_self, true_and, and_true, false_and, and_false, true_or, or_true, false_or, or_false, not_true_eq_false, not_false_eq_true, true_iff, iff_true, false_iff, iff_false, Bool.false_eq_true, Bool.not_eq_true', Bool.not_eq_true, decide_eq_false_iff_not, Bool.and_eq_true, Bool.or_eq_true]) <;> omega) | (refine congrArg (Value.int _) ?_; omega) | omega)
    have q5 := of_decide_eq_false ‹_›
    refine cv_region_q rfl ?_
    simp -implicitDefEqProofs (disch := first | omega | decide) only [seval, -Int.reducePow, -Nat.reducePow, cC, pv, binv, sRIns1, undef, g3]
    all_goals (repeat' refine And.intro ?_ ?_)
    all_goals (first | with_reducible rfl | (refine congrArg Value.bool ?_; rw [Bool.eq_iff_iff]; (try simp only [decide_eq_true_eq, eq_self, true_and, and_true, false_and, and_false, true_or, or_true, false_or, or_false, not_true_eq_false, not_false_eq_true, true_iff, iff_true, false_iff, iff_false, Bool.false_eq_true, Bool.not_eq_true', Bool.not_eq_true, decide_eq_false_iff_not, Bool.and_eq_true, Bool.or_eq_true]) <;> omega) | (refine congrArg (Value.int _) ?_; omega) | omega)
  intro G4 L' _ hF
  obtain ⟨q3, q4, rfl⟩ := hF
  have g4_3 := q3.trans g3_3
  have g4_4 := q4
  clear q3 q4
  have g4 := And.intro g4_3 g4_4
  refine hK _ _ ?_
  clear hK K
  refine cv_cond ?_
  simp -implicitDefEqProofs (disch := first | omega | decide) only [seval, -Int.reducePow, -Nat.reducePow, cC, pv, binv, sRIns1, undef, g4]
  refine ⟨fun hc => ?_, fun hc => ?_⟩
  · have h := of_decide_eq_true hc
    refine cv_seq_k fun K hK => ?_
    refine cv_region_then rfl ?_
    simp -implicitDefEqProofs (disch := first | omega | decide) only [seval, -Int.reducePow, -Nat.reducePow, cC, pv, binv, sRIns1, undef, g4]
    refine hK _ _ ?_
    clear hK K
    refine cv_ret ⟨_, (by simp -implicitDefEqProofs (disch := first | omega | decide) only [seval, -Int.reducePow, -Nat.reducePow, cC, pv, binv, sRIns1, undef, g4]; rfl), fun w hw => ?_⟩
    exact ⟨by rw [decide_eq_true h], hw.below⟩
  have h := of_decide_eq_false hc
  refine cv_skip ?_
  try simp only [blockQ, thenQ]
  refine hK _ _ ?_
  clear hK K
  refine cv_seq_k fun K hK => ?_
  refine cv_region_then rfl ?_
  simp -implicitDefEqProofs (disch := first | omega | decide) only [seval, -Int.reducePow, -Nat.reducePow, cC, pv, binv, sRIns1, undef, g4]
  refine hK _ _ ?_
  clear hK K
  refine cv_ret ⟨_, (by simp -implicitDefEqProofs (disch := first | omega | decide) only [seval, -Int.reducePow, -Nat.reducePow, cC, pv, binv, sRIns1, undef, g4]; rfl), fun w hw => ?_⟩
  exact ⟨by rw [decide_eq_false h], hw.below⟩
theorem r_icheck_any (i : Ins) (W : World) : Calls Tryz.prog 46 #[insV i] W fun e w' => e = .returned (.int .i64 i.err) ∧ Below W.heap.size W w' := by
  refine calls_cv (M := []) (n := 16) [.tmp 2] rfl Tryz.func46 rfl rfl (Nat.le_of_ble_eq_true rfl) (St.nil _ _) ?_
  refine cv_seq_k fun K hK => ?_
  refine cv_region_then rfl ?_
  simp -implicitDefEqProofs (disch := first | omega | decide) only [seval, -Int.reducePow, -Nat.reducePow, cC, pv, binv, sRIns1, undef]
  intro b hb
  refine hK _ _ ?_
  clear hK K
  refine cv_gen fun G5 hG => ?_
  have g5_1 := congrFun hG 1
  clear hG
  try simp -implicitDefEqProofs (disch := first | omega | decide) only [seval, -Int.reducePow, -Nat.reducePow, cC, pv, binv, sRIns1, undef] at g5_1
  have g5 := g5_1
  refine cv_seq_k fun K hK => ?_
  refine cv_seq_k fun K hK => ?_
  refine cv_region_then rfl ?_
  simp -implicitDefEqProofs (disch := first | omega | decide) only [seval, -Int.reducePow, -Nat.reducePow, cC, pv, binv, sRIns1, undef, g5]
  refine callV_ret (fun w hw => r_known_any i.op w) ?_
  try simp -implicitDefEqProofs (disch := first | omega | decide) only [seval, -Int.reducePow, -Nat.reducePow, cC, pv, binv, sRIns1, undef, g5]
  refine hK _ _ ?_
  clear hK K
  refine cv_cond ?_
  simp -implicitDefEqProofs (disch := first | omega | decide) only [seval, -Int.reducePow, -Nat.reducePow, cC, pv, binv, sRIns1, undef, g5]
  refine ⟨fun hc => ?_, fun hc => ?_⟩
  · have h : ¬ knownP i.op := nd_true hc
    refine cv_seq_k fun K hK => ?_
    refine cv_region_then rfl ?_
    simp -implicitDefEqProofs (disch := first | omega | decide) only [seval, -Int.reducePow, -Nat.reducePow, cC, pv, binv, sRIns1, undef, g5]
    refine hK _ _ ?_
    clear hK K
    refine cv_ret ⟨_, (by simp -implicitDefEqProofs (disch := first | omega | decide) only [seval, -Int.reducePow, -Nat.reducePow, cC, pv, binv, sRIns1, undef, g5]; rfl), fun w hw => ?_⟩
    exact ⟨by unfold Ins.err; rw [if_pos h], hw.below⟩
  have h : ¬ ¬ knownP i.op := nd_false hc
  refine cv_skip ?_
  try simp only [blockQ, thenQ]
  refine hK _ _ ?_
  clear hK K
  refine cv_seq_k fun K hK => ?_
  refine cv_seq_k fun K hK => ?_
  by_cases ha : argP i.op
  · have ha' : decide (argP i.op) = true := decide_eq_true ha
    refine cv_region_then rfl ?_
    simp -implicitDefEqProofs (disch := first | omega | decide) only [seval, -Int.reducePow, -Nat.reducePow, cC, pv, binv, sRIns1, undef, g5]
    refine callV_ret (fun w hw => r_hasArg_any i.op w) ?_
    try simp -implicitDefEqProofs (disch := first | omega | decide) only [seval, -Int.reducePow, -Nat.reducePow, cC, pv, binv, sRIns1, undef, ha', g5]
    refine hK _ _ ?_
    clear hK K
    refine cv_cond ?_
    simp -implicitDefEqProofs (disch := first | omega | decide) only [seval, -Int.reducePow, -Nat.reducePow, cC, pv, binv, sRIns1, undef, g5]
    refine cv_skip ?_
    try simp only [blockQ, thenQ]
    refine hK _ _ ?_
    clear hK K
    refine cv_seq_k fun K hK => ?_
    refine cv_region_then rfl ?_
    simp -implicitDefEqProofs (disch := first | omega | decide) only [seval, -Int.reducePow, -Nat.reducePow, cC, pv, binv, sRIns1, undef, g5]
    refine hK _ _ ?_
    clear hK K
    refine cv_ret ⟨_, (by simp -implicitDefEqProofs (disch := first | omega | decide) only [seval, -Int.reducePow, -Nat.reducePow, cC, pv, binv, sRIns1, undef, g5]; rfl), fun w hw => ?_⟩
    exact ⟨by unfold Ins.err; rw [if_neg h, if_neg (by rintro ⟨h1, -⟩; exact h1 ha)], hw.below⟩
  · have ha' : decide (argP i.op) = false := decide_eq_false ha
    refine cv_region_then rfl ?_
    simp -implicitDefEqProofs (disch := first | omega | decide) only [seval, -Int.reducePow, -Nat.reducePow, cC, pv, binv, sRIns1, undef, g5]
    refine callV_ret (fun w hw => r_hasArg_any i.op w) ?_
    try simp -implicitDefEqProofs (disch := first | omega | decide) only [seval, -Int.reducePow, -Nat.reducePow, cC, pv, binv, sRIns1, undef, ha', g5]
    refine hK _ _ ?_
    clear hK K
    refine cv_cond ?_
    simp -implicitDefEqProofs (disch := first | omega | decide) only [seval, -Int.reducePow, -Nat.reducePow, cC, pv, binv, sRIns1, undef, g5]
    refine ⟨fun hc => ?_, fun hc => ?_⟩
    · have hz : ¬ i.arg = 0 := by simp at hc; omega
      refine cv_seq_k fun K hK => ?_
      refine cv_region_then rfl ?_
      simp -implicitDefEqProofs (disch := first | omega | decide) only [seval, -Int.reducePow, -Nat.reducePow, cC, pv, binv, sRIns1, undef, g5]
      refine hK _ _ ?_
      clear hK K
      refine cv_ret ⟨_, (by simp -implicitDefEqProofs (disch := first | omega | decide) only [seval, -Int.reducePow, -Nat.reducePow, cC, pv, binv, sRIns1, undef, g5]; rfl), fun w hw => ?_⟩
      exact ⟨by unfold Ins.err; rw [if_neg h, if_pos ⟨ha, hz⟩], hw.below⟩
    have hz : i.arg = 0 := by simp at hc; omega
    refine cv_skip ?_
    try simp only [blockQ, thenQ]
    refine hK _ _ ?_
    clear hK K
    refine cv_seq_k fun K hK => ?_
    refine cv_region_then rfl ?_
    simp -implicitDefEqProofs (disch := first | omega | decide) only [seval, -Int.reducePow, -Nat.reducePow, cC, pv, binv, sRIns1, undef, g5]
    refine hK _ _ ?_
    clear hK K
    refine cv_ret ⟨_, (by simp -implicitDefEqProofs (disch := first | omega | decide) only [seval, -Int.reducePow, -Nat.reducePow, cC, pv, binv, sRIns1, undef, g5]; rfl), fun w hw => ?_⟩
    exact ⟨by unfold Ins.err; rw [if_neg h, if_neg (by rintro ⟨-, h1⟩; exact h1 hz)], hw.below⟩
end Go.Proofs.YtlbmnioibiomfaaGreat
/- The reference's layouts: width, up, places, Check. -/
namespace Go.Proofs.YtlbmnioibiomfaaGreat
open Go.RowKit Go.Shelf
set_option linter.unusedVariables false
set_option linter.unusedSimpArgs false
set_option maxRecDepth 100000

set_option maxRecDepth 100000 in
theorem sRLay1 : type_of% (And.intro (And.intro @fBox.eq_1 @tBox.eq_1) (And.intro @pBox.eq_1 (And.intro @fdV.eq_1 @tyV.eq_1))) := (And.intro (And.intro @fBox.eq_1 @tBox.eq_1) (And.intro @pBox.eq_1 (And.intro @fdV.eq_1 @tyV.eq_1)))
theorem rwidth_any (f : Fd) (W : World) (he : f.err = 0) : Calls Tryz.prog 66 #[fdV f] W fun e w' => e = .returned (.tuple #[.int .i64 f.wid, .int .i64 f.ali]) ∧ Below W.heap.size W w' := by
  have hz := Fd.err_zero he
  refine calls_cv (M := []) (n := 17) [.tmp 2, .tmp 3] rfl Tryz.func66 rfl rfl (Nat.le_of_ble_eq_true rfl) (St.nil _ _) ?_
  refine cv_seq_k fun K hK => ?_
  refine cv_region_then rfl ?_
  simp -implicitDefEqProofs (disch := first | omega | decide) only [seval, -Int.reducePow, -Nat.reducePow, cC, pv, binv, sRLay1, undef]
  intro b hb
  refine hK _ _ ?_
  clear hK K
  refine cv_seq_k fun K hK => ?_
  refine cv_seq_k fun K hK => ?_
  refine cv_region_then rfl ?_
  simp -implicitDefEqProofs (disch := first | omega | decide) only [seval, -Int.reducePow, -Nat.reducePow, cC, pv, binv, sRLay1, undef]
  refine hK _ _ ?_
  clear hK K
  refine cv_gen fun G1 hG => ?_
  have g1_1 := congrFun hG 1
  have g1_5 := congrFun hG 5
  clear hG
  try simp -implicitDefEqProofs (disch := first | omega | decide) only [seval, -Int.reducePow, -Nat.reducePow, cC, pv, binv, sRLay1, undef] at g1_1 g1_5
  have g1 := And.intro g1_1 g1_5
  refine cv_block ?_
  refine cv_seq_k fun K hK => ?_
  refine cv_region_then rfl ?_
  simp -implicitDefEqProofs (disch := first | omega | decide) only [seval, -Int.reducePow, -Nat.reducePow, cC, pv, binv, sRLay1, undef, g1]
  refine hK _ _ ?_
  clear hK K
  refine cv_cond ?_
  simp -implicitDefEqProofs (disch := first | omega | decide) only [seval, -Int.reducePow, -Nat.reducePow, cC, pv, binv, sRLay1, undef, g1]
  refine ⟨fun hc => ?_, fun hc => ?_⟩
  · refine cv_seq_k fun K hK => ?_
    refine cv_region_then rfl ?_
    simp -implicitDefEqProofs (disch := first | omega | decide) only [seval, -Int.reducePow, -Nat.reducePow, cC, pv, binv, sRLay1, undef, g1]
    refine hK _ _ ?_
    clear hK K
    refine cv_ret ⟨_, (by simp -implicitDefEqProofs (disch := first | omega | decide) only [seval, -Int.reducePow, -Nat.reducePow, cC, pv, binv, sRLay1, undef, g1]; rfl), fun w hw => ?_⟩
    exact ⟨by simp [Fd.wid, Fd.ali, of_decide_eq_true hc], hw.below⟩
  · have q1 := of_decide_eq_false hc
    refine cv_seq_k fun K hK => ?_
    refine cv_region_then rfl ?_
    simp -implicitDefEqProofs (disch := first | omega | decide) only [seval, -Int.reducePow, -Nat.reducePow, cC, pv, binv, sRLay1, undef, g1]
    refine hK _ _ ?_
    clear hK K
    refine cv_cond ?_
    simp -implicitDefEqProofs (disch := first | omega | decide) only [seval, -Int.reducePow, -Nat.reducePow, cC, pv, binv, sRLay1, undef, g1]
    refine ⟨fun hc => ?_, fun hc => ?_⟩
    · refine cv_seq_k fun K hK => ?_
      refine cv_region_then rfl ?_
      simp -implicitDefEqProofs (disch := first | omega | decide) only [seval, -Int.reducePow, -Nat.reducePow, cC, pv, binv, sRLay1, undef, g1]
      refine hK _ _ ?_
      clear hK K
      refine cv_ret ⟨_, (by simp -implicitDefEqProofs (disch := first | omega | decide) only [seval, -Int.reducePow, -Nat.reducePow, cC, pv, binv, sRLay1, undef, g1]; rfl), fun w hw => ?_⟩
      exact ⟨by simp [Fd.wid, Fd.ali, q1, of_decide_eq_true ‹_›], hw.below⟩
    · have q2 := of_decide_eq_false ‹_›
      refine cv_seq_k fun K hK => ?_
      refine cv_region_then rfl ?_
      simp -implicitDefEqProofs (disch := first | omega | decide) only [seval, -Int.reducePow, -Nat.reducePow, cC, pv, binv, sRLay1, undef, g1]
      refine hK _ _ ?_
      clear hK K
      refine cv_cond ?_
      simp -implicitDefEqProofs (disch := first | omega | decide) only [seval, -Int.reducePow, -Nat.reducePow, cC, pv, binv, sRLay1, undef, g1]
      refine ⟨fun hc => ?_, fun hc => ?_⟩
      · refine cv_seq_k fun K hK => ?_
        refine cv_region_then rfl ?_
        simp -implicitDefEqProofs (disch := first | omega | decide) only [seval, -Int.reducePow, -Nat.reducePow, cC, pv, binv, sRLay1, undef, g1]
        refine hK _ _ ?_
        clear hK K
        refine cv_ret ⟨_, (by simp -implicitDefEqProofs (disch := first | omega | decide) only [seval, -Int.reducePow, -Nat.reducePow, cC, pv, binv, sRLay1, undef, g1]; rfl), fun w hw => ?_⟩
        exact ⟨by simp [Fd.wid, Fd.ali, q1, q2, of_decide_eq_true ‹_›], hw.below⟩
      · have q3 := of_decide_eq_false ‹_›
        refine cv_gen fun G2 hG => ?_
        have g2_1 := congrFun hG 1
        have g2_5 := congrFun hG 5
        clear hG
        try simp -implicitDefEqProofs (disch := first | omega | decide) only [seval, -Int.reducePow, -Nat.reducePow, cC, pv, binv, sRLay1, undef, g1] at g2_1 g2_5
        have g2 := And.intro g2_1 g2_5
        refine cv_seq_k fun K hK => ?_
        refine cv_cut (fun _ _ => True) (fun F' L' => F' 1 = G2 1 ∧ F' 5 = G2 5 ∧ F' 12 = .bool (decide (f.kind = 4 ∨ f.kind = 5)) ∧ L' = [fBox b f]) ?_ ?_
        · refine cv_seq_k fun K hK => ?_
          refine cv_region_then rfl ?_
          simp -implicitDefEqProofs (disch := first | omega | decide) only [seval, -Int.reducePow, -Nat.reducePow, cC, pv, binv, sRLay1, undef, g2]
          refine hK _ _ ?_
          clear hK K
          refine cv_cond ?_
          simp -implicitDefEqProofs (disch := first | omega | decide) only [seval, -Int.reducePow, -Nat.reducePow, cC, pv, binv, sRLay1, undef, g2]
          refine ⟨fun hc => ?_, fun hc => ?_⟩
          · have q4 := of_decide_eq_true ‹_›
            refine cv_skip ?_
            try simp only [blockQ, thenQ]
            simp -implicitDefEqProofs (disch := first | omega | decide) only [seval, -Int.reducePow, -Nat.reducePow, cC, pv, binv, sRLay1, undef, g2]
            all_goals (repeat' refine And.intro ?_ ?_)
            all_goals (first | with_reducible rfl | (refine congrArg Value.bool ?_; rw [Bool.eq_iff_iff]; (try simp only [decide_eq_true_eq, eq_self, true_and, and_true, false_and, and_false, true_or, or_true, false_or, or_false, not_true_eq_false, not_false_eq_true, true_iff, iff_true, false_iff, iff_false, Bool.false_eq_true, Bool.not_eq_true', Bool.not_eq_true, decide_eq_false_iff_not, Bool.and_eq_true, Bool.or_eq_true]) <;> omega) | (refine congrArg (Value.int _) ?_; omega) | omega)
          · have q4 := of_decide_eq_false ‹_›
            refine cv_region_q rfl ?_
            simp -implicitDefEqProofs (disch := first | omega | decide) only [seval, -Int.reducePow, -Nat.reducePow, cC, pv, binv, sRLay1, undef, g2]
            all_goals (repeat' refine And.intro ?_ ?_)
            all_goals (first | with_reducible rfl | (refine congrArg Value.bool ?_; rw [Bool.eq_iff_iff]; (try simp only [decide_eq_true_eq, eq_self, true_and, and_true, false_and, and_false, true_or, or_true, false_or, or_false, not_true_eq_false, not_false_eq_true, true_iff, iff_true, false_iff, iff_false, Bool.false_eq_true, Bool.not_eq_true', Bool.not_eq_true, decide_eq_false_iff_not, Bool.and_eq_true, Bool.or_eq_true]) <;> omega) | (refine congrArg (Value.int _) ?_; omega) | omega)
        · intro G3 L' _ hF
          obtain ⟨q1, q5, q12, rfl⟩ := hF
          have g3_1 := q1.trans g2_1
          have g3_5 := q5.trans g2_5
          have g3_12 := q12
          clear q1 q5 q12
          have g3 := And.intro g3_1 (And.intro g3_5 g3_12)
          refine hK _ _ ?_
          clear hK K
          refine cv_cond ?_
          simp -implicitDefEqProofs (disch := first | omega | decide) only [seval, -Int.reducePow, -Nat.reducePow, cC, pv, binv, sRLay1, undef, g3]
          refine ⟨fun hc => ?_, fun hc => ?_⟩
          · have q5 := of_decide_eq_true ‹_›
            have q6 : ¬ f.kind = 6 := by omega
            refine cv_seq_k fun K hK => ?_
            refine cv_region_then rfl ?_
            simp -implicitDefEqProofs (disch := first | omega | decide) only [seval, -Int.reducePow, -Nat.reducePow, cC, pv, binv, sRLay1, undef, g3]
            refine hK _ _ ?_
            clear hK K
            refine cv_ret ⟨_, (by simp -implicitDefEqProofs (disch := first | omega | decide) only [seval, -Int.reducePow, -Nat.reducePow, cC, pv, binv, sRLay1, undef, g3]; rfl), fun w hw => ?_⟩
            exact ⟨by simp [Fd.wid, Fd.ali, q1, q2, q3, q6], hw.below⟩
          · have q5 := of_decide_eq_false ‹_›
            have q6 : f.kind = 6 := by omega
            refine cv_skip ?_
            try simp only [blockQ, thenQ]
            refine hK _ _ ?_
            clear hK K
            refine cv_seq_k fun K hK => ?_
            refine cv_region_then rfl ?_
            simp -implicitDefEqProofs (disch := first | omega | decide) only [seval, -Int.reducePow, -Nat.reducePow, cC, pv, binv, sRLay1, undef, g3]
            refine hK _ _ ?_
            clear hK K
            refine cv_ret ⟨_, (by simp -implicitDefEqProofs (disch := first | omega | decide) only [seval, -Int.reducePow, -Nat.reducePow, cC, pv, binv, sRLay1, undef, g3]; rfl), fun w hw => ?_⟩
            exact ⟨by simp [Fd.wid, Fd.ali, q6], hw.below⟩
theorem rup_any (n a : Int) (W : World) (hn : 0 ≤ n ∧ n ≤ 1000000000) (ha : 1 ≤ a ∧ a ≤ 100) : Calls Tryz.prog 91 #[.int .i64 n, .int .i64 a] W fun e w' => e = .returned (.int .i64 (upI n a)) ∧ Below W.heap.size W w' := by
  have hr := upI_rng hn.1 ha.1
  have h0 : 0 ≤ (n + a - 1) / a ∧ (n + a - 1) / a ≤ n + a - 1 := ⟨Int.ediv_nonneg (by omega) (by omega), Int.ediv_le_self _ (by omega)⟩
  have h1 : IntKind.i64.wrap ((n + a - 1) / a) = (n + a - 1) / a := wrap_in (by omega) (by omega)
  have h2 : IntKind.i64.wrap ((n + a - 1) / a * a) = upI n a := wrap_in (by unfold upI at hr; omega) (by unfold upI at hr; omega)
  refine calls_cv (M := []) (n := 13) [.tmp 4] rfl Tryz.func91 rfl rfl (Nat.le_of_ble_eq_true rfl) (St.nil _ _) ?_
  refine cv_seq_k fun K hK => ?_
  refine cv_region_then rfl ?_
  simp -implicitDefEqProofs (disch := first | omega | decide) only [seval, -Int.reducePow, -Nat.reducePow, cC, pv, binv, sRLay1, undef]
  refine hK _ _ ?_
  clear hK K
  refine cv_seq_k fun K hK => ?_
  refine cv_region_then rfl ?_
  simp -implicitDefEqProofs (disch := first | omega | decide) only [seval, -Int.reducePow, -Nat.reducePow, cC, pv, binv, sRLay1, undef, h1, h2, wrap_in]
  refine hK _ _ ?_
  clear hK K
  refine cv_ret ⟨_, (by simp -implicitDefEqProofs (disch := first | omega | decide) only [seval, -Int.reducePow, -Nat.reducePow, cC, pv, binv, sRLay1, undef]; rfl), fun w hw => ?_⟩
  exact ⟨rfl, hw.below⟩
set_option maxHeartbeats 4000000 in
theorem rplaces_any (A : Option Addr) (n c : Nat) (fs : List Fd) (W : World) (hE : Sl W W.heap.size 2 A n c (cl fdc fs)) (hn : n ≤ 40) (hok : okFs fs) :
    Calls Tryz.prog 67 #[tyV 0 A n c] W fun e w' => (∃ v, e = .returned (.tuple #[v, .int .i64 (sizeF fs)]) ∧ True) ∧ Below W.heap.size W w' := by
  have hln : fs.length = n := cl_row fdc_len (by omega) hE.len
  refine calls_cv (M := []) (n := 89) [.tmp 2, .tmp 3] rfl Tryz.func67 rfl rfl (Nat.le_of_ble_eq_true rfl) (St.nil _ _) ?_
  refine cv_seq_k fun K hK => ?_
  refine cv_region_then rfl ?_
  simp -implicitDefEqProofs (disch := first | omega | decide) only [seval, -Int.reducePow, -Nat.reducePow, cC, pv, binv, sRLay1, undef]
  intro b hb
  refine hK _ _ ?_
  clear hK K
  refine cv_seq_k fun K hK => ?_
  refine cv_region_then rfl ?_
  simp -implicitDefEqProofs (disch := first | omega | decide) only [seval, -Int.reducePow, -Nat.reducePow, cC, pv, binv, sRLay1, undef]
  refine hK _ _ ?_
  clear hK K
  refine cv_seq_k fun K hK => ?_
  refine cv_seq_k fun K hK => ?_
  refine cv_region_then rfl ?_
  simp -implicitDefEqProofs (disch := first | omega | decide) only [seval, -Int.reducePow, -Nat.reducePow, cC, pv, binv, sRLay1, undef]
  refine hK _ _ ?_
  clear hK K
  refine cv_cond ?_
  simp -implicitDefEqProofs (disch := first | omega | decide) only [seval, -Int.reducePow, -Nat.reducePow, cC, pv, binv, sRLay1, undef]
  refine cv_skip ?_
  try simp only [blockQ, thenQ]
  refine hK _ _ ?_
  clear hK K
  refine cv_seq_k fun K hK => ?_
  refine cv_region_then rfl ?_
  simp -implicitDefEqProofs (disch := first | omega | decide) only [seval, -Int.reducePow, -Nat.reducePow, cC, pv, binv, sRLay1, undef]
  refine hK _ _ ?_
  clear hK K
  refine cv_seq_k fun K hK => ?_
  refine cv_region_then rfl ?_
  simp -implicitDefEqProofs (disch := first | omega | decide) only [seval, -Int.reducePow, -Nat.reducePow, cC, pv, binv, sRLay1, undef]
  refine hK _ _ ?_
  clear hK K
  refine cv_seq_k fun K hK => ?_
  refine cv_seq_k fun K hK => ?_
  refine cv_region_then rfl ?_
  simp -implicitDefEqProofs (disch := first | omega | decide) only [seval, -Int.reducePow, -Nat.reducePow, cC, pv, binv, sRLay1, undef]
  refine hK _ _ ?_
  clear hK K
  refine cv_gen fun G4 hG => ?_
  have g4_1 := congrFun hG 1
  have g4_4 := congrFun hG 4
  have g4_8 := congrFun hG 8
  have g4_9 := congrFun hG 9
  have g4_10 := congrFun hG 10
  clear hG
  try simp -implicitDefEqProofs (disch := first | omega | decide) only [seval, -Int.reducePow, -Nat.reducePow, cC, pv, binv, sRLay1, undef] at g4_1 g4_4 g4_8 g4_9 g4_10
  have g4 := And.intro g4_1 (And.intro g4_4 (And.intro g4_8 (And.intro g4_9 g4_10)))
  refine cv_block ?_
  refine cv_nil 145 3 ?_
  refine cv_loop (fun F' L' => ∃ (k : Nat) (A6 : Option Addr) (c6 : Nat) (ps : List Value), F' 1 = G4 1 ∧ F' 4 = .slice A6 k c6 ∧ F' 8 = .int .i64 (lay (fs.take k)).1 ∧ F' 9 = .int .i64 (lay (fs.take k)).2 ∧ F' 10 = .int .i64 (k : Int) ∧ L' = [.row (.slice A6 k c6) 145 3 k ps, tBox b 0 A n c] ∧ k ≤ n) (fun F' L' => 40 - (intOf (F' 10)).toNat) ?_ ?_
  · refine ⟨0, none, 0, [], ?_⟩
    simp -implicitDefEqProofs (disch := first | omega | decide) only [seval, -Int.reducePow, -Nat.reducePow, cC, pv, binv, sRLay1, undef, g4]
    exact ⟨rfl, rfl, by omega⟩
  · intro G5 L' hI
    obtain ⟨k, A6, c6, ps, q1, q4, q8, q9, q10, rfl, hk⟩ := hI
    have g5_1 := q1.trans g4_1
    have g5_4 := q4
    have g5_8 := q8
    have g5_9 := q9
    have g5_10 := q10
    clear q1 q4 q8 q9 q10
    have g5 := And.intro g5_1 (And.intro g5_4 (And.intro g5_8 (And.intro g5_9 g5_10)))
    have hR := lay_rng (okFs_take hok k)
    rw [List.length_take, Nat.min_eq_left (by omega)] at hR
    refine cv_seq_k fun K hK => ?_
    refine cv_seq_k fun K hK => ?_
    refine cv_region_then rfl ?_
    simp -implicitDefEqProofs (disch := first | omega | decide) only [seval, -Int.reducePow, -Nat.reducePow, cC, pv, binv, sRLay1, undef, g4, g5]
    refine hK _ _ ?_
    clear hK K
    refine cv_cond ?_
    simp -implicitDefEqProofs (disch := first | omega | decide) only [seval, -Int.reducePow, -Nat.reducePow, cC, pv, binv, sRLay1, undef, g4, g5]
    refine ⟨fun hc => ?_, fun hc => ?_⟩
    · refine cv_skip ?_
      try simp only [blockQ, thenQ]
      have hlt : k < n := by have := of_decide_eq_true hc; omega
      obtain ⟨b0, off, rfl, hb0, -⟩ := hE.cells (by omega)
      obtain ⟨x, hx⟩ := some_of (l := fs) (i := k) (by omega)
      have hxe := hok x (List.mem_of_getElem? hx)
      have hxw := Fd.wid_rng hxe
      have hxa := Fd.ali_rng hxe
      have hu := upI_rng (n := (lay (fs.take k)).1) (a := x.ali) hR.1 hxa.1
      have hs := lay_take hx
      refine hK _ _ ?_
      clear hK K
      refine cv_seq_k fun K hK => ?_
      refine cv_block ?_
      refine cv_seq_k fun K hK => ?_
      refine cv_region_then rfl ?_
      simp -implicitDefEqProofs (disch := first | omega | decide) only [seval, -Int.reducePow, -Nat.reducePow, cC, pv, binv, sRLay1, undef, g4, g5]
      refine ⟨_, hE.fld hx, fun tok htok => ?_⟩
      subst htok
      simp -implicitDefEqProofs (disch := first | omega | decide) only [seval, -Int.reducePow, -Nat.reducePow, cC, pv, binv, sRLay1, undef, g4, g5]
      refine callV_ret (fun w hw => rwidth_any x w hxe) ?_
      try simp -implicitDefEqProofs (disch := first | omega | decide) only [seval, -Int.reducePow, -Nat.reducePow, cC, pv, binv, sRLay1, undef, g4, g5]
      refine hK _ _ ?_
      clear hK K
      refine cv_seq_k fun K hK => ?_
      refine cv_region_then rfl ?_
      simp -implicitDefEqProofs (disch := first | omega | decide) only [seval, -Int.reducePow, -Nat.reducePow, cC, pv, binv, sRLay1, undef, g4, g5]
      refine callV_ret (fun w hw => rup_any _ _ w (by omega) (by omega)) ?_
      try simp -implicitDefEqProofs (disch := first | omega | decide) only [seval, -Int.reducePow, -Nat.reducePow, cC, pv, binv, sRLay1, undef, g4, g5]
      refine hK _ _ ?_
      clear hK K
      refine cv_seq_k fun K hK => ?_
      refine cv_region_then rfl ?_
      simp -implicitDefEqProofs (disch := first | omega | decide) only [seval, -Int.reducePow, -Nat.reducePow, cC, pv, binv, sRLay1, undef, g4, g5]
      refine ⟨_, hE.fld0 hx, fun tok htok => ?_⟩
      subst htok
      simp -implicitDefEqProofs (disch := first | omega | decide) only [seval, -Int.reducePow, -Nat.reducePow, cC, pv, binv, sRLay1, undef, g4, g5]
      intro b7 hb7 h7
      refine appV_at 1 tap116 rfl (fun w hw => src_blk (size := 3) (.head _) rfl hw) rfl (by omega) (by omega) ?_
      intro A' c' hl _
      simp -implicitDefEqProofs (disch := first | omega | decide) only [seval, -Int.reducePow, -Nat.reducePow, cC, pv, binv, sRLay1, undef, g4, g5]
      refine hK _ _ ?_
      clear hK K
      refine cv_seq_k fun K hK => ?_
      refine cv_region_then rfl ?_
      simp -implicitDefEqProofs (disch := first | omega | decide) only [seval, -Int.reducePow, -Nat.reducePow, cC, pv, binv, sRLay1, undef, wrap_in, g4, g5]
      refine hK _ _ ?_
      clear hK K
      refine cv_pick [0, 2] (by decide) ?_
      simp only [pickL, nth]
      refine cv_region_q rfl ?_
      simp -implicitDefEqProofs (disch := first | omega | decide) only [seval, -Int.reducePow, -Nat.reducePow, cC, pv, binv, sRLay1, undef, g4, g5]
      refine hK _ _ ?_
      clear hK K
      refine cv_region_then rfl ?_
      simp -implicitDefEqProofs (disch := first | omega | decide) only [seval, -Int.reducePow, -Nat.reducePow, cC, pv, binv, sRLay1, undef, wrap_in, g4, g5]
      refine ⟨⟨k + 1, A', c', ps ++ [.int .i64 (upI (lay (fs.take k)).1 x.ali), .int .i64 x.wid, .int .i64 x.kind], ?_⟩, ?_⟩
      · simp -implicitDefEqProofs (disch := first | omega | decide) only [seval, -Int.reducePow, -Nat.reducePow, cC, pv, binv, sRLay1, undef, Int.natCast_add, hs, layS, g4, g5]
        omega
      · simp only [intOf]; omega
    · refine cv_exit ?_
      simp only [blockQ, thenQ, if_true, ite_true]
      clear hK K
      refine hK _ _ ?_
      clear hK K
      obtain rfl : n = k := by have := of_decide_eq_false hc; omega
      rw [List.take_of_length_le (by omega)] at *
      refine cv_seq_k fun K hK => ?_
      refine cv_region_then rfl ?_
      simp -implicitDefEqProofs (disch := first | omega | decide) only [seval, -Int.reducePow, -Nat.reducePow, cC, pv, binv, sRLay1, undef, g4, g5]
      refine callV_ret (fun w hw => rup_any _ _ w (by omega) (by omega)) ?_
      try simp -implicitDefEqProofs (disch := first | omega | decide) only [seval, -Int.reducePow, -Nat.reducePow, cC, pv, binv, sRLay1, undef, g4, g5]
      refine hK _ _ ?_
      clear hK K
      refine cv_ret ⟨_, (by simp -implicitDefEqProofs (disch := first | omega | decide) only [seval, -Int.reducePow, -Nat.reducePow, cC, pv, binv, sRLay1, undef, g4, g5]; rfl), fun w hw => ?_⟩
      exact ⟨⟨_, rfl, trivial⟩, hw.below⟩
set_option maxHeartbeats 4000000 in
theorem rcheck_any (A : Option Addr) (n c : Nat) (fs : List Fd) (len : Int) (W : World) (hE : Sl W W.heap.size 2 A n c (cl fdc fs)) :
    Calls Tryz.prog 44 #[tyV len A n c] W fun e w' => e = .returned (.int .i64 (chk len fs)) ∧ Below W.heap.size W w' := by
  have hln : fs.length = n := cl_row fdc_len (by omega) hE.len
  refine calls_cv (M := []) (n := 103) [.tmp 2] rfl Tryz.func44 rfl rfl (Nat.le_of_ble_eq_true rfl) (St.nil _ _) ?_
  refine cv_seq_k fun K hK => ?_
  refine cv_region_then rfl ?_
  simp -implicitDefEqProofs (disch := first | omega | decide) only [seval, -Int.reducePow, -Nat.reducePow, cC, pv, binv, sRLay1, undef]
  intro b hb
  refine hK _ _ ?_
  clear hK K
  refine cv_gen fun G6 hG => ?_
  have g6_1 := congrFun hG 1
  clear hG
  try simp -implicitDefEqProofs (disch := first | omega | decide) only [seval, -Int.reducePow, -Nat.reducePow, cC, pv, binv, sRLay1, undef] at g6_1
  have g6 := g6_1
  refine cv_seq_k fun K hK => ?_
  refine cv_seq_k fun K hK => ?_
  refine cv_region_then rfl ?_
  simp -implicitDefEqProofs (disch := first | omega | decide) only [seval, -Int.reducePow, -Nat.reducePow, cC, pv, binv, sRLay1, undef, g6]
  refine hK _ _ ?_
  clear hK K
  refine cv_cond ?_
  simp -implicitDefEqProofs (disch := first | omega | decide) only [seval, -Int.reducePow, -Nat.reducePow, cC, pv, binv, sRLay1, undef, g6]
  refine ⟨fun hc => ?_, fun hc => ?_⟩
  · refine cv_seq_k fun K hK => ?_
    refine cv_region_then rfl ?_
    simp -implicitDefEqProofs (disch := first | omega | decide) only [seval, -Int.reducePow, -Nat.reducePow, cC, pv, binv, sRLay1, undef, g6]
    refine hK _ _ ?_
    clear hK K
    refine cv_ret ⟨_, (by simp -implicitDefEqProofs (disch := first | omega | decide) only [seval, -Int.reducePow, -Nat.reducePow, cC, pv, binv, sRLay1, undef, g6]; rfl), fun w hw => ?_⟩
    exact ⟨by unfold chk; rw [if_pos (of_decide_eq_true hc)], hw.below⟩
  have q1 := of_decide_eq_false hc
  refine cv_skip ?_
  try simp only [blockQ, thenQ]
  refine hK _ _ ?_
  clear hK K
  refine cv_seq_k fun K hK => ?_
  refine cv_seq_k fun K hK => ?_
  refine cv_region_then rfl ?_
  simp -implicitDefEqProofs (disch := first | omega | decide) only [seval, -Int.reducePow, -Nat.reducePow, cC, pv, binv, sRLay1, undef, g6]
  refine hK _ _ ?_
  clear hK K
  refine cv_cond ?_
  simp -implicitDefEqProofs (disch := first | omega | decide) only [seval, -Int.reducePow, -Nat.reducePow, cC, pv, binv, sRLay1, undef, g6]
  refine ⟨fun hc => ?_, fun hc => ?_⟩
  · refine cv_seq_k fun K hK => ?_
    refine cv_region_then rfl ?_
    simp -implicitDefEqProofs (disch := first | omega | decide) only [seval, -Int.reducePow, -Nat.reducePow, cC, pv, binv, sRLay1, undef, g6]
    refine hK _ _ ?_
    clear hK K
    refine cv_ret ⟨_, (by simp -implicitDefEqProofs (disch := first | omega | decide) only [seval, -Int.reducePow, -Nat.reducePow, cC, pv, binv, sRLay1, undef, g6]; rfl), fun w hw => ?_⟩
    exact ⟨by unfold chk; rw [if_neg q1, if_pos (of_decide_eq_true ‹_›)], hw.below⟩
  have q2 := of_decide_eq_false ‹_›
  refine cv_skip ?_
  try simp only [blockQ, thenQ]
  refine hK _ _ ?_
  clear hK K
  refine cv_gen fun G7 hG => ?_
  have g7_1 := congrFun hG 1
  clear hG
  try simp -implicitDefEqProofs (disch := first | omega | decide) only [seval, -Int.reducePow, -Nat.reducePow, cC, pv, binv, sRLay1, undef, g6] at g7_1
  have g7 := g7_1
  refine cv_seq_k fun K hK => ?_
  refine cv_seq_k fun K hK => ?_
  refine cv_cut (fun _ _ => True) (fun F' L' => F' 1 = G7 1 ∧ F' 34 = .bool (decide ((len = 0 ∧ fs.length = 0) ∨ (0 < len ∧ ¬ fs.length = 1))) ∧ L' = [tBox b len A n c]) ?_ ?_
  · refine cv_region_then rfl ?_
    simp -implicitDefEqProofs (disch := first | omega | decide) only [seval, -Int.reducePow, -Nat.reducePow, cC, pv, binv, sRLay1, undef, g7]
    repeat' ((first | refine vcg_cases (fun hg => ?_) (fun hg => ?_) | refine vdg_cases (fun hg => ?_) (fun hg => ?_)) <;> ((try simp only [Bool.not_eq_true', Bool.not_eq_false', decide_eq_true_eq, decide_eq_false_iff_not] at hg); (try simp -implicitDefEqProofs (disch := first | omega | decide) only [seval, -Int.reducePow, -Nat.reducePow, cC, pv, binv, sRLay1, undef, hg, g7])))
    all_goals (repeat' refine And.intro ?_ ?_)
    all_goals (first | with_reducible rfl | (refine congrArg Value.bool ?_; rw [Bool.eq_iff_iff]; (try simp only [decide_eq_true_eq, eq_self, true_and, and_true, false_and, and_false, true_or, or_true, false_or, or_false, not_true_eq_false, not_false_eq_true, true_iff, iff_true, false_iff, iff_false, Bool.false_eq_true, Bool.not_eq_true', Bool.not_eq_true, decide_eq_false_iff_not, Bool.and_eq_true, Bool.or_eq_true]) <;> omega) | (refine congrArg (Value.int _) ?_; omega) | omega)
  intro G8 L' _ hF
  obtain ⟨q1, q34, rfl⟩ := hF
  have g8_1 := q1.trans g7_1
  have g8_34 := q34
  clear q1 q34
  have g8 := And.intro g8_1 g8_34
  refine hK _ _ ?_
  clear hK K
  refine cv_cond ?_
  simp -implicitDefEqProofs (disch := first | omega | decide) only [seval, -Int.reducePow, -Nat.reducePow, cC, pv, binv, sRLay1, undef, g8]
  refine ⟨fun hc => ?_, fun hc => ?_⟩
  · refine cv_seq_k fun K hK => ?_
    refine cv_region_then rfl ?_
    simp -implicitDefEqProofs (disch := first | omega | decide) only [seval, -Int.reducePow, -Nat.reducePow, cC, pv, binv, sRLay1, undef, g8]
    refine hK _ _ ?_
    clear hK K
    refine cv_ret ⟨_, (by simp -implicitDefEqProofs (disch := first | omega | decide) only [seval, -Int.reducePow, -Nat.reducePow, cC, pv, binv, sRLay1, undef, g8]; rfl), fun w hw => ?_⟩
    exact ⟨by unfold chk; rw [if_neg q1, if_neg q2, if_pos (of_decide_eq_true ‹_›)], hw.below⟩
  have q3 := of_decide_eq_false ‹_›
  refine cv_skip ?_
  try simp only [blockQ, thenQ]
  refine hK _ _ ?_
  clear hK K
  refine cv_seq_k fun K hK => ?_
  refine cv_seq_k fun K hK => ?_
  refine cv_region_then rfl ?_
  simp -implicitDefEqProofs (disch := first | omega | decide) only [seval, -Int.reducePow, -Nat.reducePow, cC, pv, binv, sRLay1, undef, g8]
  refine hK _ _ ?_
  clear hK K
  refine cv_cond ?_
  simp -implicitDefEqProofs (disch := first | omega | decide) only [seval, -Int.reducePow, -Nat.reducePow, cC, pv, binv, sRLay1, undef, g8]
  refine ⟨fun hc => ?_, fun hc => ?_⟩
  · have q4 : 32 < fs.length := by have := of_decide_eq_true ‹_›; omega
    refine cv_seq_k fun K hK => ?_
    refine cv_region_then rfl ?_
    simp -implicitDefEqProofs (disch := first | omega | decide) only [seval, -Int.reducePow, -Nat.reducePow, cC, pv, binv, sRLay1, undef, g8]
    refine hK _ _ ?_
    clear hK K
    refine cv_ret ⟨_, (by simp -implicitDefEqProofs (disch := first | omega | decide) only [seval, -Int.reducePow, -Nat.reducePow, cC, pv, binv, sRLay1, undef, g8]; rfl), fun w hw => ?_⟩
    exact ⟨by unfold chk; rw [if_neg q1, if_neg q2, if_neg q3, if_pos q4], hw.below⟩
  have q4 : ¬ 32 < fs.length := by have := of_decide_eq_false ‹_›; omega
  refine cv_skip ?_
  try simp only [blockQ, thenQ]
  refine hK _ _ ?_
  clear hK K
  refine cv_seq_k fun K hK => ?_
  refine cv_seq_k fun K hK => ?_
  refine cv_region_then rfl ?_
  simp -implicitDefEqProofs (disch := first | omega | decide) only [seval, -Int.reducePow, -Nat.reducePow, cC, pv, binv, sRLay1, undef, g8]
  refine hK _ _ ?_
  clear hK K
  refine cv_gen fun G9 hG => ?_
  have g9_1 := congrFun hG 1
  have g9_3 := congrFun hG 3
  clear hG
  try simp -implicitDefEqProofs (disch := first | omega | decide) only [seval, -Int.reducePow, -Nat.reducePow, cC, pv, binv, sRLay1, undef, g8] at g9_1 g9_3
  have g9 := And.intro g9_1 g9_3
  refine cv_block ?_
  refine cv_loop (fun F' L' => ∃ (k : Nat), F' 1 = G9 1 ∧ F' 3 = .int .i64 (k : Int) ∧ L' = [tBox b len A n c] ∧ k ≤ n ∧ firstErr fs = firstErr (fs.drop k)) (fun F' L' => 40 - (intOf (F' 3)).toNat) ?_ ?_
  · refine ⟨0, ?_⟩
    simp -implicitDefEqProofs (disch := first | omega | decide) only [seval, -Int.reducePow, -Nat.reducePow, cC, pv, binv, sRLay1, undef, g9]
    omega
  intro G10 L' hI
  obtain ⟨k, q1, q3, rfl, ⟨hk, hf⟩⟩ := hI
  have g10_1 := q1.trans g9_1
  have g10_3 := q3
  clear q1 q3
  have g10 := And.intro g10_1 g10_3
  refine cv_seq_k fun K hK => ?_
  refine cv_seq_k fun K hK => ?_
  refine cv_region_then rfl ?_
  simp -implicitDefEqProofs (disch := first | omega | decide) only [seval, -Int.reducePow, -Nat.reducePow, cC, pv, binv, sRLay1, undef, g9, g10]
  refine hK _ _ ?_
  clear hK K
  refine cv_cond ?_
  simp -implicitDefEqProofs (disch := first | omega | decide) only [seval, -Int.reducePow, -Nat.reducePow, cC, pv, binv, sRLay1, undef, g9, g10]
  refine ⟨fun hc => ?_, fun hc => ?_⟩
  · refine cv_skip ?_
    try simp only [blockQ, thenQ]
    have hlt : k < n := by have := of_decide_eq_true ‹_›; omega
    obtain ⟨b0, off, rfl, hb0, -⟩ := hE.cells (by omega)
    obtain ⟨x, hx⟩ := some_of (l := fs) (i := k) (by omega)
    obtain ⟨hkl, hxk⟩ := List.getElem?_eq_some_iff.1 hx
    rw [List.drop_eq_getElem_cons hkl, hxk] at hf
    refine hK _ _ ?_
    clear hK K
    refine cv_seq_k fun K hK => ?_
    refine cv_block ?_
    refine cv_seq_k fun K hK => ?_
    refine cv_region_then rfl ?_
    simp -implicitDefEqProofs (disch := first | omega | decide) only [seval, -Int.reducePow, -Nat.reducePow, cC, pv, binv, sRLay1, undef, g9, g10]
    refine ⟨_, hE.fld hx, fun tok htok => ?_⟩
    subst htok
    simp -implicitDefEqProofs (disch := first | omega | decide) only [seval, -Int.reducePow, -Nat.reducePow, cC, pv, binv, sRLay1, undef, g9, g10]
    intro b4 hb4 h4
    refine hK _ _ ?_
    clear hK K
    refine cv_gen fun G11 hG => ?_
    have g11_1 := congrFun hG 1
    have g11_3 := congrFun hG 3
    have g11_4 := congrFun hG 4
    clear hG
    try simp -implicitDefEqProofs (disch := first | omega | decide) only [seval, -Int.reducePow, -Nat.reducePow, cC, pv, binv, sRLay1, undef, g9, g10] at g11_1 g11_3 g11_4
    have g11 := And.intro g11_1 (And.intro g11_3 g11_4)
    refine cv_seq_k fun K hK => ?_
    refine cv_seq_k fun K hK => ?_
    refine cv_cut (fun _ _ => True) (fun F' L' => F' 1 = G11 1 ∧ F' 3 = G11 3 ∧ F' 4 = G11 4 ∧ F' 58 = .bool (decide (x.kind < 1 ∨ 6 < x.kind)) ∧ L' = [fBox b4 x, tBox b len (some ⟨b0, off, none⟩) n c]) ?_ ?_
    · refine cv_region_then rfl ?_
      simp -implicitDefEqProofs (disch := first | omega | decide) only [seval, -Int.reducePow, -Nat.reducePow, cC, pv, binv, sRLay1, undef, g9, g10, g11]
      repeat' ((first | refine vcg_cases (fun hg => ?_) (fun hg => ?_) | refine vdg_cases (fun hg => ?_) (fun hg => ?_)) <;> ((try simp only [Bool.not_eq_true', Bool.not_eq_false', decide_eq_true_eq, decide_eq_false_iff_not] at hg); (try simp -implicitDefEqProofs (disch := first | omega | decide) only [seval, -Int.reducePow, -Nat.reducePow, cC, pv, binv, sRLay1, undef, hg, g9, g10, g11])))
      all_goals (repeat' refine And.intro ?_ ?_)
      all_goals (first | with_reducible rfl | (refine congrArg Value.bool ?_; rw [Bool.eq_iff_iff]; (try simp only [decide_eq_true_eq, eq_self, true_and, and_true, false_and, and_false, true_or, or_true, false_or, or_false, not_true_eq_false, not_false_eq_true, true_iff, iff_true, false_iff, iff_false, Bool.false_eq_true, Bool.not_eq_true', Bool.not_eq_true, decide_eq_false_iff_not, Bool.and_eq_true, Bool.or_eq_true]) <;> omega) | (refine congrArg (Value.int _) ?_; omega) | omega)
    intro G12 L' _ hF
    obtain ⟨q1, q3, q4, q58, rfl⟩ := hF
    have g12_1 := q1.trans g11_1
    have g12_3 := q3.trans g11_3
    have g12_4 := q4.trans g11_4
    have g12_58 := q58
    clear q1 q3 q4 q58
    have g12 := And.intro g12_1 (And.intro g12_3 (And.intro g12_4 g12_58))
    refine hK _ _ ?_
    clear hK K
    refine cv_cond ?_
    simp -implicitDefEqProofs (disch := first | omega | decide) only [seval, -Int.reducePow, -Nat.reducePow, cC, pv, binv, sRLay1, undef, g9, g10, g12]
    refine ⟨fun hc => ?_, fun hc => ?_⟩
    · have r1 := of_decide_eq_true ‹_›
      have hx8 : x.err = 8 := by unfold Fd.err; rw [if_pos r1]
      rw [firstErr_no _ (by omega)] at hf
      refine cv_seq_k fun K hK => ?_
      refine cv_region_then rfl ?_
      simp -implicitDefEqProofs (disch := first | omega | decide) only [seval, -Int.reducePow, -Nat.reducePow, cC, pv, binv, sRLay1, undef, g9, g10, g12]
      refine hK _ _ ?_
      clear hK K
      refine cv_ret ⟨_, (by simp -implicitDefEqProofs (disch := first | omega | decide) only [seval, -Int.reducePow, -Nat.reducePow, cC, pv, binv, sRLay1, undef, g9, g10, g12]; rfl), fun w hw => ?_⟩
      exact ⟨by unfold chk; rw [if_neg q1, if_neg q2, if_neg q3, if_neg q4, if_pos (by omega), hf, hx8], hw.below⟩
    have r1 := of_decide_eq_false ‹_›
    refine cv_skip ?_
    try simp only [blockQ, thenQ]
    refine hK _ _ ?_
    clear hK K
    refine cv_seq_k fun K hK => ?_
    refine cv_seq_k fun K hK => ?_
    refine cv_cut (fun _ _ => True) (fun F' L' => F' 1 = G12 1 ∧ F' 3 = G12 3 ∧ F' 4 = G12 4 ∧ F' 76 = .bool (decide ((x.kind = 6 ∧ x.count < 1) ∨ (¬ x.kind = 6 ∧ ¬ x.count = 0))) ∧ L' = [fBox b4 x, tBox b len (some ⟨b0, off, none⟩) n c]) ?_ ?_
    · refine cv_region_then rfl ?_
      simp -implicitDefEqProofs (disch := first | omega | decide) only [seval, -Int.reducePow, -Nat.reducePow, cC, pv, binv, sRLay1, undef, g9, g10, g12]
      repeat' ((first | refine vcg_cases (fun hg => ?_) (fun hg => ?_) | refine vdg_cases (fun hg => ?_) (fun hg => ?_)) <;> ((try simp only [Bool.not_eq_true', Bool.not_eq_false', decide_eq_true_eq, decide_eq_false_iff_not] at hg); (try simp -implicitDefEqProofs (disch := first | omega | decide) only [seval, -Int.reducePow, -Nat.reducePow, cC, pv, binv, sRLay1, undef, hg, g9, g10, g12])))
      all_goals (repeat' refine And.intro ?_ ?_)
      all_goals (first | with_reducible rfl | (refine congrArg Value.bool ?_; rw [Bool.eq_iff_iff]; (try simp only [decide_eq_true_eq, eq_self, true_and, and_true, false_and, and_false, true_or, or_true, false_or, or_false, not_true_eq_false, not_false_eq_true, true_iff, iff_true, false_iff, iff_false, Bool.false_eq_true, Bool.not_eq_true', Bool.not_eq_true, decide_eq_false_iff_not, Bool.and_eq_true, Bool.or_eq_true]) <;> omega) | (refine congrArg (Value.int _) ?_; omega) | omega)
    intro G13 L' _ hF
    obtain ⟨q1, q3, q4, q76, rfl⟩ := hF
    have g13_1 := q1.trans g12_1
    have g13_3 := q3.trans g12_3
    have g13_4 := q4.trans g12_4
    have g13_76 := q76
    clear q1 q3 q4 q76
    have g13 := And.intro g13_1 (And.intro g13_3 (And.intro g13_4 g13_76))
    refine hK _ _ ?_
    clear hK K
    refine cv_cond ?_
    simp -implicitDefEqProofs (disch := first | omega | decide) only [seval, -Int.reducePow, -Nat.reducePow, cC, pv, binv, sRLay1, undef, g9, g10, g13]
    refine ⟨fun hc => ?_, fun hc => ?_⟩
    · have r2 := of_decide_eq_true ‹_›
      have hx8 : x.err = 3 := by unfold Fd.err; rw [if_neg r1, if_pos r2]
      rw [firstErr_no _ (by omega)] at hf
      refine cv_seq_k fun K hK => ?_
      refine cv_region_then rfl ?_
      simp -implicitDefEqProofs (disch := first | omega | decide) only [seval, -Int.reducePow, -Nat.reducePow, cC, pv, binv, sRLay1, undef, g9, g10, g13]
      refine hK _ _ ?_
      clear hK K
      refine cv_ret ⟨_, (by simp -implicitDefEqProofs (disch := first | omega | decide) only [seval, -Int.reducePow, -Nat.reducePow, cC, pv, binv, sRLay1, undef, g9, g10, g13]; rfl), fun w hw => ?_⟩
      exact ⟨by unfold chk; rw [if_neg q1, if_neg q2, if_neg q3, if_neg q4, if_pos (by omega), hf, hx8], hw.below⟩
    have r2 := of_decide_eq_false ‹_›
    refine cv_skip ?_
    try simp only [blockQ, thenQ]
    refine hK _ _ ?_
    clear hK K
    refine cv_seq_k fun K hK => ?_
    refine cv_region_then rfl ?_
    simp -implicitDefEqProofs (disch := first | omega | decide) only [seval, -Int.reducePow, -Nat.reducePow, cC, pv, binv, sRLay1, undef, g9, g10, g13]
    refine hK _ _ ?_
    clear hK K
    refine cv_cond ?_
    simp -implicitDefEqProofs (disch := first | omega | decide) only [seval, -Int.reducePow, -Nat.reducePow, cC, pv, binv, sRLay1, undef, g9, g10, g13]
    refine ⟨fun hc => ?_, fun hc => ?_⟩
    · have r3 := of_decide_eq_true ‹_›
      have hx8 : x.err = 4 := by unfold Fd.err; rw [if_neg r1, if_neg r2, if_pos r3]
      rw [firstErr_no _ (by omega)] at hf
      refine cv_seq_k fun K hK => ?_
      refine cv_region_then rfl ?_
      simp -implicitDefEqProofs (disch := first | omega | decide) only [seval, -Int.reducePow, -Nat.reducePow, cC, pv, binv, sRLay1, undef, g9, g10, g13]
      refine hK _ _ ?_
      clear hK K
      refine cv_ret ⟨_, (by simp -implicitDefEqProofs (disch := first | omega | decide) only [seval, -Int.reducePow, -Nat.reducePow, cC, pv, binv, sRLay1, undef, g9, g10, g13]; rfl), fun w hw => ?_⟩
      exact ⟨by unfold chk; rw [if_neg q1, if_neg q2, if_neg q3, if_neg q4, if_pos (by omega), hf, hx8], hw.below⟩
    have r3 := of_decide_eq_false ‹_›
    have hx8 : x.err = 0 := by unfold Fd.err; rw [if_neg r1, if_neg r2, if_neg r3]
    rw [firstErr_yes _ (by omega)] at hf
    refine cv_skip ?_
    try simp only [blockQ, thenQ]
    refine hK _ _ ?_
    clear hK K
    refine cv_pick [1] (by decide) ?_
    simp only [pickL, nth]
    refine cv_region_then rfl ?_
    simp -implicitDefEqProofs (disch := first | omega | decide) only [seval, -Int.reducePow, -Nat.reducePow, cC, pv, binv, sRLay1, undef, wrap_in, g9, g10, g13]
    refine ⟨⟨k + 1, ?_⟩, ?_⟩
    · simp -implicitDefEqProofs (disch := first | omega | decide) only [seval, -Int.reducePow, -Nat.reducePow, cC, pv, binv, sRLay1, undef, Int.natCast_add, g9, g10, g13]
      exact ⟨by omega, hf⟩
    · simp only [intOf]; omega
  refine cv_exit ?_
  simp only [blockQ, thenQ, if_true, ite_true]
  clear hK K
  refine hK _ _ ?_
  clear hK K
  obtain rfl : n = k := by have := of_decide_eq_false ‹_›; omega
  rw [List.drop_of_length_le (by omega)] at hf
  have hok := firstErr_zero hf
  have q5 : ¬ ¬ firstErr fs = 0 := by rw [hf]; simp [firstErr]
  refine cv_seq_k fun K hK => ?_
  refine cv_seq_k fun K hK => ?_
  refine cv_region_then rfl ?_
  simp -implicitDefEqProofs (disch := first | omega | decide) only [seval, -Int.reducePow, -Nat.reducePow, cC, pv, binv, sRLay1, undef, g9, g10]
  refine hK _ _ ?_
  clear hK K
  refine cv_cond ?_
  simp -implicitDefEqProofs (disch := first | omega | decide) only [seval, -Int.reducePow, -Nat.reducePow, cC, pv, binv, sRLay1, undef, g9, g10]
  refine ⟨fun hc => ?_, fun hc => ?_⟩
  · have hl : 0 < len := of_decide_eq_true ‹_›
    obtain rfl : n = 1 := by omega
    obtain ⟨b0, off, rfl, hb0, -⟩ := hE.cells (by omega)
    obtain ⟨x, hx⟩ := some_of (l := fs) (i := 0) (by omega)
    have hhd : fs.headD ⟨0, 0⟩ = x := by
      cases fs with
      | nil => simp at hx
      | cons y r => simpa using hx
    have hxe := hok x (List.mem_of_getElem? hx)
    have hxw := Fd.wid_rng hxe
    have hm := mul_small (show 0 ≤ len by omega) (show len ≤ 65536 by omega) (show 0 ≤ x.wid by omega) hxw.2
    have hst : sizeT len fs = x.wid * len := by unfold sizeT; rw [if_pos hl, hhd, Int.mul_comm]
    rw [Int.mul_comm] at hm
    have hx0 := hE.fld (L := [tBox b len (some ⟨b0, off, none⟩) 1 c]) hx
    simp only [Nat.zero_mul, Nat.add_zero, tBox] at hx0
    refine cv_seq_k fun K hK => ?_
    refine cv_region_then rfl ?_
    simp -implicitDefEqProofs (disch := first | omega | decide) only [seval, -Int.reducePow, -Nat.reducePow, cC, pv, binv, sRLay1, undef, Nat.zero_mul, g9, g10]
    refine ⟨_, hx0, fun tok htok => ?_⟩
    subst htok
    simp -implicitDefEqProofs (disch := first | omega | decide) only [seval, -Int.reducePow, -Nat.reducePow, cC, pv, binv, sRLay1, undef, Nat.zero_mul, g9, g10]
    refine callV_ret (fun w hw => rwidth_any x w hxe) ?_
    try simp -implicitDefEqProofs (disch := first | omega | decide) only [seval, -Int.reducePow, -Nat.reducePow, cC, pv, binv, sRLay1, undef, g9, g10]
    refine hK _ _ ?_
    clear hK K
    refine cv_seq_k fun K hK => ?_
    refine cv_seq_k fun K hK => ?_
    refine cv_region_then rfl ?_
    simp -implicitDefEqProofs (disch := first | omega | decide) only [seval, -Int.reducePow, -Nat.reducePow, cC, pv, binv, sRLay1, undef, wrap_in, g9, g10]
    refine hK _ _ ?_
    clear hK K
    refine cv_cond ?_
    simp -implicitDefEqProofs (disch := first | omega | decide) only [seval, -Int.reducePow, -Nat.reducePow, cC, pv, binv, sRLay1, undef, g9, g10]
    refine ⟨fun hc => ?_, fun hc => ?_⟩
    · refine cv_seq_k fun K hK => ?_
      refine cv_region_then rfl ?_
      simp -implicitDefEqProofs (disch := first | omega | decide) only [seval, -Int.reducePow, -Nat.reducePow, cC, pv, binv, sRLay1, undef, g9, g10]
      refine hK _ _ ?_
      clear hK K
      refine cv_ret ⟨_, (by simp -implicitDefEqProofs (disch := first | omega | decide) only [seval, -Int.reducePow, -Nat.reducePow, cC, pv, binv, sRLay1, undef, g9, g10]; rfl), fun w hw => ?_⟩
      exact ⟨by unfold chk; rw [if_neg q1, if_neg q2, if_neg q3, if_neg q4, if_neg q5, if_pos (by rw [hst]; exact of_decide_eq_true ‹_›)], hw.below⟩
    refine cv_skip ?_
    try simp only [blockQ, thenQ]
    refine hK _ _ ?_
    clear hK K
    refine cv_seq_k fun K hK => ?_
    refine cv_region_then rfl ?_
    simp -implicitDefEqProofs (disch := first | omega | decide) only [seval, -Int.reducePow, -Nat.reducePow, cC, pv, binv, sRLay1, undef, g9, g10]
    refine hK _ _ ?_
    clear hK K
    refine cv_ret ⟨_, (by simp -implicitDefEqProofs (disch := first | omega | decide) only [seval, -Int.reducePow, -Nat.reducePow, cC, pv, binv, sRLay1, undef, g9, g10]; rfl), fun w hw => ?_⟩
    exact ⟨by unfold chk; rw [if_neg q1, if_neg q2, if_neg q3, if_neg q4, if_neg q5, if_neg (by rw [hst]; exact of_decide_eq_false ‹_›)], hw.below⟩
  have hl : ¬ 0 < len := of_decide_eq_false ‹_›
  obtain rfl : len = 0 := by omega
  have hst : sizeT 0 fs = sizeF fs := by unfold sizeT; rw [if_neg hl]
  refine cv_skip ?_
  try simp only [blockQ, thenQ]
  refine hK _ _ ?_
  clear hK K
  refine cv_seq_k fun K hK => ?_
  refine cv_region_then rfl ?_
  simp -implicitDefEqProofs (disch := first | omega | decide) only [seval, -Int.reducePow, -Nat.reducePow, cC, pv, binv, sRLay1, undef, g9, g10]
  refine callV_ex (fun v => .tuple #[v, .int .i64 (sizeF fs)]) (fun _ => True) (fun w hw => rplaces_any A n c fs w (hE.at hw) (by omega) hok) ?_
  intro v _
  simp -implicitDefEqProofs (disch := first | omega | decide) only [seval, -Int.reducePow, -Nat.reducePow, cC, pv, binv, sRLay1, undef, g9, g10]
  refine hK _ _ ?_
  clear hK K
  refine cv_seq_k fun K hK => ?_
  refine cv_seq_k fun K hK => ?_
  refine cv_region_then rfl ?_
  simp -implicitDefEqProofs (disch := first | omega | decide) only [seval, -Int.reducePow, -Nat.reducePow, cC, pv, binv, sRLay1, undef, g9, g10]
  refine hK _ _ ?_
  clear hK K
  refine cv_cond ?_
  simp -implicitDefEqProofs (disch := first | omega | decide) only [seval, -Int.reducePow, -Nat.reducePow, cC, pv, binv, sRLay1, undef, g9, g10]
  refine ⟨fun hc => ?_, fun hc => ?_⟩
  · refine cv_seq_k fun K hK => ?_
    refine cv_region_then rfl ?_
    simp -implicitDefEqProofs (disch := first | omega | decide) only [seval, -Int.reducePow, -Nat.reducePow, cC, pv, binv, sRLay1, undef, g9, g10]
    refine hK _ _ ?_
    clear hK K
    refine cv_ret ⟨_, (by simp -implicitDefEqProofs (disch := first | omega | decide) only [seval, -Int.reducePow, -Nat.reducePow, cC, pv, binv, sRLay1, undef, g9, g10]; rfl), fun w hw => ?_⟩
    exact ⟨by unfold chk; rw [if_neg q1, if_neg q2, if_neg q3, if_neg q4, if_neg q5, if_pos (by rw [hst]; exact of_decide_eq_true ‹_›)], hw.below⟩
  refine cv_skip ?_
  try simp only [blockQ, thenQ]
  refine hK _ _ ?_
  clear hK K
  refine cv_seq_k fun K hK => ?_
  refine cv_region_then rfl ?_
  simp -implicitDefEqProofs (disch := first | omega | decide) only [seval, -Int.reducePow, -Nat.reducePow, cC, pv, binv, sRLay1, undef, g9, g10]
  refine hK _ _ ?_
  clear hK K
  refine cv_ret ⟨_, (by simp -implicitDefEqProofs (disch := first | omega | decide) only [seval, -Int.reducePow, -Nat.reducePow, cC, pv, binv, sRLay1, undef, g9, g10]; rfl), fun w hw => ?_⟩
  exact ⟨by unfold chk; rw [if_neg q1, if_neg q2, if_neg q3, if_neg q4, if_neg q5, if_neg (by rw [hst]; exact of_decide_eq_false ‹_›)], hw.below⟩
end Go.Proofs.YtlbmnioibiomfaaGreat
/- The reference's CheckModule. -/
namespace Go.Proofs.YtlbmnioibiomfaaGreat
open Go.RowKit Go.Shelf
set_option linter.unusedVariables false
set_option linter.unusedSimpArgs false
set_option maxRecDepth 100000
set_option maxRecDepth 100000 in
theorem sMRChk1 : type_of% (And.intro (And.intro (And.intro @fBox.eq_1 (And.intro @tBox.eq_1 @iBox.eq_1)) (And.intro @mBox.eq_1 (And.intro @gBox.eq_1 @flBox.eq_1))) (And.intro (And.intro @fdV.eq_1 (And.intro @tyV.eq_1 @insV.eq_1)) (And.intro (And.intro @fnV.eq_1 @modV.eq_1) (And.intro @fltV.eq_1 @fineF.eq_1)))) := (And.intro (And.intro (And.intro @fBox.eq_1 (And.intro @tBox.eq_1 @iBox.eq_1)) (And.intro @mBox.eq_1 (And.intro @gBox.eq_1 @flBox.eq_1))) (And.intro (And.intro @fdV.eq_1 (And.intro @tyV.eq_1 @insV.eq_1)) (And.intro (And.intro @fnV.eq_1 @modV.eq_1) (And.intro @fltV.eq_1 @fineF.eq_1))))
theorem fault_any (e f a : Int) (W : World) : Calls Tryz.prog 31 #[.int .i64 e, .int .i64 f, .int .i64 a] W fun en w' => en = .returned (fltV (e, f, a)) ∧ Below W.heap.size W w' := by
  refine calls_cv2 (M := []) (n := 11) [.cell 6 45] rfl Tryz.func31 rfl rfl (Nat.le_of_ble_eq_true rfl) (St.nil _ _) ?_
  refine cv_seq_k fun K hK => ?_
  refine cv_region_then rfl ?_
  simp -implicitDefEqProofs (disch := first | omega | decide) only [seval, -Int.reducePow, -Nat.reducePow, cC, pv, binv, sMRChk1, undef]
  intro b hb
  refine hK _ _ ?_
  clear hK K
  refine cv_seq_k fun K hK => ?_
  refine cv_region_then rfl ?_
  simp -implicitDefEqProofs (disch := first | omega | decide) only [seval, -Int.reducePow, -Nat.reducePow, cC, pv, binv, sMRChk1, undef]
  refine hK _ _ ?_
  clear hK K
  refine cv_ret ?_
  simp -implicitDefEqProofs (disch := first | omega | decide) only [seval, -Int.reducePow, -Nat.reducePow, cC, pv, binv, sMRChk1, undef, retQ2, ressV, packV]
  intro w hw
  exact hw.below
theorem fine_any (W : World) : Calls Tryz.prog 33 #[] W fun en w' => en = .returned (fltV fineF) ∧ Below W.heap.size W w' := by
  refine calls_cv2 (M := []) (n := 2) [.cell 0 45] rfl Tryz.func33 rfl rfl (Nat.le_of_ble_eq_true rfl) (St.nil _ _) ?_
  refine cv_seq_k fun K hK => ?_
  refine cv_region_then rfl ?_
  simp -implicitDefEqProofs (disch := first | omega | decide) only [seval, -Int.reducePow, -Nat.reducePow, cC, pv, binv, sMRChk1, undef]
  intro b hb
  refine hK _ _ ?_
  clear hK K
  refine cv_seq_k fun K hK => ?_
  refine cv_region_then rfl ?_
  simp -implicitDefEqProofs (disch := first | omega | decide) only [seval, -Int.reducePow, -Nat.reducePow, cC, pv, binv, sMRChk1, undef]
  refine hK _ _ ?_
  clear hK K
  refine cv_ret ?_
  simp -implicitDefEqProofs (disch := first | omega | decide) only [seval, -Int.reducePow, -Nat.reducePow, cC, pv, binv, sMRChk1, undef, retQ2, ressV, packV]
  intro w hw
  exact hw.below
set_option maxHeartbeats 4000000 in
theorem rcheckFunc_any (m : ModR) (k : Nat) (x : FnR) (W : World) (hM : Mod W W.heap.size m) (hx : m.gs[k]? = some x) : Calls Tryz.prog 45 #[modV m, .int .i64 (k : Int)] W fun e w' => e = .returned (fltV (fltF k x)) ∧ Below W.heap.size W w' := by
  have hlg := hM.glen
  have hG := hM.gs
  have hfn := hM.fn
  obtain ⟨TA, tn, tc, ts, FA, fn, fc, gs⟩ := m
  dsimp only at *
  have hlt : k < fn := by have := (List.getElem?_eq_some_iff.1 hx).1; omega
  obtain ⟨b0, off, rfl, hb0, -⟩ := hG.cells (by omega)
  have hX := hfn x (List.mem_of_getElem? hx)
  have hxl : x.code.length = x.n := cl_row insc_len (by omega) hX.len
  refine calls_cv2 (M := []) (n := 97) [.cell 4 45] rfl Tryz.func45 rfl rfl (Nat.le_of_ble_eq_true rfl) (St.nil _ _) ?_
  refine cv_seq_k fun K hK => ?_
  refine cv_region_then rfl ?_
  simp -implicitDefEqProofs (disch := first | omega | decide) only [seval, -Int.reducePow, -Nat.reducePow, cC, pv, binv, sMRChk1, undef]
  intro b1 hb1 b2 hb2 h2
  refine hK _ _ ?_
  clear hK K
  refine cv_seq_k fun K hK => ?_
  refine cv_region_then rfl ?_
  simp -implicitDefEqProofs (disch := first | omega | decide) only [seval, -Int.reducePow, -Nat.reducePow, cC, pv, binv, sMRChk1, undef]
  refine ⟨_, hG.fnl hx, fun tok htok => ?_⟩
  subst htok
  simp -implicitDefEqProofs (disch := first | omega | decide) only [seval, -Int.reducePow, -Nat.reducePow, cC, pv, binv, sMRChk1, undef]
  intro b5 hb5 h5
  refine hK _ _ ?_
  clear hK K
  refine cv_gen fun G1 hG => ?_
  have g1_1 := congrFun hG 1
  have g1_4 := congrFun hG 4
  have g1_5 := congrFun hG 5
  clear hG
  try simp -implicitDefEqProofs (disch := first | omega | decide) only [seval, -Int.reducePow, -Nat.reducePow, cC, pv, binv, sMRChk1, undef] at g1_1 g1_4 g1_5
  have g1 := And.intro g1_1 (And.intro g1_4 g1_5)
  refine cv_seq_k fun K hK => ?_
  refine cv_block ?_
  refine cv_seq_k fun K hK => ?_
  refine cv_cut (fun _ _ => True) (fun F' L' => F' 1 = G1 1 ∧ F' 4 = G1 4 ∧ F' 5 = G1 5 ∧ F' 13 = .bool (decide (x.p < 0 ∨ x.r < 0 ∨ x.l < 0)) ∧ L' = [gBox b5 x, flBox b2 0 0 0]) ?_ ?_
  · refine cv_pick [0, 1] (by decide) ?_
    simp only [pickL, nth]
    refine cv_region_then rfl ?_
    simp -implicitDefEqProofs (disch := first | omega | decide) only [seval, -Int.reducePow, -Nat.reducePow, cC, pv, binv, sMRChk1, undef, g1]
    repeat' ((first | refine vcg_cases (fun hg => ?_) (fun hg => ?_) | refine vdg_cases (fun hg => ?_) (fun hg => ?_)) <;> ((try simp only [Bool.not_eq_true', Bool.not_eq_false', decide_eq_true_eq, decide_eq_false_iff_not] at hg); (try simp -implicitDefEqProofs (disch := first | omega | decide) only [seval, -Int.reducePow, -Nat.reducePow, cC, pv, binv, sMRChk1, undef, hg, g1])))
    all_goals (repeat' refine And.intro ?_ ?_)
    all_goals (first | with_reducible rfl | (refine congrArg Value.bool ?_; rw [Bool.eq_iff_iff]; (try simp only [decide_eq_true_eq, eq_self, true_and, and_true, false_and, and_false, true_or, or_true, false_or, or_false, not_true_eq_false, not_false_eq_true, true_iff, iff_true, false_iff, iff_false, Bool.false_eq_true, Bool.not_eq_true', Bool.not_eq_true, decide_eq_false_iff_not, Bool.and_eq_true, Bool.or_eq_true]) <;> omega) | (refine congrArg (Value.int _) ?_; omega) | omega)
  intro G2 L' _ hF
  obtain ⟨q1, q4, q5, q13, rfl⟩ := hF
  have g2_1 := q1.trans g1_1
  have g2_4 := q4.trans g1_4
  have g2_5 := q5.trans g1_5
  have g2_13 := q13
  clear q1 q4 q5 q13
  have g2 := And.intro g2_1 (And.intro g2_4 (And.intro g2_5 g2_13))
  refine hK _ _ ?_
  clear hK K
  refine cv_cond ?_
  simp -implicitDefEqProofs (disch := first | omega | decide) only [seval, -Int.reducePow, -Nat.reducePow, cC, pv, binv, sMRChk1, undef, g2]
  refine ⟨fun hc => ?_, fun hc => ?_⟩
  · have q1 := of_decide_eq_true ‹_›
    refine cv_seq_k fun K hK => ?_
    refine cv_region_then rfl ?_
    simp -implicitDefEqProofs (disch := first | omega | decide) only [seval, -Int.reducePow, -Nat.reducePow, cC, pv, binv, sMRChk1, undef, g2]
    refine callV_ret (fun w hw => fault_any 3 (k : Int) (-1) w) ?_
    try simp -implicitDefEqProofs (disch := first | omega | decide) only [seval, -Int.reducePow, -Nat.reducePow, cC, pv, binv, sMRChk1, undef, g2]
    refine hK _ _ ?_
    clear hK K
    refine cv_ret ?_
    simp -implicitDefEqProofs (disch := first | omega | decide) only [seval, -Int.reducePow, -Nat.reducePow, cC, pv, binv, sMRChk1, undef, retQ2, ressV, packV, g2]
    intro w hw
    exact ⟨by unfold fltF fnErr; rw [if_pos q1] <;> rfl, hw.below⟩
  have q1 := of_decide_eq_false ‹_›
  refine cv_seq_k fun K hK => ?_
  refine cv_cut (fun _ _ => True) (fun F' L' => F' 1 = G2 1 ∧ F' 4 = G2 4 ∧ F' 5 = G2 5 ∧ F' 29 = .bool (decide (64 < x.p ∨ 64 - x.p < x.l ∨ 8 < x.r)) ∧ L' = [gBox b5 x, flBox b2 0 0 0]) ?_ ?_
  · refine cv_region_then rfl ?_
    simp -implicitDefEqProofs (disch := first | omega | decide) only [seval, -Int.reducePow, -Nat.reducePow, cC, pv, binv, sMRChk1, undef, g2]
    repeat' ((first | refine vcg_cases (fun hg => ?_) (fun hg => ?_) | refine vdg_cases (fun hg => ?_) (fun hg => ?_)) <;> ((try simp only [Bool.not_eq_true', Bool.not_eq_false', decide_eq_true_eq, decide_eq_false_iff_not] at hg); (try simp -implicitDefEqProofs (disch := first | omega | decide) only [seval, -Int.reducePow, -Nat.reducePow, cC, pv, binv, sMRChk1, undef, hg, wrap_in, g2])))
    all_goals (repeat' refine And.intro ?_ ?_)
    all_goals (first | with_reducible rfl | (refine congrArg Value.bool ?_; rw [Bool.eq_iff_iff]; (try simp only [decide_eq_true_eq, eq_self, true_and, and_true, false_and, and_false, true_or, or_true, false_or, or_false, not_true_eq_false, not_false_eq_true, true_iff, iff_true, false_iff, iff_false, Bool.false_eq_true, Bool.not_eq_true', Bool.not_eq_true, decide_eq_false_iff_not, Bool.and_eq_true, Bool.or_eq_true]) <;> omega) | (refine congrArg (Value.int _) ?_; omega) | omega)
  intro G3 L' _ hF
  obtain ⟨q1, q4, q5, q29, rfl⟩ := hF
  have g3_1 := q1.trans g2_1
  have g3_4 := q4.trans g2_4
  have g3_5 := q5.trans g2_5
  have g3_29 := q29
  clear q1 q4 q5 q29
  have g3 := And.intro g3_1 (And.intro g3_4 (And.intro g3_5 g3_29))
  refine hK _ _ ?_
  clear hK K
  refine cv_cond ?_
  simp -implicitDefEqProofs (disch := first | omega | decide) only [seval, -Int.reducePow, -Nat.reducePow, cC, pv, binv, sMRChk1, undef, g3]
  refine ⟨fun hc => ?_, fun hc => ?_⟩
  · have q2 := of_decide_eq_true ‹_›
    refine cv_seq_k fun K hK => ?_
    refine cv_region_then rfl ?_
    simp -implicitDefEqProofs (disch := first | omega | decide) only [seval, -Int.reducePow, -Nat.reducePow, cC, pv, binv, sMRChk1, undef, g3]
    refine callV_ret (fun w hw => fault_any 4 (k : Int) (-1) w) ?_
    try simp -implicitDefEqProofs (disch := first | omega | decide) only [seval, -Int.reducePow, -Nat.reducePow, cC, pv, binv, sMRChk1, undef, g3]
    refine hK _ _ ?_
    clear hK K
    refine cv_ret ?_
    simp -implicitDefEqProofs (disch := first | omega | decide) only [seval, -Int.reducePow, -Nat.reducePow, cC, pv, binv, sMRChk1, undef, retQ2, ressV, packV, g3]
    intro w hw
    exact ⟨by unfold fltF fnErr; rw [if_neg q1, if_pos q2] <;> rfl, hw.below⟩
  have q2 := of_decide_eq_false ‹_›
  refine cv_seq_k fun K hK => ?_
  refine cv_cut (fun _ _ => True) (fun F' L' => F' 1 = G3 1 ∧ F' 4 = G3 4 ∧ F' 5 = G3 5 ∧ F' 48 = .bool (decide ((k : Int) = 0 ∧ (¬ x.p = 0 ∨ ¬ x.r = 0))) ∧ L' = [gBox b5 x, flBox b2 0 0 0]) ?_ ?_
  · refine cv_region_then rfl ?_
    simp -implicitDefEqProofs (disch := first | omega | decide) only [seval, -Int.reducePow, -Nat.reducePow, cC, pv, binv, sMRChk1, undef, g3]
    repeat' ((first | refine vcg_cases (fun hg => ?_) (fun hg => ?_) | refine vdg_cases (fun hg => ?_) (fun hg => ?_)) <;> ((try simp only [Bool.not_eq_true', Bool.not_eq_false', decide_eq_true_eq, decide_eq_false_iff_not] at hg); (try simp -implicitDefEqProofs (disch := first | omega | decide) only [seval, -Int.reducePow, -Nat.reducePow, cC, pv, binv, sMRChk1, undef, hg, g3])))
    all_goals (repeat' refine And.intro ?_ ?_)
    all_goals (first | with_reducible rfl | (refine congrArg Value.bool ?_; rw [Bool.eq_iff_iff]; (try simp only [decide_eq_true_eq, eq_self, true_and, and_true, false_and, and_false, true_or, or_true, false_or, or_false, not_true_eq_false, not_false_eq_true, true_iff, iff_true, false_iff, iff_false, Bool.false_eq_true, Bool.not_eq_true', Bool.not_eq_true, decide_eq_false_iff_not, Bool.and_eq_true, Bool.or_eq_true]) <;> omega) | (refine congrArg (Value.int _) ?_; omega) | omega)
  intro G4 L' _ hF
  obtain ⟨q1, q4, q5, q48, rfl⟩ := hF
  have g4_1 := q1.trans g3_1
  have g4_4 := q4.trans g3_4
  have g4_5 := q5.trans g3_5
  have g4_48 := q48
  clear q1 q4 q5 q48
  have g4 := And.intro g4_1 (And.intro g4_4 (And.intro g4_5 g4_48))
  refine hK _ _ ?_
  clear hK K
  refine cv_cond ?_
  simp -implicitDefEqProofs (disch := first | omega | decide) only [seval, -Int.reducePow, -Nat.reducePow, cC, pv, binv, sMRChk1, undef, g4]
  refine ⟨fun hc => ?_, fun hc => ?_⟩
  · have q3 := of_decide_eq_true ‹_›
    refine cv_seq_k fun K hK => ?_
    refine cv_region_then rfl ?_
    simp -implicitDefEqProofs (disch := first | omega | decide) only [seval, -Int.reducePow, -Nat.reducePow, cC, pv, binv, sMRChk1, undef, g4]
    refine callV_ret (fun w hw => fault_any 3 (k : Int) (-1) w) ?_
    try simp -implicitDefEqProofs (disch := first | omega | decide) only [seval, -Int.reducePow, -Nat.reducePow, cC, pv, binv, sMRChk1, undef, g4]
    refine hK _ _ ?_
    clear hK K
    refine cv_ret ?_
    simp -implicitDefEqProofs (disch := first | omega | decide) only [seval, -Int.reducePow, -Nat.reducePow, cC, pv, binv, sMRChk1, undef, retQ2, ressV, packV, g4]
    intro w hw
    exact ⟨by unfold fltF fnErr; rw [if_neg q1, if_neg q2, if_pos q3] <;> rfl, hw.below⟩
  have q3 := of_decide_eq_false ‹_›
  refine cv_seq_k fun K hK => ?_
  refine cv_region_then rfl ?_
  simp -implicitDefEqProofs (disch := first | omega | decide) only [seval, -Int.reducePow, -Nat.reducePow, cC, pv, binv, sMRChk1, undef, g4]
  refine hK _ _ ?_
  clear hK K
  refine cv_cond ?_
  simp -implicitDefEqProofs (disch := first | omega | decide) only [seval, -Int.reducePow, -Nat.reducePow, cC, pv, binv, sMRChk1, undef, g4]
  refine ⟨fun hc => ?_, fun hc => ?_⟩
  · have q4 : x.code.length = 0 := by have := of_decide_eq_true ‹_›; omega
    refine cv_seq_k fun K hK => ?_
    refine cv_region_then rfl ?_
    simp -implicitDefEqProofs (disch := first | omega | decide) only [seval, -Int.reducePow, -Nat.reducePow, cC, pv, binv, sMRChk1, undef, g4]
    refine callV_ret (fun w hw => fault_any 3 (k : Int) (-1) w) ?_
    try simp -implicitDefEqProofs (disch := first | omega | decide) only [seval, -Int.reducePow, -Nat.reducePow, cC, pv, binv, sMRChk1, undef, g4]
    refine hK _ _ ?_
    clear hK K
    refine cv_ret ?_
    simp -implicitDefEqProofs (disch := first | omega | decide) only [seval, -Int.reducePow, -Nat.reducePow, cC, pv, binv, sMRChk1, undef, retQ2, ressV, packV, g4]
    intro w hw
    exact ⟨by unfold fltF fnErr; rw [if_neg q1, if_neg q2, if_neg q3, if_pos q4] <;> rfl, hw.below⟩
  have q4 : ¬ x.code.length = 0 := by have := of_decide_eq_false ‹_›; omega
  refine cv_seq_k fun K hK => ?_
  refine cv_region_then rfl ?_
  simp -implicitDefEqProofs (disch := first | omega | decide) only [seval, -Int.reducePow, -Nat.reducePow, cC, pv, binv, sMRChk1, undef, g4]
  refine hK _ _ ?_
  clear hK K
  refine cv_cond ?_
  simp -implicitDefEqProofs (disch := first | omega | decide) only [seval, -Int.reducePow, -Nat.reducePow, cC, pv, binv, sMRChk1, undef, g4]
  refine ⟨fun hc => ?_, fun hc => ?_⟩
  · have q5 : 1024 < x.code.length := by have := of_decide_eq_true ‹_›; omega
    refine cv_seq_k fun K hK => ?_
    refine cv_region_then rfl ?_
    simp -implicitDefEqProofs (disch := first | omega | decide) only [seval, -Int.reducePow, -Nat.reducePow, cC, pv, binv, sMRChk1, undef, g4]
    refine callV_ret (fun w hw => fault_any 4 (k : Int) (-1) w) ?_
    try simp -implicitDefEqProofs (disch := first | omega | decide) only [seval, -Int.reducePow, -Nat.reducePow, cC, pv, binv, sMRChk1, undef, g4]
    refine hK _ _ ?_
    clear hK K
    refine cv_ret ?_
    simp -implicitDefEqProofs (disch := first | omega | decide) only [seval, -Int.reducePow, -Nat.reducePow, cC, pv, binv, sMRChk1, undef, retQ2, ressV, packV, g4]
    intro w hw
    exact ⟨by unfold fltF fnErr; rw [if_neg q1, if_neg q2, if_neg q3, if_neg q4, if_pos q5] <;> rfl, hw.below⟩
  have q5 : ¬ 1024 < x.code.length := by have := of_decide_eq_false ‹_›; omega
  have hz2 : fnErr k x = 0 := by unfold fnErr; rw [if_neg q1, if_neg q2, if_neg q3, if_neg q4, if_neg q5]
  have hx1024 : x.code.length ≤ 1024 := by omega
  refine cv_skip ?_
  try simp only [blockQ, thenQ]
  refine hK _ _ ?_
  clear hK K
  refine cv_seq_k fun K hK => ?_
  refine cv_seq_k fun K hK => ?_
  refine cv_region_then rfl ?_
  simp -implicitDefEqProofs (disch := first | omega | decide) only [seval, -Int.reducePow, -Nat.reducePow, cC, pv, binv, sMRChk1, undef, g4]
  refine hK _ _ ?_
  clear hK K
  refine cv_gen fun G5 hG => ?_
  have g5_1 := congrFun hG 1
  have g5_4 := congrFun hG 4
  have g5_5 := congrFun hG 5
  have g5_6 := congrFun hG 6
  clear hG
  try simp -implicitDefEqProofs (disch := first | omega | decide) only [seval, -Int.reducePow, -Nat.reducePow, cC, pv, binv, sMRChk1, undef, g4] at g5_1 g5_4 g5_5 g5_6
  have g5 := And.intro g5_1 (And.intro g5_4 (And.intro g5_5 g5_6))
  refine cv_block ?_
  refine cv_loop (fun F' L' => ∃ (j : Nat), F' 1 = G5 1 ∧ F' 4 = G5 4 ∧ F' 5 = G5 5 ∧ F' 6 = .int .i64 (j : Int) ∧ L' = [gBox b5 x, flBox b2 0 0 0] ∧ j ≤ x.n ∧ firstI 0 x.code = firstI j (x.code.drop j)) (fun F' L' => 1100 - (intOf (F' 6)).toNat) ?_ ?_
  · refine ⟨0, ?_⟩
    simp -implicitDefEqProofs (disch := first | omega | decide) only [seval, -Int.reducePow, -Nat.reducePow, cC, pv, binv, sMRChk1, undef, g5]
    omega
  intro G6 L' hI
  obtain ⟨j, q1, q4, q5, q6, rfl, ⟨hj, hi⟩⟩ := hI
  have g6_1 := q1.trans g5_1
  have g6_4 := q4.trans g5_4
  have g6_5 := q5.trans g5_5
  have g6_6 := q6
  clear q1 q4 q5 q6
  have g6 := And.intro g6_1 (And.intro g6_4 (And.intro g6_5 g6_6))
  refine cv_seq_k fun K hK => ?_
  refine cv_seq_k fun K hK => ?_
  refine cv_region_then rfl ?_
  simp -implicitDefEqProofs (disch := first | omega | decide) only [seval, -Int.reducePow, -Nat.reducePow, cC, pv, binv, sMRChk1, undef, g5, g6]
  refine hK _ _ ?_
  clear hK K
  refine cv_cond ?_
  simp -implicitDefEqProofs (disch := first | omega | decide) only [seval, -Int.reducePow, -Nat.reducePow, cC, pv, binv, sMRChk1, undef, g5, g6]
  refine ⟨fun hc => ?_, fun hc => ?_⟩
  · refine cv_skip ?_
    try simp only [blockQ, thenQ]
    have hjt : j < x.n := by have := of_decide_eq_true ‹decide ((j : Int) < (x.n : Int)) = true›; omega
    obtain ⟨xb, xo, hxA, hxb, -⟩ := hX.cells (by omega)
    obtain ⟨y, hy⟩ := some_of (l := x.code) (i := j) (by omega)
    rw [drop_at' hy] at hi
    have hX' := hX
    rw [hxA] at hX'
    refine hK _ _ ?_
    clear hK K
    refine cv_seq_k fun K hK => ?_
    refine cv_block ?_
    refine cv_seq_k fun K hK => ?_
    refine cv_region_then rfl ?_
    simp -implicitDefEqProofs (disch := first | omega | decide) only [seval, -Int.reducePow, -Nat.reducePow, cC, pv, binv, sMRChk1, undef, hxA, g5, g6]
    refine ⟨_, hX'.ins hy, fun tok htok => ?_⟩
    subst htok
    simp -implicitDefEqProofs (disch := first | omega | decide) only [seval, -Int.reducePow, -Nat.reducePow, cC, pv, binv, sMRChk1, undef, g5, g6]
    refine callV_ret (fun w hw => r_icheck_any y w) ?_
    try simp -implicitDefEqProofs (disch := first | omega | decide) only [seval, -Int.reducePow, -Nat.reducePow, cC, pv, binv, sMRChk1, undef, g5, g6]
    refine hK _ _ ?_
    clear hK K
    refine cv_seq_k fun K hK => ?_
    refine cv_region_then rfl ?_
    simp -implicitDefEqProofs (disch := first | omega | decide) only [seval, -Int.reducePow, -Nat.reducePow, cC, pv, binv, sMRChk1, undef, g5, g6]
    refine hK _ _ ?_
    clear hK K
    refine cv_cond ?_
    simp -implicitDefEqProofs (disch := first | omega | decide) only [seval, -Int.reducePow, -Nat.reducePow, cC, pv, binv, sMRChk1, undef, g5, g6]
    refine ⟨fun hc => ?_, fun hc => ?_⟩
    · have hz3 : ¬ y.err = 0 := nd_true ‹(!decide (y.err = 0)) = true›
      rw [firstI_no _ hz3] at hi
      refine cv_seq_k fun K hK => ?_
      refine cv_region_then rfl ?_
      simp -implicitDefEqProofs (disch := first | omega | decide) only [seval, -Int.reducePow, -Nat.reducePow, cC, pv, binv, sMRChk1, undef, g5, g6]
      refine callV_ret (fun w hw => fault_any y.err (k : Int) (j : Int) w) ?_
      try simp -implicitDefEqProofs (disch := first | omega | decide) only [seval, -Int.reducePow, -Nat.reducePow, cC, pv, binv, sMRChk1, undef, g5, g6]
      refine hK _ _ ?_
      clear hK K
      refine cv_ret ?_
      simp -implicitDefEqProofs (disch := first | omega | decide) only [seval, -Int.reducePow, -Nat.reducePow, cC, pv, binv, sMRChk1, undef, retQ2, ressV, packV, g5, g6]
      intro w hw
      exact ⟨by unfold fltF; rw [if_pos hz2, hi, if_neg hz3] <;> rfl, hw.below⟩
    have hz3 : y.err = 0 := Decidable.not_not.1 (nd_false ‹(!decide (y.err = 0)) = false›)
    rw [firstI_yes _ hz3] at hi
    refine cv_skip ?_
    try simp only [blockQ, thenQ]
    refine hK _ _ ?_
    clear hK K
    refine cv_region_then rfl ?_
    simp -implicitDefEqProofs (disch := first | omega | decide) only [seval, -Int.reducePow, -Nat.reducePow, cC, pv, binv, sMRChk1, undef, wrap_in, g5, g6]
    refine ⟨⟨j + 1, ?_⟩, ?_⟩
    · simp -implicitDefEqProofs (disch := first | omega | decide) only [seval, -Int.reducePow, -Nat.reducePow, cC, pv, binv, sMRChk1, undef, Int.natCast_add, g5, g6]
      exact ⟨by first | rfl | rw [hxA], by omega, hi⟩
    · simp only [intOf]; omega
  refine cv_exit ?_
  simp only [blockQ, thenQ, if_true, ite_true]
  clear hK K
  refine hK _ _ ?_
  clear hK K
  have hje : j = x.n := by have := of_decide_eq_false ‹decide ((j : Int) < (x.n : Int)) = false›; omega
  rw [List.drop_of_length_le (by omega)] at hi
  refine cv_seq_k fun K hK => ?_
  refine cv_region_then rfl ?_
  simp -implicitDefEqProofs (disch := first | omega | decide) only [seval, -Int.reducePow, -Nat.reducePow, cC, pv, binv, sMRChk1, undef, g5, g6]
  refine callV_ret (fun w hw => fine_any w) ?_
  try simp -implicitDefEqProofs (disch := first | omega | decide) only [seval, -Int.reducePow, -Nat.reducePow, cC, pv, binv, sMRChk1, undef, g5, g6]
  refine hK _ _ ?_
  clear hK K
  refine cv_ret ?_
  simp -implicitDefEqProofs (disch := first | omega | decide) only [seval, -Int.reducePow, -Nat.reducePow, cC, pv, binv, sMRChk1, undef, retQ2, ressV, packV, g5, g6]
  intro w hw
  exact ⟨by unfold fltF; rw [if_pos hz2, hi] <;> rfl, hw.below⟩
set_option maxHeartbeats 4000000 in
theorem rmcheck_any (m : ModR) (W : World) (hM : Mod W W.heap.size m) : Calls Tryz.prog 21 #[modV m] W fun e w' => e = .returned (fltV (chkM m)) ∧ Below W.heap.size W w' := by
  have hlt := hM.tlen
  have hlg := hM.glen
  have hE := hM.ts
  have hty := hM.ty
  have hMat := fun {L : List Res} {w : World} (hw : St [] W L w) => hM.at hw
  obtain ⟨TA, tn, tc, ts, FA, fn, fc, gs⟩ := m
  dsimp only at *
  refine calls_cv2 (M := []) (n := 54) [.cell 2 45] rfl Tryz.func21 rfl rfl (Nat.le_of_ble_eq_true rfl) (St.nil _ _) ?_
  refine cv_seq_k fun K hK => ?_
  refine cv_region_then rfl ?_
  simp -implicitDefEqProofs (disch := first | omega | decide) only [seval, -Int.reducePow, -Nat.reducePow, cC, pv, binv, sMRChk1, undef]
  intro b hb b2 hb2 h2
  refine hK _ _ ?_
  clear hK K
  refine cv_gen fun G7 hG => ?_
  have g7_1 := congrFun hG 1
  have g7_2 := congrFun hG 2
  clear hG
  try simp -implicitDefEqProofs (disch := first | omega | decide) only [seval, -Int.reducePow, -Nat.reducePow, cC, pv, binv, sMRChk1, undef] at g7_1 g7_2
  have g7 := And.intro g7_1 g7_2
  refine cv_seq_k fun K hK => ?_
  refine cv_seq_k fun K hK => ?_
  refine cv_region_then rfl ?_
  simp -implicitDefEqProofs (disch := first | omega | decide) only [seval, -Int.reducePow, -Nat.reducePow, cC, pv, binv, sMRChk1, undef, g7]
  refine hK _ _ ?_
  clear hK K
  refine cv_cond ?_
  simp -implicitDefEqProofs (disch := first | omega | decide) only [seval, -Int.reducePow, -Nat.reducePow, cC, pv, binv, sMRChk1, undef, g7]
  refine ⟨fun hc => ?_, fun hc => ?_⟩
  · have q1 : 32 < ts.length := by have := of_decide_eq_true hc; omega
    refine cv_seq_k fun K hK => ?_
    refine cv_region_then rfl ?_
    simp -implicitDefEqProofs (disch := first | omega | decide) only [seval, -Int.reducePow, -Nat.reducePow, cC, pv, binv, sMRChk1, undef, g7]
    refine callV_ret (fun w hw => fault_any 4 (-1) (-1) w) ?_
    try simp -implicitDefEqProofs (disch := first | omega | decide) only [seval, -Int.reducePow, -Nat.reducePow, cC, pv, binv, sMRChk1, undef, g7]
    refine hK _ _ ?_
    clear hK K
    refine cv_ret ?_
    simp -implicitDefEqProofs (disch := first | omega | decide) only [seval, -Int.reducePow, -Nat.reducePow, cC, pv, binv, sMRChk1, undef, retQ2, ressV, packV, g7]
    intro w hw
    exact ⟨by unfold chkM chkP; dsimp only; rw [if_pos q1] <;> rfl, hw.below⟩
  have q1 : ¬ 32 < ts.length := by have := of_decide_eq_false hc; omega
  refine cv_skip ?_
  try simp only [blockQ, thenQ]
  refine hK _ _ ?_
  clear hK K
  refine cv_seq_k fun K hK => ?_
  refine cv_seq_k fun K hK => ?_
  refine cv_region_then rfl ?_
  simp -implicitDefEqProofs (disch := first | omega | decide) only [seval, -Int.reducePow, -Nat.reducePow, cC, pv, binv, sMRChk1, undef, g7]
  refine hK _ _ ?_
  clear hK K
  refine cv_gen fun G8 hG => ?_
  have g8_1 := congrFun hG 1
  have g8_2 := congrFun hG 2
  have g8_3 := congrFun hG 3
  clear hG
  try simp -implicitDefEqProofs (disch := first | omega | decide) only [seval, -Int.reducePow, -Nat.reducePow, cC, pv, binv, sMRChk1, undef, g7] at g8_1 g8_2 g8_3
  have g8 := And.intro g8_1 (And.intro g8_2 g8_3)
  refine cv_block ?_
  refine cv_loop (fun F' L' => ∃ (k : Nat), F' 1 = G8 1 ∧ F' 2 = G8 2 ∧ F' 3 = .int .i64 (k : Int) ∧ L' = [flBox b2 0 0 0, mBox b ⟨TA, tn, tc, ts, FA, fn, fc, gs⟩] ∧ k ≤ tn ∧ firstT ts = firstT (ts.drop k)) (fun F' L' => 40 - (intOf (F' 3)).toNat) ?_ ?_
  · refine ⟨0, ?_⟩
    simp -implicitDefEqProofs (disch := first | omega | decide) only [seval, -Int.reducePow, -Nat.reducePow, cC, pv, binv, sMRChk1, undef, g8]
    omega
  intro G9 L' hI
  obtain ⟨k, q1, q2, q3, rfl, ⟨hk, hf⟩⟩ := hI
  have g9_1 := q1.trans g8_1
  have g9_2 := q2.trans g8_2
  have g9_3 := q3
  clear q1 q2 q3
  have g9 := And.intro g9_1 (And.intro g9_2 g9_3)
  refine cv_seq_k fun K hK => ?_
  refine cv_seq_k fun K hK => ?_
  refine cv_region_then rfl ?_
  simp -implicitDefEqProofs (disch := first | omega | decide) only [seval, -Int.reducePow, -Nat.reducePow, cC, pv, binv, sMRChk1, undef, g8, g9]
  refine hK _ _ ?_
  clear hK K
  refine cv_cond ?_
  simp -implicitDefEqProofs (disch := first | omega | decide) only [seval, -Int.reducePow, -Nat.reducePow, cC, pv, binv, sMRChk1, undef, g8, g9]
  refine ⟨fun hc => ?_, fun hc => ?_⟩
  · refine cv_skip ?_
    try simp only [blockQ, thenQ]
    have hlt2 : k < tn := by have := of_decide_eq_true ‹_›; omega
    obtain ⟨b0, off, rfl, hb0, -⟩ := hE.cells (by omega)
    obtain ⟨x, hx⟩ := some_of (l := ts) (i := k) (by omega)
    have hX := hty x (List.mem_of_getElem? hx)
    rw [drop_at' hx] at hf
    refine hK _ _ ?_
    clear hK K
    refine cv_seq_k fun K hK => ?_
    refine cv_block ?_
    refine cv_seq_k fun K hK => ?_
    refine cv_region_then rfl ?_
    simp -implicitDefEqProofs (disch := first | omega | decide) only [seval, -Int.reducePow, -Nat.reducePow, cC, pv, binv, sMRChk1, undef, g8, g9]
    refine ⟨_, hE.tyl hx, fun tok htok => ?_⟩
    subst htok
    simp -implicitDefEqProofs (disch := first | omega | decide) only [seval, -Int.reducePow, -Nat.reducePow, cC, pv, binv, sMRChk1, undef, g8, g9]
    refine callV_ret (fun w hw => rcheck_any x.A x.n x.c x.fs x.len w (hX.at hw)) ?_
    try simp -implicitDefEqProofs (disch := first | omega | decide) only [seval, -Int.reducePow, -Nat.reducePow, cC, pv, binv, sMRChk1, undef, g8, g9]
    refine hK _ _ ?_
    clear hK K
    refine cv_seq_k fun K hK => ?_
    refine cv_region_then rfl ?_
    simp -implicitDefEqProofs (disch := first | omega | decide) only [seval, -Int.reducePow, -Nat.reducePow, cC, pv, binv, sMRChk1, undef, g8, g9]
    refine hK _ _ ?_
    clear hK K
    refine cv_cond ?_
    simp -implicitDefEqProofs (disch := first | omega | decide) only [seval, -Int.reducePow, -Nat.reducePow, cC, pv, binv, sMRChk1, undef, g8, g9]
    refine ⟨fun hc => ?_, fun hc => ?_⟩
    · have hz : ¬ chk x.len x.fs = 0 := nd_true ‹(!decide (chk x.len x.fs = 0)) = true›
      rw [firstT_no _ hz] at hf
      refine cv_seq_k fun K hK => ?_
      refine cv_region_then rfl ?_
      simp -implicitDefEqProofs (disch := first | omega | decide) only [seval, -Int.reducePow, -Nat.reducePow, cC, pv, binv, sMRChk1, undef, g8, g9]
      refine callV_ret (fun w hw => fault_any (chk x.len x.fs) (-1) (-1) w) ?_
      try simp -implicitDefEqProofs (disch := first | omega | decide) only [seval, -Int.reducePow, -Nat.reducePow, cC, pv, binv, sMRChk1, undef, g8, g9]
      refine hK _ _ ?_
      clear hK K
      refine cv_ret ?_
      simp -implicitDefEqProofs (disch := first | omega | decide) only [seval, -Int.reducePow, -Nat.reducePow, cC, pv, binv, sMRChk1, undef, retQ2, ressV, packV, g8, g9]
      intro w hw
      exact ⟨by unfold chkM chkP; dsimp only; rw [if_neg q1, hf, if_neg hz, if_neg hz] <;> rfl, hw.below⟩
    have hz : chk x.len x.fs = 0 := Decidable.not_not.1 (nd_false ‹(!decide (chk x.len x.fs = 0)) = false›)
    rw [firstT_yes _ hz] at hf
    refine cv_skip ?_
    try simp only [blockQ, thenQ]
    refine hK _ _ ?_
    clear hK K
    refine cv_region_then rfl ?_
    simp -implicitDefEqProofs (disch := first | omega | decide) only [seval, -Int.reducePow, -Nat.reducePow, cC, pv, binv, sMRChk1, undef, wrap_in, g8, g9]
    refine ⟨⟨k + 1, ?_⟩, ?_⟩
    · simp -implicitDefEqProofs (disch := first | omega | decide) only [seval, -Int.reducePow, -Nat.reducePow, cC, pv, binv, sMRChk1, undef, Int.natCast_add, g8, g9]
      exact ⟨by omega, hf⟩
    · simp only [intOf]; omega
  refine cv_exit ?_
  simp only [blockQ, thenQ, if_true, ite_true]
  clear hK K
  refine hK _ _ ?_
  clear hK K
  obtain rfl : tn = k := by have := of_decide_eq_false ‹_›; omega
  rw [List.drop_of_length_le (by omega)] at hf
  have hf : firstT ts = 0 := hf
  refine cv_seq_k fun K hK => ?_
  refine cv_seq_k fun K hK => ?_
  refine cv_region_then rfl ?_
  simp -implicitDefEqProofs (disch := first | omega | decide) only [seval, -Int.reducePow, -Nat.reducePow, cC, pv, binv, sMRChk1, undef, g8, g9]
  refine hK _ _ ?_
  clear hK K
  refine cv_cond ?_
  simp -implicitDefEqProofs (disch := first | omega | decide) only [seval, -Int.reducePow, -Nat.reducePow, cC, pv, binv, sMRChk1, undef, g8, g9]
  refine ⟨fun hc => ?_, fun hc => ?_⟩
  · have q2 : gs.length = 0 := by have := of_decide_eq_true ‹_›; omega
    refine cv_seq_k fun K hK => ?_
    refine cv_region_then rfl ?_
    simp -implicitDefEqProofs (disch := first | omega | decide) only [seval, -Int.reducePow, -Nat.reducePow, cC, pv, binv, sMRChk1, undef, g8, g9]
    refine callV_ret (fun w hw => fault_any 3 (-1) (-1) w) ?_
    try simp -implicitDefEqProofs (disch := first | omega | decide) only [seval, -Int.reducePow, -Nat.reducePow, cC, pv, binv, sMRChk1, undef, g8, g9]
    refine hK _ _ ?_
    clear hK K
    refine cv_ret ?_
    simp -implicitDefEqProofs (disch := first | omega | decide) only [seval, -Int.reducePow, -Nat.reducePow, cC, pv, binv, sMRChk1, undef, retQ2, ressV, packV, g8, g9]
    intro w hw
    exact ⟨by unfold chkM chkP; dsimp only; rw [if_neg q1, if_pos hf, if_pos q2] <;> rfl, hw.below⟩
  have q2 : ¬ gs.length = 0 := by have := of_decide_eq_false ‹_›; omega
  refine cv_skip ?_
  try simp only [blockQ, thenQ]
  refine hK _ _ ?_
  clear hK K
  refine cv_seq_k fun K hK => ?_
  refine cv_seq_k fun K hK => ?_
  refine cv_region_then rfl ?_
  simp -implicitDefEqProofs (disch := first | omega | decide) only [seval, -Int.reducePow, -Nat.reducePow, cC, pv, binv, sMRChk1, undef, g8, g9]
  refine hK _ _ ?_
  clear hK K
  refine cv_cond ?_
  simp -implicitDefEqProofs (disch := first | omega | decide) only [seval, -Int.reducePow, -Nat.reducePow, cC, pv, binv, sMRChk1, undef, g8, g9]
  refine ⟨fun hc => ?_, fun hc => ?_⟩
  · have q3 : 32 < gs.length := by have := of_decide_eq_true ‹_›; omega
    refine cv_seq_k fun K hK => ?_
    refine cv_region_then rfl ?_
    simp -implicitDefEqProofs (disch := first | omega | decide) only [seval, -Int.reducePow, -Nat.reducePow, cC, pv, binv, sMRChk1, undef, g8, g9]
    refine callV_ret (fun w hw => fault_any 4 (-1) (-1) w) ?_
    try simp -implicitDefEqProofs (disch := first | omega | decide) only [seval, -Int.reducePow, -Nat.reducePow, cC, pv, binv, sMRChk1, undef, g8, g9]
    refine hK _ _ ?_
    clear hK K
    refine cv_ret ?_
    simp -implicitDefEqProofs (disch := first | omega | decide) only [seval, -Int.reducePow, -Nat.reducePow, cC, pv, binv, sMRChk1, undef, retQ2, ressV, packV, g8, g9]
    intro w hw
    exact ⟨by unfold chkM chkP; dsimp only; rw [if_neg q1, if_pos hf, if_neg q2, if_pos q3] <;> rfl, hw.below⟩
  have q3 : ¬ 32 < gs.length := by have := of_decide_eq_false ‹_›; omega
  have hC : chkM ⟨TA, tn, tc, ts, FA, fn, fc, gs⟩ = firstF 0 gs := by unfold chkM chkP; dsimp only; rw [if_neg q1, if_pos hf, if_neg q2, if_neg q3, if_pos rfl]
  refine cv_skip ?_
  try simp only [blockQ, thenQ]
  refine hK _ _ ?_
  clear hK K
  refine cv_seq_k fun K hK => ?_
  refine cv_seq_k fun K hK => ?_
  refine cv_region_then rfl ?_
  simp -implicitDefEqProofs (disch := first | omega | decide) only [seval, -Int.reducePow, -Nat.reducePow, cC, pv, binv, sMRChk1, undef, g8, g9]
  refine hK _ _ ?_
  clear hK K
  refine cv_gen fun G10 hG => ?_
  have g10_1 := congrFun hG 1
  have g10_2 := congrFun hG 2
  have g10_5 := congrFun hG 5
  clear hG
  try simp -implicitDefEqProofs (disch := first | omega | decide) only [seval, -Int.reducePow, -Nat.reducePow, cC, pv, binv, sMRChk1, undef, g8, g9] at g10_1 g10_2 g10_5
  have g10 := And.intro g10_1 (And.intro g10_2 g10_5)
  refine cv_block ?_
  refine cv_loop (fun F' L' => ∃ (k : Nat), F' 1 = G10 1 ∧ F' 2 = G10 2 ∧ F' 5 = .int .i64 (k : Int) ∧ L' = [flBox b2 0 0 0, mBox b ⟨TA, tn, tc, ts, FA, fn, fc, gs⟩] ∧ k ≤ fn ∧ firstF 0 gs = firstF k (gs.drop k)) (fun F' L' => 40 - (intOf (F' 5)).toNat) ?_ ?_
  · refine ⟨0, ?_⟩
    simp -implicitDefEqProofs (disch := first | omega | decide) only [seval, -Int.reducePow, -Nat.reducePow, cC, pv, binv, sMRChk1, undef, g8, g9, g10]
    omega
  intro G11 L' hI
  obtain ⟨k, q1, q2, q5, rfl, ⟨hk, hf⟩⟩ := hI
  have g11_1 := q1.trans g10_1
  have g11_2 := q2.trans g10_2
  have g11_5 := q5
  clear q1 q2 q5
  have g11 := And.intro g11_1 (And.intro g11_2 g11_5)
  refine cv_seq_k fun K hK => ?_
  refine cv_seq_k fun K hK => ?_
  refine cv_region_then rfl ?_
  simp -implicitDefEqProofs (disch := first | omega | decide) only [seval, -Int.reducePow, -Nat.reducePow, cC, pv, binv, sMRChk1, undef, g8, g9, g10, g11]
  refine hK _ _ ?_
  clear hK K
  refine cv_cond ?_
  simp -implicitDefEqProofs (disch := first | omega | decide) only [seval, -Int.reducePow, -Nat.reducePow, cC, pv, binv, sMRChk1, undef, g8, g9, g10, g11]
  refine ⟨fun hc => ?_, fun hc => ?_⟩
  · refine cv_skip ?_
    try simp only [blockQ, thenQ]
    have hlt2 : k < fn := by have := of_decide_eq_true ‹_›; omega
    obtain ⟨x, hx⟩ := some_of (l := gs) (i := k) (by omega)
    obtain ⟨q, hq⟩ : ∃ q, fltF k x = q := ⟨_, rfl⟩
    rw [drop_at' hx] at hf
    refine hK _ _ ?_
    clear hK K
    refine cv_seq_k fun K hK => ?_
    refine cv_block ?_
    refine cv_seq_k fun K hK => ?_
    refine cv_region_then rfl ?_
    simp -implicitDefEqProofs (disch := first | omega | decide) only [seval, -Int.reducePow, -Nat.reducePow, cC, pv, binv, sMRChk1, undef, g8, g9, g10, g11]
    refine callV_ret (fun w hw => rcheckFunc_any ⟨TA, tn, tc, ts, FA, fn, fc, gs⟩ k x w (hMat hw) hx) ?_
    try simp -implicitDefEqProofs (disch := first | omega | decide) only [seval, -Int.reducePow, -Nat.reducePow, cC, pv, binv, sMRChk1, undef, hq, g8, g9, g10, g11]
    intro b6 hb6 h6
    refine hK _ _ ?_
    clear hK K
    refine cv_seq_k fun K hK => ?_
    refine cv_region_then rfl ?_
    simp -implicitDefEqProofs (disch := first | omega | decide) only [seval, -Int.reducePow, -Nat.reducePow, cC, pv, binv, sMRChk1, undef, g8, g9, g10, g11]
    refine hK _ _ ?_
    clear hK K
    refine cv_cond ?_
    simp -implicitDefEqProofs (disch := first | omega | decide) only [seval, -Int.reducePow, -Nat.reducePow, cC, pv, binv, sMRChk1, undef, g8, g9, g10, g11]
    refine ⟨fun hc => ?_, fun hc => ?_⟩
    · have hz : ¬ q.1 = 0 := nd_true ‹(!decide (q.1 = 0)) = true›
      rw [firstF_no _ (by rw [hq]; exact hz), hq] at hf
      refine cv_seq_k fun K hK => ?_
      refine cv_region_then rfl ?_
      simp -implicitDefEqProofs (disch := first | omega | decide) only [seval, -Int.reducePow, -Nat.reducePow, cC, pv, binv, sMRChk1, undef, g8, g9, g10, g11]
      refine hK _ _ ?_
      clear hK K
      refine cv_ret ?_
      simp -implicitDefEqProofs (disch := first | omega | decide) only [seval, -Int.reducePow, -Nat.reducePow, cC, pv, binv, sMRChk1, undef, retQ2, ressV, packV, g8, g9, g10, g11]
      intro w hw
      exact ⟨by rw [hC, hf] <;> rfl, hw.below⟩
    have hz : q.1 = 0 := Decidable.not_not.1 (nd_false ‹(!decide (q.1 = 0)) = false›)
    rw [firstF_yes _ (by rw [hq]; exact hz)] at hf
    refine cv_skip ?_
    try simp only [blockQ, thenQ]
    refine hK _ _ ?_
    clear hK K
    refine cv_pick [1, 2] (by decide) ?_
    simp only [pickL, nth]
    refine cv_region_then rfl ?_
    simp -implicitDefEqProofs (disch := first | omega | decide) only [seval, -Int.reducePow, -Nat.reducePow, cC, pv, binv, sMRChk1, undef, wrap_in, g8, g9, g10, g11]
    refine ⟨⟨k + 1, ?_⟩, ?_⟩
    · simp -implicitDefEqProofs (disch := first | omega | decide) only [seval, -Int.reducePow, -Nat.reducePow, cC, pv, binv, sMRChk1, undef, Int.natCast_add, g8, g9, g10, g11]
      exact ⟨by omega, hf⟩
    · simp only [intOf]; omega
  refine cv_exit ?_
  simp only [blockQ, thenQ, if_true, ite_true]
  clear hK K
  refine hK _ _ ?_
  clear hK K
  obtain rfl : fn = k := by have := of_decide_eq_false ‹_›; omega
  rw [List.drop_of_length_le (by omega)] at hf
  refine cv_seq_k fun K hK => ?_
  refine cv_region_then rfl ?_
  simp -implicitDefEqProofs (disch := first | omega | decide) only [seval, -Int.reducePow, -Nat.reducePow, cC, pv, binv, sMRChk1, undef, g8, g9, g10, g11]
  refine callV_ret (fun w hw => fine_any w) ?_
  try simp -implicitDefEqProofs (disch := first | omega | decide) only [seval, -Int.reducePow, -Nat.reducePow, cC, pv, binv, sMRChk1, undef, g8, g9, g10, g11]
  refine hK _ _ ?_
  clear hK K
  refine cv_ret ?_
  simp -implicitDefEqProofs (disch := first | omega | decide) only [seval, -Int.reducePow, -Nat.reducePow, cC, pv, binv, sMRChk1, undef, retQ2, ressV, packV, g8, g9, g10, g11]
  intro w hw
  exact ⟨by rw [hC, hf] <;> rfl, hw.below⟩
end Go.Proofs.YtlbmnioibiomfaaGreat
