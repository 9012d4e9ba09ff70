/- What an operation that only computes makes of its operands, and that the model makes the same. -/
import Derived.Test.YtehfnjaompkikaaEng
import Derived.Laws.StructEq
import Derived.Laws.Tables
namespace Go.Proofs.Ytehfnjaompkikaa
open Go.RowKit Go.Shelf
set_option linter.unusedVariables false
set_option linter.unusedSimpArgs false

/-! closed facts of types -/
def isAggD : TypeDesc → Bool
  | .struct _ | .array _ _ => true
  | _ => false
/-- Is it a struct or an array; how many cells. -/
def tsz (P : Program) (t : TypeId) : Option (Bool × Nat) :=
  match P.underlying t, P.info? t with
  | some d, some i => some (isAggD d, i.size)
  | _, _ => none
/-- The cells of the zero value. -/
def tzero (P : Program) (t : TypeId) : Option (List Value) :=
  match P.info? t with
  | some i => i.zero.map (·.cells.toList)
  | none => none
/-- A slice type's element, with its size. -/
def tsl (P : Program) (t : TypeId) : Option (TypeId × Nat) :=
  match P.underlying t with
  | some (.slice e) => (P.info? e).map fun i => (e, i.size)
  | _ => none
/-- The place of a field. -/
def tfo (P : Program) (s : TypeId) (f : Nat) : Option Nat :=
  match P.underlying s with
  | some (.struct fs) => match fs[f]? with
    | some fd => match P.info? fd.type with
      | some i => if i.size = 0 then none else some fd.offset
      | none => none
    | none => none
  | _ => none
def tint (P : Program) (t : TypeId) : Option IntKind :=
  match P.underlying t with
  | some (.int k) => some k
  | _ => none
def tarr (P : Program) (t : TypeId) : Option (Nat × Nat) :=
  match P.underlying t with
  | some (.array n e) => (P.info? e).map fun i => (n, i.size)
  | _ => none

/-- 1: bool, 2: a pointer, 3: a slice, 4: a string, 0: any other. -/
def tkind (P : Program) (t : TypeId) : Nat :=
  match P.underlying t with
  | some .bool => 1
  | some (.pointer _) => 2
  | some (.slice _) => 3
  | some .string => 4
  | _ => 0
theorem tkind_bool {P : Program} {t : TypeId} (h : tkind P t = 1) : P.underlying t = some .bool := by
  unfold tkind at h
  split at h <;> first | assumption | cases h
theorem tkind_ptr {P : Program} {t : TypeId} (h : tkind P t = 2) : P.underlying t = some (.pointer (P.pointee t)) := by
  unfold tkind at h
  split at h <;> first | (rename_i e he; simp [Program.pointee, he]; done) | cases h
theorem tkind_slice {P : Program} {t : TypeId} (h : tkind P t = 3) : P.underlying t = some (.slice (P.elem t)) := by
  unfold tkind at h
  split at h <;> first | (rename_i e he; simp [Program.elem, he]; done) | cases h

inductive PV where
  | need (p : Prop) (v : Value)
  | no

def cmpv (op : BinOp) (a b : Int) : Bool :=
  match op with
  | .eql => decide (a = b)
  | .neq => !decide (a = b)
  | .lss => decide (a < b)
  | .leq => decide (a ≤ b)
  | .gtr => decide (b < a)
  | .geq => decide (b ≤ a)
  | _ => false
def intsEq : List Value → List Value → Option Bool
  | [], [] => some true
  | .int k a :: xs, .int k' b :: ys => if k = k' then (intsEq xs ys).map fun r => decide (a = b) && r else none
  | _, _ => none
/-- A struct all of whose fields are integers, a cell each, in order. -/
def flatInts (P : Program) : Nat → List Field → Bool
  | _, [] => true
  | i, f :: fs => f.name != "_" && f.offset == i && (tsz P f.type == some (false, 1)) && (tint P f.type).isSome && flatInts P (i + 1) fs
def eqOk (P : Program) (t : TypeId) : Option Nat :=
  match P.underlying t with
  | some (.struct fs) => if flatInts P 0 fs.toList && !P.stoodInHeld t && !P.eqGuardType P.depth t then some fs.size else none
  | _ => none

def binv (P : Program) (op : BinOp) (t : TypeId) (x y : Value) : PV :=
  match op with
  | .add => match x, y with
    | .int k a, .int k' b => .need (k = k') (.int k (k.wrap (a + b)))
    | .string a, .string b => .need (a.size + b.size ≤ 9223372036854775807) (.string (a ++ b))
    | _, _ => .no
  | .sub => match x, y with | .int k a, .int k' b => .need (k = k') (.int k (k.wrap (a - b))) | _, _ => .no
  | .mul => match x, y with | .int k a, .int k' b => .need (k = k') (.int k (k.wrap (a * b))) | _, _ => .no
  | .quo => match x, y with | .int k a, .int k' b => .need (k = k' ∧ b ≠ 0) (.int k (k.wrap (a.tdiv b))) | _, _ => .no
  | .rem => match x, y with | .int k a, .int k' b => .need (k = k' ∧ b ≠ 0) (.int k (a.tmod b)) | _, _ => .no
  | .and => match x, y with | .int k a, .int k' b => .need (k = k') (.int k (bits .and k a b)) | _, _ => .no
  | .or => match x, y with | .int k a, .int k' b => .need (k = k') (.int k (bits .or k a b)) | _, _ => .no
  | .xor => match x, y with | .int k a, .int k' b => .need (k = k') (.int k (bits .xor k a b)) | _, _ => .no
  | .andNot => match x, y with | .int k a, .int k' b => .need (k = k') (.int k (bits .andNot k a b)) | _, _ => .no
  | .shl => match x, y with | .int k a, .int k' b => .need (0 ≤ b ∧ b ≤ k.bits) (.int k (k.wrap (a * 2 ^ b.toNat))) | _, _ => .no
  | .shr => match x, y with | .int k a, .int k' b => .need (0 ≤ b ∧ b ≤ k.bits) (.int k (a / 2 ^ b.toNat)) | _, _ => .no
  | .eql => match x, y with
    | .int k a, .int k' b => .need (k = k') (.bool (decide (a = b)))
    | .bool a, .bool b => .need (tkind P t = 1) (.bool (a == b))
    | .string a, .string b => .need True (.bool (a.toList == b.toList))
    | .pointer a, .pointer none => .need (tkind P t = 2) (.bool a.isNone)
    | .slice a n c, .slice none 0 0 => .need (tkind P t = 3) (.bool a.isNone)
    | .agg xs, .agg ys => match eqOk P t, intsEq xs.toList ys.toList with
      | some n, some r => .need (xs.size = n ∧ ys.size = n) (.bool r)
      | _, _ => .no
    | _, _ => .no
  | .neq => match x, y with
    | .int k a, .int k' b => .need (k = k') (.bool (!decide (a = b)))
    | .bool a, .bool b => .need (tkind P t = 1) (.bool (!(a == b)))
    | .string a, .string b => .need True (.bool (!(a.toList == b.toList)))
    | .pointer a, .pointer none => .need (tkind P t = 2) (.bool a.isSome)
    | .slice a n c, .slice none 0 0 => .need (tkind P t = 3) (.bool a.isSome)
    | .agg xs, .agg ys => match eqOk P t, intsEq xs.toList ys.toList with
      | some n, some r => .need (xs.size = n ∧ ys.size = n) (.bool (!r))
      | _, _ => .no
    | _, _ => .no
  | .lss => match x, y with | .int k a, .int k' b => .need (k = k') (.bool (decide (a < b))) | _, _ => .no
  | .leq => match x, y with | .int k a, .int k' b => .need (k = k') (.bool (decide (a ≤ b))) | _, _ => .no
  | .gtr => match x, y with | .int k a, .int k' b => .need (k = k') (.bool (decide (b < a))) | _, _ => .no
  | .geq => match x, y with | .int k a, .int k' b => .need (k = k') (.bool (decide (b ≤ a))) | _, _ => .no

theorem run_eql_ints (P : Program) (w : World) (d : Nat) : ∀ (fs : List Field) (i : Nat) (xs ys : Array Value) (r : Bool), flatInts P i fs = true → xs.size = i + fs.length → ys.size = i + fs.length →
    intsEq (xs.toList.drop i) (ys.toList.drop i) = some r → (Op.eqFields (d + 1) xs ys fs).run P w = .ok r w
  | [], i, xs, ys, r, _, hx, hy, h => by
    have e1 : xs.toList.drop i = [] := List.drop_eq_nil_of_le (by simp at hx ⊢; omega)
    have e2 : ys.toList.drop i = [] := List.drop_eq_nil_of_le (by simp at hy ⊢; omega)
    rw [e1, e2] at h
    simp only [intsEq, Option.some.injEq] at h
    subst h
    simp [Op.eqFields]
  | f :: fs, i, xs, ys, r, hf, hx, hy, h => by
    simp only [flatInts, Bool.and_eq_true, bne_iff_ne, beq_iff_eq] at hf
    obtain ⟨⟨⟨⟨h1, h2⟩, h3⟩, h4⟩, h5⟩ := hf
    simp only [List.length_cons] at hx hy
    have lx : i < xs.size := by omega
    have ly : i < ys.size := by omega
    have q1 : xs.toList.drop i = xs[i] :: xs.toList.drop (i + 1) := by rw [List.drop_eq_getElem_cons (by simpa using lx)]; simp
    have q2 : ys.toList.drop i = ys[i] :: ys.toList.drop (i + 1) := by rw [List.drop_eq_getElem_cons (by simpa using ly)]; simp
    rw [q1, q2] at h
    clear q1 q2
    generalize hxi : xs[i] = u at h
    generalize hyi : ys[i] = v at h
    cases u <;> try (simp [intsEq] at h; done)
    cases v <;> try (simp [intsEq] at h; done)
    rename_i k a k' b
    simp only [intsEq] at h
    split at h
    case isFalse => cases h
    rename_i hkk
    subst hkk
    obtain ⟨r', hr', rfl⟩ := Option.map_eq_some_iff.1 h
    obtain ⟨ki, hki⟩ := Option.isSome_iff_exists.1 h4
    have hu : P.underlying f.type = some (.int ki) := by
      unfold tint at hki
      split at hki
      · rename_i k0 hk0; rw [hk0]; injection hki with hki; rw [hki]
      · cases hki
    have hsz : (sizeOf f.type).run P w = .ok 1 w := by
      unfold tsz at h3
      split at h3
      · rename_i d0 i0 hd0 hi0
        simp only [Option.some.injEq, Prod.mk.injEq] at h3
        simp [sizeOf, typeInfo, hi0, h3.2]
      · cases h3
    have hagg : (isAgg f.type).run P w = .ok false w := by
      simp [isAgg, run_underlying hu]
    have p1 : ∀ (zs : Array Value) (hz : i < zs.size), (part f.type zs f.offset).run P w = .ok zs[i] w := by
      intro zs hz
      simp [part, h2, hsz, hagg, hz]
    have ih := run_eql_ints P w d fs (i + 1) xs ys r' h5 (by omega) (by omega) hr'
    have hq : (Op.equalIn (d + 1) f.type (.int k a) (.int k b)).run P w = .ok (a == b) w := by simp [Op.equalIn, run_underlying hu]
    simp only [Op.eqFields, h1, ne_eq, not_false_eq_true, if_true, Sem.run_bind, p1 xs lx, p1 ys ly, Result.andThen_ok, hxi, hyi, hq, Sem.run_ite]
    by_cases hab : a = b
    · subst hab; simpa using ih
    · simp [hab]

theorem run_agg_eq {P : Program} (w : World) {t : TypeId} {xs ys : Array Value} {n : Nat} {r : Bool} (h : eqOk P t = some n) (hx : xs.size = n) (hy : ys.size = n) (hr : intsEq xs.toList ys.toList = some r) (x y : Operand) (op : BinOp) (hop : op = .eql ∨ op = .neq) :
    (do eqGuard op t x y (.agg xs) (.agg ys); binOp op t (.agg xs) (.agg ys) : Sem Value).run P w = .ok (.bool (if op = .eql then r else !r)) w := by
  unfold eqOk at h
  split at h
  · rename_i fs hfs
    split at h
    · rename_i hc
      simp only [Bool.and_eq_true, Bool.not_eq_true'] at hc
      injection h with h
      subst h
      have hf : P.fieldsOf t = fs := by simp [Program.fieldsOf, hfs]
      have hg := run_eqGuard_agg (P := P) w op t x y xs ys hc.2
      have he : (Op.equalIn 10000 t (.agg xs) (.agg ys)).run P w = .ok r w := by
        rw [run_equalIn_struct (P := P) w 9999 t xs ys (by rw [hf]; exact hfs) hc.1.2, hf]
        exact run_eql_ints P w 9998 fs.toList 0 xs ys r hc.1.1 (by simpa using hx) (by simpa using hy) (by simpa using hr)
      rcases hop with rfl | rfl
      · simp [Sem.run_bind, hg, run_eql_struct, he]
      · simp [Sem.run_bind, hg, run_neq_struct, he]
    · cases h
  · cases h

theorem pure_bind_run {α : Type} {P : Program} {w : World} {s : Sem α} {u : Sem Unit} (h : u = pure ()) : (do u; s).run P w = s.run P w := by rw [h]; simp

theorem binv_sound {P : Program} {op : BinOp} {t : TypeId} {x y v : Value} {p : Prop} (h : binv P op t x y = .need p v) (hp : p) (X Y : Operand) (w : World) :
    (do eqGuard op t X Y x y; binOp op t x y : Sem Value).run P w = .ok v w := by
  cases op
  case eql =>
    simp only [binv] at h
    split at h
    · cases h; subst hp; simp [eqGuard_at_int, binOp_eql]; rfl
    · cases h
      rw [pure_bind_run (eqGuard_at_bool _ _ _ _ _ _)]
      exact run_eql_bool w t _ _ (tkind_bool hp)
    · cases h; simp [eqGuard_at_string, binOp, Op.stringOp, beq_toListBytes]
    · cases h
      rw [pure_bind_run (eqGuard_at_pointer _ _ _ _ _ _)]
      exact run_eql_pointer_nil w t _ (tkind_ptr hp)
    · cases h
      rw [pure_bind_run (eqGuard_at_slice _ _ _ _ _ _ _ _)]
      exact Lib.run_eql_slice_nil w t _ _ _ _ 0 0 (tkind_slice hp)
    · split at h
      · cases h
        rw [run_agg_eq w ‹_› hp.1 hp.2 ‹_› X Y .eql (.inl rfl)]
        rfl
      · cases h
    · cases h
  case neq =>
    simp only [binv] at h
    split at h
    · cases h; subst hp; rw [pure_bind_run (eqGuard_at_int _ _ _ _ _ _ _), binOp_neq]; simp [bne]; rfl
    · cases h
      rw [pure_bind_run (eqGuard_at_bool _ _ _ _ _ _)]
      exact run_neq_bool w t _ _ (tkind_bool hp)
    · cases h; simp [eqGuard_at_string, binOp, Op.stringOp, beq_toListBytes]
    · cases h
      rw [pure_bind_run (eqGuard_at_pointer _ _ _ _ _ _)]
      rw [run_neq_pointer_nil w t _ (tkind_ptr hp)]
      simp
    · cases h
      rw [pure_bind_run (eqGuard_at_slice _ _ _ _ _ _ _ _)]
      rw [run_neq_slice_nil_any w t _ _ _ _ 0 0 (tkind_slice hp)]
      simp
    · split at h
      · cases h
        rw [run_agg_eq w ‹_› hp.1 hp.2 ‹_› X Y .neq (.inr rfl)]
        rfl
      · cases h
    · cases h
  case add =>
    simp only [binv] at h
    split at h
    · cases h
      subst hp
      rw [pure_bind_run (eqGuard_at_int _ _ _ _ _ _ _)]
      simp only [binOp_add, Op.intArith]
      rfl
    · rename_i a b
      cases h
      rw [pure_bind_run (eqGuard_at_string _ _ _ _ _ _)]
      have hm : IntKind.i64.max = 9223372036854775807 := by decide
      have hle : ¬ (((a.size + b.size : Nat) : Int) > IntKind.i64.max) := by rw [hm]; omega
      rw [binOp_string_add]
      simp only [Op.stringOp, if_neg hle, Sem.run_pure]
    · cases h
  case shl =>
    cases x <;> try (simp only [binv] at h; cases h)
    cases y <;> simp only [binv] at h <;> cases h
    rw [pure_bind_run (eqGuard_at_int _ _ _ _ _ _ _), binOp_shl, shift_shl _ _ _ _ hp.1 hp.2]
    simp
  case shr =>
    cases x <;> try (simp only [binv] at h; cases h)
    cases y <;> simp only [binv] at h <;> cases h
    rw [pure_bind_run (eqGuard_at_int _ _ _ _ _ _ _), binOp_shr, shift_shr _ _ _ _ hp.1 hp.2]
    simp
  case quo =>
    cases x <;> try (simp only [binv] at h; cases h)
    cases y <;> simp only [binv] at h <;> cases h
    obtain ⟨rfl, hb⟩ := hp
    rw [pure_bind_run (eqGuard_at_int _ _ _ _ _ _ _), binOp_quo]
    simp [Op.intDiv, hb]
  case rem =>
    cases x <;> try (simp only [binv] at h; cases h)
    cases y <;> simp only [binv] at h <;> cases h
    obtain ⟨rfl, hb⟩ := hp
    rw [pure_bind_run (eqGuard_at_int _ _ _ _ _ _ _), binOp_rem]
    simp [Op.intDiv, hb]
  all_goals
    cases x <;> try (simp only [binv] at h; cases h)
    cases y <;> simp only [binv] at h <;> cases h
    subst hp
    rw [pure_bind_run (eqGuard_at_int _ _ _ _ _ _ _)]
    first
      | (simp only [binOp_add, Op.intArith]; rfl)
      | (simp only [binOp_sub, Op.intArith]; rfl)
      | (simp only [binOp_mul, Op.intArith]; rfl)
      | (simp only [binOp_and, intBits_and]; rfl)
      | (simp only [binOp_or, intBits_or]; rfl)
      | (simp only [binOp_xor, intBits_xor]; rfl)
      | (simp only [binOp_andNot, intBits_andNot]; rfl)
      | (simp only [binOp_lss]; rfl)
      | (simp only [binOp_leq]; rfl)
      | (simp only [binOp_gtr]; rfl)
      | (simp only [binOp_geq]; rfl)
end Go.Proofs.Ytehfnjaompkikaa
