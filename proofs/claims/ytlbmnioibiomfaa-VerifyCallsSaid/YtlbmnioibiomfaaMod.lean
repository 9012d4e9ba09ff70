/- Modules: their data, and their first fault. -/
import Derived.Test.YtlbmnioibiomfaaIns
import Derived.Test.YtlbmnioibiomfaaLay
namespace Go.Proofs.Ytlbmnioibiomfaa
open Go.RowKit Go.Shelf
set_option linter.unusedVariables false
set_option linter.unusedSimpArgs false
theorem drop_at' {α : Type} {l : List α} {i : Nat} {x : α} (h : l[i]? = some x) : l.drop i = x :: l.drop (i + 1) := by
  obtain ⟨hi, hx⟩ := List.getElem?_eq_some_iff.1 h
  rw [List.drop_eq_getElem_cons hi, hx]
structure TyR where
  len : Int
  A : Option Addr
  n : Nat
  c : Nat
  fs : List Fd
structure FnR where
  p : Int
  r : Int
  l : Int
  A : Option Addr
  n : Nat
  c : Nat
  code : List Ins
structure ModR where
  TA : Option Addr
  tn : Nat
  tc : Nat
  ts : List TyR
  FA : Option Addr
  fn : Nat
  fc : Nat
  gs : List FnR
def tyc (t : TyR) : List Value := [.int .i64 t.len, .slice t.A t.n t.c]
def fnc (f : FnR) : List Value := [.int .i64 f.p, .int .i64 f.r, .int .i64 f.l, .slice f.A f.n f.c]
def fnV (f : FnR) : Value := .agg #[.int .i64 f.p, .int .i64 f.r, .int .i64 f.l, .slice f.A f.n f.c]
def modV (m : ModR) : Value := .agg #[.slice m.TA m.tn m.tc, .slice m.FA m.fn m.fc]
theorem tyc_len (t : TyR) : (tyc t).length = 2 := rfl
theorem fnc_len (f : FnR) : (fnc f).length = 4 := rfl
theorem tyc_ones (t : TyR) : ones (tyc t) = true := rfl
theorem fnc_ones (f : FnR) : ones (fnc f) = true := rfl
structure Mod (w : World) (B : Nat) (m : ModR) : Prop where
  ts : Sl w B 2 m.TA m.tn m.tc (cl tyc m.ts)
  ty : ∀ t ∈ m.ts, Sl w B 2 t.A t.n t.c (cl fdc t.fs)
  gs : Sl w B 4 m.FA m.fn m.fc (cl fnc m.gs)
  fn : ∀ g ∈ m.gs, Sl w B 2 g.A g.n g.c (cl insc g.code)
  arg : ∀ g ∈ m.gs, ∀ i ∈ g.code, i.arg < 18446744073709551616
section
variable {W w : World} {L : List Res} {n c : Nat} {A : Option Addr} {m : ModR} {ts : List TyR} {gs : List FnR}
theorem Mod.at (h : Mod W W.heap.size m) (hw : St [] W L w) : Mod w w.heap.size m := ⟨h.ts.at hw, fun t ht => (h.ty t ht).at hw, h.gs.at hw, fun g hg => (h.fn g hg).at hw, h.arg⟩
theorem Mod.tlen {B : Nat} (h : Mod w B m) : m.ts.length = m.tn := cl_row tyc_len (by omega) h.ts.len
theorem Mod.glen {B : Nat} (h : Mod w B m) : m.gs.length = m.fn := cl_row fnc_len (by omega) h.gs.len
theorem Sl.tyl {b off k : Nat} {x : TyR} (h : Sl W W.heap.size 2 (some ⟨b, off, none⟩) n c (cl tyc ts)) (hx : ts[k]? = some x) : LD Try.prog [] W L 74 ⟨b, off + k * 2, none⟩ (.agg #[.int .i64 x.len, .slice x.A x.n x.c]) :=
  h.ld (vs := tyc x) (by
    have := cl_row tyc_len (by omega) h.len
    have := (List.getElem?_eq_some_iff.1 hx).1
    omega) (by kernel_rfl) (cl_at tyc_len hx)
theorem Sl.fnl {b off k : Nat} {x : FnR} (h : Sl W W.heap.size 4 (some ⟨b, off, none⟩) n c (cl fnc gs)) (hx : gs[k]? = some x) : LD Try.prog [] W L 58 ⟨b, off + k * 4, none⟩ (.agg #[.int .i64 x.p, .int .i64 x.r, .int .i64 x.l, .slice x.A x.n x.c]) :=
  h.ld (vs := fnc x) (by
    have := cl_row fnc_len (by omega) h.len
    have := (List.getElem?_eq_some_iff.1 hx).1
    omega) (by kernel_rfl) (cl_at fnc_len hx)
end
/-! ## The first fault -/
def firstT : List TyR → Int
  | [] => 0
  | t :: r => if chk t.len t.fs = 0 then firstT r else chk t.len t.fs
theorem firstT_no {t : TyR} (r : List TyR) (h : ¬ chk t.len t.fs = 0) : firstT (t :: r) = chk t.len t.fs := by rw [firstT, if_neg h]
theorem firstT_yes {t : TyR} (r : List TyR) (h : chk t.len t.fs = 0) : firstT (t :: r) = firstT r := by rw [firstT, if_pos h]
def firstI : Nat → List Ins → Int × Int
  | _, [] => (0, -1)
  | k, x :: r => if x.err = 0 then firstI (k + 1) r else (x.err, (k : Int))
theorem firstI_no {k : Nat} {x : Ins} (r : List Ins) (h : ¬ x.err = 0) : firstI k (x :: r) = (x.err, (k : Int)) := by rw [firstI, if_neg h]
theorem firstI_yes {k : Nat} {x : Ins} (r : List Ins) (h : x.err = 0) : firstI k (x :: r) = firstI (k + 1) r := by rw [firstI, if_pos h]
def fnErr (i : Int) (f : FnR) : Int :=
  if f.p < 0 ∨ f.r < 0 ∨ f.l < 0 then 3 else if 64 < f.p ∨ 64 - f.p < f.l ∨ 8 < f.r then 4 else if i = 0 ∧ (¬ f.p = 0 ∨ ¬ f.r = 0) then 3
  else if f.code.length = 0 then 3 else if 1024 < f.code.length then 4 else 0
/-- A fault: its error, the function, the instruction. -/
abbrev Flt := Int × Int × Int
def fltV (f : Flt) : Value := .agg #[.int .i64 f.1, .int .i64 f.2.1, .int .i64 f.2.2]
def fineF : Flt := (0, -1, -1)
def fltF (i : Nat) (f : FnR) : Flt := if fnErr i f = 0 then (if (firstI 0 f.code).1 = 0 then fineF else ((firstI 0 f.code).1, (i : Int), (firstI 0 f.code).2)) else (fnErr i f, (i : Int), -1)
def firstF : Nat → List FnR → Flt
  | _, [] => fineF
  | i, f :: r => if (fltF i f).1 = 0 then firstF (i + 1) r else fltF i f
theorem firstF_no {i : Nat} {f : FnR} (r : List FnR) (h : ¬ (fltF i f).1 = 0) : firstF i (f :: r) = fltF i f := by rw [firstF, if_neg h]
theorem firstF_yes {i : Nat} {f : FnR} (r : List FnR) (h : (fltF i f).1 = 0) : firstF i (f :: r) = firstF (i + 1) r := by rw [firstF, if_pos h]
/-- The error of the types and of the numbers. -/
def chkP (m : ModR) : Int := if 32 < m.ts.length then 4 else if firstT m.ts = 0 then (if m.gs.length = 0 then 3 else if 32 < m.gs.length then 4 else 0) else firstT m.ts
def chkM (m : ModR) : Flt := if chkP m = 0 then firstF 0 m.gs else (chkP m, -1, -1)
theorem firstF_fine : ∀ (i : Nat) (l : List FnR), (firstF i l).1 = 0 → firstF i l = fineF
  | _, [], _ => rfl
  | i, f :: r, h => by
    by_cases h0 : (fltF i f).1 = 0
    · rw [firstF_yes r h0] at h ⊢; exact firstF_fine _ r h
    · rw [firstF_no r h0] at h; exact absurd h h0
theorem chkM_fine {m : ModR} (h : (chkM m).1 = 0) : chkM m = fineF := by
  unfold chkM at *
  split
  · rename_i h0
    rw [if_pos h0] at h
    exact firstF_fine _ _ h
  · rename_i h0
    rw [if_neg h0] at h
    exact absurd h h0
theorem firstT_ok : ∀ {ts : List TyR}, firstT ts = 0 → ∀ t ∈ ts, chk t.len t.fs = 0
  | [], _, t, h => by cases h
  | t :: r, h, u, hu => by
    by_cases h0 : chk t.len t.fs = 0
    · rw [firstT_yes r h0] at h
      rcases List.mem_cons.1 hu with rfl | hu
      · exact h0
      · exact firstT_ok h u hu
    · rw [firstT_no r h0] at h; exact absurd h h0
theorem firstI_ok : ∀ {k : Nat} {l : List Ins}, (firstI k l).1 = 0 → ∀ x ∈ l, x.err = 0
  | _, [], _, x, h => by cases h
  | k, y :: r, h, x, hx => by
    by_cases h0 : y.err = 0
    · rw [firstI_yes r h0] at h
      rcases List.mem_cons.1 hx with rfl | hx
      · exact h0
      · exact firstI_ok h x hx
    · rw [firstI_no r h0] at h; exact absurd h h0
theorem fnErr_ok {i : Int} {f : FnR} (h : fnErr i f = 0) : 0 ≤ f.p ∧ 0 ≤ f.r ∧ 0 ≤ f.l ∧ f.p ≤ 64 ∧ f.p + f.l ≤ 64 ∧ f.r ≤ 8 ∧ 1 ≤ f.code.length ∧ f.code.length ≤ 1024 ∧ (i = 0 → f.p = 0 ∧ f.r = 0) := by
  unfold fnErr at h
  repeat' split at h
  all_goals first | (cases h; done) | omega
theorem fltF_ok {i : Nat} {f : FnR} (h : (fltF i f).1 = 0) : fnErr i f = 0 ∧ ∀ x ∈ f.code, x.err = 0 := by
  unfold fltF at h
  split at h
  · rename_i h0
    split at h
    · rename_i h1
      exact ⟨h0, firstI_ok h1⟩
    · rename_i h1
      exact absurd h h1
  · rename_i h0
    exact absurd h h0
theorem firstF_ok : ∀ {i : Nat} {l : List FnR}, (firstF i l).1 = 0 → ∀ (j : Nat) (f : FnR), l[j]? = some f → (fltF (i + j) f).1 = 0
  | _, [], _, j, f, h => by simp at h
  | i, g :: r, h, j, f, hj => by
    by_cases h0 : (fltF i g).1 = 0
    · rw [firstF_yes r h0] at h
      cases j with
      | zero => simp at hj; subst hj; exact h0
      | succ j =>
        have := firstF_ok h j f (by simpa using hj)
        rwa [show i + (j + 1) = i + 1 + j by omega]
    · rw [firstF_no r h0] at h; exact absurd h h0
theorem chkM_ok {m : ModR} (h : (chkM m).1 = 0) : m.ts.length ≤ 32 ∧ (∀ t ∈ m.ts, chk t.len t.fs = 0) ∧ 1 ≤ m.gs.length ∧ m.gs.length ≤ 32 ∧ ∀ (j : Nat) (f : FnR), m.gs[j]? = some f → fnErr j f = 0 ∧ ∀ x ∈ f.code, x.err = 0 := by
  unfold chkM at h
  split at h
  · rename_i h0
    unfold chkP at h0
    split at h0
    · cases h0
    split at h0
    · rename_i h1 h2
      split at h0
      · cases h0
      split at h0
      · cases h0
      exact ⟨by omega, firstT_ok h2, by omega, by omega, fun j f hj => by have := firstF_ok h j f hj; rw [Nat.zero_add] at this; exact fltF_ok this⟩
    · rename_i h1 h2
      exact absurd h0 h2
  · rename_i h0
    exact absurd h h0
section
variable {W w : World} {L : List Res} {n c : Nat} {A : Option Addr} {ts : List TyR} {gs : List FnR}
theorem Sl.tyf {b off k : Nat} {x : TyR} (h : Sl W W.heap.size 2 (some ⟨b, off, none⟩) n c (cl tyc ts)) (hx : ts[k]? = some x) : LD Try.prog [] W L 72 ⟨b, off + k * 2 + 1, none⟩ (.slice x.A x.n x.c) := by
  have := h.ld1 (L := L) (P := Try.prog) (T := 72) (m := 1) (by kernel_rfl) (cl_get (j := 1) tyc_len hx rfl)
  rwa [← Nat.add_assoc] at this
theorem Sl.fnf {b off k : Nat} {x : FnR} (h : Sl W W.heap.size 4 (some ⟨b, off, none⟩) n c (cl fnc gs)) (hx : gs[k]? = some x) : LD Try.prog [] W L 56 ⟨b, off + k * 4 + 3, none⟩ (.slice x.A x.n x.c) := by
  have := h.ld1 (L := L) (P := Try.prog) (T := 56) (m := 1) (by kernel_rfl) (cl_get (j := 3) fnc_len hx rfl)
  rwa [← Nat.add_assoc] at this
end
end Go.Proofs.Ytlbmnioibiomfaa
