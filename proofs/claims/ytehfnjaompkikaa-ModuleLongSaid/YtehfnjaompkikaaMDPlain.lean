/- Decoding modules: plain. -/
import Derived.Test.YtehfnjaompkikaaMEnc
import Derived.Test.YtehfnjaompkikaaBPlain
namespace Go.Proofs.Ytehfnjaompkikaa
open Go.RowKit Go.Shelf
set_option linter.unusedVariables false
set_option linter.unusedSimpArgs false
/-- What is read, and the bytes that follow; or an error. -/
abbrev Rs (α : Type) := Except Int (α × List Nat)
def numX (most : Nat) (l : List Nat) : Rs Nat := if (smF l 0 most).2.2 = 0 then .ok ((smF l 0 most).1, l.drop (smF l 0 most).2.1) else .error (smF l 0 most).2.2
def tyX (l : List Nat) : Rs (Int × List Fd) := if (decF l).2.2.2 = 0 then .ok (((decF l).1, (decF l).2.1), l.drop (decF l).2.2.1) else .error (decF l).2.2.2
def inX (l : List Nat) : Rs Ins := if (decI l).2.2 = 0 then .ok ((decI l).1, l.drop (decI l).2.1) else .error (decI l).2.2
def thenX {α β : Type} (r : Rs α) (g : List Nat → Rs β) : Rs (α × β) :=
  match r with
  | .error e => .error e
  | .ok (a, l) => match g l with
    | .error e => .error e
    | .ok (b, l') => .ok ((a, b), l')
def manyX {α : Type} (g : List Nat → Rs α) : Nat → List Nat → Rs (List α)
  | 0, l => .ok ([], l)
  | k + 1, l => match g l with
    | .error e => .error e
    | .ok (x, l') => match manyX g k l' with
      | .error e => .error e
      | .ok (xs, l'') => .ok (x :: xs, l'')
def cntX {α : Type} (g : List Nat → Rs α) (most : Nat) (l : List Nat) : Rs (List α) :=
  match numX most l with
  | .error e => .error e
  | .ok (n, l') => manyX g n l'
def accX {α β : Type} (a : α) (xs : List β) (r : Rs (List β)) : Rs (α × List β) :=
  match r with
  | .error e => .error e
  | .ok (ys, l) => .ok ((a, xs ++ ys), l)
abbrev FnQ := (((Unit × Nat) × Nat) × Nat) × List Ins
def fnX (l : List Nat) : Rs FnQ := thenX (thenX (thenX (thenX (.ok ((), l)) (numX 1024)) (numX 1024)) (numX 1024)) (cntX inX 1024)
abbrev ModQ := (Unit × List (Int × List Fd)) × List FnQ
def decX (l : List Nat) : Rs ModQ := thenX (thenX (.ok ((), l)) (cntX tyX 32)) (cntX fnX 32)
/-- The state of a reader. -/
def Out {α : Type} (r : Rs α) (a : α) (l : List Nat) (e : Int) : Prop := (e = 0 ∧ r = .ok (a, l)) ∨ (¬ e = 0 ∧ r = .error e)
def numE (e : Int) (l : List Nat) (most : Nat) : Nat × Nat × Int := if e = 0 then smF l 0 most else (0, 0, e)
section
variable {α β : Type} {l l' : List Nat} {e e' : Int} {a : α} {b : β} {r : Rs α} {g : List Nat → Rs β}
theorem numE_le (hb : ∀ x ∈ l, x < 256) (most : Nat) : (numE e l most).1 ≤ most ∧ (numE e l most).2.1 ≤ l.length ∧ (¬ (numE e l most).2.2 = 0 → (numE e l most).1 = 0 ∧ (numE e l most).2.1 = 0) := by
  unfold numE
  split
  · rcases smF_cases hb (Nat.zero_le _) (most := most) with h | h
    · exact ⟨by omega, by omega, fun _ => h.2⟩
    · exact ⟨h.2.1, h.2.2.2.1, fun h2 => absurd h.1 h2⟩
  · exact ⟨by simp, by simp, fun _ => ⟨rfl, rfl⟩⟩
theorem Out.start (a : α) (l : List Nat) : Out (.ok (a, l)) a l 0 := .inl ⟨rfl, rfl⟩
theorem Out.seq (h : Out r a l e) (h1 : e = 0 → Out (g l) b l' e') (h2 : ¬ e = 0 → e' = e) : Out (thenX r g) (a, b) l' e' := by
  rcases h with ⟨he, rfl⟩ | ⟨he, rfl⟩
  · rcases h1 he with ⟨k1, k2⟩ | ⟨k1, k2⟩
    · exact .inl ⟨k1, by unfold thenX; simp only [k2]⟩
    · exact .inr ⟨k1, by unfold thenX; simp only [k2]⟩
  · have := h2 he
    subst this
    exact .inr ⟨he, rfl⟩
theorem numX_out {most : Nat} {q : Nat × Nat × Int} (hq : numE 0 l most = q) : Out (numX most l) q.1 (l.drop q.2.1) q.2.2 := by
  unfold numE at hq
  rw [if_pos rfl] at hq
  subst hq
  unfold numX
  by_cases h : (smF l 0 most).2.2 = 0
  · exact .inl ⟨h, by rw [if_pos h]⟩
  · exact .inr ⟨h, by rw [if_neg h]⟩
theorem Out.num {most : Nat} {q : Nat × Nat × Int} (h : Out r a l e) (hq : numE e l most = q) : Out (thenX r (numX most)) (a, q.1) (l.drop q.2.1) q.2.2 := by
  refine h.seq (fun he => ?_) (fun he => ?_)
  · subst he; exact numX_out hq
  · unfold numE at hq
    rw [if_neg he] at hq
    rw [← hq]
theorem accX_cons (xs : List β) (y : β) (r : Rs (List β)) : accX a (xs ++ [y]) r = accX a xs (match r with | .error e => .error e | .ok (ys, l) => .ok (y :: ys, l)) := by
  cases r with
  | error e => rfl
  | ok p => obtain ⟨ys, l⟩ := p; simp [accX]
/-- What a loop that reads keeps. -/
def Lc (g : List Nat → Rs β) (T : Rs (α × List β)) (a : α) (m j : Nat) (xs : List β) (l : List Nat) (e : Int) : Prop :=
  j ≤ m ∧ xs.length = j ∧ ((e = 0 ∧ T = accX a xs (manyX g (m - j) l)) ∨ (¬ e = 0 ∧ T = .error e))
variable {T : Rs (α × List β)} {m j : Nat} {xs : List β} {x : β}
theorem Lc.start {most : Nat} {q : Nat × Nat × Int} (h : Out r a l e) (hq : numE e l most = q) : Lc g (thenX r (cntX g most)) a q.1 0 [] (l.drop q.2.1) q.2.2 := by
  refine ⟨by omega, rfl, ?_⟩
  rcases h with ⟨he, rfl⟩ | ⟨he, rfl⟩
  · subst he
    rcases numX_out hq with ⟨k1, k2⟩ | ⟨k1, k2⟩
    · refine .inl ⟨k1, ?_⟩
      unfold thenX cntX
      simp only [k2, Nat.sub_zero]
      cases manyX g q.1 (l.drop q.2.1) with
      | error e => rfl
      | ok p => rfl
    · refine .inr ⟨k1, ?_⟩
      unfold thenX cntX
      simp only [k2]
  · unfold numE at hq
    rw [if_neg he] at hq
    subst hq
    exact .inr ⟨he, rfl⟩
theorem Lc.step (h : Lc g T a m j xs l 0) (hj : j < m) (hx : Out (g l) x l' e') : Lc g T a m (j + 1) (xs ++ [x]) l' e' := by
  obtain ⟨h1, h2, h3⟩ := h
  refine ⟨by omega, by simp [h2], ?_⟩
  rcases h3 with ⟨-, h3⟩ | ⟨h3, -⟩
  · obtain ⟨d, rfl⟩ : ∃ d, m = j + 1 + d := ⟨m - (j + 1), by omega⟩
    rw [show j + 1 + d - j = d + 1 by omega, manyX] at h3
    rw [show j + 1 + d - (j + 1) = d by omega]
    rcases hx with ⟨k1, k2⟩ | ⟨k1, k2⟩
    · simp only [k2] at h3
      exact .inl ⟨k1, by rw [h3, accX_cons]⟩
    · simp only [k2] at h3
      exact .inr ⟨k1, h3⟩
  · exact absurd rfl h3
theorem Lc.fin (h : Lc g T a m j xs l e) (hj : ¬ j < m ∨ ¬ e = 0) : Out T (a, xs) l e := by
  obtain ⟨h1, h2, h3⟩ := h
  rcases h3 with ⟨k1, k2⟩ | ⟨k1, k2⟩
  · obtain rfl : j = m := by
      rcases hj with h | h
      · omega
      · exact absurd k1 h
    rw [Nat.sub_self] at k2
    exact .inl ⟨k1, by rw [k2]; simp [accX, manyX]⟩
  · exact .inr ⟨k1, k2⟩
theorem Lc.err (h : Lc g T a m j xs l e) (he : ¬ e = 0) : T = .error e := by
  rcases h.2.2 with h | h
  · exact absurd h.1 he
  · exact h.2
theorem Lc.zero (h : Lc g T a m j xs l e) (he : e = 0) : Lc g T a m j xs l 0 := he ▸ h
theorem tyX_out (l : List Nat) : Out (tyX l) ((decF l).1, (decF l).2.1) (l.drop (decF l).2.2.1) (decF l).2.2.2 := by
  unfold tyX
  by_cases h : (decF l).2.2.2 = 0
  · exact .inl ⟨h, by rw [if_pos h]⟩
  · exact .inr ⟨h, by rw [if_neg h]⟩
theorem inX_out (l : List Nat) : Out (inX l) (decI l).1 (l.drop (decI l).2.1) (decI l).2.2 := by
  unfold inX
  by_cases h : (decI l).2.2 = 0
  · exact .inl ⟨h, by rw [if_pos h]⟩
  · exact .inr ⟨h, by rw [if_neg h]⟩
end
/-! ## The data of a module -/
def fnD (g : FnR) : Int × Int × Int × List Ins := (g.p, g.r, g.l, g.code)
def datM (m : ModR) : List (Int × List Fd) × List (Int × Int × Int × List Ins) := (m.ts.map fun t => (t.len, t.fs), m.gs.map fnD)
def qD (q : FnQ) : Int × Int × Int × List Ins := ((q.1.1.1.2 : Int), (q.1.1.2 : Int), (q.1.2 : Int), q.2)
def datQ (q : ModQ) : List (Int × List Fd) × List (Int × Int × Int × List Ins) := (q.1.2, q.2.map qD)
theorem firstT_dat : ∀ {ts us : List TyR}, (ts.map fun t => (t.len, t.fs)) = (us.map fun t => (t.len, t.fs)) → firstT ts = firstT us
  | [], [], _ => rfl
  | [], _ :: _, h => by simp at h
  | _ :: _, [], h => by simp at h
  | t :: ts, u :: us, h => by
    simp only [List.map_cons, List.cons.injEq, Prod.mk.injEq] at h
    obtain ⟨⟨h1, h2⟩, h3⟩ := h
    rw [firstT, firstT, h1, h2, firstT_dat h3]
theorem fnD_eq {f g : FnR} (h : fnD f = fnD g) : f.p = g.p ∧ f.r = g.r ∧ f.l = g.l ∧ f.code = g.code := by
  unfold fnD at h
  simpa using h
theorem fltF_dat {i : Nat} {f g : FnR} (h : fnD f = fnD g) : fltF i f = fltF i g := by
  obtain ⟨h1, h2, h3, h4⟩ := fnD_eq h
  unfold fltF fnErr
  rw [h1, h2, h3, h4]
theorem firstF_dat : ∀ {i : Nat} {fs gs : List FnR}, fs.map fnD = gs.map fnD → firstF i fs = firstF i gs
  | _, [], [], _ => rfl
  | _, [], _ :: _, h => by simp at h
  | _, _ :: _, [], h => by simp at h
  | i, f :: fs, g :: gs, h => by
    simp only [List.map_cons, List.cons.injEq] at h
    rw [firstF, firstF, fltF_dat h.1, firstF_dat h.2]
theorem len_dat {α β : Type} {f : α → β} {xs ys : List α} (h : xs.map f = ys.map f) : xs.length = ys.length := by
  have := congrArg List.length h
  simpa using this
theorem chkM_dat {m k : ModR} (h : datM m = datM k) : chkM m = chkM k := by
  unfold datM at h
  simp only [Prod.mk.injEq] at h
  have h1 := len_dat h.1
  have h2 := len_dat h.2
  unfold chkM chkP
  rw [firstT_dat h.1, firstF_dat h.2, h1, h2]
theorem flat_dat {α β γ : Type} (f : α → List γ) (d : α → β) (hf : ∀ x y, d x = d y → f x = f y) : ∀ {xs ys : List α}, xs.map d = ys.map d → xs.flatMap f = ys.flatMap f
  | [], [], _ => rfl
  | [], _ :: _, h => by simp at h
  | _ :: _, [], h => by simp at h
  | x :: xs, y :: ys, h => by
    simp only [List.map_cons, List.cons.injEq] at h
    rw [List.flatMap_cons, List.flatMap_cons, hf x y h.1, flat_dat f d hf h.2]
theorem encM_dat {m k : ModR} (h : datM m = datM k) : encM m = encM k := by
  unfold datM at h
  simp only [Prod.mk.injEq] at h
  unfold encM
  rw [len_dat h.1, len_dat h.2, flat_dat encTy _ (fun x y h => by simp only [Prod.mk.injEq] at h; unfold encTy; rw [h.1, h.2]) h.1, flat_dat encFn _ (fun x y h => by
    obtain ⟨h1, h2, h3, h4⟩ := fnD_eq h
    unfold encFn
    rw [h1, h2, h3, h4]) h.2]
/-- A module with these data. -/
def ofD (d : List (Int × List Fd) × List (Int × Int × Int × List Ins)) : ModR := ⟨none, 0, 0, d.1.map fun t => ⟨t.1, none, 0, 0, t.2⟩, none, 0, 0, d.2.map fun f => ⟨f.1, f.2.1, f.2.2.1, none, 0, 0, f.2.2.2⟩⟩
theorem datM_ofD (d : List (Int × List Fd) × List (Int × Int × Int × List Ins)) : datM (ofD d) = d := by
  obtain ⟨a, b⟩ := d
  unfold ofD datM
  simp only [List.map_map]
  congr 1
  · exact (List.map_congr_left fun x _ => rfl).trans (List.map_id _)
  · exact (List.map_congr_left fun x _ => rfl).trans (List.map_id _)
/-- .. and nothing may follow. -/
def decL (l : List Nat) : Except Int ModQ :=
  match decX l with
  | .error e => .error e
  | .ok (q, r) => if r = [] then .ok q else .error 3
theorem decL_err {l : List Nat} {e : Int} (h : decX l = .error e) : decL l = .error e := by unfold decL; rw [h]
theorem decF_err {l : List Nat} (h : ¬ (decF l).2.2.2 = 0) : (decF l).2.2.1 = 0 := by
  unfold decF at *
  by_cases h1 : (smF l 0 65536).2.2 = 0
  · rw [if_pos h1] at h ⊢
    by_cases h2 : (smF l (smF l 0 65536).2.1 32).2.2 = 0
    · rw [if_pos h2] at h ⊢
      by_cases h3 : (rdE l (smF l (smF l 0 65536).2.1 32).1 (smF l (smF l 0 65536).2.1 32).2.1).2.2 = 0
      · rw [if_pos h3] at h ⊢
        split
        · rename_i h4
          rw [if_pos h4] at h
          exact absurd rfl h
        · rfl
      · rw [if_neg h3]
    · rw [if_neg h2]
  · rw [if_neg h1]
def decK (r : Except Int ModQ) : Except Int (List (Int × List Fd) × List (Int × Int × Int × List Ins)) :=
  match r with
  | .error e => .error e
  | .ok q => if (chkM (ofD (datQ q))).1 = 0 then .ok (datQ q) else .error (chkM (ofD (datQ q))).1
/-- The module that bytes are, or the error. -/
def decM (b : List Nat) : Except Int (List (Int × List Fd) × List (Int × Int × Int × List Ins)) :=
  if 65536 < b.length then .error 4 else if ¬ b.take 4 = magicB then .error 3 else decK (decL (b.drop 4))
theorem decK_ok {r : Except Int ModQ} {q : ModQ} {m : ModR} (h : r = .ok q) (hm : datM m = datQ q) : decK r = if (chkM m).1 = 0 then .ok (datM m) else .error (chkM m).1 := by
  subst h
  unfold decK
  dsimp only
  rw [chkM_dat (m := ofD (datQ q)) (k := m) (by rw [datM_ofD, hm]), hm]
end Go.Proofs.Ytehfnjaompkikaa
