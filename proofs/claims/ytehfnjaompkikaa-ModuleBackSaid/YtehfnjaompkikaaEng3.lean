/- Composite literals, and all operations that only compute. -/
import Derived.Test.YtehfnjaompkikaaEng2
namespace Go.Proofs.Ytehfnjaompkikaa
open Go.RowKit Go.Shelf
set_option linter.unusedVariables false
set_option linter.unusedSimpArgs false

theorem take_set_succ (l : List Value) (m : Nat) (v : Value) (h : m < l.length) : (l.set m v).take (m + 1) = l.take m ++ [v] := by
  rw [List.take_succ_eq_append_getElem (by simpa using h), List.getElem_set_self, List.take_set, List.set_eq_of_length_le (by simp; omega)]
theorem splice_list (off : Nat) : ∀ (vs : List Value) (j : Nat) (l : List Value), off + j + vs.length ≤ l.length →
    (vs.zipIdx j).foldl (fun l (x : Value × Nat) => l.set (off + x.2) x.1) l = l.take (off + j) ++ vs ++ l.drop (off + j + vs.length)
  | [], j, l, h => by simp
  | v :: vs, j, l, h => by
    simp only [List.length_cons] at h
    simp only [List.zipIdx_cons, List.foldl_cons]
    rw [splice_list off vs (j + 1) (l.set (off + j) v) (by simp; omega), ← Nat.add_assoc, take_set_succ _ _ _ (by omega), List.drop_set_of_lt (by omega)]
    simp [List.length_cons, Nat.add_assoc, Nat.add_comm 1]
theorem splice_array (off : Nat) (vs : Array Value) (cs : Array Value) (h : off + vs.size ≤ cs.size) :
    vs.zipIdx.foldl (fun cs (x : Value × Nat) => cs.setIfInBounds (off + x.2) x.1) cs = (cs.toList.take off ++ vs.toList ++ cs.toList.drop (off + vs.size)).toArray := by
  have key : ∀ (l : List (Value × Nat)) (cs : Array Value), (l.foldl (fun cs (x : Value × Nat) => cs.setIfInBounds (off + x.2) x.1) cs).toList = l.foldl (fun l (x : Value × Nat) => l.set (off + x.2) x.1) cs.toList := by
    intro l
    induction l with
    | nil => intro cs; rfl
    | cons x l ih => intro cs; simp only [List.foldl_cons]; rw [ih]; simp
  apply Array.ext'
  rw [← Array.foldl_toList, key, Array.toList_zipIdx, splice_list off vs.toList 0 cs.toList (by simpa using h)]
  simp

/-- The cells of a composite literal. -/
def fillL (place : Nat → Option (Nat × Nat)) (cells : List Value) : List (Nat × Value) → Option (List Value)
  | [] => some cells
  | (i, v) :: rest =>
    match place i with
    | none => none
    | some (off, size) => if v.cells.size = size ∧ off + size ≤ cells.length then fillL place (cells.take off ++ v.cells.toList ++ cells.drop (off + size)) rest else none
theorem fillL_sound (place : Nat → Option (Nat × Nat)) : ∀ (parts : List (Nat × Value)) (cells : List Value) (cs : List Value), fillL place cells parts = some cs → Instr.fill place cells.toArray parts = some cs.toArray
  | [], cells, cs, h => by simp only [fillL, Option.some.injEq] at h; simp [Instr.fill, h]
  | (i, v) :: rest, cells, cs, h => by
    simp only [fillL] at h
    simp only [Instr.fill]
    split at h
    · cases h
    · rename_i off size hp
      split at h
      · rename_i hc
        rw [hp]
        obtain ⟨rfl, h2⟩ := hc
        simp only
        rw [if_neg (by simp; omega), splice_array off v.cells cells.toArray (by simpa using h2)]
        simpa using fillL_sound place rest _ cs h
      · cases h
/-- The parts in order, all of them. -/
def catParts (size : Nat) : Nat → List (Nat × Value) → Option (List Value)
  | _, [] => some []
  | k, (i, v) :: rest => if i = k ∧ v.cells.size = size then (catParts size (k + 1) rest).map (v.cells.toList ++ ·) else none
theorem catParts_fill (size : Nat) : ∀ (parts : List (Nat × Value)) (k : Nat) (pre suf : List Value) (cs : List Value), catParts size k parts = some cs → pre.length = k * size → suf.length = parts.length * size →
    fillL (fun i => some (i * size, size)) (pre ++ suf) parts = some (pre ++ cs)
  | [], k, pre, suf, cs, h, hp, hs => by
    simp only [catParts, Option.some.injEq] at h
    have : suf = [] := List.eq_nil_of_length_eq_zero (by simpa using hs)
    subst this; subst h
    simp [fillL]
  | (i, v) :: rest, k, pre, suf, cs, h, hp, hs => by
    simp only [catParts] at h
    split at h
    · rename_i hc
      obtain ⟨rfl, rfl⟩ := hc
      obtain ⟨cs', hcs, rfl⟩ := Option.map_eq_some_iff.1 h
      simp only [List.length_cons, Nat.add_mul, Nat.one_mul] at hs
      simp only [fillL]
      rw [if_pos ⟨trivial, by simp [hp, hs]⟩]
      have h1 : (pre ++ suf).take (i * v.cells.size) = pre := by rw [← hp]; simp
      have h2 : (pre ++ suf).drop (i * v.cells.size + v.cells.size) = suf.drop v.cells.size := by rw [← hp, ← List.drop_drop]; simp
      rw [h1, h2, catParts_fill v.cells.size rest (i + 1) (pre ++ v.cells.toList) (suf.drop v.cells.size) cs' hcs (by simp [hp, Nat.add_mul]) (by simp [hs])]
      simp
    · cases h

/-- The fields of a struct: place and size, and the zero value's cells. -/
def tst (P : Program) (t : TypeId) : Option (List (Nat × Nat) × List Value) :=
  match P.info? t, P.underlying t with
  | some it, some (.struct fields) =>
    match it.zero, fields.toList.mapM (fun f => (P.info? f.type).map fun i => (f.offset, i.size)) with
    | some z, some places => some (places, z.cells.toList)
    | _, _ => none
  | _, _ => none
theorem build_sound {P : Program} {t : TypeId} {places : List (Nat × Nat)} {z : List Value} {parts : Array (Nat × Value)} {cs : List Value} (h : tst P t = some (places, z)) (hf : fillL (places[·]?) z parts.toList = some cs) (w : World) :
    (Instr.build t parts).run P w = .ok (.agg cs.toArray) w := by
  refine run_build w t parts _ ?_
  unfold tst at h
  split at h
  · rename_i it fields hi hu
    split at h
    · rename_i z' places' hz hp
      obtain ⟨rfl, rfl⟩ := Prod.mk.inj (Option.some.inj h)
      have := fillL_sound _ _ _ _ hf
      simp only [Program.built, hi, hu, hz, hp]
      simpa using this
    · cases h
  · cases h

/-- An array: its length, and the cells of an element. -/
def tab (P : Program) (t : TypeId) : Option (Nat × Nat) :=
  match P.info? t, P.underlying t with
  | some it, some (.array n e) =>
    match it.zero, P.info? e with
    | some z, some ie => if z.cells.size = n * ie.size then some (n, ie.size) else none
    | _, _ => none
  | _, _ => none
theorem build_array {P : Program} {t : TypeId} {n size : Nat} {parts : Array (Nat × Value)} {cs : List Value} (h : tab P t = some (n, size)) (hn : parts.toList.length = n) (hf : catParts size 0 parts.toList = some cs) (w : World) :
    (Instr.build t parts).run P w = .ok (.agg cs.toArray) w := by
  refine run_build w t parts _ ?_
  unfold tab at h
  split at h
  · rename_i it m e hi hu
    split at h
    · rename_i z ie hz he
      split at h
      · rename_i hsz
        obtain ⟨rfl, rfl⟩ := Prod.mk.inj (Option.some.inj h)
        have := fillL_sound _ _ _ _ (catParts_fill ie.size parts.toList 0 [] z.cells.toList cs hf (by simp) (by simp [hsz, hn] at *))
        simp only [Program.built, hi, hu, hz, he]
        simpa using this
      · cases h
    · cases h
  · cases h
/-- Where s[l:] begins. -/
def sbase (c l size : Nat) (A : Option Addr) : Option Addr := if c = l then A else A.map (·.add (l * size))
theorem sbase_zero (c size : Nat) (A : Option Addr) : sbase c 0 size A = A := by
  unfold sbase
  split
  · rfl
  · cases A <;> simp [Addr.add_zero']
theorem sbase_some {c l size : Nat} {a : Addr} (h : c ≠ l) : sbase c l size (some a) = some (a.add (l * size)) := by simp [sbase, h]
def pickv (t : Bool) (a b : Value) : Value := if t then a else b
theorem pickv_true (a b : Value) : pickv true a b = a := rfl
theorem pickv_false (a b : Value) : pickv false a b = b := rfl
theorem pickv_bool (t p q : Bool) : pickv t (.bool p) (.bool q) = .bool (if t then p else q) := by cases t <;> rfl
def evParts (F : Fr) : List (Nat × Operand) → List (Nat × Value)
  | [] => []
  | (i, x) :: r => (i, ev F x) :: evParts F r
theorem evParts_eq (F : Fr) : ∀ l : List (Nat × Operand), evParts F l = l.map fun x => (x.1, ev F x.2)
  | [] => rfl
  | (i, x) :: r => by rw [evParts, evParts_eq F r]; rfl
def pv (P : Program) (F : Fr) : Op → PV
  | .move x => .need True (ev F x)
  | .assign x => .need True (ev F x)
  | .pick c a b => match ev F c with
    | .bool t => .need True (pickv t (ev F a) (ev F b))
    | _ => .no
  | .build t parts => match tst P t with
    | some (places, z) => match fillL (places[·]?) z (evParts F parts.toList) with
      | some cs => .need True (.agg cs.toArray)
      | none => .no
    | none => match tab P t, catParts ((tab P t).getD (0, 0)).2 0 (evParts F parts.toList) with
      | some (n, size), some cs => .need (parts.toList.length = n) (.agg cs.toArray)
      | _, _ => .no
  | .nilCheck x => match ev F x with
    | .pointer (some a) => .need True (.pointer (some a))
    | _ => .no
  | .binOp op t x y _ => binv P op t (ev F x) (ev F y)
  | .unOp .not _ x => match ev F x with
    | .bool b => .need True (.bool (!b))
    | _ => .no
  | .unOp .neg _ x => match ev F x with
    | .int k n => .need True (.int k (k.wrap (0 - n)))
    | _ => .no
  | .unOp .xor _ x => match ev F x with
    | .int k n => .need True (.int k (bits .xor k (if k.signed then -1 else k.max) n))
    | _ => .no
  | .convert s d x => match ev F x with
    | .int k n => match tint P d with
      | some k' => .need ((P.underlying s).isSome = true) (.int k' (k'.wrap n))
      | none => .no
    | _ => .no
  | .slice t x lo hi mx => match mx with
    | some _ => .no
    | none => match ev F x, tsl P t with
      | .slice A n c, some (_, size) => match (match lo with | none => some 0 | some l => (match ev F l with | .int _ i => some i | _ => none)), (match hi with | none => some (n : Int) | some h => (match ev F h with | .int _ i => some i | _ => none)) with
        | some l, some h => .need (0 ≤ l ∧ l ≤ h ∧ h ≤ c ∧ n ≤ c) (.slice (sbase c l.toNat size A) (h.toNat - l.toNat) (c - l.toNat))
        | _, _ => .no
      | .string s, none => match (match lo with | none => some 0 | some l => (match ev F l with | .int _ i => some i | _ => none)), (match hi with | none => some (s.size : Int) | some h => (match ev F h with | .int _ i => some i | _ => none)) with
        | some l, some h => .need (tkind P t = 4 ∧ 0 ≤ l ∧ l ≤ h ∧ h ≤ s.size) (.string (s.extract l.toNat h.toNat))
        | _, _ => .no
      | _, _ => .no
  | .fieldAddr s x f => match ev F x, tfo P s f with
    | .pointer (some a), some o => .need True (.pointer (some (a.add o)))
    | _, _ => .no
  | .field s x f => match ev F x, tst P s with
    | .agg cs, some (places, _) => match places[f]? with
      | some (off, size) => match tpt P s f with
        | some false => match cs.toList[off]? with
          | some v => .need True v
          | none => .no
        | some true => .need True (.agg ((cs.toList.drop off).take size).toArray)
        | none => .no
      | none => .no
    | _, _ => .no
  | .indexAddr t x i => match ev F x, ev F i, tsl P t, tarr P t with
    | .slice (some a) n _, .int _ k, some (_, size), _ => .need (0 ≤ k ∧ k < n) (.pointer (some (a.add (k.toNat * size))))
    | .pointer (some a), .int _ k, none, some (n, size) => .need (0 ≤ k ∧ k < n) (.pointer (some (a.add (k.toNat * size))))
    | _, _, _, _ => .no
  | .index t x i => match ev F x, ev F i with
    | .string s, .int _ k => .need (tkind P t = 4 ∧ 0 ≤ k ∧ k < s.size) (.int .u8 ((s.data.toList.getD k.toNat 0).toNat : Int))
    | _, _ => .no
  | .extract x i => match ev F x with
    | .tuple vs => match vs.toList[i]? with
      | some v => .need True v
      | none => .no
    | _ => .no
  | .call c => match c.callee with
    | .builtin .len => match c.args.toList, c.argTypes.toList with
      | [x], [t] => match ev F x with
        | .slice _ n _ => .need (tkind P t = 3) (.int .i64 n)
        | .string s => .need (tkind P t = 4) (.int .i64 s.size)
        | _ => .no
      | _, _ => .no
    | .builtin .max => match c.args.toList with
      | [x, y] => match ev F x, ev F y with
        | .int k a, .int k' b => .need True (.int k (max a b))
        | _, _ => .no
      | _ => .no
    | .builtin .min => match c.args.toList with
      | [x, y] => match ev F x, ev F y with
        | .int k a, .int k' b => .need True (.int k (min a b))
        | _, _ => .no
      | _ => .no
    | _ => .no
  | _ => .no
where
  /-- Is the field itself a struct or an array? -/
  tpt (P : Program) (s : TypeId) (f : Nat) : Option Bool :=
    match P.underlying s with
    | some (.struct fs) => match fs[f]? with
      | some fd => (tsz P fd.type).map (·.1)
      | none => none
    | _ => none

theorem run_value {P : Program} {w : World} {s : Sem Value} {v : Value} (h : s.run P w = .ok v w) : (do pure (.value (← s)) : Sem Next).run P w = .ok (.value v) w := by
  simp [h]
theorem sizeOf_run {P : Program} {t : TypeId} {i : TypeInfo} (h : P.info? t = some i) (w : World) : (sizeOf t).run P w = .ok i.size w := by simp [sizeOf, typeInfo, h]
theorem isAgg_run {P : Program} {t : TypeId} {d : TypeDesc} (h : P.underlying t = some d) (w : World) : (isAgg t).run P w = .ok (isAggD d) w := by
  cases d <;> simp [isAgg, run_underlying h, isAggD]
theorem tsz_run {P : Program} {t : TypeId} {b : Bool} {n : Nat} (h : tsz P t = some (b, n)) (w : World) : (isAgg t).run P w = .ok b w ∧ (sizeOf t).run P w = .ok n w := by
  unfold tsz at h
  split at h
  · rename_i d i hd hi
    obtain ⟨rfl, rfl⟩ := Prod.mk.inj (Option.some.inj h)
    exact ⟨isAgg_run hd w, sizeOf_run hi w⟩
  · cases h
theorem tsl_run {P : Program} {t e : TypeId} {n : Nat} (h : tsl P t = some (e, n)) : P.underlying t = some (.slice e) ∧ ∃ i, P.info? e = some i ∧ i.size = n := by
  unfold tsl at h
  split at h
  · rename_i e' he
    obtain ⟨i, hi, hh⟩ := Option.map_eq_some_iff.1 h
    obtain ⟨rfl, rfl⟩ := Prod.mk.inj hh
    exact ⟨he, i, hi, rfl⟩
  · cases h
theorem tarr_run {P : Program} {t : TypeId} {m n : Nat} (h : tarr P t = some (m, n)) : ∃ e, P.underlying t = some (.array m e) ∧ ∃ i, P.info? e = some i ∧ i.size = n := by
  unfold tarr at h
  split at h
  · rename_i n' e' he
    obtain ⟨i, hi, hh⟩ := Option.map_eq_some_iff.1 h
    obtain ⟨rfl, rfl⟩ := Prod.mk.inj hh
    exact ⟨e', he, i, hi, rfl⟩
  · cases h
theorem tint_run {P : Program} {t : TypeId} {k : IntKind} (h : tint P t = some k) : P.underlying t = some (.int k) := by
  unfold tint at h
  split at h
  · rename_i k' hk; rw [hk]; simpa using h
  · cases h
theorem tkind_str {P : Program} {t : TypeId} (h : tkind P t = 4) : P.underlying t = some .string := by
  unfold tkind at h
  split at h <;> first | assumption | cases h

theorem mapM_some_get {P : Program} : ∀ (fs : List Field) (places : List (Nat × Nat)), fs.mapM (fun f => (P.info? f.type).map fun i => (f.offset, i.size)) = some places → ∀ i : Nat, (fs[i]?).bind (fun f => (P.info? f.type).map fun i => (f.offset, i.size)) = places[i]?
  | [], places, h, i => by simp at h; subst h; simp
  | f :: fs, places, h, i => by
    simp only [List.mapM_cons, Option.bind_eq_bind, Option.pure_def, Option.bind_eq_some_iff] at h
    obtain ⟨p, hp, ps, hps, h⟩ := h
    cases h
    cases i with
    | zero => simpa using hp
    | succ i => simpa using mapM_some_get fs ps hps i

theorem pv_sound {P : Program} {F : Fr} {o : Oper} {p : Prop} {v : Value} (h : pv P F o.op = .need p v) (hp : p) (w : World) : (execOp (ev F) o).run P w = .ok (.value v) w := by
  obtain ⟨dst, op, ty, pos, after, guard⟩ := o
  cases op with
  | move x => simp only [pv] at h; cases h; simp [execOp]
  | assign x => simp only [pv] at h; cases h; simp [execOp]
  | pick c a b =>
    simp only [pv] at h
    split at h
    · rename_i t ht
      cases h
      cases t <;> simp [execOp, ht, asBool, pickv]
    · cases h
  | build t parts =>
    simp only [pv] at h
    split at h
    · rename_i places z ht
      split at h
      · rename_i cs hcs
        cases h
        have := build_sound (parts := parts.map fun x => (x.1, ev F x.2)) ht (cs := cs) (by rw [evParts_eq] at hcs; simpa using hcs) w
        exact run_value this
      · cases h
    · split at h
      · rename_i n size cs ht hcs
        cases h
        rw [ht] at hcs
        have := build_array (parts := parts.map fun x => (x.1, ev F x.2)) ht (cs := cs) (by simpa using hp) (by rw [evParts_eq] at hcs; simpa using hcs) w
        exact run_value this
      · cases h
  | nilCheck x =>
    simp only [pv] at h
    split at h
    · rename_i a ha; cases h; simp [execOp, ha]
    · cases h
  | binOp op t x y yt =>
    exact run_value (binv_sound h hp x y w)
  | unOp u t x =>
    cases u <;> simp only [pv] at h
    all_goals first
      | (cases h; done)
      | (split at h
         · rename_i n hn
           cases h
           first
             | (simp [execOp, hn, unary_not]; done)
             | (simp [execOp, hn, unary_neg, Op.intArith]; done)
             | (simp [execOp, hn, unary_xor, intBits_xor]; done)
         · cases h)
  | convert s d x =>
    simp only [pv] at h
    split at h
    · rename_i k n hn
      split at h
      · rename_i k' hk
        cases h
        have hd := tint_run hk
        obtain ⟨ds, hs⟩ := Option.isSome_iff_exists.1 hp
        simp [execOp, hn, convert, run_underlying hs, run_underlying hd, Conv.intToInt]
      · cases h
    · cases h
  | slice t x lo hi mx =>
    simp only [pv] at h
    cases mx with
    | some m => cases h
    | none =>
      simp only at h
      split at h
      · rename_i A n c e size hx hsl
        obtain ⟨hu, inf, hinf, rfl⟩ := tsl_run hsl
        split at h
        · rename_i l hh hl hhh
          cases h
          obtain ⟨h0, h1, h2, h3⟩ := hp
          have e1 : (hh.toNat : Int) = hh := Int.toNat_of_nonneg (by omega)
          have hlo : ∀ w, (Instr.sliceBounds true n c (lo.map (ev F)) (hi.map (ev F)) none).run P w = .ok (l.toNat, hh.toNat, c) w := by
            intro w
            cases lo with
            | none =>
              simp only [Option.some.injEq] at hl
              subst hl
              cases hi with
              | none =>
                simp only [Option.some.injEq] at hhh
                subst hhh
                simp [Instr.sliceBounds]
              | some b =>
                simp only at hhh
                split at hhh
                · rename_i kb ib hb
                  cases hhh
                  simp [Instr.sliceBounds, hb, run_sliceBound, h1, h2]
                · cases hhh
            | some a =>
              simp only at hl
              split at hl
              · rename_i ka ia ha
                cases hl
                cases hi with
                | none =>
                  simp only [Option.some.injEq] at hhh
                  subst hhh
                  simp [Instr.sliceBounds, ha, run_sliceBound, h0, h1]
                | some b =>
                  simp only at hhh
                  split at hhh
                  · rename_i kb ib hb
                    cases hhh
                    have h4 : (0 : Int) ≤ hh := by omega
                    simp [Instr.sliceBounds, ha, hb, run_sliceBound, h0, h1, h2, h4, e1]
                  · cases hhh
              · cases hl
          refine run_value ?_
          simp [hx, Instr.sliceAt, run_underlying hu, Instr.slice, hlo, sizeOf_run hinf, sbase]
        · cases h
      · rename_i s0 hx hsl
        split at h
        · rename_i l hh hl hhh
          cases h
          obtain ⟨hk, h0, h1, h2⟩ := hp
          have hu := tkind_str hk
          have e1 : (hh.toNat : Int) = hh := Int.toNat_of_nonneg (by omega)
          have hlo : ∀ w, (Instr.sliceBounds false s0.size s0.size (lo.map (ev F)) (hi.map (ev F)) none).run P w = .ok (l.toNat, hh.toNat, s0.size) w := by
            intro w
            cases lo with
            | none =>
              simp only [Option.some.injEq] at hl
              subst hl
              cases hi with
              | none =>
                simp only [Option.some.injEq] at hhh
                subst hhh
                simp [Instr.sliceBounds]
              | some b =>
                simp only at hhh
                split at hhh
                · rename_i kb ib hb
                  cases hhh
                  simp [Instr.sliceBounds, hb, run_sliceBound, h1, h2]
                · cases hhh
            | some a =>
              simp only at hl
              split at hl
              · rename_i ka ia ha
                cases hl
                cases hi with
                | none =>
                  simp only [Option.some.injEq] at hhh
                  subst hhh
                  simp [Instr.sliceBounds, ha, run_sliceBound, h0, h1]
                | some b =>
                  simp only at hhh
                  split at hhh
                  · rename_i kb ib hb
                    cases hhh
                    have h4 : (0 : Int) ≤ hh := by omega
                    simp [Instr.sliceBounds, ha, hb, run_sliceBound, h0, h1, h2, h4, e1]
                  · cases hhh
              · cases hl
          refine run_value ?_
          simp [hx, Instr.sliceAt, run_underlying hu, Instr.slice, hlo]
        · cases h
      · cases h
  | fieldAddr s x f =>
    simp only [pv] at h
    split at h
    · rename_i a off ha ho
      cases h
      unfold tfo at ho
      split at ho
      · rename_i fs hfs
        split at ho
        · rename_i fd hfd
          split at ho
          · rename_i i hi
            split at ho
            · cases ho
            · rename_i hz
              cases ho
              simp [execOp, ha, Instr.fieldAt, run_underlying hfs, hfd, Instr.sureAddr, fieldPlace, sizeOf_run hi, hz]
          · cases ho
        · cases ho
      · cases ho
    · cases h
  | field s x f =>
    simp only [pv] at h
    split at h
    · rename_i cs places z hx hst
      split at h
      · rename_i off size hpl
        unfold tst at hst
        split at hst
        · rename_i it fields hit hu
          split at hst
          · rename_i z' places' hz hpm
            obtain ⟨rfl, rfl⟩ := Prod.mk.inj (Option.some.inj hst)
            have hlen := mapM_some_get fields.toList places' hpm f
            rw [hpl] at hlen
            split at h
            · rename_i ht
              unfold pv.tpt at ht
              simp only [hu] at ht
              split at ht
              · rename_i fd hfd
                obtain ⟨bn, hbn, hb⟩ := Option.map_eq_some_iff.1 ht
                obtain ⟨h1, h2⟩ := tsz_run (b := bn.1) (n := bn.2) hbn w
                rw [hb] at h1
                have hoff : fd.offset = off := by
                  simp [hfd] at hlen
                  obtain ⟨inf, _, e1, _⟩ := hlen
                  exact e1
                split at h
                · rename_i u hu2
                  cases h
                  refine run_value ?_
                  have h5 : cs[off]? = some v := by simpa using hu2
                  simp [hx, Instr.field, run_underlying hu, hfd, asAgg, part, h1, hoff, h5]
                · cases h
              · cases ht
            · rename_i ht
              unfold pv.tpt at ht
              simp only [hu] at ht
              split at ht
              · rename_i fd hfd
                obtain ⟨bn, hbn, hb⟩ := Option.map_eq_some_iff.1 ht
                obtain ⟨h1, h2⟩ := tsz_run (b := bn.1) (n := bn.2) hbn w
                rw [hb] at h1
                have hoff : fd.offset = off ∧ bn.2 = size := by
                  simp [hfd] at hlen
                  obtain ⟨inf, hinf, e1, e2⟩ := hlen
                  refine ⟨e1, ?_⟩
                  have := h2
                  rw [sizeOf_run hinf] at this
                  injection this with h6 h7
                  omega
                cases h
                refine run_value ?_
                obtain ⟨e1, e2⟩ := hoff
                subst e1
                subst e2
                simp [hx, Instr.field, run_underlying hu, hfd, asAgg, part, h1, h2]
                apply Array.ext'
                simp
              · cases ht
            · cases h
          · cases hst
        · cases hst
      · cases h
    · cases h
  | indexAddr t x i =>
    simp only [pv] at h
    split at h
    · rename_i a n c k kk e size hx hi hsl
      cases h
      obtain ⟨hu, inf, hinf, rfl⟩ := tsl_run hsl
      simp [execOp, hx, hi, Instr.indexAt, run_underlying hu, asIntOf, hp, sizeOf_run hinf]
    · rename_i a k kk m size hx hi hsl harr
      cases h
      obtain ⟨e, hu, inf, hinf, rfl⟩ := tarr_run harr
      simp [execOp, hx, hi, Instr.indexAt, run_underlying hu, asIntOf, hp, sizeOf_run hinf, Instr.sureAddr]
    · cases h
  | index t x i =>
    simp only [pv] at h
    split at h
    · rename_i s0 kk k hx hi
      cases h
      obtain ⟨hk, h0, h1⟩ := hp
      have hlt : k.toNat < s0.data.size := by have : s0.data.size = s0.size := rfl; omega
      refine run_value ?_
      rw [hx, hi, run_index_string _ _ _ _ _ (tkind_str hk)]
      have h1' : k.toNat < s0.size := by omega
      have hg : s0[k.toNat]'h1' = s0.data.toList.getD k.toNat 0 := by
        rw [List.getD_eq_getElem?_getD, List.getElem?_eq_getElem (by simpa using hlt)]
        simp
        rfl
      rw [dif_pos ⟨h0, h1⟩, hg]
    · cases h
  | extract x i =>
    simp only [pv] at h
    split at h
    · rename_i vs hvs
      split at h
      · rename_i u hu
        cases h
        have : vs[i]? = some v := by simpa using hu
        simp [execOp, hvs, Instr.extract, this]
      · cases h
    · cases h
  | call c =>
    obtain ⟨callee, args, ats⟩ := c
    cases callee with
    | builtin b =>
      cases b
      case len =>
        simp only [pv] at h
        split at h
        · rename_i x t hx ht
          have ea : args = #[x] := by cases args; simp_all
          have et : ats = #[t] := by cases ats; simp_all
          subst ea
          subst et
          split at h
          · rename_i A n c hv
            cases h
            simp [execOp, resolve, invoke, builtin, hv, Builtin.len_, run_underlying (tkind_slice hp), goInt]
          · rename_i s hv
            cases h
            simp [execOp, resolve, invoke, builtin, hv, Builtin.len_, run_underlying (tkind_str hp), goInt]
          · cases h
        · cases h
      case max =>
        simp only [pv] at h
        split at h
        · rename_i x y hx
          split at h
          · rename_i k a k' b ha hb
            cases h
            have ea : args = #[x, y] := by cases args; simp_all
            subst ea
            have e : (if b > a then b else a) = max a b := by
              rw [Int.max_def]
              split <;> split <;> omega
            simp [execOp, resolve, invoke, builtin, ha, hb, Builtin.max_, Builtin.max2, e]
          · cases h
        · cases h
      case min =>
        simp only [pv] at h
        split at h
        · rename_i x y hx
          split at h
          · rename_i k a k' b ha hb
            cases h
            have ea : args = #[x, y] := by cases args; simp_all
            subst ea
            have e : (if b < a then b else a) = min a b := by
              rw [Int.min_def]
              split <;> split <;> omega
            simp [execOp, resolve, invoke, builtin, ha, hb, Builtin.min_, Builtin.min2, e]
          · cases h
        · cases h
      all_goals
        simp only [pv] at h
        cases h
    | value f => simp only [pv] at h; cases h
    | invoke r m => simp only [pv] at h; cases h
  | _ => simp only [pv] at h; cases h
end Go.Proofs.Ytehfnjaompkikaa
