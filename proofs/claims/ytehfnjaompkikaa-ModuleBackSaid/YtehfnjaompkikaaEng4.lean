/- One operation, a region's operations, and statements, over the abstract state. -/
import Derived.Test.YtehfnjaompkikaaEng3
import Derived.Laws.BytesString
namespace Go.Proofs.Ytehfnjaompkikaa
open Go.RowKit Go.Shelf
set_option linter.unusedVariables false
set_option linter.unusedSimpArgs false

/-- Reading a variable gives v, wherever the state holds. -/
def LD (P : Program) (M : List Nat) (W : World) (L : List Res) (t : TypeId) (a : Addr) (v : Value) : Prop := ∀ w, St M W L w → (Instr.loadAt t (.pointer (some a))).run P w = .ok v w
def ldV (P : Program) (M : List Nat) (W : World) (t : TypeId) (a : Addr) (L : List Res) (K : Bool → Value → Prop) : Prop :=
  match look L a.block with
  | some cs => a.spot = none ∧ (match tsz P t with
    | some (true, m) => a.off + m ≤ cs.length ∧ K true (.agg ((cs.drop a.off).take m).toArray)
    | some (false, _) => (match cs[a.off]? with
      | some v => K true v
      | none => False)
    | none => False)
  | none => ∃ v, LD P M W L t a v ∧ ∀ tok, tok = true → K tok v
def ones (vs : List Value) : Bool := vs.all (·.oneCell')
/-- A store leaves L'. -/
def SV (P : Program) (M : List Nat) (W : World) (t : TypeId) (a : Addr) (v : Value) (L L' : List Res) : Prop := ∀ w, St M W L w → ∃ w', (Instr.storeAt t (.pointer (some a)) v).run P w = .ok () w' ∧ St M W L' w'
def stV (P : Program) (M : List Nat) (W : World) (t : TypeId) (a : Addr) (v : Value) (L : List Res) (K : Bool → List Res → Prop) : Prop :=
  match look L a.block with
  | some cs => a.spot = none ∧ (match tsz P t with
    | some (_, m) => v.cells.toList.length = m ∧ a.off + m ≤ cs.length ∧ ones v.cells.toList = true ∧ K true (putL L a.block (cs.take a.off ++ v.cells.toList ++ cs.drop (a.off + m)))
    | none => False)
  | none => ∃ L', SV P M W t a v L L' ∧ ∀ tok, tok = true → K tok L'
def CallV (P : Program) (M : List Nat) (W : World) (g : FuncId) (args : Array Value) (L : List Res) (K : Bool → Value → List Res → Prop) : Prop :=
  ∀ w, St M W L w → Calls P g args w (fun e w' => ∃ v L', e = .returned v ∧ St M W L' w' ∧ K true v L')
/-- Any other operation: by a law of its own. -/
def XV (P : Program) (M : List Nat) (W : World) (o : Oper) (F : Fr) (L : List Res) (K : Bool → Value → List Res → Prop) : Prop :=
  ∀ w, St M W L w → ∃ v L' w', (execOp (ev F) o).run P w = .ok (.value v) w' ∧ St M W L' w' ∧ K true v L'
/-- append(v, x...). -/
def appV (P : Program) (M : List Nat) (W : World) (ty t : TypeId) (L : List Res) (v x : Value) (K : Bool → Value → List Res → Prop) : Prop :=
  ∀ w, St M W L w → ∃ v' L' w', (Builtin.append_ #[t, t] ty #[v, x]).run P w = .ok v' w' ∧ St M W L' w' ∧ K true v' L'
/-- The bytes as a string. -/
def bstr (l : List Nat) : ByteArray := (l.map fun x : Nat => (x : Int)).foldl (fun r n => r.push (UInt8.ofNat n.toNat)) ByteArray.empty
/-- A slice of bytes to a string. -/
def tbs (P : Program) (s d : TypeId) : Bool :=
  match P.underlying s, P.underlying d with
  | some (.slice e), some .string => (match P.underlying e with
    | some (.int .u8) => true
    | _ => false)
  | _, _ => false
def strV (P : Program) (M : List Nat) (W : World) (s d : TypeId) (A : Option Addr) (n : Nat) (L : List Res) (K : Bool → Value → List Res → Prop) : Prop :=
  tbs P s d = true ∧ ∃ l : List Nat, (∀ w, St M W L w → Reads w w.heap.size 1 A n (l.map fun x : Nat => Value.int .u8 (x : Int))) ∧ ∀ tok, tok = true → K tok (.string (bstr l)) L
def hasBody (P : Program) (g : FuncId) : Bool :=
  match P.funcs[g]? with
  | some fn => fn.name != "runtime.NumGoroutine" && fn.body.isSome
  | none => false
def fresh : List Res → Nat → Prop
  | [], _ => True
  | .blk b _ _ :: L, k => b < k ∧ fresh L k
  | _ :: L, k => fresh L k
/-- What must be shown before an operation. -/
def Need (p : Prop) : Prop := p
theorem need_true : Need True = True := rfl
theorem need_of {p : Prop} (h : p) : Need p = True := eq_true h
def pureV (P : Program) (F : Fr) (o : Op) (K : Value → Prop) : Prop :=
  match pv P F o with
  | .need p v => Need p ∧ K v
  | .no => False
/-- A computation, or an operation by a law of its own. -/
def pureX (P : Program) (M : List Nat) (W : World) (o : Oper) (F : Fr) (L : List Res) (K : Bool → Value → List Res → Prop) : Prop :=
  match pv P F o.op with
  | .need p v => Need p ∧ K true v L
  | .no => XV P M W o F L K
def stepV (P : Program) (M : List Nat) (W : World) (o : Oper) (F : Fr) (L : List Res) (K : Bool → Value → List Res → Prop) : Prop :=
  match o.op with
  | .load t x => (match ev F x with
    | .pointer (some a) => ldV P M W t a L (fun tok v => K tok v L)
    | _ => False)
  | .store t x y => (match ev F x with
    | .pointer (some a) => stV P M W t a (ev F y) L (fun tok L' => K tok undef L')
    | _ => False)
  | .alloc t => (match tzero P t with
    | some cs => ∀ b, W.heap.size ≤ b → fresh L b → K true (.pointer (some ⟨b, 0, none⟩)) (.blk b t cs :: L)
    | none => False)
  | .box t x => ∀ b, W.heap.size ≤ b → fresh L b → K true (.pointer (some ⟨b, 0, none⟩)) (.blk b t (ev F x).cells.toList :: L)
  | .buildSlice t len parts => (match tsl P t with
    | some (e, size) => (tzero P e).isSome = true ∧ parts.toList.length = len ∧ len * size ≤ 16777216 ∧ (match catParts size 0 (evParts F parts.toList) with
      | some cs => ∀ b, W.heap.size ≤ b → fresh L b → K true (.slice (some ⟨b, 0, none⟩) len len) (.blk b e cs :: L)
      | none => False)
    | none => False)
  | .call c => (match c.callee with
    | .value f => (match ev F f with
      | .func (.func g) first cap => hasBody P g = true ∧ CallV P M W g (first ++ c.args.map (ev F) ++ cap) L K
      | _ => False)
    | .builtin .len => pureX P M W o F L K
    | .builtin .max => pureX P M W o F L K
    | .builtin .min => pureX P M W o F L K
    | .builtin .append => (match c.args.toList, c.argTypes.toList with
      | [s, x], [t, t'] => t = t' ∧ appV P M W o.type t L (ev F s) (ev F x) K
      | _, _ => False)
    | _ => XV P M W o F L K)
  | .convert s d x => (match ev F x with
    | .slice A n _ => (match tbs P s d with
      | true => strV P M W s d A n L K
      | false => XV P M W o F L K)
    | _ => pureX P M W o F L K)
  | .move _ | .assign _ | .pick _ _ _ | .build _ _ | .nilCheck _ | .binOp _ _ _ _ _ | .unOp _ _ _ | .slice _ _ _ _ _ | .fieldAddr _ _ _ | .field _ _ _ | .indexAddr _ _ _ | .index _ _ _ | .extract _ _ => pureX P M W o F L K
  | _ => XV P M W o F L K

theorem tbs_run {P : Program} {s d : TypeId} (h : tbs P s d = true) : ∃ e, P.underlying s = some (.slice e) ∧ P.underlying e = some (.int .u8) ∧ P.underlying d = some .string := by
  unfold tbs at h
  split at h
  · rename_i e hs hd
    split at h
    · rename_i he
      exact ⟨e, hs, he, hd⟩
    · cases h
  · cases h
theorem strV_sound {P : Program} {M : List Nat} {W : World} {s d : TypeId} {A : Option Addr} {n c : Nat} {L : List Res} {K : Bool → Value → List Res → Prop} (h : strV P M W s d A n L K) :
    ∃ v, (∀ w, St M W L w → (convert s d (.slice A n c)).run P w = .ok v w) ∧ K true v L := by
  obtain ⟨ht, l, hr, hk⟩ := h
  obtain ⟨e, h1, h2, h3⟩ := tbs_run ht
  refine ⟨_, fun w hw => ?_, hk true rfl⟩
  rw [run_convert_bytes_string w s d e A n c h1 h2 h3]
  obtain ⟨hl, hc⟩ := hr w hw
  simp only [List.length_map, Nat.mul_one] at hl
  cases A with
  | none =>
    have h0 : l = [] := by
      cases l with
      | nil => rfl
      | cons x l =>
        simp at hl
        obtain ⟨a, ha, _⟩ := hc (by omega)
        cases ha
    subst h0
    simp [Conv.bytesToString, bstr]
  | some a =>
    refine run_bytesToString w a n c _ ?_
    have := run_loadCells_list (P := P) w a ((l.map fun x : Nat => (x : Int)).map (Value.int .u8)) (fun j v hj => by
      rcases Nat.eq_zero_or_pos n with h0 | h0
      · obtain rfl : l = [] := List.eq_nil_of_length_eq_zero (by omega)
        simp at hj
      · obtain ⟨a', ha, _, hcell⟩ := hc h0
        cases ha
        exact hcell j v (by simpa using hj))
    simpa [hl] using this
theorem fresh_of {M : List Nat} {W w : World} {L : List Res} (h : St M W L w) : fresh L w.heap.size := by
  have key : ∀ (L : List Res), (∀ r ∈ L, ∀ b ∈ r.foot, b < w.heap.size) → fresh L w.heap.size := by
    intro L
    induction L with
    | nil => intro _; trivial
    | cons r L ih =>
      intro hL
      have ih' := ih fun s hs => hL s (List.mem_cons_of_mem _ hs)
      cases r with
      | blk b t cs => exact ⟨hL (.blk b t cs) (by simp) b (by simp [Res.foot]), ih'⟩
      | row v t s n xs => exact ih'
      | dat f p l => exact ih'
  exact key L fun r hr b hb => (h.own r hr b hb).2
theorem loadAt_agg {P : Program} {t : TypeId} {m : Nat} (h : tsz P t = some (true, m)) {w : World} {a : Addr} (vs : List Value) (hl : vs.length = m) (hc : ∀ (j : Nat) v, vs[j]? = some v → w.cell? (a.add j) = some v) :
    (Instr.loadAt t (.pointer (some a))).run P w = .ok (.agg vs.toArray) w := by
  obtain ⟨h1, h2⟩ := tsz_run h w
  subst hl
  simp [Instr.loadAt, Instr.sureAddr, loadVar, h1, h2, run_loadCells_list (P := P) w a vs hc]
theorem loadAt_one {P : Program} {t : TypeId} {m : Nat} (h : tsz P t = some (false, m)) {w : World} {a : Addr} {v : Value} (hc : w.cell? a = some v) :
    (Instr.loadAt t (.pointer (some a))).run P w = .ok v w := by
  obtain ⟨h1, h2⟩ := tsz_run h w
  simp [Instr.loadAt, Instr.sureAddr, loadVar, h1, hc]
theorem addr_eta {a : Addr} (h : a.spot = none) : a = ⟨a.block, a.off, none⟩ := by cases a; simp_all
/-- The load of a block of the call's own, or by the word LD. -/
theorem ldV_sound {P : Program} {M : List Nat} {W : World} {t : TypeId} {a : Addr} {L : List Res} {K : Bool → Value → Prop} (h : ldV P M W t a L K) : ∃ v, LD P M W L t a v ∧ K true v := by
  unfold ldV at h
  split at h
  · rename_i cs hcs
    obtain ⟨hsp, h⟩ := h
    obtain ⟨ty, hm⟩ := look_mem hcs
    split at h
    · rename_i m hm2
      obtain ⟨hle, hk⟩ := h
      refine ⟨_, fun w hw => loadAt_agg hm2 _ (by simp; omega) ?_, hk⟩
      intro j v hv
      rw [addr_eta hsp, Addr.add_lit, hw.blk_cell hm]
      rw [List.getElem?_take] at hv
      split at hv
      · simpa using hv
      · cases hv
    · rename_i m hm2
      split at h
      · rename_i v hv
        exact ⟨v, fun w hw => loadAt_one hm2 (by rw [addr_eta hsp, hw.blk_cell hm]; exact hv), h⟩
      · exact h.elim
    · exact h.elim
  · obtain ⟨v, h1, h2⟩ := h
    exact ⟨v, h1, h2 true rfl⟩
theorem stV_sound {P : Program} {M : List Nat} {W w : World} {t : TypeId} {a : Addr} {v : Value} {L : List Res} {K : Bool → List Res → Prop} (h : stV P M W t a v L K) (hw : St M W L w) :
    ∃ L' w', (Instr.storeAt t (.pointer (some a)) v).run P w = .ok () w' ∧ St M W L' w' ∧ K true L' := by
  unfold stV at h
  split at h
  · rename_i cs hcs
    obtain ⟨hsp, h⟩ := h
    split at h
    · rename_i g m hm
      obtain ⟨h1, h2, h3, hk⟩ := h
      obtain ⟨ty, A, B, e1, e2⟩ := putL_split (us := cs.take a.off ++ v.cells.toList ++ cs.drop (a.off + m)) hcs
      have hh : w.heap[a.block]? = some (.cells cs.toArray ty (0, 0)) := hw.holds (.blk a.block ty cs) (by rw [e1]; simp)
      have hs := run_storeCells_at P a.block a.off ty v.cells.toList 0 cs.toArray w hh (by simp [h1]; omega) (by intro u hu; exact List.all_eq_true.1 h3 u hu)
      have hsz := (tsz_run hm w).2
      refine ⟨_, w.setRow a.block (cs.toArray.toList.take (a.off + 0) ++ v.cells.toList ++ cs.toArray.toList.drop (a.off + 0 + v.cells.toList.length)).toArray, ?_, ?_, hk⟩
      · have h1' : v.cells.size = m := by simpa using h1
        rw [addr_eta hsp]
        simp only [Instr.storeAt, Instr.sureAddr, Sem.run_bind, Sem.run_pure, Result.andThen_ok, storeVar, hsz, h1', ne_eq, not_true_eq_false, if_false]
        exact hs
      · rw [e2]
        have hw' := e1 ▸ hw
        refine hw'.write (fun k hk => setRow_other w a.block k _ hk) ?_ (by simp [World.setRow]) rfl rfl rfl
        rw [setRow_heap w a.block cs.toArray _ ty (0, 0) hh]
        simp [h1]
    · exact h.elim
  · obtain ⟨L', h1, h2⟩ := h
    obtain ⟨w', hr, hs⟩ := h1 w hw
    exact ⟨L', w', hr, hs, h2 true rfl⟩
theorem pureV_sound {P : Program} {F : Fr} {o : Oper} {K : Value → Prop} (h : pureV P F o.op K) : ∃ v, (∀ w, (execOp (ev F) o).run P w = .ok (.value v) w) ∧ K v := by
  unfold pureV at h
  split at h
  · rename_i p v hp
    exact ⟨v, fun w => pv_sound hp h.1 w, h.2⟩
  · exact h.elim
theorem callFunc_enter {P : Program} {g : FuncId} (h : hasBody P g = true) (args : Array Value) (w : World) : (callFunc g args).run P w = .ok (.enter g args) w := by
  unfold hasBody at h
  split at h
  · rename_i fn hfn
    simp only [Bool.and_eq_true, bne_iff_ne, ne_eq] at h
    obtain ⟨b, hb⟩ := Option.isSome_iff_exists.1 h.2
    simp [callFunc, run_program, hfn, h.1, hb]
  · cases h
section
variable {P : Program} {M : List Nat} {W : World} {n : Nat}
theorem step_sound {o : Oper} {F : Fr} {L : List Res} {K : Bool → Value → List Res → Prop} (h : stepV P M W o F L K) {a : Act} {w : World} (ha : a.eval = ev F) (hw : St M W L w)
    {next : Act → World → Prop} {Q : Exit → Act → World → Prop} (hn : ∀ v L' w', K true v L' → St M W L' w' → next (a.put o.dst v) w') : o.wp P a w next Q := by
  have hx : XV P M W o F L K → o.wp P a w next Q := by
    intro hX
    obtain ⟨v, L', w', hr, hs, hk⟩ := hX w hw
    unfold Oper.wp
    rw [ha, hr]
    exact hn _ _ _ hk hs
  have hp : pureX P M W o F L K → o.wp P a w next Q := by
    intro hP
    unfold pureX at hP
    split at hP
    · rename_i p v hpv
      unfold Oper.wp
      rw [ha, pv_sound hpv hP.1 w]
      exact hn _ _ _ hP.2 hw
    · exact hx hP
  obtain ⟨dst, op, ty, pos, after, guard⟩ := o
  cases op with
  | load t x =>
    simp only [stepV] at h
    split at h
    · rename_i ad had
      obtain ⟨v, hl, hk⟩ := ldV_sound h
      unfold Oper.wp
      rw [ha]
      simp only [execOp, had, Sem.run_bind, hl w hw, Result.andThen_ok, Sem.run_pure]
      exact hn _ _ _ hk hw
    · exact h.elim
  | store t x y =>
    simp only [stepV] at h
    split at h
    · rename_i ad had
      obtain ⟨L', w', hr, hs, hk⟩ := stV_sound h hw
      unfold Oper.wp
      rw [ha]
      simp only [execOp, had, Sem.run_bind, hr, Result.andThen_ok, Sem.run_pure]
      exact hn _ _ _ hk hs
    · exact h.elim
  | alloc t =>
    simp only [stepV] at h
    split at h
    · rename_i cs hcs
      unfold Oper.wp
      rw [ha]
      have hz : (zeroValue t).run P w = .ok (((P.info? t).bind (·.zero)).getD undef) w ∧ ((((P.info? t).bind (·.zero)).getD undef).cells).toList = cs := by
        unfold tzero at hcs
        split at hcs
        · rename_i i hi
          obtain ⟨z, hz, rfl⟩ := Option.map_eq_some_iff.1 hcs
          simp [zeroValue, typeInfo, hi, hz]
        · cases hcs
      simp only [execOp, Instr.alloc, Sem.run_bind, hz.1, Result.andThen_ok, newVar, newRow, run_newObj_alloc, Sem.run_pure]
      have := hn _ _ _ (h w.heap.size hw.pres.size (fresh_of hw)) (hw.alloc t cs)
      rw [← hz.2] at this
      rw [Array.toArray_toList] at this
      exact this
    · exact h.elim
  | box t x =>
    simp only [stepV] at h
    unfold Oper.wp
    rw [ha]
    simp only [execOp, Instr.box, Sem.run_bind, Result.andThen_ok, newVar, newRow, run_newObj_alloc, Sem.run_pure]
    have := hn _ _ _ (h w.heap.size hw.pres.size (fresh_of hw)) (hw.alloc t (ev F x).cells.toList)
    rw [Array.toArray_toList] at this
    exact this
  | buildSlice t len parts =>
    simp only [stepV] at h
    split at h
    · rename_i e size hsl
      obtain ⟨hu, inf, hinf, rfl⟩ := tsl_run hsl
      obtain ⟨hz, hlen, hle, h⟩ := h
      split at h
      · rename_i cs hcs
        rw [evParts_eq] at hcs
        unfold Oper.wp
        rw [ha]
        obtain ⟨z, hz'⟩ := Option.isSome_iff_exists.1 hz
        have hzv : ∃ zv, ∀ w, (zeroValue e).run P w = .ok zv w := by
          unfold tzero at hz'
          split at hz'
          · rename_i i hi
            obtain ⟨z0, hz0, _⟩ := Option.map_eq_some_iff.1 hz'
            exact ⟨z0, fun w => by simp [zeroValue, typeInfo, hi, hz0]⟩
          · cases hz'
        obtain ⟨zv, hzv⟩ := hzv
        have hf : ∀ z : Array Value, z.size = len * inf.size → Instr.fill (fun i => some (i * inf.size, inf.size)) z (parts.map fun x => (x.1, ev F x.2)).toList = some cs.toArray := by
          intro z hzs
          have := fillL_sound _ _ _ _ (catParts_fill inf.size (parts.toList.map fun x => (x.1, ev F x.2)) 0 [] z.toList cs hcs (by simp) (by simp [hzs, hlen] at *))
          simpa using this
        have hrun : (Instr.buildSlice t len (parts.map fun x => (x.1, ev F x.2))).run P w = .ok (.slice (some ⟨w.heap.size, 0, none⟩) len len) (w.alloc (.cells cs.toArray e)) := by
          have hle' : ¬ (len * inf.size > 2 ^ 24) := by omega
          by_cases h0 : len * inf.size = 0
          · simp only [Instr.buildSlice, Sem.run_bind, run_underlying hu, Result.andThen_ok, sizeOf_run hinf, hle', if_false, h0, if_true, Sem.run_pure, Sem.run_ite]
            rw [hf _ (by simp [h0])]
            simp [newRow]
          · simp only [Instr.buildSlice, Sem.run_bind, run_underlying hu, Result.andThen_ok, sizeOf_run hinf, hle', if_false, h0, Sem.run_pure, Sem.run_ite, hzv]
            rw [hf _ (by simp)]
            simp [newRow]
        simp only [execOp, Sem.run_bind, hrun, Result.andThen_ok, Sem.run_pure]
        exact hn _ _ _ (h w.heap.size hw.pres.size (fresh_of hw)) (hw.alloc e cs)
      · exact h.elim
    · exact h.elim
  | call c =>
    obtain ⟨callee, args, ats⟩ := c
    cases callee with
    | value f =>
      simp only [stepV] at h
      split at h
      · rename_i g first cap hf
        obtain ⟨hb, hc⟩ := h
        unfold Oper.wp
        rw [ha]
        simp only [execOp, resolve, hf, Deferred.ofValue, Sem.run_bind, Sem.run_pure, Result.andThen_ok, invoke, callFunc_enter hb, Oper.upon_enter]
        refine (hc w hw).mono ?_
        rintro e w' ⟨v, L', rfl, hs, hk⟩
        exact hn _ _ _ hk hs
      · exact h.elim
    | builtin b =>
      cases b
      case append =>
        simp only [stepV] at h
        split at h
        · rename_i s x t t' hargs hats
          obtain ⟨rfl, h⟩ := h
          have ea : args = #[s, x] := by cases args; simp_all
          have et : ats = #[t, t] := by cases ats; simp_all
          subst ea
          subst et
          obtain ⟨v, L', w', hr, hs, hk⟩ := h w hw
          unfold Oper.wp
          rw [ha]
          simp only [execOp, resolve, Sem.run_bind, Sem.run_pure, Result.andThen_ok, invoke, builtin, List.map_toArray, List.map_cons, List.map_nil, hr]
          exact hn _ _ _ hk hs
        · exact h.elim
      all_goals
        simp only [stepV] at h
        first
          | exact hp h
          | exact hx h
    | invoke r m => simp only [stepV] at h; exact hx h
  | move x => simp only [stepV] at h; exact hp h
  | assign x => simp only [stepV] at h; exact hp h
  | pick a b c => simp only [stepV] at h; exact hp h
  | build a b => simp only [stepV] at h; exact hp h
  | nilCheck x => simp only [stepV] at h; exact hp h
  | binOp a b c d e => simp only [stepV] at h; exact hp h
  | unOp a b c => simp only [stepV] at h; exact hp h
  | convert s d x =>
    simp only [stepV] at h
    split at h
    · rename_i A m c hx2
      split at h
      · obtain ⟨v, hr, hk⟩ := strV_sound (c := c) h
        unfold Oper.wp
        rw [ha]
        simp only [execOp, hx2, Sem.run_bind, hr w hw, Result.andThen_ok, Sem.run_pure]
        exact hn _ _ _ hk hw
      · exact hx h
    · exact hp h
  | slice a b c d e => simp only [stepV] at h; exact hp h
  | fieldAddr a b c => simp only [stepV] at h; exact hp h
  | field a b c => simp only [stepV] at h; exact hp h
  | indexAddr a b c => simp only [stepV] at h; exact hp h
  | index a b c => simp only [stepV] at h; exact hp h
  | extract a b => simp only [stepV] at h; exact hp h
  | _ => simp only [stepV] at h; exact hx h
end
end Go.Proofs.Ytehfnjaompkikaa
