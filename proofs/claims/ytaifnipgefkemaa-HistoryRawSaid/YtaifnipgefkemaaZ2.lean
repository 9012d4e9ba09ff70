/- Maps from ints to values of whatever kind; ranges over them. -/
import Derived.Test.YtaifnipgefkemaaZ1
import Derived.Maps.RangeRun
import Derived.Test.YtaifnipgefkemaaTy
import Derived.Laws.BitsLemmas
import Derived.Laws.Bits64b
namespace Go.Proofs.Ytaifnipgefkemaa
open Go.RowKit Go.Shelf
set_option linter.unusedVariables false
set_option linter.unusedSimpArgs false
/-! ## Maps as lists of pairs -/
def vget : List (Int × Value) → Int → Option Value
  | [], _ => none
  | p :: l, k => if p.1 = k then some p.2 else vget l k
def vset : List (Int × Value) → Int → Value → List (Int × Value)
  | [], k, v => [(k, v)]
  | p :: l, k, v => if p.1 = k then (k, v) :: l else p :: vset l k v
def vdel : List (Int × Value) → Int → List (Int × Value)
  | [], _ => []
  | p :: l, k => if p.1 = k then l else p :: vdel l k
theorem vmap_erase {α β : Type} (f : α → β) : ∀ (l : List α) (j : Nat), (l.eraseIdx j).map f = (l.map f).eraseIdx j
  | [], j => by simp
  | a :: l, 0 => by simp
  | a :: l, j + 1 => by simp [vmap_erase f l j]
def pvV (p : Int × Value) : Value × Value := (.int .i64 p.1, p.2)
theorem findNow_mv (k : Int) (v : Value) : ∀ (es : List MapEntry) (l : List (Int × Value)) (i : Nat), es.map (fun e => (e.key, e.val)) = l.map pvV →
    (vget l k = none ∧ Instr.findNow (.int .i64) (.int .i64 k) es i = some none ∧ vset l k v = l ++ [(k, v)] ∧ vdel l k = l) ∨
    (∃ j x, vget l k = some x ∧ Instr.findNow (.int .i64) (.int .i64 k) es i = some (some (i + j, x)) ∧ l[j]? = some (k, x) ∧ vset l k v = l.set j (k, v) ∧ vdel l k = l.eraseIdx j)
  | [], [], i, _ => .inl ⟨rfl, rfl, rfl, rfl⟩
  | [], p :: l, i, h => by simp at h
  | e :: es, [], i, h => by simp at h
  | e :: es, p :: l, i, h => by
    obtain ⟨⟨h1, h2⟩, h3⟩ : (e.key = .int .i64 p.1 ∧ e.val = p.2) ∧ es.map (fun e => (e.key, e.val)) = l.map pvV := by simpa [pvV] using h
    by_cases hk : p.1 = k
    · refine .inr ⟨0, p.2, by simp [vget, hk], by simp [Instr.findNow, Instr.sameNow, h1, h2, hk], ?_, by simp [vset, hk], by simp [vdel, hk]⟩
      rw [← hk]
      rfl
    · have hk2 : (k == p.1) = false := by simpa using fun e : k = p.1 => hk e.symm
      rcases findNow_mv k v es l (i + 1) h3 with ⟨a, b, c, d⟩ | ⟨j, x, a, b, c, d, e'⟩
      · exact .inl ⟨by simp [vget, hk, a], by simp [Instr.findNow, Instr.sameNow, h1, hk2, b], by simp [vset, hk, c], by simp [vdel, hk, d]⟩
      · refine .inr ⟨j + 1, x, by simp [vget, hk, a], ?_, by simpa using c, by simp [vset, hk, d], by simp [vdel, hk, e']⟩
        rw [show i + (j + 1) = i + 1 + j by omega]
        simp [Instr.findNow, Instr.sameNow, h1, hk2, b]
/-- What the block of a map holds. -/
def MvH (w : World) (b : Nat) (l : List (Int × Value)) : Prop := ∃ (es : Array MapEntry) (cl : Nat), w.heap[b]? = some (.map es cl) ∧ es.toList.map (fun e => (e.key, e.val)) = l.map pvV ∧ MapKept.Stamped es cl
theorem MvH.same {w w' : World} {b : Nat} {l : List (Int × Value)} (h : MvH w b l) (e : w'.heap[b]? = w.heap[b]?) : MvH w' b l := by
  obtain ⟨es, cl, h1, h2⟩ := h
  exact ⟨es, cl, e.trans h1, h2⟩
theorem vget_not {l : List (Int × Value)} {k : Int} (h : vget l k = none) : ∀ p ∈ l, p.1 ≠ k := by
  induction l with
  | nil => simp
  | cons q l ih =>
    intro p hp
    by_cases hq : q.1 = k
    · simp [vget, hq] at h
    · rw [vget, if_neg hq] at h
      rcases List.mem_cons.1 hp with rfl | hp
      · exact hq
      · exact ih h p hp
theorem mv_apart {es : Array MapEntry} {l : List (Int × Value)} {k : Int} (h6 : es.toList.map (fun e => (e.key, e.val)) = l.map pvV) (h : vget l k = none) : ∀ x ∈ es.toList, x.key ≠ .int .i64 k := fun x hx e => by
  have hm : (x.key, x.val) ∈ l.map pvV := by rw [← h6]; exact List.mem_map.2 ⟨x, hx, rfl⟩
  obtain ⟨p, hp, hpe⟩ := List.mem_map.1 hm
  have h1 := (Prod.mk.inj hpe).1
  rw [e] at h1
  exact vget_not h p hp (by simpa using h1)
def mvR (b : Nat) (l : List (Int × Value)) : Res := .dat [b] (fun w => MvH w b l) (fun _ _ hk h => h.same (hk b (by simp)))
theorem mvR_foot (b : Nat) (l : List (Int × Value)) : (mvR b l).foot = [b] := rfl
theorem look_mv (b : Nat) (l : List (Int × Value)) (L : List Res) (k : Nat) : look (mvR b l :: L) k = look L k := rfl
theorem putL_mv (b : Nat) (l : List (Int × Value)) (L : List Res) (k : Nat) (us : List Value) : putL (mvR b l :: L) k us = mvR b l :: putL L k us := rfl
theorem neB_mv (b : Nat) (l : List (Int × Value)) (L : List Res) (k : Nat) : neB (mvR b l :: L) k = neB L k := rfl
theorem neR_mv (b : Nat) (l : List (Int × Value)) (L : List Res) (k : Nat) : neR (mvR b l :: L) k = neR L k := rfl
theorem factL_mv (W : World) (M : List Nat) (b : Nat) (l : List (Int × Value)) (L : List Res) : factL W M (mvR b l :: L) = factL W M L := rfl
theorem fresh_mv (b : Nat) (l : List (Int × Value)) (L : List Res) (k : Nat) : fresh (mvR b l :: L) k = fresh L k := rfl
theorem cMv : type_of% (And.intro @look_mv (And.intro @putL_mv (And.intro @neB_mv (And.intro @neR_mv (And.intro @factL_mv @fresh_mv))))) := And.intro @look_mv (And.intro @putL_mv (And.intro @neB_mv (And.intro @neR_mv (And.intro @factL_mv @fresh_mv))))
/-- A map from ints, and the nought of its elements. -/
def mvT (P : Program) (t : TypeId) (z : Value) : Prop := ∃ k e i, P.underlying t = some (.map k e) ∧ P.underlying k = some (.int .i64) ∧ P.info? e = some i ∧ i.zero = some z
section
variable {P : Program} {M : List Nat} {W w : World} {L : List Res}
theorem mvT_run {t : TypeId} {z : Value} (h : mvT P t z) : ∃ k e i, P.underlying t = some (.map k e) ∧ P.underlying k = some (.int .i64) ∧ P.info? e = some i ∧ i.zero = some z := h
theorem run_vlookup {t : TypeId} {b : Nat} {l : List (Int × Value)} {k : Int} {z : Value} (ht : mvT P t z) (h : MvH w b l) :
    (Instr.lookup t (.map (some b)) (.int .i64 k) true).run P w = .ok (.tuple #[(vget l k).getD z, .bool (vget l k).isSome]) w := by
  obtain ⟨kt, et, i, h1, h2, h3, h4⟩ := mvT_run ht
  obtain ⟨es, cl, h5, h6, -⟩ := h
  have hk : MapKept.IsKey (.int .i64) (.int .i64 k) := rfl
  rcases findNow_mv k (.bool true) es.toList l 0 h6 with ⟨a, b', -, -⟩ | ⟨j, x, a, b', -, -, -⟩
  · simp [Instr.lookup, run_underlying h1, MapKept.run_getObj_map h5, MapKept.run_checkKey h2 hk, MapKept.run_findKey h2 b', Result.andThen, zeroValue, typeInfo, h3, h4, a]
  · simp [Instr.lookup, run_underlying h1, MapKept.run_getObj_map h5, MapKept.run_checkKey h2 hk, MapKept.run_findKey h2 b', Result.andThen, a]
theorem xv_vlook2 {F : Fr} {d : Option Nat} {t ty : TypeId} {pos : String} {af : Array Edge} {gd : Option (Nat × Bool)} {m k : Operand} {b : Nat} {l : List (Int × Value)} {x : Int} {z : Value} {K : Bool → Value → List Res → Prop}
    (ht : mvT P t z) (hm : ev F m = .map (some b)) (hk : ev F k = .int .i64 x) (h : ∀ w, St M W L w → MvH w b l) (hK : K true (.tuple #[(vget l x).getD z, .bool (vget l x).isSome]) L) :
    XV P M W ⟨d, .lookup t m k true, ty, pos, af, gd⟩ F L K := fun w hw =>
  ⟨_, _, w, by simp [execOp, hm, hk, run_vlookup ht (h w hw)], hw, hK⟩
theorem St.mvH {b : Nat} {l : List (Int × Value)} (hw : St M W L w) (k : Nat) (hk : nth L k = some (mvR b l)) : MvH w b l := hw.holds _ (nth_mem hk)
theorem run_vupdate {t : TypeId} {b : Nat} {l : List (Int × Value)} {k : Int} {v z : Value} (ht : mvT P t z) (h : MvH w b l) :
    ∃ es' cl', (Instr.mapUpdate t (.map (some b)) (.int .i64 k) v).run P w = .ok () { w with heap := w.heap.setIfInBounds b (.map es' cl') } ∧ es'.toList.map (fun e => (e.key, e.val)) = (vset l k v).map pvV ∧ MapKept.Stamped es' cl' := by
  obtain ⟨kt, et, i, h1, h2, h3, h4⟩ := mvT_run ht
  obtain ⟨es, cl, h5, h6, hst⟩ := h
  have hk : MapKept.IsKey (.int .i64) (.int .i64 k) := rfl
  rcases findNow_mv k v es.toList l 0 h6 with ⟨a, b', c, -⟩ | ⟨j, x, a, b', c, e, -⟩
  · refine ⟨_, _, by simp [Instr.mapUpdate, run_underlying h1, MapKept.run_getObj_map h5, MapKept.run_checkKey h2 hk, MapKept.run_findKey h2 b', MapKept.run_setObj_map _ h5, Result.andThen]; exact rfl, ?_, MapKept.stamped_push hst (mv_apart h6 a)⟩
    rw [c]
    simp [h6, pvV]
  · rw [Nat.zero_add] at b'
    have hlj : (es.toList.map (fun e => (e.key, e.val)))[j]? = some (pvV (k, x)) := by rw [h6, List.getElem?_map, c]; rfl
    obtain ⟨en, he, hen⟩ : ∃ en, es[j]? = some en ∧ (en.key, en.val) = pvV (k, x) := by
      rw [List.getElem?_map] at hlj
      obtain ⟨en, he, hen⟩ := Option.map_eq_some_iff.1 hlj
      exact ⟨en, by simpa using he, hen⟩
    have hkey : en.key = .int .i64 k := (Prod.mk.inj hen).1
    refine ⟨_, _, by simp [Instr.mapUpdate, run_underlying h1, MapKept.run_getObj_map h5, MapKept.run_checkKey h2 hk, MapKept.run_findKey h2 b', he, hkey, MapKept.run_keyThatStays hk, MapKept.run_setObj_map _ h5, Result.andThen]; exact rfl, ?_, ?_⟩
    rotate_left
    · exact MapKept.stamped_modify hst j _ (fun _ _ => rfl) (fun e2 _ h2 => by rw [he] at h2; cases h2; exact hkey.symm)
    rw [e]
    apply List.ext_getElem?
    intro q
    have hq : (es.toList.map (fun e => (e.key, e.val)))[q]? = (l.map pvV)[q]? := by rw [h6]
    simp only [List.getElem?_map, Array.getElem?_toList, Array.getElem?_modify, List.getElem?_set] at hq ⊢
    by_cases hjq : j = q
    · subst hjq
      have hlt := (List.getElem?_eq_some_iff.1 c).1
      simp [he, hlt, pvV]
    · simp [hjq, hq]
theorem St.mvSet {b kk : Nat} {l l' : List (Int × Value)} {es : Array MapEntry} {cl : Nat} (hw : St M W L w) (hk : nth L kk = some (mvR b l)) (he : es.toList.map (fun e => (e.key, e.val)) = l'.map pvV) (hs : MapKept.Stamped es cl) : St M W (L.set kk (mvR b l')) { w with heap := w.heap.setIfInBounds b (.map es cl) } := by
  obtain ⟨es0, cl0, h5, -⟩ := hw.mvH kk hk
  obtain ⟨q1, q2⟩ := MapKept.heap_set (o' := .map es cl) h5
  refine hw.replace hk rfl ⟨es, cl, q1, he, hs⟩ (fun c hc => q2 c fun e => hc (by rw [e, mvR_foot]; simp)) (by simp) rfl rfl rfl
theorem xu_vset (kk : Nat) {F : Fr} {d : Option Nat} {t ty : TypeId} {pos : String} {af : Array Edge} {gd : Option (Nat × Bool)} {m k v : Operand} {b : Nat} {l : List (Int × Value)} {x : Int} {y z : Value} {K : Bool → Value → List Res → Prop}
    (ht : mvT P t z) (hm : ev F m = .map (some b)) (hk : ev F k = .int .i64 x) (hv : ev F v = y) (hL : nth L kk = some (mvR b l)) (hK : K true undef (L.set kk (mvR b (vset l x y)))) :
    XU P M W ⟨d, .mapUpdate t m k v, ty, pos, af, gd⟩ F L K := fun w hw => by
  obtain ⟨es, cl, hr, he, hs⟩ := run_vupdate (k := x) (v := y) ht (hw.mvH kk hL)
  exact ⟨_, _, by simp [execOp, hm, hk, hv, hr], hw.mvSet hL he hs, hK⟩
theorem xv_vdel (kk : Nat) {F : Fr} {d : Option Nat} {t t2 ty : TypeId} {pos : String} {af : Array Edge} {gd : Option (Nat × Bool)} {m k : Operand} {b : Nat} {l : List (Int × Value)} {x : Int} {z : Value} {K : Bool → Value → List Res → Prop}
    (ht : mvT P t z) (hm : ev F m = .map (some b)) (hk : ev F k = .int .i64 x) (hL : nth L kk = some (mvR b l)) (hK : K true (.tuple #[]) (L.set kk (mvR b (vdel l x)))) :
    XV P M W ⟨d, .call { callee := .builtin .delete, args := #[m, k], argTypes := #[t, t2] }, ty, pos, af, gd⟩ F L K := fun w hw => by
  obtain ⟨kt, et, i, h1, h2, h3, h4⟩ := mvT_run ht
  obtain ⟨es, cl, h5, h6, hst⟩ := hw.mvH kk hL
  have hkk : MapKept.IsKey (.int .i64) (.int .i64 x) := rfl
  rcases findNow_mv x (.bool true) es.toList l 0 h6 with ⟨a, b', -, c⟩ | ⟨j, y, a, b', c, -, e⟩
  · refine ⟨_, _, _, by simp [execOp, resolve, invoke, builtin, hm, hk, Builtin.delete_, run_underlying h1, MapKept.run_getObj_map h5, MapKept.run_checkKey h2 hkk, MapKept.run_findKey h2 b', MapKept.run_setObj_map _ h5, Result.andThen], hw.mvSet hL (by rw [h6, c]) hst, hK⟩
  · rw [Nat.zero_add] at b'
    refine ⟨_, _, _, by simp [execOp, resolve, invoke, builtin, hm, hk, Builtin.delete_, run_underlying h1, MapKept.run_getObj_map h5, MapKept.run_checkKey h2 hkk, MapKept.run_findKey h2 b', MapKept.run_setObj_map _ h5, Result.andThen], hw.mvSet hL ?_ (MapKept.stamped_erase hst j), hK⟩
    have hlt : j < es.size := by
      have h7 := congrArg List.length h6
      have := (List.getElem?_eq_some_iff.1 c).1
      simp at h7
      omega
    rw [e]
    unfold Array.eraseIdxIfInBounds
    rw [dif_pos hlt, Array.toList_eraseIdx, vmap_erase, h6, vmap_erase]
theorem xv_vmk {F : Fr} {d : Option Nat} {t ty : TypeId} {pos : String} {af : Array Edge} {gd : Option (Nat × Bool)} {K : Bool → Value → List Res → Prop}
    (hK : ∀ b, W.heap.size ≤ b → fresh L b → K true (.map (some b)) (mvR b [] :: L)) : XV P M W ⟨d, .makeMap t none, ty, pos, af, gd⟩ F L K := fun w hw => by
  refine ⟨_, _, w.alloc (.map #[] 0), by simp [execOp, Instr.makeMap], ?_, hK w.heap.size hw.pres.size (fresh_of hw)⟩
  refine (hw.allocs _).add _ ⟨#[], 0, (MapKept.heap_alloc w _).1, rfl, MapKept.stamped_empty 0⟩ (fun b hb => ?_) fun s hs b hb hbs => ?_
  · obtain rfl : b = w.heap.size := by simpa [mvR_foot] using hb
    exact ⟨.inl hw.pres.size, by simp⟩
  · obtain rfl : b = w.heap.size := by simpa [mvR_foot] using hb
    exact absurd (hw.own s hs _ hbs).2 (Nat.lt_irrefl _)
theorem xv_vlook1 {F : Fr} {d : Option Nat} {t ty : TypeId} {pos : String} {af : Array Edge} {gd : Option (Nat × Bool)} {m k : Operand} {b : Nat} {l : List (Int × Value)} {x : Int} {z : Value} {K : Bool → Value → List Res → Prop}
    (ht : mvT P t z) (hm : ev F m = .map (some b)) (hk : ev F k = .int .i64 x) (h : ∀ w, St M W L w → MvH w b l) (hK : K true ((vget l x).getD z) L) :
    XV P M W ⟨d, .lookup t m k false, ty, pos, af, gd⟩ F L K := fun w hw => by
  obtain ⟨kt, et, i, h1, h2, h3, h4⟩ := mvT_run ht
  obtain ⟨es, cl, h5, h6, -⟩ := h w hw
  have hkk : MapKept.IsKey (.int .i64) (.int .i64 x) := rfl
  refine ⟨_, _, w, ?_, hw, hK⟩
  rcases findNow_mv x (.bool true) es.toList l 0 h6 with ⟨a, b', -, -⟩ | ⟨j, y, a, b', -, -, -⟩
  · simp [execOp, hm, hk, Instr.lookup, run_underlying h1, MapKept.run_getObj_map h5, MapKept.run_checkKey h2 hkk, MapKept.run_findKey h2 b', Result.andThen, zeroValue, typeInfo, h3, h4, a]
  · simp [execOp, hm, hk, Instr.lookup, run_underlying h1, MapKept.run_getObj_map h5, MapKept.run_checkKey h2 hkk, MapKept.run_findKey h2 b', Result.andThen, a]
theorem xv_vlen {F : Fr} {d : Option Nat} {t ty : TypeId} {pos : String} {af : Array Edge} {gd : Option (Nat × Bool)} {m : Operand} {b : Nat} {l : List (Int × Value)} {z : Value} {K : Bool → Value → List Res → Prop}
    (ht : mvT P t z) (hm : ev F m = .map (some b)) (h : ∀ w, St M W L w → MvH w b l) (hK : K true (.int .i64 (l.length : Int)) L) :
    XV P M W ⟨d, .call { callee := .builtin .len, args := #[m], argTypes := #[t] }, ty, pos, af, gd⟩ F L K := fun w hw => by
  obtain ⟨kt, et, i, h1, h2, h3, h4⟩ := mvT_run ht
  obtain ⟨es, cl, h5, h6, -⟩ := h w hw
  have hl : es.size = l.length := by
    have := congrArg List.length h6
    simpa using this
  exact ⟨_, _, w, by simp [execOp, resolve, invoke, builtin, hm, Builtin.len_, run_underlying h1, MapKept.run_getObj_map h5, Result.andThen, goInt, hl], hw, hK⟩
end
/-! ## A range over a map: the map and the iterator as one -/
def RgH (w : World) (b r : Nat) (l : List (Int × Value)) (done : List Int) (last : Option Int) : Prop :=
  ∃ (es : Array MapEntry) (cl since : Nat) (seen : Array Nat) (c0 : Nat), w.heap[b]? = some (.map es cl) ∧ es.toList.map (fun e => (e.key, e.val)) = l.map pvV ∧ MapKept.Stamped es cl ∧
    w.heap[r]? = some (.mapIter (some b) since seen c0) ∧ (∀ e ∈ es.toList, e.born < since) ∧ since ≤ c0 ∧ c0 ≤ cl ∧
    (∀ e ∈ es.toList, ∀ k, e.key = .int .i64 k → (seen.contains e.born = true ↔ k ∈ done)) ∧
    (∀ k, last = some k → c0 = cl ∧ ∃ e ∈ es.toList, e.key = .int .i64 k ∧ ∃ seen' : Array Nat, seen = seen'.push e.born)
theorem RgH.same {w w' : World} {b r : Nat} {l : List (Int × Value)} {done : List Int} {last : Option Int} (h : RgH w b r l done last) (e1 : w'.heap[b]? = w.heap[b]?) (e2 : w'.heap[r]? = w.heap[r]?) : RgH w' b r l done last := by
  obtain ⟨es, cl, since, seen, c0, h1, h2, h3, h4, h5⟩ := h
  exact ⟨es, cl, since, seen, c0, e1.trans h1, h2, h3, e2.trans h4, h5⟩
def rgR (b r : Nat) (l : List (Int × Value)) (done : List Int) (last : Option Int) : Res := .dat [b, r] (fun w => RgH w b r l done last) (fun _ _ hk h => h.same (hk b (by simp)) (hk r (by simp)))
theorem rgR_foot (b r : Nat) (l : List (Int × Value)) (done : List Int) (last : Option Int) : (rgR b r l done last).foot = [b, r] := rfl
theorem look_rg (b r : Nat) (l : List (Int × Value)) (dn : List Int) (la : Option Int) (L : List Res) (k : Nat) : look (rgR b r l dn la :: L) k = look L k := rfl
theorem putL_rg (b r : Nat) (l : List (Int × Value)) (dn : List Int) (la : Option Int) (L : List Res) (k : Nat) (us : List Value) : putL (rgR b r l dn la :: L) k us = rgR b r l dn la :: putL L k us := rfl
theorem neB_rg (b r : Nat) (l : List (Int × Value)) (dn : List Int) (la : Option Int) (L : List Res) (k : Nat) : neB (rgR b r l dn la :: L) k = neB L k := rfl
theorem neR_rg (b r : Nat) (l : List (Int × Value)) (dn : List Int) (la : Option Int) (L : List Res) (k : Nat) : neR (rgR b r l dn la :: L) k = neR L k := rfl
theorem factL_rg (W : World) (M : List Nat) (b r : Nat) (l : List (Int × Value)) (dn : List Int) (la : Option Int) (L : List Res) : factL W M (rgR b r l dn la :: L) = factL W M L := rfl
theorem fresh_rg (b r : Nat) (l : List (Int × Value)) (dn : List Int) (la : Option Int) (L : List Res) (k : Nat) : fresh (rgR b r l dn la :: L) k = fresh L k := rfl
theorem cRg : type_of% (And.intro @look_rg (And.intro @putL_rg (And.intro @neB_rg (And.intro @neR_rg (And.intro @factL_rg @fresh_rg))))) := And.intro @look_rg (And.intro @putL_rg (And.intro @neB_rg (And.intro @neR_rg (And.intro @factL_rg @fresh_rg))))
theorem pv_of {es : Array MapEntry} {l : List (Int × Value)} (h6 : es.toList.map (fun e => (e.key, e.val)) = l.map pvV) {e : MapEntry} (he : e ∈ es.toList) : ∃ p ∈ l, e.key = .int .i64 p.1 ∧ e.val = p.2 := by
  have hm : (e.key, e.val) ∈ l.map pvV := by rw [← h6]; exact List.mem_map.2 ⟨e, he, rfl⟩
  obtain ⟨p, hp, hpe⟩ := List.mem_map.1 hm
  exact ⟨p, hp, (Prod.mk.inj hpe).1.symm, (Prod.mk.inj hpe).2.symm⟩
theorem pv_to {es : Array MapEntry} {l : List (Int × Value)} (h6 : es.toList.map (fun e => (e.key, e.val)) = l.map pvV) {p : Int × Value} (hp : p ∈ l) : ∃ e ∈ es.toList, e.key = .int .i64 p.1 ∧ e.val = p.2 := by
  have hm : pvV p ∈ es.toList.map (fun e => (e.key, e.val)) := by rw [h6]; exact List.mem_map.2 ⟨p, hp, rfl⟩
  obtain ⟨e, he, hpe⟩ := List.mem_map.1 hm
  exact ⟨e, he, (Prod.mk.inj hpe).1, (Prod.mk.inj hpe).2⟩
theorem key_inj {es : Array MapEntry} {cl : Nat} (h : MapKept.Stamped es cl) {x y : MapEntry} (hx : x ∈ es.toList) (hy : y ∈ es.toList) (e : x.key = y.key) : x = y := by
  have hn := h.2.2
  generalize es.toList = l at hx hy hn
  induction l with
  | nil => cases hx
  | cons a l ih =>
    simp only [List.map_cons, List.nodup_cons] at hn
    obtain ⟨n1, n2⟩ := hn
    rcases List.mem_cons.1 hx with h1 | h1
    · rcases List.mem_cons.1 hy with h2 | h2
      · rw [h1, h2]
      · exact absurd (List.mem_map.2 ⟨y, h2, by rw [← e, h1]⟩) n1
    · rcases List.mem_cons.1 hy with h2 | h2
      · exact absurd (List.mem_map.2 ⟨x, h1, by rw [e, h2]⟩) n1
      · exact ih h1 h2 n2
section
variable {P : Program} {M : List Nat} {W w : World} {L : List Res}
theorem xv_vrange (kk : Nat) {F : Fr} {d : Option Nat} {t ty : TypeId} {pos : String} {af : Array Edge} {gd : Option (Nat × Bool)} {m : Operand} {b : Nat} {l : List (Int × Value)} {z : Value} {K : Bool → Value → List Res → Prop}
    (ht : mvT P t z) (hm : ev F m = .map (some b)) (hL : nth L kk = some (mvR b l)) (hK : ∀ r, W.heap.size ≤ r → fresh L r → K true (.pointer (some ⟨r, 0, none⟩)) (rgR b r l [] none :: L.eraseIdx kk)) :
    XV P M W ⟨d, .range t m, ty, pos, af, gd⟩ F L K := fun w hw => by
  obtain ⟨kt, et, i, h1, h2, h3, h4⟩ := mvT_run ht
  obtain ⟨es, cl, h5, h6, h7⟩ := hw.mvH kk hL
  have hp := (hw.perm (perm_erase hL).symm).allocs (.mapIter (some b) cl #[] cl)
  have hbl : b < w.heap.size := (Array.getElem?_eq_some_iff.1 h5).1
  have hown := fun s hs c hc => ((hw.perm (perm_erase hL).symm).own s hs c hc).2
  refine ⟨_, _, w.alloc (.mapIter (some b) cl #[] cl), by simp [execOp, hm, run_range_map w t kt et b es cl h1 h5, Result.andThen], ?_, hK w.heap.size hw.pres.size (fresh_of hw)⟩
  obtain ⟨q1, q2, q3, q4⟩ := hp
  refine ⟨q1, fun s hs => ?_, fun s hs c hc => ?_, List.pairwise_cons.2 ⟨fun s hs c hc hcs => ?_, (List.pairwise_cons.1 q4).2⟩⟩
  · rcases List.mem_cons.1 hs with rfl | hs
    · exact ⟨es, cl, cl, #[], cl, (heap_alloc_old w _ b hbl).trans h5, h6, h7, heap_alloc_new w _, h7.1, Nat.le_refl _, Nat.le_refl _, fun e he k hk => by simp, fun k hk => by cases hk⟩
    · exact q2 s (List.mem_cons_of_mem _ hs)
  · rcases List.mem_cons.1 hs with rfl | hs
    · rw [rgR_foot] at hc
      rcases List.mem_cons.1 hc with rfl | hc
      · exact q3 _ (.head _) c (by simp [mvR_foot])
      · obtain rfl : c = w.heap.size := by simpa using hc
        exact ⟨.inl hw.pres.size, by simp⟩
    · exact q3 s (List.mem_cons_of_mem _ hs) c hc
  · rw [rgR_foot] at hc
    rcases List.mem_cons.1 hc with rfl | hc
    · exact (List.pairwise_cons.1 q4).1 s hs c (by simp [mvR_foot]) hcs
    · obtain rfl : c = w.heap.size := by simpa using hc
      exact absurd (hown s (List.mem_cons_of_mem _ hs) _ hcs) (Nat.lt_irrefl _)
theorem St.rgH {b r : Nat} {l : List (Int × Value)} {dn : List Int} {la : Option Int} (hw : St M W L w) (k : Nat) (hk : nth L k = some (rgR b r l dn la)) : RgH w b r l dn la := hw.holds _ (nth_mem hk)
theorem xv_vnext (kk : Nat) {F : Fr} {d : Option Nat} {ty : TypeId} {pos : String} {af : Array Edge} {gd : Option (Nat × Bool)} {it : Operand} {b r : Nat} {l : List (Int × Value)} {dn : List Int} {la : Option Int} {K : Bool → Value → List Res → Prop}
    (hit : ev F it = .pointer (some ⟨r, 0, none⟩)) (hL : nth L kk = some (rgR b r l dn la)) (h0 : (∀ p ∈ l, p.1 ∈ dn) → K true (.tuple #[.bool false]) L)
    (hm : ∀ p ∈ l, p.1 ∉ dn → K true (.tuple #[.bool true, .int .i64 p.1, p.2]) (L.set kk (rgR b r l (p.1 :: dn) (some p.1)))) : XV P M W ⟨d, .next it false, ty, pos, af, gd⟩ F L K := fun w hw => by
  obtain ⟨es, cl, since, seen, c0, hb, h6, hst, hr, hold, hsc, hcc, hseen, -⟩ := hw.rgH kk hL
  rcases run_next_at (P := P) w ty r b since c0 seen es cl hr hb hold hsc with ⟨hz, hrun⟩ | ⟨e, he, w1, hw1, hrun⟩
  · refine ⟨_, _, w, by simp [execOp, hit, hrun, Result.andThen], hw, h0 fun p hp => ?_⟩
    obtain ⟨e, he, hk, -⟩ := pv_to h6 hp
    exact (hseen e he p.1 hk).1 (all_seen es seen hz e he)
  · obtain ⟨hem, hes⟩ := mem_left he
    obtain ⟨p, hp, hk, hv⟩ := pv_of h6 hem
    have hnd : p.1 ∉ dn := fun h => by
      have := (hseen e hem p.1 hk).2 h
      rw [hes] at this
      cases this
    have hst1 : St M W L w1 := by rcases hw1 with rfl | rfl; exact hw; exact hw.drew
    have hh : w1.heap = w.heap := by rcases hw1 with rfl | rfl <;> rfl
    have hr1 : w1.heap[r]? = some (.mapIter (some b) since seen c0) := by rw [hh]; exact hr
    have hrb : b ≠ r := fun e => by subst e; rw [hb] at hr; cases hr
    obtain ⟨q1, q2⟩ := MapKept.heap_set (o' := .mapIter (some b) since (seen.push e.born) cl) hr1
    refine ⟨_, _, _, by simp [execOp, hit, hrun, Result.andThen]; exact ⟨rfl, rfl⟩, ?_, by rw [hk, hv]; exact hm p hp hnd⟩
    refine hst1.replace hL rfl ⟨es, cl, since, seen.push e.born, cl, ?_, h6, hst, q1, hold, Nat.le_trans hsc hcc, Nat.le_refl _, ?_, ?_⟩ (fun c hc => q2 c fun e => hc (by rw [e, rgR_foot]; simp)) (by simp [Go.ChangeMaps.setBlock]) rfl rfl rfl
    · exact (q2 b hrb).trans (by rw [hh]; exact hb)
    · intro e' he' k hk'
      rw [contains_push, Bool.or_eq_true, beq_iff_eq, List.mem_cons, hseen e' he' k hk']
      constructor
      · rintro (h | h)
        · exact .inr h
        · have := born_inj hst.2.1 he' hem h
          subst this
          rw [hk] at hk'
          injection hk' with _ hk'
          exact .inl hk'.symm
      · rintro (h | h)
        · have := key_inj hst he' hem (by rw [hk', hk, h])
          exact .inr (by rw [this])
        · exact .inl h
    · intro k hk'
      injection hk' with hk'
      exact ⟨rfl, e, hem, by rw [hk, hk'], seen, rfl⟩
theorem xv_ventry (kk : Nat) {F : Fr} {d : Option Nat} {ty : TypeId} {pos : String} {af : Array Edge} {gd : Option (Nat × Bool)} {it : Operand} {b r : Nat} {l : List (Int × Value)} {dn : List Int} {p : Int × Value} {K : Bool → Value → List Res → Prop}
    (hit : ev F it = .pointer (some ⟨r, 0, none⟩)) (hL : nth L kk = some (rgR b r l dn (some p.1))) (hp : p ∈ l)
    (hK : K true (.tuple #[.int .i64 p.1, p.2]) L) : XV P M W ⟨d, .entry it, ty, pos, af, gd⟩ F L K := fun w hw => by
  obtain ⟨es, cl, since, seen, c0, hb, h6, hst, hr, hold, hsc, hcc, hseen, hla⟩ := hw.rgH kk hL
  obtain ⟨rfl, e, he, hk, seen', rfl⟩ := hla p.1 rfl
  obtain ⟨e2, he2, hk2, hv2⟩ := pv_to h6 hp
  have := key_inj hst he2 he (by rw [hk2, hk])
  subst this
  have hrun := run_entry_at (P := P) w r b since seen' es c0 e2 hr hb he hst.2.1
  exact ⟨_, _, w, by simp [execOp, hit, hrun, Result.andThen]; rw [hk2, hv2]; exact ⟨rfl, rfl⟩, hw, hK⟩
theorem vdel_sub {l : List (Int × Value)} {k : Int} : ∀ p ∈ vdel l k, p ∈ l := by
  induction l with
  | nil => intro p hp; cases hp
  | cons q l ih =>
    intro p hp
    unfold vdel at hp
    split at hp
    · exact List.mem_cons_of_mem _ hp
    · rcases List.mem_cons.1 hp with rfl | hp
      · exact .head _
      · exact List.mem_cons_of_mem _ (ih p hp)
theorem xv_rgdel (kk : Nat) {F : Fr} {d : Option Nat} {t t2 ty : TypeId} {pos : String} {af : Array Edge} {gd : Option (Nat × Bool)} {m k : Operand} {b r : Nat} {l : List (Int × Value)} {dn : List Int} {la : Option Int} {x : Int} {z : Value} {K : Bool → Value → List Res → Prop}
    (ht : mvT P t z) (hm : ev F m = .map (some b)) (hk : ev F k = .int .i64 x) (hL : nth L kk = some (rgR b r l dn la)) (hK : K true (.tuple #[]) (L.set kk (rgR b r (vdel l x) dn none))) :
    XV P M W ⟨d, .call { callee := .builtin .delete, args := #[m, k], argTypes := #[t, t2] }, ty, pos, af, gd⟩ F L K := fun w hw => by
  obtain ⟨kt, et, i, h1, h2, h3, h4⟩ := mvT_run ht
  obtain ⟨es, cl, since, seen, c0, h5, h6, hst, hr, hold, hsc, hcc, hseen, -⟩ := hw.rgH kk hL
  have hkk : MapKept.IsKey (.int .i64) (.int .i64 x) := rfl
  have hrb : r ≠ b := fun e => by subst e; rw [h5] at hr; cases hr
  have fin : ∀ es' : Array MapEntry, es'.toList.map (fun e => (e.key, e.val)) = (vdel l x).map pvV → MapKept.Stamped es' cl → (∀ e ∈ es'.toList, e ∈ es.toList) → St M W (L.set kk (rgR b r (vdel l x) dn none)) { w with heap := w.heap.setIfInBounds b (.map es' cl) } := by
    intro es' e1 e2 e3
    obtain ⟨q1, q2⟩ := MapKept.heap_set (o' := .map es' cl) h5
    exact hw.replace hL rfl ⟨es', cl, since, seen, c0, q1, e1, e2, (q2 r hrb).trans hr, fun e he => hold e (e3 e he), hsc, hcc, fun e he => hseen e (e3 e he), fun k hk => by cases hk⟩ (fun c hc => q2 c fun e => hc (by rw [e, rgR_foot]; simp)) (by simp) rfl rfl rfl
  rcases findNow_mv x (.bool true) es.toList l 0 h6 with ⟨a, b', -, c⟩ | ⟨j, y, a, b', c, -, e⟩
  · refine ⟨_, _, _, by simp [execOp, resolve, invoke, builtin, hm, hk, Builtin.delete_, run_underlying h1, MapKept.run_getObj_map h5, MapKept.run_checkKey h2 hkk, MapKept.run_findKey h2 b', MapKept.run_setObj_map _ h5, Result.andThen], fin es (by rw [h6, c]) hst fun _ h => h, hK⟩
  · rw [Nat.zero_add] at b'
    have hlt : j < es.size := by
      have h7 := congrArg List.length h6
      have := (List.getElem?_eq_some_iff.1 c).1
      simp at h7
      omega
    have hel : (es.eraseIdxIfInBounds j).toList = es.toList.eraseIdx j := by
      unfold Array.eraseIdxIfInBounds
      rw [dif_pos hlt, Array.toList_eraseIdx]
    refine ⟨_, _, _, by simp [execOp, resolve, invoke, builtin, hm, hk, Builtin.delete_, run_underlying h1, MapKept.run_getObj_map h5, MapKept.run_checkKey h2 hkk, MapKept.run_findKey h2 b', MapKept.run_setObj_map _ h5, Result.andThen], fin _ ?_ (MapKept.stamped_erase hst j) ?_, hK⟩
    · rw [e, hel, vmap_erase, h6, vmap_erase]
    · rw [hel]
      exact fun e he => List.mem_of_mem_eraseIdx he
/-- The range is over. -/
theorem St.rgEnd {b r : Nat} {l : List (Int × Value)} {dn : List Int} {la : Option Int} {k : Nat} (hw : St M W L w) (hk : nth L k = some (rgR b r l dn la)) : St M W (mvR b l :: L.eraseIdx k) w := by
  obtain ⟨es, cl, since, seen, c0, h5, h6, hst, -⟩ := hw.rgH k hk
  obtain ⟨q1, q2, q3, q4⟩ := hw.perm (perm_erase hk).symm
  refine ⟨q1, fun s hs => ?_, fun s hs c hc => ?_, List.pairwise_cons.2 ⟨fun s hs c hc hcs => ?_, (List.pairwise_cons.1 q4).2⟩⟩
  · rcases List.mem_cons.1 hs with rfl | hs
    · exact ⟨es, cl, h5, h6, hst⟩
    · exact q2 s (List.mem_cons_of_mem _ hs)
  · rcases List.mem_cons.1 hs with rfl | hs
    · rw [mvR_foot] at hc
      obtain rfl : c = b := by simpa using hc
      exact q3 _ (.head _) c (by simp [rgR_foot])
    · exact q3 s (List.mem_cons_of_mem _ hs) c hc
  · rw [mvR_foot] at hc
    obtain rfl : c = b := by simpa using hc
    exact (List.pairwise_cons.1 q4).1 s hs c (by simp [rgR_foot]) hcs
end
end Go.Proofs.Ytaifnipgefkemaa
/- Handles: the parts, and packing. -/
namespace Go.Proofs.Ytaifnipgefkemaa
open Go.RowKit Go.Shelf
set_option linter.unusedVariables false
set_option linter.unusedSimpArgs false
set_option maxRecDepth 100000

def slotF (h : Nat) : Nat := h % 16777216
def genF (h : Nat) : Nat := h / 16777216 % 4294967296
def tagF (h : Nat) : Nat := h / 72057594037927936
theorem wraps_u64 (n : Int) (h0 : 0 ≤ n) (h1 : n < 2 ^ 64) : IntKind.u64.wrap n = n := by rw [IntKind.wrap_u64]; omega
theorem u64_id {y : Nat} (h : y < 18446744073709551616) : IntKind.u64.wrap (y : Int) = (y : Int) := by rw [IntKind.wrap_u64]; omega
theorem and24 {h : Nat} (hh : h < 18446744073709551616) : bits .and .u64 (h : Int) 16777215 = ((slotF h : Nat) : Int) := by
  have := bits_mask .u64 64 (by decide) wraps_u64 24 (by decide) (h : Int) (by omega) (by omega)
  rw [show ((2 : Int) ^ 24 - 1) = 16777215 by decide, show ((2 : Int) ^ 24) = 16777216 by decide] at this
  rw [this]
  unfold slotF
  omega
theorem and32 {h : Nat} (hh : h < 18446744073709551616) : bits .and .u64 (h : Int) 4294967295 = ((h % 4294967296 : Nat) : Int) := by
  have := bits_mask .u64 64 (by decide) wraps_u64 32 (by decide) (h : Int) (by omega) (by omega)
  rw [show ((2 : Int) ^ 32 - 1) = 4294967295 by decide, show ((2 : Int) ^ 32) = 4294967296 by decide] at this
  rw [this]
  omega
theorem or_apart (k p : Nat) (hkp : 2 ^ k = p) {a b : Nat} (ha : a < p) (hs : b * p < 18446744073709551616) (hk : p ≤ 18446744073709551616) : bits .or .u64 (a : Int) ((b * p : Nat) : Int) = ((a + b * p : Nat) : Int) := by
  subst hkp
  rw [bits_or_u64_nat _ _ (by omega) hs]
  have h2 := Nat.two_pow_add_eq_or_of_lt ha b
  rw [Nat.mul_comm] at h2
  rw [Nat.or_comm, ← h2, Nat.add_comm]
theorem or24 {a b : Nat} (ha : a < 16777216) (hs : b * 16777216 < 18446744073709551616) : bits .or .u64 (a : Int) ((b * 16777216 : Nat) : Int) = ((a + b * 16777216 : Nat) : Int) := or_apart 24 16777216 (by decide) ha hs (by omega)
theorem or56 {a b : Nat} (ha : a < 72057594037927936) (hs : b * 72057594037927936 < 18446744073709551616) : bits .or .u64 (a : Int) ((b * 72057594037927936 : Nat) : Int) = ((a + b * 72057594037927936 : Nat) : Int) := or_apart 56 72057594037927936 (by decide) ha hs (by omega)
theorem shl24 {g : Nat} (hg : g < 4294967296) : IntKind.u64.wrap ((g : Int) * 2 ^ 24) = ((g * 16777216 : Nat) : Int) := by rw [IntKind.wrap_u64]; omega
theorem shl56 {t : Nat} (ht : t < 256) : IntKind.u64.wrap ((t : Int) * 2 ^ 56) = ((t * 72057594037927936 : Nat) : Int) := by rw [IntKind.wrap_u64]; omega
theorem pk_cast (s g t : Nat) : ((s + g * 16777216 + t * 72057594037927936 : Nat) : Int) = (t : Int) * 72057594037927936 + (g : Int) * 16777216 + (s : Int) := by omega
theorem parts_eq {a b : Nat} (h1 : slotF a = slotF b) (h2 : genF a = genF b) (h3 : tagF a = tagF b) (ha : a < 18446744073709551616) (hb : b < 18446744073709551616) : a = b := by
  unfold slotF genF tagF at *
  omega
theorem parts_rng {h : Nat} (hh : h < 18446744073709551616) : slotF h < 16777216 ∧ genF h < 4294967296 ∧ tagF h < 256 := by
  unfold slotF genF tagF
  omega
def pkF (s g t : Int) : Int × Int := if s < 0 ∨ 16777215 < s ∨ g < 1 ∨ 4294967295 < g ∨ t < 1 ∨ 255 < t then (0, 1) else (t * 72057594037927936 + g * 16777216 + s, 0)
theorem xor_ne {a x : Nat} (hx : x ≠ 0) : a ^^^ x ≠ a := by
  intro h
  have h2 : a ^^^ (a ^^^ x) = a ^^^ a := by rw [h]
  rw [← Nat.xor_assoc, Nat.xor_self, Nat.zero_xor] at h2
  exact hx h2

theorem slot_any (h : Nat) (hh : h < 18446744073709551616) (W : World) : Calls Try.prog 40 #[.int .u64 (h : Int)] W fun e w' => e = .returned (.int .i64 (slotF h : Int)) ∧ Below W.heap.size W w' := by
  have hp := parts_rng hh
  refine calls_cv (M := []) (n := 6) [.tmp 2] rfl Try.func40 rfl rfl (Nat.le_of_ble_eq_true rfl) (St.nil _ _) ?_
  refine cv_seq_k fun K hK => ?_
  refine cv_region_then rfl ?_
  simp -implicitDefEqProofs (disch := first | omega | decide) only [seval, -Int.reducePow, -Nat.reducePow, cC, pv, binv, undef]
  refine hK _ _ ?_
  clear hK K
  refine cv_seq_k fun K hK => ?_
  refine cv_region_then rfl ?_
  simp -implicitDefEqProofs (disch := first | omega | decide) only [seval, -Int.reducePow, -Nat.reducePow, cC, pv, binv, undef, and24 hh, wrap_in]
  refine hK _ _ ?_
  clear hK K
  refine cv_ret ⟨_, (by simp -implicitDefEqProofs (disch := first | omega | decide) only [seval, -Int.reducePow, -Nat.reducePow, cC, pv, binv, undef]; rfl), fun w hw => ?_⟩
  exact ⟨rfl, hw.below⟩
theorem gen_any (h : Nat) (hh : h < 18446744073709551616) (W : World) : Calls Try.prog 61 #[.int .u64 (h : Int)] W fun e w' => e = .returned (.int .i64 (genF h : Int)) ∧ Below W.heap.size W w' := by
  have hp := parts_rng hh
  have e1 : (h : Int) / 2 ^ 24 = ((h / 16777216 : Nat) : Int) := by omega
  have e2 : bits .and .u64 ((h / 16777216 : Nat) : Int) 4294967295 = ((genF h : Nat) : Int) := and32 (by omega)
  refine calls_cv (M := []) (n := 7) [.tmp 2] rfl Try.func61 rfl rfl (Nat.le_of_ble_eq_true rfl) (St.nil _ _) ?_
  refine cv_seq_k fun K hK => ?_
  refine cv_region_then rfl ?_
  simp -implicitDefEqProofs (disch := first | omega | decide) only [seval, -Int.reducePow, -Nat.reducePow, cC, pv, binv, undef]
  refine hK _ _ ?_
  clear hK K
  refine cv_seq_k fun K hK => ?_
  refine cv_region_then rfl ?_
  simp -implicitDefEqProofs (disch := first | omega | decide) only [seval, -Int.reducePow, -Nat.reducePow, cC, pv, binv, undef, e1, e2, wrap_in, IntKind.bits]
  refine hK _ _ ?_
  clear hK K
  refine cv_ret ⟨_, (by simp -implicitDefEqProofs (disch := first | omega | decide) only [seval, -Int.reducePow, -Nat.reducePow, cC, pv, binv, undef]; rfl), fun w hw => ?_⟩
  exact ⟨rfl, hw.below⟩
theorem tag_any (h : Nat) (hh : h < 18446744073709551616) (W : World) : Calls Try.prog 62 #[.int .u64 (h : Int)] W fun e w' => e = .returned (.int .i64 (tagF h : Int)) ∧ Below W.heap.size W w' := by
  have hp := parts_rng hh
  have e1 : (h : Int) / 2 ^ 56 = ((tagF h : Nat) : Int) := by unfold tagF; omega
  refine calls_cv (M := []) (n := 6) [.tmp 2] rfl Try.func62 rfl rfl (Nat.le_of_ble_eq_true rfl) (St.nil _ _) ?_
  refine cv_seq_k fun K hK => ?_
  refine cv_region_then rfl ?_
  simp -implicitDefEqProofs (disch := first | omega | decide) only [seval, -Int.reducePow, -Nat.reducePow, cC, pv, binv, undef]
  refine hK _ _ ?_
  clear hK K
  refine cv_seq_k fun K hK => ?_
  refine cv_region_then rfl ?_
  simp -implicitDefEqProofs (disch := first | omega | decide) only [seval, -Int.reducePow, -Nat.reducePow, cC, pv, binv, undef, e1, wrap_in, IntKind.bits]
  refine hK _ _ ?_
  clear hK K
  refine cv_ret ⟨_, (by simp -implicitDefEqProofs (disch := first | omega | decide) only [seval, -Int.reducePow, -Nat.reducePow, cC, pv, binv, undef]; rfl), fun w hw => ?_⟩
  exact ⟨rfl, hw.below⟩
theorem rslot_any (h : Nat) (hh : h < 18446744073709551616) (W : World) : Calls Try.prog 44 #[.int .u64 (h : Int)] W fun e w' => e = .returned (.int .i64 (slotF h : Int)) ∧ Below W.heap.size W w' := by
  have hp := parts_rng hh
  have e1 : (h : Int) % 16777216 = ((slotF h : Nat) : Int) := by unfold slotF; omega
  refine calls_cv (M := []) (n := 6) [.tmp 2] rfl Try.func44 rfl rfl (Nat.le_of_ble_eq_true rfl) (St.nil _ _) ?_
  refine cv_seq_k fun K hK => ?_
  refine cv_region_then rfl ?_
  simp -implicitDefEqProofs (disch := first | omega | decide) only [seval, -Int.reducePow, -Nat.reducePow, cC, pv, binv, undef]
  refine hK _ _ ?_
  clear hK K
  refine cv_seq_k fun K hK => ?_
  refine cv_region_then rfl ?_
  simp -implicitDefEqProofs (disch := first | omega | decide) only [seval, -Int.reducePow, -Nat.reducePow, cC, pv, binv, undef, e1, wrap_in]
  refine hK _ _ ?_
  clear hK K
  refine cv_ret ⟨_, (by simp -implicitDefEqProofs (disch := first | omega | decide) only [seval, -Int.reducePow, -Nat.reducePow, cC, pv, binv, undef]; rfl), fun w hw => ?_⟩
  exact ⟨rfl, hw.below⟩
theorem rgen_any (h : Nat) (hh : h < 18446744073709551616) (W : World) : Calls Try.prog 76 #[.int .u64 (h : Int)] W fun e w' => e = .returned (.int .i64 (genF h : Int)) ∧ Below W.heap.size W w' := by
  have hp := parts_rng hh
  have e0 : IntKind.u64.wrap ((h : Int) / 16777216) = ((h / 16777216 : Nat) : Int) := by rw [IntKind.wrap_u64]; omega
  have e1 : ((h / 16777216 : Nat) : Int) % 4294967296 = ((genF h : Nat) : Int) := by unfold genF; omega
  refine calls_cv (M := []) (n := 7) [.tmp 2] rfl Try.func76 rfl rfl (Nat.le_of_ble_eq_true rfl) (St.nil _ _) ?_
  refine cv_seq_k fun K hK => ?_
  refine cv_region_then rfl ?_
  simp -implicitDefEqProofs (disch := first | omega | decide) only [seval, -Int.reducePow, -Nat.reducePow, cC, pv, binv, undef]
  refine hK _ _ ?_
  clear hK K
  refine cv_seq_k fun K hK => ?_
  refine cv_region_then rfl ?_
  simp -implicitDefEqProofs (disch := first | omega | decide) only [seval, -Int.reducePow, -Nat.reducePow, cC, pv, binv, undef, e0, e1, wrap_in]
  refine hK _ _ ?_
  clear hK K
  refine cv_ret ⟨_, (by simp -implicitDefEqProofs (disch := first | omega | decide) only [seval, -Int.reducePow, -Nat.reducePow, cC, pv, binv, undef]; rfl), fun w hw => ?_⟩
  exact ⟨rfl, hw.below⟩
theorem rtag_any (h : Nat) (hh : h < 18446744073709551616) (W : World) : Calls Try.prog 77 #[.int .u64 (h : Int)] W fun e w' => e = .returned (.int .i64 (tagF h : Int)) ∧ Below W.heap.size W w' := by
  have hp := parts_rng hh
  have e0 : IntKind.u64.wrap ((h : Int) / 72057594037927936) = ((tagF h : Nat) : Int) := by rw [IntKind.wrap_u64]; unfold tagF; omega
  refine calls_cv (M := []) (n := 6) [.tmp 2] rfl Try.func77 rfl rfl (Nat.le_of_ble_eq_true rfl) (St.nil _ _) ?_
  refine cv_seq_k fun K hK => ?_
  refine cv_region_then rfl ?_
  simp -implicitDefEqProofs (disch := first | omega | decide) only [seval, -Int.reducePow, -Nat.reducePow, cC, pv, binv, undef]
  refine hK _ _ ?_
  clear hK K
  refine cv_seq_k fun K hK => ?_
  refine cv_region_then rfl ?_
  simp -implicitDefEqProofs (disch := first | omega | decide) only [seval, -Int.reducePow, -Nat.reducePow, cC, pv, binv, undef, e0, wrap_in]
  refine hK _ _ ?_
  clear hK K
  refine cv_ret ⟨_, (by simp -implicitDefEqProofs (disch := first | omega | decide) only [seval, -Int.reducePow, -Nat.reducePow, cC, pv, binv, undef]; rfl), fun w hw => ?_⟩
  exact ⟨rfl, hw.below⟩
theorem valid_any (h : Nat) (hh : h < 18446744073709551616) (W : World) : Calls Try.prog 47 #[.int .u64 (h : Int)] W fun e w' => e = .returned (.bool (decide (0 < genF h ∧ 0 < tagF h))) ∧ Below W.heap.size W w' := by
  refine calls_cv (M := []) (n := 11) [.tmp 2] rfl Try.func47 rfl rfl (Nat.le_of_ble_eq_true rfl) (St.nil _ _) ?_
  refine cv_seq_k fun K hK => ?_
  refine cv_region_then rfl ?_
  simp -implicitDefEqProofs (disch := first | omega | decide) only [seval, -Int.reducePow, -Nat.reducePow, cC, pv, binv, undef]
  refine hK _ _ ?_
  clear hK K
  refine cv_gen fun G1 hG => ?_
  have g1_0 := congrFun hG 0
  clear hG
  try simp -implicitDefEqProofs (disch := first | omega | decide) only [seval, -Int.reducePow, -Nat.reducePow, cC, pv, binv, undef] at g1_0
  have g1 := g1_0
  by_cases hg : (genF h : Int) = 0
  · refine cv_seq_k fun K hK => ?_
    refine cv_region_then rfl ?_
    simp -implicitDefEqProofs (disch := first | omega | decide) only [seval, -Int.reducePow, -Nat.reducePow, cC, pv, binv, undef, g1]
    refine callV_ret (fun w hw => gen_any h hh w) ?_
    try simp -implicitDefEqProofs (disch := first | omega | decide) only [seval, -Int.reducePow, -Nat.reducePow, cC, pv, binv, undef, hg, g1]
    refine hK _ _ ?_
    clear hK K
    refine cv_ret ⟨_, (by simp -implicitDefEqProofs (disch := first | omega | decide) only [seval, -Int.reducePow, -Nat.reducePow, cC, pv, binv, undef, g1]; rfl), fun w hw => ?_⟩
    exact ⟨by rw [decide_eq_false (by omega)], hw.below⟩
  · refine cv_seq_k fun K hK => ?_
    refine cv_region_then rfl ?_
    simp -implicitDefEqProofs (disch := first | omega | decide) only [seval, -Int.reducePow, -Nat.reducePow, cC, pv, binv, undef, g1]
    refine callV_ret (fun w hw => gen_any h hh w) ?_
    try simp -implicitDefEqProofs (disch := first | omega | decide) only [seval, -Int.reducePow, -Nat.reducePow, cC, pv, binv, undef, hg, g1]
    refine callV_ret (fun w hw => tag_any h hh w) ?_
    try simp -implicitDefEqProofs (disch := first | omega | decide) only [seval, -Int.reducePow, -Nat.reducePow, cC, pv, binv, undef, g1]
    refine hK _ _ ?_
    clear hK K
    refine cv_ret ⟨_, (by simp -implicitDefEqProofs (disch := first | omega | decide) only [seval, -Int.reducePow, -Nat.reducePow, cC, pv, binv, undef, g1]; rfl), fun w hw => ?_⟩
    refine ⟨congrArg (fun b => Ending.returned (.bool b)) ?_, hw.below⟩
    rw [Bool.eq_iff_iff]
    simp
    omega
theorem rvalid_any (h : Nat) (hh : h < 18446744073709551616) (W : World) : Calls Try.prog 57 #[.int .u64 (h : Int)] W fun e w' => e = .returned (.bool (decide (0 < genF h ∧ 0 < tagF h))) ∧ Below W.heap.size W w' := by
  refine calls_cv (M := []) (n := 11) [.tmp 2] rfl Try.func57 rfl rfl (Nat.le_of_ble_eq_true rfl) (St.nil _ _) ?_
  refine cv_seq_k fun K hK => ?_
  refine cv_region_then rfl ?_
  simp -implicitDefEqProofs (disch := first | omega | decide) only [seval, -Int.reducePow, -Nat.reducePow, cC, pv, binv, undef]
  refine hK _ _ ?_
  clear hK K
  refine cv_gen fun G2 hG => ?_
  have g2_0 := congrFun hG 0
  clear hG
  try simp -implicitDefEqProofs (disch := first | omega | decide) only [seval, -Int.reducePow, -Nat.reducePow, cC, pv, binv, undef] at g2_0
  have g2 := g2_0
  by_cases hg : (0 : Int) < (genF h : Int)
  · refine cv_seq_k fun K hK => ?_
    refine cv_region_then rfl ?_
    simp -implicitDefEqProofs (disch := first | omega | decide) only [seval, -Int.reducePow, -Nat.reducePow, cC, pv, binv, undef, g2]
    refine callV_ret (fun w hw => rgen_any h hh w) ?_
    try simp -implicitDefEqProofs (disch := first | omega | decide) only [seval, -Int.reducePow, -Nat.reducePow, cC, pv, binv, undef, hg, g2]
    refine callV_ret (fun w hw => rtag_any h hh w) ?_
    try simp -implicitDefEqProofs (disch := first | omega | decide) only [seval, -Int.reducePow, -Nat.reducePow, cC, pv, binv, undef, g2]
    refine hK _ _ ?_
    clear hK K
    refine cv_ret ⟨_, (by simp -implicitDefEqProofs (disch := first | omega | decide) only [seval, -Int.reducePow, -Nat.reducePow, cC, pv, binv, undef, g2]; rfl), fun w hw => ?_⟩
    refine ⟨congrArg (fun b => Ending.returned (.bool b)) ?_, hw.below⟩
    rw [Bool.eq_iff_iff]
    simp
    omega
  · refine cv_seq_k fun K hK => ?_
    refine cv_region_then rfl ?_
    simp -implicitDefEqProofs (disch := first | omega | decide) only [seval, -Int.reducePow, -Nat.reducePow, cC, pv, binv, undef, g2]
    refine callV_ret (fun w hw => rgen_any h hh w) ?_
    try simp -implicitDefEqProofs (disch := first | omega | decide) only [seval, -Int.reducePow, -Nat.reducePow, cC, pv, binv, undef, hg, g2]
    refine hK _ _ ?_
    clear hK K
    refine cv_ret ⟨_, (by simp -implicitDefEqProofs (disch := first | omega | decide) only [seval, -Int.reducePow, -Nat.reducePow, cC, pv, binv, undef, g2]; rfl), fun w hw => ?_⟩
    exact ⟨by rw [decide_eq_false (by omega)], hw.below⟩
end Go.Proofs.Ytaifnipgefkemaa
/- Lists of pairs as maps; what events do to plugins and objects: plain. -/
namespace Go.Proofs.Ytaifnipgefkemaa
open Go.RowKit Go.Shelf
set_option linter.unusedVariables false
set_option linter.unusedSimpArgs false
section
variable {α β : Type}
def kget : List (Int × α) → Int → Option α
  | [], _ => none
  | p :: l, k => if p.1 = k then some p.2 else kget l k
def kset : List (Int × α) → Int → α → List (Int × α)
  | [], k, v => [(k, v)]
  | p :: l, k, v => if p.1 = k then (k, v) :: l else p :: kset l k v
def kdel : List (Int × α) → Int → List (Int × α)
  | [], _ => []
  | p :: l, k => if p.1 = k then l else p :: kdel l k
def keys (l : List (Int × α)) : List Int := l.map (·.1)
theorem kget_none {l : List (Int × α)} {k : Int} : kget l k = none ↔ k ∉ keys l := by
  induction l with
  | nil => simp [kget, keys]
  | cons p l ih =>
    unfold kget
    simp only [keys, List.map_cons, List.mem_cons, not_or]
    by_cases h : p.1 = k
    · simp [h]
    · rw [if_neg h, ih]
      exact ⟨fun hh => ⟨fun e => h e.symm, hh⟩, fun hh => hh.2⟩
theorem kget_mem {l : List (Int × α)} {k : Int} {v : α} (h : kget l k = some v) : (k, v) ∈ l := by
  induction l with
  | nil => cases h
  | cons p l ih =>
    unfold kget at h
    split at h
    · rename_i e
      injection h with h
      subst e h
      exact .head _
    · exact List.mem_cons_of_mem _ (ih h)
theorem kget_of {l : List (Int × α)} (hn : (keys l).Nodup) {p : Int × α} (h : p ∈ l) : kget l p.1 = some p.2 := by
  induction l with
  | nil => cases h
  | cons q l ih =>
    simp only [keys, List.map_cons, List.nodup_cons] at hn
    unfold kget
    rcases List.mem_cons.1 h with rfl | h
    · rw [if_pos rfl]
    · rw [if_neg (fun e => hn.1 (List.mem_map.2 ⟨p, h, e.symm⟩)), ih hn.2 h]
theorem kget_kset (l : List (Int × α)) (k : Int) (v : α) (j : Int) : kget (kset l k v) j = if j = k then some v else kget l j := by
  induction l with
  | nil =>
    simp only [kset, kget]
    by_cases h : k = j
    · rw [if_pos h, if_pos h.symm]
    · rw [if_neg h, if_neg (fun e => h e.symm)]
  | cons p l ih =>
    unfold kset
    by_cases h : p.1 = k
    · rw [if_pos h]
      simp only [kget]
      by_cases hj : k = j
      · rw [if_pos hj, if_pos hj.symm]
      · rw [if_neg hj, if_neg (fun e => hj e.symm), if_neg (fun e => hj (h.symm.trans e))]
    · rw [if_neg h]
      simp only [kget]
      by_cases hj : p.1 = j
      · rw [if_pos hj, if_pos hj, if_neg (fun e => h (hj.trans e))]
      · rw [if_neg hj, if_neg hj, ih]
theorem mem_keys_kset (l : List (Int × α)) (k : Int) (v : α) (j : Int) : j ∈ keys (kset l k v) ↔ j = k ∨ j ∈ keys l := by
  have h1 := kget_none (l := kset l k v) (k := j)
  have h2 := kget_none (l := l) (k := j)
  rw [kget_kset] at h1
  by_cases hj : j = k
  · rw [if_pos hj] at h1
    refine ⟨fun _ => .inl hj, fun _ => Decidable.byContradiction fun hn => ?_⟩
    have := h1.2 hn
    cases this
  · rw [if_neg hj] at h1
    refine ⟨fun h => .inr (Decidable.byContradiction fun hn => (h1.1 (h2.2 hn)) h), fun h => h.elim (fun e => absurd e hj) fun h => Decidable.byContradiction fun hn => (h2.1 (h1.2 hn)) h⟩
theorem nodup_kset {l : List (Int × α)} (hn : (keys l).Nodup) (k : Int) (v : α) : (keys (kset l k v)).Nodup := by
  induction l with
  | nil => simp [kset, keys]
  | cons p l ih =>
    obtain ⟨n1, n2⟩ := List.nodup_cons.1 (show (p.1 :: keys l).Nodup from hn)
    unfold kset
    split
    · rename_i e
      show (k :: keys l).Nodup
      rw [← e]
      exact hn
    · rename_i e
      show (p.1 :: keys (kset l k v)).Nodup
      refine List.nodup_cons.2 ⟨fun hm => ?_, ih n2⟩
      rcases (mem_keys_kset l k v p.1).1 hm with h | h
      · exact e h
      · exact n1 h
theorem kdel_eq {l : List (Int × α)} (hn : (keys l).Nodup) (k : Int) : kdel l k = l.filter fun p => decide (p.1 ≠ k) := by
  induction l with
  | nil => rfl
  | cons p l ih =>
    simp only [keys, List.map_cons, List.nodup_cons] at hn
    unfold kdel
    by_cases h : p.1 = k
    · rw [if_pos h, List.filter_cons, if_neg (by simp [h])]
      refine (List.filter_eq_self.2 fun q hq => ?_).symm
      refine decide_eq_true fun e => hn.1 ?_
      rw [h, ← e]
      exact List.mem_map.2 ⟨q, hq, rfl⟩
    · rw [if_neg h, List.filter_cons, if_pos (by simpa using h), ih hn.2]
theorem nodup_filter {l : List (Int × α)} (hn : (keys l).Nodup) (f : Int × α → Bool) : (keys (l.filter f)).Nodup := hn.sublist (List.filter_sublist.map _)
theorem nodup_kdel {l : List (Int × α)} (hn : (keys l).Nodup) (k : Int) : (keys (kdel l k)).Nodup := by rw [kdel_eq hn]; exact nodup_filter hn _
theorem kget_filter {l : List (Int × α)} (hn : (keys l).Nodup) (f : Int × α → Bool) (j : Int) : kget (l.filter f) j = match kget l j with
    | none => none
    | some v => if f (j, v) then some v else none := by
  induction l with
  | nil => rfl
  | cons p l ih =>
    simp only [keys, List.map_cons, List.nodup_cons] at hn
    rw [List.filter_cons]
    by_cases h : p.1 = j
    · have e : (j, p.2) = p := by rw [← h]
      simp only [kget, if_pos h, e]
      split
      · simp [kget, h]
      · rw [ih hn.2]
        have : kget l j = none := kget_none.2 (h ▸ hn.1)
        rw [this]
    · simp only [kget, if_neg h]
      rw [← ih hn.2]
      split
      · simp [kget, h]
      · rfl
theorem kget_kdel {l : List (Int × α)} (hn : (keys l).Nodup) (k j : Int) : kget (kdel l k) j = if j = k then none else kget l j := by
  rw [kdel_eq hn, kget_filter hn]
  cases h : kget l j with
  | none => simp
  | some v =>
    by_cases e : j = k
    · simp [e]
    · simp [e]
def kmap (f : α → β) (l : List (Int × α)) : List (Int × β) := l.map fun p => (p.1, f p.2)
theorem kget_kmap (f : α → β) (l : List (Int × α)) (k : Int) : kget (kmap f l) k = (kget l k).map f := by
  induction l with
  | nil => rfl
  | cons p l ih =>
    simp only [kmap, List.map_cons, kget] at ih ⊢
    split
    · rfl
    · exact ih
theorem kset_kmap (f : α → β) (l : List (Int × α)) (k : Int) (v : α) : kset (kmap f l) k (f v) = kmap f (kset l k v) := by
  induction l with
  | nil => rfl
  | cons p l ih =>
    simp only [kmap, List.map_cons, kset] at ih ⊢
    split
    · rfl
    · rw [List.map_cons, ih]
theorem kdel_kmap (f : α → β) (l : List (Int × α)) (k : Int) : kdel (kmap f l) k = kmap f (kdel l k) := by
  induction l with
  | nil => rfl
  | cons p l ih =>
    simp only [kmap, List.map_cons, kdel] at ih ⊢
    split
    · rfl
    · rw [List.map_cons, ih]
theorem keys_kmap (f : α → β) (l : List (Int × α)) : keys (kmap f l) = keys l := by simp [keys, kmap]
theorem len_kmap (f : α → β) (l : List (Int × α)) : (kmap f l).length = l.length := by simp [kmap]
theorem ksplit {l : List (Int × α)} {k : Int} {v : α} (h : kget l k = some v) : ∃ pre post, l = pre ++ (k, v) :: post ∧ k ∉ keys pre ∧ (∀ v', kset l k v' = pre ++ (k, v') :: post) ∧ kdel l k = pre ++ post := by
  induction l with
  | nil => cases h
  | cons p l ih =>
    unfold kget at h
    split at h
    · rename_i e
      injection h with h
      subst e h
      exact ⟨[], l, rfl, by simp [keys], fun v' => by simp [kset], by simp [kdel]⟩
    · rename_i e
      obtain ⟨pre, post, h1, h2, h3, h4⟩ := ih h
      refine ⟨p :: pre, post, by rw [h1]; rfl, ?_, fun v' => ?_, ?_⟩
      · simp only [keys, List.map_cons, List.mem_cons, not_or]
        exact ⟨fun e' => e e'.symm, h2⟩
      · simp only [kset, if_neg e, h3 v', List.cons_append]
      · simp only [kdel, if_neg e, h4, List.cons_append]
theorem kset_new {l : List (Int × α)} {k : Int} (h : kget l k = none) (v : α) : kset l k v = l ++ [(k, v)] := by
  induction l with
  | nil => rfl
  | cons p l ih =>
    unfold kget at h
    split at h
    · cases h
    · rename_i e
      rw [kset, if_neg e, ih h]
      rfl
/-! ## Sorted by the key -/
def Srt (l : List (Int × α)) : Prop := (keys l).Pairwise (· < ·)
theorem Srt.nodup {l : List (Int × α)} (h : Srt l) : (keys l).Nodup := List.Pairwise.imp (fun {a b} h => by omega) h
theorem srt_ext : ∀ {a b : List (Int × α)}, Srt a → Srt b → (∀ k, kget a k = kget b k) → a = b
  | [], [], _, _, _ => rfl
  | [], q :: b, _, _, h => by have := h q.1; simp [kget] at this
  | p :: a, [], _, _, h => by have := h p.1; simp [kget] at this
  | p :: a, q :: b, ha, hb, h => by
    obtain ⟨a1, a2⟩ := List.pairwise_cons.1 (show (p.1 :: keys a).Pairwise (· < ·) from ha)
    obtain ⟨b1, b2⟩ := List.pairwise_cons.1 (show (q.1 :: keys b).Pairwise (· < ·) from hb)
    have hp := h p.1
    have hq := h q.1
    have e1 : p.1 = q.1 := by
      rcases Int.lt_trichotomy p.1 q.1 with hl | hl | hl
      · have : kget (q :: b) p.1 = none := kget_none.2 fun hm => by
          rcases List.mem_cons.1 hm with e | hm
          · have e : p.1 = q.1 := e
            omega
          · have : q.1 < p.1 := b1 _ hm
            omega
        rw [this] at hp
        simp [kget] at hp
      · exact hl
      · have : kget (p :: a) q.1 = none := kget_none.2 fun hm => by
          rcases List.mem_cons.1 hm with e | hm
          · have e : q.1 = p.1 := e
            omega
          · have : p.1 < q.1 := a1 _ hm
            omega
        rw [this] at hq
        simp [kget] at hq
    have e2 : p.2 = q.2 := by
      simp only [kget, if_pos rfl, if_pos e1.symm] at hp
      exact Option.some.inj hp
    have e3 : a = b := srt_ext a2 b2 fun k => by
      have hk := h k
      simp only [kget] at hk
      by_cases hpk : p.1 = k
      · have x1 : kget a k = none := kget_none.2 fun hm => by have : p.1 < k := a1 _ hm; omega
        have x2 : kget b k = none := kget_none.2 fun hm => by have : q.1 < k := b1 _ hm; omega
        rw [x1, x2]
      · rw [if_neg hpk, if_neg (e1 ▸ hpk)] at hk
        exact hk
    rw [e3, Prod.ext e1 e2]
def srtL (l : List (Int × α)) : List (Int × α) := ((keys l).mergeSort fun x y => decide (x ≤ y)).filterMap fun k => (kget l k).map fun v => (k, v)
theorem srtL_keys {l : List (Int × α)} : keys (srtL l) = (keys l).mergeSort fun x y => decide (x ≤ y) := by
  have key : ∀ ks : List Int, (∀ k ∈ ks, k ∈ keys l) → keys (ks.filterMap fun k => (kget l k).map fun v => (k, v)) = ks := by
    intro ks
    induction ks with
    | nil => intro _; rfl
    | cons k ks ih =>
      intro h
      cases hk : kget l k with
      | none => exact absurd (h k (by simp)) (kget_none.1 hk)
      | some v =>
        rw [List.filterMap_cons]
        simp only [hk, Option.map_some]
        show k :: keys _ = _
        rw [ih fun j hj => h j (by simp [hj])]
  exact key _ fun k hk => (List.mem_mergeSort).1 hk
theorem srtL_srt {l : List (Int × α)} (hn : (keys l).Nodup) : Srt (srtL l) := by
  unfold Srt
  rw [srtL_keys]
  have h1 : ((keys l).mergeSort fun x y => decide (x ≤ y)).Pairwise fun x y => decide (x ≤ y) = true := List.pairwise_mergeSort (fun a b c h1 h2 => by simp at *; omega) (fun a b => by simp; omega) _
  have h2 : ((keys l).mergeSort fun x y => decide (x ≤ y)).Nodup := (List.mergeSort_perm _ _).nodup_iff.2 hn
  exact List.Pairwise.imp₂ (fun a b h1 h2 => by simp at h1; omega) h1 h2
theorem srtL_get {l : List (Int × α)} (hn : (keys l).Nodup) (k : Int) : kget (srtL l) k = kget l k := by
  cases h : kget l k with
  | none =>
    refine kget_none.2 fun hm => kget_none.1 h ?_
    rw [srtL_keys] at hm
    exact (List.mem_mergeSort).1 hm
  | some v =>
    have hm : (k, v) ∈ srtL l := List.mem_filterMap.2 ⟨k, (List.mem_mergeSort).2 (List.mem_map.2 ⟨_, kget_mem h, rfl⟩), by rw [h]; rfl⟩
    exact kget_of (srtL_srt hn).nodup hm
end
/-! ## Events -/
structure EvR where
  pl : Int
  op : Int
  h : Nat
  ar : Nat
  er : Int
structure Ob where
  h : Nat
  ow : Int
  mo : Int
  cs : List (Int × Int)
structure HS where
  sd : List (Int × Bool)
  os : List (Int × Ob)
def evSkip (e : EvR) : Bool := decide (¬ e.er = 0 ∨ (3 ≤ e.op ∧ e.op ≤ 7))
def alive (s : HS) (p : Int) : Bool := (kget s.sd p).getD false
/-- Another plugin that is alive. -/
def othP (s : HS) (e : EvR) : Bool := decide (e.ar ≤ 64) && !decide ((e.ar : Int) = e.pl) && alive s e.ar
def findO (s : HS) (h : Nat) : Option Ob :=
  match kget s.os (slotF h) with
  | none => none
  | some o => if o.h = h then some o else none
def startS (s : HS) (p : Int) : Option HS :=
  match kget s.sd p with
  | some _ => none
  | none => some { s with sd := kset s.sd p true }
def endO (p : Int) (os : List (Int × Ob)) : List (Int × Ob) := (os.filter fun q => decide (¬ q.2.ow = p)).map fun q => (q.1, { q.2 with cs := kdel q.2.cs p })
def endN (p : Int) (os : List (Int × Ob)) : Nat := (os.filter fun q => decide (q.2.ow = p)).length
def endS (s : HS) (e : EvR) : Option HS := if endN e.pl s.os = e.ar then some { sd := kset s.sd e.pl false, os := endO e.pl s.os } else none
def allocS (s : HS) (e : EvR) : Option HS :=
  if (0 < genF e.h ∧ 0 < tagF e.h) ∧ kget s.os (slotF e.h) = none then some { s with os := kset s.os (slotF e.h) ⟨e.h, e.pl, 0, []⟩ } else none
def lendO (o : Ob) (q : Nat) (m : Int) : Ob := { o with mo := m, cs := kset o.cs q ((kget o.cs q).getD 0 + 1) }
def lendB (s : HS) (e : EvR) (o : Ob) (m : Int) : Bool := othP s e && decide (o.ow = e.pl) && (decide (o.cs = []) || (!decide (m = 2) && !decide (o.mo = 2)))
def lendS (s : HS) (e : EvR) (o : Ob) (m : Int) : Option HS :=
  if lendB s e o m = true then some { s with os := kset s.os (slotF e.h) (lendO o e.ar m) } else none
def relO (o : Ob) (p : Int) : Ob := { o with cs := if (kget o.cs p).getD 0 - 1 = 0 then kdel o.cs p else kset o.cs p ((kget o.cs p).getD 0 - 1) }
def relS (s : HS) (e : EvR) (o : Ob) : Option HS :=
  if (kget o.cs e.pl).getD 0 = 0 then none else some { s with os := kset s.os (slotF e.h) (relO o e.pl) }
def freeB (e : EvR) (o : Ob) : Bool := decide (o.ow = e.pl) && decide (o.cs = [])
def useS (s : HS) (e : EvR) : Option HS :=
  match findO s e.h with
  | none => none
  | some o =>
    if e.op = 2 then (if freeB e o = true then some { s with os := kdel s.os (slotF e.h) } else none)
    else if e.op = 8 then (if (freeB e o && othP s e) = true then some { s with os := kset s.os (slotF e.h) { o with ow := e.ar } } else none)
    else if e.op = 9 then lendS s e o 1
    else if e.op = 10 then lendS s e o 2
    else relS s e o
def stepS (s : HS) (e : EvR) : Option HS :=
  if evSkip e = true then some s
  else if e.pl < 1 ∨ 64 < e.pl then none
  else if e.op = 32 then startS s e.pl
  else if alive s e.pl = false then none
  else if e.op = 33 then endS s e
  else if e.op = 1 then allocS s e
  else if e.op = 2 ∨ e.op = 8 ∨ e.op = 9 ∨ e.op = 10 ∨ e.op = 11 then useS s e
  else none
def runS : HS → List EvR → Option HS
  | s, [] => some s
  | s, e :: l => match stepS s e with
    | none => none
    | some s' => runS s' l
/-! ## What holds of a state -/
def EvR.ok (e : EvR) : Prop := e.h < 18446744073709551616 ∧ e.ar < 18446744073709551616
structure ObOk (k : Nat) (q : Int × Ob) : Prop where
  slot : q.1 = slotF q.2.h
  h64 : q.2.h < 18446744073709551616
  ow : 1 ≤ q.2.ow ∧ q.2.ow ≤ 64
  nd : (keys q.2.cs).Nodup
  cnt : ∀ c ∈ q.2.cs, (1 ≤ c.1 ∧ c.1 ≤ 64) ∧ 1 ≤ c.2 ∧ c.2 ≤ k
  mode : q.2.cs ≠ [] → q.2.mo = 1 ∨ q.2.mo = 2
  cl : q.2.cs.length ≤ k
structure HInv (k : Nat) (s : HS) : Prop where
  nd : (keys s.os).Nodup
  len : s.os.length ≤ k
  obj : ∀ q ∈ s.os, ObOk k q
  alv : ∀ p, alive s p = true → 1 ≤ p ∧ p ≤ 64
theorem ObOk.up {k : Nat} {q : Int × Ob} (h : ObOk k q) : ObOk (k + 1) q := ⟨h.slot, h.h64, h.ow, h.nd, fun c hc => by have := h.cnt c hc; omega, h.mode, Nat.le_succ_of_le h.cl⟩
theorem HInv.up {k : Nat} {s : HS} (h : HInv k s) : HInv (k + 1) s := ⟨h.nd, by have := h.len; omega, fun q hq => (h.obj q hq).up, h.alv⟩
theorem HInv.get {k : Nat} {s : HS} (h : HInv k s) {j : Int} {o : Ob} (hg : kget s.os j = some o) : ObOk k (j, o) := h.obj _ (kget_mem hg)
theorem kset_mem {α : Type} {l : List (Int × α)} {k : Int} {v : α} {q : Int × α} (h : q ∈ kset l k v) : q = (k, v) ∨ q ∈ l := by
  induction l with
  | nil => exact .inl (by simpa [kset] using h)
  | cons p l ih =>
    unfold kset at h
    split at h
    · rcases List.mem_cons.1 h with h | h
      · exact .inl h
      · exact .inr (List.mem_cons_of_mem _ h)
    · rcases List.mem_cons.1 h with h | h
      · exact .inr (h ▸ .head _)
      · exact (ih h).imp id (List.mem_cons_of_mem _)
theorem kset_len {α : Type} (l : List (Int × α)) (k : Int) (v : α) : (kset l k v).length ≤ l.length + 1 := by
  induction l with
  | nil => simp [kset]
  | cons p l ih =>
    unfold kset
    split
    · simp
    · simp only [List.length_cons]; omega
theorem kdel_len {α : Type} (l : List (Int × α)) (k : Int) : (kdel l k).length ≤ l.length := by
  induction l with
  | nil => simp [kdel]
  | cons p l ih =>
    unfold kdel
    split
    · simp
    · simp only [List.length_cons]; omega
theorem kdel_mem {α : Type} {l : List (Int × α)} {k : Int} {q : Int × α} (h : q ∈ kdel l k) : q ∈ l := by
  induction l with
  | nil => cases h
  | cons p l ih =>
    unfold kdel at h
    split at h
    · exact List.mem_cons_of_mem _ h
    · rcases List.mem_cons.1 h with h | h
      · exact h ▸ .head _
      · exact List.mem_cons_of_mem _ (ih h)
theorem kset_ne {α : Type} (l : List (Int × α)) (k : Int) (v : α) : kset l k v ≠ [] := by
  cases l with
  | nil => simp [kset]
  | cons p l => unfold kset; split <;> simp
theorem HInv.set {k : Nat} {s : HS} (h : HInv k s) {j : Int} {o : Ob} (ho : ObOk (k + 1) (j, o)) : HInv (k + 1) { s with os := kset s.os j o } :=
  ⟨nodup_kset h.nd _ _, by have := kset_len s.os j o; have := h.len; show (kset s.os j o).length ≤ _; omega, fun q hq => by
    rcases kset_mem hq with rfl | hq
    · exact ho
    · exact (h.obj q hq).up, h.alv⟩
theorem othP_rng {k : Nat} {s : HS} {e : EvR} (h : HInv k s) (ho : othP s e = true) : (1 : Int) ≤ e.ar ∧ (e.ar : Int) ≤ 64 := by
  unfold othP at ho
  simp only [Bool.and_eq_true] at ho
  exact h.alv _ ho.2
theorem findO_get {s : HS} {h : Nat} {o : Ob} (hf : findO s h = some o) : kget s.os (slotF h) = some o ∧ o.h = h := by
  unfold findO at hf
  split at hf
  · cases hf
  · rename_i o' ho
    split at hf
    · rename_i e
      injection hf with hf
      subst hf
      exact ⟨ho, e⟩
    · cases hf
theorem HInv.step {k : Nat} {s s' : HS} {e : EvR} (h : HInv k s) (he : e.ok) (hs : stepS s e = some s') : HInv (k + 1) s' := by
  unfold stepS at hs
  split at hs
  · injection hs with hs; subst hs; exact h.up
  split at hs
  · cases hs
  rename_i hpl
  have hpl : 1 ≤ e.pl ∧ e.pl ≤ 64 := by omega
  split at hs
  · unfold startS at hs
    split at hs
    · cases hs
    · injection hs with hs
      subst hs
      refine ⟨h.nd, by have := h.len; show s.os.length ≤ _; omega, fun q hq => (h.obj q hq).up, fun p hp => ?_⟩
      unfold alive at hp
      rw [kget_kset] at hp
      split at hp
      · rename_i e'
        omega
      · exact h.alv p hp
  split at hs
  · cases hs
  split at hs
  · unfold endS at hs
    split at hs
    · injection hs with hs
      subst hs
      have hk : keys (endO e.pl s.os) = keys (s.os.filter fun q => decide (¬ q.2.ow = e.pl)) := by simp [endO, keys]
      refine ⟨?_, ?_, fun q hq => ?_, fun p hp => ?_⟩
      · show (keys (endO e.pl s.os)).Nodup
        rw [hk]
        exact nodup_filter h.nd _
      · show (endO e.pl s.os).length ≤ _
        have := List.length_filter_le (fun q => decide (¬ q.2.ow = e.pl)) s.os
        have := h.len
        simp only [endO, List.length_map]
        omega
      · obtain ⟨q0, hq0, rfl⟩ := List.mem_map.1 (show q ∈ endO e.pl s.os from hq)
        have ho := (h.obj q0 (List.mem_filter.1 hq0).1).up
        refine ⟨ho.slot, ho.h64, ho.ow, nodup_kdel ho.nd _, fun c hc => ho.cnt c (kdel_mem hc), fun hne => ho.mode fun e0 => hne ?_, Nat.le_trans (kdel_len _ _) ho.cl⟩
        show kdel q0.2.cs e.pl = []
        rw [e0]
        rfl
      · unfold alive at hp
        rw [kget_kset] at hp
        split at hp
        · cases hp
        · exact h.alv p hp
    · cases hs
  split at hs
  · unfold allocS at hs
    split at hs
    · injection hs with hs
      subst hs
      exact h.set ⟨rfl, he.1, hpl, by simp [keys], fun c hc => (by cases hc), fun hh => absurd rfl hh, Nat.zero_le _⟩
    · cases hs
  split at hs
  · unfold useS at hs
    split at hs
    · cases hs
    rename_i o hf
    obtain ⟨hg, hh⟩ := findO_get hf
    have ho := (h.get hg).up
    split at hs
    · split at hs
      · injection hs with hs
        subst hs
        refine ⟨nodup_kdel h.nd _, ?_, fun q hq => (h.obj q (kdel_mem hq)).up, h.alv⟩
        have := kdel_len s.os (slotF e.h)
        have := h.len
        show (kdel s.os (slotF e.h)).length ≤ _
        omega
      · cases hs
    split at hs
    · split at hs
      · rename_i hc
        injection hs with hs
        subst hs
        simp only [Bool.and_eq_true] at hc
        have hr := othP_rng h hc.2
        exact h.set ⟨ho.slot, ho.h64, hr, ho.nd, ho.cnt, ho.mode, ho.cl⟩
      · cases hs
    have lend : ∀ m : Int, (m = 1 ∨ m = 2) → lendS s e o m = some s' → HInv (k + 1) s' := by
      intro m hm hs
      unfold lendS at hs
      split at hs
      · rename_i hc
        injection hs with hs
        subst hs
        have hb : othP s e = true := by
          unfold lendB at hc
          simp only [Bool.and_eq_true] at hc
          exact hc.1.1
        have hr := othP_rng h hb
        refine h.set ⟨ho.slot, ho.h64, ho.ow, nodup_kset ho.nd _ _, fun c hc => ?_, fun _ => hm, (by have h1 := kset_len o.cs e.ar ((kget o.cs e.ar).getD 0 + 1); have h2 := (h.get hg).cl; show (kset o.cs e.ar ((kget o.cs e.ar).getD 0 + 1)).length ≤ _; simp only at h2; omega)⟩
        rcases kset_mem hc with rfl | hc
        · refine ⟨hr, ?_⟩
          show 1 ≤ (kget o.cs e.ar).getD 0 + 1 ∧ (kget o.cs e.ar).getD 0 + 1 ≤ _
          cases hg2 : kget o.cs e.ar with
          | none => simp; omega
          | some c =>
            have := (h.get hg).cnt _ (kget_mem hg2)
            simp only [Option.getD_some]
            simp only at this
            omega
        · exact ho.cnt c hc
      · cases hs
    split at hs
    · exact lend 1 (.inl rfl) hs
    split at hs
    · exact lend 2 (.inr rfl) hs
    unfold relS at hs
    split at hs
    · cases hs
    rename_i hc0
    injection hs with hs
    subst hs
    have hcs : ∀ c ∈ (relO o e.pl).cs, c ∈ o.cs ∨ c = (e.pl, (kget o.cs e.pl).getD 0 - 1) ∧ ¬ (kget o.cs e.pl).getD 0 - 1 = 0 := fun c hc => by
      simp only [relO] at hc
      split at hc
      · exact .inl (kdel_mem hc)
      · rename_i h1
        rcases kset_mem hc with h2 | h2
        · exact .inr ⟨h2, h1⟩
        · exact .inl h2
    refine h.set ⟨ho.slot, ho.h64, ho.ow, ?_, fun c hc => ?_, fun hne => ho.mode fun e0 => ?_, ?_⟩
    · simp only [relO]
      split
      · exact nodup_kdel ho.nd _
      · exact nodup_kset ho.nd _ _
    · rcases hcs c hc with hc | ⟨rfl, h1⟩
      · exact ho.cnt c hc
      · refine ⟨hpl, ?_⟩
        show 1 ≤ (kget o.cs e.pl).getD 0 - 1 ∧ (kget o.cs e.pl).getD 0 - 1 ≤ _
        cases hg2 : kget o.cs e.pl with
        | none => rw [hg2] at hc0; exact absurd rfl hc0
        | some c =>
          have := (h.get hg).cnt _ (kget_mem hg2)
          rw [hg2] at h1
          simp only [Option.getD_some] at h1 ⊢
          simp only at this
          omega
    · rw [e0] at hc0
      exact hc0 rfl
    · have h2 := (h.get hg).cl
      simp only at h2
      simp only [relO]
      split
      · have := kdel_len o.cs e.pl
        omega
      · have := kset_len o.cs e.pl ((kget o.cs e.pl).getD 0 - 1)
        omega
  · cases hs
end Go.Proofs.Ytaifnipgefkemaa
/- The memory of a history's state; its small methods. -/
namespace Go.Proofs.Ytaifnipgefkemaa
open Go.RowKit Go.Shelf
set_option linter.unusedVariables false
set_option linter.unusedSimpArgs false
set_option maxRecDepth 100000
section
variable {P : Program} {M : List Nat} {W w : World} {L : List Res}
theorem callV_grpT {ι : Sort _} {g : FuncId} {args : Array Value} {K : Bool → Value → List Res → Prop} (A G : List Res) (f : ι → Value) (Lf : ι → List Res) (φ : ι → Prop)
    (h : ∀ w, St M W (A ++ G) w → St (feet G) w G w → Calls P g args w (fun e w' => ∃ i, e = .returned (f i) ∧ φ i ∧ St (feet G) w (Lf i) w'))
    (hK : ∀ i, φ i → K true (f i) (Lf i ++ A)) : CallV P M W g args (A ++ G) K := fun w hw => by
  have hp : St M W (G ++ A) w := hw.perm List.perm_append_comm
  have h1 : St M W G w := hp.sub (List.sublist_append_left _ _)
  have h2 : St M W (A) w := hp.sub (List.sublist_append_right _ _)
  have hap := List.pairwise_append.1 hp.apart
  refine (h w hw h1.self).mono ?_
  rintro e w' ⟨i, rfl, hi, hs⟩
  have hout : ∀ b, b < w.heap.size → b ∉ feet G → w'.heap[b]? = w.heap[b]? := fun b hb hn => hs.pres.block b hb hn
  have hfeet : ∀ b, b ∈ feet G → (W.heap.size ≤ b ∨ b ∈ M) ∧ b < w.heap.size := fun b hb => by
    obtain ⟨r, hr, hbr⟩ := List.mem_flatMap.1 hb
    exact h1.own r hr b hbr
  have hj : ∀ r ∈ A, ∀ b ∈ r.foot, b ∉ feet G := fun r hr b hb hn => by
    obtain ⟨s, hs', hbs⟩ := List.mem_flatMap.1 hn
    exact hap.2.2 s hs' r hr b hbs hb
  have hpres : Pres M W w' := ⟨hs.pres.os.trans hw.pres.os, hs.pres.tape.trans hw.pres.tape, hs.pres.output.trans hw.pres.output, Nat.le_trans hw.pres.size hs.pres.size, fun k hk hm => by
    rw [hout k (Nat.lt_of_lt_of_le hk hw.pres.size) (fun hn => by
      rcases (hfeet k hn).1 with h3 | h3
      · omega
      · exact hm h3)]
    exact hw.pres.block k hk hm⟩
  refine ⟨_, _, rfl, ⟨hpres, fun r hr => ?_, fun r hr b hb => ?_, ?_⟩, hK i hi⟩
  · rcases List.mem_append.1 hr with hr | hr
    · exact hs.holds r hr
    · exact r.keep (h2.holds r hr) fun b hb => hout b (h2.own r hr b hb).2 (hj r hr b hb)
  · rcases List.mem_append.1 hr with hr | hr
    · have := hs.own r hr b hb
      refine ⟨?_, this.2⟩
      rcases this.1 with h3 | h3
      · exact .inl (Nat.le_trans hw.pres.size h3)
      · exact (hfeet b h3).1
    · exact ⟨(h2.own r hr b hb).1, Nat.lt_of_lt_of_le (h2.own r hr b hb).2 hs.pres.size⟩
  · refine List.pairwise_append.2 ⟨hs.apart, hap.2.1, fun r hr s hs' b hb hbs => ?_⟩
    rcases (hs.own r hr b hb).1 with h3 | h3
    · have := (h2.own s hs' b hbs).2
      omega
    · exact hj s hs' b hbs h3
theorem callV_sub {ι : Sort _} {g : FuncId} {args : Array Value} {K : Bool → Value → List Res → Prop} (A G : List Res) (hp : (A ++ G).Perm L) (f : ι → Value) (Lf : ι → List Res) (φ : ι → Prop)
    (h : ∀ w, St (feet G) w G w → Calls P g args w (fun e w' => ∃ i, e = .returned (f i) ∧ φ i ∧ St (feet G) w (Lf i) w'))
    (hK : ∀ i, φ i → K true (f i) (Lf i ++ A)) : CallV P M W g args L K := fun w hw => callV_grpT A G f Lf φ (fun w _ h2 => h w h2) hK w (hw.perm hp)
theorem callV_rd {ι : Sort _} {g : FuncId} {args : Array Value} {K : Bool → Value → List Res → Prop} (G : List Res) (hs : G.Sublist L) (f : ι → Value) (φ : ι → Prop)
    (h : ∀ w, St (feet G) w G w → Calls P g args w (fun e w' => ∃ i, e = .returned (f i) ∧ φ i ∧ St (feet G) w G w'))
    (hK : ∀ i, φ i → K true (f i) L) : CallV P M W g args L K := fun w hw => by
  obtain ⟨A, hA⟩ := hs.exists_perm_append
  refine (callV_grpT (K := fun t v L' => L' = G ++ A ∧ K t v L) A G f (fun _ => G) φ (fun w _ h2 => h w h2) (fun i hi => ⟨rfl, hK i hi⟩) w (hw.perm (List.perm_append_comm.trans hA.symm))).mono ?_
  rintro e w' ⟨v, L', he, hst, rfl, hk⟩
  exact ⟨v, L, he, hst.perm hA, hk⟩
theorem cv_sub {n : Nat} {c : Code} {F : Fr} {Q : Exit → Fr → List Res → Prop} (L' : List Res) (h : ∀ w, St M W L w → St M W L' w) (hc : CV P M W n c F L' Q) : CV P M W n c F L Q := fun a w ha hw => hc a w ha (h w hw)
theorem rx_vlook1 {F : Fr} {L0 : List Res} {d : Option Nat} {t ty : TypeId} {pos : String} {af : Array Edge} {gd : Option (Nat × Bool)} {m k : Operand} {b : Nat} {l : List (Int × Value)} {x : Int} {z : Value} {K : Bool → Value → Prop}
    (ht : mvT P t z) (hm : ev F m = .map (some b)) (hk : ev F k = .int .i64 x) (h : ∀ w, St M W L0 w → MvH w b l) (hK : K true ((vget l x).getD z)) :
    RX P M W ⟨d, .lookup t m k false, ty, pos, af, gd⟩ F L0 K := by
  refine ⟨_, fun w hw => ?_, fun tok htok => by subst htok; exact hK⟩
  obtain ⟨kt, et, i, h1, h2, h3, h4⟩ := mvT_run ht
  obtain ⟨es, cl, h5, h6, -⟩ := h w hw
  have hkk : MapKept.IsKey (.int .i64) (.int .i64 x) := rfl
  rcases findNow_mv x (.bool true) es.toList l 0 h6 with ⟨a, b', -, -⟩ | ⟨j, y, a, b', -, -, -⟩
  · simp [execOp, hm, hk, Instr.lookup, run_underlying h1, MapKept.run_getObj_map h5, MapKept.run_checkKey h2 hkk, MapKept.run_findKey h2 b', Result.andThen, zeroValue, typeInfo, h3, h4, a]
  · simp [execOp, hm, hk, Instr.lookup, run_underlying h1, MapKept.run_getObj_map h5, MapKept.run_checkKey h2 hkk, MapKept.run_findKey h2 b', Result.andThen, a]
end
theorem vget_k : ∀ (l : List (Int × Value)) (k : Int), vget l k = kget l k
  | [], k => rfl
  | p :: l, k => by unfold vget kget; rw [vget_k l k]
theorem vset_k : ∀ (l : List (Int × Value)) (k : Int) (v : Value), vset l k v = kset l k v
  | [], k, v => rfl
  | p :: l, k, v => by unfold vset kset; rw [vset_k l k v]
theorem vdel_k : ∀ (l : List (Int × Value)) (k : Int), vdel l k = kdel l k
  | [], k => rfl
  | p :: l, k => by unfold vdel kdel; rw [vdel_k l k]
section
variable {α : Type}
theorem vget_kmap (f : α → Value) (l : List (Int × α)) (k : Int) : vget (kmap f l) k = (kget l k).map f := by rw [vget_k, kget_kmap]
theorem vset_kmap (f : α → Value) (l : List (Int × α)) (k : Int) (v : α) : vset (kmap f l) k (f v) = kmap f (kset l k v) := by rw [vset_k, kset_kmap]
theorem vdel_kmap (f : α → Value) (l : List (Int × α)) (k : Int) : vdel (kmap f l) k = kmap f (kdel l k) := by rw [vdel_k, kdel_kmap]
end
def mvC (P : Program) (t : TypeId) : Option Value :=
  match P.underlying t with
  | some (.map k e) => (match P.underlying k with
    | some (.int .i64) => (P.info? e).bind fun i => i.zero
    | _ => none)
  | _ => none
theorem mvT_of {P : Program} {t : TypeId} {z : Value} (h : mvC P t = some z) : mvT P t z := by
  unfold mvC at h
  split at h
  · rename_i k e hu
    split at h
    · rename_i hk
      obtain ⟨i, hi, hz⟩ := Option.bind_eq_some_iff.1 h
      exact ⟨k, e, i, hu, hk, hi, hz⟩
    · cases h
  · cases h
theorem mvSt : mvT Try.prog 60 (.bool false) := mvT_of (by kernel_rfl)
theorem mvOb : mvT Try.prog 61 (.pointer none) := mvT_of (by kernel_rfl)
theorem mvCt : mvT Try.prog 91 (.int .i64 0) := mvT_of (by kernel_rfl)
/-! ## The state in memory -/
def evc (e : EvR) : List Value := [.int .i64 e.pl, .int .i64 e.op, .int .u64 (e.h : Int), .int .u64 (e.ar : Int), .int .i64 e.er]
def evV (e : EvR) : Value := .agg #[.int .i64 e.pl, .int .i64 e.op, .int .u64 (e.h : Int), .int .u64 (e.ar : Int), .int .i64 e.er]
def evBox (b : Nat) (e : EvR) : Res := .blk b 37 [.int .i64 e.pl, .int .i64 e.op, .int .u64 (e.h : Int), .int .u64 (e.ar : Int), .int .i64 e.er]
structure ObR where
  b : Nat
  bc : Nat
  o : Ob
def obc (o : Ob) (bc : Nat) : List Value := [.int .u64 (o.h : Int), .int .i64 o.ow, .int .i64 o.mo, .map (some bc)]
def obL (x : ObR) : List Res := [.blk x.b 93 [.int .u64 (x.o.h : Int), .int .i64 x.o.ow, .int .i64 x.o.mo, .map (some x.bc)], mvR x.bc (kmap (Value.int .i64) x.o.cs)]
def obsL (os : List (Int × ObR)) : List Res := os.flatMap fun p => obL p.2
def obP (x : ObR) : Value := .pointer (some ⟨x.b, 0, none⟩)
structure HsR where
  bS : Nat
  b1 : Nat
  b2 : Nat
  sd : List (Int × Bool)
  os : List (Int × ObR)
def hsL (x : HsR) : List Res := .blk x.bS 63 [.map (some x.b1), .map (some x.b2)] :: mvR x.b1 (kmap Value.bool x.sd) :: mvR x.b2 (kmap obP x.os) :: obsL x.os
def HsR.pl (x : HsR) : HS := ⟨x.sd, kmap ObR.o x.os⟩
/-- A method's result and the state behind it: what the plain step says. -/
structure Did (bS : Nat) (o : Option HS) (i : Bool × HsR) : Prop where
  res : i.1 = o.isSome
  st : ∀ s, o = some s → i.2.pl = s
  bS : i.2.bS = bS
theorem Did.no {bS : Nat} {o : Option HS} {y : HsR} (h : o = none) (hb : y.bS = bS) : Did bS o (false, y) := ⟨by rw [h]; rfl, fun s hs => (by rw [h] at hs; cases hs), hb⟩
theorem Did.yes {bS : Nat} {o : Option HS} {s : HS} {y : HsR} (h : o = some s) (hy : y.pl = s) (hb : y.bS = bS) : Did bS o (true, y) := ⟨by rw [h]; rfl, fun s' hs => (by rw [h] at hs; cases hs; exact hy), hb⟩
def didV (i : Bool × HsR) : Value := .bool i.1
def didL (i : Bool × HsR) : List Res := hsL i.2
theorem obsL_app (a b : List (Int × ObR)) : obsL (a ++ b) = obsL a ++ obsL b := by simp [obsL]
theorem obsL_cons (p : Int × ObR) (a : List (Int × ObR)) : obsL (p :: a) = obL p.2 ++ obsL a := rfl
theorem obs_front (pre post : List (Int × ObR)) (k : Int) (o : ObR) : (obL o ++ obsL (pre ++ post)).Perm (obsL (pre ++ (k, o) :: post)) := by
  rw [obsL_app, obsL_app, obsL_cons]
  exact (List.perm_append_comm_assoc _ _ _)
/-- One object ahead of the rest. -/
def hsF (bS b1 b2 : Nat) (sd : List (Int × Bool)) (os : List (Int × ObR)) (o : ObR) (rest : List (Int × ObR)) : List Res :=
  .blk o.b 93 [.int .u64 (o.o.h : Int), .int .i64 o.o.ow, .int .i64 o.o.mo, .map (some o.bc)] :: mvR o.bc (kmap (Value.int .i64) o.o.cs) :: .blk bS 63 [.map (some b1), .map (some b2)] :: mvR b1 (kmap Value.bool sd) :: mvR b2 (kmap obP os) :: obsL rest
theorem hs_front {bS b1 b2 : Nat} {sd : List (Int × Bool)} {os pre post : List (Int × ObR)} {k : Int} {o : ObR} (e : os = pre ++ (k, o) :: post) : (hsF bS b1 b2 sd os o (pre ++ post)).Perm (hsL ⟨bS, b1, b2, sd, os⟩) := by
  have h1 : (obL o ++ ((.blk bS 63 [.map (some b1), .map (some b2)] :: mvR b1 (kmap Value.bool sd) :: mvR b2 (kmap obP os) :: []) ++ obsL (pre ++ post))).Perm ((.blk bS 63 [.map (some b1), .map (some b2)] :: mvR b1 (kmap Value.bool sd) :: mvR b2 (kmap obP os) :: []) ++ (obL o ++ obsL (pre ++ post))) := List.perm_append_comm_assoc _ _ _
  refine List.Perm.trans h1 ?_
  have h2 := (obs_front pre post k o)
  rw [← e] at h2
  exact List.Perm.append_left _ h2
theorem St.obNe {M : List Nat} {W w : World} {o : ObR} {bS : Nat} {cs ds : List Value} {t t' : TypeId} {r : Res} {B : List Res} (h : St M W (.blk o.b t cs :: r :: .blk bS t' ds :: B) w) : o.b ≠ bS := fun e => by
  have := (List.pairwise_cons.1 h.apart).1 (.blk bS t' ds) (by simp) o.b (by simp [Res.foot])
  exact this (by simp [Res.foot, e])
theorem suf_o3 (a b c : Res) (T : List Res) : Suf T (a :: b :: c :: T) = True := by simp only [eq_iff_iff, iff_true]; intro r hr; simp [hr]
theorem suf_o4 (a b c d : Res) (T : List Res) : Suf T (a :: b :: c :: d :: T) = True := by simp only [eq_iff_iff, iff_true]; intro r hr; simp [hr]
theorem suf_o5 (a b c d e : Res) (T : List Res) : Suf T (a :: b :: c :: d :: e :: T) = True := by simp only [eq_iff_iff, iff_true]; intro r hr; simp [hr]
theorem suf_o6 (a b c d e f : Res) (T : List Res) : Suf T (a :: b :: c :: d :: e :: f :: T) = True := by simp only [eq_iff_iff, iff_true]; intro r hr; simp [hr]
theorem suf_o7 (a b c d e f g : Res) (T : List Res) : Suf T (a :: b :: c :: d :: e :: f :: g :: T) = True := by simp only [eq_iff_iff, iff_true]; intro r hr; simp [hr]
set_option maxRecDepth 100000 in
theorem sHiM1 : type_of% (And.intro (And.intro @evBox.eq_1 @wrap_in) (And.intro @Nat.mul_one @cMv)) := (And.intro (And.intro @evBox.eq_1 @wrap_in) (And.intro @Nat.mul_one @cMv))
set_option maxHeartbeats 1000000 in
theorem hStart_any (x : HsR) (p : Int) (W : World) (hst : St (feet (hsL x)) W (hsL x) W) :
    Calls Try.prog 32 #[.pointer (some ⟨x.bS, 0, none⟩), .int .i64 p] W
    fun en w' => ∃ i : Bool × HsR, en = .returned (didV i) ∧ Did x.bS (startS x.pl p) i ∧ St (feet (hsL x)) W (didL i) w' := by
  obtain ⟨M, hM⟩ : ∃ M, feet (hsL x) = M := ⟨_, rfl⟩
  rw [hM] at hst ⊢
  obtain ⟨bS, b1, b2, sd, os⟩ := x
  unfold hsL at hst
  dsimp only at hst ⊢
  clear hM
  refine calls_cv (M := M) (n := 22) [.tmp 4] rfl Try.func32 rfl rfl (Nat.le_of_ble_eq_true rfl)  hst ?_
  refine cv_seq_k fun K hK => ?_
  refine cv_region_then rfl ?_
  simp -implicitDefEqProofs (disch := first | omega | decide) only [seval, -Int.reducePow, -Nat.reducePow, cC, pv, binv, sHiM1, undef]
  refine hK _ _ ?_
  clear hK K
  refine cv_seq_k fun K hK => ?_
  refine cv_seq_k fun K hK => ?_
  refine cv_region_then rfl ?_
  simp -implicitDefEqProofs (disch := first | omega | decide) only [seval, -Int.reducePow, -Nat.reducePow, cC, pv, binv, sHiM1, undef]
  refine xv_vlook2 mvSt rfl rfl (fun w hw => hw.mvH 1 rfl) ?_
  rw [vget_kmap]
  simp -implicitDefEqProofs (disch := first | omega | decide) only [seval, -Int.reducePow, -Nat.reducePow, cC, pv, binv, sHiM1, undef]
  refine hK _ _ ?_
  clear hK K
  cases hg : kget sd p with
  | some b =>
    refine cv_seq_k fun K hK => ?_
    refine cv_region_then rfl ?_
    simp -implicitDefEqProofs (disch := first | omega | decide) only [seval, -Int.reducePow, -Nat.reducePow, cC, pv, binv, sHiM1, undef, Option.map_some, Option.isSome_some]
    refine hK _ _ ?_
    clear hK K
    refine cv_cond ?_
    simp -implicitDefEqProofs (disch := first | omega | decide) only [seval, -Int.reducePow, -Nat.reducePow, cC, pv, binv, sHiM1, undef]
    refine cv_seq_k fun K hK => ?_
    refine cv_region_then rfl ?_
    simp -implicitDefEqProofs (disch := first | omega | decide) only [seval, -Int.reducePow, -Nat.reducePow, cC, pv, binv, sHiM1, undef]
    refine hK _ _ ?_
    clear hK K
    refine cv_ret ⟨_, (by simp -implicitDefEqProofs (disch := first | omega | decide) only [seval, -Int.reducePow, -Nat.reducePow, cC, pv, binv, sHiM1, undef]; rfl), fun w hw => ?_⟩
    exact ⟨(false, ⟨bS, b1, b2, sd, os⟩), rfl, .no (by unfold startS HsR.pl; rw [hg]) rfl, hw⟩
  | none =>
    refine cv_seq_k fun K hK => ?_
    refine cv_region_then rfl ?_
    simp -implicitDefEqProofs (disch := first | omega | decide) only [seval, -Int.reducePow, -Nat.reducePow, cC, pv, binv, sHiM1, undef, Option.map_none, Option.isSome_none]
    refine hK _ _ ?_
    clear hK K
    refine cv_cond ?_
    simp -implicitDefEqProofs (disch := first | omega | decide) only [seval, -Int.reducePow, -Nat.reducePow, cC, pv, binv, sHiM1, undef]
    refine cv_skip ?_
    try simp only [blockQ, thenQ]
    refine hK _ _ ?_
    clear hK K
    refine cv_seq_k fun K hK => ?_
    refine cv_region_then rfl ?_
    simp -implicitDefEqProofs (disch := first | omega | decide) only [seval, -Int.reducePow, -Nat.reducePow, cC, pv, binv, sHiM1, undef]
    refine xu_vset 1 (y := .bool true) mvSt rfl rfl rfl rfl ?_
    rw [vset_kmap]
    simp -implicitDefEqProofs (disch := first | omega | decide) only [seval, -Int.reducePow, -Nat.reducePow, cC, pv, binv, sHiM1, undef]
    refine hK _ _ ?_
    clear hK K
    refine cv_seq_k fun K hK => ?_
    refine cv_region_then rfl ?_
    simp -implicitDefEqProofs (disch := first | omega | decide) only [seval, -Int.reducePow, -Nat.reducePow, cC, pv, binv, sHiM1, undef]
    refine hK _ _ ?_
    clear hK K
    refine cv_ret ⟨_, (by simp -implicitDefEqProofs (disch := first | omega | decide) only [seval, -Int.reducePow, -Nat.reducePow, cC, pv, binv, sHiM1, undef]; rfl), fun w hw => ?_⟩
    exact ⟨(true, ⟨bS, b1, b2, kset sd p true, os⟩), rfl, .yes (s := ⟨kset sd p true, kmap ObR.o os⟩) (by unfold startS HsR.pl; rw [hg]) rfl rfl, hw⟩
theorem hSkip_any (e : EvR) (W : World) : Calls Try.prog 31 #[evV e] W fun en w' => en = .returned (.bool (evSkip e)) ∧ Below W.heap.size W w' := by
  refine calls_cv (M := []) (n := 16) [.tmp 2] rfl Try.func31 rfl rfl (Nat.le_of_ble_eq_true rfl) (St.nil _ _) ?_
  refine cv_seq_k fun K hK => ?_
  refine cv_region_then rfl ?_
  simp -implicitDefEqProofs (disch := first | omega | decide) only [seval, -Int.reducePow, -Nat.reducePow, cC, pv, binv, sHiM1, undef, evV]
  intro b1 hb1
  refine hK _ _ ?_
  clear hK K
  refine cv_seq_k fun K hK => ?_
  refine cv_cut (fun _ _ => True) (fun F' L' => F' 2 = .bool (evSkip e) ∧ L' = [evBox b1 e]) ?_ ?_
  · refine cv_region_then rfl ?_
    simp -implicitDefEqProofs (disch := first | omega | decide) only [seval, -Int.reducePow, -Nat.reducePow, cC, pv, binv, sHiM1, undef]
    repeat' ((first | refine vcg_cases (fun hg => ?_) (fun hg => ?_) | refine vdg_cases (fun hg => ?_) (fun hg => ?_)) <;> ((try simp only [Bool.not_eq_true', Bool.not_eq_false', decide_eq_true_eq, decide_eq_false_iff_not] at hg); (try simp -implicitDefEqProofs (disch := first | omega | decide) only [seval, -Int.reducePow, -Nat.reducePow, cC, pv, binv, sHiM1, undef, hg])))
    all_goals (repeat' refine And.intro ?_ ?_)
    all_goals (first | with_reducible rfl | (refine congrArg Value.bool ?_; rw [Bool.eq_iff_iff]; (try simp only [evSkip, decide_eq_true_eq, eq_self, true_and, and_true, false_and, and_false, true_or, or_true, false_or, or_false, not_true_eq_false, not_false_eq_true, true_iff, iff_true, false_iff, iff_false, Bool.false_eq_true, Bool.not_eq_true', Bool.not_eq_true, decide_eq_false_iff_not, Bool.and_eq_true, Bool.or_eq_true]) <;> omega) | (refine congrArg (Value.int _) ?_; omega) | omega)
  intro G1 L' _ hF
  obtain ⟨q2, rfl⟩ := hF
  have g1_2 := q2
  clear q2
  have g1 := g1_2
  refine hK _ _ ?_
  clear hK K
  refine cv_ret ⟨_, (by simp -implicitDefEqProofs (disch := first | omega | decide) only [seval, -Int.reducePow, -Nat.reducePow, cC, pv, binv, sHiM1, undef, g1]; rfl), fun w hw => ?_⟩
  exact ⟨rfl, hw.below⟩
end Go.Proofs.Ytaifnipgefkemaa
/- The readers of a history's state: find, other. -/
namespace Go.Proofs.Ytaifnipgefkemaa
open Go.RowKit Go.Shelf
set_option linter.unusedVariables false
set_option linter.unusedSimpArgs false
set_option maxRecDepth 100000
def findV (x : HsR) (h : Nat) : Value := match kget x.os (slotF h) with
  | none => .pointer none
  | some o => if o.o.h = h then obP o else .pointer none
theorem slotI (h : Nat) : ((slotF h : Nat) : Int) = (slotF h : Int) := rfl
set_option maxRecDepth 100000 in
theorem sHiF1 : type_of% (And.intro (And.intro (And.intro @evBox.eq_1 @obP.eq_1) (And.intro @wrap_in (And.intro @Nat.mul_one @cMv))) (And.intro (And.intro @suf_o3 @suf_o4) (And.intro @suf_o5 (And.intro @suf_o6 @suf_o7)))) := (And.intro (And.intro (And.intro @evBox.eq_1 @obP.eq_1) (And.intro @wrap_in (And.intro @Nat.mul_one @cMv))) (And.intro (And.intro @suf_o3 @suf_o4) (And.intro @suf_o5 (And.intro @suf_o6 @suf_o7))))
set_option maxHeartbeats 1000000 in
theorem hFind_any (x : HsR) (h : Nat) (hh : h < 18446744073709551616) (W : World) (hst : St (feet (hsL x)) W (hsL x) W) :
    Calls Try.prog 48 #[.pointer (some ⟨x.bS, 0, none⟩), .int .u64 (h : Int)] W
    fun en w' => ∃ i : Unit, en = .returned (findV x h) ∧ True ∧ St (feet (hsL x)) W (hsL x) w' := by
  obtain ⟨M, hM⟩ : ∃ M, feet (hsL x) = M := ⟨_, rfl⟩
  rw [hM] at hst ⊢
  obtain ⟨bS, b1, b2, sd, os⟩ := x
  unfold findV
  dsimp only at hst ⊢
  clear hM
  cases hg : kget os (slotF h) with
  | none =>
    unfold hsL at hst
    dsimp only at hst
    refine calls_cv (M := M) (n := 24) [.tmp 4] rfl Try.func48 rfl rfl (Nat.le_of_ble_eq_true rfl)  hst ?_
    refine cv_seq_k fun K hK => ?_
    refine cv_region_then rfl ?_
    simp -implicitDefEqProofs (disch := first | omega | decide) only [seval, -Int.reducePow, -Nat.reducePow, cC, pv, binv, sHiF1, undef]
    refine hK _ _ ?_
    clear hK K
    refine cv_seq_k fun K hK => ?_
    refine cv_draw [(true, 0), (true, 1), (true, 2), (true, 3), (true, 4), (false, 5), (false, 6), (true, 7)] [] mixA rfl (by kernel_rfl) (by kernel_rfl) rfl rfl ?_
    simp -implicitDefEqProofs (disch := first | omega | decide) only [seval, -Int.reducePow, -Nat.reducePow, cC, pv, binv, sHiF1, undef]
    refine callV_ret (fun w hw => slot_any h hh w) ?_
    simp -implicitDefEqProofs (disch := first | omega | decide) only [seval, -Int.reducePow, -Nat.reducePow, cC, pv, binv, sHiF1, undef]
    refine xv_vlook1 mvOb rfl rfl (fun w hw => hw.mvH 2 rfl) ?_
    rw [vget_kmap, hg, Option.map_none, Option.getD_none]
    simp -implicitDefEqProofs (disch := first | omega | decide) only [seval, -Int.reducePow, -Nat.reducePow, cC, pv, binv, sHiF1, undef]
    refine hK _ _ ?_
    clear hK K
    refine cv_seq_k fun K hK => ?_
    refine cv_seq_k fun K hK => ?_
    refine cv_region_then rfl ?_
    simp -implicitDefEqProofs (disch := first | omega | decide) only [seval, -Int.reducePow, -Nat.reducePow, cC, pv, binv, sHiF1, undef]
    refine hK _ _ ?_
    clear hK K
    refine cv_cond ?_
    simp -implicitDefEqProofs (disch := first | omega | decide) only [seval, -Int.reducePow, -Nat.reducePow, cC, pv, binv, sHiF1, undef]
    refine cv_seq_k fun K hK => ?_
    refine cv_region_then rfl ?_
    simp -implicitDefEqProofs (disch := first | omega | decide) only [seval, -Int.reducePow, -Nat.reducePow, cC, pv, binv, sHiF1, undef]
    refine hK _ _ ?_
    clear hK K
    refine cv_ret ⟨_, (by simp -implicitDefEqProofs (disch := first | omega | decide) only [seval, -Int.reducePow, -Nat.reducePow, cC, pv, binv, sHiF1, undef]; rfl), fun w hw => ?_⟩
    first | exact ⟨(), rfl, hw⟩ | exact ⟨(), rfl, trivial, hw⟩
  | some o =>
    obtain ⟨pre, post, he, -, -, -⟩ := ksplit hg
    have hp := hs_front (bS := bS) (b1 := b1) (b2 := b2) (sd := sd) he
    have hst2 := hst.perm hp
    clear hst
    unfold hsF at hst2
    have hne := hst2.obNe
    refine calls_cv (M := M) (n := 24) [.tmp 4] rfl Try.func48 rfl rfl (Nat.le_of_ble_eq_true rfl)  hst2 ?_
    refine cv_seq_k fun K hK => ?_
    refine cv_region_then rfl ?_
    simp -implicitDefEqProofs (disch := first | omega | decide) only [seval, -Int.reducePow, -Nat.reducePow, cC, pv, binv, sHiF1, undef]
    refine hK _ _ ?_
    clear hK K
    refine cv_seq_k fun K hK => ?_
    refine cv_draw [(true, 0), (true, 1), (true, 2), (true, 3), (true, 4), (false, 5), (false, 6), (true, 7)] [] mixA rfl (by kernel_rfl) (by kernel_rfl) rfl rfl ?_
    simp -implicitDefEqProofs (disch := first | omega | decide) only [seval, -Int.reducePow, -Nat.reducePow, cC, pv, binv, sHiF1, undef]
    refine callV_ret (fun w hw => slot_any h hh w) ?_
    simp -implicitDefEqProofs (disch := first | omega | decide) only [seval, -Int.reducePow, -Nat.reducePow, cC, pv, binv, sHiF1, undef]
    refine xv_vlook1 mvOb rfl rfl (fun w hw => hw.mvH 4 rfl) ?_
    rw [vget_kmap, hg, Option.map_some, Option.getD_some]
    simp -implicitDefEqProofs (disch := first | omega | decide) only [seval, -Int.reducePow, -Nat.reducePow, cC, pv, binv, sHiF1, undef]
    refine hK _ _ ?_
    clear hK K
    dsimp only
    by_cases hc : o.o.h = h
    · rw [if_pos hc]
      subst hc
      refine cv_seq_k fun K hK => ?_
      refine cv_seq_k fun K hK => ?_
      refine cv_region_then rfl ?_
      simp -implicitDefEqProofs (disch := first | omega | decide) only [seval, -Int.reducePow, -Nat.reducePow, cC, pv, binv, sHiF1, undef]
      refine hK _ _ ?_
      clear hK K
      refine cv_cond ?_
      simp -implicitDefEqProofs (disch := first | omega | decide) only [seval, -Int.reducePow, -Nat.reducePow, cC, pv, binv, sHiF1, undef]
      refine cv_skip ?_
      try simp only [blockQ, thenQ]
      refine hK _ _ ?_
      clear hK K
      refine cv_seq_k fun K hK => ?_
      refine cv_region_then rfl ?_
      simp -implicitDefEqProofs (disch := first | omega | decide) only [seval, -Int.reducePow, -Nat.reducePow, cC, pv, binv, sHiF1, undef]
      refine hK _ _ ?_
      clear hK K
      refine cv_ret ⟨_, (by simp -implicitDefEqProofs (disch := first | omega | decide) only [seval, -Int.reducePow, -Nat.reducePow, cC, pv, binv, sHiF1, undef]; rfl), fun w hw => ?_⟩
      first | exact ⟨(), rfl, hw.perm hp.symm⟩ | exact ⟨(), rfl, trivial, hw.perm hp.symm⟩
    · rw [if_neg hc]
      have hc2 : ¬ (o.o.h : Int) = (h : Int) := by omega
      refine cv_seq_k fun K hK => ?_
      refine cv_seq_k fun K hK => ?_
      refine cv_region_then rfl ?_
      simp -implicitDefEqProofs (disch := first | omega | decide) only [seval, -Int.reducePow, -Nat.reducePow, cC, pv, binv, sHiF1, undef, hc2]
      refine hK _ _ ?_
      clear hK K
      refine cv_cond ?_
      simp -implicitDefEqProofs (disch := first | omega | decide) only [seval, -Int.reducePow, -Nat.reducePow, cC, pv, binv, sHiF1, undef]
      refine cv_seq_k fun K hK => ?_
      refine cv_region_then rfl ?_
      simp -implicitDefEqProofs (disch := first | omega | decide) only [seval, -Int.reducePow, -Nat.reducePow, cC, pv, binv, sHiF1, undef]
      refine hK _ _ ?_
      clear hK K
      refine cv_ret ⟨_, (by simp -implicitDefEqProofs (disch := first | omega | decide) only [seval, -Int.reducePow, -Nat.reducePow, cC, pv, binv, sHiF1, undef]; rfl), fun w hw => ?_⟩
      first | exact ⟨(), rfl, hw.perm hp.symm⟩ | exact ⟨(), rfl, trivial, hw.perm hp.symm⟩
def othL (x : HsR) : List Res := [.blk x.bS 63 [.map (some x.b1), .map (some x.b2)], mvR x.b1 (kmap Value.bool x.sd)]
def othV (i : Int × Bool) : Value := .tuple #[.int .i64 i.1, .bool i.2]
set_option maxHeartbeats 1000000 in
theorem hOther_any (x : HsR) (e : EvR) (he : e.ok) (W : World) (hst : St (feet (othL x)) W (othL x) W) :
    Calls Try.prog 49 #[.pointer (some ⟨x.bS, 0, none⟩), evV e] W
    fun en w' => ∃ i : Int × Bool, en = .returned (othV i) ∧ (i.2 = othP x.pl e ∧ (i.2 = true → i.1 = e.ar)) ∧ St (feet (othL x)) W (othL x) w' := by
  obtain ⟨M, hM⟩ : ∃ M, feet (othL x) = M := ⟨_, rfl⟩
  rw [hM] at hst ⊢
  obtain ⟨bS, b1, b2, sd, os⟩ := x
  unfold othL at hst ⊢
  dsimp only at hst ⊢
  clear hM
  have he2 := he.2
  refine calls_cv (M := M) (n := 26) [.tmp 4, .tmp 5] rfl Try.func49 rfl rfl (Nat.le_of_ble_eq_true rfl)  hst ?_
  refine cv_seq_k fun K hK => ?_
  refine cv_region_then rfl ?_
  simp -implicitDefEqProofs (disch := first | omega | decide) only [seval, -Int.reducePow, -Nat.reducePow, cC, pv, binv, sHiF1, undef, evV]
  intro b3 hb3 hf3
  refine hK _ _ ?_
  clear hK K
  refine cv_seq_k fun K hK => ?_
  refine cv_seq_k fun K hK => ?_
  refine cv_region_then rfl ?_
  simp -implicitDefEqProofs (disch := first | omega | decide) only [seval, -Int.reducePow, -Nat.reducePow, cC, pv, binv, sHiF1, undef]
  refine hK _ _ ?_
  clear hK K
  refine cv_cond ?_
  simp -implicitDefEqProofs (disch := first | omega | decide) only [seval, -Int.reducePow, -Nat.reducePow, cC, pv, binv, sHiF1, undef]
  refine ⟨fun hc => ?_, fun hc => ?_⟩
  · refine cv_seq_k fun K hK => ?_
    refine cv_region_then rfl ?_
    simp -implicitDefEqProofs (disch := first | omega | decide) only [seval, -Int.reducePow, -Nat.reducePow, cC, pv, binv, sHiF1, undef]
    refine hK _ _ ?_
    clear hK K
    refine cv_ret ⟨_, (by simp -implicitDefEqProofs (disch := first | omega | decide) only [seval, -Int.reducePow, -Nat.reducePow, cC, pv, binv, sHiF1, undef]; rfl), fun w hw => ?_⟩
    have hc := of_decide_eq_true hc
    refine ⟨(0, false), rfl, ⟨?_, fun h => by cases h⟩, hw.tail⟩
    unfold othP
    have : ¬ e.ar ≤ 64 := by omega
    simp [this]
  refine cv_skip ?_
  try simp only [blockQ, thenQ]
  refine hK _ _ ?_
  clear hK K
  have ha : e.ar ≤ 64 := by have hc := of_decide_eq_false hc; omega
  have hwr : IntKind.i64.wrap (e.ar : Int) = (e.ar : Int) := wrap_in (by omega) (by omega)
  refine cv_seq_k fun K hK => ?_
  refine cv_region_then rfl ?_
  simp -implicitDefEqProofs (disch := first | omega | decide) only [seval, -Int.reducePow, -Nat.reducePow, cC, pv, binv, sHiF1, undef, hwr]
  refine hK _ _ ?_
  clear hK K
  by_cases hq : (e.ar : Int) = e.pl
  · refine cv_seq_k fun K hK => ?_
    refine cv_draw [(true, 0), (true, 1), (true, 2), (true, 3), (true, 4), (true, 5), (true, 6), (true, 7), (true, 8), (true, 9), (true, 10), (true, 13), (false, 11), (true, 12), (true, 14)] [] mixA rfl (by kernel_rfl) (by kernel_rfl) rfl rfl ?_
    simp -implicitDefEqProofs (disch := first | omega | decide) only [seval, -Int.reducePow, -Nat.reducePow, cC, pv, binv, sHiF1, undef, hq]
    refine hK _ _ ?_
    clear hK K
    refine cv_ret ⟨_, (by simp -implicitDefEqProofs (disch := first | omega | decide) only [seval, -Int.reducePow, -Nat.reducePow, cC, pv, binv, sHiF1, undef]; rfl), fun w hw => ?_⟩
    refine ⟨(e.pl, false), rfl, ⟨?_, fun h => by cases h⟩, hw.tail⟩
    unfold othP
    simp [hq]
  · refine cv_seq_k fun K hK => ?_
    refine cv_draw [(true, 0), (true, 1), (true, 2), (true, 3), (true, 4), (true, 5), (true, 6), (true, 7), (true, 8), (true, 9), (true, 10), (true, 13), (false, 11), (true, 12), (true, 14)] [] mixA rfl (by kernel_rfl) (by kernel_rfl) rfl rfl ?_
    simp -implicitDefEqProofs (disch := first | omega | decide) only [seval, -Int.reducePow, -Nat.reducePow, cC, pv, binv, sHiF1, undef, hq]
    refine xv_vlook1 mvSt rfl rfl (fun w hw => hw.mvH 2 rfl) ?_
    rw [vget_kmap]
    have hal : ((kget sd (e.ar : Int)).map Value.bool).getD (.bool false) = .bool (alive (HsR.pl ⟨bS, b1, b2, sd, os⟩) e.ar) := by
      unfold alive HsR.pl
      cases kget sd (e.ar : Int) <;> rfl
    rw [hal]
    simp -implicitDefEqProofs (disch := first | omega | decide) only [seval, -Int.reducePow, -Nat.reducePow, cC, pv, binv, sHiF1, undef]
    refine hK _ _ ?_
    clear hK K
    refine cv_ret ⟨_, (by simp -implicitDefEqProofs (disch := first | omega | decide) only [seval, -Int.reducePow, -Nat.reducePow, cC, pv, binv, sHiF1, undef]; rfl), fun w hw => ?_⟩
    refine ⟨(e.ar, alive (HsR.pl ⟨bS, b1, b2, sd, os⟩) e.ar), rfl, ⟨?_, fun h => rfl⟩, hw.tail⟩
    unfold othP
    simp [hq, ha]
end Go.Proofs.Ytaifnipgefkemaa
/- The methods of a history's state that write: alloc, lend, release. -/
namespace Go.Proofs.Ytaifnipgefkemaa
open Go.RowKit Go.Shelf
set_option linter.unusedVariables false
set_option linter.unusedSimpArgs false
set_option maxRecDepth 100000
theorem kdel_kset {α : Type} (l : List (Int × α)) (k : Int) (v : α) (hn : kget l k ≠ none) : kdel (kset l k v) k = kdel l k := by
  induction l with
  | nil => exact absurd rfl hn
  | cons p l ih =>
    unfold kget at hn
    unfold kset kdel
    by_cases h : p.1 = k
    · rw [if_pos h, if_pos h]
      simp
    · rw [if_neg h] at hn
      rw [if_neg h, if_neg h]
      simp only [if_neg h, ih hn]
theorem hs_new {bS b1 b2 : Nat} {sd : List (Int × Bool)} {os : List (Int × ObR)} {k : Int} (o : ObR) (hg : kget os k = none) : (obL o ++ (.blk bS 63 [.map (some b1), .map (some b2)] :: mvR b1 (kmap Value.bool sd) :: mvR b2 (kmap obP (kset os k o)) :: obsL os)).Perm (hsL ⟨bS, b1, b2, sd, kset os k o⟩) := by
  rw [kset_new hg]
  have h1 : (obL o ++ ((.blk bS 63 [.map (some b1), .map (some b2)] :: mvR b1 (kmap Value.bool sd) :: mvR b2 (kmap obP (os ++ [(k, o)])) :: []) ++ obsL os)).Perm ((.blk bS 63 [.map (some b1), .map (some b2)] :: mvR b1 (kmap Value.bool sd) :: mvR b2 (kmap obP (os ++ [(k, o)])) :: []) ++ (obL o ++ obsL os)) := List.perm_append_comm_assoc _ _ _
  refine h1.trans ?_
  have h2 := obs_front os [] k o
  rw [List.append_nil] at h2
  exact List.Perm.append_left _ h2
theorem kmap_put {os pre post : List (Int × ObR)} {k : Int} {o o' : ObR} (he : os = pre ++ (k, o) :: post) (hb : o'.b = o.b) : kmap obP (pre ++ (k, o') :: post) = kmap obP os := by
  rw [he]
  simp [kmap, obP, hb]
theorem hs_put {bS b1 b2 : Nat} {sd : List (Int × Bool)} {os pre post : List (Int × ObR)} {k : Int} {o o' : ObR} (he : os = pre ++ (k, o) :: post) (hs : ∀ v', kset os k v' = pre ++ (k, v') :: post) (hb : o'.b = o.b) : (hsF bS b1 b2 sd os o' (pre ++ post)).Perm (hsL ⟨bS, b1, b2, sd, kset os k o'⟩) := by
  have h := hs_front (bS := bS) (b1 := b1) (b2 := b2) (sd := sd) (hs o')
  unfold hsF at h ⊢
  rw [hs o', kmap_put he hb] at h
  rw [hs o']
  exact h
theorem kmap_kset {α β : Type} (f : α → β) (l : List (Int × α)) (k : Int) (v : α) : kmap f (kset l k v) = kset (kmap f l) k (f v) := (kset_kmap f l k v).symm
set_option maxRecDepth 100000 in
theorem sHiS1 : type_of% (And.intro (And.intro (And.intro @evBox.eq_1 @obP.eq_1) (And.intro @Nat.mul_one @cMv)) (And.intro (And.intro @suf_o3 @suf_o4) (And.intro @suf_o5 (And.intro @suf_o6 @suf_o7)))) := (And.intro (And.intro (And.intro @evBox.eq_1 @obP.eq_1) (And.intro @Nat.mul_one @cMv)) (And.intro (And.intro @suf_o3 @suf_o4) (And.intro @suf_o5 (And.intro @suf_o6 @suf_o7))))
set_option maxHeartbeats 1000000 in
theorem hAlloc_any (x : HsR) (e : EvR) (he : e.ok) (W : World) (hst : St (feet (hsL x)) W (hsL x) W) :
    Calls Try.prog 34 #[.pointer (some ⟨x.bS, 0, none⟩), evV e] W
    fun en w' => ∃ i : Bool × HsR, en = .returned (didV i) ∧ Did x.bS (allocS x.pl e) i ∧ St (feet (hsL x)) W (didL i) w' := by
  obtain ⟨M, hM⟩ : ∃ M, feet (hsL x) = M := ⟨_, rfl⟩
  rw [hM] at hst ⊢
  obtain ⟨bS, b1, b2, sd, os⟩ := x
  have he1 := he.1
  unfold hsL at hst
  dsimp only at hst ⊢
  clear hM
  refine calls_cv (M := M) (n := 34) [.tmp 4] rfl Try.func34 rfl rfl (Nat.le_of_ble_eq_true rfl)  hst ?_
  refine cv_seq_k fun K hK => ?_
  refine cv_region_then rfl ?_
  simp -implicitDefEqProofs (disch := first | omega | decide) only [seval, -Int.reducePow, -Nat.reducePow, cC, pv, binv, sHiS1, undef, evV]
  intro b3 hb3 hf3
  refine hK _ _ ?_
  clear hK K
  refine cv_seq_k fun K hK => ?_
  refine cv_region_then rfl ?_
  simp -implicitDefEqProofs (disch := first | omega | decide) only [seval, -Int.reducePow, -Nat.reducePow, cC, pv, binv, sHiS1, undef]
  refine callV_ret (fun w hw => slot_any e.h he1 w) ?_
  simp -implicitDefEqProofs (disch := first | omega | decide) only [seval, -Int.reducePow, -Nat.reducePow, cC, pv, binv, sHiS1, undef]
  refine hK _ _ ?_
  clear hK K
  by_cases hv : (0 < genF e.h ∧ 0 < tagF e.h)
  case neg =>
    refine cv_seq_k fun K hK => ?_
    refine cv_seq_k fun K hK => ?_
    refine cv_region_then rfl ?_
    simp -implicitDefEqProofs (disch := first | omega | decide) only [seval, -Int.reducePow, -Nat.reducePow, cC, pv, binv, sHiS1, undef]
    refine callV_ret (fun w hw => valid_any e.h he1 w) ?_
    simp -implicitDefEqProofs (disch := first | omega | decide) only [seval, -Int.reducePow, -Nat.reducePow, cC, pv, binv, sHiS1, undef, hv]
    refine hK _ _ ?_
    clear hK K
    refine cv_cond ?_
    simp -implicitDefEqProofs (disch := first | omega | decide) only [seval, -Int.reducePow, -Nat.reducePow, cC, pv, binv, sHiS1, undef]
    refine cv_seq_k fun K hK => ?_
    refine cv_region_then rfl ?_
    simp -implicitDefEqProofs (disch := first | omega | decide) only [seval, -Int.reducePow, -Nat.reducePow, cC, pv, binv, sHiS1, undef]
    refine hK _ _ ?_
    clear hK K
    refine cv_ret ⟨_, (by simp -implicitDefEqProofs (disch := first | omega | decide) only [seval, -Int.reducePow, -Nat.reducePow, cC, pv, binv, sHiS1, undef]; rfl), fun w hw => ?_⟩
    exact ⟨(false, ⟨bS, b1, b2, sd, os⟩), rfl, .no (by unfold allocS; rw [if_neg (fun h => hv h.1)]) rfl, hw.tail⟩
  cases hg : kget os (slotF e.h) with
  | some o =>
    refine cv_seq_k fun K hK => ?_
    refine cv_seq_k fun K hK => ?_
    refine cv_region_then rfl ?_
    simp -implicitDefEqProofs (disch := first | omega | decide) only [seval, -Int.reducePow, -Nat.reducePow, cC, pv, binv, sHiS1, undef]
    refine callV_ret (fun w hw => valid_any e.h he1 w) ?_
    simp -implicitDefEqProofs (disch := first | omega | decide) only [seval, -Int.reducePow, -Nat.reducePow, cC, pv, binv, sHiS1, undef, hv]
    refine xv_vlook1 mvOb rfl rfl (fun w hw => hw.mvH 3 rfl) ?_
    rw [vget_kmap, hg, Option.map_some, Option.getD_some]
    simp -implicitDefEqProofs (disch := first | omega | decide) only [seval, -Int.reducePow, -Nat.reducePow, cC, pv, binv, sHiS1, undef]
    refine hK _ _ ?_
    clear hK K
    refine cv_cond ?_
    simp -implicitDefEqProofs (disch := first | omega | decide) only [seval, -Int.reducePow, -Nat.reducePow, cC, pv, binv, sHiS1, undef]
    refine cv_seq_k fun K hK => ?_
    refine cv_region_then rfl ?_
    simp -implicitDefEqProofs (disch := first | omega | decide) only [seval, -Int.reducePow, -Nat.reducePow, cC, pv, binv, sHiS1, undef]
    refine hK _ _ ?_
    clear hK K
    refine cv_ret ⟨_, (by simp -implicitDefEqProofs (disch := first | omega | decide) only [seval, -Int.reducePow, -Nat.reducePow, cC, pv, binv, sHiS1, undef]; rfl), fun w hw => ?_⟩
    exact ⟨(false, ⟨bS, b1, b2, sd, os⟩), rfl, .no (by unfold allocS HsR.pl; rw [if_neg]; rw [kget_kmap, hg]; simp) rfl, hw.tail⟩
  | none =>
    refine cv_seq_k fun K hK => ?_
    refine cv_seq_k fun K hK => ?_
    refine cv_region_then rfl ?_
    simp -implicitDefEqProofs (disch := first | omega | decide) only [seval, -Int.reducePow, -Nat.reducePow, cC, pv, binv, sHiS1, undef]
    refine callV_ret (fun w hw => valid_any e.h he1 w) ?_
    simp -implicitDefEqProofs (disch := first | omega | decide) only [seval, -Int.reducePow, -Nat.reducePow, cC, pv, binv, sHiS1, undef, hv]
    refine xv_vlook1 mvOb rfl rfl (fun w hw => hw.mvH 3 rfl) ?_
    rw [vget_kmap, hg, Option.map_none, Option.getD_none]
    simp -implicitDefEqProofs (disch := first | omega | decide) only [seval, -Int.reducePow, -Nat.reducePow, cC, pv, binv, sHiS1, undef]
    refine hK _ _ ?_
    clear hK K
    refine cv_cond ?_
    simp -implicitDefEqProofs (disch := first | omega | decide) only [seval, -Int.reducePow, -Nat.reducePow, cC, pv, binv, sHiS1, undef]
    refine cv_skip ?_
    try simp only [blockQ, thenQ]
    refine hK _ _ ?_
    clear hK K
    refine cv_seq_k fun K hK => ?_
    refine cv_draw [(true, 0), (true, 1), (true, 2), (true, 3), (true, 4), (true, 5), (true, 6), (true, 7), (true, 8), (false, 9), (true, 10), (false, 11), (false, 12)] [12] mixA rfl (by kernel_rfl) (by kernel_rfl) rfl rfl ?_
    simp -implicitDefEqProofs (disch := first | omega | decide) only [seval, -Int.reducePow, -Nat.reducePow, cC, pv, binv, sHiS1, undef]
    refine xv_vmk fun bm hbm hfm => ?_
    simp -implicitDefEqProofs (disch := first | omega | decide) only [seval, -Int.reducePow, -Nat.reducePow, cC, pv, binv, sHiS1, undef]
    intro bo hbo hfo
    refine xu_vset 5 (y := .pointer (some ⟨bo, 0, none⟩)) mvOb rfl rfl rfl rfl ?_
    rw [show (Value.pointer (some ⟨bo, 0, none⟩)) = obP ⟨bo, bm, ⟨e.h, e.pl, 0, []⟩⟩ from rfl, vset_kmap]
    simp -implicitDefEqProofs (disch := first | omega | decide) only [seval, -Int.reducePow, -Nat.reducePow, cC, pv, binv, sHiS1, undef]
    refine hK _ _ ?_
    clear hK K
    refine cv_seq_k fun K hK => ?_
    refine cv_region_then rfl ?_
    simp -implicitDefEqProofs (disch := first | omega | decide) only [seval, -Int.reducePow, -Nat.reducePow, cC, pv, binv, sHiS1, undef]
    refine hK _ _ ?_
    clear hK K
    refine cv_ret ⟨_, (by simp -implicitDefEqProofs (disch := first | omega | decide) only [seval, -Int.reducePow, -Nat.reducePow, cC, pv, binv, sHiS1, undef]; rfl), fun w hw => ?_⟩
    refine ⟨(true, ⟨bS, b1, b2, sd, kset os (slotF e.h) ⟨bo, bm, ⟨e.h, e.pl, 0, []⟩⟩⟩), rfl, .yes (s := ⟨sd, kset (kmap ObR.o os) (slotF e.h) ⟨e.h, e.pl, 0, []⟩⟩) (by unfold allocS HsR.pl; rw [if_pos ⟨hv, by rw [kget_kmap, hg]; rfl⟩]) (by unfold HsR.pl; rw [kmap_kset]) rfl, ?_⟩
    refine St.perm ?_ (hs_new _ hg).symm
    exact hw.sub (.cons_cons _ (.cons_cons _ (.cons _ (List.Sublist.refl _))))
def relV (i : Bool × Ob) : Value := .bool i.1
theorem vint_get (cs : List (Int × Int)) (p : Int) : ((kget cs p).map (Value.int .i64)).getD (.int .i64 0) = .int .i64 ((kget cs p).getD 0) := by cases kget cs p <;> rfl
set_option maxHeartbeats 1000000 in
theorem hRelease_any (o : ObR) (p : Int) (W : World) (hc : ∀ c ∈ o.o.cs, 0 ≤ c.2 ∧ c.2 ≤ 4611686018427387904) (hst : St (feet (obL o)) W (obL o) W) :
    Calls Try.prog 51 #[.pointer (some ⟨o.b, 0, none⟩), .int .i64 p] W
    fun en w' => ∃ i : Bool × Ob, en = .returned (relV i) ∧ (i.1 = !decide ((kget o.o.cs p).getD 0 = 0) ∧ (i.1 = true → i.2 = relO o.o p)) ∧ St (feet (obL o)) W (obL ⟨o.b, o.bc, i.2⟩) w' := by
  obtain ⟨M, hM⟩ : ∃ M, feet (obL o) = M := ⟨_, rfl⟩
  rw [hM] at hst ⊢
  obtain ⟨b, bc, o⟩ := o
  obtain ⟨h, ow, mo, cs⟩ := o
  unfold obL at hst
  dsimp only at hst hc ⊢
  clear hM
  have hr : 0 ≤ (kget cs p).getD 0 ∧ (kget cs p).getD 0 ≤ 4611686018427387904 := by
    cases hg : kget cs p with
    | none => simp
    | some c => exact hc _ (kget_mem hg)
  have hwr := wrap_in (x := (kget cs p).getD 0 - 1) (by omega) (by omega)
  refine calls_cv (M := M) (n := 31) [.tmp 4] rfl Try.func51 rfl rfl (Nat.le_of_ble_eq_true rfl)  hst ?_
  refine cv_seq_k fun K hK => ?_
  refine cv_region_then rfl ?_
  simp -implicitDefEqProofs (disch := first | omega | decide) only [seval, -Int.reducePow, -Nat.reducePow, cC, pv, binv, sHiS1, undef]
  refine hK _ _ ?_
  clear hK K
  by_cases h0 : (kget cs p).getD 0 = 0
  · refine cv_seq_k fun K hK => ?_
    refine cv_seq_k fun K hK => ?_
    refine cv_region_then rfl ?_
    simp -implicitDefEqProofs (disch := first | omega | decide) only [seval, -Int.reducePow, -Nat.reducePow, cC, pv, binv, sHiS1, undef]
    refine xv_vlook1 mvCt rfl rfl (fun w hw => hw.mvH 1 rfl) ?_
    rw [vget_kmap, vint_get]
    simp -implicitDefEqProofs (disch := first | omega | decide) only [seval, -Int.reducePow, -Nat.reducePow, cC, pv, binv, sHiS1, undef, h0]
    refine hK _ _ ?_
    clear hK K
    refine cv_cond ?_
    simp -implicitDefEqProofs (disch := first | omega | decide) only [seval, -Int.reducePow, -Nat.reducePow, cC, pv, binv, sHiS1, undef]
    refine cv_seq_k fun K hK => ?_
    refine cv_region_then rfl ?_
    simp -implicitDefEqProofs (disch := first | omega | decide) only [seval, -Int.reducePow, -Nat.reducePow, cC, pv, binv, sHiS1, undef]
    refine hK _ _ ?_
    clear hK K
    refine cv_ret ⟨_, (by simp -implicitDefEqProofs (disch := first | omega | decide) only [seval, -Int.reducePow, -Nat.reducePow, cC, pv, binv, sHiS1, undef]; rfl), fun w hw => ?_⟩
    refine ⟨(false, ⟨h, ow, mo, cs⟩), rfl, ⟨by simp [h0], fun h => by cases h⟩, hw⟩
  have hn : kget cs p ≠ none := fun e => h0 (by rw [e]; rfl)
  refine cv_seq_k fun K hK => ?_
  refine cv_seq_k fun K hK => ?_
  refine cv_region_then rfl ?_
  simp -implicitDefEqProofs (disch := first | omega | decide) only [seval, -Int.reducePow, -Nat.reducePow, cC, pv, binv, sHiS1, undef]
  refine xv_vlook1 mvCt rfl rfl (fun w hw => hw.mvH 1 rfl) ?_
  rw [vget_kmap, vint_get]
  simp -implicitDefEqProofs (disch := first | omega | decide) only [seval, -Int.reducePow, -Nat.reducePow, cC, pv, binv, sHiS1, undef, h0]
  refine hK _ _ ?_
  clear hK K
  refine cv_cond ?_
  simp -implicitDefEqProofs (disch := first | omega | decide) only [seval, -Int.reducePow, -Nat.reducePow, cC, pv, binv, sHiS1, undef]
  refine cv_skip ?_
  try simp only [blockQ, thenQ]
  refine hK _ _ ?_
  clear hK K
  refine cv_gen fun G1 hG => ?_
  have g1_0 := congrFun hG 0
  have g1_1 := congrFun hG 1
  clear hG
  try simp -implicitDefEqProofs (disch := first | omega | decide) only [seval, -Int.reducePow, -Nat.reducePow, cC, pv, binv, sHiS1, undef] at g1_0 g1_1
  have g1 := And.intro g1_0 g1_1
  refine cv_seq_k fun K hK => ?_
  refine cv_region_then rfl ?_
  simp -implicitDefEqProofs (disch := first | omega | decide) only [seval, -Int.reducePow, -Nat.reducePow, cC, pv, binv, sHiS1, undef, g1]
  refine xv_vlook1 mvCt rfl rfl (fun w hw => hw.mvH 1 rfl) ?_
  rw [vget_kmap, vint_get]
  simp -implicitDefEqProofs (disch := first | omega | decide) only [seval, -Int.reducePow, -Nat.reducePow, cC, pv, binv, sHiS1, undef, hwr, g1]
  refine xu_vset 1 (y := .int .i64 ((kget cs p).getD 0 - 1)) mvCt rfl rfl rfl rfl ?_
  rw [vset_kmap]
  simp -implicitDefEqProofs (disch := first | omega | decide) only [seval, -Int.reducePow, -Nat.reducePow, cC, pv, binv, sHiS1, undef, g1]
  refine hK _ _ ?_
  clear hK K
  refine cv_gen fun G2 hG => ?_
  have g2_0 := congrFun hG 0
  have g2_1 := congrFun hG 1
  clear hG
  try simp -implicitDefEqProofs (disch := first | omega | decide) only [seval, -Int.reducePow, -Nat.reducePow, cC, pv, binv, sHiS1, undef, g1] at g2_0 g2_1
  have g2 := And.intro g2_0 g2_1
  by_cases h1 : (kget cs p).getD 0 - 1 = 0
  · refine cv_seq_k fun K hK => ?_
    refine cv_seq_k fun K hK => ?_
    refine cv_region_then rfl ?_
    simp -implicitDefEqProofs (disch := first | omega | decide) only [seval, -Int.reducePow, -Nat.reducePow, cC, pv, binv, sHiS1, undef, g2]
    refine xv_vlook1 mvCt rfl rfl (fun w hw => hw.mvH 1 rfl) ?_
    rw [vget_kmap, vint_get, kget_kset, if_pos rfl, Option.getD_some]
    simp -implicitDefEqProofs (disch := first | omega | decide) only [seval, -Int.reducePow, -Nat.reducePow, cC, pv, binv, sHiS1, undef, h1, g2]
    refine hK _ _ ?_
    clear hK K
    refine cv_cond ?_
    simp -implicitDefEqProofs (disch := first | omega | decide) only [seval, -Int.reducePow, -Nat.reducePow, cC, pv, binv, sHiS1, undef, g2]
    refine cv_region_q rfl ?_
    simp -implicitDefEqProofs (disch := first | omega | decide) only [seval, -Int.reducePow, -Nat.reducePow, cC, pv, binv, sHiS1, undef, g2]
    refine xv_vdel 1 mvCt rfl rfl rfl ?_
    rw [vdel_kmap, kdel_kset _ _ _ hn]
    simp -implicitDefEqProofs (disch := first | omega | decide) only [seval, -Int.reducePow, -Nat.reducePow, cC, pv, binv, sHiS1, undef, g2]
    refine hK _ _ ?_
    clear hK K
    refine cv_seq_k fun K hK => ?_
    refine cv_region_then rfl ?_
    simp -implicitDefEqProofs (disch := first | omega | decide) only [seval, -Int.reducePow, -Nat.reducePow, cC, pv, binv, sHiS1, undef, g2]
    refine hK _ _ ?_
    clear hK K
    refine cv_ret ⟨_, (by simp -implicitDefEqProofs (disch := first | omega | decide) only [seval, -Int.reducePow, -Nat.reducePow, cC, pv, binv, sHiS1, undef, g2]; rfl), fun w hw => ?_⟩
    refine ⟨(true, ⟨h, ow, mo, kdel cs p⟩), rfl, ⟨by simp [h0], fun _ => by unfold relO; rw [if_pos h1]⟩, hw⟩
  refine cv_seq_k fun K hK => ?_
  refine cv_seq_k fun K hK => ?_
  refine cv_region_then rfl ?_
  simp -implicitDefEqProofs (disch := first | omega | decide) only [seval, -Int.reducePow, -Nat.reducePow, cC, pv, binv, sHiS1, undef, g2]
  refine xv_vlook1 mvCt rfl rfl (fun w hw => hw.mvH 1 rfl) ?_
  rw [vget_kmap, vint_get, kget_kset, if_pos rfl, Option.getD_some]
  simp -implicitDefEqProofs (disch := first | omega | decide) only [seval, -Int.reducePow, -Nat.reducePow, cC, pv, binv, sHiS1, undef, h1, g2]
  refine hK _ _ ?_
  clear hK K
  refine cv_cond ?_
  simp -implicitDefEqProofs (disch := first | omega | decide) only [seval, -Int.reducePow, -Nat.reducePow, cC, pv, binv, sHiS1, undef, g2]
  refine cv_skip ?_
  try simp only [blockQ, thenQ]
  refine hK _ _ ?_
  clear hK K
  refine cv_seq_k fun K hK => ?_
  refine cv_region_then rfl ?_
  simp -implicitDefEqProofs (disch := first | omega | decide) only [seval, -Int.reducePow, -Nat.reducePow, cC, pv, binv, sHiS1, undef, g2]
  refine hK _ _ ?_
  clear hK K
  refine cv_ret ⟨_, (by simp -implicitDefEqProofs (disch := first | omega | decide) only [seval, -Int.reducePow, -Nat.reducePow, cC, pv, binv, sHiS1, undef, g2]; rfl), fun w hw => ?_⟩
  refine ⟨(true, ⟨h, ow, mo, kset cs p ((kget cs p).getD 0 - 1)⟩), rfl, ⟨by simp [h0], fun _ => by unfold relO; rw [if_neg h1]⟩, hw⟩
set_option maxHeartbeats 2000000 in
theorem hLend_any (x : HsR) (o : ObR) (e : EvR) (m : Int) (he : e.ok) (W : World) (hc : ∀ c ∈ o.o.cs, 0 ≤ c.2 ∧ c.2 ≤ 4611686018427387904) (hst : St (feet (obL o ++ othL x)) W (obL o ++ othL x) W) :
    Calls Try.prog 50 #[.pointer (some ⟨x.bS, 0, none⟩), .pointer (some ⟨o.b, 0, none⟩), evV e, .int .i64 m] W
    fun en w' => ∃ i : Bool × Ob, en = .returned (relV i) ∧ (i.1 = lendB x.pl e o.o m ∧ (i.1 = true → i.2 = lendO o.o e.ar m)) ∧ St (feet (obL o ++ othL x)) W (obL ⟨o.b, o.bc, i.2⟩ ++ othL x) w' := by
  obtain ⟨M, hM⟩ : ∃ M, feet (obL o ++ othL x) = M := ⟨_, rfl⟩
  rw [hM] at hst ⊢
  obtain ⟨bS, b1, b2, sd, os⟩ := x
  obtain ⟨b, bc, o⟩ := o
  obtain ⟨h, ow, mo, cs⟩ := o
  unfold obL othL at hst ⊢
  dsimp only at hst hc ⊢
  clear hM
  have hne : b ≠ bS := St.obNe (o := ⟨b, bc, ⟨h, ow, mo, cs⟩⟩) hst
  have hr : 0 ≤ (kget cs e.ar).getD 0 ∧ (kget cs e.ar).getD 0 ≤ 4611686018427387904 := by
    cases hg : kget cs e.ar with
    | none => simp
    | some c => exact hc _ (kget_mem hg)
  have hwr := wrap_in (x := (kget cs e.ar).getD 0 + 1) (by omega) (by omega)
  refine calls_cv (M := M) (n := 60) [.tmp 8] rfl Try.func50 rfl rfl (Nat.le_of_ble_eq_true rfl)  hst ?_
  refine cv_seq_k fun K hK => ?_
  refine cv_region_then rfl ?_
  simp -implicitDefEqProofs (disch := first | omega | decide) only [seval, -Int.reducePow, -Nat.reducePow, cC, pv, binv, sHiS1, undef, evV]
  intro b6 hb6 hf6
  refine hK _ _ ?_
  clear hK K
  refine cv_seq_k fun K hK => ?_
  refine cv_region_then rfl ?_
  simp -implicitDefEqProofs (disch := first | omega | decide) only [seval, -Int.reducePow, -Nat.reducePow, cC, pv, binv, sHiS1, undef]
  refine callV_rd (othL ⟨bS, b1, b2, sd, os⟩) (.cons _ (.cons _ (.cons _ (List.Sublist.refl _)))) othV _ (fun w hw => hOther_any ⟨bS, b1, b2, sd, os⟩ e he w hw) ?_
  rintro ⟨q, ok⟩ ⟨hok, hq⟩
  dsimp only at hok hq
  simp -implicitDefEqProofs (disch := first | omega | decide) only [seval, -Int.reducePow, -Nat.reducePow, cC, pv, binv, sHiS1, undef, othV]
  refine hK _ _ ?_
  clear hK K
  refine cv_gen fun G3 hG => ?_
  have g3_1 := congrFun hG 1
  have g3_3 := congrFun hG 3
  have g3_6 := congrFun hG 6
  have g3_9 := congrFun hG 9
  have g3_10 := congrFun hG 10
  clear hG
  try simp -implicitDefEqProofs (disch := first | omega | decide) only [seval, -Int.reducePow, -Nat.reducePow, cC, pv, binv, sHiS1, undef] at g3_1 g3_3 g3_6 g3_9 g3_10
  have g3 := And.intro g3_1 (And.intro g3_3 (And.intro g3_6 (And.intro g3_9 g3_10)))
  refine cv_seq_k fun K hK => ?_
  refine cv_region_then rfl ?_
  simp -implicitDefEqProofs (disch := first | omega | decide) only [seval, -Int.reducePow, -Nat.reducePow, cC, pv, binv, sHiS1, undef, g3]
  refine xv_vlen mvCt rfl (fun w hw => hw.mvH 2 rfl) ?_
  rw [len_kmap]
  have hlen : decide (0 < (cs.length : Int)) = !decide (cs = []) := by cases cs <;> simp
  simp -implicitDefEqProofs (disch := first | omega | decide) only [seval, -Int.reducePow, -Nat.reducePow, cC, pv, binv, sHiS1, undef, hlen, g3]
  refine hK _ _ ?_
  clear hK K
  refine cv_gen fun G4 hG => ?_
  have g4_1 := congrFun hG 1
  have g4_3 := congrFun hG 3
  have g4_6 := congrFun hG 6
  have g4_9 := congrFun hG 9
  have g4_10 := congrFun hG 10
  have g4_11 := congrFun hG 11
  clear hG
  try simp -implicitDefEqProofs (disch := first | omega | decide) only [seval, -Int.reducePow, -Nat.reducePow, cC, pv, binv, sHiS1, undef, g3] at g4_1 g4_3 g4_6 g4_9 g4_10 g4_11
  have g4 := And.intro g4_1 (And.intro g4_3 (And.intro g4_6 (And.intro g4_9 (And.intro g4_10 g4_11))))
  have hB : lendB (HsR.pl ⟨bS, b1, b2, sd, os⟩) e ⟨h, ow, mo, cs⟩ m = (ok && decide (ow = e.pl) && (decide (cs = []) || (!decide (m = 2) && !decide (mo = 2)))) := by unfold lendB; rw [hok]
  refine cv_seq_k fun K hK => ?_
  refine cv_seq_k fun K hK => ?_
  refine cv_cut (fun _ _ => True) (fun F' L' => F' 1 = G4 1 ∧ F' 3 = G4 3 ∧ F' 9 = G4 9 ∧ F' 48 = .bool (!lendB (HsR.pl ⟨bS, b1, b2, sd, os⟩) e ⟨h, ow, mo, cs⟩ m) ∧ L' = [evBox b6 e, .blk b 93 [.int .u64 (h : Int), .int .i64 ow, .int .i64 mo, .map (some bc)], mvR bc (kmap (Value.int .i64) cs), .blk bS 63 [.map (some b1), .map (some b2)], mvR b1 (kmap Value.bool sd)]) ?_ ?_
  · rw [hB]
    refine cv_draw [(true, 0), (true, 1), (true, 2), (true, 3), (true, 4), (true, 5), (true, 6), (true, 7), (true, 8), (true, 9), (true, 10), (true, 11), (true, 12), (true, 13), (true, 14), (true, 15), (true, 16), (true, 17), (true, 18), (true, 19), (true, 20), (true, 21), (true, 22), (true, 23), (true, 24)] [] mixA rfl (by kernel_rfl) (by kernel_rfl) rfl rfl ?_
    simp -implicitDefEqProofs (disch := first | omega | decide) only [seval, -Int.reducePow, -Nat.reducePow, cC, pv, binv, sHiS1, undef, g4]
    repeat' ((first | refine vcg_cases (fun hg => ?_) (fun hg => ?_) | refine vdg_cases (fun hg => ?_) (fun hg => ?_)) <;> ((try simp only [Bool.not_eq_true', Bool.not_eq_false', decide_eq_true_eq, decide_eq_false_iff_not] at hg); (try simp -implicitDefEqProofs (disch := first | omega | decide) only [seval, -Int.reducePow, -Nat.reducePow, cC, pv, binv, sHiS1, undef, hg, g4])))
    all_goals (repeat' refine And.intro ?_ ?_)
    all_goals first | with_reducible rfl | (clear hB hlen g3 g4; simp_all; done) | skip

  intro G5 L' _ hF
  obtain ⟨q1, q3, q9, q48, rfl⟩ := hF
  have g5_1 := q1.trans g4_1
  have g5_3 := q3.trans g4_3
  have g5_9 := q9.trans g4_9
  have g5_48 := q48
  clear q1 q3 q9 q48
  have g5 := And.intro g5_1 (And.intro g5_3 (And.intro g5_9 g5_48))
  refine hK _ _ ?_
  clear hK K
  refine cv_cond ?_
  simp -implicitDefEqProofs (disch := first | omega | decide) only [seval, -Int.reducePow, -Nat.reducePow, cC, pv, binv, sHiS1, undef, g5]
  refine ⟨fun hc2 => ?_, fun hc2 => ?_⟩
  · refine cv_seq_k fun K hK => ?_
    refine cv_region_then rfl ?_
    simp -implicitDefEqProofs (disch := first | omega | decide) only [seval, -Int.reducePow, -Nat.reducePow, cC, pv, binv, sHiS1, undef, g5]
    refine hK _ _ ?_
    clear hK K
    refine cv_ret ⟨_, (by simp -implicitDefEqProofs (disch := first | omega | decide) only [seval, -Int.reducePow, -Nat.reducePow, cC, pv, binv, sHiS1, undef, g5]; rfl), fun w hw => ?_⟩
    refine ⟨(false, ⟨h, ow, mo, cs⟩), rfl, ⟨by simpa using hc2, fun h => by cases h⟩, hw.tail⟩
  refine cv_skip ?_
  try simp only [blockQ, thenQ]
  refine hK _ _ ?_
  clear hK K
  have hlb : lendB (HsR.pl ⟨bS, b1, b2, sd, os⟩) e ⟨h, ow, mo, cs⟩ m = true := by simpa using hc2
  have hqa : q = e.ar := hq (by rw [hB] at hlb; simp only [Bool.and_eq_true] at hlb; exact hlb.1.1)
  subst hqa
  refine cv_seq_k fun K hK => ?_
  refine cv_region_then rfl ?_
  simp -implicitDefEqProofs (disch := first | omega | decide) only [seval, -Int.reducePow, -Nat.reducePow, cC, pv, binv, sHiS1, undef, g5]
  refine hK _ _ ?_
  clear hK K
  refine cv_gen fun G6 hG => ?_
  have g6_1 := congrFun hG 1
  have g6_9 := congrFun hG 9
  clear hG
  try simp -implicitDefEqProofs (disch := first | omega | decide) only [seval, -Int.reducePow, -Nat.reducePow, cC, pv, binv, sHiS1, undef, g5] at g6_1 g6_9
  have g6 := And.intro g6_1 g6_9
  refine cv_seq_k fun K hK => ?_
  refine cv_region_then rfl ?_
  simp -implicitDefEqProofs (disch := first | omega | decide) only [seval, -Int.reducePow, -Nat.reducePow, cC, pv, binv, sHiS1, undef, g6]
  refine xv_vlook1 mvCt rfl rfl (fun w hw => hw.mvH 2 rfl) ?_
  rw [vget_kmap, vint_get]
  simp -implicitDefEqProofs (disch := first | omega | decide) only [seval, -Int.reducePow, -Nat.reducePow, cC, pv, binv, sHiS1, undef, hwr, g6]
  refine xu_vset 2 (y := .int .i64 ((kget cs e.ar).getD 0 + 1)) mvCt rfl rfl rfl rfl ?_
  rw [vset_kmap]
  simp -implicitDefEqProofs (disch := first | omega | decide) only [seval, -Int.reducePow, -Nat.reducePow, cC, pv, binv, sHiS1, undef, g6]
  refine hK _ _ ?_
  clear hK K
  refine cv_seq_k fun K hK => ?_
  refine cv_region_then rfl ?_
  simp -implicitDefEqProofs (disch := first | omega | decide) only [seval, -Int.reducePow, -Nat.reducePow, cC, pv, binv, sHiS1, undef, g6]
  refine hK _ _ ?_
  clear hK K
  refine cv_ret ⟨_, (by simp -implicitDefEqProofs (disch := first | omega | decide) only [seval, -Int.reducePow, -Nat.reducePow, cC, pv, binv, sHiS1, undef, g6]; rfl), fun w hw => ?_⟩
  refine ⟨(true, lendO ⟨h, ow, mo, cs⟩ e.ar m), rfl, ⟨hlb.symm, fun _ => rfl⟩, hw.tail⟩
end Go.Proofs.Ytaifnipgefkemaa
/- The end of a plugin: a range over the map of objects. -/
namespace Go.Proofs.Ytaifnipgefkemaa
open Go.RowKit Go.Shelf
set_option linter.unusedVariables false
set_option linter.unusedSimpArgs false
set_option maxRecDepth 100000
section
variable {P : Program} {M : List Nat} {W w : World} {L : List Res} {n : Nat} {F : Fr} {Q : Exit → Fr → List Res → Prop}
theorem least_of {ι : Type} (p : ι → Prop) (μ : ι → Nat) : ∀ (m : Nat) (i : ι), μ i = m → p i → ∃ i, p i ∧ ∀ j, p j → μ i ≤ μ j := by
  intro m
  induction m using Nat.strongRecOn with
  | _ m ih =>
    intro i hm hi
    by_cases h : ∃ j, p j ∧ μ j < m
    · obtain ⟨j, hj, hlt⟩ := h
      exact ih (μ j) hlt j rfl hj
    · exact ⟨i, hi, fun j hj => Decidable.byContradiction fun hn => h ⟨j, hj, by omega⟩⟩
/-- A loop with a ghost that grows less. -/
theorem cv_loopG {ι : Type} {c : Code} (I : ι → Fr → List Res → Prop) (μ : ι → Nat) (i0 : ι) (h₀ : I i0 F L)
    (round : ∀ i F' L', I i F' L' → CV P M W n c F' L' (thenQ (fun F'' L'' => ∃ j, I j F'' L'' ∧ μ j < μ i) Q)) : CV P M W n (.loop c) F L Q := by
  classical
  have hl : ∀ F' L', (∃ i, I i F' L') → ∃ i, I i F' L' ∧ ∀ j, I j F' L' → μ i ≤ μ j := fun F' L' ⟨i, hi⟩ => least_of (fun i => I i F' L') μ _ i rfl hi
  refine cv_loop (fun F' L' => ∃ i, I i F' L') (fun F' L' => if h : ∃ i, I i F' L' then μ (Classical.choose (hl F' L' h)) else 0) ⟨i0, h₀⟩ fun F' L' h => ?_
  have hs := Classical.choose_spec (hl F' L' h)
  refine (round _ F' L' hs.1).mono fun e F'' L'' hh => ?_
  cases e with
  | normal =>
    obtain ⟨j, hj, hlt⟩ := hh
    have hx : ∃ i, I i F'' L'' := ⟨j, hj⟩
    refine ⟨hx, ?_⟩
    show (if h : ∃ i, I i F'' L'' then μ (Classical.choose (hl F'' L'' h)) else 0) < (if h : ∃ i, I i F' L' then μ (Classical.choose (hl F' L' h)) else 0)
    rw [dif_pos hx, dif_pos h]
    exact Nat.lt_of_le_of_lt ((Classical.choose_spec (hl F'' L'' hx)).2 j hj) hlt
  | exit id => exact hh
  | goto l => exact hh
  | ret => exact hh
  | panic ch => exact hh
  | outgrown => exact hh
theorem St.bNe (hw : St M W L w) (i j : Nat) {b b' : Nat} {t t' : TypeId} {cs cs' : List Value} (hi : nth L i = some (.blk b t cs)) (hj : nth L j = some (.blk b' t' cs')) (hne : i ≠ j) : b ≠ b' := fun e => by
  have := nth_apart hw.apart hi hj hne b (by simp [Res.foot])
  exact this (by simp [Res.foot, e])
theorem obs_head (H : List Res) (pre post : List (Int × ObR)) (k : Int) (o : ObR) : (obL o ++ (H ++ obsL (pre ++ post))).Perm (H ++ obsL (pre ++ (k, o) :: post)) :=
  (List.perm_append_comm_assoc _ _ _).trans (List.Perm.append_left _ (obs_front pre post k o))
end
/-! ## The list in the midst of the range -/
def endQ (p : Int) (q : Int × ObR) : Option (Int × ObR) := if q.2.o.ow = p then none else some (q.1, ⟨q.2.b, q.2.bc, { q.2.o with cs := kdel q.2.o.cs p }⟩)
def endC (p : Int) (dn : List Int) (os : List (Int × ObR)) : List (Int × ObR) := os.filterMap fun q => if q.1 ∈ dn then endQ p q else some q
def endK (p : Int) (dn : List Int) (os : List (Int × ObR)) : Nat := (os.filter fun q => decide (q.1 ∈ dn ∧ q.2.o.ow = p)).length
theorem endC_nil (p : Int) (os : List (Int × ObR)) : endC p [] os = os := by
  unfold endC
  simp
theorem endK_nil (p : Int) (os : List (Int × ObR)) : endK p [] os = 0 := by
  unfold endK
  simp
theorem endC_app (p : Int) (dn : List Int) (a b : List (Int × ObR)) : endC p dn (a ++ b) = endC p dn a ++ endC p dn b := by simp [endC]
theorem endC_not {p : Int} {dn : List Int} {k : Int} {a : List (Int × ObR)} (h : k ∉ keys a) : endC p (k :: dn) a = endC p dn a := by
  unfold endC
  induction a with
  | nil => rfl
  | cons q a ih =>
    simp only [keys, List.map_cons, List.mem_cons, not_or] at h
    have hq : ¬ q.1 = k := fun e => h.1 e.symm
    have ih2 := ih h.2
    simp only [List.mem_cons] at ih2
    simp only [List.filterMap_cons, List.mem_cons, hq, false_or, ih2]
theorem endK_app (p : Int) (dn : List Int) (a b : List (Int × ObR)) : endK p dn (a ++ b) = endK p dn a + endK p dn b := by simp [endK]
theorem endK_not {p : Int} {dn : List Int} {k : Int} {a : List (Int × ObR)} (h : k ∉ keys a) : endK p (k :: dn) a = endK p dn a := by
  unfold endK
  refine congrArg List.length (List.filter_congr fun q hq => ?_)
  have : ¬ q.1 = k := fun e => h (e ▸ List.mem_map.2 ⟨q, hq, rfl⟩)
  simp [this]
theorem endC_keys {p : Int} {dn : List Int} {a : List (Int × ObR)} {k : Int} (h : k ∈ keys (endC p dn a)) : k ∈ keys a := by
  obtain ⟨q, hq, rfl⟩ := List.mem_map.1 h
  obtain ⟨q0, h0, h1⟩ := List.mem_filterMap.1 hq
  refine List.mem_map.2 ⟨q0, h0, ?_⟩
  unfold endQ at h1
  split at h1
  · split at h1
    · cases h1
    · injection h1 with h1; rw [← h1]
  · injection h1 with h1; rw [h1]
theorem endC_mem {p : Int} {dn : List Int} {a : List (Int × ObR)} {q : Int × ObR} (h : q ∈ endC p dn a) (hd : q.1 ∉ dn) : q ∈ a := by
  obtain ⟨q0, h0, h1⟩ := List.mem_filterMap.1 h
  unfold endQ at h1
  split at h1
  · split at h1
    · cases h1
    · injection h1 with h1
      subst h1
      exact absurd ‹_› hd
  · injection h1 with h1
    exact h1 ▸ h0
theorem endC_all {p : Int} {dn : List Int} {a : List (Int × ObR)} (h : ∀ q ∈ kmap obP (endC p dn a), q.1 ∈ dn) : (∀ q ∈ a, q.1 ∈ dn) := fun q hq => Decidable.byContradiction fun hn => by
  have h1 : q ∈ endC p dn a := List.mem_filterMap.2 ⟨q, hq, by rw [if_neg hn]⟩
  exact hn (h (q.1, obP q.2) (List.mem_map.2 ⟨q, h1, rfl⟩))
theorem endC_end {p : Int} {dn : List Int} {a : List (Int × ObR)} (h : ∀ q ∈ a, q.1 ∈ dn) : kmap ObR.o (endC p dn a) = endO p (kmap ObR.o a) ∧ endK p dn a = endN p (kmap ObR.o a) := by
  induction a with
  | nil => exact ⟨rfl, rfl⟩
  | cons q a ih =>
    obtain ⟨h1, h2⟩ := ih fun r hr => h r (List.mem_cons_of_mem _ hr)
    have hq := h q (.head _)
    simp only [endC, endK, endO, endN, kmap, endQ, List.filterMap_cons, List.filter_cons, List.map_cons, if_pos hq, hq, true_and] at h1 h2 ⊢
    by_cases hp : q.2.o.ow = p
    · simp only [hp, if_true, not_true_eq_false, decide_false, decide_true, Bool.false_eq_true, if_false]
      exact ⟨h1, by simp only [List.length_cons]; rw [h2]⟩
    · simp only [hp, if_false, not_false_eq_true, decide_false, decide_true, Bool.false_eq_true, if_true, List.map_cons]
      exact ⟨by rw [h1], h2⟩
theorem nodup_mid {α : Type} {A B : List (Int × α)} {k : Int} {o : α} (h : (keys (A ++ (k, o) :: B)).Nodup) : k ∉ keys A ∧ k ∉ keys B := by
  simp only [keys, List.map_append, List.map_cons] at h ⊢
  obtain ⟨h1, h2, h3⟩ := List.nodup_append.1 h
  exact ⟨fun hm => h3 k hm k (.head _) rfl, (List.nodup_cons.1 h2).1⟩
theorem kdel_mid {α : Type} {A B : List (Int × α)} {k : Int} {o : α} (h : k ∉ keys A) : kdel (A ++ (k, o) :: B) k = A ++ B := by
  induction A with
  | nil => simp [kdel]
  | cons q A ih =>
    simp only [keys, List.map_cons, List.mem_cons, not_or] at h
    rw [List.cons_append, kdel, if_neg (fun e => h.1 e.symm), ih h.2]
    rfl
/-- How many are left. -/
def leftK (dn : List Int) (os : List (Int × ObR)) : Nat := (os.filter fun q => decide (¬ q.1 ∈ dn)).length
theorem leftK_lt {dn : List Int} {A B : List (Int × ObR)} {k : Int} {o : ObR} (hk : k ∉ dn) : leftK (k :: dn) (A ++ (k, o) :: B) < leftK dn (A ++ (k, o) :: B) := by
  unfold leftK
  have hle : ∀ a : List (Int × ObR), (a.filter fun q => decide (¬ q.1 ∈ k :: dn)).length ≤ (a.filter fun q => decide (¬ q.1 ∈ dn)).length := by
    intro a
    induction a with
    | nil => simp
    | cons q a ih =>
      simp only [List.filter_cons, List.mem_cons, not_or]
      by_cases h1 : q.1 ∈ dn
      · simp [h1]
        simpa using ih
      · by_cases h2 : q.1 = k
        · simp [h2, hk]
          have := ih
          simp at this
          omega
        · simp [h1, h2]
          simpa using ih
  have h1 := hle A
  have h2 := hle B
  simp only [List.filter_append, List.length_append, List.filter_cons, List.mem_cons, true_or, not_true_eq_false, decide_false, Bool.false_eq_true, if_false, hk, not_false_eq_true, decide_true, if_true, List.length_cons] at h1 h2 ⊢
  omega
set_option maxRecDepth 100000 in
theorem sHiE1 : type_of% (And.intro (And.intro (And.intro @evBox.eq_1 @obP.eq_1) (And.intro @Nat.mul_one (And.intro @cMv @cRg))) (And.intro (And.intro @suf_o3 @suf_o4) (And.intro @suf_o5 (And.intro @suf_o6 @suf_o7)))) := (And.intro (And.intro (And.intro @evBox.eq_1 @obP.eq_1) (And.intro @Nat.mul_one (And.intro @cMv @cRg))) (And.intro (And.intro @suf_o3 @suf_o4) (And.intro @suf_o5 (And.intro @suf_o6 @suf_o7))))
theorem wrap_u64 {x : Int} (h1 : 0 ≤ x) (h2 : x < 18446744073709551616) : IntKind.u64.wrap x = x := by rw [IntKind.wrap_u64]; omega
set_option maxHeartbeats 2000000 in
theorem hEnd_any (x : HsR) (e : EvR) (k : Nat) (hI : HInv k x.pl) (hk : k ≤ 1000000) (he : e.ok) (W : World) (hst : St (feet (hsL x)) W (hsL x) W) :
    Calls Try.prog 33 #[.pointer (some ⟨x.bS, 0, none⟩), evV e] W
    fun en w' => ∃ i : Bool × HsR, en = .returned (didV i) ∧ Did x.bS (endS x.pl e) i ∧ St (feet (hsL x)) W (didL i) w' := by
  obtain ⟨M, hM⟩ : ∃ M, feet (hsL x) = M := ⟨_, rfl⟩
  rw [hM] at hst ⊢
  have hnd := hI.nd
  have hln := hI.len
  obtain ⟨bS, b1, b2, sd, os⟩ := x
  have hnd : (keys os).Nodup := by have := hnd; unfold HsR.pl at this; rw [keys_kmap] at this; exact this
  have hln : os.length ≤ k := by have := hln; unfold HsR.pl at this; rw [len_kmap] at this; exact this
  unfold hsL at hst
  dsimp only at hst ⊢
  clear hM
  refine calls_cv (M := M) (n := 48) [.tmp 4] rfl Try.func33 rfl rfl (Nat.le_of_ble_eq_true rfl)  hst ?_
  refine cv_seq_k fun K hK => ?_
  refine cv_region_then rfl ?_
  simp -implicitDefEqProofs (disch := first | omega | decide) only [seval, -Int.reducePow, -Nat.reducePow, cC, pv, binv, sHiE1, undef, evV]
  intro b3 hb3 hf3
  refine hK _ _ ?_
  clear hK K
  refine cv_seq_k fun K hK => ?_
  refine cv_region_then rfl ?_
  simp -implicitDefEqProofs (disch := first | omega | decide) only [seval, -Int.reducePow, -Nat.reducePow, cC, pv, binv, sHiE1, undef]
  refine hK _ _ ?_
  clear hK K
  refine cv_seq_k fun K hK => ?_
  refine cv_seq_k fun K hK => ?_
  refine cv_region_then rfl ?_
  simp -implicitDefEqProofs (disch := first | omega | decide) only [seval, -Int.reducePow, -Nat.reducePow, cC, pv, binv, sHiE1, undef]
  refine xv_vrange 3 mvOb rfl rfl fun r hr hfr => ?_
  simp -implicitDefEqProofs (disch := first | omega | decide) only [seval, -Int.reducePow, -Nat.reducePow, cC, pv, binv, sHiE1, undef]
  refine hK _ _ ?_
  clear hK K
  refine cv_gen fun G1 hG => ?_
  have g1_0 := congrFun hG 0
  have g1_3 := congrFun hG 3
  have g1_5 := congrFun hG 5
  have g1_12 := congrFun hG 12
  clear hG
  try simp -implicitDefEqProofs (disch := first | omega | decide) only [seval, -Int.reducePow, -Nat.reducePow, cC, pv, binv, sHiE1, undef] at g1_0 g1_3 g1_5 g1_12
  have g1 := And.intro g1_0 (And.intro g1_3 (And.intro g1_5 g1_12))
  refine cv_block ?_
  refine cv_loopG (fun (dn : List Int) F' L' => ∃ (la : Option Int), F' 0 = G1 0 ∧ F' 3 = G1 3 ∧ F' 5 = .int .u64 (endK e.pl dn os : Int) ∧ F' 12 = G1 12 ∧ L' = rgR b2 r (kmap obP (endC e.pl dn os)) dn la :: evBox b3 e :: .blk bS 63 [.map (some b1), .map (some b2)] :: mvR b1 (kmap Value.bool sd) :: obsL (endC e.pl dn os)) (fun (dn : List Int) => leftK dn os) ([]) ?_ ?_
  · refine ⟨none, ?_⟩
    rw [endK_nil, endC_nil]
    simp -implicitDefEqProofs (disch := first | omega | decide) only [seval, -Int.reducePow, -Nat.reducePow, cC, pv, binv, sHiE1, undef, g1]
  intro dn G2 L' hI
  obtain ⟨la, q0, q3, q5, q12, rfl⟩ := hI
  have g2_0 := q0.trans g1_0
  have g2_3 := q3.trans g1_3
  have g2_5 := q5
  have g2_12 := q12.trans g1_12
  clear q0 q3 q5 q12
  have g2 := And.intro g2_0 (And.intro g2_3 (And.intro g2_5 g2_12))
  refine cv_seq_k fun K hK => ?_
  refine cv_region_then rfl ?_
  simp -implicitDefEqProofs (disch := first | omega | decide) only [seval, -Int.reducePow, -Nat.reducePow, cC, pv, binv, sHiE1, undef, g1, g2]
  refine xv_vnext (b := b2) (r := r) (l := kmap obP (endC e.pl dn os)) (dn := dn) (la := la) 0 (by simp -implicitDefEqProofs (disch := first | omega | decide) only [seval, -Int.reducePow, -Nat.reducePow, cC, pv, binv, sHiE1, undef, g1, g2]) rfl ?_ ?_
  · intro hall
    simp -implicitDefEqProofs (disch := first | omega | decide) only [seval, -Int.reducePow, -Nat.reducePow, cC, pv, binv, sHiE1, undef, g1, g2]
    refine hK _ _ ?_
    clear hK K
    refine cv_seq_k fun K hK => ?_
    refine cv_cond ?_
    simp -implicitDefEqProofs (disch := first | omega | decide) only [seval, -Int.reducePow, -Nat.reducePow, cC, pv, binv, sHiE1, undef, g1, g2]
    refine cv_exit ?_
    simp only [blockQ, thenQ, if_true, ite_true]
    clear hK K
    refine hK _ _ ?_
    clear hK K
    have hd := endC_all hall
    obtain ⟨e1, e2⟩ := endC_end (p := e.pl) hd
    have hen : endK e.pl dn os < 18446744073709551616 := by
      have : endK e.pl dn os ≤ os.length := List.length_filter_le _ _
      omega
    refine cv_sub (mvR b2 (kmap obP (endC e.pl dn os)) :: evBox b3 e :: .blk bS 63 [.map (some b1), .map (some b2)] :: mvR b1 (kmap Value.bool sd) :: obsL (endC e.pl dn os)) (fun w hw => hw.rgEnd (k := 0) rfl) ?_
    refine cv_seq_k fun K hK => ?_
    refine cv_draw [(true, 0), (true, 1), (true, 2), (true, 3), (true, 4), (true, 5), (false, 6)] [6] mixA rfl (by kernel_rfl) (by kernel_rfl) rfl rfl ?_
    simp -implicitDefEqProofs (disch := first | omega | decide) only [seval, -Int.reducePow, -Nat.reducePow, cC, pv, binv, sHiE1, undef, g1, g2]
    refine xu_vset 3 (y := .bool false) mvSt rfl rfl rfl rfl ?_
    rw [vset_kmap]
    simp -implicitDefEqProofs (disch := first | omega | decide) only [seval, -Int.reducePow, -Nat.reducePow, cC, pv, binv, sHiE1, undef, g1, g2]
    refine hK _ _ ?_
    clear hK K
    refine cv_seq_k fun K hK => ?_
    refine cv_region_then rfl ?_
    simp -implicitDefEqProofs (disch := first | omega | decide) only [seval, -Int.reducePow, -Nat.reducePow, cC, pv, binv, sHiE1, undef, g1, g2]
    refine hK _ _ ?_
    clear hK K
    refine cv_ret ⟨_, (by simp -implicitDefEqProofs (disch := first | omega | decide) only [seval, -Int.reducePow, -Nat.reducePow, cC, pv, binv, sHiE1, undef, g1, g2]; rfl), fun w hw => ?_⟩
    have hpl : HsR.pl ⟨bS, b1, b2, kset sd e.pl false, endC e.pl dn os⟩ = ⟨kset sd e.pl false, endO e.pl (kmap ObR.o os)⟩ := by unfold HsR.pl; rw [e1]
    have hperm : St M W (hsL ⟨bS, b1, b2, kset sd e.pl false, endC e.pl dn os⟩) w := (hw.sub (.cons_cons _ (.cons _ (List.Sublist.refl _)))).perm (List.perm_middle (l₁ := [_, _]))
    by_cases hn : endN e.pl (kmap ObR.o os) = e.ar
    · refine ⟨(true, ⟨bS, b1, b2, kset sd e.pl false, endC e.pl dn os⟩), ?_, .yes (s := ⟨kset sd e.pl false, endO e.pl (kmap ObR.o os)⟩) (by unfold endS; exact if_pos hn) hpl rfl, hperm⟩
      refine congrArg Ending.returned (congrArg Value.bool ?_)
      simp [e2, hn]
    · refine ⟨(false, ⟨bS, b1, b2, kset sd e.pl false, endC e.pl dn os⟩), ?_, .no (by unfold endS; exact if_neg hn) rfl, hperm⟩
      refine congrArg Ending.returned (congrArg Value.bool ?_)
      simp [e2]
      omega
  · intro p hp hpd
    obtain ⟨⟨kk, o⟩, hq, rfl⟩ := List.mem_map.1 hp
    have hm := endC_mem hq hpd
    dsimp only at hpd hm
    obtain ⟨A, B, hos⟩ := List.append_of_mem hm
    subst hos
    obtain ⟨nA, nB⟩ := nodup_mid hnd
    have hcur : endC e.pl dn (A ++ (kk, o) :: B) = endC e.pl dn A ++ (kk, o) :: endC e.pl dn B := by rw [endC_app]; simp [endC, hpd]
    rw [hcur]
    dsimp only
    simp -implicitDefEqProofs (disch := first | omega | decide) only [seval, -Int.reducePow, -Nat.reducePow, cC, pv, binv, sHiE1, undef, g1, g2]
    refine hK _ _ ?_
    clear hK K
    refine cv_seq_k fun K hK => ?_
    refine cv_cond ?_
    simp -implicitDefEqProofs (disch := first | omega | decide) only [seval, -Int.reducePow, -Nat.reducePow, cC, pv, binv, sHiE1, undef, g1, g2]
    refine cv_skip ?_
    try simp only [blockQ, thenQ]
    refine hK _ _ ?_
    clear hK K
    refine cv_block ?_
    refine cv_seq_k fun K hK => ?_
    refine cv_region_then rfl ?_
    simp -implicitDefEqProofs (disch := first | omega | decide) only [seval, -Int.reducePow, -Nat.reducePow, cC, pv, binv, sHiE1, undef, g1, g2]
    refine xv_ventry (b := b2) (r := r) (p := (kk, obP o)) 0 (by simp -implicitDefEqProofs (disch := first | omega | decide) only [seval, -Int.reducePow, -Nat.reducePow, cC, pv, binv, sHiE1, undef, g1, g2]) rfl (by simp [kmap, obP]) ?_
    simp -implicitDefEqProofs (disch := first | omega | decide) only [seval, -Int.reducePow, -Nat.reducePow, cC, pv, binv, sHiE1, undef, g1, g2]
    refine hK _ _ ?_
    clear hK K
    refine cv_sub (obL o ++ ([rgR b2 r (kmap obP (endC e.pl dn A ++ (kk, o) :: endC e.pl dn B)) (kk :: dn) (some kk), evBox b3 e, .blk bS 63 [.map (some b1), .map (some b2)], mvR b1 (kmap Value.bool sd)] ++ obsL (endC e.pl dn A ++ endC e.pl dn B))) (fun w hw => hw.perm (obs_head _ _ _ kk o)) ?_
    unfold obL
    dsimp only [List.cons_append, List.nil_append]
    refine cv_fact (o.b ≠ b3) (fun w hw => hw.bNe 0 3 rfl rfl (by decide)) fun hn1 => ?_
    refine cv_fact (o.b ≠ bS) (fun w hw => hw.bNe 0 4 rfl rfl (by decide)) fun hn2 => ?_
    refine cv_gen fun G3 hG => ?_
    have g3_0 := congrFun hG 0
    have g3_3 := congrFun hG 3
    have g3_5 := congrFun hG 5
    have g3_6 := congrFun hG 6
    have g3_7 := congrFun hG 7
    have g3_12 := congrFun hG 12
    clear hG
    try simp -implicitDefEqProofs (disch := first | omega | decide) only [seval, -Int.reducePow, -Nat.reducePow, cC, pv, binv, sHiE1, undef, g1, g2] at g3_0 g3_3 g3_5 g3_6 g3_7 g3_12
    have g3 := And.intro g3_0 (And.intro g3_3 (And.intro g3_5 (And.intro g3_6 (And.intro g3_7 g3_12))))
    refine cv_seq_k fun K hK => ?_
    refine cv_draw [(true, 0), (true, 1), (true, 2), (true, 3), (true, 4), (true, 5), (false, 6)] [6] mixA rfl (by kernel_rfl) (by kernel_rfl) rfl rfl ?_
    simp -implicitDefEqProofs (disch := first | omega | decide) only [seval, -Int.reducePow, -Nat.reducePow, cC, pv, binv, sHiE1, undef, g1, g2, g3]
    refine xv_vdel 1 mvCt rfl rfl rfl ?_
    rw [vdel_kmap]
    simp -implicitDefEqProofs (disch := first | omega | decide) only [seval, -Int.reducePow, -Nat.reducePow, cC, pv, binv, sHiE1, undef, g1, g2, g3]
    refine hK _ _ ?_
    clear hK K
    refine cv_gen fun G4 hG => ?_
    have g4_0 := congrFun hG 0
    have g4_3 := congrFun hG 3
    have g4_5 := congrFun hG 5
    have g4_6 := congrFun hG 6
    have g4_7 := congrFun hG 7
    have g4_12 := congrFun hG 12
    clear hG
    try simp -implicitDefEqProofs (disch := first | omega | decide) only [seval, -Int.reducePow, -Nat.reducePow, cC, pv, binv, sHiE1, undef, g1, g2, g3] at g4_0 g4_3 g4_5 g4_6 g4_7 g4_12
    have g4 := And.intro g4_0 (And.intro g4_3 (And.intro g4_5 (And.intro g4_6 (And.intro g4_7 g4_12))))
    have hcur2 : ∀ X : List (Int × ObR), endC e.pl (kk :: dn) (A ++ (kk, o) :: B) = endC e.pl dn A ++ ((endQ e.pl (kk, o)).toList ++ endC e.pl dn B) := fun _ => by
      rw [endC_app, endC_not nA]
      show _ ++ endC e.pl (kk :: dn) ([(kk, o)] ++ B) = _
      rw [endC_app, endC_not nB]
      congr 2
      cases hqq : endQ e.pl (kk, o) <;> simp [endC, hqq]
    have hlt : leftK (kk :: dn) (A ++ (kk, o) :: B) < leftK dn (A ++ (kk, o) :: B) := leftK_lt hpd
    have hK1 : endK e.pl (kk :: dn) (A ++ (kk, o) :: B) = endK e.pl dn (A ++ (kk, o) :: B) + (if o.o.ow = e.pl then 1 else 0) := by
      rw [endK_app, endK_not nA, endK_app]
      show _ + endK e.pl (kk :: dn) ([(kk, o)] ++ B) = _ + endK e.pl dn ([(kk, o)] ++ B) + _
      rw [endK_app, endK_not nB, endK_app]
      have h1 : endK e.pl (kk :: dn) [(kk, o)] = if o.o.ow = e.pl then 1 else 0 := by
        unfold endK
        by_cases h : o.o.ow = e.pl <;> simp [h]
      have h2 : endK e.pl dn [(kk, o)] = 0 := by
        unfold endK
        simp [hpd]
      rw [h1, h2]
      omega
    have hen : endK e.pl (kk :: dn) (A ++ (kk, o) :: B) ≤ 1000000 := by
      have : endK e.pl (kk :: dn) (A ++ (kk, o) :: B) ≤ (A ++ (kk, o) :: B).length := List.length_filter_le _ _
      omega
    have nA2 : kk ∉ keys (endC e.pl dn A) := fun h => nA (endC_keys h)
    by_cases hp : o.o.ow = e.pl
    · refine cv_seq_k fun K hK => ?_
      refine cv_draw [(true, 0), (true, 1), (true, 2), (true, 3), (true, 4), (true, 5), (true, 6)] [] mixA rfl (by kernel_rfl) (by kernel_rfl) rfl rfl ?_
      simp -implicitDefEqProofs (disch := first | omega | decide) only [seval, -Int.reducePow, -Nat.reducePow, cC, pv, binv, sHiE1, undef, hp, g1, g2, g4]
      refine hK _ _ ?_
      clear hK K
      refine cv_cond ?_
      simp -implicitDefEqProofs (disch := first | omega | decide) only [seval, -Int.reducePow, -Nat.reducePow, cC, pv, binv, sHiE1, undef, g1, g2, g4]
      refine cv_seq_k fun K hK => ?_
      refine cv_region_then rfl ?_
      simp -implicitDefEqProofs (disch := first | omega | decide) only [seval, -Int.reducePow, -Nat.reducePow, cC, pv, binv, sHiE1, undef, g1, g2, g4]
      refine xv_rgdel (x := kk) 2 mvOb rfl (by simp -implicitDefEqProofs (disch := first | omega | decide) only [seval, -Int.reducePow, -Nat.reducePow, cC, pv, binv, sHiE1, undef, g1, g2, g4]) rfl ?_
      rw [vdel_kmap, kdel_mid nA2]
      simp -implicitDefEqProofs (disch := first | omega | decide) only [seval, -Int.reducePow, -Nat.reducePow, cC, pv, binv, sHiE1, undef, g1, g2, g4]
      refine hK _ _ ?_
      clear hK K
      rw [if_pos hp] at hK1
      have hwu := wrap_u64 (x := (endK e.pl dn (A ++ (kk, o) :: B) : Int) + 1) (by omega) (by omega)
      refine cv_sub (rgR b2 r (kmap obP (endC e.pl dn A ++ endC e.pl dn B)) (kk :: dn) none :: evBox b3 e :: .blk bS 63 [.map (some b1), .map (some b2)] :: mvR b1 (kmap Value.bool sd) :: obsL (endC e.pl dn A ++ endC e.pl dn B)) (fun w hw => hw.tail.tail) ?_
      refine cv_region_q rfl ?_
      simp -implicitDefEqProofs (disch := first | omega | decide) only [seval, -Int.reducePow, -Nat.reducePow, cC, pv, binv, sHiE1, undef, hwu, g1, g2, g4]
      refine ⟨kk :: dn, ⟨none, ?_⟩, hlt⟩
      rw [hcur2 [], hK1]
      have hqq : endQ e.pl (kk, o) = none := by unfold endQ; rw [if_pos hp]
      rw [hqq]
      simp -implicitDefEqProofs (disch := first | omega | decide) only [seval, -Int.reducePow, -Nat.reducePow, cC, pv, binv, sHiE1, undef, Int.natCast_add, Option.toList_none, g1, g2, g4]
    · refine cv_seq_k fun K hK => ?_
      refine cv_draw [(true, 0), (true, 1), (true, 2), (true, 3), (true, 4), (true, 5), (true, 6)] [] mixA rfl (by kernel_rfl) (by kernel_rfl) rfl rfl ?_
      simp -implicitDefEqProofs (disch := first | omega | decide) only [seval, -Int.reducePow, -Nat.reducePow, cC, pv, binv, sHiE1, undef, hp, g1, g2, g4]
      refine hK _ _ ?_
      clear hK K
      refine cv_cond ?_
      simp -implicitDefEqProofs (disch := first | omega | decide) only [seval, -Int.reducePow, -Nat.reducePow, cC, pv, binv, sHiE1, undef, g1, g2, g4]
      rw [if_neg hp] at hK1
      obtain ⟨b, bc, ⟨oh, ow, om, oc⟩⟩ := o
      refine cv_sub ([rgR b2 r (kmap obP (endC e.pl dn A ++ (kk, ⟨b, bc, ⟨oh, ow, om, kdel oc e.pl⟩⟩) :: endC e.pl dn B)) (kk :: dn) (some kk), evBox b3 e, .blk bS 63 [.map (some b1), .map (some b2)], mvR b1 (kmap Value.bool sd)] ++ obsL (endC e.pl dn A ++ (kk, ⟨b, bc, ⟨oh, ow, om, kdel oc e.pl⟩⟩) :: endC e.pl dn B)) (fun w hw => ?_) ?_
      · have hkk : kmap obP (endC e.pl dn A ++ (kk, ⟨b, bc, ⟨oh, ow, om, kdel oc e.pl⟩⟩) :: endC e.pl dn B) = kmap obP (endC e.pl dn A ++ (kk, ⟨b, bc, ⟨oh, ow, om, oc⟩⟩) :: endC e.pl dn B) := by simp [kmap, obP]
        rw [hkk]
        exact hw.perm (obs_head _ _ _ kk ⟨b, bc, ⟨oh, ow, om, kdel oc e.pl⟩⟩).symm
      refine cv_skip ?_
      try simp only [blockQ, thenQ]
      refine ⟨kk :: dn, ⟨some kk, ?_⟩, hlt⟩
      rw [hcur2 [], hK1]
      have hqq : endQ e.pl (kk, ⟨b, bc, ⟨oh, ow, om, oc⟩⟩) = some (kk, ⟨b, bc, ⟨oh, ow, om, kdel oc e.pl⟩⟩) := by unfold endQ; rw [if_neg hp]
      rw [hqq]
      simp -implicitDefEqProofs (disch := first | omega | decide) only [seval, -Int.reducePow, -Nat.reducePow, cC, pv, binv, sHiE1, undef, Option.toList_some, g1, g2, g4]
end Go.Proofs.Ytaifnipgefkemaa
/- The code's step: use, apply. -/
namespace Go.Proofs.Ytaifnipgefkemaa
open Go.RowKit Go.Shelf
set_option linter.unusedVariables false
set_option linter.unusedSimpArgs false
set_option maxRecDepth 100000
section
variable {P : Program} {M : List Nat} {W w : World} {L : List Res}
theorem rx_vlen {F : Fr} {L0 : List Res} {d : Option Nat} {t ty : TypeId} {pos : String} {af : Array Edge} {gd : Option (Nat × Bool)} {m : Operand} {b : Nat} {l : List (Int × Value)} {z : Value} {K : Bool → Value → Prop}
    (ht : mvT P t z) (hm : ev F m = .map (some b)) (h : ∀ w, St M W L0 w → MvH w b l) (hK : K true (.int .i64 (l.length : Int))) :
    RX P M W ⟨d, .call { callee := .builtin .len, args := #[m], argTypes := #[t] }, ty, pos, af, gd⟩ F L0 K := by
  refine ⟨_, fun w hw => ?_, fun tok htok => by subst htok; exact hK⟩
  obtain ⟨kt, et, i, h1, h2, h3, h4⟩ := mvT_run ht
  obtain ⟨es, cl, h5, h6, -⟩ := h w hw
  have hl : es.size = l.length := by
    have := congrArg List.length h6
    simpa using this
  simp [execOp, resolve, invoke, builtin, hm, Builtin.len_, run_underlying h1, MapKept.run_getObj_map h5, Result.andThen, goInt, hl]
end
theorem find_cases (x : HsR) (h : Nat) : (findV x h = .pointer none ∧ findO x.pl h = none) ∨ ∃ o, kget x.os (slotF h) = some o ∧ o.o.h = h ∧ findV x h = obP o ∧ findO x.pl h = some o.o := by
  unfold findV findO HsR.pl
  cases hg : kget x.os (slotF h) with
  | none => exact .inl ⟨rfl, by simp [kget_kmap, hg]⟩
  | some o =>
    by_cases hh : o.o.h = h
    · exact .inr ⟨o, rfl, hh, by simp [hh], by simp [kget_kmap, hg, hh]⟩
    · exact .inl ⟨by simp [hh], by simp [kget_kmap, hg, hh]⟩
theorem useS_of {s : HS} {e : EvR} {o : Ob} (h : findO s e.h = some o) : useS s e = if e.op = 2 then (if freeB e o = true then some { s with os := kdel s.os (slotF e.h) } else none)
    else if e.op = 8 then (if (freeB e o && othP s e) = true then some { s with os := kset s.os (slotF e.h) { o with ow := e.ar } } else none)
    else if e.op = 9 then lendS s e o 1
    else if e.op = 10 then lendS s e o 2
    else relS s e o := by unfold useS; rw [h]
theorem perm_lend (e a b s m n : Res) (T : List Res) : ((e :: n :: T) ++ [a, b, s, m]).Perm (e :: a :: b :: s :: m :: n :: T) := List.Perm.cons e (List.perm_append_comm (l₁ := n :: T) (l₂ := [a, b, s, m]))
theorem perm_rel (e a b s m n : Res) (T : List Res) : ((e :: s :: m :: n :: T) ++ [a, b]).Perm (e :: a :: b :: s :: m :: n :: T) := List.Perm.cons e (List.perm_append_comm (l₁ := s :: m :: n :: T) (l₂ := [a, b]))
set_option maxRecDepth 100000 in
theorem sHiA1 : type_of% (And.intro (And.intro (And.intro @evBox.eq_1 @obP.eq_1) (And.intro @Nat.mul_one @cMv)) (And.intro (And.intro @suf_o3 @suf_o4) (And.intro @suf_o5 (And.intro @suf_o6 @suf_o7)))) := (And.intro (And.intro (And.intro @evBox.eq_1 @obP.eq_1) (And.intro @Nat.mul_one @cMv)) (And.intro (And.intro @suf_o3 @suf_o4) (And.intro @suf_o5 (And.intro @suf_o6 @suf_o7))))
set_option maxHeartbeats 2000000 in
theorem hUse_any (x : HsR) (e : EvR) (k : Nat) (hI : HInv k x.pl) (hk : k ≤ 1000000) (he : e.ok) (W : World) (hst : St (feet (hsL x)) W (hsL x) W) :
    Calls Try.prog 35 #[.pointer (some ⟨x.bS, 0, none⟩), evV e] W
    fun en w' => ∃ i : Bool × HsR, en = .returned (didV i) ∧ Did x.bS (useS x.pl e) i ∧ St (feet (hsL x)) W (didL i) w' := by
  have he1 := he.1
  obtain ⟨M, hM⟩ : ∃ M, feet (hsL x) = M := ⟨_, rfl⟩
  rw [hM] at hst ⊢
  have hfc := find_cases x e.h
  have hob : ∀ o, findO x.pl e.h = some o → ObOk k (slotF e.h, o) := fun o ho => hI.get (findO_get ho).1
  obtain ⟨s, hs⟩ : ∃ s, x.pl = s := ⟨_, rfl⟩
  rw [hs] at hfc hob ⊢
  clear hM
  refine calls_cv (M := M) (n := 79) [.tmp 4] rfl Try.func35 rfl rfl (Nat.le_of_ble_eq_true rfl)  hst ?_
  refine cv_seq_k fun K hK => ?_
  refine cv_region_then rfl ?_
  simp -implicitDefEqProofs (disch := first | omega | decide) only [seval, -Int.reducePow, -Nat.reducePow, cC, pv, binv, sHiA1, undef, evV]
  intro b3 hb3 hf3
  refine hK _ _ ?_
  clear hK K
  refine cv_seq_k fun K hK => ?_
  refine cv_region_then rfl ?_
  simp -implicitDefEqProofs (disch := first | omega | decide) only [seval, -Int.reducePow, -Nat.reducePow, cC, pv, binv, sHiA1, undef]
  refine callV_rd (hsL x) (.cons _ (List.Sublist.refl _)) (fun _ : Unit => findV x e.h) _ (fun w hw => hFind_any x e.h he1 w hw) ?_
  intro _ _
  simp -implicitDefEqProofs (disch := first | omega | decide) only [seval, -Int.reducePow, -Nat.reducePow, cC, pv, binv, sHiA1, undef]
  refine hK _ _ ?_
  clear hK K
  refine cv_gen fun G1 hG => ?_
  have g1_0 := congrFun hG 0
  have g1_3 := congrFun hG 3
  have g1_5 := congrFun hG 5
  clear hG
  try simp -implicitDefEqProofs (disch := first | omega | decide) only [seval, -Int.reducePow, -Nat.reducePow, cC, pv, binv, sHiA1, undef] at g1_0 g1_3 g1_5
  have g1 := And.intro g1_0 (And.intro g1_3 g1_5)
  rcases hfc with ⟨hv, hfo⟩ | ⟨o, hg, hh, hv, hfo⟩
  · rw [hv] at g1
    have g1_5 := g1.2.2
    refine cv_seq_k fun K hK => ?_
    refine cv_seq_k fun K hK => ?_
    refine cv_region_then rfl ?_
    simp -implicitDefEqProofs (disch := first | omega | decide) only [seval, -Int.reducePow, -Nat.reducePow, cC, pv, binv, sHiA1, undef, g1]
    refine hK _ _ ?_
    clear hK K
    refine cv_cond ?_
    simp -implicitDefEqProofs (disch := first | omega | decide) only [seval, -Int.reducePow, -Nat.reducePow, cC, pv, binv, sHiA1, undef, g1]
    refine cv_seq_k fun K hK => ?_
    refine cv_region_then rfl ?_
    simp -implicitDefEqProofs (disch := first | omega | decide) only [seval, -Int.reducePow, -Nat.reducePow, cC, pv, binv, sHiA1, undef, g1]
    refine hK _ _ ?_
    clear hK K
    refine cv_ret ⟨_, (by simp -implicitDefEqProofs (disch := first | omega | decide) only [seval, -Int.reducePow, -Nat.reducePow, cC, pv, binv, sHiA1, undef, g1]; rfl), fun w hw => ?_⟩
    exact ⟨(false, x), rfl, .no (by unfold useS; rw [hfo]) rfl, hw.tail⟩
  rw [hv] at g1
  have hobk := hob o.o hfo
  refine cv_seq_k fun K hK => ?_
  refine cv_seq_k fun K hK => ?_
  refine cv_region_then rfl ?_
  simp -implicitDefEqProofs (disch := first | omega | decide) only [seval, -Int.reducePow, -Nat.reducePow, cC, pv, binv, sHiA1, undef, g1]
  refine hK _ _ ?_
  clear hK K
  refine cv_cond ?_
  simp -implicitDefEqProofs (disch := first | omega | decide) only [seval, -Int.reducePow, -Nat.reducePow, cC, pv, binv, sHiA1, undef, g1]
  refine cv_skip ?_
  try simp only [blockQ, thenQ]
  refine hK _ _ ?_
  clear hK K
  obtain ⟨bS, b1, b2, sd, os⟩ := x
  dsimp only at hg g1 ⊢
  obtain ⟨pre, post, hpp, -, hset, hdel⟩ := ksplit hg
  refine cv_sub (evBox b3 e :: hsF bS b1 b2 sd os o (pre ++ post)) (fun w hw => hw.perm (.cons _ (hs_front hpp))) ?_
  unfold hsF
  refine cv_fact (o.b ≠ b3) (fun w hw => hw.bNe 1 0 rfl rfl (by decide)) fun hn1 => ?_
  refine cv_fact (o.b ≠ bS) (fun w hw => hw.bNe 1 3 rfl rfl (by decide)) fun hn2 => ?_
  refine cv_fact (bS ≠ b3) (fun w hw => hw.bNe 3 0 rfl rfl (by decide)) fun hn3 => ?_
  have hput : ∀ (o' : ObR) w, o'.b = o.b → St M W (hsF bS b1 b2 sd os o' (pre ++ post)) w → St M W (hsL ⟨bS, b1, b2, sd, kset os (slotF e.h) o'⟩) w := fun o' w hb hw => hw.perm (hs_put hpp hset hb).symm
  have hplk : ∀ o' : ObR, HsR.pl ⟨bS, b1, b2, sd, kset os (slotF e.h) o'⟩ = { s with os := kset s.os (slotF e.h) o'.o } := fun o' => by
    rw [← hs]
    unfold HsR.pl
    rw [kmap_kset]
  have hue := useS_of hfo
  refine cv_gen fun G2 hG => ?_
  have g2_0 := congrFun hG 0
  have g2_3 := congrFun hG 3
  have g2_5 := congrFun hG 5
  clear hG
  try simp -implicitDefEqProofs (disch := first | omega | decide) only [seval, -Int.reducePow, -Nat.reducePow, cC, pv, binv, sHiA1, undef, g1] at g2_0 g2_3 g2_5
  have g2 := And.intro g2_0 (And.intro g2_3 g2_5)
  refine cv_seq_k fun K hK => ?_
  refine cv_cut (fun _ _ => True) (fun F' L' => F' 0 = G2 0 ∧ F' 3 = G2 3 ∧ F' 5 = G2 5 ∧ F' 6 = .bool (freeB e o.o) ∧ L' = [evBox b3 e, .blk o.b 93 [.int .u64 (o.o.h : Int), .int .i64 o.o.ow, .int .i64 o.o.mo, .map (some o.bc)], mvR o.bc (kmap (Value.int .i64) o.o.cs), .blk bS 63 [.map (some b1), .map (some b2)], mvR b1 (kmap Value.bool sd), mvR b2 (kmap obP os)] ++ obsL (pre ++ post)) ?_ ?_
  · by_cases hp : o.o.ow = e.pl
    · refine cv_draw [(true, 0), (true, 1), (true, 2), (true, 3), (true, 4), (true, 5), (true, 6), (true, 7), (true, 8), (true, 9), (true, 10), (true, 11), (true, 12), (true, 13), (true, 14), (true, 15)] [] mixA rfl (by kernel_rfl) (by kernel_rfl) rfl rfl ?_
      simp -implicitDefEqProofs (disch := first | omega | decide) only [seval, -Int.reducePow, -Nat.reducePow, cC, pv, binv, sHiA1, undef, hp, g2]
      refine rx_vlen mvCt rfl (fun w hw => hw.mvH 2 rfl) ?_
      rw [len_kmap]
      simp -implicitDefEqProofs (disch := first | omega | decide) only [seval, -Int.reducePow, -Nat.reducePow, cC, pv, binv, sHiA1, undef, g2]
      unfold freeB
      simp [hp]
    · refine cv_draw [(true, 0), (true, 1), (true, 2), (true, 3), (true, 4), (true, 5), (true, 6), (true, 7), (true, 8), (true, 9), (true, 10), (true, 11), (true, 12), (true, 13), (true, 14), (true, 15)] [] mixA rfl (by kernel_rfl) (by kernel_rfl) rfl rfl ?_
      simp -implicitDefEqProofs (disch := first | omega | decide) only [seval, -Int.reducePow, -Nat.reducePow, cC, pv, binv, sHiA1, undef, hp, g2]
      unfold freeB
      simp [hp]
  intro G3 L' _ hF
  obtain ⟨q0, q3, q5, q6, rfl⟩ := hF
  have g3_0 := q0.trans g2_0
  have g3_3 := q3.trans g2_3
  have g3_5 := q5.trans g2_5
  have g3_6 := q6
  clear q0 q3 q5 q6
  have g3 := And.intro g3_0 (And.intro g3_3 (And.intro g3_5 g3_6))
  dsimp only [List.cons_append, List.nil_append]
  refine hK _ _ ?_
  clear hK K
  have hcnt : ∀ c ∈ o.o.cs, 0 ≤ c.2 ∧ c.2 ≤ 4611686018427387904 := fun c hc => by have := hobk.cnt c hc; omega
  have hsd : ∀ os', HsR.pl ⟨bS, b1, b2, sd, os'⟩ = { s with os := kmap ObR.o os' } := fun os' => by rw [← hs]; rfl
  by_cases o2 : e.op = 2
  · have d2 : decide (e.op = 2) = true := by simp [o2]
    rw [if_pos o2] at hue
    refine cv_seq_k fun K hK => ?_
    refine cv_seq_k fun K hK => ?_
    refine cv_region_then rfl ?_
    simp -implicitDefEqProofs (disch := first | omega | decide) only [seval, -Int.reducePow, -Nat.reducePow, cC, pv, binv, sHiA1, undef, g3]
    refine hK _ _ ?_
    clear hK K
    refine cv_block ?_
    refine cv_seq_k fun K hK => ?_
    refine cv_region_then rfl ?_
    simp -implicitDefEqProofs (disch := first | omega | decide) only [seval, -Int.reducePow, -Nat.reducePow, cC, pv, binv, sHiA1, undef, d2, g3]
    refine hK _ _ ?_
    clear hK K
    refine cv_cond ?_
    simp -implicitDefEqProofs (disch := first | omega | decide) only [seval, -Int.reducePow, -Nat.reducePow, cC, pv, binv, sHiA1, undef, g3]
    refine cv_seq_k fun K hK => ?_
    refine cv_seq_k fun K hK => ?_
    refine cv_region_then rfl ?_
    simp -implicitDefEqProofs (disch := first | omega | decide) only [seval, -Int.reducePow, -Nat.reducePow, cC, pv, binv, sHiA1, undef, g3]
    refine hK _ _ ?_
    clear hK K
    refine cv_cond ?_
    cases hfr : freeB e o.o with
    | false =>
      simp -implicitDefEqProofs (disch := first | omega | decide) only [seval, -Int.reducePow, -Nat.reducePow, cC, pv, binv, sHiA1, undef, g3]
      refine cv_skip ?_
      try simp only [blockQ, thenQ]
      refine hK _ _ ?_
      clear hK K
      refine cv_seq_k fun K hK => ?_
      refine cv_region_then rfl ?_
      simp -implicitDefEqProofs (disch := first | omega | decide) only [seval, -Int.reducePow, -Nat.reducePow, cC, pv, binv, sHiA1, undef, g3]
      refine hK _ _ ?_
      clear hK K
      refine cv_ret ⟨_, (by simp -implicitDefEqProofs (disch := first | omega | decide) only [seval, -Int.reducePow, -Nat.reducePow, cC, pv, binv, sHiA1, undef, g3]; rfl), fun w hw => ?_⟩
      rw [hfr] at hue
      exact ⟨(false, ⟨bS, b1, b2, sd, os⟩), (by rw [hfr]; rfl), .no hue rfl, hw.tail.perm (hs_front hpp).symm⟩
    | true =>
      simp -implicitDefEqProofs (disch := first | omega | decide) only [seval, -Int.reducePow, -Nat.reducePow, cC, pv, binv, sHiA1, undef, g3]
      refine cv_q ?_
      refine cv_draw [(true, 0), (true, 1), (true, 2), (true, 3), (true, 4), (true, 5), (false, 6), (false, 7)] [7] mixA rfl (by kernel_rfl) (by kernel_rfl) rfl rfl ?_
      simp -implicitDefEqProofs (disch := first | omega | decide) only [seval, -Int.reducePow, -Nat.reducePow, cC, pv, binv, sHiA1, undef, g3]
      refine callV_ret (fun w hw => slot_any e.h he1 w) ?_
      simp -implicitDefEqProofs (disch := first | omega | decide) only [seval, -Int.reducePow, -Nat.reducePow, cC, pv, binv, sHiA1, undef, g3]
      refine xv_vdel 5 mvOb rfl rfl rfl ?_
      rw [vdel_kmap, hdel]
      simp -implicitDefEqProofs (disch := first | omega | decide) only [seval, -Int.reducePow, -Nat.reducePow, cC, pv, binv, sHiA1, undef, g3]
      refine hK _ _ ?_
      clear hK K
      refine cv_seq_k fun K hK => ?_
      refine cv_region_then rfl ?_
      simp -implicitDefEqProofs (disch := first | omega | decide) only [seval, -Int.reducePow, -Nat.reducePow, cC, pv, binv, sHiA1, undef, g3]
      refine hK _ _ ?_
      clear hK K
      refine cv_ret ⟨_, (by simp -implicitDefEqProofs (disch := first | omega | decide) only [seval, -Int.reducePow, -Nat.reducePow, cC, pv, binv, sHiA1, undef, g3]; rfl), fun w hw => ?_⟩
      rw [hfr] at hue
      refine ⟨(true, ⟨bS, b1, b2, sd, pre ++ post⟩), (by rw [hfr]; rfl), .yes hue ?_ rfl, hw.tail.tail.tail⟩
      rw [hsd, ← hdel, ← kdel_kmap, ← hs]
      rfl
  rw [if_neg o2] at hue
  by_cases o8 : e.op = 8
  · have d8 : decide (e.op = 8) = true := by simp [o8]
    rw [if_pos o8] at hue
    refine cv_seq_k fun K hK => ?_
    refine cv_seq_k fun K hK => ?_
    refine cv_region_then rfl ?_
    simp -implicitDefEqProofs (disch := first | omega | decide) only [seval, -Int.reducePow, -Nat.reducePow, cC, pv, binv, sHiA1, undef, g3]
    refine hK _ _ ?_
    clear hK K
    refine cv_block ?_
    refine cv_seq_k fun K hK => ?_
    refine cv_region_then rfl ?_
    simp -implicitDefEqProofs (disch := first | omega | decide) only [seval, -Int.reducePow, -Nat.reducePow, cC, pv, binv, sHiA1, undef, o2, g3]
    refine hK _ _ ?_
    clear hK K
    refine cv_cond ?_
    simp -implicitDefEqProofs (disch := first | omega | decide) only [seval, -Int.reducePow, -Nat.reducePow, cC, pv, binv, sHiA1, undef, g3]
    refine cv_seq_k fun K hK => ?_
    refine cv_region_then rfl ?_
    simp -implicitDefEqProofs (disch := first | omega | decide) only [seval, -Int.reducePow, -Nat.reducePow, cC, pv, binv, sHiA1, undef, d8, g3]
    refine hK _ _ ?_
    clear hK K
    refine cv_cond ?_
    simp -implicitDefEqProofs (disch := first | omega | decide) only [seval, -Int.reducePow, -Nat.reducePow, cC, pv, binv, sHiA1, undef, g3]
    refine cv_seq_k fun K hK => ?_
    refine cv_region_then rfl ?_
    simp -implicitDefEqProofs (disch := first | omega | decide) only [seval, -Int.reducePow, -Nat.reducePow, cC, pv, binv, sHiA1, undef, g3]
    refine callV_rd (othL ⟨bS, b1, b2, sd, os⟩) (.cons _ (.cons _ (.cons _ (.cons_cons _ (.cons_cons _ (List.nil_sublist _)))))) othV _ (fun w hw => hOther_any ⟨bS, b1, b2, sd, os⟩ e he w hw) ?_
    rintro ⟨q, ok⟩ ⟨hok, hq⟩
    dsimp only at hok hq
    simp -implicitDefEqProofs (disch := first | omega | decide) only [seval, -Int.reducePow, -Nat.reducePow, cC, pv, binv, sHiA1, undef, othV, g3]
    refine hK _ _ ?_
    clear hK K
    rw [hs] at hok
    cases hfr : freeB e o.o with
    | false =>
      refine cv_seq_k fun K hK => ?_
      refine cv_seq_k fun K hK => ?_
      refine cv_region_then rfl ?_
      simp -implicitDefEqProofs (disch := first | omega | decide) only [seval, -Int.reducePow, -Nat.reducePow, cC, pv, binv, sHiA1, undef, hfr, g3]
      refine hK _ _ ?_
      clear hK K
      refine cv_cond ?_
      simp -implicitDefEqProofs (disch := first | omega | decide) only [seval, -Int.reducePow, -Nat.reducePow, cC, pv, binv, sHiA1, undef, g3]
      refine cv_skip ?_
      try simp only [blockQ, thenQ]
      refine hK _ _ ?_
      clear hK K
      refine cv_seq_k fun K hK => ?_
      refine cv_region_then rfl ?_
      simp -implicitDefEqProofs (disch := first | omega | decide) only [seval, -Int.reducePow, -Nat.reducePow, cC, pv, binv, sHiA1, undef, hfr, g3]
      refine hK _ _ ?_
      clear hK K
      refine cv_ret ⟨_, (by simp -implicitDefEqProofs (disch := first | omega | decide) only [seval, -Int.reducePow, -Nat.reducePow, cC, pv, binv, sHiA1, undef, g3]; rfl), fun w hw => ?_⟩
      rw [hfr] at hue
      exact ⟨(false, ⟨bS, b1, b2, sd, os⟩), rfl, .no hue rfl, hw.tail.perm (hs_front hpp).symm⟩
    | true =>
      rw [hfr, Bool.true_and, ← hok] at hue
      cases ok with
      | false =>
        refine cv_seq_k fun K hK => ?_
        refine cv_seq_k fun K hK => ?_
        refine cv_region_then rfl ?_
        simp -implicitDefEqProofs (disch := first | omega | decide) only [seval, -Int.reducePow, -Nat.reducePow, cC, pv, binv, sHiA1, undef, hfr, g3]
        refine hK _ _ ?_
        clear hK K
        refine cv_cond ?_
        simp -implicitDefEqProofs (disch := first | omega | decide) only [seval, -Int.reducePow, -Nat.reducePow, cC, pv, binv, sHiA1, undef, g3]
        refine cv_skip ?_
        try simp only [blockQ, thenQ]
        refine hK _ _ ?_
        clear hK K
        refine cv_seq_k fun K hK => ?_
        refine cv_region_then rfl ?_
        simp -implicitDefEqProofs (disch := first | omega | decide) only [seval, -Int.reducePow, -Nat.reducePow, cC, pv, binv, sHiA1, undef, hfr, g3]
        refine hK _ _ ?_
        clear hK K
        refine cv_ret ⟨_, (by simp -implicitDefEqProofs (disch := first | omega | decide) only [seval, -Int.reducePow, -Nat.reducePow, cC, pv, binv, sHiA1, undef, g3]; rfl), fun w hw => ?_⟩
        exact ⟨(false, ⟨bS, b1, b2, sd, os⟩), rfl, .no hue rfl, hw.tail.perm (hs_front hpp).symm⟩
      | true =>
        have hqa := hq rfl
        subst hqa
        refine cv_seq_k fun K hK => ?_
        refine cv_seq_k fun K hK => ?_
        refine cv_region_then rfl ?_
        simp -implicitDefEqProofs (disch := first | omega | decide) only [seval, -Int.reducePow, -Nat.reducePow, cC, pv, binv, sHiA1, undef, hfr, g3]
        refine hK _ _ ?_
        clear hK K
        refine cv_cond ?_
        simp -implicitDefEqProofs (disch := first | omega | decide) only [seval, -Int.reducePow, -Nat.reducePow, cC, pv, binv, sHiA1, undef, g3]
        refine cv_region_q rfl ?_
        simp -implicitDefEqProofs (disch := first | omega | decide) only [seval, -Int.reducePow, -Nat.reducePow, cC, pv, binv, sHiA1, undef, g3]
        refine hK _ _ ?_
        clear hK K
        refine cv_seq_k fun K hK => ?_
        refine cv_region_then rfl ?_
        simp -implicitDefEqProofs (disch := first | omega | decide) only [seval, -Int.reducePow, -Nat.reducePow, cC, pv, binv, sHiA1, undef, hfr, g3]
        refine hK _ _ ?_
        clear hK K
        refine cv_ret ⟨_, (by simp -implicitDefEqProofs (disch := first | omega | decide) only [seval, -Int.reducePow, -Nat.reducePow, cC, pv, binv, sHiA1, undef, g3]; rfl), fun w hw => ?_⟩
        exact ⟨(true, ⟨bS, b1, b2, sd, kset os (slotF e.h) ⟨o.b, o.bc, { o.o with ow := e.ar }⟩⟩), rfl, .yes hue (hplk _) rfl, hput ⟨o.b, o.bc, { o.o with ow := e.ar }⟩ _ rfl hw.tail⟩
  rw [if_neg o8] at hue
  have hlend : ∀ (m : Int) (i : Bool × Ob), i.1 = lendB s e o.o m → (i.1 = true → i.2 = lendO o.o e.ar m) → useS s e = lendS s e o.o m → Did bS (useS s e) (i.1, ⟨bS, b1, b2, sd, kset os (slotF e.h) ⟨o.b, o.bc, i.2⟩⟩) := by
    intro m i h1 h2 h3
    rw [h3]
    unfold lendS
    cases hb : lendB s e o.o m with
    | false => exact ⟨by rw [h1, hb]; rfl, fun s' hs' => by simp at hs', rfl⟩
    | true =>
      refine ⟨by rw [h1, hb]; rfl, fun s' hs' => ?_, rfl⟩
      rw [if_pos rfl] at hs'
      injection hs' with hs'
      rw [← hs', hplk]
      show _ = _
      rw [h2 (h1.trans hb)]
  by_cases o9 : e.op = 9
  · have d9 : decide (e.op = 9) = true := by simp [o9]
    rw [if_pos o9] at hue
    refine cv_seq_k fun K hK => ?_
    refine cv_seq_k fun K hK => ?_
    refine cv_region_then rfl ?_
    simp -implicitDefEqProofs (disch := first | omega | decide) only [seval, -Int.reducePow, -Nat.reducePow, cC, pv, binv, sHiA1, undef, g3]
    refine hK _ _ ?_
    clear hK K
    refine cv_block ?_
    refine cv_seq_k fun K hK => ?_
    refine cv_region_then rfl ?_
    simp -implicitDefEqProofs (disch := first | omega | decide) only [seval, -Int.reducePow, -Nat.reducePow, cC, pv, binv, sHiA1, undef, o2, g3]
    refine hK _ _ ?_
    clear hK K
    refine cv_cond ?_
    simp -implicitDefEqProofs (disch := first | omega | decide) only [seval, -Int.reducePow, -Nat.reducePow, cC, pv, binv, sHiA1, undef, g3]
    refine cv_seq_k fun K hK => ?_
    refine cv_region_then rfl ?_
    simp -implicitDefEqProofs (disch := first | omega | decide) only [seval, -Int.reducePow, -Nat.reducePow, cC, pv, binv, sHiA1, undef, o8, g3]
    refine hK _ _ ?_
    clear hK K
    refine cv_cond ?_
    simp -implicitDefEqProofs (disch := first | omega | decide) only [seval, -Int.reducePow, -Nat.reducePow, cC, pv, binv, sHiA1, undef, g3]
    refine cv_seq_k fun K hK => ?_
    refine cv_region_then rfl ?_
    simp -implicitDefEqProofs (disch := first | omega | decide) only [seval, -Int.reducePow, -Nat.reducePow, cC, pv, binv, sHiA1, undef, d9, g3]
    refine hK _ _ ?_
    clear hK K
    refine cv_cond ?_
    simp -implicitDefEqProofs (disch := first | omega | decide) only [seval, -Int.reducePow, -Nat.reducePow, cC, pv, binv, sHiA1, undef, g3]
    refine cv_seq_k fun K hK => ?_
    refine cv_region_then rfl ?_
    simp -implicitDefEqProofs (disch := first | omega | decide) only [seval, -Int.reducePow, -Nat.reducePow, cC, pv, binv, sHiA1, undef, g3]
    refine callV_sub (evBox b3 e :: mvR b2 (kmap obP os) :: obsL (pre ++ post)) (obL o ++ othL ⟨bS, b1, b2, sd, os⟩) (perm_lend _ _ _ _ _ _ _) relV (fun i : Bool × Ob => obL ⟨o.b, o.bc, i.2⟩ ++ othL ⟨bS, b1, b2, sd, os⟩) _ (fun w hw => hLend_any ⟨bS, b1, b2, sd, os⟩ o e 1 he w hcnt hw) ?_
    rintro i ⟨hi1, hi2⟩
    rw [hs] at hi1
    unfold obL othL
    simp -implicitDefEqProofs (disch := first | omega | decide) only [seval, -Int.reducePow, -Nat.reducePow, cC, pv, binv, sHiA1, undef, relV, g3]
    refine hK _ _ ?_
    clear hK K
    refine cv_ret ⟨_, (by simp -implicitDefEqProofs (disch := first | omega | decide) only [seval, -Int.reducePow, -Nat.reducePow, cC, pv, binv, sHiA1, undef, g3]; rfl), fun w hw => ?_⟩
    exact ⟨(i.1, ⟨bS, b1, b2, sd, kset os (slotF e.h) ⟨o.b, o.bc, i.2⟩⟩), rfl, hlend 1 i hi1 hi2 hue, hput ⟨o.b, o.bc, i.2⟩ _ rfl (hw.sub (.cons_cons _ (.cons_cons _ (.cons_cons _ (.cons_cons _ (.cons _ (List.Sublist.refl _)))))))⟩
  rw [if_neg o9] at hue
  by_cases o10 : e.op = 10
  · have d10 : decide (e.op = 10) = true := by simp [o10]
    rw [if_pos o10] at hue
    refine cv_seq_k fun K hK => ?_
    refine cv_seq_k fun K hK => ?_
    refine cv_region_then rfl ?_
    simp -implicitDefEqProofs (disch := first | omega | decide) only [seval, -Int.reducePow, -Nat.reducePow, cC, pv, binv, sHiA1, undef, g3]
    refine hK _ _ ?_
    clear hK K
    refine cv_block ?_
    refine cv_seq_k fun K hK => ?_
    refine cv_region_then rfl ?_
    simp -implicitDefEqProofs (disch := first | omega | decide) only [seval, -Int.reducePow, -Nat.reducePow, cC, pv, binv, sHiA1, undef, o2, g3]
    refine hK _ _ ?_
    clear hK K
    refine cv_cond ?_
    simp -implicitDefEqProofs (disch := first | omega | decide) only [seval, -Int.reducePow, -Nat.reducePow, cC, pv, binv, sHiA1, undef, g3]
    refine cv_seq_k fun K hK => ?_
    refine cv_region_then rfl ?_
    simp -implicitDefEqProofs (disch := first | omega | decide) only [seval, -Int.reducePow, -Nat.reducePow, cC, pv, binv, sHiA1, undef, o8, g3]
    refine hK _ _ ?_
    clear hK K
    refine cv_cond ?_
    simp -implicitDefEqProofs (disch := first | omega | decide) only [seval, -Int.reducePow, -Nat.reducePow, cC, pv, binv, sHiA1, undef, g3]
    refine cv_seq_k fun K hK => ?_
    refine cv_region_then rfl ?_
    simp -implicitDefEqProofs (disch := first | omega | decide) only [seval, -Int.reducePow, -Nat.reducePow, cC, pv, binv, sHiA1, undef, o9, g3]
    refine hK _ _ ?_
    clear hK K
    refine cv_cond ?_
    simp -implicitDefEqProofs (disch := first | omega | decide) only [seval, -Int.reducePow, -Nat.reducePow, cC, pv, binv, sHiA1, undef, g3]
    refine cv_seq_k fun K hK => ?_
    refine cv_region_then rfl ?_
    simp -implicitDefEqProofs (disch := first | omega | decide) only [seval, -Int.reducePow, -Nat.reducePow, cC, pv, binv, sHiA1, undef, d10, g3]
    refine hK _ _ ?_
    clear hK K
    refine cv_cond ?_
    simp -implicitDefEqProofs (disch := first | omega | decide) only [seval, -Int.reducePow, -Nat.reducePow, cC, pv, binv, sHiA1, undef, g3]
    refine cv_seq_k fun K hK => ?_
    refine cv_region_then rfl ?_
    simp -implicitDefEqProofs (disch := first | omega | decide) only [seval, -Int.reducePow, -Nat.reducePow, cC, pv, binv, sHiA1, undef, g3]
    refine callV_sub (evBox b3 e :: mvR b2 (kmap obP os) :: obsL (pre ++ post)) (obL o ++ othL ⟨bS, b1, b2, sd, os⟩) (perm_lend _ _ _ _ _ _ _) relV (fun i : Bool × Ob => obL ⟨o.b, o.bc, i.2⟩ ++ othL ⟨bS, b1, b2, sd, os⟩) _ (fun w hw => hLend_any ⟨bS, b1, b2, sd, os⟩ o e 2 he w hcnt hw) ?_
    rintro i ⟨hi1, hi2⟩
    rw [hs] at hi1
    unfold obL othL
    simp -implicitDefEqProofs (disch := first | omega | decide) only [seval, -Int.reducePow, -Nat.reducePow, cC, pv, binv, sHiA1, undef, relV, g3]
    refine hK _ _ ?_
    clear hK K
    refine cv_ret ⟨_, (by simp -implicitDefEqProofs (disch := first | omega | decide) only [seval, -Int.reducePow, -Nat.reducePow, cC, pv, binv, sHiA1, undef, g3]; rfl), fun w hw => ?_⟩
    exact ⟨(i.1, ⟨bS, b1, b2, sd, kset os (slotF e.h) ⟨o.b, o.bc, i.2⟩⟩), rfl, hlend 2 i hi1 hi2 hue, hput ⟨o.b, o.bc, i.2⟩ _ rfl (hw.sub (.cons_cons _ (.cons_cons _ (.cons_cons _ (.cons_cons _ (.cons _ (List.Sublist.refl _)))))))⟩
  rw [if_neg o10] at hue
  refine cv_seq_k fun K hK => ?_
  refine cv_seq_k fun K hK => ?_
  refine cv_region_then rfl ?_
  simp -implicitDefEqProofs (disch := first | omega | decide) only [seval, -Int.reducePow, -Nat.reducePow, cC, pv, binv, sHiA1, undef, g3]
  refine hK _ _ ?_
  clear hK K
  refine cv_block ?_
  refine cv_seq_k fun K hK => ?_
  refine cv_region_then rfl ?_
  simp -implicitDefEqProofs (disch := first | omega | decide) only [seval, -Int.reducePow, -Nat.reducePow, cC, pv, binv, sHiA1, undef, o2, g3]
  refine hK _ _ ?_
  clear hK K
  refine cv_cond ?_
  simp -implicitDefEqProofs (disch := first | omega | decide) only [seval, -Int.reducePow, -Nat.reducePow, cC, pv, binv, sHiA1, undef, g3]
  refine cv_seq_k fun K hK => ?_
  refine cv_region_then rfl ?_
  simp -implicitDefEqProofs (disch := first | omega | decide) only [seval, -Int.reducePow, -Nat.reducePow, cC, pv, binv, sHiA1, undef, o8, g3]
  refine hK _ _ ?_
  clear hK K
  refine cv_cond ?_
  simp -implicitDefEqProofs (disch := first | omega | decide) only [seval, -Int.reducePow, -Nat.reducePow, cC, pv, binv, sHiA1, undef, g3]
  refine cv_seq_k fun K hK => ?_
  refine cv_region_then rfl ?_
  simp -implicitDefEqProofs (disch := first | omega | decide) only [seval, -Int.reducePow, -Nat.reducePow, cC, pv, binv, sHiA1, undef, o9, g3]
  refine hK _ _ ?_
  clear hK K
  refine cv_cond ?_
  simp -implicitDefEqProofs (disch := first | omega | decide) only [seval, -Int.reducePow, -Nat.reducePow, cC, pv, binv, sHiA1, undef, g3]
  refine cv_seq_k fun K hK => ?_
  refine cv_region_then rfl ?_
  simp -implicitDefEqProofs (disch := first | omega | decide) only [seval, -Int.reducePow, -Nat.reducePow, cC, pv, binv, sHiA1, undef, o10, g3]
  refine hK _ _ ?_
  clear hK K
  refine cv_cond ?_
  simp -implicitDefEqProofs (disch := first | omega | decide) only [seval, -Int.reducePow, -Nat.reducePow, cC, pv, binv, sHiA1, undef, g3]
  refine cv_skip ?_
  try simp only [blockQ, thenQ]
  refine hK _ _ ?_
  clear hK K
  refine cv_seq_k fun K hK => ?_
  refine cv_region_then rfl ?_
  simp -implicitDefEqProofs (disch := first | omega | decide) only [seval, -Int.reducePow, -Nat.reducePow, cC, pv, binv, sHiA1, undef, g3]
  refine callV_sub (evBox b3 e :: .blk bS 63 [.map (some b1), .map (some b2)] :: mvR b1 (kmap Value.bool sd) :: mvR b2 (kmap obP os) :: obsL (pre ++ post)) (obL o) (perm_rel _ _ _ _ _ _ _) relV (fun i : Bool × Ob => obL ⟨o.b, o.bc, i.2⟩) _ (fun w hw => hRelease_any o e.pl w hcnt hw) ?_
  rintro i ⟨hi1, hi2⟩
  unfold obL
  simp -implicitDefEqProofs (disch := first | omega | decide) only [seval, -Int.reducePow, -Nat.reducePow, cC, pv, binv, sHiA1, undef, relV, g3]
  refine hK _ _ ?_
  clear hK K
  refine cv_ret ⟨_, (by simp -implicitDefEqProofs (disch := first | omega | decide) only [seval, -Int.reducePow, -Nat.reducePow, cC, pv, binv, sHiA1, undef, g3]; rfl), fun w hw => ?_⟩
  refine ⟨(i.1, ⟨bS, b1, b2, sd, kset os (slotF e.h) ⟨o.b, o.bc, i.2⟩⟩), rfl, ?_, hput ⟨o.b, o.bc, i.2⟩ _ rfl (hw.sub (.cons_cons _ (.cons_cons _ (.cons _ (List.Sublist.refl _)))))⟩
  rw [hue]
  unfold relS
  by_cases h0 : (kget o.o.cs e.pl).getD 0 = 0
  · exact ⟨by rw [hi1]; simp [h0], fun s' hs' => by simp [h0] at hs', rfl⟩
  · refine ⟨by rw [hi1]; simp [h0], fun s' hs' => ?_, rfl⟩
    rw [if_neg h0] at hs'
    injection hs' with hs'
    rw [← hs', hplk]
    show _ = _
    rw [hi2 (by rw [hi1]; simp [h0])]
end Go.Proofs.Ytaifnipgefkemaa
