/- Maps of ints over the abstract state; calls that change some of the resources and leave the others alone. -/
import Derived.Test.YtejogdielfgeoaaZ3
import Derived.MapKept
import Derived.Test.YtejogdielfgeoaaZ2
import Derived.Test.YtejogdielfgeoaaZ1
namespace Go.Proofs.Ytejogdielfgeoaa
open Go.RowKit Go.Shelf
set_option linter.unusedVariables false
set_option linter.unusedSimpArgs false
theorem nd_true {p : Prop} [Decidable p] (h : (!decide p) = true) : ¬ p := by simpa using h
theorem nd_false {p : Prop} [Decidable p] (h : (!decide p) = false) : ¬ ¬ p := by simpa using h
/-! ## Maps as lists of pairs -/
def mget : List (Int × Int) → Int → Option Int
  | [], _ => none
  | p :: l, k => if p.1 = k then some p.2 else mget l k
def mset : List (Int × Int) → Int → Int → List (Int × Int)
  | [], k, v => [(k, v)]
  | p :: l, k, v => if p.1 = k then (k, v) :: l else p :: mset l k v
def mdel : List (Int × Int) → Int → List (Int × Int)
  | [], _ => []
  | p :: l, k => if p.1 = k then l else p :: mdel l k
theorem map_erase {α β : Type} (f : α → β) : ∀ (l : List α) (j : Nat), (l.eraseIdx j).map f = (l.map f).eraseIdx j
  | [], j => by simp
  | a :: l, 0 => by simp
  | a :: l, j + 1 => by simp [map_erase f l j]
def prV (p : Int × Int) : Value × Value := (.int .i64 p.1, .int .i64 p.2)
theorem findNow_mp (k v : Int) : ∀ (es : List MapEntry) (l : List (Int × Int)) (i : Nat), es.map (fun e => (e.key, e.val)) = l.map prV →
    (mget l k = none ∧ Instr.findNow (.int .i64) (.int .i64 k) es i = some none ∧ mset l k v = l ++ [(k, v)] ∧ mdel l k = l) ∨
    (∃ j x, mget l k = some x ∧ Instr.findNow (.int .i64) (.int .i64 k) es i = some (some (i + j, .int .i64 x)) ∧ l[j]? = some (k, x) ∧ mset l k v = l.set j (k, v) ∧ mdel l k = l.eraseIdx j)
  | [], [], i, _ => .inl ⟨rfl, rfl, rfl, rfl⟩
  | [], p :: l, i, h => by simp at h
  | e :: es, [], i, h => by simp at h
  | e :: es, p :: l, i, h => by
    obtain ⟨⟨h1, h2⟩, h3⟩ : (e.key = .int .i64 p.1 ∧ e.val = .int .i64 p.2) ∧ es.map (fun e => (e.key, e.val)) = l.map prV := by simpa [prV] using h
    by_cases hk : p.1 = k
    · refine .inr ⟨0, p.2, by simp [mget, hk], by simp [Instr.findNow, Instr.sameNow, h1, h2, hk], ?_, by simp [mset, hk], by simp [mdel, hk]⟩
      rw [← hk]
      rfl
    · have hk2 : (k == p.1) = false := by simpa using fun e : k = p.1 => hk e.symm
      rcases findNow_mp k v es l (i + 1) h3 with ⟨a, b, c, d⟩ | ⟨j, x, a, b, c, d, e'⟩
      · exact .inl ⟨by simp [mget, hk, a], by simp [Instr.findNow, Instr.sameNow, h1, hk2, b], by simp [mset, hk, c], by simp [mdel, hk, d]⟩
      · refine .inr ⟨j + 1, x, by simp [mget, hk, a], ?_, by simpa using c, by simp [mset, hk, d], by simp [mdel, hk, e']⟩
        rw [show i + (j + 1) = i + 1 + j by omega]
        simp [Instr.findNow, Instr.sameNow, h1, hk2, b]
/-- What the block of a map holds. -/
def MpH (w : World) (b : Nat) (l : List (Int × Int)) : Prop := ∃ (es : Array MapEntry) (cl : Nat), w.heap[b]? = some (.map es cl) ∧ es.toList.map (fun e => (e.key, e.val)) = l.map prV ∧ MapKept.Stamped es cl
theorem MpH.same {w w' : World} {b : Nat} {l : List (Int × Int)} (h : MpH w b l) (e : w'.heap[b]? = w.heap[b]?) : MpH w' b l := by
  obtain ⟨es, cl, h1, h2⟩ := h
  exact ⟨es, cl, e.trans h1, h2⟩
theorem mget_not {l : List (Int × Int)} {k : Int} (h : mget l k = none) : ∀ p ∈ l, p.1 ≠ k := by
  induction l with
  | nil => simp
  | cons q l ih =>
    intro p hp
    by_cases hq : q.1 = k
    · simp [mget, hq] at h
    · rw [mget, if_neg hq] at h
      rcases List.mem_cons.1 hp with rfl | hp
      · exact hq
      · exact ih h p hp
theorem mp_apart {es : Array MapEntry} {l : List (Int × Int)} {k : Int} (h6 : es.toList.map (fun e => (e.key, e.val)) = l.map prV) (h : mget l k = none) : ∀ x ∈ es.toList, x.key ≠ .int .i64 k := fun x hx e => by
  have hm : (x.key, x.val) ∈ l.map prV := by rw [← h6]; exact List.mem_map.2 ⟨x, hx, rfl⟩
  obtain ⟨p, hp, hpe⟩ := List.mem_map.1 hm
  have h1 := (Prod.mk.inj hpe).1
  rw [e] at h1
  exact mget_not h p hp (by simpa using h1)
def mpR (b : Nat) (l : List (Int × Int)) : Res := .dat [b] (fun w => MpH w b l) (fun _ _ hk h => h.same (hk b (by simp)))
theorem mpR_foot (b : Nat) (l : List (Int × Int)) : (mpR b l).foot = [b] := rfl
theorem look_mp (b : Nat) (l : List (Int × Int)) (L : List Res) (k : Nat) : look (mpR b l :: L) k = look L k := rfl
theorem putL_mp (b : Nat) (l : List (Int × Int)) (L : List Res) (k : Nat) (us : List Value) : putL (mpR b l :: L) k us = mpR b l :: putL L k us := rfl
theorem neB_mp (b : Nat) (l : List (Int × Int)) (L : List Res) (k : Nat) : neB (mpR b l :: L) k = neB L k := rfl
theorem neR_mp (b : Nat) (l : List (Int × Int)) (L : List Res) (k : Nat) : neR (mpR b l :: L) k = neR L k := rfl
theorem factL_mp (W : World) (M : List Nat) (b : Nat) (l : List (Int × Int)) (L : List Res) : factL W M (mpR b l :: L) = factL W M L := rfl
theorem fresh_mp (b : Nat) (l : List (Int × Int)) (L : List Res) (k : Nat) : fresh (mpR b l :: L) k = fresh L k := rfl
theorem cMp : type_of% (And.intro @look_mp (And.intro @putL_mp (And.intro @neB_mp (And.intro @neR_mp (And.intro @factL_mp @fresh_mp))))) := And.intro @look_mp (And.intro @putL_mp (And.intro @neB_mp (And.intro @neR_mp (And.intro @factL_mp @fresh_mp))))
/-- A map from ints to ints. -/
def mpT (P : Program) (t : TypeId) : Bool :=
  match P.underlying t with
  | some (.map k e) => (match P.underlying k, (P.info? e).bind (fun i => i.zero) with
    | some (TypeDesc.int .i64), some (Value.int .i64 0) => true
    | _, _ => false)
  | _ => false
section
variable {P : Program} {M : List Nat} {W w : World} {L : List Res}
theorem mpT_run {t : TypeId} (h : mpT P t = true) : ∃ k e i, P.underlying t = some (.map k e) ∧ P.underlying k = some (.int .i64) ∧ P.info? e = some i ∧ i.zero = some (.int .i64 0) := by
  unfold mpT at h
  split at h
  · rename_i k e hu
    split at h
    · rename_i h1 h2
      obtain ⟨i, hi, hz⟩ := Option.bind_eq_some_iff.1 h2
      exact ⟨k, e, i, hu, h1, hi, hz⟩
    · cases h
  · cases h
theorem run_lookup_mp {t : TypeId} {b : Nat} {l : List (Int × Int)} {k : Int} (ht : mpT P t = true) (h : MpH w b l) :
    (Instr.lookup t (.map (some b)) (.int .i64 k) true).run P w = .ok (.tuple #[.int .i64 ((mget l k).getD 0), .bool (mget l k).isSome]) w := by
  obtain ⟨kt, et, i, h1, h2, h3, h4⟩ := mpT_run ht
  obtain ⟨es, cl, h5, h6, -⟩ := h
  have hk : MapKept.IsKey (.int .i64) (.int .i64 k) := rfl
  rcases findNow_mp k 0 es.toList l 0 h6 with ⟨a, b', -, -⟩ | ⟨j, x, a, b', -, -, -⟩
  · simp [Instr.lookup, run_underlying h1, MapKept.run_getObj_map h5, MapKept.run_checkKey h2 hk, MapKept.run_findKey h2 b', Result.andThen, zeroValue, typeInfo, h3, h4, a]
  · simp [Instr.lookup, run_underlying h1, MapKept.run_getObj_map h5, MapKept.run_checkKey h2 hk, MapKept.run_findKey h2 b', Result.andThen, a]
theorem xv_lookup {F : Fr} {d : Option Nat} {t ty : TypeId} {pos : String} {af : Array Edge} {gd : Option (Nat × Bool)} {m k : Operand} {b : Nat} {l : List (Int × Int)} {x : Int} {K : Bool → Value → List Res → Prop}
    (ht : mpT P t = true) (hm : ev F m = .map (some b)) (hk : ev F k = .int .i64 x) (h : ∀ w, St M W L w → MpH w b l) (hK : K true (.tuple #[.int .i64 ((mget l x).getD 0), .bool (mget l x).isSome]) L) :
    XV P M W ⟨d, .lookup t m k true, ty, pos, af, gd⟩ F L K := fun w hw =>
  ⟨_, _, w, by simp [execOp, hm, hk, run_lookup_mp ht (h w hw)], hw, hK⟩
theorem St.mpH {b : Nat} {l : List (Int × Int)} (hw : St M W L w) (k : Nat) (hk : nth L k = some (mpR b l)) : MpH w b l := hw.holds _ (nth_mem hk)
theorem run_mapUpdate_mp {t : TypeId} {b : Nat} {l : List (Int × Int)} {k v : Int} (ht : mpT P t = true) (h : MpH w b l) :
    ∃ es' cl', (Instr.mapUpdate t (.map (some b)) (.int .i64 k) (.int .i64 v)).run P w = .ok () { w with heap := w.heap.setIfInBounds b (.map es' cl') } ∧ es'.toList.map (fun e => (e.key, e.val)) = (mset l k v).map prV ∧ MapKept.Stamped es' cl' := by
  obtain ⟨kt, et, i, h1, h2, h3, h4⟩ := mpT_run ht
  obtain ⟨es, cl, h5, h6, hst⟩ := h
  have hk : MapKept.IsKey (.int .i64) (.int .i64 k) := rfl
  rcases findNow_mp k v es.toList l 0 h6 with ⟨a, b', c, -⟩ | ⟨j, x, a, b', c, e, -⟩
  · refine ⟨_, _, by simp [Instr.mapUpdate, run_underlying h1, MapKept.run_getObj_map h5, MapKept.run_checkKey h2 hk, MapKept.run_findKey h2 b', MapKept.run_setObj_map _ h5, Result.andThen]; exact rfl, ?_, MapKept.stamped_push hst (mp_apart h6 a)⟩
    rw [c]
    simp [h6, prV]
  · rw [Nat.zero_add] at b'
    have hlj : (es.toList.map (fun e => (e.key, e.val)))[j]? = some (prV (k, x)) := by rw [h6, List.getElem?_map, c]; rfl
    obtain ⟨en, he, hen⟩ : ∃ en, es[j]? = some en ∧ (en.key, en.val) = prV (k, x) := by
      rw [List.getElem?_map] at hlj
      obtain ⟨en, he, hen⟩ := Option.map_eq_some_iff.1 hlj
      exact ⟨en, by simpa using he, hen⟩
    have hkey : en.key = .int .i64 k := (Prod.mk.inj hen).1
    refine ⟨_, _, by simp [Instr.mapUpdate, run_underlying h1, MapKept.run_getObj_map h5, MapKept.run_checkKey h2 hk, MapKept.run_findKey h2 b', he, hkey, MapKept.run_keyThatStays hk, MapKept.run_setObj_map _ h5, Result.andThen]; exact rfl, ?_, ?_⟩
    rotate_left
    · exact MapKept.stamped_modify hst j _ (fun _ _ => rfl) (fun e2 _ h2 => by rw [he] at h2; cases h2; exact hkey.symm)
    rw [e]
    apply List.ext_getElem?
    intro q
    have hq : (es.toList.map (fun e => (e.key, e.val)))[q]? = (l.map prV)[q]? := by rw [h6]
    simp only [List.getElem?_map, Array.getElem?_toList, Array.getElem?_modify, List.getElem?_set] at hq ⊢
    by_cases hjq : j = q
    · subst hjq
      have hlt := (List.getElem?_eq_some_iff.1 c).1
      simp [he, hlt, prV]
    · simp [hjq, hq]
theorem St.mpSet {b kk : Nat} {l l' : List (Int × Int)} {es : Array MapEntry} {cl : Nat} (hw : St M W L w) (hk : nth L kk = some (mpR b l)) (he : es.toList.map (fun e => (e.key, e.val)) = l'.map prV) (hs : MapKept.Stamped es cl) : St M W (L.set kk (mpR b l')) { w with heap := w.heap.setIfInBounds b (.map es cl) } := by
  obtain ⟨es0, cl0, h5, -⟩ := hw.mpH kk hk
  obtain ⟨q1, q2⟩ := MapKept.heap_set (o' := .map es cl) h5
  refine hw.replace hk rfl ⟨es, cl, q1, he, hs⟩ (fun c hc => q2 c fun e => hc (by rw [e, mpR_foot]; simp)) (by simp) rfl rfl rfl
theorem xu_mapset (kk : Nat) {F : Fr} {d : Option Nat} {t ty : TypeId} {pos : String} {af : Array Edge} {gd : Option (Nat × Bool)} {m k v : Operand} {b : Nat} {l : List (Int × Int)} {x y : Int} {K : Bool → Value → List Res → Prop}
    (ht : mpT P t = true) (hm : ev F m = .map (some b)) (hk : ev F k = .int .i64 x) (hv : ev F v = .int .i64 y) (hL : nth L kk = some (mpR b l)) (hK : K true undef (L.set kk (mpR b (mset l x y)))) :
    XU P M W ⟨d, .mapUpdate t m k v, ty, pos, af, gd⟩ F L K := fun w hw => by
  obtain ⟨es, cl, hr, he, hs⟩ := run_mapUpdate_mp (k := x) (v := y) ht (hw.mpH kk hL)
  exact ⟨_, _, by simp [execOp, hm, hk, hv, hr], hw.mpSet hL he hs, hK⟩
theorem xv_mapdel (kk : Nat) {F : Fr} {d : Option Nat} {t t2 ty : TypeId} {pos : String} {af : Array Edge} {gd : Option (Nat × Bool)} {m k : Operand} {b : Nat} {l : List (Int × Int)} {x : Int} {K : Bool → Value → List Res → Prop}
    (ht : mpT P t = true) (hm : ev F m = .map (some b)) (hk : ev F k = .int .i64 x) (hL : nth L kk = some (mpR b l)) (hK : K true (.tuple #[]) (L.set kk (mpR b (mdel l x)))) :
    XV P M W ⟨d, .call { callee := .builtin .delete, args := #[m, k], argTypes := #[t, t2] }, ty, pos, af, gd⟩ F L K := fun w hw => by
  obtain ⟨kt, et, i, h1, h2, h3, h4⟩ := mpT_run ht
  obtain ⟨es, cl, h5, h6, hst⟩ := hw.mpH kk hL
  have hkk : MapKept.IsKey (.int .i64) (.int .i64 x) := rfl
  rcases findNow_mp x 0 es.toList l 0 h6 with ⟨a, b', -, c⟩ | ⟨j, y, a, b', c, -, e⟩
  · refine ⟨_, _, _, by simp [execOp, resolve, invoke, builtin, hm, hk, Builtin.delete_, run_underlying h1, MapKept.run_getObj_map h5, MapKept.run_checkKey h2 hkk, MapKept.run_findKey h2 b', MapKept.run_setObj_map _ h5, Result.andThen], hw.mpSet hL (by rw [h6, c]) hst, hK⟩
  · rw [Nat.zero_add] at b'
    refine ⟨_, _, _, by simp [execOp, resolve, invoke, builtin, hm, hk, Builtin.delete_, run_underlying h1, MapKept.run_getObj_map h5, MapKept.run_checkKey h2 hkk, MapKept.run_findKey h2 b', MapKept.run_setObj_map _ h5, Result.andThen], hw.mpSet hL ?_ (MapKept.stamped_erase hst j), hK⟩
    have hlt : j < es.size := by
      have h7 := congrArg List.length h6
      have := (List.getElem?_eq_some_iff.1 c).1
      simp at h7
      omega
    rw [e]
    unfold Array.eraseIdxIfInBounds
    rw [dif_pos hlt, Array.toList_eraseIdx, map_erase, h6, map_erase]
theorem xv_mkmap {F : Fr} {d : Option Nat} {t ty : TypeId} {pos : String} {af : Array Edge} {gd : Option (Nat × Bool)} {K : Bool → Value → List Res → Prop}
    (hK : ∀ b, W.heap.size ≤ b → fresh L b → K true (.map (some b)) (mpR b [] :: L)) : XV P M W ⟨d, .makeMap t none, ty, pos, af, gd⟩ F L K := fun w hw => by
  refine ⟨_, _, w.alloc (.map #[] 0), by simp [execOp, Instr.makeMap], ?_, hK w.heap.size hw.pres.size (fresh_of hw)⟩
  refine (hw.allocs _).add _ ⟨#[], 0, (MapKept.heap_alloc w _).1, rfl, MapKept.stamped_empty 0⟩ (fun b hb => ?_) fun s hs b hb hbs => ?_
  · obtain rfl : b = w.heap.size := by simpa [mpR_foot] using hb
    exact ⟨.inl hw.pres.size, by simp⟩
  · obtain rfl : b = w.heap.size := by simpa [mpR_foot] using hb
    exact absurd (hw.own s hs _ hbs).2 (Nat.lt_irrefl _)
/-! ## Calls that change some of the resources -/
def feet (L : List Res) : List Nat := L.flatMap Res.foot
theorem St.self (hw : St M W L w) : St (feet L) w L w :=
  ⟨Pres.refl _ _, hw.holds, fun r hr b hb => ⟨.inr (List.mem_flatMap.2 ⟨r, hr, hb⟩), (hw.own r hr b hb).2⟩, hw.apart⟩
theorem callV_grp {ι : Sort _} {g : FuncId} {args : Array Value} {K : Bool → Value → List Res → Prop} (ix jx : List Nat) (hnd : (ix ++ jx).Nodup) (f : ι → Value) (Lf : ι → List Res) (φ : ι → Prop)
    (h : ∀ w, St M W L w → St (feet (pickL ix L)) w (pickL ix L) w → Calls P g args w (fun e w' => ∃ i, e = .returned (f i) ∧ φ i ∧ St (feet (pickL ix L)) w (Lf i) w'))
    (hK : ∀ i, φ i → K true (f i) (Lf i ++ pickL jx L)) : CallV P M W g args L K := fun w hw => by
  have hp := hw.pick hnd
  rw [pickL_append] at hp
  have h1 : St M W (pickL ix L) w := hp.sub (List.sublist_append_left _ _)
  have h2 : St M W (pickL jx L) w := hp.sub (List.sublist_append_right _ _)
  have hap := List.pairwise_append.1 hp.apart
  refine (h w hw h1.self).mono ?_
  rintro e w' ⟨i, rfl, hi, hs⟩
  have hout : ∀ b, b < w.heap.size → b ∉ feet (pickL ix L) → w'.heap[b]? = w.heap[b]? := fun b hb hn => hs.pres.block b hb hn
  have hfeet : ∀ b, b ∈ feet (pickL ix L) → (W.heap.size ≤ b ∨ b ∈ M) ∧ b < w.heap.size := fun b hb => by
    obtain ⟨r, hr, hbr⟩ := List.mem_flatMap.1 hb
    exact h1.own r hr b hbr
  have hj : ∀ r ∈ pickL jx L, ∀ b ∈ r.foot, b ∉ feet (pickL ix L) := fun r hr b hb hn => by
    obtain ⟨s, hs', hbs⟩ := List.mem_flatMap.1 hn
    exact hap.2.2 s hs' r hr b hbs hb
  have hpres : Pres M W w' := ⟨hs.pres.os.trans hw.pres.os, hs.pres.tape.trans hw.pres.tape, hs.pres.output.trans hw.pres.output, Nat.le_trans hw.pres.size hs.pres.size, fun k hk hm => by
    rw [hout k (Nat.lt_of_lt_of_le hk hw.pres.size) (fun hn => by
      rcases (hfeet k hn).1 with h3 | h3
      · omega
      · exact hm h3)]
    exact hw.pres.block k hk hm⟩
  refine ⟨_, _, rfl, ⟨hpres, fun r hr => ?_, fun r hr b hb => ?_, ?_⟩, hK i hi⟩
  · rcases List.mem_append.1 hr with hr | hr
    · exact hs.holds r hr
    · exact r.keep (h2.holds r hr) fun b hb => hout b (h2.own r hr b hb).2 (hj r hr b hb)
  · rcases List.mem_append.1 hr with hr | hr
    · have := hs.own r hr b hb
      refine ⟨?_, this.2⟩
      rcases this.1 with h3 | h3
      · exact .inl (Nat.le_trans hw.pres.size h3)
      · exact (hfeet b h3).1
    · exact ⟨(h2.own r hr b hb).1, Nat.lt_of_lt_of_le (h2.own r hr b hb).2 hs.pres.size⟩
  · refine List.pairwise_append.2 ⟨hs.apart, hap.2.1, fun r hr s hs' b hb hbs => ?_⟩
    rcases (hs.own r hr b hb).1 with h3 | h3
    · have := (h2.own s hs' b hbs).2
      omega
    · exact hj s hs' b hbs h3
end
end Go.Proofs.Ytejogdielfgeoaa
/- The allocator, plainly: what is taken, what is free, where the next one goes. -/
namespace Go.Proofs.Ytejogdielfgeoaa
open Go.RowKit Go.Shelf
set_option linter.unusedVariables false
set_option linter.unusedSimpArgs false
namespace Ex
def setOf (us : List Ext) : List Ext := us.foldl (fun s e => (insF s e).1) []
def freeM (N : Int) (us : List Ext) : List Ext := (compF (setOf us) N).1
def Apart (us : List Ext) : Prop := us.Pairwise fun a b => ∀ o, inn a o → ¬ inn b o
theorem setFold : ∀ (us s : List Ext), vld s → (∀ e ∈ us, e.prop) → (∀ e ∈ us, ∀ o, inn e o → ¬ mem s o) → us.Pairwise (fun a b => ∀ o, inn a o → ¬ inn b o) →
    vld (us.foldl (fun s e => (insF s e).1) s) ∧ (∀ o, mem (us.foldl (fun s e => (insF s e).1) s) o ↔ mem s o ∨ mem us o)
  | [], s, hv, _, _, _ => ⟨hv, fun o => by simp [mem]⟩
  | e :: us, s, hv, hp, hd, ha => by
    obtain ⟨a1, a2⟩ := List.pairwise_cons.1 ha
    rcases insF_spec hv (hp e (.head _)) with ⟨-, o, ho, hi⟩ | ⟨h1, h2, h3, -, -⟩
    · exact absurd ho (hd e (.head _) o hi)
    · obtain ⟨b1, b2⟩ := setFold us (insF s e).1 h2 (fun x hx => hp x (.tail _ hx)) (fun x hx o ho hm => by
        rcases (h3 o).1 hm with h4 | h4
        · exact hd x (.tail _ hx) o ho h4
        · exact a1 x hx o h4 ho) a2
      refine ⟨b1, fun o => ?_⟩
      rw [List.foldl_cons, b2, h3, mem_cons, or_assoc]
theorem setFold_len : ∀ (us s : List Ext), (us.foldl (fun s e => (insF s e).1) s).length ≤ s.length + us.length
  | [], s => by simp
  | e :: us, s => by
    have h1 := setFold_len us (insF s e).1
    have h2 := insF_len s e
    rw [List.foldl_cons, List.length_cons]
    omega
theorem setOf_len (us : List Ext) : (setOf us).length ≤ us.length := by have := setFold_len us []; simpa [setOf] using this
theorem setOf_snoc (us : List Ext) (e : Ext) : setOf (us ++ [e]) = (insF (setOf us) e).1 := by simp [setOf]
theorem compL_len (s : Int) : ∀ (xs : List Ext) (a : Int), (compL a xs s).length ≤ xs.length + 1
  | [], a => by unfold compL; split <;> simp
  | x :: xs, a => by
    have := compL_len s xs (x.off + x.len)
    unfold compL
    split <;> simp <;> omega
/-- What is taken, and what is free. -/
structure Inv (N : Int) (us fr : List Ext) (tk : List (Int × Int)) : Prop where
  N0 : 0 ≤ N
  N1 : N ≤ 1048576
  prop : ∀ e ∈ us, e.prop ∧ e.off + e.len ≤ N
  apart : us.Pairwise fun a b => ∀ o, inn a o → ¬ inn b o
  fr : fr = freeM N us
  tak : ∀ o l, mget tk o = some l ↔ (⟨o, l⟩ : Ext) ∈ us
  nd : (tk.map (·.1)).Nodup
section
variable {N : Int} {us fr : List Ext} {tk : List (Int × Int)}
theorem Inv.set (h : Inv N us fr tk) : vld (setOf us) ∧ ∀ o, mem (setOf us) o ↔ mem us o := by
  obtain ⟨h1, h2⟩ := setFold us [] (fun i hi => by simp at hi) (fun e he => (h.prop e he).1) (fun e _ o _ hm => by simp [mem] at hm) h.apart
  exact ⟨h1, fun o => by rw [setOf, h2]; simp [mem]⟩
theorem Inv.setEnd (h : Inv N us fr tk) : ∀ i, i < (setOf us).length → (get (setOf us) i).end_ ≤ N := fun i hi => by
  obtain ⟨h1, h2⟩ := h.set
  have hp := vld_prop h1 hi
  obtain ⟨x, hx, h3, h4⟩ := (h2 ((get (setOf us) i).off + (get (setOf us) i).len - 1)).1 (mem_get hi ⟨by omega, by omega⟩)
  have := (h.prop x hx).2
  unfold Ext.end_
  omega
theorem Inv.free (h : Inv N us fr tk) : vld fr ∧ (∀ o, mem fr o ↔ 0 ≤ o ∧ o < N ∧ ¬ mem us o) ∧ (compF (setOf us) N).2 = 0 ∧ ∀ i, i < fr.length → (get fr i).end_ ≤ N := by
  obtain ⟨h1, h2⟩ := h.set
  obtain ⟨a, b, c, d, -⟩ := compF_spec h1 h.N0 h.N1 h.setEnd
  rw [h.fr]
  exact ⟨b, fun o => by rw [freeM, c, h2], a, d⟩
theorem Inv.frLen (h : Inv N us fr tk) : fr.length ≤ us.length + 1 := by
  obtain ⟨h1, h2⟩ := h.set
  have hF := compF_eq h1 h.N0 h.N1 h.setEnd
  have hC := comp_split (setOf us) N (setOf us).length (Nat.le_refl _)
  rw [List.drop_length] at hC
  have hF : compF (setOf us) N = (compL 0 (setOf us) N, 0) := by rw [hF, ← hC]; rfl
  rw [h.fr, freeM, hF]
  have := compL_len N (setOf us) 0
  have := setOf_len us
  dsimp only
  omega
theorem inv_eq {fr' : List Ext} {tk' : List (Int × Int)} (h0 : 0 ≤ N) (h1 : N ≤ 1048576) (hp : ∀ e ∈ us, e.prop ∧ e.off + e.len ≤ N) (ha : us.Pairwise fun a b => ∀ o, inn a o → ¬ inn b o) (hv : vld fr') (hm : ∀ o, mem fr' o ↔ 0 ≤ o ∧ o < N ∧ ¬ mem us o)
    (ht : ∀ o l, mget tk' o = some l ↔ (⟨o, l⟩ : Ext) ∈ us) (hn : (tk'.map (·.1)).Nodup) : Inv N us fr' tk' := by
  have h2 : Inv N us (freeM N us) tk' := ⟨h0, h1, hp, ha, rfl, ht, hn⟩
  obtain ⟨a, b, -, -⟩ := h2.free
  exact ⟨h0, h1, hp, ha, vld_ext hv a fun o => by rw [hm, b], ht, hn⟩
end
theorem inv_new {N : Int} (h0 : 0 ≤ N) (h1 : N ≤ 1048576) : Inv N [] (compF [] N).1 [] :=
  ⟨h0, h1, by simp, List.Pairwise.nil, rfl, by simp [mget], by simp⟩
/-! ## The place of the next one -/
def bstep (size : Int) (b x : Ext) : Ext := if size ≤ x.len ∧ (b.len = 0 ∨ x.len < b.len) then x else b
def best (size : Int) (fr : List Ext) : Ext := fr.foldl (bstep size) ⟨0, 0⟩
theorem best_snoc (size : Int) (fr : List Ext) (x : Ext) : best size (fr ++ [x]) = bstep size (best size fr) x := by simp [best]
theorem best_take {size : Int} {fr : List Ext} {i : Nat} (h : i < fr.length) : best size (fr.take (i + 1)) = bstep size (best size (fr.take i)) (get fr i) := by
  rw [List.take_add_one, List.getElem?_eq_getElem h, get_eq h]
  exact best_snoc _ _ _
theorem best_fold {size : Int} (hs : 0 < size) : ∀ (fr : List Ext) (b : Ext), (b = ⟨0, 0⟩ ∨ size ≤ b.len) →
    (fr.foldl (bstep size) b = b ∨ fr.foldl (bstep size) b ∈ fr ∧ size ≤ (fr.foldl (bstep size) b).len) ∧
    (∀ x ∈ fr, size ≤ x.len → (fr.foldl (bstep size) b).len ≤ x.len ∧ ¬ (fr.foldl (bstep size) b).len = 0) ∧ (size ≤ b.len → (fr.foldl (bstep size) b).len ≤ b.len ∧ size ≤ (fr.foldl (bstep size) b).len)
  | [], b, _ => ⟨.inl rfl, by simp, fun h => ⟨Int.le_refl _, h⟩⟩
  | x :: fr, b, hb => by
    have hb' : bstep size b x = ⟨0, 0⟩ ∨ size ≤ (bstep size b x).len := by
      unfold bstep
      split
      · rename_i h; exact .inr h.1
      · exact hb
    obtain ⟨h1, h2, h3⟩ := best_fold hs fr (bstep size b x) hb'
    rw [List.foldl_cons]
    generalize hq : fr.foldl (bstep size) (bstep size b x) = q at h1 h2 h3
    by_cases hc : size ≤ x.len ∧ (b.len = 0 ∨ x.len < b.len)
    · have hx : bstep size b x = x := if_pos hc
      rw [hx] at h1 h3
      obtain ⟨h4, h5⟩ := h3 hc.1
      refine ⟨.inr ?_, fun y hy hys => ?_, fun hbs => ?_⟩
      · rcases h1 with h1 | h1
        · rw [h1]
          exact ⟨.head _, hc.1⟩
        · exact ⟨.tail _ h1.1, h1.2⟩
      · rcases List.mem_cons.1 hy with rfl | hy
        · exact ⟨h4, by omega⟩
        · exact h2 y hy hys
      · rcases hc.2 with h6 | h6 <;> exact ⟨by omega, h5⟩
    · have hx : bstep size b x = b := if_neg hc
      rw [hx] at h1 h3
      refine ⟨h1.imp id fun h => ⟨.tail _ h.1, h.2⟩, fun y hy hys => ?_, h3⟩
      rcases List.mem_cons.1 hy with rfl | hy
      · have h6 : ¬ (b.len = 0 ∨ y.len < b.len) := fun h => hc ⟨hys, h⟩
        have h7 : size ≤ b.len := by
          rcases hb with rfl | h
          · exact absurd (.inl rfl) h6
          · exact h
        have := h3 h7
        omega
      · exact h2 y hy hys
theorem best_spec {size : Int} (hs : 0 < size) (fr : List Ext) : (best size fr = ⟨0, 0⟩ ∧ ∀ x ∈ fr, ¬ size ≤ x.len) ∨ (best size fr ∈ fr ∧ size ≤ (best size fr).len ∧ ∀ x ∈ fr, size ≤ x.len → (best size fr).len ≤ x.len) := by
  obtain ⟨h1, h2, -⟩ := best_fold hs fr ⟨0, 0⟩ (.inl rfl)
  unfold best
  rcases h1 with h1 | h1
  · refine .inl ⟨h1, fun x hx hs' => ?_⟩
    have := (h2 x hx hs').2
    rw [h1] at this
    exact this rfl
  · exact .inr ⟨h1.1, h1.2, fun x hx hs' => (h2 x hx hs').1⟩
/-- What find comes to. -/
def findF (fr : List Ext) (n : Int) : Ext × Int := if Sz.err n = 0 then (if (best (Sz.rnd n) fr).len = 0 then (⟨0, 0⟩, 18) else (⟨(best (Sz.rnd n) fr).off, Sz.rnd n⟩, 0)) else (⟨0, 0⟩, Sz.err n)
theorem rnd_bd {n : Int} (h : Sz.err n = 0) : 16 ≤ Sz.rnd n ∧ Sz.rnd n ≤ 65536 := by
  unfold Sz.err at h
  unfold Sz.rnd
  split at h
  · cases h
  · split at h
    · cases h
    · rename_i h1 h2
      rw [if_neg h1, if_neg h2]
      exact Sz.sz_bd (by have := (Sz.cls_spec (n := n) (by omega)).1; omega)
theorem findF_err {fr : List Ext} {n : Int} (h : ¬ (findF fr n).2 = 0) : (findF fr n).1 = ⟨0, 0⟩ := by
  unfold findF at h ⊢
  split
  · rename_i h0
    rw [if_pos h0] at h
    split
    · rfl
    · rename_i h1
      rw [if_neg h1] at h
      exact absurd rfl h
  · rfl
theorem mget_set {tk : List (Int × Int)} {o v : Int} : ∀ k, mget (mset tk o v) k = if k = o then some v else mget tk k := by
  induction tk with
  | nil => intro k; by_cases h : o = k <;> simp [mset, mget, h, eq_comm]
  | cons p l ih =>
    intro k
    by_cases hp : p.1 = o
    · by_cases hk : k = o
      · subst hk; simp [mset, mget, hp]
      · have : ¬ o = k := fun e => hk e.symm
        simp [mset, mget, hp, hk, this]
    · by_cases hk : p.1 = k
      · have : ¬ k = o := fun e => hp (hk.trans e)
        simp [mset, mget, hp, hk, this]
      · simp [mset, mget, hp, hk, ih]
theorem keys_set {tk : List (Int × Int)} {o v : Int} : ∀ k, k ∈ (mset tk o v).map (·.1) → k ∈ tk.map (·.1) ∨ k = o := by
  induction tk with
  | nil => intro k hk; right; simpa [mset] using hk
  | cons p l ih =>
    intro k hk
    by_cases hp : p.1 = o
    · simp [mset, hp] at hk ⊢
      rcases hk with h | h
      · exact .inr h
      · exact .inl (.inr h)
    · simp only [mset, if_neg hp, List.map_cons, List.mem_cons] at hk ⊢
      rcases hk with h | h
      · exact .inl (.inl h)
      · exact (ih k h).imp .inr id
theorem nd_set {tk : List (Int × Int)} {o v : Int} (h : (tk.map (·.1)).Nodup) : ((mset tk o v).map (·.1)).Nodup := by
  induction tk with
  | nil => simp [mset]
  | cons p l ih =>
    rw [List.map_cons, List.nodup_cons] at h
    by_cases hp : p.1 = o
    · simp only [mset, if_pos hp, List.map_cons, List.nodup_cons]
      exact ⟨by rw [← hp]; exact h.1, h.2⟩
    · simp only [mset, if_neg hp, List.map_cons, List.nodup_cons]
      refine ⟨fun hk => ?_, ih h.2⟩
      rcases keys_set _ hk with h1 | h1
      · exact h.1 h1
      · exact hp h1
theorem mget_none {tk : List (Int × Int)} {o : Int} (h : o ∉ tk.map (·.1)) : mget tk o = none := by
  induction tk with
  | nil => rfl
  | cons p l ih =>
    simp only [List.map_cons, List.mem_cons, not_or] at h
    rw [mget, if_neg fun e => h.1 e.symm, ih h.2]
theorem mget_del {tk : List (Int × Int)} {o : Int} (h : (tk.map (·.1)).Nodup) : ∀ k, mget (mdel tk o) k = if k = o then none else mget tk k := by
  induction tk with
  | nil => intro k; simp [mdel, mget]
  | cons p l ih =>
    intro k
    rw [List.map_cons, List.nodup_cons] at h
    by_cases hp : p.1 = o
    · rw [mdel, if_pos hp, mget]
      by_cases hk : k = o
      · rw [if_pos hk, hk, ← hp, mget_none h.1]
      · rw [if_neg hk, if_neg fun e => hk (by rw [← e, hp])]
    · rw [mdel, if_neg hp, mget, mget, ih h.2]
      by_cases hk : p.1 = k
      · rw [if_pos hk, if_pos hk, if_neg fun e => hp (hk.trans e)]
      · rw [if_neg hk, if_neg hk]
theorem del_sub {tk : List (Int × Int)} {o : Int} : (mdel tk o).Sublist tk := by
  induction tk with
  | nil => exact List.Sublist.refl _
  | cons p l ih =>
    by_cases hp : p.1 = o
    · rw [mdel, if_pos hp]
      exact List.sublist_cons_self _ _
    · rw [mdel, if_neg hp]
      exact ih.cons_cons _
theorem nd_del {tk : List (Int × Int)} {o : Int} (h : (tk.map (·.1)).Nodup) : ((mdel tk o).map (·.1)).Nodup := (del_sub.map _).nodup h
theorem apart_ne {us : List Ext} (h : us.Pairwise fun a b => ∀ o, inn a o → ¬ inn b o) {x y : Ext} (hx : x ∈ us) (hy : y ∈ us) (hne : x ≠ y) : ∀ o, inn x o → ¬ inn y o := by
  obtain ⟨i, hi, rfl⟩ := List.getElem_of_mem hx
  obtain ⟨j, hj, rfl⟩ := List.getElem_of_mem hy
  have hp := List.pairwise_iff_getElem.1 h
  intro o h1 h2
  rcases Nat.lt_trichotomy i j with hij | hij | hij
  · exact hp i j hi hj hij o h1 h2
  · subst hij; exact hne rfl
  · exact hp j i hj hi hij o h2 h1
theorem mget_mem : ∀ {tk : List (Int × Int)} {o l : Int}, mget tk o = some l → (o, l) ∈ tk
  | [], o, l, h => by cases h
  | p :: tk, o, l, h => by
    by_cases hp : p.1 = o
    · simp [mget, hp] at h
      subst h
      subst hp
      exact .head _
    · simp [mget, hp] at h
      exact .tail _ (mget_mem h)
section
variable {N : Int} {us fr : List Ext} {tk : List (Int × Int)}
theorem key_uniq (h : Inv N us fr tk) {o l l' : Int} (h1 : (⟨o, l⟩ : Ext) ∈ us) (h2 : (⟨o, l'⟩ : Ext) ∈ us) : l = l' := by
  have e1 := (h.tak o l).2 h1
  have e2 := (h.tak o l').2 h2
  rw [e1] at e2
  exact Option.some.inj e2
/-- An allocation. -/
theorem Inv.alloc (h : Inv N us fr tk) {n : Int} (hf : (findF fr n).2 = 0) :
    (findF fr n).1.prop ∧ remF fr (findF fr n).1 = ((remF fr (findF fr n).1).1, 0) ∧ Inv N (us ++ [(findF fr n).1]) (remF fr (findF fr n).1).1 (mset tk (findF fr n).1.off (findF fr n).1.len) ∧ (findF fr n).1.len = Sz.rnd n ∧ Sz.err n = 0 ∧ (∀ o, inn (findF fr n).1 o → mem fr o) ∧ best (Sz.rnd n) fr ∈ fr ∧ (findF fr n).1.off = (best (Sz.rnd n) fr).off := by
  have he : Sz.err n = 0 := by
    unfold findF at hf
    split at hf
    · assumption
    · rename_i h1; exact absurd hf h1
  have hb0 : ¬ (best (Sz.rnd n) fr).len = 0 := by
    unfold findF at hf
    rw [if_pos he] at hf
    split at hf
    · cases hf
    · assumption
  have hx : findF fr n = (⟨(best (Sz.rnd n) fr).off, Sz.rnd n⟩, 0) := by unfold findF; rw [if_pos he, if_neg hb0]
  have hrb := rnd_bd he
  obtain ⟨x, hxx⟩ : ∃ x : Ext, (⟨(best (Sz.rnd n) fr).off, Sz.rnd n⟩ : Ext) = x := ⟨_, rfl⟩
  rw [hxx] at hx
  rw [hx]
  dsimp only
  obtain ⟨hv, hm, -, hend⟩ := h.free
  rcases best_spec (size := Sz.rnd n) (by omega) fr with ⟨h1, -⟩ | ⟨h1, h2, h3⟩
  · rw [h1] at hb0; exact absurd rfl hb0
  obtain ⟨k, hk, hkb⟩ := List.getElem_of_mem h1
  have hkg : get fr k = best (Sz.rnd n) fr := by rw [get_eq hk, hkb]
  have hpb := vld_prop hv hk
  rw [hkg] at hpb
  have hxo : x.off = (best (Sz.rnd n) fr).off := by rw [← hxx]
  have hxl : x.len = Sz.rnd n := by rw [← hxx]
  have hxp : x.prop := by unfold Ext.prop; omega
  have hin : ∀ o, inn x o → mem fr o := fun o ho => ⟨_, h1, by unfold inn at *; omega⟩
  have hxN : x.off + x.len ≤ N := by
    have := ((hm (x.off + x.len - 1)).1 (hin _ (by unfold inn; omega))).2.1
    omega
  rcases remF_spec hv hxp with ⟨-, o, ho, hn⟩ | ⟨r1, r2, r3, r4, r5⟩
  · exact absurd (hin o ho) hn
  have hus : ∀ e ∈ us, ∀ o, inn e o → ¬ inn x o := fun e he o ho hxo => ((hm o).1 (hin o hxo)).2.2 ⟨e, he, ho⟩
  have hkey : mget tk x.off = none := by
    cases hg : mget tk x.off with
    | none => rfl
    | some l =>
      have h4 := (h.tak _ _).1 hg
      have h5 := (h.prop _ h4).1
      unfold Ext.prop at h5
      exact absurd (show inn x x.off by unfold inn; omega) (hus _ h4 x.off (by unfold inn; dsimp only at *; omega))
  refine ⟨hxp, Prod.ext rfl r1, inv_eq h.N0 h.N1 (fun e he => ?_) ?_ r2 (fun o => ?_) (fun o l => ?_) (nd_set h.nd), hxl, he, hin, h1, hxo⟩
  · rcases List.mem_append.1 he with he | he
    · exact h.prop e he
    · obtain rfl : e = x := by simpa using he
      exact ⟨hxp, hxN⟩
  · refine List.pairwise_append.2 ⟨h.apart, by simp, fun a ha b hb o ho => ?_⟩
    obtain rfl : b = x := by simpa using hb
    exact hus a ha o ho
  · rw [r3, hm, mem_app]
    constructor
    · rintro ⟨⟨a, b, c⟩, d⟩
      refine ⟨a, b, fun hh => ?_⟩
      rcases hh with hh | ⟨y, hy, hi⟩
      · exact c hh
      · obtain rfl : y = x := by simpa using hy
        exact d hi
    · rintro ⟨a, b, c⟩
      exact ⟨⟨a, b, fun hh => c (.inl hh)⟩, fun hi => c (.inr ⟨x, by simp, hi⟩)⟩
  · rw [mget_set]
    split
    · rename_i ho
      subst ho
      constructor
      · intro hs
        obtain rfl : x.len = l := Option.some.inj hs
        exact List.mem_append.2 (.inr (by simp))
      · intro hmm
        rcases List.mem_append.1 hmm with h4 | h4
        · have := (h.tak _ _).2 h4
          rw [hkey] at this
          cases this
        · have : (⟨x.off, l⟩ : Ext) = x := by simpa using h4
          rw [← this]
    · rename_i ho
      rw [h.tak]
      constructor
      · exact fun h4 => List.mem_append.2 (.inl h4)
      · intro h4
        rcases List.mem_append.1 h4 with h5 | h5
        · exact h5
        · have : (⟨o, l⟩ : Ext) = x := by simpa using h5
          exact absurd (by rw [← this]) ho
theorem Inv.has (h : Inv N us fr tk) (e : Ext) : mget tk e.off = some e.len ↔ e ∈ us := h.tak e.off e.len
/-- What is released. -/
theorem Inv.release (h : Inv N us fr tk) {e : Ext} (he : e ∈ us) : insF fr e = ((insF fr e).1, 0) ∧ Inv N (us.filter fun x => decide (x ≠ e)) (insF fr e).1 (mdel tk e.off) := by
  obtain ⟨hv, hm, -, -⟩ := h.free
  obtain ⟨hp, hN⟩ := h.prop e he
  rcases insF_spec hv hp with ⟨-, o, ho, hi⟩ | ⟨r1, r2, r3, -, -⟩
  · exact absurd ⟨e, he, hi⟩ ((hm o).1 ho).2.2
  have hms : ∀ x, x ∈ (us.filter fun x => decide (x ≠ e)) ↔ x ∈ us ∧ x ≠ e := fun x => by simp [List.mem_filter]
  have hmm : ∀ o, mem (us.filter fun x => decide (x ≠ e)) o ↔ mem us o ∧ ¬ inn e o := fun o => by
    constructor
    · rintro ⟨x, hx, hi⟩
      obtain ⟨h1, h2⟩ := (hms x).1 hx
      exact ⟨⟨x, h1, hi⟩, apart_ne h.apart h1 he h2 o hi⟩
    · rintro ⟨⟨x, hx, hi⟩, hn⟩
      exact ⟨x, (hms x).2 ⟨hx, fun q => hn (q ▸ hi)⟩, hi⟩
  have hpe : 0 ≤ e.off ∧ 0 < e.len ∧ e.off + e.len ≤ 1048576 := hp
  refine ⟨Prod.ext rfl r1, inv_eq h.N0 h.N1 (fun x hx => h.prop x ((hms x).1 hx).1) (h.apart.filter _) r2 (fun o => ?_) (fun o l => ?_) (nd_del h.nd)⟩
  · rw [r3, hm, hmm]
    constructor
    · rintro (⟨a, b, c⟩ | hi)
      · exact ⟨a, b, fun q => c q.1⟩
      · have hi' : e.off ≤ o ∧ o < e.off + e.len := hi
        exact ⟨by omega, by omega, fun q => q.2 hi⟩
    · rintro ⟨a, b, c⟩
      by_cases hi : inn e o
      · exact .inr hi
      · exact .inl ⟨a, b, fun q => c ⟨q, hi⟩⟩
  · rw [mget_del h.nd, hms]
    split
    · rename_i ho
      subst ho
      constructor
      · intro q; cases q
      · rintro ⟨h1, h2⟩
        have : l = e.len := key_uniq h h1 he
        exact absurd (by rw [this]) h2
    · rename_i ho
      rw [h.tak]
      exact ⟨fun h1 => ⟨h1, fun q => ho (by rw [← q])⟩, fun h1 => h1.1⟩
theorem filter_len_eq {us : List Ext} {e : Ext} : (us.filter fun x => decide (x ≠ e)).length = us.length ↔ e ∉ us := by
  rw [List.length_filter_eq_length_iff]
  constructor
  · intro h he
    have := h e he
    simp at this
  · intro h x hx
    simp
    rintro rfl
    exact h hx
end
end Ex
end Go.Proofs.Ytejogdielfgeoaa
/- The allocator's code that only reads. -/
namespace Go.Proofs.Ytejogdielfgeoaa
open Go.RowKit Go.Shelf
set_option linter.unusedVariables false
set_option linter.unusedSimpArgs false
set_option maxRecDepth 100000
/-- An allocator's memory. -/
structure AlR where
  bA : Nat
  bm : Nat
  FA : Option Addr
  fn : Nat
  fc : Nat
  fr : List Ext
  tk : List (Int × Int)
structure AlW (w : World) (B : Nat) (x : AlR) : Prop where
  blk : Sl w B 1 (some ⟨x.bA, 0, none⟩) 2 2 [.slice x.FA x.fn x.fc, .map (some x.bm)]
  map : x.bm < B ∧ MpH w x.bm x.tk
  fr : Exts w B x.FA x.fn x.fc x.fr
  len : x.fr.length ≤ 500
section
variable {W w : World} {L : List Res} {x : AlR}
theorem AlW.at (h : AlW W W.heap.size x) (hw : St [] W L w) : AlW w w.heap.size x :=
  ⟨h.blk.at hw, ⟨Nat.lt_of_lt_of_le h.map.1 hw.pres.size, h.map.2.same (hw.base h.map.1 (by simp))⟩, h.fr.at hw, h.len⟩
end
theorem AlW.lt {w : World} {B : Nat} {x : AlR} (h : AlW w B x) : x.bA < B := by
  obtain ⟨b', o', e, hb, -⟩ := h.blk.cells (by omega)
  cases e
  exact hb
theorem ev_agg (e : Ext) : exV e = .agg #[.int .i64 e.off, .int .i64 e.len] := rfl
set_option maxRecDepth 100000 in
theorem sAlCode1 : type_of% (And.intro (And.intro @eBox.eq_1 @exV.eq_1) (And.intro @Nat.mul_one (And.intro @wrap_in @cMp))) := (And.intro (And.intro @eBox.eq_1 @exV.eq_1) (And.intro @Nat.mul_one (And.intro @wrap_in @cMp)))
set_option maxHeartbeats 2000000 in
theorem afind_any (x : AlR) (n : Int) (W : World) (h : AlW W W.heap.size x) : Calls Try.prog 33 #[.pointer (some ⟨x.bA, 0, none⟩), .int .i64 n] W
    fun e w' => e = .returned (.tuple #[exV (Ex.findF x.fr n).1, .int .i64 (Ex.findF x.fr n).2]) ∧ Below W.heap.size W w' := by
  have hbA := h.lt
  obtain ⟨bA, bm, FA, fn, fc, fr, tk⟩ := x
  have hE := h.fr
  have hl := hE.len
  have h500 := h.len
  obtain ⟨S, hS⟩ : ∃ S, Sz.rnd n = S := ⟨_, rfl⟩
  obtain ⟨e0, he⟩ : ∃ e0, Sz.err n = e0 := ⟨_, rfl⟩
  have hF : Ex.findF fr n = if e0 = 0 then (if (Ex.best S fr).len = 0 then (⟨0, 0⟩, 18) else (⟨(Ex.best S fr).off, S⟩, 0)) else (⟨0, 0⟩, e0) := by rw [← hS, ← he]; rfl
  dsimp only at *
  refine calls_cv2 (M := []) (n := 58) [.cell 4 39, .tmp 5] rfl Try.func33 rfl rfl (Nat.le_of_ble_eq_true rfl) (St.nil _ _) ?_
  refine cv_seq_k fun K hK => ?_
  refine cv_region_then rfl ?_
  simp -implicitDefEqProofs (disch := first | omega | decide) only [seval, -Int.reducePow, -Nat.reducePow, cC, pv, binv, sAlCode1, undef]
  intro b4 hb4
  refine hK _ _ ?_
  clear hK K
  refine cv_seq_k fun K hK => ?_
  refine cv_region_then rfl ?_
  simp -implicitDefEqProofs (disch := first | omega | decide) only [seval, -Int.reducePow, -Nat.reducePow, cC, pv, binv, sAlCode1, undef]
  refine callV_ret (fun w hw => round_any n w) ?_
  try simp -implicitDefEqProofs (disch := first | omega | decide) only [seval, -Int.reducePow, -Nat.reducePow, cC, pv, binv, sAlCode1, undef, hS, he]
  refine hK _ _ ?_
  clear hK K
  refine cv_seq_k fun K hK => ?_
  refine cv_seq_k fun K hK => ?_
  refine cv_region_then rfl ?_
  simp -implicitDefEqProofs (disch := first | omega | decide) only [seval, -Int.reducePow, -Nat.reducePow, cC, pv, binv, sAlCode1, undef]
  refine hK _ _ ?_
  clear hK K
  refine cv_cond ?_
  simp -implicitDefEqProofs (disch := first | omega | decide) only [seval, -Int.reducePow, -Nat.reducePow, cC, pv, binv, sAlCode1, undef]
  refine ⟨fun hc => ?_, fun hc => ?_⟩
  · have hz : ¬ e0 = 0 := nd_true ‹(!decide (e0 = 0)) = true›
    refine cv_seq_k fun K hK => ?_
    refine cv_region_then rfl ?_
    simp -implicitDefEqProofs (disch := first | omega | decide) only [seval, -Int.reducePow, -Nat.reducePow, cC, pv, binv, sAlCode1, undef]
    refine hK _ _ ?_
    clear hK K
    refine cv_ret ?_
    simp -implicitDefEqProofs (disch := first | omega | decide) only [seval, -Int.reducePow, -Nat.reducePow, cC, pv, binv, sAlCode1, undef, retQ2, ressV, packV]
    intro w hw
    rw [hF, if_neg hz]
    exact ⟨rfl, hw.below⟩
  have hz : e0 = 0 := Decidable.not_not.1 (nd_false ‹(!decide (e0 = 0)) = false›)
  rw [if_pos hz] at hF
  refine cv_skip ?_
  try simp only [blockQ, thenQ]
  refine hK _ _ ?_
  clear hK K
  refine cv_seq_k fun K hK => ?_
  refine cv_region_then rfl ?_
  simp -implicitDefEqProofs (disch := first | omega | decide) only [seval, -Int.reducePow, -Nat.reducePow, cC, pv, binv, sAlCode1, undef]
  intro b8 hb8 hf8
  refine hK _ _ ?_
  clear hK K
  refine cv_gen fun G1 hG => ?_
  have g1_0 := congrFun hG 0
  have g1_4 := congrFun hG 4
  have g1_6 := congrFun hG 6
  have g1_8 := congrFun hG 8
  clear hG
  try simp -implicitDefEqProofs (disch := first | omega | decide) only [seval, -Int.reducePow, -Nat.reducePow, cC, pv, binv, sAlCode1, undef] at g1_0 g1_4 g1_6 g1_8
  have g1 := And.intro g1_0 (And.intro g1_4 (And.intro g1_6 g1_8))
  refine cv_seq_k fun K hK => ?_
  refine cv_cut (fun _ _ => True) (fun F' L' => F' 4 = G1 4 ∧ F' 6 = G1 6 ∧ F' 8 = G1 8 ∧ L' = [eBox b8 (Ex.best S fr), eBox b4 ⟨0, 0⟩]) ?_ ?_
  · refine cv_seq_k fun K hK => ?_
    refine cv_region_then rfl ?_
    simp -implicitDefEqProofs (disch := first | omega | decide) only [seval, -Int.reducePow, -Nat.reducePow, cC, pv, binv, sAlCode1, undef, g1]
    refine hK _ _ ?_
    clear hK K
    refine cv_cond ?_
    simp -implicitDefEqProofs (disch := first | omega | decide) only [seval, -Int.reducePow, -Nat.reducePow, cC, pv, binv, sAlCode1, undef, g1]
    refine cv_seq_k fun K hK => ?_
    refine cv_region_then rfl ?_
    simp -implicitDefEqProofs (disch := first | omega | decide) only [seval, -Int.reducePow, -Nat.reducePow, cC, pv, binv, sAlCode1, undef, g1]
    refine ⟨_, h.blk.ld1 (m := 1) (i := 0) (by kernel_rfl) rfl, fun tok htok => ?_⟩
    subst htok
    simp -implicitDefEqProofs (disch := first | omega | decide) only [seval, -Int.reducePow, -Nat.reducePow, cC, pv, binv, sAlCode1, undef, g1]
    refine hK _ _ ?_
    clear hK K
    refine cv_gen fun G2 hG => ?_
    have g2_4 := congrFun hG 4
    have g2_6 := congrFun hG 6
    have g2_8 := congrFun hG 8
    have g2_26 := congrFun hG 26
    have g2_27 := congrFun hG 27
    have g2_28 := congrFun hG 28
    clear hG
    try simp -implicitDefEqProofs (disch := first | omega | decide) only [seval, -Int.reducePow, -Nat.reducePow, cC, pv, binv, sAlCode1, undef, g1] at g2_4 g2_6 g2_8 g2_26 g2_27 g2_28
    have g2 := And.intro g2_4 (And.intro g2_6 (And.intro g2_8 (And.intro g2_26 (And.intro g2_27 g2_28))))
    refine cv_block ?_
    refine cv_loop (fun F' L' => ∃ (i : Nat) (b : Ext), F' 4 = G2 4 ∧ F' 6 = G2 6 ∧ F' 8 = G2 8 ∧ F' 26 = G2 26 ∧ F' 27 = G2 27 ∧ F' 28 = .int .i64 (i : Int) ∧ L' = [eBox b8 b, eBox b4 ⟨0, 0⟩] ∧ i ≤ fn ∧ b = Ex.best S (fr.take i)) (fun F' L' => 600 - (intOf (F' 28)).toNat) ?_ ?_
    · refine ⟨0, ⟨0, 0⟩, ?_⟩
      simp -implicitDefEqProofs (disch := first | omega | decide) only [seval, -Int.reducePow, -Nat.reducePow, cC, pv, binv, sAlCode1, undef, g1, g2]
      exact ⟨by omega, rfl⟩
    intro G3 L' hI
    obtain ⟨i, b, q4, q6, q8, q26, q27, q28, rfl, ⟨hi, hb⟩⟩ := hI
    have g3_4 := q4.trans g2_4
    have g3_6 := q6.trans g2_6
    have g3_8 := q8.trans g2_8
    have g3_26 := q26.trans g2_26
    have g3_27 := q27.trans g2_27
    have g3_28 := q28
    clear q4 q6 q8 q26 q27 q28
    have g3 := And.intro g3_4 (And.intro g3_6 (And.intro g3_8 (And.intro g3_26 (And.intro g3_27 g3_28))))
    refine cv_seq_k fun K hK => ?_
    refine cv_region_then rfl ?_
    simp -implicitDefEqProofs (disch := first | omega | decide) only [seval, -Int.reducePow, -Nat.reducePow, cC, pv, binv, sAlCode1, undef, g1, g2, g3]
    refine hK _ _ ?_
    clear hK K
    refine cv_seq_k fun K hK => ?_
    refine cv_cond ?_
    simp -implicitDefEqProofs (disch := first | omega | decide) only [seval, -Int.reducePow, -Nat.reducePow, cC, pv, binv, sAlCode1, undef, g1, g2, g3]
    refine ⟨fun hc => ?_, fun hc => ?_⟩
    · refine cv_skip ?_
      try simp only [blockQ, thenQ]
      have hit : i < fn := by have := of_decide_eq_true ‹decide ((i : Int) < (fn : Int)) = true›; omega
      obtain ⟨bF, oF, rfl, hbF, -⟩ := hE.cells (by omega)
      obtain ⟨x, hx⟩ : ∃ x, Ex.get fr i = x := ⟨_, rfl⟩
      have hbt := Ex.best_take (size := S) (fr := fr) (i := i) (by omega)
      rw [hx, ← hb] at hbt
      refine hK _ _ ?_
      clear hK K
      refine cv_seq_k fun K hK => ?_
      refine cv_block ?_
      refine cv_seq_k fun K hK => ?_
      refine cv_region_then rfl ?_
      simp -implicitDefEqProofs (disch := first | omega | decide) only [seval, -Int.reducePow, -Nat.reducePow, cC, pv, binv, sAlCode1, undef, g1, g2, g3]
      refine ⟨_, hE.ld hit, fun tok htok => ?_⟩
      subst htok
      simp -implicitDefEqProofs (disch := first | omega | decide) only [seval, -Int.reducePow, -Nat.reducePow, cC, pv, binv, sAlCode1, undef, hx, g1, g2, g3]
      intro b10 hb10 hf10
      refine hK _ _ ?_
      clear hK K
      refine cv_gen fun G4 hG => ?_
      have g4_4 := congrFun hG 4
      have g4_6 := congrFun hG 6
      have g4_8 := congrFun hG 8
      have g4_10 := congrFun hG 10
      have g4_26 := congrFun hG 26
      have g4_27 := congrFun hG 27
      have g4_28 := congrFun hG 28
      clear hG
      try simp -implicitDefEqProofs (disch := first | omega | decide) only [seval, -Int.reducePow, -Nat.reducePow, cC, pv, binv, sAlCode1, undef, g1, g2, g3] at g4_4 g4_6 g4_8 g4_10 g4_26 g4_27 g4_28
      have g4 := And.intro g4_4 (And.intro g4_6 (And.intro g4_8 (And.intro g4_10 (And.intro g4_26 (And.intro g4_27 g4_28)))))
      refine cv_seq_k fun K hK => ?_
      refine cv_cut (fun _ _ => True) (fun F' L' => F' 4 = G4 4 ∧ F' 6 = G4 6 ∧ F' 8 = G4 8 ∧ F' 10 = G4 10 ∧ F' 26 = G4 26 ∧ F' 27 = G4 27 ∧ F' 28 = G4 28 ∧ F' 47 = .bool (decide (S ≤ x.len ∧ (b.len = 0 ∨ x.len < b.len))) ∧ L' = [eBox b10 x, eBox b8 b, eBox b4 ⟨0, 0⟩]) ?_ ?_
      · refine cv_region_then rfl ?_
        simp -implicitDefEqProofs (disch := first | omega | decide) only [seval, -Int.reducePow, -Nat.reducePow, cC, pv, binv, sAlCode1, undef, g1, g2, g3, g4]
        repeat' ((first | refine vcg_cases (fun hg => ?_) (fun hg => ?_) | refine vdg_cases (fun hg => ?_) (fun hg => ?_)) <;> ((try simp only [Bool.not_eq_true', Bool.not_eq_false', decide_eq_true_eq, decide_eq_false_iff_not] at hg); (try simp -implicitDefEqProofs (disch := first | omega | decide) only [seval, -Int.reducePow, -Nat.reducePow, cC, pv, binv, sAlCode1, undef, hg, g1, g2, g3, g4])))
        all_goals (repeat' refine And.intro ?_ ?_)
        all_goals (first | with_reducible rfl | (refine congrArg Value.bool ?_; rw [Bool.eq_iff_iff]; (try simp only [decide_eq_true_eq, eq_self, true_and, and_true, false_and, and_false, true_or, or_true, false_or, or_false, not_true_eq_false, not_false_eq_true, true_iff, iff_true, false_iff, iff_false, Bool.false_eq_true, Bool.not_eq_true', Bool.not_eq_true, decide_eq_false_iff_not, Bool.and_eq_true, Bool.or_eq_true]) <;> omega) | (refine congrArg (Value.int _) ?_; omega) | omega)
      intro G5 L' _ hF
      obtain ⟨q4, q6, q8, q10, q26, q27, q28, q47, rfl⟩ := hF
      have g5_4 := q4.trans g4_4
      have g5_6 := q6.trans g4_6
      have g5_8 := q8.trans g4_8
      have g5_10 := q10.trans g4_10
      have g5_26 := q26.trans g4_26
      have g5_27 := q27.trans g4_27
      have g5_28 := q28.trans g4_28
      have g5_47 := q47
      clear q4 q6 q8 q10 q26 q27 q28 q47
      have g5 := And.intro g5_4 (And.intro g5_6 (And.intro g5_8 (And.intro g5_10 (And.intro g5_26 (And.intro g5_27 (And.intro g5_28 g5_47))))))
      refine hK _ _ ?_
      clear hK K
      refine cv_cond ?_
      simp -implicitDefEqProofs (disch := first | omega | decide) only [seval, -Int.reducePow, -Nat.reducePow, cC, pv, binv, sAlCode1, undef, g1, g2, g3, g5]
      refine ⟨fun hc => ?_, fun hc => ?_⟩
      · have q1 := of_decide_eq_true hc
        have hs : Ex.bstep S b x = x := if_pos q1
        rw [hs] at hbt
        refine cv_region_q rfl ?_
        simp -implicitDefEqProofs (disch := first | omega | decide) only [seval, -Int.reducePow, -Nat.reducePow, cC, pv, binv, sAlCode1, undef, g1, g2, g3, g5]
        refine hK _ _ ?_
        clear hK K
        refine cv_pick [1, 2] (by decide) ?_
        simp only [pickL, nth]
        refine cv_region_then rfl ?_
        simp -implicitDefEqProofs (disch := first | omega | decide) only [seval, -Int.reducePow, -Nat.reducePow, cC, pv, binv, sAlCode1, undef, wrap_in, g1, g2, g3, g5]
        refine ⟨⟨i + 1, x, ?_⟩, ?_⟩
        · simp -implicitDefEqProofs (disch := first | omega | decide) only [seval, -Int.reducePow, -Nat.reducePow, cC, pv, binv, sAlCode1, undef, Int.natCast_add, g1, g2, g3, g5]
          exact ⟨by omega, hbt.symm⟩
        · simp only [intOf]; omega
      · have q1 := of_decide_eq_false hc
        have hs : Ex.bstep S b x = b := if_neg q1
        rw [hs] at hbt
        refine cv_skip ?_
        try simp only [blockQ, thenQ]
        refine hK _ _ ?_
        clear hK K
        refine cv_pick [1, 2] (by decide) ?_
        simp only [pickL, nth]
        refine cv_region_then rfl ?_
        simp -implicitDefEqProofs (disch := first | omega | decide) only [seval, -Int.reducePow, -Nat.reducePow, cC, pv, binv, sAlCode1, undef, wrap_in, g1, g2, g3, g5]
        refine ⟨⟨i + 1, b, ?_⟩, ?_⟩
        · simp -implicitDefEqProofs (disch := first | omega | decide) only [seval, -Int.reducePow, -Nat.reducePow, cC, pv, binv, sAlCode1, undef, Int.natCast_add, g1, g2, g3, g5]
          exact ⟨by omega, hbt.symm⟩
        · simp only [intOf]; omega
    refine cv_exit ?_
    simp only [blockQ, thenQ, if_true, ite_true]
    have hit : ¬ i < fn := by have := of_decide_eq_false ‹decide ((i : Int) < (fn : Int)) = false›; omega
    rw [List.take_of_length_le (by omega)] at hb
    subst hb
    simp -implicitDefEqProofs (disch := first | omega | decide) only [seval, -Int.reducePow, -Nat.reducePow, cC, pv, binv, sAlCode1, undef, g1, g2, g3]
  intro G6 L' _ hF
  obtain ⟨q4, q6, q8, rfl⟩ := hF
  have g6_4 := q4.trans g1_4
  have g6_6 := q6.trans g1_6
  have g6_8 := q8.trans g1_8
  clear q4 q6 q8
  have g6 := And.intro g6_4 (And.intro g6_6 g6_8)
  refine hK _ _ ?_
  clear hK K
  refine cv_seq_k fun K hK => ?_
  refine cv_seq_k fun K hK => ?_
  refine cv_region_then rfl ?_
  simp -implicitDefEqProofs (disch := first | omega | decide) only [seval, -Int.reducePow, -Nat.reducePow, cC, pv, binv, sAlCode1, undef, g6]
  refine hK _ _ ?_
  clear hK K
  refine cv_cond ?_
  simp -implicitDefEqProofs (disch := first | omega | decide) only [seval, -Int.reducePow, -Nat.reducePow, cC, pv, binv, sAlCode1, undef, g6]
  refine ⟨fun hc => ?_, fun hc => ?_⟩
  · have q1 := of_decide_eq_true ‹_›
    refine cv_seq_k fun K hK => ?_
    refine cv_region_then rfl ?_
    simp -implicitDefEqProofs (disch := first | omega | decide) only [seval, -Int.reducePow, -Nat.reducePow, cC, pv, binv, sAlCode1, undef, g6]
    refine hK _ _ ?_
    clear hK K
    refine cv_ret ?_
    simp -implicitDefEqProofs (disch := first | omega | decide) only [seval, -Int.reducePow, -Nat.reducePow, cC, pv, binv, sAlCode1, undef, retQ2, ressV, packV, g6]
    intro w hw
    rw [hF, if_pos q1]
    exact ⟨rfl, hw.below⟩
  have q1 := of_decide_eq_false ‹_›
  refine cv_skip ?_
  try simp only [blockQ, thenQ]
  refine hK _ _ ?_
  clear hK K
  refine cv_seq_k fun K hK => ?_
  refine cv_region_then rfl ?_
  simp -implicitDefEqProofs (disch := first | omega | decide) only [seval, -Int.reducePow, -Nat.reducePow, cC, pv, binv, sAlCode1, undef, g6]
  refine hK _ _ ?_
  clear hK K
  refine cv_ret ?_
  simp -implicitDefEqProofs (disch := first | omega | decide) only [seval, -Int.reducePow, -Nat.reducePow, cC, pv, binv, sAlCode1, undef, retQ2, ressV, packV, g6]
  intro w hw
  rw [hF, if_neg q1]
  exact ⟨rfl, hw.below⟩
theorem Fits_any (x : AlR) (n : Int) (W : World) (h : AlW W W.heap.size x) : Calls Try.prog 15 #[.pointer (some ⟨x.bA, 0, none⟩), .int .i64 n] W
    fun e w' => e = .returned (.int .i64 (Ex.findF x.fr n).2) ∧ Below W.heap.size W w' := by
  refine calls_cv (M := []) (n := 14) [.tmp 4] rfl Try.func15 rfl rfl (Nat.le_of_ble_eq_true rfl) (St.nil _ _) ?_
  refine cv_seq_k fun K hK => ?_
  refine cv_region_then rfl ?_
  simp -implicitDefEqProofs (disch := first | omega | decide) only [seval, -Int.reducePow, -Nat.reducePow, cC, pv, binv, sAlCode1, undef]
  refine hK _ _ ?_
  clear hK K
  refine cv_seq_k fun K hK => ?_
  refine cv_region_then rfl ?_
  simp -implicitDefEqProofs (disch := first | omega | decide) only [seval, -Int.reducePow, -Nat.reducePow, cC, pv, binv, sAlCode1, undef]
  refine callV_ret (fun w hw => afind_any x n w (h.at hw)) ?_
  try simp -implicitDefEqProofs (disch := first | omega | decide) only [seval, -Int.reducePow, -Nat.reducePow, cC, pv, binv, sAlCode1, undef]
  intro b5 hb5
  refine hK _ _ ?_
  clear hK K
  refine cv_seq_k fun K hK => ?_
  refine cv_region_then rfl ?_
  simp -implicitDefEqProofs (disch := first | omega | decide) only [seval, -Int.reducePow, -Nat.reducePow, cC, pv, binv, sAlCode1, undef]
  refine hK _ _ ?_
  clear hK K
  refine cv_ret ⟨_, (by simp -implicitDefEqProofs (disch := first | omega | decide) only [seval, -Int.reducePow, -Nat.reducePow, cC, pv, binv, sAlCode1, undef]; rfl), fun w hw => ?_⟩
  exact ⟨rfl, hw.below⟩
theorem aHas_any (x : AlR) (e : Ext) (W : World) (h : AlW W W.heap.size x) : Calls Try.prog 17 #[.pointer (some ⟨x.bA, 0, none⟩), exV e] W
    fun en w' => en = .returned (.bool (decide (mget x.tk e.off = some e.len))) ∧ Below W.heap.size W w' := by
  have hbA := h.lt
  refine calls_cv (M := []) (n := 26) [.tmp 4] rfl Try.func17 rfl rfl (Nat.le_of_ble_eq_true rfl) (St.nil _ _) ?_
  refine cv_seq_k fun K hK => ?_
  refine cv_region_then rfl ?_
  simp -implicitDefEqProofs (disch := first | omega | decide) only [seval, -Int.reducePow, -Nat.reducePow, cC, pv, binv, sAlCode1, undef]
  intro b3 hb3
  refine hK _ _ ?_
  clear hK K
  refine cv_seq_k fun K hK => ?_
  refine cv_seq_k fun K hK => ?_
  refine cv_region_then rfl ?_
  simp -implicitDefEqProofs (disch := first | omega | decide) only [seval, -Int.reducePow, -Nat.reducePow, cC, pv, binv, sAlCode1, undef]
  refine hK _ _ ?_
  clear hK K
  refine cv_cond ?_
  simp -implicitDefEqProofs (disch := first | omega | decide) only [seval, -Int.reducePow, -Nat.reducePow, cC, pv, binv, sAlCode1, undef]
  refine cv_skip ?_
  try simp only [blockQ, thenQ]
  refine hK _ _ ?_
  clear hK K
  refine cv_seq_k fun K hK => ?_
  refine cv_draw [(true, 0), (true, 1), (true, 2), (true, 3), (true, 4), (true, 5), (false, 6), (true, 7), (true, 8), (true, 9), (true, 10), (true, 11)] [] mixA rfl (by kernel_rfl) (by kernel_rfl) rfl rfl ?_
  simp -implicitDefEqProofs (disch := first | omega | decide) only [seval, -Int.reducePow, -Nat.reducePow, cC, pv, binv, sAlCode1, undef]
  refine ⟨_, h.blk.ld1 (m := 1) (i := 1) (by kernel_rfl) rfl, fun tok htok => ?_⟩
  subst htok
  simp -implicitDefEqProofs (disch := first | omega | decide) only [seval, -Int.reducePow, -Nat.reducePow, cC, pv, binv, sAlCode1, undef]
  refine xv_lookup (b := x.bm) (l := x.tk) (x := e.off) (by kernel_rfl) rfl rfl (fun w hw => h.map.2.same (hw.base h.map.1 (by simp))) ?_
  simp -implicitDefEqProofs (disch := first | omega | decide) only [seval, -Int.reducePow, -Nat.reducePow, cC, pv, binv, sAlCode1, undef]
  refine hK _ _ ?_
  clear hK K
  have hv : ∀ o : Option Int, (if o.isSome then decide (o.getD 0 = e.len) else false) = decide (o = some e.len) := fun o => by cases o <;> simp
  obtain ⟨o, ho⟩ : ∃ o, mget x.tk e.off = o := ⟨_, rfl⟩
  cases o with
  | none =>
    refine cv_seq_k fun K hK => ?_
    refine cv_region_then rfl ?_
    simp -implicitDefEqProofs (disch := first | omega | decide) only [seval, -Int.reducePow, -Nat.reducePow, cC, pv, binv, sAlCode1, undef, ho, Option.isSome_none, Option.getD_none]
    refine hK _ _ ?_
    clear hK K
    refine cv_ret ⟨_, (by simp -implicitDefEqProofs (disch := first | omega | decide) only [seval, -Int.reducePow, -Nat.reducePow, cC, pv, binv, sAlCode1, undef]; rfl), fun w hw => ?_⟩
    rw [ho]
    exact ⟨rfl, hw.below⟩
  | some v =>
    refine cv_seq_k fun K hK => ?_
    refine cv_region_then rfl ?_
    simp -implicitDefEqProofs (disch := first | omega | decide) only [seval, -Int.reducePow, -Nat.reducePow, cC, pv, binv, sAlCode1, undef, ho, Option.isSome_some, Option.getD_some]
    refine hK _ _ ?_
    clear hK K
    refine cv_ret ⟨_, (by simp -implicitDefEqProofs (disch := first | omega | decide) only [seval, -Int.reducePow, -Nat.reducePow, cC, pv, binv, sAlCode1, undef]; rfl), fun w hw => ?_⟩
    rw [ho]
    exact ⟨by simp, hw.below⟩
theorem aFreeList_any (x : AlR) (W : World) (h : AlW W W.heap.size x) : Calls Try.prog 18 #[.pointer (some ⟨x.bA, 0, none⟩)] W
    (rowPost 39 2 (fun v => v) (exCells x.fr) W) := by
  have hbA := h.lt
  have hln := h.fr.len
  have h500 := h.len
  refine calls_cv (M := []) (n := 10) [.tmp 2] rfl Try.func18 rfl rfl (Nat.le_of_ble_eq_true rfl) (St.nil _ _) ?_
  refine cv_seq_k fun K hK => ?_
  refine cv_region_then rfl ?_
  simp -implicitDefEqProofs (disch := first | omega | decide) only [seval, -Int.reducePow, -Nat.reducePow, cC, pv, binv, sAlCode1, undef]
  refine hK _ _ ?_
  clear hK K
  refine cv_seq_k fun K hK => ?_
  refine cv_seq_k fun K hK => ?_
  refine cv_region_then rfl ?_
  simp -implicitDefEqProofs (disch := first | omega | decide) only [seval, -Int.reducePow, -Nat.reducePow, cC, pv, binv, sAlCode1, undef]
  refine hK _ _ ?_
  clear hK K
  refine cv_cond ?_
  simp -implicitDefEqProofs (disch := first | omega | decide) only [seval, -Int.reducePow, -Nat.reducePow, cC, pv, binv, sAlCode1, undef]
  refine cv_skip ?_
  try simp only [blockQ, thenQ]
  refine hK _ _ ?_
  clear hK K
  refine cv_seq_k fun K hK => ?_
  refine cv_region_then rfl ?_
  simp -implicitDefEqProofs (disch := first | omega | decide) only [seval, -Int.reducePow, -Nat.reducePow, cC, pv, binv, sAlCode1, undef]
  refine ⟨_, h.blk.ld1 (m := 1) (i := 0) (by kernel_rfl) rfl, fun tok htok => ?_⟩
  subst htok
  simp -implicitDefEqProofs (disch := first | omega | decide) only [seval, -Int.reducePow, -Nat.reducePow, cC, pv, binv, sAlCode1, undef]
  refine callV_row (fun A n c => .slice A n c) (fun w hw => clone_ext x.FA x.fn x.fc x.fr w (h.fr.at hw) (by omega)) ?_
  intro A n c hl hr
  simp -implicitDefEqProofs (disch := first | omega | decide) only [seval, -Int.reducePow, -Nat.reducePow, cC, pv, binv, sAlCode1, undef]
  refine hK _ _ ?_
  clear hK K
  refine cv_ret ⟨_, (by simp -implicitDefEqProofs (disch := first | omega | decide) only [seval, -Int.reducePow, -Nat.reducePow, cC, pv, binv, sAlCode1, undef]; rfl), fun w hw => ?_⟩
  exact ⟨_, _, _, rfl, hw.rowNew (by simp), hw.below⟩
end Go.Proofs.Ytejogdielfgeoaa
/- The allocator's code that writes: New, Alloc, Free. -/
namespace Go.Proofs.Ytejogdielfgeoaa
open Go.RowKit Go.Shelf
set_option linter.unusedVariables false
set_option linter.unusedSimpArgs false
set_option maxRecDepth 100000
def alL (x : AlR) : List Res := [.blk x.bA 42 [.slice x.FA x.fn x.fc, .map (some x.bm)], mpR x.bm x.tk, .row (.slice x.FA x.fn x.fc) 39 2 x.fn (exCells x.fr)]
section
variable {M : List Nat} {W w : World} {L : List Res} {x : AlR}
theorem AlW.of (hw : St M W L w) (i j k : Nat) (hi : nth L i = some (.blk x.bA 42 [.slice x.FA x.fn x.fc, .map (some x.bm)])) (hj : nth L j = some (mpR x.bm x.tk))
    (hk : nth L k = some (.row (.slice x.FA x.fn x.fc) 39 2 x.fn (exCells x.fr))) (hl : x.fr.length ≤ 500) : AlW w w.heap.size x :=
  ⟨Sl.of_blk hw (nth_mem hi) rfl (by omega), ⟨(hw.own _ (nth_mem hj) x.bm (by simp [mpR_foot])).2, hw.mpH j hj⟩, Exts.of_row hw (nth_mem hk), hl⟩
end
set_option maxRecDepth 100000 in
theorem sAlMut1 : type_of% (And.intro (And.intro @eBox.eq_1 (And.intro @exV.eq_1 @alL.eq_1)) (And.intro (And.intro @Nat.mul_one @wrap_in) (And.intro @cMp @cM))) := (And.intro (And.intro @eBox.eq_1 (And.intro @exV.eq_1 @alL.eq_1)) (And.intro (And.intro @Nat.mul_one @wrap_in) (And.intro @cMp @cM)))
set_option maxHeartbeats 2000000 in
theorem aAlloc_any (x : AlR) (N : Int) (us : List Ext) (n : Int) (W : World) (hst : St (feet (alL x)) W (alL x) W) (hI : Ex.Inv N us x.fr x.tk) (hl : us.length ≤ 100) :
    Calls Try.prog 13 #[.pointer (some ⟨x.bA, 0, none⟩), .int .i64 n] W
    fun e w' => ∃ y : AlR, e = .returned (.tuple #[exV (Ex.findF x.fr n).1, .int .i64 (Ex.findF x.fr n).2]) ∧
      (y.bA = x.bA ∧ (¬ (Ex.findF x.fr n).2 = 0 → y = x) ∧ ((Ex.findF x.fr n).2 = 0 → Ex.Inv N (us ++ [(Ex.findF x.fr n).1]) y.fr y.tk)) ∧ St (feet (alL x)) W (alL y) w' := by
  have hfl := hI.frLen
  have hal := hI.alloc (n := n)
  obtain ⟨M, hM⟩ : ∃ M, feet (alL x) = M := ⟨_, rfl⟩
  rw [hM] at hst ⊢
  obtain ⟨q, hq⟩ : ∃ q, Ex.findF x.fr n = q := ⟨_, rfl⟩
  rw [hq] at hal ⊢
  have hfe := Ex.findF_err (fr := x.fr) (n := n)
  rw [hq] at hfe
  obtain ⟨bA, bm, FA, fn, fc, fr, tk⟩ := x
  dsimp only at hfl hal hq hI hfe
  unfold alL at hst
  dsimp only at hst
  clear hM
  refine calls_cv2 (M := M) (n := 39) [.cell 4 39, .tmp 5] rfl Try.func13 rfl rfl (Nat.le_of_ble_eq_true rfl)  hst ?_
  refine cv_seq_k fun K hK => ?_
  refine cv_region_then rfl ?_
  simp -implicitDefEqProofs (disch := first | omega | decide) only [seval, -Int.reducePow, -Nat.reducePow, cC, pv, binv, sAlMut1, undef]
  intro b4 hb4 hf4
  refine hK _ _ ?_
  clear hK K
  refine cv_seq_k fun K hK => ?_
  refine cv_region_then rfl ?_
  simp -implicitDefEqProofs (disch := first | omega | decide) only [seval, -Int.reducePow, -Nat.reducePow, cC, pv, binv, sAlMut1, undef]
  refine callV_ret (fun w hw => (afind_any ⟨bA, bm, FA, fn, fc, fr, tk⟩ n w (AlW.of hw 1 2 3 rfl rfl rfl (by dsimp only; omega)))) ?_
  try simp -implicitDefEqProofs (disch := first | omega | decide) only [seval, -Int.reducePow, -Nat.reducePow, cC, pv, binv, sAlMut1, undef, hq]
  intro b6 hb6 hf6
  refine hK _ _ ?_
  clear hK K
  refine cv_gen fun G1 hG => ?_
  have g1_0 := congrFun hG 0
  have g1_4 := congrFun hG 4
  have g1_6 := congrFun hG 6
  have g1_7 := congrFun hG 7
  clear hG
  try simp -implicitDefEqProofs (disch := first | omega | decide) only [seval, -Int.reducePow, -Nat.reducePow, cC, pv, binv, sAlMut1, undef] at g1_0 g1_4 g1_6 g1_7
  have g1 := And.intro g1_0 (And.intro g1_4 (And.intro g1_6 g1_7))
  refine cv_seq_k fun K hK => ?_
  refine cv_seq_k fun K hK => ?_
  refine cv_region_then rfl ?_
  simp -implicitDefEqProofs (disch := first | omega | decide) only [seval, -Int.reducePow, -Nat.reducePow, cC, pv, binv, sAlMut1, undef, g1]
  refine hK _ _ ?_
  clear hK K
  refine cv_cond ?_
  simp -implicitDefEqProofs (disch := first | omega | decide) only [seval, -Int.reducePow, -Nat.reducePow, cC, pv, binv, sAlMut1, undef, g1]
  refine ⟨fun hc => ?_, fun hc => ?_⟩
  · have hz : ¬ q.2 = 0 := nd_true ‹(!decide (q.2 = 0)) = true›
    refine cv_seq_k fun K hK => ?_
    refine cv_region_then rfl ?_
    simp -implicitDefEqProofs (disch := first | omega | decide) only [seval, -Int.reducePow, -Nat.reducePow, cC, pv, binv, sAlMut1, undef, g1]
    refine hK _ _ ?_
    clear hK K
    refine cv_ret ?_
    simp -implicitDefEqProofs (disch := first | omega | decide) only [seval, -Int.reducePow, -Nat.reducePow, cC, pv, binv, sAlMut1, undef, retQ2, ressV, packV, g1]
    intro w hw
    rw [hfe hz]
    exact ⟨⟨bA, bm, FA, fn, fc, fr, tk⟩, rfl, ⟨rfl, fun _ => rfl, fun h => absurd h hz⟩, hw.tail.tail⟩
  have hz : q.2 = 0 := Decidable.not_not.1 (nd_false ‹(!decide (q.2 = 0)) = false›)
  obtain ⟨a1, a2, a3, a4, a5, a6, a7, a8⟩ := hal hz
  obtain ⟨rr, hrr⟩ : ∃ rr, (Ex.remF fr q.1).1 = rr := ⟨_, rfl⟩
  rw [hrr] at a2 a3
  refine cv_skip ?_
  try simp only [blockQ, thenQ]
  refine hK _ _ ?_
  clear hK K
  refine cv_seq_k fun K hK => ?_
  refine cv_cut (fun _ _ => True) (fun F' L' => ∃ (A1 : Option Addr) (n1 c1 : Nat), F' 0 = G1 0 ∧ F' 4 = G1 4 ∧ F' 6 = G1 6 ∧ L' = [.row (.slice A1 n1 c1) 39 2 n1 (exCells rr), eBox b6 q.1, eBox b4 ⟨0, 0⟩, .blk bA 42 [.slice A1 n1 c1, .map (some bm)], mpR bm tk, .row (.slice FA fn fc) 39 2 fn (exCells fr)]) ?_ ?_
  · refine cv_more [] (by decide) (by simp only [pickL, nth, suf_cons, suf_nil, List.mem_cons, true_or, or_true, and_true, eq_self]) (.rd 0 (.rd 1 (.rd 2 (.rd 3 (.more 4 (.act 5 (.act 6 (.rd 7 (.rd 8 (.rd 9 (.rd 10 (.rd 11 (.act 12 (.done))))))))) (.act 5 (.act 4 (.act 6 (.rd 7 (.rd 8 (.rd 9 (.rd 10 (.rd 11 (.act 12 (.done))))))))))))))) [] mixA rfl (by kernel_rfl) (by kernel_rfl) (by kernel_rfl) (by kernel_rfl) ?_
    simp only [pickL, nth]
    simp -implicitDefEqProofs (disch := first | omega | decide) only [seval, -Int.reducePow, -Nat.reducePow, cC, pv, binv, sAlMut1, undef, g1]
    repeat' (first
      | refine And.intro ?_ ?_
      | (refine callV_row (fun A n c => .tuple #[.slice A n c, .int .i64 0]) (fun w hw => (by have := remove_any FA fn fc fr q.1 w (Exts.of_row hw (.tail _ (.tail _ (.tail _ (.tail _ (.head _)))))) (by have := Exts.of_row hw (.tail _ (.tail _ (.tail _ (.tail _ (.head _))))); have := this.len; omega); rw [a2] at this; exact this)) ?_
         intro A1 n1 c1 hl1 hr1
         simp -implicitDefEqProofs (disch := first | omega | decide) only [seval, -Int.reducePow, -Nat.reducePow, cC, pv, binv, sAlMut1, undef, g1]))
    all_goals
      refine ⟨[0, 1, 2, 3, 4, 5], by decide, ?_⟩
      simp only [pickL, nth]
      refine ⟨A1, n1, c1, ?_⟩
      simp -implicitDefEqProofs (disch := first | omega | decide) only [seval, -Int.reducePow, -Nat.reducePow, cC, pv, binv, sAlMut1, undef, g1]
  intro G2 L' _ hF
  obtain ⟨A1, n1, c1, q0, q4, q6, rfl⟩ := hF
  have g2_0 := q0.trans g1_0
  have g2_4 := q4.trans g1_4
  have g2_6 := q6.trans g1_6
  clear q0 q4 q6
  have g2 := And.intro g2_0 (And.intro g2_4 g2_6)
  refine hK _ _ ?_
  clear hK K
  refine cv_seq_k fun K hK => ?_
  refine cv_draw [(true, 0), (true, 1), (true, 2), (true, 3), (true, 4), (true, 5), (true, 6), (true, 7), (false, 8)] [8] mixA rfl (by kernel_rfl) (by kernel_rfl) rfl rfl ?_
  simp -implicitDefEqProofs (disch := first | omega | decide) only [seval, -Int.reducePow, -Nat.reducePow, cC, pv, binv, sAlMut1, undef, g2]
  refine xu_mapset 4 (by kernel_rfl) rfl rfl rfl rfl ?_
  simp -implicitDefEqProofs (disch := first | omega | decide) only [seval, -Int.reducePow, -Nat.reducePow, cC, pv, binv, sAlMut1, undef, g2]
  refine hK _ _ ?_
  clear hK K
  refine cv_seq_k fun K hK => ?_
  refine cv_region_then rfl ?_
  simp -implicitDefEqProofs (disch := first | omega | decide) only [seval, -Int.reducePow, -Nat.reducePow, cC, pv, binv, sAlMut1, undef, g2]
  refine hK _ _ ?_
  clear hK K
  refine cv_ret ?_
  simp -implicitDefEqProofs (disch := first | omega | decide) only [seval, -Int.reducePow, -Nat.reducePow, cC, pv, binv, sAlMut1, undef, retQ2, ressV, packV, g2]
  intro w hw
  refine ⟨⟨bA, bm, A1, n1, c1, rr, mset tk q.1.off q.1.len⟩, by rw [hz], ⟨rfl, fun h => absurd hz h, fun _ => a3⟩, ?_⟩
  exact hw.pick (ix := [3, 4, 0]) (by decide)
set_option maxHeartbeats 2000000 in
theorem aFree_any (x : AlR) (N : Int) (us : List Ext) (e : Ext) (W : World) (hst : St (feet (alL x)) W (alL x) W) (hI : Ex.Inv N us x.fr x.tk) (hl : us.length ≤ 100) :
    Calls Try.prog 16 #[.pointer (some ⟨x.bA, 0, none⟩), exV e] W
    fun en w' => ∃ y : AlR, en = .returned (.int .i64 (if e ∈ us then 0 else 6)) ∧
      (y.bA = x.bA ∧ (e ∉ us → y = x) ∧ (e ∈ us → Ex.Inv N (us.filter fun x => decide (x ≠ e)) y.fr y.tk)) ∧ St (feet (alL x)) W (alL y) w' := by
  have hfl := hI.frLen
  have hhas := hI.has e
  have hrel := fun h => hI.release (e := e) h
  obtain ⟨M, hM⟩ : ∃ M, feet (alL x) = M := ⟨_, rfl⟩
  rw [hM] at hst ⊢
  obtain ⟨bA, bm, FA, fn, fc, fr, tk⟩ := x
  dsimp only at hfl hI hhas hrel
  unfold alL at hst
  dsimp only at hst
  clear hM
  refine calls_cv (M := M) (n := 27) [.tmp 4] rfl Try.func16 rfl rfl (Nat.le_of_ble_eq_true rfl)  hst ?_
  refine cv_seq_k fun K hK => ?_
  refine cv_region_then rfl ?_
  simp -implicitDefEqProofs (disch := first | omega | decide) only [seval, -Int.reducePow, -Nat.reducePow, cC, pv, binv, sAlMut1, undef]
  intro b3 hb3 hf3
  refine hK _ _ ?_
  clear hK K
  refine cv_seq_k fun K hK => ?_
  refine cv_seq_k fun K hK => ?_
  refine cv_region_then rfl ?_
  simp -implicitDefEqProofs (disch := first | omega | decide) only [seval, -Int.reducePow, -Nat.reducePow, cC, pv, binv, sAlMut1, undef]
  refine callV_ret (fun w hw => (aHas_any ⟨bA, bm, FA, fn, fc, fr, tk⟩ e w (AlW.of hw 1 2 3 rfl rfl rfl (by dsimp only; omega)))) ?_
  try simp -implicitDefEqProofs (disch := first | omega | decide) only [seval, -Int.reducePow, -Nat.reducePow, cC, pv, binv, sAlMut1, undef]
  refine hK _ _ ?_
  clear hK K
  refine cv_gen fun G3 hG => ?_
  have g3_0 := congrFun hG 0
  have g3_3 := congrFun hG 3
  have g3_8 := congrFun hG 8
  clear hG
  try simp -implicitDefEqProofs (disch := first | omega | decide) only [seval, -Int.reducePow, -Nat.reducePow, cC, pv, binv, sAlMut1, undef] at g3_0 g3_3 g3_8
  have g3 := And.intro g3_0 (And.intro g3_3 g3_8)
  refine cv_cond ?_
  simp -implicitDefEqProofs (disch := first | omega | decide) only [seval, -Int.reducePow, -Nat.reducePow, cC, pv, binv, sAlMut1, undef, g3]
  refine ⟨fun hc => ?_, fun hc => ?_⟩
  · have hn : e ∉ us := fun h => by
      have := nd_true hc
      exact this (hhas.2 h)
    refine cv_seq_k fun K hK => ?_
    refine cv_region_then rfl ?_
    simp -implicitDefEqProofs (disch := first | omega | decide) only [seval, -Int.reducePow, -Nat.reducePow, cC, pv, binv, sAlMut1, undef, g3]
    refine hK _ _ ?_
    clear hK K
    refine cv_ret ⟨_, (by simp -implicitDefEqProofs (disch := first | omega | decide) only [seval, -Int.reducePow, -Nat.reducePow, cC, pv, binv, sAlMut1, undef, g3]; rfl), fun w hw => ?_⟩
    rw [if_neg hn]
    exact ⟨⟨bA, bm, FA, fn, fc, fr, tk⟩, rfl, ⟨rfl, fun _ => rfl, fun h => absurd h hn⟩, hw.tail⟩
  have hy : e ∈ us := hhas.1 (Decidable.not_not.1 (nd_false hc))
  obtain ⟨a1, a2⟩ := hrel hy
  obtain ⟨rr, hrr⟩ : ∃ rr, (Ex.insF fr e).1 = rr := ⟨_, rfl⟩
  rw [hrr] at a1 a2
  refine cv_skip ?_
  try simp only [blockQ, thenQ]
  refine hK _ _ ?_
  clear hK K
  refine cv_seq_k fun K hK => ?_
  refine cv_draw [(true, 0), (true, 1), (true, 2), (true, 3), (true, 4), (true, 5), (false, 6)] [6] mixA rfl (by kernel_rfl) (by kernel_rfl) rfl rfl ?_
  simp -implicitDefEqProofs (disch := first | omega | decide) only [seval, -Int.reducePow, -Nat.reducePow, cC, pv, binv, sAlMut1, undef, g3]
  refine xv_mapdel 2 (by kernel_rfl) rfl rfl rfl ?_
  simp -implicitDefEqProofs (disch := first | omega | decide) only [seval, -Int.reducePow, -Nat.reducePow, cC, pv, binv, sAlMut1, undef, g3]
  refine hK _ _ ?_
  clear hK K
  refine cv_gen fun G4 hG => ?_
  have g4_0 := congrFun hG 0
  have g4_3 := congrFun hG 3
  clear hG
  try simp -implicitDefEqProofs (disch := first | omega | decide) only [seval, -Int.reducePow, -Nat.reducePow, cC, pv, binv, sAlMut1, undef, g3] at g4_0 g4_3
  have g4 := And.intro g4_0 g4_3
  refine cv_seq_k fun K hK => ?_
  refine cv_cut (fun _ _ => True) (fun F' L' => ∃ (A1 : Option Addr) (n1 c1 : Nat), L' = [.row (.slice A1 n1 c1) 39 2 n1 (exCells rr), eBox b3 e, .blk bA 42 [.slice A1 n1 c1, .map (some bm)], mpR bm (mdel tk e.off), .row (.slice FA fn fc) 39 2 fn (exCells fr)]) ?_ ?_
  · refine cv_more [] (by decide) (by simp only [pickL, nth, suf_cons, suf_nil, List.mem_cons, true_or, or_true, and_true, eq_self]) (.rd 0 (.rd 1 (.rd 2 (.rd 3 (.more 4 (.act 5 (.act 6 (.rd 7 (.rd 8 (.rd 9 (.rd 10 (.rd 11 (.act 12 (.done))))))))) (.act 5 (.act 4 (.act 6 (.rd 7 (.rd 8 (.rd 9 (.rd 10 (.rd 11 (.act 12 (.done))))))))))))))) [] mixA rfl (by kernel_rfl) (by kernel_rfl) (by kernel_rfl) (by kernel_rfl) ?_
    simp only [pickL, nth]
    simp -implicitDefEqProofs (disch := first | omega | decide) only [seval, -Int.reducePow, -Nat.reducePow, cC, pv, binv, sAlMut1, undef, g4]
    repeat' (first
      | refine And.intro ?_ ?_
      | (refine callV_row (fun A n c => .tuple #[.slice A n c, .int .i64 0]) (fun w hw => (by have := insert_good FA fn fc fr e w (Exts.of_row hw (.tail _ (.tail _ (.tail _ (.head _))))) (by have := Exts.of_row hw (.tail _ (.tail _ (.tail _ (.head _)))); have := this.len; omega); rw [a1] at this; exact this)) ?_
         intro A1 n1 c1 hl1 hr1
         simp -implicitDefEqProofs (disch := first | omega | decide) only [seval, -Int.reducePow, -Nat.reducePow, cC, pv, binv, sAlMut1, undef, g4]))
    all_goals
      refine ⟨[0, 1, 2, 3, 4], by decide, ?_⟩
      simp only [pickL, nth]
      refine ⟨A1, n1, c1, ?_⟩
      simp -implicitDefEqProofs (disch := first | omega | decide) only [seval, -Int.reducePow, -Nat.reducePow, cC, pv, binv, sAlMut1, undef, g4]
  intro G5 L' _ hF
  obtain ⟨A1, n1, c1, rfl⟩ := hF
  refine hK _ _ ?_
  clear hK K
  refine cv_seq_k fun K hK => ?_
  refine cv_region_then rfl ?_
  simp -implicitDefEqProofs (disch := first | omega | decide) only [seval, -Int.reducePow, -Nat.reducePow, cC, pv, binv, sAlMut1, undef]
  refine hK _ _ ?_
  clear hK K
  refine cv_ret ⟨_, (by simp -implicitDefEqProofs (disch := first | omega | decide) only [seval, -Int.reducePow, -Nat.reducePow, cC, pv, binv, sAlMut1, undef]; rfl), fun w hw => ?_⟩
  refine ⟨⟨bA, bm, A1, n1, c1, rr, mdel tk e.off⟩, by rw [if_pos hy], ⟨rfl, fun h => absurd hy h, fun _ => a2⟩, ?_⟩
  exact hw.pick (ix := [2, 3, 0]) (by decide)
end Go.Proofs.Ytejogdielfgeoaa
/- The allocator's model: what only reads. -/
namespace Go.Proofs.Ytejogdielfgeoaa
open Go.RowKit Go.Shelf
set_option linter.unusedVariables false
set_option linter.unusedSimpArgs false
set_option maxRecDepth 100000
theorem Ex.setOf_vld : ∀ (us s : List Ext), Ex.vld s → (∀ e ∈ us, e.prop) → Ex.vld (us.foldl (fun s e => (Ex.insF s e).1) s)
  | [], s, h, _ => h
  | e :: us, s, h, hp => by
    refine Ex.setOf_vld us _ ?_ fun x hx => hp x (.tail _ hx)
    show Ex.vld (Ex.insF s e).1
    rcases Ex.insF_spec h (hp e (.head _)) with ⟨h1, -⟩ | ⟨-, h2, -⟩
    · rw [h1]
      intro i hi
      simp at hi
    · exact h2
theorem Ex.vld_len {xs : List Ext} (h : Ex.vld xs) {i : Nat} (hi : i < xs.length) : -9223372036854775808 ≤ (Ex.get xs i).len ∧ (Ex.get xs i).len ≤ 9223372036854775807 := by
  have := vld_prop h hi
  omega
/-- A model's memory. -/
structure MlR where
  bM : Nat
  N : Int
  UA : Option Addr
  un : Nat
  uc : Nat
  us : List Ext
structure MlW (w : World) (B : Nat) (y : MlR) : Prop where
  blk : Sl w B 1 (some ⟨y.bM, 0, none⟩) 2 2 [.int .i64 y.N, .slice y.UA y.un y.uc]
  us : Exts w B y.UA y.un y.uc y.us
  len : y.us.length ≤ 100
  prop : ∀ e ∈ y.us, e.prop
section
variable {W w : World} {L : List Res} {y : MlR}
theorem MlW.at (h : MlW W W.heap.size y) (hw : St [] W L w) : MlW w w.heap.size y := ⟨h.blk.at hw, h.us.at hw, h.len, h.prop⟩
theorem MlW.lt {w : World} {B : Nat} (h : MlW w B y) : y.bM < B := by
  obtain ⟨b', o', e, hb, -⟩ := h.blk.cells (by omega)
  cases e
  exact hb
end
set_option maxRecDepth 100000 in
theorem sAlRef1 : type_of% (And.intro (And.intro @eBox.eq_1 @exV.eq_1) (And.intro @Nat.mul_one (And.intro @wrap_in @cMp))) := (And.intro (And.intro @eBox.eq_1 @exV.eq_1) (And.intro @Nat.mul_one (And.intro @wrap_in @cMp)))
set_option maxHeartbeats 2000000 in
theorem rFreeList_any (y : MlR) (W : World) (h : MlW W W.heap.size y) : Calls Try.prog 26 #[.pointer (some ⟨y.bM, 0, none⟩)] W
    (rowPost 39 2 (fun v => v) (exCells (Ex.freeM y.N y.us)) W) := by
  have hbM := h.lt
  obtain ⟨bM, N, UA, un, uc, us⟩ := y
  have hE := h.us
  have hl := hE.len
  have h100 := h.len
  have hp := h.prop
  dsimp only at *
  have hvld : ∀ i, Ex.vld (Ex.setOf (us.take i)) := fun i => Ex.setOf_vld (us.take i) [] (fun i hi => by simp at hi) fun e he => hp e (List.mem_of_mem_take he)
  have hlen := fun i => Ex.setOf_len (us.take i)
  have htl : ∀ i, (us.take i).length ≤ us.length := fun i => by rw [List.length_take]; omega
  refine calls_cv (M := []) (n := 38) [.tmp 2] rfl Try.func26 rfl rfl (Nat.le_of_ble_eq_true rfl) (St.nil _ _) ?_
  refine cv_seq_k fun K hK => ?_
  refine cv_region_then rfl ?_
  simp -implicitDefEqProofs (disch := first | omega | decide) only [seval, -Int.reducePow, -Nat.reducePow, cC, pv, binv, sAlRef1, undef]
  refine hK _ _ ?_
  clear hK K
  refine cv_seq_k fun K hK => ?_
  refine cv_region_then rfl ?_
  simp -implicitDefEqProofs (disch := first | omega | decide) only [seval, -Int.reducePow, -Nat.reducePow, cC, pv, binv, sAlRef1, undef]
  refine hK _ _ ?_
  clear hK K
  refine cv_seq_k fun K hK => ?_
  refine cv_seq_k fun K hK => ?_
  refine cv_region_then rfl ?_
  simp -implicitDefEqProofs (disch := first | omega | decide) only [seval, -Int.reducePow, -Nat.reducePow, cC, pv, binv, sAlRef1, undef]
  refine hK _ _ ?_
  clear hK K
  refine cv_gen fun G1 hG => ?_
  have g1_0 := congrFun hG 0
  have g1_3 := congrFun hG 3
  have g1_4 := congrFun hG 4
  clear hG
  try simp -implicitDefEqProofs (disch := first | omega | decide) only [seval, -Int.reducePow, -Nat.reducePow, cC, pv, binv, sAlRef1, undef] at g1_0 g1_3 g1_4
  have g1 := And.intro g1_0 (And.intro g1_3 g1_4)
  refine cv_block ?_
  refine cv_nil 39 2 ?_
  refine cv_loop (fun F' L' => ∃ (i : Nat) (A : Option Addr) (n c : Nat), F' 0 = G1 0 ∧ F' 3 = .slice A n c ∧ F' 4 = .int .i64 (i : Int) ∧ L' = [.row (.slice A n c) 39 2 n (exCells (Ex.setOf (us.take i)))] ∧ i ≤ un) (fun F' L' => 200 - (intOf (F' 4)).toNat) ?_ ?_
  · refine ⟨0, none, 0, 0, ?_⟩
    simp -implicitDefEqProofs (disch := first | omega | decide) only [seval, -Int.reducePow, -Nat.reducePow, cC, pv, binv, sAlRef1, undef, g1]
    exact ⟨rfl, by omega⟩
  intro G2 L' hI
  obtain ⟨i, A, n, c, q0, q3, q4, rfl, hi⟩ := hI
  have g2_0 := q0.trans g1_0
  have g2_3 := q3
  have g2_4 := q4
  clear q0 q3 q4
  have g2 := And.intro g2_0 (And.intro g2_3 g2_4)
  refine cv_seq_k fun K hK => ?_
  refine cv_seq_k fun K hK => ?_
  refine cv_region_then rfl ?_
  simp -implicitDefEqProofs (disch := first | omega | decide) only [seval, -Int.reducePow, -Nat.reducePow, cC, pv, binv, sAlRef1, undef, g1, g2]
  refine ⟨_, h.blk.ld1 (m := 1) (i := 1) (by kernel_rfl) rfl, fun tok htok => ?_⟩
  subst htok
  simp -implicitDefEqProofs (disch := first | omega | decide) only [seval, -Int.reducePow, -Nat.reducePow, cC, pv, binv, sAlRef1, undef, g1, g2]
  refine hK _ _ ?_
  clear hK K
  refine cv_cond ?_
  simp -implicitDefEqProofs (disch := first | omega | decide) only [seval, -Int.reducePow, -Nat.reducePow, cC, pv, binv, sAlRef1, undef, g1, g2]
  refine ⟨fun hc => ?_, fun hc => ?_⟩
  · refine cv_skip ?_
    try simp only [blockQ, thenQ]
    have hit : i < un := by have := of_decide_eq_true ‹decide ((i : Int) < (un : Int)) = true›; omega
    obtain ⟨bF, oF, rfl, hbF, -⟩ := hE.cells (by omega)
    obtain ⟨x, hx⟩ : ∃ x, Ex.get us i = x := ⟨_, rfl⟩
    have hxm : x ∈ us := by rw [← hx, Ex.get_eq (by omega)]; exact List.getElem_mem _
    have hxp := hp x hxm
    have htk : us.take (i + 1) = us.take i ++ [x] := by rw [List.take_add_one, List.getElem?_eq_getElem (by omega), ← hx, Ex.get_eq (by omega)]; rfl
    have hsn := Ex.setOf_snoc (us.take i) x
    rw [← htk] at hsn
    have hv := hvld i
    have hln := hlen i
    have htli := htl i
    refine hK _ _ ?_
    clear hK K
    refine cv_seq_k fun K hK => ?_
    refine cv_block ?_
    refine cv_region_q rfl ?_
    simp -implicitDefEqProofs (disch := first | omega | decide) only [seval, -Int.reducePow, -Nat.reducePow, cC, pv, binv, sAlRef1, undef, g1, g2]
    refine ⟨_, h.blk.ld1 (m := 1) (i := 1) (by kernel_rfl) rfl, fun tok htok => ?_⟩
    subst htok
    simp -implicitDefEqProofs (disch := first | omega | decide) only [seval, -Int.reducePow, -Nat.reducePow, cC, pv, binv, sAlRef1, undef, g1, g2]
    refine ⟨_, hE.ld hit, fun tok htok => ?_⟩
    subst htok
    simp -implicitDefEqProofs (disch := first | omega | decide) only [seval, -Int.reducePow, -Nat.reducePow, cC, pv, binv, sAlRef1, undef, hx, g1, g2]
    refine callV_row (fun A n c => .tuple #[.slice A n c, .int .i64 (Ex.insF (Ex.setOf (us.take i)) x).2]) (fun w hw => (rinsert_any A n c (Ex.setOf (us.take i)) x w (Exts.of_row hw (.head _)) (by have := (Exts.of_row hw (.head _)).len; omega) (fun j hj => Ex.vld_len hv (by have := (Exts.of_row hw (.head _)).len; omega)) (by unfold Ext.prop at hxp; omega) (by unfold Ext.prop at hxp; omega))) ?_
    intro A1 n1 c1 hl1 hr1
    simp -implicitDefEqProofs (disch := first | omega | decide) only [seval, -Int.reducePow, -Nat.reducePow, cC, pv, binv, sAlRef1, undef, g1, g2]
    refine hK _ _ ?_
    clear hK K
    refine cv_pick [0] (by decide) ?_
    simp only [pickL, nth]
    refine cv_region_then rfl ?_
    simp -implicitDefEqProofs (disch := first | omega | decide) only [seval, -Int.reducePow, -Nat.reducePow, cC, pv, binv, sAlRef1, undef, wrap_in, g1, g2]
    refine ⟨⟨i + 1, A1, n1, c1, ?_⟩, ?_⟩
    · simp -implicitDefEqProofs (disch := first | omega | decide) only [seval, -Int.reducePow, -Nat.reducePow, cC, pv, binv, sAlRef1, undef, Int.natCast_add, hsn, g1, g2]
      omega
    · simp only [intOf]; omega
  refine cv_exit ?_
  simp only [blockQ, thenQ, if_true, ite_true]
  clear hK K
  refine hK _ _ ?_
  clear hK K
  have hit : ¬ i < un := by have := of_decide_eq_false ‹decide ((i : Int) < (un : Int)) = false›; omega
  rw [List.take_of_length_le (by omega)]
  have hv := hvld us.length
  rw [List.take_length] at hv
  have hln := Ex.setOf_len us
  refine cv_seq_k fun K hK => ?_
  refine cv_region_then rfl ?_
  simp -implicitDefEqProofs (disch := first | omega | decide) only [seval, -Int.reducePow, -Nat.reducePow, cC, pv, binv, sAlRef1, undef, g1, g2]
  refine ⟨_, h.blk.ld1 (m := 1) (i := 0) (by kernel_rfl) rfl, fun tok htok => ?_⟩
  subst htok
  simp -implicitDefEqProofs (disch := first | omega | decide) only [seval, -Int.reducePow, -Nat.reducePow, cC, pv, binv, sAlRef1, undef, g1, g2]
  refine callV_row (fun A n c => .tuple #[.slice A n c, .int .i64 (Ex.compF (Ex.setOf us) N).2]) (fun w hw => (rcomplement_any A n c (Ex.setOf us) N w (Exts.of_row hw (.head _)) (by have := (Exts.of_row hw (.head _)).len; omega) (fun j hj => Ex.vld_len hv (by have := (Exts.of_row hw (.head _)).len; omega)))) ?_
  intro A1 n1 c1 hl1 hr1
  simp -implicitDefEqProofs (disch := first | omega | decide) only [seval, -Int.reducePow, -Nat.reducePow, cC, pv, binv, sAlRef1, undef, g1, g2]
  refine hK _ _ ?_
  clear hK K
  refine cv_seq_k fun K hK => ?_
  refine cv_region_then rfl ?_
  simp -implicitDefEqProofs (disch := first | omega | decide) only [seval, -Int.reducePow, -Nat.reducePow, cC, pv, binv, sAlRef1, undef, g1, g2]
  refine hK _ _ ?_
  clear hK K
  refine cv_ret ⟨_, (by simp -implicitDefEqProofs (disch := first | omega | decide) only [seval, -Int.reducePow, -Nat.reducePow, cC, pv, binv, sAlRef1, undef, g1, g2]; rfl), fun w hw => ?_⟩
  exact ⟨_, _, _, rfl, hw.rowNew (by simp), hw.below⟩
def Ex.plc (n : Int) (l : List Ext) : Int × Bool := if (Ex.best n l).len = 0 then (0, false) else ((Ex.best n l).off, true)
structure PlI (n : Int) (l : List Ext) (i : Nat) (b : Int) : Prop where
  is : (b = -1 ∧ Ex.best n (l.take i) = ⟨0, 0⟩) ∨ ∃ k : Nat, b = (k : Int) ∧ k < i ∧ Ex.get l k = Ex.best n (l.take i)
set_option maxHeartbeats 4000000 in
theorem rplace_any (y : MlR) (n : Int) (fr : List Ext) (tk : List (Int × Int)) (W : World) (h : MlW W W.heap.size y) (hI : Ex.Inv y.N y.us fr tk) : Calls Try.prog 35 #[.pointer (some ⟨y.bM, 0, none⟩), .int .i64 n] W
    fun e w' => e = .returned (.tuple #[.int .i64 (Ex.plc n fr).1, .bool (Ex.plc n fr).2]) ∧ Below W.heap.size W w' := by
  have hbM := h.lt
  have hfl := hI.frLen
  have h100 := h.len
  obtain ⟨hv, -, -, -⟩ := hI.free
  have hfr := hI.fr
  refine calls_cv (M := []) (n := 49) [.tmp 4, .tmp 5] rfl Try.func35 rfl rfl (Nat.le_of_ble_eq_true rfl) (St.nil _ _) ?_
  refine cv_seq_k fun K hK => ?_
  refine cv_region_then rfl ?_
  simp -implicitDefEqProofs (disch := first | omega | decide) only [seval, -Int.reducePow, -Nat.reducePow, cC, pv, binv, sAlRef1, undef]
  refine hK _ _ ?_
  clear hK K
  refine cv_seq_k fun K hK => ?_
  refine cv_region_then rfl ?_
  simp -implicitDefEqProofs (disch := first | omega | decide) only [seval, -Int.reducePow, -Nat.reducePow, cC, pv, binv, sAlRef1, undef]
  refine callV_row (fun A n c => .slice A n c) (fun w hw => (by have := rFreeList_any y w (h.at hw); rw [← hfr] at this; exact this)) ?_
  intro A m c hl hr
  simp -implicitDefEqProofs (disch := first | omega | decide) only [seval, -Int.reducePow, -Nat.reducePow, cC, pv, binv, sAlRef1, undef]
  refine hK _ _ ?_
  clear hK K
  have hlm : fr.length = m := by rw [exCells_len] at hl; omega
  refine cv_seq_k fun K hK => ?_
  refine cv_region_then rfl ?_
  simp -implicitDefEqProofs (disch := first | omega | decide) only [seval, -Int.reducePow, -Nat.reducePow, cC, pv, binv, sAlRef1, undef]
  refine hK _ _ ?_
  clear hK K
  refine cv_seq_k fun K hK => ?_
  refine cv_seq_k fun K hK => ?_
  refine cv_region_then rfl ?_
  simp -implicitDefEqProofs (disch := first | omega | decide) only [seval, -Int.reducePow, -Nat.reducePow, cC, pv, binv, sAlRef1, undef]
  refine hK _ _ ?_
  clear hK K
  refine cv_gen fun G3 hG => ?_
  have g3_1 := congrFun hG 1
  have g3_6 := congrFun hG 6
  have g3_7 := congrFun hG 7
  have g3_8 := congrFun hG 8
  clear hG
  try simp -implicitDefEqProofs (disch := first | omega | decide) only [seval, -Int.reducePow, -Nat.reducePow, cC, pv, binv, sAlRef1, undef] at g3_1 g3_6 g3_7 g3_8
  have g3 := And.intro g3_1 (And.intro g3_6 (And.intro g3_7 g3_8))
  refine cv_block ?_
  refine cv_loop (fun F' L' => ∃ (i : Nat) (b : Int), F' 1 = G3 1 ∧ F' 6 = G3 6 ∧ F' 7 = .int .i64 b ∧ F' 8 = .int .i64 (i : Int) ∧ L' = [.row (.slice A m c) 39 2 m (exCells fr)] ∧ i ≤ m ∧ PlI n fr i b) (fun F' L' => 200 - (intOf (F' 8)).toNat) ?_ ?_
  · refine ⟨0, -1, ?_⟩
    simp -implicitDefEqProofs (disch := first | omega | decide) only [seval, -Int.reducePow, -Nat.reducePow, cC, pv, binv, sAlRef1, undef, g3]
    exact ⟨by omega, ⟨.inl ⟨rfl, rfl⟩⟩⟩
  intro G4 L' hI
  obtain ⟨i, b, q1, q6, q7, q8, rfl, ⟨hi, ⟨hb⟩⟩⟩ := hI
  have g4_1 := q1.trans g3_1
  have g4_6 := q6.trans g3_6
  have g4_7 := q7
  have g4_8 := q8
  clear q1 q6 q7 q8
  have g4 := And.intro g4_1 (And.intro g4_6 (And.intro g4_7 g4_8))
  refine cv_seq_k fun K hK => ?_
  refine cv_seq_k fun K hK => ?_
  refine cv_region_then rfl ?_
  simp -implicitDefEqProofs (disch := first | omega | decide) only [seval, -Int.reducePow, -Nat.reducePow, cC, pv, binv, sAlRef1, undef, g3, g4]
  refine hK _ _ ?_
  clear hK K
  refine cv_cond ?_
  simp -implicitDefEqProofs (disch := first | omega | decide) only [seval, -Int.reducePow, -Nat.reducePow, cC, pv, binv, sAlRef1, undef, g3, g4]
  refine ⟨fun hc => ?_, fun hc => ?_⟩
  · refine cv_skip ?_
    try simp only [blockQ, thenQ]
    have hit : i < m := by have := of_decide_eq_true ‹decide ((i : Int) < (m : Int)) = true›; omega
    have hgi := exCells_get fr i (by omega)
    obtain ⟨x, hx⟩ : ∃ x, Ex.get fr i = x := ⟨_, rfl⟩
    rw [hx] at hgi
    have hbt := Ex.best_take (size := n) (fr := fr) (i := i) (by omega)
    rw [hx] at hbt
    obtain ⟨B, hB⟩ : ∃ B, Ex.best n (fr.take i) = B := ⟨_, rfl⟩
    rw [hB] at hb hbt
    refine hK _ _ ?_
    clear hK K
    refine cv_rowA 0 rfl (by omega) fun g hAA hg hNN => ?_
    subst hAA
    simp only [List.eraseIdx_cons_zero, List.eraseIdx_cons_succ, neB_nil, neB_blk, neB_row, neB_snap, and_true, List.not_mem_nil, or_false] at hNN hg
    replace hg := And.intro hg hNN
    clear hNN
    refine cv_seq_k fun K hK => ?_
    refine cv_block ?_
    refine cv_seq_k fun K hK => ?_
    refine cv_cut (fun _ _ => True) (fun F' L' => F' 1 = G4 1 ∧ F' 6 = G4 6 ∧ F' 7 = G4 7 ∧ F' 8 = G4 8 ∧ F' 40 = .bool (decide (n ≤ x.len ∧ (B.len = 0 ∨ x.len < B.len))) ∧ L' = [.row (.slice (some ⟨g, 0, none⟩) m c) 39 2 m (exCells fr)]) ?_ ?_
    · by_cases a1 : n ≤ x.len
      · have a1' : decide (n ≤ x.len) = true := decide_eq_true a1
        rcases hb with ⟨rfl, rfl⟩ | ⟨k, rfl, hk, hgk⟩
        · refine cv_draw [(true, 0), (true, 1), (true, 2), (true, 3), (true, 4), (true, 5), (true, 6), (true, 7), (true, 8), (true, 9), (true, 10), (true, 11), (true, 12), (true, 13), (true, 14), (true, 15), (true, 16), (true, 17), (true, 18), (true, 19), (true, 20), (true, 21), (true, 22), (true, 23)] [] mixA rfl (by kernel_rfl) (by kernel_rfl) rfl rfl ?_
          simp -implicitDefEqProofs (disch := first | omega | decide) only [seval, -Int.reducePow, -Nat.reducePow, cC, pv, binv, sAlRef1, undef, g3, g4]
          refine ⟨_, ld_row1 (m := 1) (v := .int .i64 x.len) (i := i * 2 + 1) (.head _) rfl hgi.2, fun tok htok => ?_⟩
          subst htok
          simp -implicitDefEqProofs (disch := first | omega | decide) only [seval, -Int.reducePow, -Nat.reducePow, cC, pv, binv, sAlRef1, undef, a1', g3, g4]
        · have hgk2 := exCells_get fr k (by omega)
          have hpk := vld_prop hv (show k < fr.length by omega)
          rw [hgk] at hgk2 hpk
          have a2' : decide ((k : Int) < 0) = false := decide_eq_false (by omega)
          refine cv_draw [(true, 0), (true, 1), (true, 2), (true, 3), (true, 4), (true, 5), (true, 6), (true, 7), (true, 8), (true, 9), (true, 10), (true, 11), (true, 12), (true, 13), (true, 14), (true, 15), (true, 16), (true, 17), (true, 18), (true, 19), (true, 20), (true, 21), (true, 22), (true, 23)] [] mixA rfl (by kernel_rfl) (by kernel_rfl) rfl rfl ?_
          simp -implicitDefEqProofs (disch := first | omega | decide) only [seval, -Int.reducePow, -Nat.reducePow, cC, pv, binv, sAlRef1, undef, g3, g4]
          refine ⟨_, ld_row1 (m := 1) (v := .int .i64 x.len) (i := i * 2 + 1) (.head _) rfl hgi.2, fun tok htok => ?_⟩
          subst htok
          simp -implicitDefEqProofs (disch := first | omega | decide) only [seval, -Int.reducePow, -Nat.reducePow, cC, pv, binv, sAlRef1, undef, a1', a2', g3, g4]
          refine ⟨_, ld_row1 (m := 1) (v := .int .i64 x.len) (i := i * 2 + 1) (.head _) rfl hgi.2, fun tok htok => ?_⟩
          subst htok
          simp -implicitDefEqProofs (disch := first | omega | decide) only [seval, -Int.reducePow, -Nat.reducePow, cC, pv, binv, sAlRef1, undef, a1', a2', g3, g4]
          refine ⟨_, ld_row1 (m := 1) (v := .int .i64 B.len) (i := k * 2 + 1) (.head _) rfl hgk2.2, fun tok htok => ?_⟩
          subst htok
          simp -implicitDefEqProofs (disch := first | omega | decide) only [seval, -Int.reducePow, -Nat.reducePow, cC, pv, binv, sAlRef1, undef, a1', a2', g3, g4]
          rw [show decide (n ≤ x.len ∧ (B.len = 0 ∨ x.len < B.len)) = decide (x.len < B.len) by apply decide_eq_decide.2; constructor <;> (intro h; omega)]
          all_goals (repeat' refine And.intro ?_ ?_)
          all_goals (first | with_reducible rfl | (refine congrArg Value.bool ?_; rw [Bool.eq_iff_iff]; (try simp only [decide_eq_true_eq, eq_self, true_and, and_true, false_and, and_false, true_or, or_true, false_or, or_false, not_true_eq_false, not_false_eq_true, true_iff, iff_true, false_iff, iff_false, Bool.false_eq_true, Bool.not_eq_true', Bool.not_eq_true, decide_eq_false_iff_not, Bool.and_eq_true, Bool.or_eq_true]) <;> omega) | (refine congrArg (Value.int _) ?_; omega) | omega)
      · have a1' : decide (n ≤ x.len) = false := decide_eq_false a1
        refine cv_draw [(true, 0), (true, 1), (true, 2), (true, 3), (true, 4), (true, 5), (true, 6), (true, 7), (true, 8), (true, 9), (true, 10), (true, 11), (true, 12), (true, 13), (true, 14), (true, 15), (true, 16), (true, 17), (true, 18), (true, 19), (true, 20), (true, 21), (true, 22), (true, 23)] [] mixA rfl (by kernel_rfl) (by kernel_rfl) rfl rfl ?_
        simp -implicitDefEqProofs (disch := first | omega | decide) only [seval, -Int.reducePow, -Nat.reducePow, cC, pv, binv, sAlRef1, undef, g3, g4]
        refine ⟨_, ld_row1 (m := 1) (v := .int .i64 x.len) (i := i * 2 + 1) (.head _) rfl hgi.2, fun tok htok => ?_⟩
        subst htok
        simp -implicitDefEqProofs (disch := first | omega | decide) only [seval, -Int.reducePow, -Nat.reducePow, cC, pv, binv, sAlRef1, undef, a1', g3, g4]
        rw [show decide (n ≤ x.len ∧ (B.len = 0 ∨ x.len < B.len)) = false from decide_eq_false fun h => a1 h.1]
        all_goals (repeat' refine And.intro ?_ ?_)
        all_goals (first | with_reducible rfl | (refine congrArg Value.bool ?_; rw [Bool.eq_iff_iff]; (try simp only [decide_eq_true_eq, eq_self, true_and, and_true, false_and, and_false, true_or, or_true, false_or, or_false, not_true_eq_false, not_false_eq_true, true_iff, iff_true, false_iff, iff_false, Bool.false_eq_true, Bool.not_eq_true', Bool.not_eq_true, decide_eq_false_iff_not, Bool.and_eq_true, Bool.or_eq_true]) <;> omega) | (refine congrArg (Value.int _) ?_; omega) | omega)
    intro G5 L' _ hF
    obtain ⟨q1, q6, q7, q8, q40, rfl⟩ := hF
    have g5_1 := q1.trans g4_1
    have g5_6 := q6.trans g4_6
    have g5_7 := q7.trans g4_7
    have g5_8 := q8.trans g4_8
    have g5_40 := q40
    clear q1 q6 q7 q8 q40
    have g5 := And.intro g5_1 (And.intro g5_6 (And.intro g5_7 (And.intro g5_8 g5_40)))
    refine hK _ _ ?_
    clear hK K
    refine cv_cond ?_
    simp -implicitDefEqProofs (disch := first | omega | decide) only [seval, -Int.reducePow, -Nat.reducePow, cC, pv, binv, sAlRef1, undef, g3, g4, g5]
    refine ⟨fun hc => ?_, fun hc => ?_⟩
    · have q1 := of_decide_eq_true hc
      have hs : Ex.bstep n B x = x := if_pos q1
      rw [hs] at hbt
      refine cv_region_q rfl ?_
      simp -implicitDefEqProofs (disch := first | omega | decide) only [seval, -Int.reducePow, -Nat.reducePow, cC, pv, binv, sAlRef1, undef, g3, g4, g5]
      refine hK _ _ ?_
      clear hK K
      refine cv_region_then rfl ?_
      simp -implicitDefEqProofs (disch := first | omega | decide) only [seval, -Int.reducePow, -Nat.reducePow, cC, pv, binv, sAlRef1, undef, wrap_in, g3, g4, g5]
      refine ⟨⟨i + 1, (i : Int), ?_⟩, ?_⟩
      · simp -implicitDefEqProofs (disch := first | omega | decide) only [seval, -Int.reducePow, -Nat.reducePow, cC, pv, binv, sAlRef1, undef, Int.natCast_add, g3, g4, g5]
        exact ⟨by omega, ⟨.inr ⟨i, rfl, by omega, by rw [hbt, hx]⟩⟩⟩
      · simp only [intOf]; omega
    · have q1 := of_decide_eq_false hc
      have hs : Ex.bstep n B x = B := if_neg q1
      rw [hs] at hbt
      refine cv_skip ?_
      try simp only [blockQ, thenQ]
      refine hK _ _ ?_
      clear hK K
      refine cv_region_then rfl ?_
      simp -implicitDefEqProofs (disch := first | omega | decide) only [seval, -Int.reducePow, -Nat.reducePow, cC, pv, binv, sAlRef1, undef, wrap_in, g3, g4, g5]
      refine ⟨⟨i + 1, b, ?_⟩, ?_⟩
      · simp -implicitDefEqProofs (disch := first | omega | decide) only [seval, -Int.reducePow, -Nat.reducePow, cC, pv, binv, sAlRef1, undef, Int.natCast_add, g3, g4, g5]
        refine ⟨by omega, ⟨?_⟩⟩
        rw [hbt]
        exact hb.imp id fun ⟨k, h1, h2, h3⟩ => ⟨k, h1, by omega, h3⟩
      · simp only [intOf]; omega
  refine cv_exit ?_
  simp only [blockQ, thenQ, if_true, ite_true]
  clear hK K
  refine hK _ _ ?_
  clear hK K
  have hit : ¬ i < m := by have := of_decide_eq_false ‹decide ((i : Int) < (m : Int)) = false›; omega
  rw [List.take_of_length_le (by omega)] at hb
  rcases hb with ⟨rfl, hb⟩ | ⟨k, rfl, hk, hgk⟩
  · refine cv_seq_k fun K hK => ?_
    refine cv_seq_k fun K hK => ?_
    refine cv_region_then rfl ?_
    simp -implicitDefEqProofs (disch := first | omega | decide) only [seval, -Int.reducePow, -Nat.reducePow, cC, pv, binv, sAlRef1, undef, g3, g4]
    refine hK _ _ ?_
    clear hK K
    refine cv_cond ?_
    simp -implicitDefEqProofs (disch := first | omega | decide) only [seval, -Int.reducePow, -Nat.reducePow, cC, pv, binv, sAlRef1, undef, g3, g4]
    refine cv_seq_k fun K hK => ?_
    refine cv_region_then rfl ?_
    simp -implicitDefEqProofs (disch := first | omega | decide) only [seval, -Int.reducePow, -Nat.reducePow, cC, pv, binv, sAlRef1, undef, g3, g4]
    refine hK _ _ ?_
    clear hK K
    refine cv_ret ⟨_, (by simp -implicitDefEqProofs (disch := first | omega | decide) only [seval, -Int.reducePow, -Nat.reducePow, cC, pv, binv, sAlRef1, undef, g3, g4]; rfl), fun w hw => ?_⟩
    unfold Ex.plc
    rw [hb]
    exact ⟨rfl, hw.below⟩
  · have hgk2 := exCells_get fr k (by omega)
    have hpk := vld_prop hv (show k < fr.length by omega)
    rw [hgk] at hgk2 hpk
    have a2' : decide ((k : Int) < 0) = false := decide_eq_false (by omega)
    refine cv_seq_k fun K hK => ?_
    refine cv_seq_k fun K hK => ?_
    refine cv_region_then rfl ?_
    simp -implicitDefEqProofs (disch := first | omega | decide) only [seval, -Int.reducePow, -Nat.reducePow, cC, pv, binv, sAlRef1, undef, a2', g3, g4]
    refine hK _ _ ?_
    clear hK K
    refine cv_cond ?_
    simp -implicitDefEqProofs (disch := first | omega | decide) only [seval, -Int.reducePow, -Nat.reducePow, cC, pv, binv, sAlRef1, undef, g3, g4]
    refine cv_skip ?_
    try simp only [blockQ, thenQ]
    refine hK _ _ ?_
    clear hK K
    refine cv_rowA 0 rfl (by omega) fun g hAA hg hNN => ?_
    subst hAA
    simp only [List.eraseIdx_cons_zero, List.eraseIdx_cons_succ, neB_nil, neB_blk, neB_row, neB_snap, and_true, List.not_mem_nil, or_false] at hNN hg
    replace hg := And.intro hg hNN
    clear hNN
    refine cv_seq_k fun K hK => ?_
    refine cv_region_then rfl ?_
    simp -implicitDefEqProofs (disch := first | omega | decide) only [seval, -Int.reducePow, -Nat.reducePow, cC, pv, binv, sAlRef1, undef, g3, g4]
    refine ⟨_, ld_row1 (m := 1) (v := .int .i64 (Ex.best n fr).off) (i := k * 2) (.head _) rfl hgk2.1, fun tok htok => ?_⟩
    subst htok
    simp -implicitDefEqProofs (disch := first | omega | decide) only [seval, -Int.reducePow, -Nat.reducePow, cC, pv, binv, sAlRef1, undef, g3, g4]
    refine hK _ _ ?_
    clear hK K
    refine cv_ret ⟨_, (by simp -implicitDefEqProofs (disch := first | omega | decide) only [seval, -Int.reducePow, -Nat.reducePow, cC, pv, binv, sAlRef1, undef, g3, g4]; rfl), fun w hw => ?_⟩
    unfold Ex.plc
    rw [if_neg (by omega)]
    exact ⟨rfl, hw.below⟩
theorem plc_find {n : Int} {fr : List Ext} (h : Sz.err n = 0) : (Ex.findF fr n).2 = (if (Ex.plc (Sz.rnd n) fr).2 then 0 else 18) ∧ ((Ex.findF fr n).2 = 0 → (Ex.findF fr n).1 = ⟨(Ex.plc (Sz.rnd n) fr).1, Sz.rnd n⟩) := by
  unfold Ex.findF Ex.plc
  rw [if_pos h]
  split
  · exact ⟨rfl, fun h => by cases h⟩
  · exact ⟨rfl, fun _ => rfl⟩
set_option maxHeartbeats 1000000 in
theorem rFits_any (y : MlR) (n : Int) (fr : List Ext) (tk : List (Int × Int)) (W : World) (h : MlW W W.heap.size y) (hI : Ex.Inv y.N y.us fr tk) : Calls Try.prog 14 #[.pointer (some ⟨y.bM, 0, none⟩), .int .i64 n] W
    fun e w' => e = .returned (.int .i64 (Ex.findF fr n).2) ∧ Below W.heap.size W w' := by
  obtain ⟨e0, he⟩ : ∃ e0, Sz.err n = e0 := ⟨_, rfl⟩
  have hpf := plc_find (n := n) (fr := fr)
  obtain ⟨S, hS⟩ : ∃ S, Sz.rnd n = S := ⟨_, rfl⟩
  have hfe : ¬ e0 = 0 → (Ex.findF fr n).2 = e0 := fun h => by unfold Ex.findF; rw [he, if_neg h]
  rw [hS, he] at hpf
  obtain ⟨q, hq⟩ : ∃ q, Ex.plc S fr = q := ⟨_, rfl⟩
  rw [hq] at hpf
  refine calls_cv (M := []) (n := 25) [.tmp 4] rfl Try.func14 rfl rfl (Nat.le_of_ble_eq_true rfl) (St.nil _ _) ?_
  refine cv_seq_k fun K hK => ?_
  refine cv_region_then rfl ?_
  simp -implicitDefEqProofs (disch := first | omega | decide) only [seval, -Int.reducePow, -Nat.reducePow, cC, pv, binv, sAlRef1, undef]
  refine hK _ _ ?_
  clear hK K
  refine cv_seq_k fun K hK => ?_
  refine cv_region_then rfl ?_
  simp -implicitDefEqProofs (disch := first | omega | decide) only [seval, -Int.reducePow, -Nat.reducePow, cC, pv, binv, sAlRef1, undef]
  refine callV_ret (fun w hw => rround_any n w) ?_
  try simp -implicitDefEqProofs (disch := first | omega | decide) only [seval, -Int.reducePow, -Nat.reducePow, cC, pv, binv, sAlRef1, undef, hS, he]
  refine hK _ _ ?_
  clear hK K
  refine cv_seq_k fun K hK => ?_
  refine cv_seq_k fun K hK => ?_
  refine cv_region_then rfl ?_
  simp -implicitDefEqProofs (disch := first | omega | decide) only [seval, -Int.reducePow, -Nat.reducePow, cC, pv, binv, sAlRef1, undef]
  refine hK _ _ ?_
  clear hK K
  refine cv_cond ?_
  simp -implicitDefEqProofs (disch := first | omega | decide) only [seval, -Int.reducePow, -Nat.reducePow, cC, pv, binv, sAlRef1, undef]
  refine ⟨fun hc => ?_, fun hc => ?_⟩
  · have hz : ¬ e0 = 0 := nd_true ‹(!decide (e0 = 0)) = true›
    refine cv_seq_k fun K hK => ?_
    refine cv_region_then rfl ?_
    simp -implicitDefEqProofs (disch := first | omega | decide) only [seval, -Int.reducePow, -Nat.reducePow, cC, pv, binv, sAlRef1, undef]
    refine hK _ _ ?_
    clear hK K
    refine cv_ret ⟨_, (by simp -implicitDefEqProofs (disch := first | omega | decide) only [seval, -Int.reducePow, -Nat.reducePow, cC, pv, binv, sAlRef1, undef]; rfl), fun w hw => ?_⟩
    rw [hfe hz]
    exact ⟨rfl, hw.below⟩
  have hz : e0 = 0 := Decidable.not_not.1 (nd_false ‹(!decide (e0 = 0)) = false›)
  obtain ⟨hp1, hp2⟩ := hpf hz
  refine cv_skip ?_
  try simp only [blockQ, thenQ]
  refine hK _ _ ?_
  clear hK K
  refine cv_seq_k fun K hK => ?_
  refine cv_region_then rfl ?_
  simp -implicitDefEqProofs (disch := first | omega | decide) only [seval, -Int.reducePow, -Nat.reducePow, cC, pv, binv, sAlRef1, undef]
  refine callV_ret (fun w hw => rplace_any y S fr tk w (h.at hw) hI) ?_
  try simp -implicitDefEqProofs (disch := first | omega | decide) only [seval, -Int.reducePow, -Nat.reducePow, cC, pv, binv, sAlRef1, undef, hq]
  refine hK _ _ ?_
  clear hK K
  refine cv_gen fun G6 hG => ?_
  have g6_8 := congrFun hG 8
  clear hG
  try simp -implicitDefEqProofs (disch := first | omega | decide) only [seval, -Int.reducePow, -Nat.reducePow, cC, pv, binv, sAlRef1, undef] at g6_8
  have g6 := g6_8
  refine cv_seq_k fun K hK => ?_
  refine cv_seq_k fun K hK => ?_
  refine cv_region_then rfl ?_
  simp -implicitDefEqProofs (disch := first | omega | decide) only [seval, -Int.reducePow, -Nat.reducePow, cC, pv, binv, sAlRef1, undef, g6]
  refine hK _ _ ?_
  clear hK K
  refine cv_cond ?_
  simp -implicitDefEqProofs (disch := first | omega | decide) only [seval, -Int.reducePow, -Nat.reducePow, cC, pv, binv, sAlRef1, undef, g6]
  refine ⟨fun hc => ?_, fun hc => ?_⟩
  · have q1 : q.2 = false := by simpa using ‹(!q.2) = true›
    refine cv_seq_k fun K hK => ?_
    refine cv_region_then rfl ?_
    simp -implicitDefEqProofs (disch := first | omega | decide) only [seval, -Int.reducePow, -Nat.reducePow, cC, pv, binv, sAlRef1, undef, g6]
    refine hK _ _ ?_
    clear hK K
    refine cv_ret ⟨_, (by simp -implicitDefEqProofs (disch := first | omega | decide) only [seval, -Int.reducePow, -Nat.reducePow, cC, pv, binv, sAlRef1, undef, g6]; rfl), fun w hw => ?_⟩
    rw [hp1, q1]
    exact ⟨rfl, hw.below⟩
  have q1 : q.2 = true := by simpa using ‹(!q.2) = false›
  refine cv_skip ?_
  try simp only [blockQ, thenQ]
  refine hK _ _ ?_
  clear hK K
  refine cv_seq_k fun K hK => ?_
  refine cv_region_then rfl ?_
  simp -implicitDefEqProofs (disch := first | omega | decide) only [seval, -Int.reducePow, -Nat.reducePow, cC, pv, binv, sAlRef1, undef, g6]
  refine hK _ _ ?_
  clear hK K
  refine cv_ret ⟨_, (by simp -implicitDefEqProofs (disch := first | omega | decide) only [seval, -Int.reducePow, -Nat.reducePow, cC, pv, binv, sAlRef1, undef, g6]; rfl), fun w hw => ?_⟩
  rw [hp1, q1]
  exact ⟨rfl, hw.below⟩
set_option maxHeartbeats 1000000 in
theorem rHas_any (y : MlR) (e : Ext) (W : World) (h : MlW W W.heap.size y) : Calls Try.prog 31 #[.pointer (some ⟨y.bM, 0, none⟩), exV e] W
    fun en w' => en = .returned (.bool (decide (e ∈ y.us))) ∧ Below W.heap.size W w' := by
  have hbM := h.lt
  obtain ⟨bM, N, UA, un, uc, us⟩ := y
  have hE := h.us
  have hl := hE.len
  have h100 := h.len
  dsimp only at *
  refine calls_cv (M := []) (n := 24) [.tmp 4] rfl Try.func31 rfl rfl (Nat.le_of_ble_eq_true rfl) (St.nil _ _) ?_
  refine cv_seq_k fun K hK => ?_
  refine cv_region_then rfl ?_
  simp -implicitDefEqProofs (disch := first | omega | decide) only [seval, -Int.reducePow, -Nat.reducePow, cC, pv, binv, sAlRef1, undef]
  intro b3 hb3
  refine hK _ _ ?_
  clear hK K
  refine cv_seq_k fun K hK => ?_
  refine cv_seq_k fun K hK => ?_
  refine cv_region_then rfl ?_
  simp -implicitDefEqProofs (disch := first | omega | decide) only [seval, -Int.reducePow, -Nat.reducePow, cC, pv, binv, sAlRef1, undef]
  refine hK _ _ ?_
  clear hK K
  refine cv_gen fun G7 hG => ?_
  have g7_0 := congrFun hG 0
  have g7_3 := congrFun hG 3
  have g7_5 := congrFun hG 5
  clear hG
  try simp -implicitDefEqProofs (disch := first | omega | decide) only [seval, -Int.reducePow, -Nat.reducePow, cC, pv, binv, sAlRef1, undef] at g7_0 g7_3 g7_5
  have g7 := And.intro g7_0 (And.intro g7_3 g7_5)
  refine cv_block ?_
  refine cv_loop (fun F' L' => ∃ (i : Nat), F' 0 = G7 0 ∧ F' 3 = G7 3 ∧ F' 5 = .int .i64 (i : Int) ∧ L' = [eBox b3 e] ∧ i ≤ un ∧ e ∉ us.take i) (fun F' L' => 200 - (intOf (F' 5)).toNat) ?_ ?_
  · refine ⟨0, ?_⟩
    simp -implicitDefEqProofs (disch := first | omega | decide) only [seval, -Int.reducePow, -Nat.reducePow, cC, pv, binv, sAlRef1, undef, g7]
    simp
  intro G8 L' hI
  obtain ⟨i, q0, q3, q5, rfl, ⟨hi, hn⟩⟩ := hI
  have g8_0 := q0.trans g7_0
  have g8_3 := q3.trans g7_3
  have g8_5 := q5
  clear q0 q3 q5
  have g8 := And.intro g8_0 (And.intro g8_3 g8_5)
  refine cv_seq_k fun K hK => ?_
  refine cv_seq_k fun K hK => ?_
  refine cv_region_then rfl ?_
  simp -implicitDefEqProofs (disch := first | omega | decide) only [seval, -Int.reducePow, -Nat.reducePow, cC, pv, binv, sAlRef1, undef, g7, g8]
  refine ⟨_, h.blk.ld1 (m := 1) (i := 1) (by kernel_rfl) rfl, fun tok htok => ?_⟩
  subst htok
  simp -implicitDefEqProofs (disch := first | omega | decide) only [seval, -Int.reducePow, -Nat.reducePow, cC, pv, binv, sAlRef1, undef, g7, g8]
  refine hK _ _ ?_
  clear hK K
  refine cv_cond ?_
  simp -implicitDefEqProofs (disch := first | omega | decide) only [seval, -Int.reducePow, -Nat.reducePow, cC, pv, binv, sAlRef1, undef, g7, g8]
  refine ⟨fun hc => ?_, fun hc => ?_⟩
  · refine cv_skip ?_
    try simp only [blockQ, thenQ]
    have hit : i < un := by have := of_decide_eq_true ‹decide ((i : Int) < (un : Int)) = true›; omega
    obtain ⟨bF, oF, rfl, hbF, -⟩ := hE.cells (by omega)
    obtain ⟨x, hx⟩ : ∃ x, Ex.get us i = x := ⟨_, rfl⟩
    have hxm : x ∈ us := by rw [← hx, Ex.get_eq (by omega)]; exact List.getElem_mem _
    have htk : us.take (i + 1) = us.take i ++ [x] := by rw [List.take_add_one, List.getElem?_eq_getElem (by omega), ← hx, Ex.get_eq (by omega)]; rfl
    have hxe : x = e ↔ x.off = e.off ∧ x.len = e.len := by cases x; cases e; simp
    refine hK _ _ ?_
    clear hK K
    refine cv_seq_k fun K hK => ?_
    refine cv_block ?_
    refine cv_seq_k fun K hK => ?_
    refine cv_draw [(true, 0), (true, 1), (true, 2), (true, 3), (true, 4), (true, 5), (true, 6), (true, 7), (true, 8)] [] mixA rfl (by kernel_rfl) (by kernel_rfl) rfl rfl ?_
    simp -implicitDefEqProofs (disch := first | omega | decide) only [seval, -Int.reducePow, -Nat.reducePow, cC, pv, binv, sAlRef1, undef, g7, g8]
    refine ⟨_, h.blk.ld1 (m := 1) (i := 1) (by kernel_rfl) rfl, fun tok htok => ?_⟩
    subst htok
    simp -implicitDefEqProofs (disch := first | omega | decide) only [seval, -Int.reducePow, -Nat.reducePow, cC, pv, binv, sAlRef1, undef, g7, g8]
    refine ⟨_, hE.ld hit, fun tok htok => ?_⟩
    subst htok
    simp -implicitDefEqProofs (disch := first | omega | decide) only [seval, -Int.reducePow, -Nat.reducePow, cC, pv, binv, sAlRef1, undef, hx, g7, g8]
    refine hK _ _ ?_
    clear hK K
    refine cv_cond ?_
    simp -implicitDefEqProofs (disch := first | omega | decide) only [seval, -Int.reducePow, -Nat.reducePow, cC, pv, binv, sAlRef1, undef, g7, g8]
    refine ⟨fun hc => ?_, fun hc => ?_⟩
    · have q1 : x = e := hxe.2 (by simpa using hc)
      refine cv_seq_k fun K hK => ?_
      refine cv_region_then rfl ?_
      simp -implicitDefEqProofs (disch := first | omega | decide) only [seval, -Int.reducePow, -Nat.reducePow, cC, pv, binv, sAlRef1, undef, g7, g8]
      refine hK _ _ ?_
      clear hK K
      refine cv_ret ⟨_, (by simp -implicitDefEqProofs (disch := first | omega | decide) only [seval, -Int.reducePow, -Nat.reducePow, cC, pv, binv, sAlRef1, undef, g7, g8]; rfl), fun w hw => ?_⟩
      exact ⟨by rw [decide_eq_true (by rw [← q1]; exact hxm)], hw.below⟩
    have q1 : ¬ x = e := fun h => by have := hxe.1 h; simp [this.1, this.2] at hc
    refine cv_skip ?_
    try simp only [blockQ, thenQ]
    refine hK _ _ ?_
    clear hK K
    refine cv_region_then rfl ?_
    simp -implicitDefEqProofs (disch := first | omega | decide) only [seval, -Int.reducePow, -Nat.reducePow, cC, pv, binv, sAlRef1, undef, wrap_in, g7, g8]
    refine ⟨⟨i + 1, ?_⟩, ?_⟩
    · simp -implicitDefEqProofs (disch := first | omega | decide) only [seval, -Int.reducePow, -Nat.reducePow, cC, pv, binv, sAlRef1, undef, Int.natCast_add, g7, g8]
      refine ⟨by omega, fun hm => ?_⟩
      rw [htk] at hm
      rcases List.mem_append.1 hm with hm | hm
      · exact hn hm
      · have h9 : e = x := by simpa using hm
        exact q1 h9.symm
    · simp only [intOf]; omega
  refine cv_exit ?_
  simp only [blockQ, thenQ, if_true, ite_true]
  clear hK K
  refine hK _ _ ?_
  clear hK K
  have hit : ¬ i < un := by have := of_decide_eq_false ‹decide ((i : Int) < (un : Int)) = false›; omega
  rw [List.take_of_length_le (by omega)] at hn
  refine cv_seq_k fun K hK => ?_
  refine cv_region_then rfl ?_
  simp -implicitDefEqProofs (disch := first | omega | decide) only [seval, -Int.reducePow, -Nat.reducePow, cC, pv, binv, sAlRef1, undef, g7, g8]
  refine hK _ _ ?_
  clear hK K
  refine cv_ret ⟨_, (by simp -implicitDefEqProofs (disch := first | omega | decide) only [seval, -Int.reducePow, -Nat.reducePow, cC, pv, binv, sAlRef1, undef, g7, g8]; rfl), fun w hw => ?_⟩
  exact ⟨by rw [decide_eq_false hn], hw.below⟩
end Go.Proofs.Ytejogdielfgeoaa
/- The allocator's model: Alloc, Free. -/
namespace Go.Proofs.Ytejogdielfgeoaa
open Go.RowKit Go.Shelf
set_option linter.unusedVariables false
set_option linter.unusedSimpArgs false
set_option maxRecDepth 100000
/-- The model's resources: T and rest are those of the block it lies in. -/
def mlL (T : TypeId) (rest : List Value) (y : MlR) : List Res := [.blk y.bM T (.int .i64 y.N :: .slice y.UA y.un y.uc :: rest), .row (.slice y.UA y.un y.uc) 39 2 y.un (exCells y.us)]
section
variable {M : List Nat} {W w : World} {L : List Res} {y : MlR} {T : TypeId} {rest : List Value}
theorem MlW.of (hw : St M W L w) (i k : Nat) (hi : nth L i = some (.blk y.bM T (.int .i64 y.N :: .slice y.UA y.un y.uc :: rest)))
    (hk : nth L k = some (.row (.slice y.UA y.un y.uc) 39 2 y.un (exCells y.us))) (hl : y.us.length ≤ 100) (hp : ∀ e ∈ y.us, e.prop) : MlW w w.heap.size y := by
  have hm := nth_mem hi
  refine ⟨⟨by simp, by omega, by omega, fun _ => ⟨_, _, rfl, (hw.own _ hm y.bM (by simp [Res.foot])).2, fun j u hu => ?_⟩⟩, Exts.of_row hw (nth_mem hk), hl, hp⟩
  rw [hw.blk_cell hm, Nat.zero_add]
  match j, hu with
  | 0, hu => exact hu
  | 1, hu => exact hu
  | j + 2, hu => simp at hu
end
set_option maxRecDepth 100000 in
theorem sAlRMut1 : type_of% (And.intro (And.intro @eBox.eq_1 (And.intro @exV.eq_1 @mlL.eq_1)) (And.intro (And.intro @Nat.mul_one @wrap_in) (And.intro @cMp @cM))) := (And.intro (And.intro @eBox.eq_1 (And.intro @exV.eq_1 @mlL.eq_1)) (And.intro (And.intro @Nat.mul_one @wrap_in) (And.intro @cMp @cM)))
set_option maxHeartbeats 4000000 in
theorem rAlloc_any (T : TypeId) (rest : List Value) (y : MlR) (n : Int) (fr : List Ext) (tk : List (Int × Int)) (W : World) (hst : St (feet (mlL T rest y)) W (mlL T rest y) W) (hI : Ex.Inv y.N y.us fr tk) (hl : y.us.length ≤ 90) :
    Calls Try.prog 29 #[.pointer (some ⟨y.bM, 0, none⟩), .int .i64 n] W
    fun e w' => ∃ z : MlR, e = .returned (.tuple #[exV (Ex.findF fr n).1, .int .i64 (Ex.findF fr n).2]) ∧
      (z.bM = y.bM ∧ z.N = y.N ∧ z.us = (if (Ex.findF fr n).2 = 0 then y.us ++ [(Ex.findF fr n).1] else y.us)) ∧ St (feet (mlL T rest y)) W (mlL T rest z) w' := by
  have hp := fun e he => (hI.prop e he).1
  obtain ⟨M, hM⟩ : ∃ M, feet (mlL T rest y) = M := ⟨_, rfl⟩
  rw [hM] at hst ⊢
  obtain ⟨q, hq⟩ : ∃ q, Ex.findF fr n = q := ⟨_, rfl⟩
  have hfe := Ex.findF_err (fr := fr) (n := n)
  have hpf := plc_find (n := n) (fr := fr)
  have hal := hI.alloc (n := n)
  obtain ⟨S, hS⟩ : ∃ S, Sz.rnd n = S := ⟨_, rfl⟩
  obtain ⟨pq, hpq⟩ : ∃ pq, Ex.plc S fr = pq := ⟨_, rfl⟩
  rw [hS, hpq, hq] at hpf
  rw [hq] at hfe hal
  rw [hq]
  obtain ⟨bM, N, UA, un, uc, us⟩ := y
  dsimp only at hp hI hl hal
  unfold mlL at hst
  dsimp only at hst
  clear hM
  refine calls_cv2 (M := M) (n := 46) [.cell 4 39, .tmp 5] rfl Try.func29 rfl rfl (Nat.le_of_ble_eq_true rfl)  hst ?_
  refine cv_seq_k fun K hK => ?_
  refine cv_region_then rfl ?_
  simp -implicitDefEqProofs (disch := first | omega | decide) only [seval, -Int.reducePow, -Nat.reducePow, cC, pv, binv, sAlRMut1, undef]
  intro b4 hb4 hf4
  refine hK _ _ ?_
  clear hK K
  refine cv_seq_k fun K hK => ?_
  refine cv_seq_k fun K hK => ?_
  refine cv_region_then rfl ?_
  simp -implicitDefEqProofs (disch := first | omega | decide) only [seval, -Int.reducePow, -Nat.reducePow, cC, pv, binv, sAlRMut1, undef]
  refine callV_ret (fun w hw => (rFits_any ⟨bM, N, UA, un, uc, us⟩ n fr tk w (MlW.of hw 1 2 rfl rfl (by dsimp only; omega) hp) hI)) ?_
  try simp -implicitDefEqProofs (disch := first | omega | decide) only [seval, -Int.reducePow, -Nat.reducePow, cC, pv, binv, sAlRMut1, undef, hq]
  refine hK _ _ ?_
  clear hK K
  refine cv_gen fun G1 hG => ?_
  have g1_0 := congrFun hG 0
  have g1_1 := congrFun hG 1
  have g1_4 := congrFun hG 4
  have g1_6 := congrFun hG 6
  clear hG
  try simp -implicitDefEqProofs (disch := first | omega | decide) only [seval, -Int.reducePow, -Nat.reducePow, cC, pv, binv, sAlRMut1, undef] at g1_0 g1_1 g1_4 g1_6
  have g1 := And.intro g1_0 (And.intro g1_1 (And.intro g1_4 g1_6))
  refine cv_seq_k fun K hK => ?_
  refine cv_region_then rfl ?_
  simp -implicitDefEqProofs (disch := first | omega | decide) only [seval, -Int.reducePow, -Nat.reducePow, cC, pv, binv, sAlRMut1, undef, g1]
  refine hK _ _ ?_
  clear hK K
  refine cv_cond ?_
  simp -implicitDefEqProofs (disch := first | omega | decide) only [seval, -Int.reducePow, -Nat.reducePow, cC, pv, binv, sAlRMut1, undef, g1]
  refine ⟨fun hc => ?_, fun hc => ?_⟩
  · have hz : ¬ q.2 = 0 := nd_true ‹(!decide (q.2 = 0)) = true›
    refine cv_seq_k fun K hK => ?_
    refine cv_region_then rfl ?_
    simp -implicitDefEqProofs (disch := first | omega | decide) only [seval, -Int.reducePow, -Nat.reducePow, cC, pv, binv, sAlRMut1, undef, g1]
    refine hK _ _ ?_
    clear hK K
    refine cv_ret ?_
    simp -implicitDefEqProofs (disch := first | omega | decide) only [seval, -Int.reducePow, -Nat.reducePow, cC, pv, binv, sAlRMut1, undef, retQ2, ressV, packV, g1]
    intro w hw
    rw [hfe hz, if_neg hz]
    exact ⟨⟨bM, N, UA, un, uc, us⟩, rfl, ⟨rfl, rfl, rfl⟩, hw.tail⟩
  have hz : q.2 = 0 := Decidable.not_not.1 (nd_false ‹(!decide (q.2 = 0)) = false›)
  obtain ⟨a1, a2, a3, a4, a5, a6, a7, a8⟩ := hal hz
  obtain ⟨c1, c2⟩ := hpf a5
  have c2 := c2 hz
  have hul : ∀ {w : World} {L : List Res} (hw : St M W (L ++ [.row (.slice UA un uc) 39 2 un (exCells us)]) w), un = us.length := fun hw => by
    have := (Exts.of_row hw (List.mem_append.2 (.inr (.head _)))).len
    exact this.symm
  refine cv_skip ?_
  try simp only [blockQ, thenQ]
  refine hK _ _ ?_
  clear hK K
  refine cv_seq_k fun K hK => ?_
  refine cv_region_then rfl ?_
  simp -implicitDefEqProofs (disch := first | omega | decide) only [seval, -Int.reducePow, -Nat.reducePow, cC, pv, binv, sAlRMut1, undef, g1]
  refine callV_ret (fun w hw => rround_any n w) ?_
  try simp -implicitDefEqProofs (disch := first | omega | decide) only [seval, -Int.reducePow, -Nat.reducePow, cC, pv, binv, sAlRMut1, undef, hS, a5, g1]
  refine hK _ _ ?_
  clear hK K
  refine cv_seq_k fun K hK => ?_
  refine cv_region_then rfl ?_
  simp -implicitDefEqProofs (disch := first | omega | decide) only [seval, -Int.reducePow, -Nat.reducePow, cC, pv, binv, sAlRMut1, undef, g1]
  refine callV_ret (fun w hw => (rplace_any ⟨bM, N, UA, un, uc, us⟩ S fr tk w (MlW.of hw 1 2 rfl rfl (by dsimp only; omega) hp) hI)) ?_
  try simp -implicitDefEqProofs (disch := first | omega | decide) only [seval, -Int.reducePow, -Nat.reducePow, cC, pv, binv, sAlRMut1, undef, hpq, g1]
  refine hK _ _ ?_
  clear hK K
  refine cv_seq_k fun K hK => ?_
  refine cv_region_then rfl ?_
  simp -implicitDefEqProofs (disch := first | omega | decide) only [seval, -Int.reducePow, -Nat.reducePow, cC, pv, binv, sAlRMut1, undef, g1]
  intro b11 hb11 hf11
  refine hK _ _ ?_
  clear hK K
  refine cv_gen fun G2 hG => ?_
  have g2_0 := congrFun hG 0
  have g2_4 := congrFun hG 4
  have g2_11 := congrFun hG 11
  clear hG
  try simp -implicitDefEqProofs (disch := first | omega | decide) only [seval, -Int.reducePow, -Nat.reducePow, cC, pv, binv, sAlRMut1, undef, g1] at g2_0 g2_4 g2_11
  have g2 := And.intro g2_0 (And.intro g2_4 g2_11)
  refine cv_fact (un = us.length) (fun w hw => (Exts.of_row hw (.tail _ (.tail _ (.tail _ (.head _))))).len.symm) fun hun => ?_
  refine cv_seq_k fun K hK => ?_
  refine cv_cut (fun _ _ => True) (fun F' L' => ∃ (A1 : Option Addr) (k1 : Nat), F' 4 = G2 4 ∧ F' 11 = G2 11 ∧ L' = [eBox b11 ⟨pq.1, S⟩, eBox b4 ⟨0, 0⟩, .blk bM T (.int .i64 N :: .slice A1 (un + 1) k1 :: rest), .row (.slice A1 (un + 1) k1) 39 2 (un + 1) (exCells us ++ [.int .i64 pq.1, .int .i64 S])]) ?_ ?_
  · refine cv_more [0, 1, 2, 3] (by decide) (by simp only [pickL, nth, suf_cons, suf_nil, List.mem_cons, true_or, or_true, and_true, eq_self]) (.rd 0 (.rd 2 (.rd 3 (.rd 4 (.rd 5 (.rd 7 (.more 1 (.more 6 (.act 8 (.act 9 (.rd 10 (.rd 11 (.act 12 (.done)))))) (.act 8 (.act 6 (.act 9 (.rd 10 (.rd 11 (.act 12 (.done)))))))) (.act 8 (.act 1 (.act 6 (.act 9 (.rd 10 (.rd 11 (.act 12 (.done))))))))))))))) [12] mixA rfl (by kernel_rfl) (by kernel_rfl) (by kernel_rfl) (by kernel_rfl) ?_
    simp only [pickL, nth]
    simp -implicitDefEqProofs (disch := first | omega | decide) only [seval, -Int.reducePow, -Nat.reducePow, cC, pv, binv, sAlRMut1, undef, g2]
    refine ⟨fun b hb hf => ⟨?_, fun b' hb' hf' => ?_⟩, fun b hb hf b' hb' hf' => ?_⟩
    · refine appV_lit 0 tap29 rfl rfl (fun w hw => src_row (.tail _ (.tail _ (.tail _ (.tail _ (.head _))))) hw) (ones_exCells _) (by omega) (by omega) ?_
      intro A c hl hr
      simp -implicitDefEqProofs (disch := first | omega | decide) only [seval, -Int.reducePow, -Nat.reducePow, cC, pv, binv, sAlRMut1, undef, g2]
      intro b' hb' hf'
      refine appV_at 1 tap29 rfl (fun w hw => src_blk (size := 2) (.head _) rfl hw) rfl (by omega) (by omega) ?_
      intro A1 k1 hl hr
      simp -implicitDefEqProofs (disch := first | omega | decide) only [seval, -Int.reducePow, -Nat.reducePow, cC, pv, binv, sAlRMut1, undef, g2]
      refine ⟨[2, 3, 4, 0], by decide, ?_⟩
      simp only [pickL, nth]
      refine ⟨A1, k1, ?_⟩
      simp -implicitDefEqProofs (disch := first | omega | decide) only [seval, -Int.reducePow, -Nat.reducePow, cC, pv, binv, sAlRMut1, undef, g2]
    · refine appV_lit 1 tap29 rfl rfl (fun w hw => src_row (.tail _ (.tail _ (.tail _ (.tail _ (.tail _ (.head _)))))) hw) (ones_exCells _) (by omega) (by omega) ?_
      intro A c hl hr
      simp -implicitDefEqProofs (disch := first | omega | decide) only [seval, -Int.reducePow, -Nat.reducePow, cC, pv, binv, sAlRMut1, undef, g2]
      refine appV_at 0 tap29 rfl (fun w hw => src_blk (size := 2) (.tail _ (.head _)) rfl hw) rfl (by omega) (by omega) ?_
      intro A1 k1 hl hr
      simp -implicitDefEqProofs (disch := first | omega | decide) only [seval, -Int.reducePow, -Nat.reducePow, cC, pv, binv, sAlRMut1, undef, g2]
      refine ⟨[2, 3, 4, 0], by decide, ?_⟩
      simp only [pickL, nth]
      refine ⟨A1, k1, ?_⟩
      simp -implicitDefEqProofs (disch := first | omega | decide) only [seval, -Int.reducePow, -Nat.reducePow, cC, pv, binv, sAlRMut1, undef, g2]
    · refine appV_lit 0 tap29 rfl rfl (fun w hw => src_row (.tail _ (.tail _ (.tail _ (.tail _ (.tail _ (.head _)))))) hw) (ones_exCells _) (by omega) (by omega) ?_
      intro A c hl hr
      simp -implicitDefEqProofs (disch := first | omega | decide) only [seval, -Int.reducePow, -Nat.reducePow, cC, pv, binv, sAlRMut1, undef, g2]
      refine appV_at 0 tap29 rfl (fun w hw => src_blk (size := 2) (.tail _ (.head _)) rfl hw) rfl (by omega) (by omega) ?_
      intro A1 k1 hl hr
      simp -implicitDefEqProofs (disch := first | omega | decide) only [seval, -Int.reducePow, -Nat.reducePow, cC, pv, binv, sAlRMut1, undef, g2]
      refine ⟨[2, 3, 4, 0], by decide, ?_⟩
      simp only [pickL, nth]
      refine ⟨A1, k1, ?_⟩
      simp -implicitDefEqProofs (disch := first | omega | decide) only [seval, -Int.reducePow, -Nat.reducePow, cC, pv, binv, sAlRMut1, undef, g2]
  intro G3 L' _ hF
  obtain ⟨A1, k1, q4, q11, rfl⟩ := hF
  have g3_4 := q4.trans g2_4
  have g3_11 := q11.trans g2_11
  clear q4 q11
  have g3 := And.intro g3_4 g3_11
  refine hK _ _ ?_
  clear hK K
  refine cv_seq_k fun K hK => ?_
  refine cv_region_then rfl ?_
  simp -implicitDefEqProofs (disch := first | omega | decide) only [seval, -Int.reducePow, -Nat.reducePow, cC, pv, binv, sAlRMut1, undef, g3]
  refine hK _ _ ?_
  clear hK K
  refine cv_ret ?_
  simp -implicitDefEqProofs (disch := first | omega | decide) only [seval, -Int.reducePow, -Nat.reducePow, cC, pv, binv, sAlRMut1, undef, retQ2, ressV, packV, g3]
  intro w hw
  refine ⟨⟨bM, N, A1, un + 1, k1, us ++ [⟨pq.1, S⟩]⟩, by rw [hz, c2], ⟨rfl, rfl, by rw [if_pos hz, c2]⟩, ?_⟩
  have h9 := hw.pick (ix := [2, 3]) (by decide)
  rw [exCells_snoc]
  exact h9
theorem filter_take {us : List Ext} {e : Ext} {i : Nat} (h : i < us.length) : (us.take (i + 1)).filter (fun x => decide (x ≠ e)) = (us.take i).filter (fun x => decide (x ≠ e)) ++ (if Ex.get us i = e then [] else [Ex.get us i]) := by
  rw [List.take_add_one, List.getElem?_eq_getElem h, ← Ex.get_eq h]
  simp only [Option.toList_some, List.filter_append]
  congr 1
  by_cases hc : Ex.get us i = e
  · simp [hc]
  · simp [hc]
set_option maxHeartbeats 1000000 in
theorem rFree_any (T : TypeId) (rest : List Value) (y : MlR) (e : Ext) (W : World) (hst : St (feet (mlL T rest y)) W (mlL T rest y) W) (hl : y.us.length ≤ 90) :
    Calls Try.prog 32 #[.pointer (some ⟨y.bM, 0, none⟩), exV e] W
    fun en w' => ∃ z : MlR, en = .returned (.int .i64 (if e ∈ y.us then 0 else 6)) ∧
      (z.bM = y.bM ∧ z.N = y.N ∧ z.us = (y.us.filter fun x => decide (x ≠ e))) ∧ St (feet (mlL T rest y)) W (mlL T rest z) w' := by
  obtain ⟨M, hM⟩ : ∃ M, feet (mlL T rest y) = M := ⟨_, rfl⟩
  rw [hM] at hst ⊢
  obtain ⟨bM, N, UA, un, uc, us⟩ := y
  dsimp only at hl
  unfold mlL at hst
  dsimp only at hst
  clear hM
  have hfl := Ex.filter_len_eq (us := us) (e := e)
  refine calls_cv (M := M) (n := 47) [.tmp 4] rfl Try.func32 rfl rfl (Nat.le_of_ble_eq_true rfl)  hst ?_
  refine cv_seq_k fun K hK => ?_
  refine cv_region_then rfl ?_
  simp -implicitDefEqProofs (disch := first | omega | decide) only [seval, -Int.reducePow, -Nat.reducePow, cC, pv, binv, sAlRMut1, undef]
  intro b3 hb3 hf3
  refine hK _ _ ?_
  clear hK K
  refine cv_fact (un = us.length) (fun w hw => (Exts.of_row hw (.tail _ (.tail _ (.head _)))).len.symm) fun hun => ?_
  refine cv_seq_k fun K hK => ?_
  refine cv_region_then rfl ?_
  simp -implicitDefEqProofs (disch := first | omega | decide) only [seval, -Int.reducePow, -Nat.reducePow, cC, pv, binv, sAlRMut1, undef]
  refine hK _ _ ?_
  clear hK K
  refine cv_seq_k fun K hK => ?_
  refine cv_seq_k fun K hK => ?_
  refine cv_region_then rfl ?_
  simp -implicitDefEqProofs (disch := first | omega | decide) only [seval, -Int.reducePow, -Nat.reducePow, cC, pv, binv, sAlRMut1, undef]
  refine hK _ _ ?_
  clear hK K
  refine cv_gen fun G4 hG => ?_
  have g4_0 := congrFun hG 0
  have g4_3 := congrFun hG 3
  have g4_5 := congrFun hG 5
  have g4_6 := congrFun hG 6
  clear hG
  try simp -implicitDefEqProofs (disch := first | omega | decide) only [seval, -Int.reducePow, -Nat.reducePow, cC, pv, binv, sAlRMut1, undef] at g4_0 g4_3 g4_5 g4_6
  have g4 := And.intro g4_0 (And.intro g4_3 (And.intro g4_5 g4_6))
  refine cv_block ?_
  refine cv_nil 39 2 ?_
  refine cv_loop (fun F' L' => ∃ (i : Nat) (A : Option Addr) (n c : Nat), F' 0 = G4 0 ∧ F' 3 = G4 3 ∧ F' 5 = .slice A n c ∧ F' 6 = .int .i64 (i : Int) ∧ L' = [.row (.slice A n c) 39 2 n (exCells ((us.take i).filter fun x => decide (x ≠ e))), eBox b3 e, .blk bM T (.int .i64 N :: .slice UA un uc :: rest), .row (.slice UA un uc) 39 2 un (exCells us)] ∧ i ≤ un) (fun F' L' => 200 - (intOf (F' 6)).toNat) ?_ ?_
  · refine ⟨0, none, 0, 0, ?_⟩
    simp -implicitDefEqProofs (disch := first | omega | decide) only [seval, -Int.reducePow, -Nat.reducePow, cC, pv, binv, sAlRMut1, undef, g4]
    exact ⟨rfl, by omega⟩
  intro G5 L' hI
  obtain ⟨i, A, n, c, q0, q3, q5, q6, rfl, hi⟩ := hI
  have g5_0 := q0.trans g4_0
  have g5_3 := q3.trans g4_3
  have g5_5 := q5
  have g5_6 := q6
  clear q0 q3 q5 q6
  have g5 := And.intro g5_0 (And.intro g5_3 (And.intro g5_5 g5_6))
  refine cv_seq_k fun K hK => ?_
  refine cv_seq_k fun K hK => ?_
  refine cv_region_then rfl ?_
  simp -implicitDefEqProofs (disch := first | omega | decide) only [seval, -Int.reducePow, -Nat.reducePow, cC, pv, binv, sAlRMut1, undef, g4, g5]
  refine hK _ _ ?_
  clear hK K
  refine cv_cond ?_
  simp -implicitDefEqProofs (disch := first | omega | decide) only [seval, -Int.reducePow, -Nat.reducePow, cC, pv, binv, sAlRMut1, undef, g4, g5]
  refine ⟨fun hc => ?_, fun hc => ?_⟩
  · refine cv_skip ?_
    try simp only [blockQ, thenQ]
    have hit : i < un := by have := of_decide_eq_true ‹decide ((i : Int) < (un : Int)) = true›; omega
    obtain ⟨x, hx⟩ : ∃ x, Ex.get us i = x := ⟨_, rfl⟩
    have hgi := exCells_get us i (by omega)
    have htk := filter_take (us := us) (e := e) (i := i) (by omega)
    rw [hx] at hgi htk
    have hxe : x = e ↔ x.off = e.off ∧ x.len = e.len := by cases x; cases e; simp
    have hcx : ((exCells us).drop (i * 2)).take 2 = [.int .i64 x.off, .int .i64 x.len] := by
      apply List.ext_getElem?
      intro j
      rw [List.getElem?_take, List.getElem?_drop]
      match j with
      | 0 => simpa using hgi.1
      | 1 => simpa using hgi.2
      | j + 2 => rw [if_neg (by omega)]; rfl
    have hfn : ((us.take i).filter fun x => decide (x ≠ e)).length ≤ i := by
      have := List.length_filter_le (fun x => decide (x ≠ e)) (us.take i)
      rw [List.length_take] at this
      omega
    refine hK _ _ ?_
    clear hK K
    refine cv_fact (n ≤ 100) (fun w hw => by have := (Exts.of_row (xs := (us.take i).filter fun x => decide (x ≠ e)) hw (.head _)).len; omega) fun hn100 => ?_
    refine cv_rowA 3 rfl (by omega) fun g hAA hg hNN => ?_
    subst hAA
    simp only [List.eraseIdx_cons_zero, List.eraseIdx_cons_succ, neB_nil, neB_blk, neB_row, neB_snap, and_true, List.not_mem_nil, or_false] at hNN hg
    replace hg := And.intro hg hNN
    clear hNN
    refine cv_seq_k fun K hK => ?_
    refine cv_block ?_
    refine cv_seq_k fun K hK => ?_
    refine cv_draw [(true, 0), (true, 1), (true, 2), (true, 3), (true, 4), (true, 5), (true, 6), (true, 7), (true, 8)] [] mixA rfl (by kernel_rfl) (by kernel_rfl) rfl rfl ?_
    simp -implicitDefEqProofs (disch := first | omega | decide) only [seval, -Int.reducePow, -Nat.reducePow, cC, pv, binv, sAlRMut1, undef, g4, g5]
    refine ⟨_, ld_row (i := i * 2) (vs := [.int .i64 x.off, .int .i64 x.len]) (.tail _ (.tail _ (.tail _ (.head _)))) rfl hcx, fun tok htok => ?_⟩
    subst htok
    simp -implicitDefEqProofs (disch := first | omega | decide) only [seval, -Int.reducePow, -Nat.reducePow, cC, pv, binv, sAlRMut1, undef, g4, g5]
    refine hK _ _ ?_
    clear hK K
    refine cv_cond ?_
    simp -implicitDefEqProofs (disch := first | omega | decide) only [seval, -Int.reducePow, -Nat.reducePow, cC, pv, binv, sAlRMut1, undef, g4, g5]
    refine ⟨fun hc => ?_, fun hc => ?_⟩
    · have q1 : ¬ x = e := fun h => by have := hxe.1 h; simp [this.1, this.2] at hc
      rw [if_neg q1] at htk
      refine cv_region_q rfl ?_
      simp -implicitDefEqProofs (disch := first | omega | decide) only [seval, -Int.reducePow, -Nat.reducePow, cC, pv, binv, sAlRMut1, undef, g4, g5]
      refine ⟨_, ld_row (i := i * 2) (vs := [.int .i64 x.off, .int .i64 x.len]) (.tail _ (.tail _ (.tail _ (.head _)))) rfl hcx, fun tok htok => ?_⟩
      subst htok
      simp -implicitDefEqProofs (disch := first | omega | decide) only [seval, -Int.reducePow, -Nat.reducePow, cC, pv, binv, sAlRMut1, undef, g4, g5]
      intro b33 hb33 hf33
      refine appV_at 1 tap29 rfl (fun w hw => src_blk (size := 2) (.head _) rfl hw) rfl (by omega) (by omega) ?_
      intro A1 c1 hl1 hr1
      simp -implicitDefEqProofs (disch := first | omega | decide) only [seval, -Int.reducePow, -Nat.reducePow, cC, pv, binv, sAlRMut1, undef, g4, g5]
      refine hK _ _ ?_
      clear hK K
      refine cv_pick [0, 2, 3, 4] (by decide) ?_
      simp only [pickL, nth]
      refine cv_region_then rfl ?_
      simp -implicitDefEqProofs (disch := first | omega | decide) only [seval, -Int.reducePow, -Nat.reducePow, cC, pv, binv, sAlRMut1, undef, wrap_in, g4, g5]
      refine ⟨⟨i + 1, A1, n + 1, c1, ?_⟩, ?_⟩
      · simp -implicitDefEqProofs (disch := first | omega | decide) only [seval, -Int.reducePow, -Nat.reducePow, cC, pv, binv, sAlRMut1, undef, Int.natCast_add, htk, exCells_snoc, g4, g5]
        omega
      · simp only [intOf]; omega
    · have q1 : x = e := hxe.2 (by simpa using hc)
      rw [if_pos q1, List.append_nil] at htk
      refine cv_skip ?_
      try simp only [blockQ, thenQ]
      refine hK _ _ ?_
      clear hK K
      refine cv_region_then rfl ?_
      simp -implicitDefEqProofs (disch := first | omega | decide) only [seval, -Int.reducePow, -Nat.reducePow, cC, pv, binv, sAlRMut1, undef, wrap_in, g4, g5]
      refine ⟨⟨i + 1, A, n, c, ?_⟩, ?_⟩
      · simp -implicitDefEqProofs (disch := first | omega | decide) only [seval, -Int.reducePow, -Nat.reducePow, cC, pv, binv, sAlRMut1, undef, Int.natCast_add, htk, g4, g5]
        omega
      · simp only [intOf]; omega
  refine cv_exit ?_
  simp only [blockQ, thenQ, if_true, ite_true]
  clear hK K
  refine hK _ _ ?_
  clear hK K
  have hit : ¬ i < un := by have := of_decide_eq_false ‹decide ((i : Int) < (un : Int)) = false›; omega
  rw [List.take_of_length_le (by omega)]
  refine cv_fact (n = (us.filter fun x => decide (x ≠ e)).length) (fun w hw => (Exts.of_row hw (.head _)).len.symm) fun hn => ?_
  refine cv_seq_k fun K hK => ?_
  refine cv_seq_k fun K hK => ?_
  refine cv_region_then rfl ?_
  simp -implicitDefEqProofs (disch := first | omega | decide) only [seval, -Int.reducePow, -Nat.reducePow, cC, pv, binv, sAlRMut1, undef, g4, g5]
  refine hK _ _ ?_
  clear hK K
  refine cv_cond ?_
  simp -implicitDefEqProofs (disch := first | omega | decide) only [seval, -Int.reducePow, -Nat.reducePow, cC, pv, binv, sAlRMut1, undef, g4, g5]
  refine ⟨fun hc => ?_, fun hc => ?_⟩
  · have q1 : e ∉ us := hfl.1 (by have := of_decide_eq_true ‹_›; omega)
    refine cv_seq_k fun K hK => ?_
    refine cv_region_then rfl ?_
    simp -implicitDefEqProofs (disch := first | omega | decide) only [seval, -Int.reducePow, -Nat.reducePow, cC, pv, binv, sAlRMut1, undef, g4, g5]
    refine hK _ _ ?_
    clear hK K
    refine cv_ret ⟨_, (by simp -implicitDefEqProofs (disch := first | omega | decide) only [seval, -Int.reducePow, -Nat.reducePow, cC, pv, binv, sAlRMut1, undef, g4, g5]; rfl), fun w hw => ?_⟩
    have hfe : (us.filter fun x => decide (x ≠ e)) = us := List.filter_eq_self.2 fun x hx => by simp; rintro rfl; exact q1 hx
    rw [if_neg q1]
    exact ⟨⟨bM, N, UA, un, uc, us⟩, rfl, ⟨rfl, rfl, hfe.symm⟩, hw.pick (ix := [2, 3]) (by decide)⟩
  have q1 : e ∈ us := Classical.byContradiction fun h => by
    have := hfl.2 h
    have := of_decide_eq_false ‹_›
    omega
  refine cv_skip ?_
  try simp only [blockQ, thenQ]
  refine hK _ _ ?_
  clear hK K
  refine cv_seq_k fun K hK => ?_
  refine cv_region_then rfl ?_
  simp -implicitDefEqProofs (disch := first | omega | decide) only [seval, -Int.reducePow, -Nat.reducePow, cC, pv, binv, sAlRMut1, undef, g4, g5]
  refine hK _ _ ?_
  clear hK K
  refine cv_seq_k fun K hK => ?_
  refine cv_region_then rfl ?_
  simp -implicitDefEqProofs (disch := first | omega | decide) only [seval, -Int.reducePow, -Nat.reducePow, cC, pv, binv, sAlRMut1, undef, g4, g5]
  refine hK _ _ ?_
  clear hK K
  refine cv_ret ⟨_, (by simp -implicitDefEqProofs (disch := first | omega | decide) only [seval, -Int.reducePow, -Nat.reducePow, cC, pv, binv, sAlRMut1, undef, g4, g5]; rfl), fun w hw => ?_⟩
  rw [if_pos q1]
  exact ⟨⟨bM, N, A, n, c, us.filter fun x => decide (x ≠ e)⟩, rfl, ⟨rfl, rfl, rfl⟩, hw.pick (ix := [2, 0]) (by decide)⟩
end Go.Proofs.Ytejogdielfgeoaa
/- New of the allocator. -/
namespace Go.Proofs.Ytejogdielfgeoaa
open Go.RowKit Go.Shelf
set_option linter.unusedVariables false
set_option linter.unusedSimpArgs false
set_option maxRecDepth 100000
theorem Exts.nil0 (w : World) (B : Nat) : Exts w B none 0 0 [] := ⟨rfl, Nat.le_refl _, by omega, fun h => by omega⟩
theorem Ex.compN_ok {s : Nat} (h : s ≤ 1048576) : (Ex.compF [] (s : Int)).2 = 0 := (Ex.compF_spec (xs := []) (s := (s : Int)) (fun i hi => by simp at hi) (by omega) (by omega) (fun i hi => by simp at hi)).1
theorem Ex.compN_no {s : Int} (h : s < 0 ∨ 1048576 < s) : Ex.compF [] s = ([], 1) := by
  have : Ex.cBad [] s = true := by unfold Ex.cBad; rcases h with h | h <;> simp [h]
  unfold Ex.compF
  rw [if_pos this]
set_option maxRecDepth 100000 in
theorem sAlNew1 : type_of% (And.intro (And.intro @eBox.eq_1 (And.intro @exV.eq_1 @alL.eq_1)) (And.intro (And.intro @Nat.mul_one @wrap_in) (And.intro @cMp @cM))) := (And.intro (And.intro @eBox.eq_1 (And.intro @exV.eq_1 @alL.eq_1)) (And.intro (And.intro @Nat.mul_one @wrap_in) (And.intro @cMp @cM)))
set_option maxHeartbeats 1000000 in
theorem aNew_ok (s : Nat) (W : World) (hs : s ≤ 1048576) : Calls Try.prog 9 #[.int .i64 (s : Int)] W
    fun e w' => ∃ y : AlR, e = .returned (.tuple #[.pointer (some ⟨y.bA, 0, none⟩), .int .i64 0]) ∧ (y.fr = (Ex.compF [] (s : Int)).1 ∧ y.tk = []) ∧ St [] W (alL y) w' := by
  have h0 := Ex.compN_ok hs
  refine calls_cv (M := []) (n := 18) [.tmp 2, .tmp 3] rfl Try.func9 rfl rfl (Nat.le_of_ble_eq_true rfl) (St.nil _ _) ?_
  refine cv_seq_k fun K hK => ?_
  refine cv_region_then rfl ?_
  simp -implicitDefEqProofs (disch := first | omega | decide) only [seval, -Int.reducePow, -Nat.reducePow, cC, pv, binv, sAlNew1, undef]
  refine hK _ _ ?_
  clear hK K
  refine cv_seq_k fun K hK => ?_
  refine cv_region_then rfl ?_
  simp -implicitDefEqProofs (disch := first | omega | decide) only [seval, -Int.reducePow, -Nat.reducePow, cC, pv, binv, sAlNew1, undef]
  refine callV_row (fun A n c => .tuple #[.slice A n c, .int .i64 0]) (fun w hw => (by have := complement_any none 0 0 [] (s : Int) w (Exts.nil0 _ _) (by omega); rw [h0] at this; exact this)) ?_
  intro A n c hl hr
  simp -implicitDefEqProofs (disch := first | omega | decide) only [seval, -Int.reducePow, -Nat.reducePow, cC, pv, binv, sAlNew1, undef]
  refine hK _ _ ?_
  clear hK K
  refine cv_seq_k fun K hK => ?_
  refine cv_seq_k fun K hK => ?_
  refine cv_region_then rfl ?_
  simp -implicitDefEqProofs (disch := first | omega | decide) only [seval, -Int.reducePow, -Nat.reducePow, cC, pv, binv, sAlNew1, undef]
  refine hK _ _ ?_
  clear hK K
  refine cv_cond ?_
  simp -implicitDefEqProofs (disch := first | omega | decide) only [seval, -Int.reducePow, -Nat.reducePow, cC, pv, binv, sAlNew1, undef]
  refine cv_skip ?_
  try simp only [blockQ, thenQ]
  refine hK _ _ ?_
  clear hK K
  refine cv_seq_k fun K hK => ?_
  refine cv_region_then rfl ?_
  simp -implicitDefEqProofs (disch := first | omega | decide) only [seval, -Int.reducePow, -Nat.reducePow, cC, pv, binv, sAlNew1, undef]
  refine xv_mkmap ?_
  intro bm hbm hfm
  simp -implicitDefEqProofs (disch := first | omega | decide) only [seval, -Int.reducePow, -Nat.reducePow, cC, pv, binv, sAlNew1, undef]
  intro bA hbA
  refine hK _ _ ?_
  clear hK K
  refine cv_ret ⟨_, (by simp -implicitDefEqProofs (disch := first | omega | decide) only [seval, -Int.reducePow, -Nat.reducePow, cC, pv, binv, sAlNew1, undef]; rfl), fun w hw => ?_⟩
  exact ⟨⟨bA, bm, A, n, c, (Ex.compF [] (s : Int)).1, []⟩, rfl, ⟨rfl, rfl⟩, hw⟩
set_option maxHeartbeats 1000000 in
theorem aNew_no (s : Int) (W : World) (hs : s < 0 ∨ 1048576 < s) : Calls Try.prog 9 #[.int .i64 s] W
    fun e w' => e = .returned (.tuple #[.pointer none, .int .i64 1]) ∧ Below W.heap.size W w' := by
  have h0 := Ex.compN_no hs
  refine calls_cv (M := []) (n := 18) [.tmp 2, .tmp 3] rfl Try.func9 rfl rfl (Nat.le_of_ble_eq_true rfl) (St.nil _ _) ?_
  refine cv_seq_k fun K hK => ?_
  refine cv_region_then rfl ?_
  simp -implicitDefEqProofs (disch := first | omega | decide) only [seval, -Int.reducePow, -Nat.reducePow, cC, pv, binv, sAlNew1, undef]
  refine hK _ _ ?_
  clear hK K
  refine cv_seq_k fun K hK => ?_
  refine cv_region_then rfl ?_
  simp -implicitDefEqProofs (disch := first | omega | decide) only [seval, -Int.reducePow, -Nat.reducePow, cC, pv, binv, sAlNew1, undef]
  refine callV_row (fun A n c => .tuple #[.slice A n c, .int .i64 1]) (fun w hw => (by have := complement_any none 0 0 [] s w (Exts.nil0 _ _) (by omega); rw [h0] at this; exact this)) ?_
  intro A n c hl hr
  simp -implicitDefEqProofs (disch := first | omega | decide) only [seval, -Int.reducePow, -Nat.reducePow, cC, pv, binv, sAlNew1, undef]
  refine hK _ _ ?_
  clear hK K
  refine cv_seq_k fun K hK => ?_
  refine cv_seq_k fun K hK => ?_
  refine cv_region_then rfl ?_
  simp -implicitDefEqProofs (disch := first | omega | decide) only [seval, -Int.reducePow, -Nat.reducePow, cC, pv, binv, sAlNew1, undef]
  refine hK _ _ ?_
  clear hK K
  refine cv_cond ?_
  simp -implicitDefEqProofs (disch := first | omega | decide) only [seval, -Int.reducePow, -Nat.reducePow, cC, pv, binv, sAlNew1, undef]
  refine cv_seq_k fun K hK => ?_
  refine cv_region_then rfl ?_
  simp -implicitDefEqProofs (disch := first | omega | decide) only [seval, -Int.reducePow, -Nat.reducePow, cC, pv, binv, sAlNew1, undef]
  refine hK _ _ ?_
  clear hK K
  refine cv_ret ⟨_, (by simp -implicitDefEqProofs (disch := first | omega | decide) only [seval, -Int.reducePow, -Nat.reducePow, cC, pv, binv, sAlNew1, undef]; rfl), fun w hw => ?_⟩
  exact ⟨rfl, hw.below⟩
end Go.Proofs.Ytejogdielfgeoaa
/- The allocator laws' awake. -/
namespace Go.Proofs.Ytejogdielfgeoaa
open Go.RowKit Go.Shelf
set_option linter.unusedVariables false
set_option linter.unusedSimpArgs false
set_option maxRecDepth 100000
theorem awAl (x : AlR) (us : List Ext) (n : Int) (q : Ext) (hI : Ex.Inv 64 us x.fr x.tk) (hq : Ex.findF (Ex.freeM 64 us) n = (q, 0)) (hl : us.length ≤ 100) (w : World) (hs : St (feet (alL x)) w (alL x) w) :
    Calls Try.prog 13 #[.pointer (some ⟨x.bA, 0, none⟩), .int .i64 n] w fun e w' => ∃ y : AlR, e = .returned (.tuple #[.agg #[.int .i64 q.off, .int .i64 q.len], .int .i64 0]) ∧ (y.bA = x.bA ∧ Ex.Inv 64 (us ++ [q]) y.fr y.tk) ∧ St (feet (alL x)) w (alL y) w' := by
  have := aAlloc_any x 64 us n w hs hI hl
  rw [hI.fr, hq] at this
  refine this.mono ?_
  rintro e w' ⟨y, rfl, ⟨h1, -, h3⟩, h4⟩
  exact ⟨y, rfl, ⟨h1, h3 rfl⟩, h4⟩
theorem aw1 : Ex.findF (Ex.freeM 64 []) 20 = (⟨0, 32⟩, 0) := by kernel_rfl
theorem aw2 : Ex.findF (Ex.freeM 64 [⟨0, 32⟩]) 16 = (⟨32, 16⟩, 0) := by kernel_rfl
theorem aw3 : Ex.findF (Ex.freeM 64 [⟨0, 32⟩, ⟨32, 16⟩]) 16 = (⟨48, 16⟩, 0) := by kernel_rfl
theorem aw4 : ([⟨0, 32⟩, ⟨32, 16⟩, ⟨48, 16⟩] : List Ext).filter (fun x => decide (x ≠ ⟨0, 32⟩)) = [⟨32, 16⟩, ⟨48, 16⟩] := by decide
theorem aw5 : Ex.findF (Ex.freeM 64 [⟨32, 16⟩, ⟨48, 16⟩]) 1 = (⟨0, 16⟩, 0) := by kernel_rfl
set_option maxRecDepth 100000 in
theorem sAlAw1 : type_of% (And.intro (And.intro @eBox.eq_1 (And.intro @exV.eq_1 @alL.eq_1)) (And.intro (And.intro @Nat.mul_one @wrap_in) (And.intro @cMp @cM))) := (And.intro (And.intro @eBox.eq_1 (And.intro @exV.eq_1 @alL.eq_1)) (And.intro (And.intro @Nat.mul_one @wrap_in) (And.intro @cMp @cM)))
set_option maxHeartbeats 2000000 in
theorem alAwake_any (W : World) : Calls Try.prog 12 #[] W fun e w' => e = .returned (.bool true) ∧ Below W.heap.size W w' := by
  refine calls_cv (M := []) (n := 71) [.tmp 0] rfl Try.func12 rfl rfl (Nat.le_of_ble_eq_true rfl) (St.nil _ _) ?_
  refine cv_seq_k fun K hK => ?_
  refine cv_region_then rfl ?_
  simp -implicitDefEqProofs (disch := first | omega | decide) only [seval, -Int.reducePow, -Nat.reducePow, cC, pv, binv, sAlAw1, undef]
  refine hK _ _ ?_
  clear hK K
  refine cv_seq_k fun K hK => ?_
  refine cv_region_then rfl ?_
  simp -implicitDefEqProofs (disch := first | omega | decide) only [seval, -Int.reducePow, -Nat.reducePow, cC, pv, binv, sAlAw1, undef]
  refine callV_grp [] [] (by decide) (fun x : AlR => .tuple #[.pointer (some ⟨x.bA, 0, none⟩), .int .i64 0]) (fun x => alL x) (fun x => Ex.Inv (64 : Int) [] x.fr x.tk) (fun w hw hs => (aNew_ok 64 w (by omega)).mono (by
    rintro e w' ⟨y, rfl, ⟨h1, h2⟩, h3⟩
    refine ⟨y, rfl, ?_, h3⟩
    rw [h1, h2]
    exact Ex.inv_new (by omega) (by omega))) ?_
  intro x1 hI1
  simp only [pickL, nth]
  simp -implicitDefEqProofs (disch := first | omega | decide) only [seval, -Int.reducePow, -Nat.reducePow, cC, pv, binv, sAlAw1, undef]
  refine hK _ _ ?_
  clear hK K
  refine cv_seq_k fun K hK => ?_
  refine cv_seq_k fun K hK => ?_
  refine cv_region_then rfl ?_
  simp -implicitDefEqProofs (disch := first | omega | decide) only [seval, -Int.reducePow, -Nat.reducePow, cC, pv, binv, sAlAw1, undef]
  refine hK _ _ ?_
  clear hK K
  refine cv_cond ?_
  simp -implicitDefEqProofs (disch := first | omega | decide) only [seval, -Int.reducePow, -Nat.reducePow, cC, pv, binv, sAlAw1, undef]
  refine cv_skip ?_
  try simp only [blockQ, thenQ]
  refine hK _ _ ?_
  clear hK K
  refine cv_seq_k fun K hK => ?_
  refine cv_region_then rfl ?_
  simp -implicitDefEqProofs (disch := first | omega | decide) only [seval, -Int.reducePow, -Nat.reducePow, cC, pv, binv, sAlAw1, undef]
  refine callV_grp [0, 1, 2] [] (by decide) (fun _ : AlR => .tuple #[.agg #[.int .i64 0, .int .i64 32], .int .i64 0]) (fun y => alL y) _ (fun w hw hs => awAl x1 [] 20 ⟨0, 32⟩ hI1 aw1 (by decide) w hs) ?_
  rintro x2 ⟨hb2, hI2⟩
  simp only [pickL, nth]
  simp -implicitDefEqProofs (disch := first | omega | decide) only [seval, -Int.reducePow, -Nat.reducePow, cC, pv, binv, sAlAw1, undef]
  intro b3 hb3 hf3
  refine hK _ _ ?_
  clear hK K
  refine cv_seq_k fun K hK => ?_
  refine cv_region_then rfl ?_
  simp -implicitDefEqProofs (disch := first | omega | decide) only [seval, -Int.reducePow, -Nat.reducePow, cC, pv, binv, sAlAw1, undef]
  rw [← hb2]
  refine callV_grp [1, 2, 3] [0] (by decide) (fun _ : AlR => .tuple #[.agg #[.int .i64 32, .int .i64 16], .int .i64 0]) (fun y => alL y) _ (fun w hw hs => awAl x2 [⟨0, 32⟩] 16 ⟨32, 16⟩ hI2 aw2 (by decide) w hs) ?_
  rintro x3 ⟨hb3_, hI3⟩
  simp only [pickL, nth]
  simp -implicitDefEqProofs (disch := first | omega | decide) only [seval, -Int.reducePow, -Nat.reducePow, cC, pv, binv, sAlAw1, undef]
  intro b5 hb5 hf5
  refine hK _ _ ?_
  clear hK K
  refine cv_seq_k fun K hK => ?_
  refine cv_region_then rfl ?_
  simp -implicitDefEqProofs (disch := first | omega | decide) only [seval, -Int.reducePow, -Nat.reducePow, cC, pv, binv, sAlAw1, undef]
  rw [← hb3_]
  refine callV_grp [1, 2, 3] [0, 4] (by decide) (fun _ : AlR => .tuple #[.agg #[.int .i64 48, .int .i64 16], .int .i64 0]) (fun y => alL y) _ (fun w hw hs => awAl x3 [⟨0, 32⟩, ⟨32, 16⟩] 16 ⟨48, 16⟩ hI3 aw3 (by decide) w hs) ?_
  rintro x4 ⟨hb4_, hI4⟩
  simp only [pickL, nth]
  simp -implicitDefEqProofs (disch := first | omega | decide) only [seval, -Int.reducePow, -Nat.reducePow, cC, pv, binv, sAlAw1, undef]
  intro b7 hb7 hf7
  refine hK _ _ ?_
  clear hK K
  refine cv_seq_k fun K hK => ?_
  refine cv_region_then rfl ?_
  simp -implicitDefEqProofs (disch := first | omega | decide) only [seval, -Int.reducePow, -Nat.reducePow, cC, pv, binv, sAlAw1, undef]
  rw [← hb4_]
  refine callV_grp [1, 2, 3] [0, 4, 5] (by decide) (fun _ : AlR => .int .i64 0) (fun y => alL y) (fun y => y.bA = x4.bA ∧ Ex.Inv 64 [⟨32, 16⟩, ⟨48, 16⟩] y.fr y.tk) (fun w hw hs => (aFree_any x4 64 [⟨0, 32⟩, ⟨32, 16⟩, ⟨48, 16⟩] ⟨0, 32⟩ w hs hI4 (by decide)).mono (by
    rintro e w' ⟨y, rfl, ⟨h1, -, h3⟩, h4⟩
    have h5 := h3 (by decide)
    rw [aw4] at h5
    exact ⟨y, by rw [if_pos (by decide)], ⟨h1, h5⟩, h4⟩)) ?_
  rintro x5 ⟨hb5_, hI5⟩
  simp only [pickL, nth]
  simp -implicitDefEqProofs (disch := first | omega | decide) only [seval, -Int.reducePow, -Nat.reducePow, cC, pv, binv, sAlAw1, undef]
  refine hK _ _ ?_
  clear hK K
  refine cv_seq_k fun K hK => ?_
  refine cv_region_then rfl ?_
  simp -implicitDefEqProofs (disch := first | omega | decide) only [seval, -Int.reducePow, -Nat.reducePow, cC, pv, binv, sAlAw1, undef]
  rw [← hb5_]
  refine callV_grp [0, 1, 2] [3, 4, 5] (by decide) (fun _ : AlR => .tuple #[.agg #[.int .i64 0, .int .i64 16], .int .i64 0]) (fun y => alL y) _ (fun w hw hs => awAl x5 [⟨32, 16⟩, ⟨48, 16⟩] 1 ⟨0, 16⟩ hI5 aw5 (by decide) w hs) ?_
  rintro x6 ⟨hb6_, hI6⟩
  simp only [pickL, nth]
  simp -implicitDefEqProofs (disch := first | omega | decide) only [seval, -Int.reducePow, -Nat.reducePow, cC, pv, binv, sAlAw1, undef]
  intro b10 hb10 hf10
  refine hK _ _ ?_
  clear hK K
  refine cv_seq_k fun K hK => ?_
  refine cv_region_then rfl ?_
  simp -implicitDefEqProofs (disch := first | omega | decide) only [seval, -Int.reducePow, -Nat.reducePow, cC, pv, binv, sAlAw1, undef]
  refine hK _ _ ?_
  clear hK K
  refine cv_ret ⟨_, (by simp -implicitDefEqProofs (disch := first | omega | decide) only [seval, -Int.reducePow, -Nat.reducePow, cC, pv, binv, sAlAw1, undef]; rfl), fun w hw => ?_⟩
  exact ⟨rfl, hw.below⟩
end Go.Proofs.Ytejogdielfgeoaa
