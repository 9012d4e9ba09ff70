/- Maps of ints over the abstract state; calls that change some of the resources and leave the others alone. -/
import Derived.Test.YtfaanphjaghbpaaFlEng
import Derived.Test.YtfaanphjaghbpaaEng10
import Derived.MapKept
namespace Go.Proofs.Ytfaanphjaghbpaa
open Go.RowKit Go.Shelf
set_option linter.unusedVariables false
set_option linter.unusedSimpArgs false
theorem nd_true {p : Prop} [Decidable p] (h : (!decide p) = true) : ¬ p := by simpa using h
theorem nd_false {p : Prop} [Decidable p] (h : (!decide p) = false) : ¬ ¬ p := by simpa using h
/-! ## Maps as lists of pairs -/
def mget : List (Int × Int) → Int → Option Int
  | [], _ => none
  | p :: l, k => if p.1 = k then some p.2 else mget l k
def mset : List (Int × Int) → Int → Int → List (Int × Int)
  | [], k, v => [(k, v)]
  | p :: l, k, v => if p.1 = k then (k, v) :: l else p :: mset l k v
def mdel : List (Int × Int) → Int → List (Int × Int)
  | [], _ => []
  | p :: l, k => if p.1 = k then l else p :: mdel l k
theorem map_erase {α β : Type} (f : α → β) : ∀ (l : List α) (j : Nat), (l.eraseIdx j).map f = (l.map f).eraseIdx j
  | [], j => by simp
  | a :: l, 0 => by simp
  | a :: l, j + 1 => by simp [map_erase f l j]
def prV (p : Int × Int) : Value × Value := (.int .i64 p.1, .int .i64 p.2)
theorem findNow_mp (k v : Int) : ∀ (es : List MapEntry) (l : List (Int × Int)) (i : Nat), es.map (fun e => (e.key, e.val)) = l.map prV →
    (mget l k = none ∧ Instr.findNow (.int .i64) (.int .i64 k) es i = some none ∧ mset l k v = l ++ [(k, v)] ∧ mdel l k = l) ∨
    (∃ j x, mget l k = some x ∧ Instr.findNow (.int .i64) (.int .i64 k) es i = some (some (i + j, .int .i64 x)) ∧ l[j]? = some (k, x) ∧ mset l k v = l.set j (k, v) ∧ mdel l k = l.eraseIdx j)
  | [], [], i, _ => .inl ⟨rfl, rfl, rfl, rfl⟩
  | [], p :: l, i, h => by simp at h
  | e :: es, [], i, h => by simp at h
  | e :: es, p :: l, i, h => by
    obtain ⟨⟨h1, h2⟩, h3⟩ : (e.key = .int .i64 p.1 ∧ e.val = .int .i64 p.2) ∧ es.map (fun e => (e.key, e.val)) = l.map prV := by simpa [prV] using h
    by_cases hk : p.1 = k
    · refine .inr ⟨0, p.2, by simp [mget, hk], by simp [Instr.findNow, Instr.sameNow, h1, h2, hk], ?_, by simp [mset, hk], by simp [mdel, hk]⟩
      rw [← hk]
      rfl
    · have hk2 : (k == p.1) = false := by simpa using fun e : k = p.1 => hk e.symm
      rcases findNow_mp k v es l (i + 1) h3 with ⟨a, b, c, d⟩ | ⟨j, x, a, b, c, d, e'⟩
      · exact .inl ⟨by simp [mget, hk, a], by simp [Instr.findNow, Instr.sameNow, h1, hk2, b], by simp [mset, hk, c], by simp [mdel, hk, d]⟩
      · refine .inr ⟨j + 1, x, by simp [mget, hk, a], ?_, by simpa using c, by simp [mset, hk, d], by simp [mdel, hk, e']⟩
        rw [show i + (j + 1) = i + 1 + j by omega]
        simp [Instr.findNow, Instr.sameNow, h1, hk2, b]
/-- What the block of a map holds. -/
def MpH (w : World) (b : Nat) (l : List (Int × Int)) : Prop := ∃ (es : Array MapEntry) (cl : Nat), w.heap[b]? = some (.map es cl) ∧ es.toList.map (fun e => (e.key, e.val)) = l.map prV
theorem MpH.same {w w' : World} {b : Nat} {l : List (Int × Int)} (h : MpH w b l) (e : w'.heap[b]? = w.heap[b]?) : MpH w' b l := by
  obtain ⟨es, cl, h1, h2⟩ := h
  exact ⟨es, cl, e.trans h1, h2⟩
def mpR (b : Nat) (l : List (Int × Int)) : Res := .dat [b] (fun w => MpH w b l) (fun _ _ hk h => h.same (hk b (by simp)))
theorem mpR_foot (b : Nat) (l : List (Int × Int)) : (mpR b l).foot = [b] := rfl
theorem look_mp (b : Nat) (l : List (Int × Int)) (L : List Res) (k : Nat) : look (mpR b l :: L) k = look L k := rfl
theorem putL_mp (b : Nat) (l : List (Int × Int)) (L : List Res) (k : Nat) (us : List Value) : putL (mpR b l :: L) k us = mpR b l :: putL L k us := rfl
theorem neB_mp (b : Nat) (l : List (Int × Int)) (L : List Res) (k : Nat) : neB (mpR b l :: L) k = neB L k := rfl
theorem neR_mp (b : Nat) (l : List (Int × Int)) (L : List Res) (k : Nat) : neR (mpR b l :: L) k = neR L k := rfl
theorem factL_mp (W : World) (M : List Nat) (b : Nat) (l : List (Int × Int)) (L : List Res) : factL W M (mpR b l :: L) = factL W M L := rfl
theorem fresh_mp (b : Nat) (l : List (Int × Int)) (L : List Res) (k : Nat) : fresh (mpR b l :: L) k = fresh L k := rfl
theorem cMp : type_of% (And.intro @look_mp (And.intro @putL_mp (And.intro @neB_mp (And.intro @neR_mp (And.intro @factL_mp @fresh_mp))))) := And.intro @look_mp (And.intro @putL_mp (And.intro @neB_mp (And.intro @neR_mp (And.intro @factL_mp @fresh_mp))))
/-- A map from ints to ints. -/
def mpT (P : Program) (t : TypeId) : Bool :=
  match P.underlying t with
  | some (.map k e) => (match P.underlying k, (P.info? e).bind (fun i => i.zero) with
    | some (TypeDesc.int .i64), some (Value.int .i64 0) => true
    | _, _ => false)
  | _ => false
section
variable {P : Program} {M : List Nat} {W w : World} {L : List Res}
theorem mpT_run {t : TypeId} (h : mpT P t = true) : ∃ k e i, P.underlying t = some (.map k e) ∧ P.underlying k = some (.int .i64) ∧ P.info? e = some i ∧ i.zero = some (.int .i64 0) := by
  unfold mpT at h
  split at h
  · rename_i k e hu
    split at h
    · rename_i h1 h2
      obtain ⟨i, hi, hz⟩ := Option.bind_eq_some_iff.1 h2
      exact ⟨k, e, i, hu, h1, hi, hz⟩
    · cases h
  · cases h
theorem run_lookup_mp {t : TypeId} {b : Nat} {l : List (Int × Int)} {k : Int} (ht : mpT P t = true) (h : MpH w b l) :
    (Instr.lookup t (.map (some b)) (.int .i64 k) true).run P w = .ok (.tuple #[.int .i64 ((mget l k).getD 0), .bool (mget l k).isSome]) w := by
  obtain ⟨kt, et, i, h1, h2, h3, h4⟩ := mpT_run ht
  obtain ⟨es, cl, h5, h6⟩ := h
  have hk : MapKept.IsKey (.int .i64) (.int .i64 k) := rfl
  rcases findNow_mp k 0 es.toList l 0 h6 with ⟨a, b', -, -⟩ | ⟨j, x, a, b', -, -, -⟩
  · simp [Instr.lookup, run_underlying h1, MapKept.run_getObj_map h5, MapKept.run_checkKey h2 hk, MapKept.run_findKey h2 b', Result.andThen, zeroValue, typeInfo, h3, h4, a]
  · simp [Instr.lookup, run_underlying h1, MapKept.run_getObj_map h5, MapKept.run_checkKey h2 hk, MapKept.run_findKey h2 b', Result.andThen, a]
theorem xv_lookup {F : Fr} {d : Option Nat} {t ty : TypeId} {pos : String} {af : Array Edge} {gd : Option (Nat × Bool)} {m k : Operand} {b : Nat} {l : List (Int × Int)} {x : Int} {K : Bool → Value → List Res → Prop}
    (ht : mpT P t = true) (hm : ev F m = .map (some b)) (hk : ev F k = .int .i64 x) (h : ∀ w, St M W L w → MpH w b l) (hK : K true (.tuple #[.int .i64 ((mget l x).getD 0), .bool (mget l x).isSome]) L) :
    XV P M W ⟨d, .lookup t m k true, ty, pos, af, gd⟩ F L K := fun w hw =>
  ⟨_, _, w, by simp [execOp, hm, hk, run_lookup_mp ht (h w hw)], hw, hK⟩
theorem St.mpH {b : Nat} {l : List (Int × Int)} (hw : St M W L w) (k : Nat) (hk : nth L k = some (mpR b l)) : MpH w b l := hw.holds _ (nth_mem hk)
theorem run_mapUpdate_mp {t : TypeId} {b : Nat} {l : List (Int × Int)} {k v : Int} (ht : mpT P t = true) (h : MpH w b l) :
    ∃ es' cl', (Instr.mapUpdate t (.map (some b)) (.int .i64 k) (.int .i64 v)).run P w = .ok () { w with heap := w.heap.setIfInBounds b (.map es' cl') } ∧ es'.toList.map (fun e => (e.key, e.val)) = (mset l k v).map prV := by
  obtain ⟨kt, et, i, h1, h2, h3, h4⟩ := mpT_run ht
  obtain ⟨es, cl, h5, h6⟩ := h
  have hk : MapKept.IsKey (.int .i64) (.int .i64 k) := rfl
  rcases findNow_mp k v es.toList l 0 h6 with ⟨a, b', c, -⟩ | ⟨j, x, a, b', c, e, -⟩
  · refine ⟨_, _, by simp [Instr.mapUpdate, run_underlying h1, MapKept.run_getObj_map h5, MapKept.run_checkKey h2 hk, MapKept.run_findKey h2 b', MapKept.run_setObj_map _ h5, Result.andThen]; exact rfl, ?_⟩
    rw [c]
    simp [h6, prV]
  · rw [Nat.zero_add] at b'
    have hlj : (es.toList.map (fun e => (e.key, e.val)))[j]? = some (prV (k, x)) := by rw [h6, List.getElem?_map, c]; rfl
    obtain ⟨en, he, hen⟩ : ∃ en, es[j]? = some en ∧ (en.key, en.val) = prV (k, x) := by
      rw [List.getElem?_map] at hlj
      obtain ⟨en, he, hen⟩ := Option.map_eq_some_iff.1 hlj
      exact ⟨en, by simpa using he, hen⟩
    have hkey : en.key = .int .i64 k := (Prod.mk.inj hen).1
    refine ⟨_, _, by simp [Instr.mapUpdate, run_underlying h1, MapKept.run_getObj_map h5, MapKept.run_checkKey h2 hk, MapKept.run_findKey h2 b', he, hkey, MapKept.run_keyThatStays hk, MapKept.run_setObj_map _ h5, Result.andThen]; exact rfl, ?_⟩
    rw [e]
    apply List.ext_getElem?
    intro q
    have hq : (es.toList.map (fun e => (e.key, e.val)))[q]? = (l.map prV)[q]? := by rw [h6]
    simp only [List.getElem?_map, Array.getElem?_toList, Array.getElem?_modify, List.getElem?_set] at hq ⊢
    by_cases hjq : j = q
    · subst hjq
      have hlt := (List.getElem?_eq_some_iff.1 c).1
      simp [he, hlt, prV]
    · simp [hjq, hq]
theorem St.mpSet {b kk : Nat} {l l' : List (Int × Int)} {es : Array MapEntry} {cl : Nat} (hw : St M W L w) (hk : nth L kk = some (mpR b l)) (he : es.toList.map (fun e => (e.key, e.val)) = l'.map prV) : St M W (L.set kk (mpR b l')) { w with heap := w.heap.setIfInBounds b (.map es cl) } := by
  obtain ⟨es0, cl0, h5, -⟩ := hw.mpH kk hk
  obtain ⟨q1, q2⟩ := MapKept.heap_set (o' := .map es cl) h5
  refine hw.replace hk rfl ⟨es, cl, q1, he⟩ (fun c hc => q2 c fun e => hc (by rw [e, mpR_foot]; simp)) (by simp) rfl rfl rfl
theorem xu_mapset (kk : Nat) {F : Fr} {d : Option Nat} {t ty : TypeId} {pos : String} {af : Array Edge} {gd : Option (Nat × Bool)} {m k v : Operand} {b : Nat} {l : List (Int × Int)} {x y : Int} {K : Bool → Value → List Res → Prop}
    (ht : mpT P t = true) (hm : ev F m = .map (some b)) (hk : ev F k = .int .i64 x) (hv : ev F v = .int .i64 y) (hL : nth L kk = some (mpR b l)) (hK : K true undef (L.set kk (mpR b (mset l x y)))) :
    XU P M W ⟨d, .mapUpdate t m k v, ty, pos, af, gd⟩ F L K := fun w hw => by
  obtain ⟨es, cl, hr, he⟩ := run_mapUpdate_mp (k := x) (v := y) ht (hw.mpH kk hL)
  exact ⟨_, _, by simp [execOp, hm, hk, hv, hr]; rfl, hw.mpSet hL he, hK⟩
theorem xv_mapdel (kk : Nat) {F : Fr} {d : Option Nat} {t t2 ty : TypeId} {pos : String} {af : Array Edge} {gd : Option (Nat × Bool)} {m k : Operand} {b : Nat} {l : List (Int × Int)} {x : Int} {K : Bool → Value → List Res → Prop}
    (ht : mpT P t = true) (hm : ev F m = .map (some b)) (hk : ev F k = .int .i64 x) (hL : nth L kk = some (mpR b l)) (hK : K true (.tuple #[]) (L.set kk (mpR b (mdel l x)))) :
    XV P M W ⟨d, .call { callee := .builtin .delete, args := #[m, k], argTypes := #[t, t2] }, ty, pos, af, gd⟩ F L K := fun w hw => by
  obtain ⟨kt, et, i, h1, h2, h3, h4⟩ := mpT_run ht
  obtain ⟨es, cl, h5, h6⟩ := hw.mpH kk hL
  have hkk : MapKept.IsKey (.int .i64) (.int .i64 x) := rfl
  rcases findNow_mp x 0 es.toList l 0 h6 with ⟨a, b', -, c⟩ | ⟨j, y, a, b', c, -, e⟩
  · refine ⟨_, _, _, by simp [execOp, resolve, invoke, builtin, hm, hk, Builtin.delete_, run_underlying h1, MapKept.run_getObj_map h5, MapKept.run_checkKey h2 hkk, MapKept.run_findKey h2 b', MapKept.run_setObj_map _ h5, Result.andThen]; exact rfl, hw.mpSet hL (by rw [h6, c]), hK⟩
  · rw [Nat.zero_add] at b'
    refine ⟨_, _, _, by simp [execOp, resolve, invoke, builtin, hm, hk, Builtin.delete_, run_underlying h1, MapKept.run_getObj_map h5, MapKept.run_checkKey h2 hkk, MapKept.run_findKey h2 b', MapKept.run_setObj_map _ h5, Result.andThen]; exact rfl, hw.mpSet hL ?_, hK⟩
    have hlt : j < es.size := by
      have h7 := congrArg List.length h6
      have := (List.getElem?_eq_some_iff.1 c).1
      simp at h7
      omega
    rw [e]
    unfold Array.eraseIdxIfInBounds
    rw [dif_pos hlt, Array.toList_eraseIdx, map_erase, h6, map_erase]
theorem xv_mkmap {F : Fr} {d : Option Nat} {t ty : TypeId} {pos : String} {af : Array Edge} {gd : Option (Nat × Bool)} {K : Bool → Value → List Res → Prop}
    (hK : ∀ b, W.heap.size ≤ b → fresh L b → K true (.map (some b)) (mpR b [] :: L)) : XV P M W ⟨d, .makeMap t none, ty, pos, af, gd⟩ F L K := fun w hw => by
  refine ⟨_, _, w.alloc (.map #[] 0), by simp [execOp, Instr.makeMap], ?_, hK w.heap.size hw.pres.size (fresh_of hw)⟩
  refine (hw.allocs _).add _ ⟨#[], 0, (MapKept.heap_alloc w _).1, rfl⟩ (fun b hb => ?_) fun s hs b hb hbs => ?_
  · obtain rfl : b = w.heap.size := by simpa [mpR_foot] using hb
    exact ⟨.inl hw.pres.size, by simp⟩
  · obtain rfl : b = w.heap.size := by simpa [mpR_foot] using hb
    exact absurd (hw.own s hs _ hbs).2 (Nat.lt_irrefl _)
/-! ## Calls that change some of the resources -/
def feet (L : List Res) : List Nat := L.flatMap Res.foot
theorem St.self (hw : St M W L w) : St (feet L) w L w :=
  ⟨Pres.refl _ _, hw.holds, fun r hr b hb => ⟨.inr (List.mem_flatMap.2 ⟨r, hr, hb⟩), (hw.own r hr b hb).2⟩, hw.apart⟩
theorem callV_grp {ι : Sort _} {g : FuncId} {args : Array Value} {K : Bool → Value → List Res → Prop} (ix jx : List Nat) (hnd : (ix ++ jx).Nodup) (f : ι → Value) (Lf : ι → List Res) (φ : ι → Prop)
    (h : ∀ w, St M W L w → St (feet (pickL ix L)) w (pickL ix L) w → Calls P g args w (fun e w' => ∃ i, e = .returned (f i) ∧ φ i ∧ St (feet (pickL ix L)) w (Lf i) w'))
    (hK : ∀ i, φ i → K true (f i) (Lf i ++ pickL jx L)) : CallV P M W g args L K := fun w hw => by
  have hp := hw.pick hnd
  rw [pickL_append] at hp
  have h1 : St M W (pickL ix L) w := hp.sub (List.sublist_append_left _ _)
  have h2 : St M W (pickL jx L) w := hp.sub (List.sublist_append_right _ _)
  have hap := List.pairwise_append.1 hp.apart
  refine (h w hw h1.self).mono ?_
  rintro e w' ⟨i, rfl, hi, hs⟩
  have hout : ∀ b, b < w.heap.size → b ∉ feet (pickL ix L) → w'.heap[b]? = w.heap[b]? := fun b hb hn => hs.pres.block b hb hn
  have hfeet : ∀ b, b ∈ feet (pickL ix L) → (W.heap.size ≤ b ∨ b ∈ M) ∧ b < w.heap.size := fun b hb => by
    obtain ⟨r, hr, hbr⟩ := List.mem_flatMap.1 hb
    exact h1.own r hr b hbr
  have hj : ∀ r ∈ pickL jx L, ∀ b ∈ r.foot, b ∉ feet (pickL ix L) := fun r hr b hb hn => by
    obtain ⟨s, hs', hbs⟩ := List.mem_flatMap.1 hn
    exact hap.2.2 s hs' r hr b hbs hb
  have hpres : Pres M W w' := ⟨hs.pres.os.trans hw.pres.os, hs.pres.tape.trans hw.pres.tape, hs.pres.output.trans hw.pres.output, Nat.le_trans hw.pres.size hs.pres.size, fun k hk hm => by
    rw [hout k (Nat.lt_of_lt_of_le hk hw.pres.size) (fun hn => by
      rcases (hfeet k hn).1 with h3 | h3
      · omega
      · exact hm h3)]
    exact hw.pres.block k hk hm⟩
  refine ⟨_, _, rfl, ⟨hpres, fun r hr => ?_, fun r hr b hb => ?_, ?_⟩, hK i hi⟩
  · rcases List.mem_append.1 hr with hr | hr
    · exact hs.holds r hr
    · exact r.keep (h2.holds r hr) fun b hb => hout b (h2.own r hr b hb).2 (hj r hr b hb)
  · rcases List.mem_append.1 hr with hr | hr
    · have := hs.own r hr b hb
      refine ⟨?_, this.2⟩
      rcases this.1 with h3 | h3
      · exact .inl (Nat.le_trans hw.pres.size h3)
      · exact (hfeet b h3).1
    · exact ⟨(h2.own r hr b hb).1, Nat.lt_of_lt_of_le (h2.own r hr b hb).2 hs.pres.size⟩
  · refine List.pairwise_append.2 ⟨hs.apart, hap.2.1, fun r hr s hs' b hb hbs => ?_⟩
    rcases (hs.own r hr b hb).1 with h3 | h3
    · have := (h2.own s hs' b hbs).2
      omega
    · exact hj s hs' b hbs h3
end
end Go.Proofs.Ytfaanphjaghbpaa
