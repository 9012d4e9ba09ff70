/- The allocator, plainly: what is taken, what is free, where the next one goes. -/
import Derived.Test.YtfaanphjaghbpaaFSet2
import Derived.Test.YtfaanphjaghbpaaAlEng
import Derived.Test.YtfaanphjaghbpaaSzPlain
namespace Go.Proofs.Ytfaanphjaghbpaa
open Go.RowKit Go.Shelf
set_option linter.unusedVariables false
set_option linter.unusedSimpArgs false
namespace Ex
def setOf (us : List Ext) : List Ext := us.foldl (fun s e => (insF s e).1) []
def freeM (N : Int) (us : List Ext) : List Ext := (compF (setOf us) N).1
def Apart (us : List Ext) : Prop := us.Pairwise fun a b => ∀ o, inn a o → ¬ inn b o
theorem setFold : ∀ (us s : List Ext), vld s → (∀ e ∈ us, e.prop) → (∀ e ∈ us, ∀ o, inn e o → ¬ mem s o) → us.Pairwise (fun a b => ∀ o, inn a o → ¬ inn b o) →
    vld (us.foldl (fun s e => (insF s e).1) s) ∧ (∀ o, mem (us.foldl (fun s e => (insF s e).1) s) o ↔ mem s o ∨ mem us o)
  | [], s, hv, _, _, _ => ⟨hv, fun o => by simp [mem]⟩
  | e :: us, s, hv, hp, hd, ha => by
    obtain ⟨a1, a2⟩ := List.pairwise_cons.1 ha
    rcases insF_spec hv (hp e (.head _)) with ⟨-, o, ho, hi⟩ | ⟨h1, h2, h3, -, -⟩
    · exact absurd ho (hd e (.head _) o hi)
    · obtain ⟨b1, b2⟩ := setFold us (insF s e).1 h2 (fun x hx => hp x (.tail _ hx)) (fun x hx o ho hm => by
        rcases (h3 o).1 hm with h4 | h4
        · exact hd x (.tail _ hx) o ho h4
        · exact a1 x hx o h4 ho) a2
      refine ⟨b1, fun o => ?_⟩
      rw [List.foldl_cons, b2, h3, mem_cons, or_assoc]
theorem setFold_len : ∀ (us s : List Ext), (us.foldl (fun s e => (insF s e).1) s).length ≤ s.length + us.length
  | [], s => by simp
  | e :: us, s => by
    have h1 := setFold_len us (insF s e).1
    have h2 := insF_len s e
    rw [List.foldl_cons, List.length_cons]
    omega
theorem setOf_len (us : List Ext) : (setOf us).length ≤ us.length := by have := setFold_len us []; simpa [setOf] using this
theorem setOf_snoc (us : List Ext) (e : Ext) : setOf (us ++ [e]) = (insF (setOf us) e).1 := by simp [setOf]
theorem compL_len (s : Int) : ∀ (xs : List Ext) (a : Int), (compL a xs s).length ≤ xs.length + 1
  | [], a => by unfold compL; split <;> simp
  | x :: xs, a => by
    have := compL_len s xs (x.off + x.len)
    unfold compL
    split <;> simp <;> omega
/-- What is taken, and what is free. -/
structure Inv (N : Int) (us fr : List Ext) (tk : List (Int × Int)) : Prop where
  N0 : 0 ≤ N
  N1 : N ≤ 1048576
  prop : ∀ e ∈ us, e.prop ∧ e.off + e.len ≤ N
  apart : us.Pairwise fun a b => ∀ o, inn a o → ¬ inn b o
  fr : fr = freeM N us
  tak : ∀ o l, mget tk o = some l ↔ (⟨o, l⟩ : Ext) ∈ us
  nd : (tk.map (·.1)).Nodup
section
variable {N : Int} {us fr : List Ext} {tk : List (Int × Int)}
theorem Inv.set (h : Inv N us fr tk) : vld (setOf us) ∧ ∀ o, mem (setOf us) o ↔ mem us o := by
  obtain ⟨h1, h2⟩ := setFold us [] (fun i hi => by simp at hi) (fun e he => (h.prop e he).1) (fun e _ o _ hm => by simp [mem] at hm) h.apart
  exact ⟨h1, fun o => by rw [setOf, h2]; simp [mem]⟩
theorem Inv.setEnd (h : Inv N us fr tk) : ∀ i, i < (setOf us).length → (get (setOf us) i).end_ ≤ N := fun i hi => by
  obtain ⟨h1, h2⟩ := h.set
  have hp := vld_prop h1 hi
  obtain ⟨x, hx, h3, h4⟩ := (h2 ((get (setOf us) i).off + (get (setOf us) i).len - 1)).1 (mem_get hi ⟨by omega, by omega⟩)
  have := (h.prop x hx).2
  unfold Ext.end_
  omega
theorem Inv.free (h : Inv N us fr tk) : vld fr ∧ (∀ o, mem fr o ↔ 0 ≤ o ∧ o < N ∧ ¬ mem us o) ∧ (compF (setOf us) N).2 = 0 ∧ ∀ i, i < fr.length → (get fr i).end_ ≤ N := by
  obtain ⟨h1, h2⟩ := h.set
  obtain ⟨a, b, c, d, -⟩ := compF_spec h1 h.N0 h.N1 h.setEnd
  rw [h.fr]
  exact ⟨b, fun o => by rw [freeM, c, h2], a, d⟩
theorem Inv.frLen (h : Inv N us fr tk) : fr.length ≤ us.length + 1 := by
  obtain ⟨h1, h2⟩ := h.set
  have hF := compF_eq h1 h.N0 h.N1 h.setEnd
  have hC := comp_split (setOf us) N (setOf us).length (Nat.le_refl _)
  rw [List.drop_length] at hC
  have hF : compF (setOf us) N = (compL 0 (setOf us) N, 0) := by rw [hF, ← hC]; rfl
  rw [h.fr, freeM, hF]
  have := compL_len N (setOf us) 0
  have := setOf_len us
  dsimp only
  omega
theorem inv_eq {fr' : List Ext} {tk' : List (Int × Int)} (h0 : 0 ≤ N) (h1 : N ≤ 1048576) (hp : ∀ e ∈ us, e.prop ∧ e.off + e.len ≤ N) (ha : us.Pairwise fun a b => ∀ o, inn a o → ¬ inn b o) (hv : vld fr') (hm : ∀ o, mem fr' o ↔ 0 ≤ o ∧ o < N ∧ ¬ mem us o)
    (ht : ∀ o l, mget tk' o = some l ↔ (⟨o, l⟩ : Ext) ∈ us) (hn : (tk'.map (·.1)).Nodup) : Inv N us fr' tk' := by
  have h2 : Inv N us (freeM N us) tk' := ⟨h0, h1, hp, ha, rfl, ht, hn⟩
  obtain ⟨a, b, -, -⟩ := h2.free
  exact ⟨h0, h1, hp, ha, vld_ext hv a fun o => by rw [hm, b], ht, hn⟩
end
theorem inv_new {N : Int} (h0 : 0 ≤ N) (h1 : N ≤ 1048576) : Inv N [] (compF [] N).1 [] :=
  ⟨h0, h1, by simp, List.Pairwise.nil, rfl, by simp [mget], by simp⟩
/-! ## The place of the next one -/
def bstep (size : Int) (b x : Ext) : Ext := if size ≤ x.len ∧ (b.len = 0 ∨ x.len < b.len) then x else b
def best (size : Int) (fr : List Ext) : Ext := fr.foldl (bstep size) ⟨0, 0⟩
theorem best_snoc (size : Int) (fr : List Ext) (x : Ext) : best size (fr ++ [x]) = bstep size (best size fr) x := by simp [best]
theorem best_take {size : Int} {fr : List Ext} {i : Nat} (h : i < fr.length) : best size (fr.take (i + 1)) = bstep size (best size (fr.take i)) (get fr i) := by
  rw [List.take_add_one, List.getElem?_eq_getElem h, get_eq h]
  exact best_snoc _ _ _
theorem best_fold {size : Int} (hs : 0 < size) : ∀ (fr : List Ext) (b : Ext), (b = ⟨0, 0⟩ ∨ size ≤ b.len) →
    (fr.foldl (bstep size) b = b ∨ fr.foldl (bstep size) b ∈ fr ∧ size ≤ (fr.foldl (bstep size) b).len) ∧
    (∀ x ∈ fr, size ≤ x.len → (fr.foldl (bstep size) b).len ≤ x.len ∧ ¬ (fr.foldl (bstep size) b).len = 0) ∧ (size ≤ b.len → (fr.foldl (bstep size) b).len ≤ b.len ∧ size ≤ (fr.foldl (bstep size) b).len)
  | [], b, _ => ⟨.inl rfl, by simp, fun h => ⟨Int.le_refl _, h⟩⟩
  | x :: fr, b, hb => by
    have hb' : bstep size b x = ⟨0, 0⟩ ∨ size ≤ (bstep size b x).len := by
      unfold bstep
      split
      · rename_i h; exact .inr h.1
      · exact hb
    obtain ⟨h1, h2, h3⟩ := best_fold hs fr (bstep size b x) hb'
    rw [List.foldl_cons]
    generalize hq : fr.foldl (bstep size) (bstep size b x) = q at h1 h2 h3
    by_cases hc : size ≤ x.len ∧ (b.len = 0 ∨ x.len < b.len)
    · have hx : bstep size b x = x := if_pos hc
      rw [hx] at h1 h3
      obtain ⟨h4, h5⟩ := h3 hc.1
      refine ⟨.inr ?_, fun y hy hys => ?_, fun hbs => ?_⟩
      · rcases h1 with h1 | h1
        · rw [h1]
          exact ⟨.head _, hc.1⟩
        · exact ⟨.tail _ h1.1, h1.2⟩
      · rcases List.mem_cons.1 hy with rfl | hy
        · exact ⟨h4, by omega⟩
        · exact h2 y hy hys
      · rcases hc.2 with h6 | h6 <;> exact ⟨by omega, h5⟩
    · have hx : bstep size b x = b := if_neg hc
      rw [hx] at h1 h3
      refine ⟨h1.imp id fun h => ⟨.tail _ h.1, h.2⟩, fun y hy hys => ?_, h3⟩
      rcases List.mem_cons.1 hy with rfl | hy
      · have h6 : ¬ (b.len = 0 ∨ y.len < b.len) := fun h => hc ⟨hys, h⟩
        have h7 : size ≤ b.len := by
          rcases hb with rfl | h
          · exact absurd (.inl rfl) h6
          · exact h
        have := h3 h7
        omega
      · exact h2 y hy hys
theorem best_spec {size : Int} (hs : 0 < size) (fr : List Ext) : (best size fr = ⟨0, 0⟩ ∧ ∀ x ∈ fr, ¬ size ≤ x.len) ∨ (best size fr ∈ fr ∧ size ≤ (best size fr).len ∧ ∀ x ∈ fr, size ≤ x.len → (best size fr).len ≤ x.len) := by
  obtain ⟨h1, h2, -⟩ := best_fold hs fr ⟨0, 0⟩ (.inl rfl)
  unfold best
  rcases h1 with h1 | h1
  · refine .inl ⟨h1, fun x hx hs' => ?_⟩
    have := (h2 x hx hs').2
    rw [h1] at this
    exact this rfl
  · exact .inr ⟨h1.1, h1.2, fun x hx hs' => (h2 x hx hs').1⟩
/-- What find comes to. -/
def findF (fr : List Ext) (n : Int) : Ext × Int := if Sz.err n = 0 then (if (best (Sz.rnd n) fr).len = 0 then (⟨0, 0⟩, 18) else (⟨(best (Sz.rnd n) fr).off, Sz.rnd n⟩, 0)) else (⟨0, 0⟩, Sz.err n)
theorem rnd_bd {n : Int} (h : Sz.err n = 0) : 16 ≤ Sz.rnd n ∧ Sz.rnd n ≤ 65536 := by
  unfold Sz.err at h
  unfold Sz.rnd
  split at h
  · cases h
  · split at h
    · cases h
    · rename_i h1 h2
      rw [if_neg h1, if_neg h2]
      exact Sz.sz_bd (by have := (Sz.cls_spec (n := n) (by omega)).1; omega)
theorem findF_err {fr : List Ext} {n : Int} (h : ¬ (findF fr n).2 = 0) : (findF fr n).1 = ⟨0, 0⟩ := by
  unfold findF at h ⊢
  split
  · rename_i h0
    rw [if_pos h0] at h
    split
    · rfl
    · rename_i h1
      rw [if_neg h1] at h
      exact absurd rfl h
  · rfl
theorem mget_set {tk : List (Int × Int)} {o v : Int} : ∀ k, mget (mset tk o v) k = if k = o then some v else mget tk k := by
  induction tk with
  | nil => intro k; by_cases h : o = k <;> simp [mset, mget, h, eq_comm]
  | cons p l ih =>
    intro k
    by_cases hp : p.1 = o
    · by_cases hk : k = o
      · subst hk; simp [mset, mget, hp]
      · have : ¬ o = k := fun e => hk e.symm
        simp [mset, mget, hp, hk, this]
    · by_cases hk : p.1 = k
      · have : ¬ k = o := fun e => hp (hk.trans e)
        simp [mset, mget, hp, hk, this]
      · simp [mset, mget, hp, hk, ih]
theorem keys_set {tk : List (Int × Int)} {o v : Int} : ∀ k, k ∈ (mset tk o v).map (·.1) → k ∈ tk.map (·.1) ∨ k = o := by
  induction tk with
  | nil => intro k hk; right; simpa [mset] using hk
  | cons p l ih =>
    intro k hk
    by_cases hp : p.1 = o
    · simp [mset, hp] at hk ⊢
      rcases hk with h | h
      · exact .inr h
      · exact .inl (.inr h)
    · simp only [mset, if_neg hp, List.map_cons, List.mem_cons] at hk ⊢
      rcases hk with h | h
      · exact .inl (.inl h)
      · exact (ih k h).imp .inr id
theorem nd_set {tk : List (Int × Int)} {o v : Int} (h : (tk.map (·.1)).Nodup) : ((mset tk o v).map (·.1)).Nodup := by
  induction tk with
  | nil => simp [mset]
  | cons p l ih =>
    rw [List.map_cons, List.nodup_cons] at h
    by_cases hp : p.1 = o
    · simp only [mset, if_pos hp, List.map_cons, List.nodup_cons]
      exact ⟨by rw [← hp]; exact h.1, h.2⟩
    · simp only [mset, if_neg hp, List.map_cons, List.nodup_cons]
      refine ⟨fun hk => ?_, ih h.2⟩
      rcases keys_set _ hk with h1 | h1
      · exact h.1 h1
      · exact hp h1
theorem mget_none {tk : List (Int × Int)} {o : Int} (h : o ∉ tk.map (·.1)) : mget tk o = none := by
  induction tk with
  | nil => rfl
  | cons p l ih =>
    simp only [List.map_cons, List.mem_cons, not_or] at h
    rw [mget, if_neg fun e => h.1 e.symm, ih h.2]
theorem mget_del {tk : List (Int × Int)} {o : Int} (h : (tk.map (·.1)).Nodup) : ∀ k, mget (mdel tk o) k = if k = o then none else mget tk k := by
  induction tk with
  | nil => intro k; simp [mdel, mget]
  | cons p l ih =>
    intro k
    rw [List.map_cons, List.nodup_cons] at h
    by_cases hp : p.1 = o
    · rw [mdel, if_pos hp, mget]
      by_cases hk : k = o
      · rw [if_pos hk, hk, ← hp, mget_none h.1]
      · rw [if_neg hk, if_neg fun e => hk (by rw [← e, hp])]
    · rw [mdel, if_neg hp, mget, mget, ih h.2]
      by_cases hk : p.1 = k
      · rw [if_pos hk, if_pos hk, if_neg fun e => hp (hk.trans e)]
      · rw [if_neg hk, if_neg hk]
theorem del_sub {tk : List (Int × Int)} {o : Int} : (mdel tk o).Sublist tk := by
  induction tk with
  | nil => exact List.Sublist.refl _
  | cons p l ih =>
    by_cases hp : p.1 = o
    · rw [mdel, if_pos hp]
      exact List.sublist_cons_self _ _
    · rw [mdel, if_neg hp]
      exact ih.cons_cons _
theorem nd_del {tk : List (Int × Int)} {o : Int} (h : (tk.map (·.1)).Nodup) : ((mdel tk o).map (·.1)).Nodup := (del_sub.map _).nodup h
theorem apart_ne {us : List Ext} (h : us.Pairwise fun a b => ∀ o, inn a o → ¬ inn b o) {x y : Ext} (hx : x ∈ us) (hy : y ∈ us) (hne : x ≠ y) : ∀ o, inn x o → ¬ inn y o := by
  obtain ⟨i, hi, rfl⟩ := List.getElem_of_mem hx
  obtain ⟨j, hj, rfl⟩ := List.getElem_of_mem hy
  have hp := List.pairwise_iff_getElem.1 h
  intro o h1 h2
  rcases Nat.lt_trichotomy i j with hij | hij | hij
  · exact hp i j hi hj hij o h1 h2
  · subst hij; exact hne rfl
  · exact hp j i hj hi hij o h2 h1
theorem mget_mem : ∀ {tk : List (Int × Int)} {o l : Int}, mget tk o = some l → (o, l) ∈ tk
  | [], o, l, h => by cases h
  | p :: tk, o, l, h => by
    by_cases hp : p.1 = o
    · simp [mget, hp] at h
      subst h
      subst hp
      exact .head _
    · simp [mget, hp] at h
      exact .tail _ (mget_mem h)
section
variable {N : Int} {us fr : List Ext} {tk : List (Int × Int)}
theorem key_uniq (h : Inv N us fr tk) {o l l' : Int} (h1 : (⟨o, l⟩ : Ext) ∈ us) (h2 : (⟨o, l'⟩ : Ext) ∈ us) : l = l' := by
  have e1 := (h.tak o l).2 h1
  have e2 := (h.tak o l').2 h2
  rw [e1] at e2
  exact Option.some.inj e2
/-- An allocation. -/
theorem Inv.alloc (h : Inv N us fr tk) {n : Int} (hf : (findF fr n).2 = 0) :
    (findF fr n).1.prop ∧ remF fr (findF fr n).1 = ((remF fr (findF fr n).1).1, 0) ∧ Inv N (us ++ [(findF fr n).1]) (remF fr (findF fr n).1).1 (mset tk (findF fr n).1.off (findF fr n).1.len) ∧ (findF fr n).1.len = Sz.rnd n ∧ Sz.err n = 0 ∧ (∀ o, inn (findF fr n).1 o → mem fr o) ∧ best (Sz.rnd n) fr ∈ fr ∧ (findF fr n).1.off = (best (Sz.rnd n) fr).off := by
  have he : Sz.err n = 0 := by
    unfold findF at hf
    split at hf
    · assumption
    · rename_i h1; exact absurd hf h1
  have hb0 : ¬ (best (Sz.rnd n) fr).len = 0 := by
    unfold findF at hf
    rw [if_pos he] at hf
    split at hf
    · cases hf
    · assumption
  have hx : findF fr n = (⟨(best (Sz.rnd n) fr).off, Sz.rnd n⟩, 0) := by unfold findF; rw [if_pos he, if_neg hb0]
  have hrb := rnd_bd he
  obtain ⟨x, hxx⟩ : ∃ x : Ext, (⟨(best (Sz.rnd n) fr).off, Sz.rnd n⟩ : Ext) = x := ⟨_, rfl⟩
  rw [hxx] at hx
  rw [hx]
  dsimp only
  obtain ⟨hv, hm, -, hend⟩ := h.free
  rcases best_spec (size := Sz.rnd n) (by omega) fr with ⟨h1, -⟩ | ⟨h1, h2, h3⟩
  · rw [h1] at hb0; exact absurd rfl hb0
  obtain ⟨k, hk, hkb⟩ := List.getElem_of_mem h1
  have hkg : get fr k = best (Sz.rnd n) fr := by rw [get_eq hk, hkb]
  have hpb := vld_prop hv hk
  rw [hkg] at hpb
  have hxo : x.off = (best (Sz.rnd n) fr).off := by rw [← hxx]
  have hxl : x.len = Sz.rnd n := by rw [← hxx]
  have hxp : x.prop := by unfold Ext.prop; omega
  have hin : ∀ o, inn x o → mem fr o := fun o ho => ⟨_, h1, by unfold inn at *; omega⟩
  have hxN : x.off + x.len ≤ N := by
    have := ((hm (x.off + x.len - 1)).1 (hin _ (by unfold inn; omega))).2.1
    omega
  rcases remF_spec hv hxp with ⟨-, o, ho, hn⟩ | ⟨r1, r2, r3, r4, r5⟩
  · exact absurd (hin o ho) hn
  have hus : ∀ e ∈ us, ∀ o, inn e o → ¬ inn x o := fun e he o ho hxo => ((hm o).1 (hin o hxo)).2.2 ⟨e, he, ho⟩
  have hkey : mget tk x.off = none := by
    cases hg : mget tk x.off with
    | none => rfl
    | some l =>
      have h4 := (h.tak _ _).1 hg
      have h5 := (h.prop _ h4).1
      unfold Ext.prop at h5
      exact absurd (show inn x x.off by unfold inn; omega) (hus _ h4 x.off (by unfold inn; dsimp only at *; omega))
  refine ⟨hxp, Prod.ext rfl r1, inv_eq h.N0 h.N1 (fun e he => ?_) ?_ r2 (fun o => ?_) (fun o l => ?_) (nd_set h.nd), hxl, he, hin, h1, hxo⟩
  · rcases List.mem_append.1 he with he | he
    · exact h.prop e he
    · obtain rfl : e = x := by simpa using he
      exact ⟨hxp, hxN⟩
  · refine List.pairwise_append.2 ⟨h.apart, by simp, fun a ha b hb o ho => ?_⟩
    obtain rfl : b = x := by simpa using hb
    exact hus a ha o ho
  · rw [r3, hm, mem_app]
    constructor
    · rintro ⟨⟨a, b, c⟩, d⟩
      refine ⟨a, b, fun hh => ?_⟩
      rcases hh with hh | ⟨y, hy, hi⟩
      · exact c hh
      · obtain rfl : y = x := by simpa using hy
        exact d hi
    · rintro ⟨a, b, c⟩
      exact ⟨⟨a, b, fun hh => c (.inl hh)⟩, fun hi => c (.inr ⟨x, by simp, hi⟩)⟩
  · rw [mget_set]
    split
    · rename_i ho
      subst ho
      constructor
      · intro hs
        obtain rfl : x.len = l := Option.some.inj hs
        exact List.mem_append.2 (.inr (by simp))
      · intro hmm
        rcases List.mem_append.1 hmm with h4 | h4
        · have := (h.tak _ _).2 h4
          rw [hkey] at this
          cases this
        · have : (⟨x.off, l⟩ : Ext) = x := by simpa using h4
          rw [← this]
    · rename_i ho
      rw [h.tak]
      constructor
      · exact fun h4 => List.mem_append.2 (.inl h4)
      · intro h4
        rcases List.mem_append.1 h4 with h5 | h5
        · exact h5
        · have : (⟨o, l⟩ : Ext) = x := by simpa using h5
          exact absurd (by rw [← this]) ho
theorem Inv.has (h : Inv N us fr tk) (e : Ext) : mget tk e.off = some e.len ↔ e ∈ us := h.tak e.off e.len
/-- What is released. -/
theorem Inv.release (h : Inv N us fr tk) {e : Ext} (he : e ∈ us) : insF fr e = ((insF fr e).1, 0) ∧ Inv N (us.filter fun x => decide (x ≠ e)) (insF fr e).1 (mdel tk e.off) := by
  obtain ⟨hv, hm, -, -⟩ := h.free
  obtain ⟨hp, hN⟩ := h.prop e he
  rcases insF_spec hv hp with ⟨-, o, ho, hi⟩ | ⟨r1, r2, r3, -, -⟩
  · exact absurd ⟨e, he, hi⟩ ((hm o).1 ho).2.2
  have hms : ∀ x, x ∈ (us.filter fun x => decide (x ≠ e)) ↔ x ∈ us ∧ x ≠ e := fun x => by simp [List.mem_filter]
  have hmm : ∀ o, mem (us.filter fun x => decide (x ≠ e)) o ↔ mem us o ∧ ¬ inn e o := fun o => by
    constructor
    · rintro ⟨x, hx, hi⟩
      obtain ⟨h1, h2⟩ := (hms x).1 hx
      exact ⟨⟨x, h1, hi⟩, apart_ne h.apart h1 he h2 o hi⟩
    · rintro ⟨⟨x, hx, hi⟩, hn⟩
      exact ⟨x, (hms x).2 ⟨hx, fun q => hn (q ▸ hi)⟩, hi⟩
  have hpe : 0 ≤ e.off ∧ 0 < e.len ∧ e.off + e.len ≤ 1048576 := hp
  refine ⟨Prod.ext rfl r1, inv_eq h.N0 h.N1 (fun x hx => h.prop x ((hms x).1 hx).1) (h.apart.filter _) r2 (fun o => ?_) (fun o l => ?_) (nd_del h.nd)⟩
  · rw [r3, hm, hmm]
    constructor
    · rintro (⟨a, b, c⟩ | hi)
      · exact ⟨a, b, fun q => c q.1⟩
      · have hi' : e.off ≤ o ∧ o < e.off + e.len := hi
        exact ⟨by omega, by omega, fun q => q.2 hi⟩
    · rintro ⟨a, b, c⟩
      by_cases hi : inn e o
      · exact .inr hi
      · exact .inl ⟨a, b, fun q => c ⟨q, hi⟩⟩
  · rw [mget_del h.nd, hms]
    split
    · rename_i ho
      subst ho
      constructor
      · intro q; cases q
      · rintro ⟨h1, h2⟩
        have : l = e.len := key_uniq h h1 he
        exact absurd (by rw [this]) h2
    · rename_i ho
      rw [h.tak]
      exact ⟨fun h1 => ⟨h1, fun q => ho (by rw [← q])⟩, fun h1 => h1.1⟩
theorem filter_len_eq {us : List Ext} {e : Ext} : (us.filter fun x => decide (x ≠ e)).length = us.length ↔ e ∉ us := by
  rw [List.length_filter_eq_length_iff]
  constructor
  · intro h he
    have := h e he
    simp at this
  · intro h x hx
    simp
    rintro rfl
    exact h hx
end
end Ex
end Go.Proofs.Ytfaanphjaghbpaa
