/- Remove and Complement as operations on sets of places: plain. -/
import Derived.Test.YtabjbghmldiokaaFSet
namespace Go.Proofs.Ytabjbghmldiokaa
open Go.RowKit Go.Shelf
set_option linter.unusedVariables false
set_option linter.unusedSimpArgs false
namespace Ex
theorem mem_ix {xs : List Ext} {o : Int} (h : mem xs o) : ∃ k, k < xs.length ∧ inn (get xs k) o := by
  obtain ⟨x, hx, hi⟩ := h
  obtain ⟨k, hk, rfl⟩ := List.getElem_of_mem hx
  exact ⟨k, hk, by rw [get_eq hk]; exact hi⟩
theorem remF_spec {xs : List Ext} {e : Ext} (hv : vld xs) (hp : e.prop) :
    (remF xs e = ([], 6) ∧ ∃ o, inn e o ∧ ¬ mem xs o) ∨
    ((remF xs e).2 = 0 ∧ vld (remF xs e).1 ∧ (∀ o, mem (remF xs e).1 o ↔ mem xs o ∧ ¬ inn e o) ∧ (∀ o, inn e o → mem xs o) ∧ tot (remF xs e).1 = tot xs - e.len) := by
  have hpe : 0 ≤ e.off ∧ 0 < e.len ∧ e.off + e.len ≤ 1048576 := hp
  obtain ⟨i, hA⟩ := aft_ex hv e.off
  have hai : aft xs e.off = i := aft_eq hA.1 hA.2.1 (fun h => hA.2.2 i (Nat.le_refl _) h)
  obtain ⟨hi, hlo, hhi⟩ := hA
  unfold remF
  rw [if_neg (by rintro (h | h); exact h hv; exact h hp), hai]
  split
  · rename_i hc
    left
    refine ⟨rfl, ?_⟩
    by_cases hil : i = xs.length
    · refine ⟨e.off, ⟨Int.le_refl _, by omega⟩, fun hm => ?_⟩
      obtain ⟨k, hk, h1, h2⟩ := mem_ix hm
      have := hlo k (by omega)
      unfold Ext.end_ at this
      omega
    · have hil : i < xs.length := by omega
      have hie := hhi i (Nat.le_refl _) hil
      have hip := vld_prop hv hil
      unfold Ext.end_ at hie
      rcases hc with h | h | h
      · omega
      · refine ⟨e.off, ⟨Int.le_refl _, by omega⟩, fun hm => ?_⟩
        obtain ⟨k, hk, h1, h2⟩ := mem_ix hm
        by_cases hki : k < i
        · have := hlo k hki
          unfold Ext.end_ at this
          omega
        · by_cases hke : k = i
          · subst hke; omega
          · have := vld_gap hv (show i < k by omega) hk
            unfold Ext.end_ at this
            omega
      · unfold Ext.end_ at h
        refine ⟨(get xs i).off + (get xs i).len, ⟨by omega, by omega⟩, fun hm => ?_⟩
        obtain ⟨k, hk, h1, h2⟩ := mem_ix hm
        by_cases hki : k < i
        · have := hlo k hki
          unfold Ext.end_ at this
          omega
        · by_cases hke : k = i
          · subst hke; omega
          · have := vld_gap hv (show i < k by omega) hk
            unfold Ext.end_ at this
            omega
  · rename_i hc
    right
    have hil : i < xs.length := by
      have : ¬ i = xs.length := fun h => hc (.inl h)
      omega
    have h1 : (get xs i).off ≤ e.off := by
      have : ¬ e.off < (get xs i).off := fun h => hc (.inr (.inl h))
      omega
    have h2 : e.off + e.len ≤ (get xs i).off + (get xs i).len := by
      have : ¬ (get xs i).end_ < e.end_ := fun h => hc (.inr (.inr h))
      unfold Ext.end_ at this
      omega
    have hip := vld_prop hv hil
    have hlo2 : ∀ y ∈ xs.take i, y.off + y.len < (get xs i).off := fun y hy => by
      obtain ⟨k, hk, hkl, rfl⟩ := take_mem hy
      exact vld_gap hv hk hil
    have hhi2 : ∀ y ∈ xs.drop (i + 1), (get xs i).off + (get xs i).len < y.off := fun y hy => by
      obtain ⟨k, hk, hkl, rfl⟩ := drop_mem hy
      exact vld_gap hv (by omega) hkl
    have hx : xs = xs.take i ++ (get xs i :: xs.drop (i + 1)) := by rw [← drop_get hil, List.take_append_drop]
    have hok := ok_of hv
    obtain ⟨x, hxe⟩ : ∃ x, get xs i = x := ⟨_, rfl⟩
    rw [hxe] at h1 h2 hip hlo2 hhi2 hx ⊢
    generalize xs.take i = A at *
    generalize xs.drop (i + 1) = B at *
    rw [hx] at hok
    have hokA : ok A := ⟨fun x h => hok.1 x (by simp [h]), (List.pairwise_append.1 hok.2).1⟩
    have hokB : ok B := ⟨fun x h => hok.1 x (by simp [h]), (List.pairwise_cons.1 (List.pairwise_append.1 hok.2).2.1).2⟩
    have hpin : ∀ y ∈ remParts x e, PP y ∧ x.off ≤ y.off ∧ y.off + y.len ≤ x.off + x.len := fun y hy => by
      unfold remParts Ext.end_ at hy
      unfold PP
      simp only [List.mem_append] at hy
      rcases hy with hy | hy <;> split at hy <;> simp only [List.mem_cons, List.not_mem_nil, or_false] at hy
      · subst hy
        dsimp only
        omega
      · subst hy
        dsimp only
        omega
    have hpw : (remParts x e).Pairwise RR := by
      unfold remParts Ext.end_
      split <;> split <;> simp only [List.nil_append, List.append_nil, List.cons_append, List.pairwise_cons, List.not_mem_nil, false_implies, implies_true, List.Pairwise.nil, and_true, List.mem_cons, or_false, forall_eq]
      unfold RR
      dsimp only
      omega
    have hpm : ∀ o, mem (remParts x e) o ↔ inn x o ∧ ¬ inn e o := fun o => by
      unfold remParts Ext.end_
      rw [mem_app]
      split <;> split <;> simp only [mem_cons, mem_nil, or_false, false_or, inn] <;> first | omega | (refine ⟨fun h => h.elim, fun h => ?_⟩; omega)
    have hpt : tot (remParts x e) = x.len - e.len := by
      unfold remParts Ext.end_
      rw [tot_app]
      split <;> split <;> simp only [tot] <;> omega
    have hmx : ∀ o, mem xs o ↔ mem A o ∨ inn x o ∨ mem B o := fun o => by rw [hx]; simp only [mem_app, mem_cons]
    have hAe : ∀ o, mem A o → o < x.off := fun o ⟨y, hy, h3, h4⟩ => by have := hlo2 y hy; omega
    have hBe : ∀ o, mem B o → x.off + x.len < o := fun o ⟨y, hy, h3, h4⟩ => by have := hhi2 y hy; omega
    refine ⟨rfl, vld_of ⟨fun y hy => ?_, List.pairwise_append.2 ⟨hokA.2, List.pairwise_append.2 ⟨hpw, hokB.2, fun a ha b hb => ?_⟩, fun a ha b hb => ?_⟩⟩, fun o => ?_, fun o ho => ?_, ?_⟩
    · simp only [List.mem_append] at hy
      rcases hy with h | h | h
      · exact hokA.1 y h
      · exact (hpin y h).1
      · exact hokB.1 y h
    · have h3 := hpin a ha
      have h4 := hhi2 b hb
      unfold RR
      omega
    · have h3 := hlo2 a ha
      unfold RR
      simp only [List.mem_append] at hb
      rcases hb with h | h
      · have h4 := hpin b h
        omega
      · have h4 := hhi2 b h
        omega
    · rw [hmx]
      simp only [mem_app, hpm]
      have h3 := hAe o
      have h4 := hBe o
      unfold inn
      constructor
      · rintro (h | ⟨h, h'⟩ | h)
        · exact ⟨.inl h, by have := h3 h; omega⟩
        · exact ⟨.inr (.inl h), h'⟩
        · exact ⟨.inr (.inr h), by have := h4 h; omega⟩
      · rintro ⟨h | h | h, h'⟩
        · exact .inl h
        · exact .inr (.inl ⟨h, h'⟩)
        · exact .inr (.inr h)
    · rw [hmx]
      obtain ⟨h3, h4⟩ := ho
      exact .inr (.inl ⟨by omega, by omega⟩)
    · rw [hx]
      simp only [tot_app, tot, hpt]
      omega

/-- Complement, by the list. -/
def compL (at_ : Int) (xs : List Ext) (s : Int) : List Ext := match xs with
  | [] => if at_ < s then [⟨at_, s - at_⟩] else []
  | x :: xs => (if at_ < x.off then [⟨at_, x.off - at_⟩] else []) ++ compL (x.off + x.len) xs s
theorem comp_split (xs : List Ext) (s : Int) : ∀ k, k ≤ xs.length → cOut xs k ++ compL (cAt xs k) (xs.drop k) s = compL 0 xs s
  | 0, _ => rfl
  | k + 1, h => by
    rw [← comp_split xs s k (by omega), cOut_succ, drop_get (show k < xs.length by omega), List.append_assoc]
    rfl
theorem compL_spec {s : Int} (hs : s ≤ 1048576) : ∀ (xs : List Ext) (at_ : Int), ok xs → (∀ x ∈ xs, at_ ≤ x.off ∧ x.off + x.len ≤ s) → 0 ≤ at_ → at_ ≤ s →
    ok (compL at_ xs s) ∧ (∀ y ∈ compL at_ xs s, at_ ≤ y.off) ∧ (∀ o, mem (compL at_ xs s) o ↔ at_ ≤ o ∧ o < s ∧ ¬ mem xs o) ∧ tot (compL at_ xs s) + tot xs = s - at_
  | [], a, _, _, h0, h1 => by
    unfold compL
    split
    · refine ⟨⟨fun x hx => ?_, by simp⟩, fun y hy => ?_, fun o => ?_, ?_⟩
      · simp only [List.mem_cons, List.not_mem_nil, or_false] at hx
        subst hx
        unfold PP
        dsimp only
        omega
      · simp only [List.mem_cons, List.not_mem_nil, or_false] at hy
        subst hy
        exact Int.le_refl _
      · simp only [mem_cons, mem_nil, or_false, not_false_eq_true, and_true, inn]
        omega
      · simp only [tot]
        omega
    · refine ⟨⟨by simp, by simp⟩, by simp, fun o => ?_, ?_⟩
      · simp only [mem_nil, not_false_eq_true, and_true]
        exact ⟨fun h => h.elim, fun h => by omega⟩
      · simp only [tot]
        omega
  | x :: xs, a, hok, hb, h0, h1 => by
    have hx := hb x (.head _)
    have hxp := hok.1 x (.head _)
    unfold PP at hxp
    obtain ⟨i1, i2, i3, i4⟩ := compL_spec hs xs (x.off + x.len) (ok_tail hok) (fun y hy => ⟨by have := (List.pairwise_cons.1 hok.2).1 y hy; unfold RR at this; omega, (hb y (by simp [hy])).2⟩) (by omega) hx.2
    have hgt : ∀ o, mem xs o → x.off + x.len < o := fun o h => mem_gt hok h
    have hm : ∀ o, mem (x :: xs) o ↔ inn x o ∨ mem xs o := mem_cons x xs
    have ht : tot (x :: xs) = x.len + tot xs := rfl
    show ok ((if a < x.off then [⟨a, x.off - a⟩] else []) ++ compL (x.off + x.len) xs s) ∧ (∀ y ∈ (if a < x.off then [⟨a, x.off - a⟩] else []) ++ compL (x.off + x.len) xs s, a ≤ y.off) ∧ (∀ o, mem ((if a < x.off then [⟨a, x.off - a⟩] else []) ++ compL (x.off + x.len) xs s) o ↔ a ≤ o ∧ o < s ∧ ¬ mem (x :: xs) o) ∧ tot ((if a < x.off then [⟨a, x.off - a⟩] else []) ++ compL (x.off + x.len) xs s) + tot (x :: xs) = s - a
    generalize compL (x.off + x.len) xs s = C at *
    split
    · refine ⟨⟨fun y hy => ?_, List.pairwise_cons.2 ⟨fun y hy => ?_, i1.2⟩⟩, fun y hy => ?_, fun o => ?_, ?_⟩
      · simp only [List.cons_append, List.nil_append, List.mem_cons] at hy
        rcases hy with rfl | hy
        · unfold PP
          dsimp only
          omega
        · exact i1.1 y hy
      · have := i2 y hy
        unfold RR
        dsimp only
        omega
      · simp only [List.cons_append, List.nil_append, List.mem_cons] at hy
        rcases hy with rfl | hy
        · exact Int.le_refl _
        · have := i2 y hy
          omega
      · rw [List.singleton_append, mem_cons, i3, hm]
        have := hgt o
        simp only [inn]
        constructor
        · rintro (h | h)
          · exact ⟨by omega, by omega, fun h' => h'.elim (fun h' => by omega) (fun h' => by have := hgt o h'; omega)⟩
          · exact ⟨by omega, h.2.1, fun h' => h'.elim (fun h' => by omega) h.2.2⟩
        · rintro ⟨h2, h3, h4⟩
          by_cases h5 : o < x.off
          · exact .inl (by omega)
          · exact .inr ⟨by have : ¬ (x.off ≤ o ∧ o < x.off + x.len) := fun h => h4 (.inl h); omega, h3, fun h => h4 (.inr h)⟩
      · rw [List.singleton_append, ht]
        simp only [tot]
        omega
    · rw [List.nil_append]
      refine ⟨i1, fun y hy => ?_, fun o => ?_, ?_⟩
      · have := i2 y hy
        omega
      · rw [i3, hm]
        simp only [inn]
        constructor
        · rintro h
          exact ⟨by omega, h.2.1, fun h' => h'.elim (fun h' => by omega) h.2.2⟩
        · rintro ⟨h2, h3, h4⟩
          exact ⟨by have : ¬ (x.off ≤ o ∧ o < x.off + x.len) := fun h => h4 (.inl h); omega, h3, fun h => h4 (.inr h)⟩
      · rw [ht]
        omega
theorem compF_spec {xs : List Ext} {s : Int} (hv : vld xs) (h0 : 0 ≤ s) (h1 : s ≤ 1048576) (h : ∀ i, i < xs.length → (get xs i).end_ ≤ s) :
    (compF xs s).2 = 0 ∧ vld (compF xs s).1 ∧ (∀ o, mem (compF xs s).1 o ↔ 0 ≤ o ∧ o < s ∧ ¬ mem xs o) ∧ (∀ i, i < (compF xs s).1.length → (get (compF xs s).1 i).end_ ≤ s) ∧ tot (compF xs s).1 + tot xs = s := by
  have hF := compF_eq hv h0 h1 h
  have hC := comp_split xs s xs.length (Nat.le_refl _)
  rw [List.drop_length] at hC
  have hF : compF xs s = (compL 0 xs s, 0) := by rw [hF, ← hC]; rfl
  rw [hF]
  dsimp only
  have hok := ok_of hv
  obtain ⟨i1, i2, i3, i4⟩ := compL_spec h1 xs 0 hok (fun x hx => by
    obtain ⟨k, hk, rfl⟩ := List.getElem_of_mem hx
    rw [← get_eq hk]
    have := vld_prop hv hk
    have h2 := h k hk
    unfold Ext.end_ at h2
    exact ⟨this.1, h2⟩) (Int.le_refl _) h0
  refine ⟨rfl, vld_of i1, i3, fun i hi => ?_, by omega⟩
  have hp := vld_prop (vld_of i1) hi
  have := (i3 ((get (compL 0 xs s) i).off + (get (compL 0 xs s) i).len - 1)).1 (mem_get hi ⟨by omega, by omega⟩)
  show (get (compL 0 xs s) i).off + (get (compL 0 xs s) i).len ≤ s
  omega
theorem comp_comp {xs : List Ext} {s : Int} (hv : vld xs) (h0 : 0 ≤ s) (h1 : s ≤ 1048576) (h : ∀ i, i < xs.length → (get xs i).end_ ≤ s) : compF (compF xs s).1 s = (xs, 0) := by
  obtain ⟨a1, a2, a3, a4, a5⟩ := compF_spec hv h0 h1 h
  obtain ⟨b1, b2, b3, b4, b5⟩ := compF_spec a2 h0 h1 a4
  refine Prod.ext (vld_ext b2 hv fun o => ?_) b1
  rw [b3, a3]
  constructor
  · rintro ⟨h2, h3, h4⟩
    exact Classical.byContradiction fun h5 => h4 ⟨h2, h3, h5⟩
  · intro hm
    have hm : mem xs o := hm
    obtain ⟨k, hk, h2, h3⟩ := mem_ix hm
    have hp := vld_prop hv hk
    have h4 := h k hk
    unfold Ext.end_ at h4
    exact ⟨by omega, by omega, fun h5 => h5.2.2 hm⟩
theorem back_ins {xs : List Ext} {e : Ext} (hv : vld xs) (he : e.prop) (h : (insF xs e).2 = 0) : remF (insF xs e).1 e = (xs, 0) ∧ vld (insF xs e).1 ∧ tot (insF xs e).1 = tot xs + e.len := by
  rcases insF_spec hv he with ⟨h1, -⟩ | ⟨-, pv, pm, pn, pt⟩
  · rw [h1] at h; exact absurd h (by decide)
  refine ⟨?_, pv, pt⟩
  rcases remF_spec pv he with ⟨h1, o, ho, hm⟩ | ⟨h1, qv, qm, qn, qt⟩
  · exact absurd ((pm o).2 (.inr ho)) hm
  · refine Prod.ext (vld_ext qv hv fun o => ?_) h1
    rw [qm, pm]
    constructor
    · rintro ⟨h2 | h2, h3⟩
      · exact h2
      · exact absurd h2 h3
    · intro h2
      exact ⟨.inl h2, pn o h2⟩
theorem back_rem {xs : List Ext} {e : Ext} (hv : vld xs) (he : e.prop) (h : (remF xs e).2 = 0) : insF (remF xs e).1 e = (xs, 0) ∧ vld (remF xs e).1 := by
  rcases remF_spec hv he with ⟨h1, -⟩ | ⟨-, pv, pm, pn, pt⟩
  · rw [h1] at h; exact absurd h (by decide)
  refine ⟨?_, pv⟩
  rcases insF_spec pv he with ⟨h1, o, ho, hm⟩ | ⟨h1, qv, qm, qn, qt⟩
  · exact absurd hm ((pm o).1 ho).2
  · refine Prod.ext (vld_ext qv hv fun o => ?_) h1
    rw [qm, pm]
    constructor
    · rintro (h2 | h2)
      · exact h2.1
      · exact pn o h2
    · intro h2
      by_cases h3 : inn e o
      · exact .inr h3
      · exact .inl ⟨h2, h3⟩
theorem remF_len (xs : List Ext) (e : Ext) : (remF xs e).1.length ≤ xs.length + 2 := by
  unfold remF remParts
  split
  · simp
  · split
    · simp
    · split <;> split <;> simp <;> omega
theorem tot_bd : ∀ (xs : List Ext), (∀ x ∈ xs, PP x) → 0 ≤ tot xs ∧ tot xs ≤ 1048576 * xs.length
  | [], _ => by simp [tot]
  | x :: xs, h => by
    have := tot_bd xs fun y hy => h y (by simp [hy])
    have h2 := h x (.head _)
    unfold PP at h2
    simp only [tot, List.length_cons, Int.natCast_add]
    omega
end Ex
end Go.Proofs.Ytabjbghmldiokaa
