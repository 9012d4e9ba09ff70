/- Sets of extents as sets of places: plain. -/
import Derived.Test.YtabjbghmldiokaaFRCmp
namespace Go.Proofs.Ytabjbghmldiokaa
open Go.RowKit Go.Shelf
set_option linter.unusedVariables false
set_option linter.unusedSimpArgs false
namespace Ex
def inn (x : Ext) (o : Int) : Prop := x.off ≤ o ∧ o < x.off + x.len
def mem (xs : List Ext) (o : Int) : Prop := ∃ x ∈ xs, inn x o
def tot : List Ext → Int
  | [] => 0
  | x :: l => x.len + tot l
def RR (a b : Ext) : Prop := a.off + a.len < b.off
def PP (x : Ext) : Prop := 0 ≤ x.off ∧ 0 < x.len ∧ x.off + x.len ≤ 1048576
def ok (xs : List Ext) : Prop := (∀ x ∈ xs, PP x) ∧ xs.Pairwise RR
theorem mem_nil (o : Int) : mem [] o ↔ False := by simp [mem]
theorem mem_cons (x : Ext) (xs : List Ext) (o : Int) : mem (x :: xs) o ↔ inn x o ∨ mem xs o := by simp [mem]
theorem mem_app (xs ys : List Ext) (o : Int) : mem (xs ++ ys) o ↔ mem xs o ∨ mem ys o := by simp [mem, or_and_right, exists_or]
theorem tot_app : ∀ (xs ys : List Ext), tot (xs ++ ys) = tot xs + tot ys
  | [], ys => by simp [tot]
  | x :: xs, ys => by show x.len + tot (xs ++ ys) = x.len + tot xs + tot ys; rw [tot_app xs ys]; omega
theorem get_eq {xs : List Ext} {i : Nat} (h : i < xs.length) : get xs i = xs[i] := by unfold get; rw [List.getD_eq_getElem?_getD, List.getElem?_eq_getElem h]; rfl
theorem ok_of {xs : List Ext} (h : vld xs) : ok xs := by
  refine ⟨fun x hx => ?_, List.pairwise_iff_getElem.2 fun i j hi hj hij => ?_⟩
  · obtain ⟨i, hi, rfl⟩ := List.getElem_of_mem hx
    rw [← get_eq hi]
    exact vld_prop h hi
  · rw [← get_eq hi, ← get_eq hj]
    exact vld_gap h hij hj
theorem vld_of {xs : List Ext} (h : ok xs) : vld xs := fun i hi => by
  refine ⟨?_, fun h0 => ?_⟩
  · rw [get_eq hi]
    exact h.1 _ (List.getElem_mem hi)
  · rw [get_eq hi, get_eq (show i - 1 < xs.length by omega)]
    exact List.pairwise_iff_getElem.1 h.2 (i - 1) i (by omega) hi (by omega)
theorem mem_gt {x : Ext} {xs : List Ext} (h : ok (x :: xs)) {o : Int} (hm : mem xs o) : x.off + x.len < o := by
  obtain ⟨y, hy, h1, h2⟩ := hm
  have := (List.pairwise_cons.1 h.2).1 y hy
  unfold RR at this
  omega
theorem ok_tail {x : Ext} {xs : List Ext} (h : ok (x :: xs)) : ok xs := ⟨fun y hy => h.1 y (by simp [hy]), (List.pairwise_cons.1 h.2).2⟩
theorem ok_ext : ∀ {xs ys : List Ext}, ok xs → ok ys → (∀ o, mem xs o ↔ mem ys o) → xs = ys
  | [], [], _, _, _ => rfl
  | [], y :: ys, _, hy, h => by
    have hp := hy.1 y (.head _)
    unfold PP at hp
    exact absurd ((h y.off).2 ((mem_cons _ _ _).2 (.inl ⟨Int.le_refl _, by omega⟩))) (by simp [mem_nil])
  | x :: xs, [], hx, _, h => by
    have hp := hx.1 x (.head _)
    unfold PP at hp
    exact absurd ((h x.off).1 ((mem_cons _ _ _).2 (.inl ⟨Int.le_refl _, by omega⟩))) (by simp [mem_nil])
  | x :: xs, y :: ys, hx, hy, h => by
    have hpx := hx.1 x (.head _)
    have hpy := hy.1 y (.head _)
    unfold PP at hpx hpy
    have key : ∀ {a b : Ext} {p q : List Ext}, ok (a :: p) → ok (b :: q) → (∀ o, mem (a :: p) o → mem (b :: q) o) → 0 < a.len → 0 < b.len → b.off ≤ a.off := fun {a b p q} ha hb hh h1 h2 => by
      rcases (mem_cons _ _ _).1 (hh a.off ((mem_cons _ _ _).2 (.inl ⟨Int.le_refl _, by omega⟩))) with h | h
      · exact h.1
      · have := mem_gt hb h
        omega
    have h1 := key hx hy (fun o => (h o).1) hpx.2.1 hpy.2.1
    have h2 := key hy hx (fun o => (h o).2) hpy.2.1 hpx.2.1
    have key2 : ∀ {a b : Ext} {p q : List Ext}, ok (a :: p) → ok (b :: q) → (∀ o, mem (b :: q) o → mem (a :: p) o) → a.off = b.off → 0 < a.len → ¬ a.len < b.len := fun {a b p q} ha hb hh h0 h1 hlt => by
      rcases (mem_cons _ _ _).1 (hh (a.off + a.len) ((mem_cons _ _ _).2 (.inl ⟨by omega, by omega⟩))) with h | h
      · have := h.2
        omega
      · have := mem_gt ha h
        omega
    have h3 := key2 hx hy (fun o => (h o).2) (by omega) hpx.2.1
    have h4 := key2 hy hx (fun o => (h o).1) (by omega) hpy.2.1
    have hxy : x = y := by
      cases x
      cases y
      simp only [Ext.mk.injEq]
      dsimp only at *
      omega
    subst hxy
    refine congrArg _ (ok_ext (ok_tail hx) (ok_tail hy) fun o => ⟨fun hm => ?_, fun hm => ?_⟩)
    · rcases (mem_cons _ _ _).1 ((h o).1 ((mem_cons _ _ _).2 (.inr hm))) with h5 | h5
      · have := mem_gt hx hm
        have := h5.2
        omega
      · exact h5
    · rcases (mem_cons _ _ _).1 ((h o).2 ((mem_cons _ _ _).2 (.inr hm))) with h5 | h5
      · have := mem_gt hy hm
        have := h5.2
        omega
      · exact h5
theorem vld_ext {xs ys : List Ext} (hx : vld xs) (hy : vld ys) (h : ∀ o, mem xs o ↔ mem ys o) : xs = ys := ok_ext (ok_of hx) (ok_of hy) h

theorem take_mem {xs : List Ext} {k : Nat} {x : Ext} (h : x ∈ xs.take k) : ∃ j, j < k ∧ j < xs.length ∧ get xs j = x := by
  obtain ⟨j, hj, rfl⟩ := List.getElem_of_mem h
  rw [List.length_take] at hj
  refine ⟨j, by omega, by omega, ?_⟩
  rw [get_eq (by omega), List.getElem_take]
theorem drop_mem {xs : List Ext} {k : Nat} {x : Ext} (h : x ∈ xs.drop k) : ∃ j, k ≤ j ∧ j < xs.length ∧ get xs j = x := by
  obtain ⟨j, hj, rfl⟩ := List.getElem_of_mem h
  rw [List.length_drop] at hj
  refine ⟨k + j, by omega, by omega, ?_⟩
  rw [get_eq (by omega), List.getElem_drop]
theorem mem_get {xs : List Ext} {i : Nat} (h : i < xs.length) {o : Int} (ho : inn (get xs i) o) : mem xs o := ⟨get xs i, by rw [get_eq h]; exact List.getElem_mem h, ho⟩
theorem drop_get {xs : List Ext} {i : Nat} (h : i < xs.length) : xs.drop i = get xs i :: xs.drop (i + 1) := by rw [List.drop_eq_getElem_cons h, get_eq h]

/-- Insert, in parts: joined with what touches it on either side. -/
theorem ins_left {xs : List Ext} {e : Ext} {i : Nat} (hv : vld xs) (hp : e.prop) (hi : i ≤ xs.length) (hlo : ∀ k, k < i → (get xs k).end_ ≤ e.off) :
    ∃ L, xs.take i = xs.take (insL xs e i).1 ++ L ∧ ((L = [] ∧ (insL xs e i).2 = e) ∨ ∃ a, L = [a] ∧ PP a ∧ a.off + a.len = e.off ∧ (insL xs e i).2 = ⟨a.off, a.len + e.len⟩) ∧ ∀ x ∈ xs.take (insL xs e i).1, x.off + x.len < (insL xs e i).2.off := by
  have hpe : 0 ≤ e.off ∧ 0 < e.len ∧ e.off + e.len ≤ 1048576 := hp
  unfold insL
  split
  · rename_i hc
    obtain ⟨j, rfl⟩ : ∃ j, i = j + 1 := ⟨i - 1, by omega⟩
    simp only [Nat.add_sub_cancel] at *
    refine ⟨[get xs j], take_get (by omega), .inr ⟨_, rfl, vld_prop hv (by omega), hc.2, rfl⟩, fun x hx => ?_⟩
    obtain ⟨k, hk, hkl, rfl⟩ := take_mem hx
    exact vld_gap hv hk (by omega)
  · rename_i hc
    refine ⟨[], by simp, .inl ⟨rfl, rfl⟩, fun x hx => ?_⟩
    obtain ⟨k, hk, hkl, rfl⟩ := take_mem hx
    have h1 := hlo k hk
    have h2 := hlo (i - 1) (by omega)
    unfold Ext.end_ at *
    dsimp only
    by_cases hki : k = i - 1
    · subst hki
      have : ¬ ((get xs (i - 1)).off + (get xs (i - 1)).len = e.off) := fun h => hc ⟨by omega, h⟩
      omega
    · have h3 := vld_gap hv (show k < i - 1 by omega) (by omega)
      have h4 := vld_prop hv (show i - 1 < xs.length by omega)
      unfold Ext.end_ at *
      omega
theorem ins_right {xs : List Ext} {e : Ext} {i : Nat} (hv : vld xs) (hp : 0 < e.len) (hi : i ≤ xs.length) (hhi : ∀ k, i ≤ k → k < xs.length → e.off + e.len ≤ (get xs k).off) :
    ∃ R, xs.drop i = R ++ xs.drop (insR xs e i).1 ∧ ((R = [] ∧ (insR xs e i).2 = e) ∨ ∃ b, R = [b] ∧ PP b ∧ b.off = e.off + e.len ∧ (insR xs e i).2 = ⟨e.off, e.len + b.len⟩) ∧ ∀ x ∈ xs.drop (insR xs e i).1, (insR xs e i).2.off + (insR xs e i).2.len < x.off := by
  unfold insR
  split
  · rename_i hc
    refine ⟨[get xs i], drop_get hc.1, .inr ⟨_, rfl, vld_prop hv hc.1, hc.2, rfl⟩, fun x hx => ?_⟩
    obtain ⟨k, hk, hkl, rfl⟩ := drop_mem hx
    have := vld_gap hv (show i < k by omega) hkl
    have h2 := hc.2
    unfold Ext.end_ at *
    dsimp only
    omega
  · rename_i hc
    refine ⟨[], by simp, .inl ⟨rfl, rfl⟩, fun x hx => ?_⟩
    obtain ⟨k, hk, hkl, rfl⟩ := drop_mem hx
    have h1 := hhi k hk hkl
    dsimp only
    by_cases hki : k = i
    · subst hki
      have : ¬ ((get xs k).off = e.off + e.len) := fun h => hc ⟨hkl, h⟩
      omega
    · have h3 := vld_gap hv (show i < k by omega) hkl
      have h4 := vld_prop hv (show i < xs.length by omega)
      have h5 := hhi i (Nat.le_refl _) (by omega)
      unfold Ext.end_ at *
      omega
theorem insF_spec {xs : List Ext} {e : Ext} (hv : vld xs) (hp : e.prop) :
    (insF xs e = ([], 5) ∧ ∃ o, mem xs o ∧ inn e o) ∨
    ((insF xs e).2 = 0 ∧ vld (insF xs e).1 ∧ (∀ o, mem (insF xs e).1 o ↔ mem xs o ∨ inn e o) ∧ (∀ o, mem xs o → ¬ inn e o) ∧ tot (insF xs e).1 = tot xs + e.len) := by
  have hpe : 0 ≤ e.off ∧ 0 < e.len ∧ e.off + e.len ≤ 1048576 := hp
  obtain ⟨i, hA⟩ := aft_ex hv e.off
  have hai : aft xs e.off = i := aft_eq hA.1 hA.2.1 (fun h => hA.2.2 i (Nat.le_refl _) h)
  obtain ⟨hi, hlo, hhi⟩ := hA
  unfold insF
  rw [if_neg (by rintro (h | h); exact h hv; exact h hp), hai]
  split
  · rename_i hc
    left
    refine ⟨rfl, ?_⟩
    have h1 := hhi i (Nat.le_refl _) hc.1
    have h2 := vld_prop hv hc.1
    have h3 := hc.2
    unfold Ext.end_ at h1 h3
    by_cases h : (get xs i).off ≤ e.off
    · exact ⟨e.off, mem_get hc.1 ⟨h, h1⟩, Int.le_refl _, by omega⟩
    · exact ⟨(get xs i).off, mem_get hc.1 ⟨Int.le_refl _, by omega⟩, by omega, h3⟩
  · rename_i hc
    right
    have hhi2 : ∀ k, i ≤ k → k < xs.length → e.off + e.len ≤ (get xs k).off := fun k hk hkl => by
      have h1 : ¬ (get xs i).off < e.end_ := fun h => hc ⟨by omega, h⟩
      unfold Ext.end_ at h1
      by_cases hki : k = i
      · subst hki; omega
      · have h3 := vld_gap hv (show i < k by omega) hkl
        have h4 := vld_prop hv (show i < xs.length by omega)
        unfold Ext.end_ at *
        omega
    obtain ⟨L, hL, hLc, hLa⟩ := ins_left hv hp hi hlo
    obtain ⟨f1, e1, hf1⟩ : ∃ f1 e1, insL xs e i = (f1, e1) := ⟨_, _, rfl⟩
    rw [hf1] at hL hLc hLa ⊢
    dsimp only at hL hLc hLa ⊢
    have he1 : e1.off + e1.len = e.off + e.len ∧ e1.off ≤ e.off ∧ 0 ≤ e1.off := by
      rcases hLc with ⟨-, rfl⟩ | ⟨a, -, ha, h1, rfl⟩
      · exact ⟨rfl, Int.le_refl _, hpe.1⟩
      · unfold PP at ha
        dsimp only
        omega
    obtain ⟨R, hR, hRc, hRa⟩ := ins_right (e := e1) hv (by omega) hi (fun k hk hkl => by rw [he1.1]; exact hhi2 k hk hkl)
    obtain ⟨l2, e2, hl2⟩ : ∃ l2 e2, insR xs e1 i = (l2, e2) := ⟨_, _, rfl⟩
    rw [hl2] at hR hRc hRa ⊢
    dsimp only at hR hRc hRa ⊢
    have he2 : PP e2 ∧ e2.off = e1.off ∧ e1.off + e1.len ≤ e2.off + e2.len := by
      unfold PP
      rcases hRc with ⟨-, rfl⟩ | ⟨b, -, hb, h1, rfl⟩
      · exact ⟨by omega, rfl, Int.le_refl _⟩
      · unfold PP at hb
        dsimp only
        omega
    have hx : xs = xs.take f1 ++ (L ++ (R ++ xs.drop l2)) := by rw [← List.append_assoc, ← hL, ← hR, List.take_append_drop]
    have hok := ok_of hv
    generalize xs.take f1 = A at *
    generalize xs.drop l2 = B at *
    rw [hx] at hok
    have hokA : ok A := ⟨fun x h => hok.1 x (by simp [h]), (List.pairwise_append.1 hok.2).1⟩
    have hokB : ok B := ⟨fun x h => hok.1 x (by simp [h]), (List.pairwise_append.1 (List.pairwise_append.1 (List.pairwise_append.1 hok.2).2.1).2.1).2.1⟩
    refine ⟨rfl, vld_of ⟨fun x hxm => ?_, List.pairwise_append.2 ⟨hokA.2, List.pairwise_cons.2 ⟨fun b hb => hRa b hb, hokB.2⟩, fun a ha b hb => ?_⟩⟩, fun o => ?_, fun o hm hin => ?_, ?_⟩
    · simp only [List.mem_append, List.mem_cons, List.not_mem_nil, or_false] at hxm
      rcases hxm with h | rfl | h
      · exact hokA.1 x h
      · exact he2.1
      · exact hokB.1 x h
    · have h1 := hLa a ha
      simp only [List.mem_append, List.mem_cons, List.not_mem_nil, or_false] at hb
      unfold RR
      rcases hb with rfl | h
      · omega
      · have h2 := hRa b h
        unfold PP at he2
        omega
    · rw [hx]
      simp only [mem_app, mem_cons, mem_nil, or_false]
      have e1' : inn e2 o ↔ mem L o ∨ inn e o ∨ mem R o := by
        rcases hLc with ⟨rfl, rfl⟩ | ⟨a, rfl, ha, h1, rfl⟩ <;> rcases hRc with ⟨rfl, rfl⟩ | ⟨b, rfl, hb, h2, rfl⟩ <;> simp only [mem_nil, mem_cons, or_false, false_or, inn] <;> unfold PP at * <;> dsimp only at * <;> omega
      rw [e1']
      constructor
      · rintro (h | (h | h | h) | h)
        · exact .inl (.inl h)
        · exact .inl (.inr (.inl h))
        · exact .inr h
        · exact .inl (.inr (.inr (.inl h)))
        · exact .inl (.inr (.inr (.inr h)))
      · rintro ((h | h | h | h) | h)
        · exact .inl h
        · exact .inr (.inl (.inl h))
        · exact .inr (.inl (.inr (.inr h)))
        · exact .inr (.inr h)
        · exact .inr (.inl (.inr (.inl h)))
    · obtain ⟨x, hxm, h1, h2⟩ := hm
      obtain ⟨h3, h4⟩ := hin
      obtain ⟨k, hk, rfl⟩ := List.getElem_of_mem hxm
      rw [← get_eq hk] at h1 h2
      by_cases hki : k < i
      · have := hlo k hki
        unfold Ext.end_ at this
        omega
      · have := hhi2 k (by omega) hk
        omega
    · rw [hx]
      simp only [tot_app]
      have : e2.len = tot L + e.len + tot R := by
        rcases hLc with ⟨rfl, rfl⟩ | ⟨a, rfl, ha, h1, rfl⟩ <;> rcases hRc with ⟨rfl, rfl⟩ | ⟨b, rfl, hb, h2, rfl⟩ <;> simp only [tot] <;> omega
      have h2 : tot [e2] = e2.len := by simp [tot]
      rw [h2, this]
      omega
theorem insF_len (xs : List Ext) (e : Ext) : (insF xs e).1.length ≤ xs.length + 1 := by
  unfold insF
  split
  · simp
  · split
    · simp
    · have h1 : (insL xs e (aft xs e.off)).1 ≤ aft xs e.off := by unfold insL; split <;> dsimp only <;> omega
      have h2 : ∀ e', aft xs e.off ≤ (insR xs e' (aft xs e.off)).1 := fun e' => by unfold insR; split <;> dsimp only <;> omega
      have h3 := h2 (insL xs e (aft xs e.off)).2
      simp only [List.length_append, List.length_take, List.length_drop, List.length_cons, List.length_nil]
      omega
end Ex
end Go.Proofs.Ytabjbghmldiokaa
