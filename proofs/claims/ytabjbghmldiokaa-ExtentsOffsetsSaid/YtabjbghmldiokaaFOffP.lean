/- The offsets of a set, in ascending order. -/
import Derived.Test.YtabjbghmldiokaaFTot
namespace Go.Proofs.Ytabjbghmldiokaa
open Go.RowKit Go.Shelf
set_option linter.unusedVariables false
set_option linter.unusedSimpArgs false
namespace Ex
def seg (e : Ext) (k : Nat) : List Int := (List.range k).map fun (j : Nat) => e.off + (j : Int)
def offs : List Ext → List Int
  | [] => []
  | e :: xs => seg e e.len.toNat ++ offs xs
theorem offs_app : ∀ (a b : List Ext), offs (a ++ b) = offs a ++ offs b
  | [], b => rfl
  | x :: a, b => by
    show seg x x.len.toNat ++ offs (a ++ b) = seg x x.len.toNat ++ offs a ++ offs b
    rw [offs_app a b, List.append_assoc]
theorem seg_succ (e : Ext) (k : Nat) : seg e (k + 1) = seg e k ++ [e.off + (k : Int)] := by
  unfold seg
  rw [List.range_succ, List.map_append]
  rfl
theorem seg_mem {e : Ext} {k : Nat} {o : Int} (h : o ∈ seg e k) : e.off ≤ o ∧ o < e.off + (k : Int) := by
  unfold seg at h
  obtain ⟨j, hj, rfl⟩ := List.mem_map.1 h
  have := List.mem_range.1 hj
  omega
theorem offs_take {xs : List Ext} {k : Nat} (h : k < xs.length) : offs (xs.take (k + 1)) = offs (xs.take k) ++ seg (get xs k) (get xs k).len.toNat := by
  rw [take_get h, offs_app]
  show _ ++ (seg _ _ ++ offs []) = _
  simp [offs]
theorem seg_pre (e : Ext) {j k : Nat} (h : j ≤ k) : seg e j <+: seg e k := by
  obtain ⟨d, rfl⟩ := Nat.exists_eq_add_of_le h
  induction d with
  | zero => exact List.prefix_refl _
  | succ d ih =>
    refine (ih (by omega)).trans ?_
    rw [← Nat.add_assoc, seg_succ]
    exact List.prefix_append _ _
theorem offs_pre {xs : List Ext} {k j : Nat} (h : k < xs.length) (hj : j ≤ (get xs k).len.toNat) : offs (xs.take k) ++ seg (get xs k) j <+: offs xs := by
  have e : xs = xs.take (k + 1) ++ xs.drop (k + 1) := (List.take_append_drop _ _).symm
  have : offs xs = offs (xs.take k) ++ seg (get xs k) (get xs k).len.toNat ++ offs (xs.drop (k + 1)) := by
    rw [← offs_take h, ← offs_app, ← e]
  rw [this, List.append_assoc]
  refine List.prefix_append_right_inj _ |>.2 ?_
  exact (seg_pre _ hj).trans (List.prefix_append _ _)
theorem seg_len (e : Ext) (k : Nat) : (seg e k).length = k := by unfold seg; simp
theorem offs_len : ∀ {xs : List Ext}, (∀ x ∈ xs, PP x) → ((offs xs).length : Int) = tot xs
  | [], _ => rfl
  | x :: xs, h => by
    have h1 := h x (by simp)
    have := offs_len (xs := xs) fun y hy => h y (by simp [hy])
    unfold PP at h1
    show ((seg x x.len.toNat ++ offs xs).length : Int) = x.len + tot xs
    rw [List.length_append, seg_len]
    omega
theorem offs_mem : ∀ {xs : List Ext} {o : Int}, (∀ x ∈ xs, PP x) → o ∈ offs xs → mem xs o
  | [], o, _, h => by cases h
  | x :: xs, o, hp, h => by
    have h1 := hp x (by simp)
    unfold PP at h1
    rcases List.mem_append.1 (show o ∈ seg x x.len.toNat ++ offs xs from h) with h | h
    · have := seg_mem h
      exact ⟨x, by simp, by unfold inn; omega⟩
    · obtain ⟨y, hy, hi⟩ := offs_mem (xs := xs) (fun y hy => hp y (by simp [hy])) h
      exact ⟨y, by simp [hy], hi⟩
theorem mem_bd {xs : List Ext} (hp : ∀ x ∈ xs, PP x) {o : Int} (h : mem xs o) : 0 ≤ o ∧ o < 1048576 := by
  obtain ⟨x, hx, hi⟩ := h
  have := hp x hx
  unfold PP at this
  unfold inn at hi
  omega
theorem offs_up : ∀ {xs : List Ext}, ok xs → (offs xs).Pairwise (· < ·)
  | [], _ => List.Pairwise.nil
  | x :: xs, h => by
    have h1 := h.1 x (by simp)
    obtain ⟨h2, h3⟩ := List.pairwise_cons.1 h.2
    have hp : ∀ y ∈ xs, PP y := fun y hy => h.1 y (by simp [hy])
    unfold PP at h1
    refine List.pairwise_append.2 ⟨?_, offs_up ⟨hp, h3⟩, fun a ha b hb => ?_⟩
    · unfold seg
      rw [List.pairwise_map]
      exact List.Pairwise.imp (fun {a b} hab => by omega) List.pairwise_lt_range
    · have := seg_mem ha
      obtain ⟨y, hy, hi⟩ := offs_mem hp hb
      have h4 := h2 y hy
      unfold RR at h4
      unfold inn at hi
      omega
def lastO (pre : List Int) : Int := pre.getLast?.getD (-1)
theorem lastO_snoc (pre : List Int) (x : Int) : lastO (pre ++ [x]) = x := by simp [lastO]
theorem lastO_lt {xs : List Ext} (h : ok xs) {pre : List Int} {x : Int} (hp : pre ++ [x] <+: offs xs) : lastO pre < x := by
  have hup := (offs_up h).sublist hp.sublist
  have hx : 0 ≤ x := (mem_bd h.1 (offs_mem h.1 (hp.subset (by simp)))).1
  rcases List.eq_nil_or_concat pre with rfl | ⟨q, y, rfl⟩
  · show (-1 : Int) < x
    omega
  · rw [List.concat_eq_append] at hup ⊢
    rw [lastO_snoc]
    exact (List.pairwise_append.1 hup).2.2 y (by simp) x (by simp)
theorem pre_has {xs : List Ext} (hv : vld xs) {pre : List Int} {x : Int} (hp : pre ++ [x] <+: offs xs) : hasB xs x = true := by
  have hk := ok_of hv
  have hm := offs_mem hk.1 (hp.subset (show x ∈ pre ++ [x] by simp))
  have := mem_bd hk.1 hm
  exact (hasB_mem hv (by omega)).2 hm
theorem lastO_bd {xs : List Ext} (h : ok xs) {pre : List Int} (hp : pre <+: offs xs) : -1 ≤ lastO pre ∧ lastO pre < 1048576 := by
  rcases List.eq_nil_or_concat pre with rfl | ⟨q, y, rfl⟩
  · show -1 ≤ (-1 : Int) ∧ (-1 : Int) < 1048576
    omega
  · rw [List.concat_eq_append] at hp ⊢
    rw [lastO_snoc]
    have := mem_bd h.1 (offs_mem h.1 (hp.subset (show y ∈ q ++ [y] by simp)))
    omega
theorem totTo_vld {xs : List Ext} (hv : vld xs) (hl : xs.length ≤ 1000) : ∀ k, k ≤ xs.length → totTo xs k = tot (xs.take k)
  | 0, _ => rfl
  | k + 1, hk => by
    have h1 := tot_take_bd hv (k := k + 1) (by omega)
    have h2 := tot_take (xs := xs) (k := k) (by omega)
    rw [totTo_succ (by omega), totTo_vld hv hl k (by omega), ← h2]
    unfold wrap64
    omega
theorem totF_vld {xs : List Ext} (hv : vld xs) (hl : xs.length ≤ 1000) : totF xs = ((offs xs).length : Int) := by
  rw [offs_len (ok_of hv).1]
  show totTo xs xs.length = _
  rw [totTo_vld hv hl _ (Nat.le_refl _), List.take_length]
theorem offs_bd {xs : List Ext} (hv : vld xs) (hl : xs.length ≤ 1000) : (offs xs).length ≤ 1048576000 := by
  have h1 := tot_take_bd hv (k := xs.length) hl
  rw [List.take_length] at h1
  have h2 := offs_len (ok_of hv).1
  omega
end Ex
end Go.Proofs.Ytabjbghmldiokaa
