/- What the list of resources itself tells: the blocks and rows lie apart. -/
import Derived.Test.YtehfnjaompkikaaEng6
namespace Go.Proofs.Ytehfnjaompkikaa
open Go.RowKit Go.Shelf
set_option linter.unusedVariables false
set_option linter.unusedSimpArgs false
/-- No row of the list lies in block b. -/
def neR : List Res → Nat → Prop
  | [], _ => True
  | .row (.slice A _ _) _ _ _ _ :: L, b => (∀ g, A = some ⟨g, 0, none⟩ → g ≠ b) ∧ neR L b
  | _ :: L, b => neR L b
def factL (W : World) (M : List Nat) : List Res → Prop
  | [] => True
  | .blk b _ _ :: L => (W.heap.size ≤ b ∨ b ∈ M) ∧ neB L b ∧ neR L b ∧ factL W M L
  | .row (.slice A _ _) _ _ n _ :: L => rowAt A n W M L ∧ factL W M L
  | _ :: L => factL W M L
theorem neR_nil (b : Nat) : neR [] b = True := rfl
theorem neR_blk (k : Nat) (t : TypeId) (cs : List Value) (L : List Res) (b : Nat) : neR (.blk k t cs :: L) b = neR L b := rfl
theorem neR_row (A : Option Addr) (n c : Nat) (t : TypeId) (s m : Nat) (xs : List Value) (L : List Res) (b : Nat) : neR (.row (.slice A n c) t s m xs :: L) b = ((∀ g, A = some ⟨g, 0, none⟩ → g ≠ b) ∧ neR L b) := rfl
theorem factL_nil (W : World) (M : List Nat) : factL W M [] = True := rfl
theorem factL_blk (W : World) (M : List Nat) (k : Nat) (t : TypeId) (cs : List Value) (L : List Res) : factL W M (.blk k t cs :: L) = ((W.heap.size ≤ k ∨ k ∈ M) ∧ neB L k ∧ neR L k ∧ factL W M L) := rfl
theorem factL_row (W : World) (M : List Nat) (A : Option Addr) (n c : Nat) (t : TypeId) (s m : Nat) (xs : List Value) (L : List Res) : factL W M (.row (.slice A n c) t s m xs :: L) = (rowAt A m W M L ∧ factL W M L) := rfl
theorem neR_of : ∀ {L : List Res} {b : Nat}, (∀ r ∈ L, b ∉ r.foot) → neR L b
  | [], _, _ => trivial
  | .blk k t cs :: L, b, h => neR_of (L := L) fun r hr => h r (by simp [hr])
  | .dat f p l :: L, b, h => neR_of (L := L) fun r hr => h r (by simp [hr])
  | .row v t s n xs :: L, b, h => by
    have h2 : neR L b := neR_of (L := L) fun r hr => h r (by simp [hr])
    unfold neR
    split
    · trivial
    · rename_i A m c t' s' n' xs' L' b' hh
      cases hh
      exact ⟨fun g hg e => h _ (.head _) (by subst hg; simp [Res.foot, Value.ownBlock, e]), h2⟩
    · rename_i hh
      cases hh
      exact h2
theorem St.facts {M : List Nat} {W w : World} : ∀ {L : List Res}, St M W L w → factL W M L
  | [], _ => trivial
  | .blk k t cs :: L, h => by
    have ht : St M W L w := h.sub (List.sublist_cons_self _ _)
    have hp := (List.pairwise_cons.1 h.apart).1
    have hk : ∀ r ∈ L, k ∉ r.foot := fun r hr => hp r hr k (by simp [Res.foot])
    exact ⟨(h.own _ (.head _) k (by simp [Res.foot])).1, neB_of hk, neR_of hk, ht.facts⟩
  | .dat f p l :: L, h => St.facts (L := L) (h.sub (List.sublist_cons_self _ _))
  | .row v t s n xs :: L, h => by
    have ht : factL W M L := St.facts (h.sub (List.sublist_cons_self _ _))
    unfold factL
    split
    · trivial
    · rename_i hh; cases hh
    · rename_i A m c t' s' n' xs' L' hh
      cases hh
      rcases (h.holds _ (.head _)).2 with ⟨h1, hn⟩ | ⟨g, cap, cur, h1, _⟩
      · injection h1 with h1
        exact ⟨.inl ⟨h1, hn⟩, ht⟩
      · injection h1 with h1 h3
        subst h1
        subst h3
        exact ⟨h.row_at, ht⟩
    · rename_i hh
      cases hh
      exact ht
theorem cv_apart {P : Program} {M : List Nat} {W : World} {n : Nat} {c : Code} {F : Fr} {L : List Res} {Q : Exit → Fr → List Res → Prop} (h : factL W M L → CV P M W n c F L Q) : CV P M W n c F L Q := fun a w ha hw => h hw.facts a w ha hw
end Go.Proofs.Ytehfnjaompkikaa
