/- The law same. -/
import Derived.Test.YtehfnjaompkikaaMSame
import Derived.Test.YtehfnjaompkikaaMRDec
namespace Go.Proofs.Ytehfnjaompkikaa
open Go.RowKit Go.Shelf
set_option linter.unusedVariables false
set_option linter.unusedSimpArgs false
set_option maxRecDepth 100000
theorem mdΦ_same {l : List Nat} {i j : ModR × Int} {w w' v v' : World} (h : mdΦ l i w w') (k : mdΦ l j v v') : datM i.1 = datM j.1 ∧ i.2 = j.2 := by
  rcases h.2 with ⟨h1, h2⟩ | ⟨h1, h2, h3⟩
  · rcases k.2 with ⟨k1, k2⟩ | ⟨k1, k2, k3⟩
    · rw [h2] at k2
      injection k2 with k2
      exact ⟨k2, h1.trans k1.symm⟩
    · rw [h2] at k2
      cases k2
  · rcases k.2 with ⟨k1, k2⟩ | ⟨k1, k2, k3⟩
    · rw [h2] at k2
      cases k2
    · rw [h2] at k2
      injection k2 with k2
      exact ⟨by rw [h3, k3], k2⟩
theorem same_any (A : Option Addr) (n c : Nat) (l : List Nat) (W : World) (hE : Sl W W.heap.size 1 A n c (byt l)) (hb : ∀ x ∈ l, x < 256) :
    Calls Try.prog 19 #[.slice A n c] W fun e w' => e = .returned (.bool true) ∧ Below W.heap.size W w' := by
  refine calls_cv (M := []) (n := 25) [.tmp 2] rfl Try.func19 rfl rfl (Nat.le_of_ble_eq_true rfl) (St.nil _ _) ?_
  refine cv_seq_k fun K hK => ?_
  refine cv_region_then rfl ?_
  simp -implicitDefEqProofs (disch := first | omega | decide) only [seval, -Int.reducePow, -Nat.reducePow, cA, cB, pv, binv, fresh, thenQ, blockQ, retQ, Value.oneCell', Value.cells, undef, Nat.mul_one, mBox, mdV, modV, cS]
  refine hK _ _ ?_
  clear hK K
  refine cv_seq_k fun K hK => ?_
  refine cv_region_then rfl ?_
  simp -implicitDefEqProofs (disch := first | omega | decide) only [seval, -Int.reducePow, -Nat.reducePow, cA, cB, pv, binv, fresh, thenQ, blockQ, retQ, Value.oneCell', Value.cells, undef, Nat.mul_one, mBox, mdV, modV, cS]
  refine callV_nest mdV (mdΦ l) (fun w hw => mdec_any A n c l w (hE.at hw) hb) ?_
  intro i w0 w1 f1 hw0 hw1 hi hNw
  have hiD : ModD w1 (Dm [] W f1) i.1 := hi.1.mono fun y hy => .inl (hNw y hy)
  simp -implicitDefEqProofs (disch := first | omega | decide) only [seval, -Int.reducePow, -Nat.reducePow, cA, cB, pv, binv, fresh, thenQ, blockQ, retQ, Value.oneCell', Value.cells, undef, Nat.mul_one, mBox, mdV, modV, cS]
  intro b3 hb3
  refine hK _ _ ?_
  clear hK K
  refine cv_seq_k fun K hK => ?_
  refine cv_region_then rfl ?_
  simp -implicitDefEqProofs (disch := first | omega | decide) only [seval, -Int.reducePow, -Nat.reducePow, cA, cB, pv, binv, fresh, thenQ, blockQ, retQ, Value.oneCell', Value.cells, undef, Nat.mul_one, mBox, mdV, modV, cS]
  refine callV_nest mdV (mdΦ l) (fun w hw => rmdec_any A n c l w (hE.at hw) hb) ?_
  intro j w2 w3 f2 hw2 hw3 hj hNw2
  have hjD : ModD w3 (Dm [] W f2) j.1 := hj.1.mono fun y hy => .inl (hNw2 y hy)
  obtain ⟨hd, he⟩ := mdΦ_same hi hj
  simp -implicitDefEqProofs (disch := first | omega | decide) only [seval, -Int.reducePow, -Nat.reducePow, cA, cB, pv, binv, fresh, thenQ, blockQ, retQ, Value.oneCell', Value.cells, undef, Nat.mul_one, mBox, mdV, modV, cS]
  intro b5 hb5 h5
  refine hK _ _ ?_
  clear hK K
  refine cv_seq_k fun K hK => ?_
  refine cv_region_then rfl ?_
  simp -implicitDefEqProofs (disch := first | omega | decide) only [seval, -Int.reducePow, -Nat.reducePow, cA, cB, pv, binv, fresh, thenQ, blockQ, retQ, Value.oneCell', Value.cells, undef, Nat.mul_one, mBox, mdV, modV, cS]
  refine callV_ret (fun w hw => sameModule_any i.1 j.1 w (hiD.at hw 3 rfl) (hjD.at hw 1 rfl)) ?_
  try simp -implicitDefEqProofs (disch := first | omega | decide) only [seval, -Int.reducePow, -Nat.reducePow, cA, cB, pv, binv, fresh, thenQ, blockQ, retQ, Value.oneCell', Value.cells, undef, Nat.mul_one, mBox, mdV, modV, cS, hd, he]
  refine hK _ _ ?_
  clear hK K
  refine cv_ret ⟨_, (by simp -implicitDefEqProofs (disch := first | omega | decide) only [seval, -Int.reducePow, -Nat.reducePow, cA, cB, pv, binv, fresh, thenQ, blockQ, retQ, Value.oneCell', Value.cells, undef, Nat.mul_one, mBox, mdV, modV, cS]; rfl), fun w hw => ?_⟩
  exact ⟨rfl, hw.below⟩
end Go.Proofs.Ytehfnjaompkikaa
