/- The law's made modules. -/
import Derived.Test.YtehfnjaompkikaaMk
namespace Go.Proofs.Ytehfnjaompkikaa
open Go.RowKit Go.Shelf
set_option linter.unusedVariables false
set_option linter.unusedSimpArgs false
set_option maxRecDepth 100000
theorem made_any (B : Option Addr) (m d : Nat) (l : List Nat) (W : World) (hU : Sl W W.heap.size 1 B m d (u16c l)) (hl : ∀ x ∈ l, x < 65536) :
    Calls Try.prog 13 #[.slice B m d] W fun e w' => ∃ k : ModR, e = .returned (modV k) ∧ (ModD w' (Nw W w') k ∧ Good k) ∧ Below W.heap.size W w' := by
  have hl60 : ∀ x ∈ l.take 60, x < 65536 := fun x hx => hl x (List.mem_of_mem_take hx)
  refine calls_cv2 (M := []) (n := 6) [.cell 2 25] rfl Try.func13 rfl rfl (Nat.le_of_ble_eq_true rfl) (St.nil _ _) ?_
  refine cv_seq_k fun K hK => ?_
  refine cv_region_then rfl ?_
  simp -implicitDefEqProofs (disch := first | omega | decide) only [seval, -Int.reducePow, -Nat.reducePow, cA, cB, pv, binv, fresh, thenQ, blockQ, retQ, Value.oneCell', Value.cells, fBox, tBox, pBox, fdV, tyV, tpBox, tape, undef, Nat.mul_one, cS, modV]
  intro b2 hb2
  refine hK _ _ ?_
  clear hK K
  refine cv_seq_k fun K hK => ?_
  refine cv_region_then rfl ?_
  simp -implicitDefEqProofs (disch := first | omega | decide) only [seval, -Int.reducePow, -Nat.reducePow, cA, cB, pv, binv, fresh, thenQ, blockQ, retQ, Value.oneCell', Value.cells, fBox, tBox, pBox, fdV, tyV, tpBox, tape, undef, Nat.mul_one, cS, modV]
  refine callV_boxRow (fun w hw => of_any B m d l 60 w (hU.at hw) (by omega)) ?_
  intro b4 A2 n2 c2 hl2 hb4 hf2 hr2
  simp -implicitDefEqProofs (disch := first | omega | decide) only [seval, -Int.reducePow, -Nat.reducePow, cA, cB, pv, binv, fresh, thenQ, blockQ, retQ, Value.oneCell', Value.cells, fBox, tBox, pBox, fdV, tyV, tpBox, tape, undef, Nat.mul_one, cS, modV] at hf2
  simp -implicitDefEqProofs (disch := first | omega | decide) only [seval, -Int.reducePow, -Nat.reducePow, cA, cB, pv, binv, fresh, thenQ, blockQ, retQ, Value.oneCell', Value.cells, fBox, tBox, pBox, fdV, tyV, tpBox, tape, undef, Nat.mul_one, cS, modV]
  refine callV_nestM 1 (fun p : ModR × Nat => modV p.1) (fun p w w' => ModD w' (Nw w w') p.1 ∧ Good p.1) (fun p => tape A2 n2 c2 p.2) rfl (fun w hw => module_any b4 A2 n2 c2 (l.take 60) 0 10 w (hw.hold 1 rfl) (hw.slr 0 rfl) (fun _ => hr2.apt) hl60 (by omega) (by omega)) ?_
  rintro ⟨k, j⟩ w0 w1 f1 hw0 hw1 ⟨hk, hg⟩ hNw
  dsimp only at *
  simp -implicitDefEqProofs (disch := first | omega | decide) only [seval, -Int.reducePow, -Nat.reducePow, cA, cB, pv, binv, fresh, thenQ, blockQ, retQ, Value.oneCell', Value.cells, fBox, tBox, pBox, fdV, tyV, tpBox, tape, undef, Nat.mul_one, cS, modV]
  refine hK _ _ ?_
  clear hK K
  refine cv_ret ?_
  simp -implicitDefEqProofs (disch := first | omega | decide) only [seval, -Int.reducePow, -Nat.reducePow, cA, cB, pv, binv, fresh, thenQ, blockQ, retQ, Value.oneCell', Value.cells, fBox, tBox, pBox, fdV, tyV, tpBox, tape, undef, Nat.mul_one, cS, modV, retQ2, ressV, packV]
  intro w hw
  refine ⟨k, rfl, ⟨hk.same (fun y hy => hw.snap_same (.head _) y (.inl (hNw y hy))) fun y hy => hw.snapNew 0 rfl (by simp) y (hNw y hy), hg⟩, hw.below⟩
end Go.Proofs.Ytehfnjaompkikaa
