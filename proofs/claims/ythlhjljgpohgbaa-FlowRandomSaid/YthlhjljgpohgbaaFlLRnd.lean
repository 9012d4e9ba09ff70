/- The law FlowRandom, walked. -/
import Derived.Test.YthlhjljgpohgbaaFlRand
namespace Go.Proofs.Ythlhjljgpohgbaa
open Go.RowKit Go.Shelf
set_option linter.unusedVariables false
set_option linter.unusedSimpArgs false
set_option maxRecDepth 100000
set_option maxHeartbeats 2000000 in
theorem fRandom_walk (W : World) (A : Option Addr) (n c : Nat) (l : List (List Nat)) (hE : Sl W W.heap.size 2 A n c (cl u8r l)) (h2 : ∀ r ∈ l, r.length = 2 ∧ ∀ x ∈ r, (x : Int) < 256)
    (s : Nat × Nat × Nat × Nat) (hs : s.1 < 256 ∧ s.2.1 < 256 ∧ s.2.2.1 < 256 ∧ s.2.2.2 < 256) (f : Int) (hf : -128 ≤ f ∧ f ≤ 127) (at' : Int) (hat : -128 ≤ at' ∧ at' ≤ 127) :
    Calls Try.prog 5 #[.slice A n c, .agg #[.int .u8 (s.1 : Int), .int .u8 (s.2.1 : Int), .int .u8 (s.2.2.1 : Int), .int .u8 (s.2.2.2 : Int)], .int .i8 f, .int .i8 at'] W fun e w' => e = .returned (.bool true) ∧ Below W.heap.size W w' := by
  obtain ⟨s0, s1, s2, s3⟩ := s
  dsimp only at *
  refine calls_cv (M := []) (n := 37) [.tmp 8] rfl Try.func5 rfl rfl (Nat.le_of_ble_eq_true rfl) (St.nil _ _) ?_
  refine cv_seq_k fun K hK => ?_
  refine cv_region_then rfl ?_
  simp -implicitDefEqProofs (disch := first | omega | decide) only [seval, -Int.reducePow, -Nat.reducePow, cA, cB, pv, binv, fresh, thenQ, blockQ, retQ, Value.oneCell', Value.cells, mBox, modV, undef, Nat.mul_one]
  intro b5 hb5
  refine hK _ _ ?_
  clear hK K
  refine cv_seq_k fun K hK => ?_
  refine cv_region_then rfl ?_
  simp -implicitDefEqProofs (disch := first | omega | decide) only [seval, -Int.reducePow, -Nat.reducePow, cA, cB, pv, binv, fresh, thenQ, blockQ, retQ, Value.oneCell', Value.cells, mBox, modV, undef, Nat.mul_one]
  refine callV_nest modV (fun k w w' => ModD w' (Nw w w') k) (fun w hw => flRandom_any A n c l s0 s1 s2 s3 w (hE.at hw) h2 hs.1 hs.2.1 hs.2.2.1 hs.2.2.2) ?_
  intro k w0 w1 f1 hw0 hw1 hk hNw
  have hkD : ModD w1 (Dm [] W f1) k := hk.mono fun y hy => .inl (hNw y hy)
  simp -implicitDefEqProofs (disch := first | omega | decide) only [seval, -Int.reducePow, -Nat.reducePow, cA, cB, pv, binv, fresh, thenQ, blockQ, retQ, Value.oneCell', Value.cells, mBox, modV, undef, Nat.mul_one]
  intro b9 hb9 hf9
  refine hK _ _ ?_
  clear hK K
  refine cv_seq_k fun K hK => ?_
  refine cv_region_then rfl ?_
  simp -implicitDefEqProofs (disch := first | omega | decide) only [seval, -Int.reducePow, -Nat.reducePow, cA, cB, pv, binv, fresh, thenQ, blockQ, retQ, Value.oneCell', Value.cells, mBox, modV, undef, Nat.mul_one]
  refine callV_ret (fun w hw => flAwake_any w) ?_
  try simp -implicitDefEqProofs (disch := first | omega | decide) only [seval, -Int.reducePow, -Nat.reducePow, cA, cB, pv, binv, fresh, thenQ, blockQ, retQ, Value.oneCell', Value.cells, mBox, modV, undef, Nat.mul_one]
  refine callV_ret (fun w hw => same_any k 0 _ w (hkD.at hw 1 rfl)) ?_
  try simp -implicitDefEqProofs (disch := first | omega | decide) only [seval, -Int.reducePow, -Nat.reducePow, cA, cB, pv, binv, fresh, thenQ, blockQ, retQ, Value.oneCell', Value.cells, mBox, modV, undef, Nat.mul_one]
  refine callV_ret (fun w hw => same_any k 1 _ w (hkD.at hw 1 rfl)) ?_
  try simp -implicitDefEqProofs (disch := first | omega | decide) only [seval, -Int.reducePow, -Nat.reducePow, cA, cB, pv, binv, fresh, thenQ, blockQ, retQ, Value.oneCell', Value.cells, mBox, modV, undef, Nat.mul_one]
  refine callV_ret (fun w hw => same_any k _ _ w (hkD.at hw 1 rfl)) ?_
  try simp -implicitDefEqProofs (disch := first | omega | decide) only [seval, -Int.reducePow, -Nat.reducePow, cA, cB, pv, binv, fresh, thenQ, blockQ, retQ, Value.oneCell', Value.cells, mBox, modV, undef, Nat.mul_one]
  refine hK _ _ ?_
  clear hK K
  refine cv_ret ⟨_, (by simp -implicitDefEqProofs (disch := first | omega | decide) only [seval, -Int.reducePow, -Nat.reducePow, cA, cB, pv, binv, fresh, thenQ, blockQ, retQ, Value.oneCell', Value.cells, mBox, modV, undef, Nat.mul_one]; rfl), fun w hw => ?_⟩
  exact ⟨rfl, hw.below⟩
end Go.Proofs.Ythlhjljgpohgbaa
