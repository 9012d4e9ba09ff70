/- The laws ModuleBack and ModuleApart, walked. -/
import Derived.Test.YtehfnjaompkikaaMSame
import Derived.Test.YtehfnjaompkikaaMBk
import Derived.Test.YtehfnjaompkikaaMMd
namespace Go.Proofs.Ytehfnjaompkikaa
open Go.RowKit Go.Shelf
set_option linter.unusedVariables false
set_option linter.unusedSimpArgs false
set_option maxRecDepth 100000
set_option maxHeartbeats 4000000 in
theorem mBack_walk (W : World) (B : Option Addr) (m d : Nat) (l : List Nat) (hU : Sl W W.heap.size 1 B m d (u16c l)) (hl : ∀ x ∈ l, x < 65536) :
    Calls Try.prog 8 #[.slice B m d] W fun e w' => e = .returned (.bool true) ∧ Below W.heap.size W w' := by
  refine calls_cv (M := []) (n := 40) [.tmp 2] rfl Try.func8 rfl rfl (Nat.le_of_ble_eq_true rfl) (St.nil _ _) ?_
  refine cv_seq_k fun K hK => ?_
  refine cv_region_then rfl ?_
  simp -implicitDefEqProofs (disch := first | omega | decide) only [seval, -Int.reducePow, -Nat.reducePow, cA, cB, pv, binv, fresh, thenQ, blockQ, retQ, Value.oneCell', Value.cells, undef, Nat.mul_one, mBox, mdV, modV, cS, fltV, fineF]
  refine hK _ _ ?_
  clear hK K
  refine cv_seq_k fun K hK => ?_
  refine cv_region_then rfl ?_
  simp -implicitDefEqProofs (disch := first | omega | decide) only [seval, -Int.reducePow, -Nat.reducePow, cA, cB, pv, binv, fresh, thenQ, blockQ, retQ, Value.oneCell', Value.cells, undef, Nat.mul_one, mBox, mdV, modV, cS, fltV, fineF]
  refine callV_nest modV (fun k w w' => ModD w' (Nw w w') k ∧ Good k) (fun w hw => made_any B m d l w (hU.at hw) hl) ?_
  intro k w0 w1 f1 hw0 hw1 ⟨hk, hg⟩ hNw
  have hkD : ModD w1 (Dm [] W f1) k := hk.mono fun y hy => .inl (hNw y hy)
  have hchk : (chkM k).1 = 0 := by rw [hg.chk]; rfl
  have hbb : ∀ x ∈ encM k, x < 256 := encM_bytes hchk
  have hdec := decM_enc hchk hkD.arg hg.len
  obtain ⟨he1, he2⟩ := hg.err
  have hlen := hg.len
  simp -implicitDefEqProofs (disch := first | omega | decide) only [seval, -Int.reducePow, -Nat.reducePow, cA, cB, pv, binv, fresh, thenQ, blockQ, retQ, Value.oneCell', Value.cells, undef, Nat.mul_one, mBox, mdV, modV, cS, fltV, fineF]
  intro b3 hb3
  refine hK _ _ ?_
  clear hK K
  refine cv_seq_k fun K hK => ?_
  refine cv_region_then rfl ?_
  simp -implicitDefEqProofs (disch := first | omega | decide) only [seval, -Int.reducePow, -Nat.reducePow, cA, cB, pv, binv, fresh, thenQ, blockQ, retQ, Value.oneCell', Value.cells, undef, Nat.mul_one, mBox, mdV, modV, cS, fltV, fineF]
  rw [show (Value.agg #[.slice k.TA k.tn k.tc, .slice k.FA k.fn k.fc]) = modV k from rfl]
  refine callV_row (fun A n c => .tuple #[.slice A n c, .int .i64 (errM k)]) (fun w hw => menc_any k w (hkD.at hw 1 rfl)) ?_
  rw [he1, he2]
  intro A4 n4 c4 hl4 hr4
  simp -implicitDefEqProofs (disch := first | omega | decide) only [seval, -Int.reducePow, -Nat.reducePow, cA, cB, pv, binv, fresh, thenQ, blockQ, retQ, Value.oneCell', Value.cells, undef, Nat.mul_one, mBox, mdV, modV, cS, fltV, fineF]
  refine hK _ _ ?_
  clear hK K
  refine cv_seq_k fun K hK => ?_
  refine cv_region_then rfl ?_
  simp -implicitDefEqProofs (disch := first | omega | decide) only [seval, -Int.reducePow, -Nat.reducePow, cA, cB, pv, binv, fresh, thenQ, blockQ, retQ, Value.oneCell', Value.cells, undef, Nat.mul_one, mBox, mdV, modV, cS, fltV, fineF]
  refine callV_nest mdV (mdΦ (encM k)) (fun w hw => mdec_any A4 n4 c4 (encM k) w (hw.slr 0 rfl) hbb) ?_
  intro i w2 w3 f2 hw2 hw3 hi hNw2
  have hiD : ModD w3 (Dm [] W f2) i.1 := hi.1.mono fun y hy => .inl (hNw2 y hy)
  obtain ⟨hi0, hid⟩ : i.2 = 0 ∧ datM k = datM i.1 := by
    rcases hi.2 with ⟨h1, h2⟩ | ⟨h1, h2, h3⟩
    · rw [hdec] at h2
      injection h2 with h2
      exact ⟨h1, h2⟩
    · rw [hdec] at h2
      cases h2
  simp -implicitDefEqProofs (disch := first | omega | decide) only [seval, -Int.reducePow, -Nat.reducePow, cA, cB, pv, binv, fresh, thenQ, blockQ, retQ, Value.oneCell', Value.cells, undef, Nat.mul_one, mBox, mdV, modV, cS, fltV, fineF]
  intro b6 hb6 h6
  refine hK _ _ ?_
  clear hK K
  refine cv_seq_k fun K hK => ?_
  refine cv_region_then rfl ?_
  simp -implicitDefEqProofs (disch := first | omega | decide) only [seval, -Int.reducePow, -Nat.reducePow, cA, cB, pv, binv, fresh, thenQ, blockQ, retQ, Value.oneCell', Value.cells, undef, Nat.mul_one, mBox, mdV, modV, cS, fltV, fineF]
  refine callV_ret (fun w hw => awake_any w) ?_
  try simp -implicitDefEqProofs (disch := first | omega | decide) only [seval, -Int.reducePow, -Nat.reducePow, cA, cB, pv, binv, fresh, thenQ, blockQ, retQ, Value.oneCell', Value.cells, undef, Nat.mul_one, mBox, mdV, modV, cS, fltV, fineF]
  rw [show (Value.agg #[.slice k.TA k.tn k.tc, .slice k.FA k.fn k.fc]) = modV k from rfl]
  refine callV_ret (fun w hw => mcheck_any k w (hkD.at hw 4 rfl)) ?_
  try simp -implicitDefEqProofs (disch := first | omega | decide) only [seval, -Int.reducePow, -Nat.reducePow, cA, cB, pv, binv, fresh, thenQ, blockQ, retQ, Value.oneCell', Value.cells, undef, Nat.mul_one, mBox, mdV, modV, cS, fltV, fineF, hg.chk, hi0]
  refine callV_ret (fun w hw => sameModule_any k i.1 w (hkD.at hw 4 rfl) (hiD.at hw 1 rfl)) ?_
  try simp -implicitDefEqProofs (disch := first | omega | decide) only [seval, -Int.reducePow, -Nat.reducePow, cA, cB, pv, binv, fresh, thenQ, blockQ, retQ, Value.oneCell', Value.cells, undef, Nat.mul_one, mBox, mdV, modV, cS, fltV, fineF, hid]
  refine hK _ _ ?_
  clear hK K
  refine cv_ret ⟨_, (by simp -implicitDefEqProofs (disch := first | omega | decide) only [seval, -Int.reducePow, -Nat.reducePow, cA, cB, pv, binv, fresh, thenQ, blockQ, retQ, Value.oneCell', Value.cells, undef, Nat.mul_one, mBox, mdV, modV, cS, fltV, fineF]; rfl), fun w hw => ?_⟩
  exact ⟨rfl, hw.below⟩
end Go.Proofs.Ytehfnjaompkikaa
