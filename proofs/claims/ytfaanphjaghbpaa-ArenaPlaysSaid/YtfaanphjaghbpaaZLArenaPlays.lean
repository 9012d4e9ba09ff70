/- The law ArenaPlays, walked. -/
import Derived.Test.YtfaanphjaghbpaaZ7
import Derived.Test.YtfaanphjaghbpaaZ5
namespace Go.Proofs.Ytfaanphjaghbpaa
open Go.RowKit Go.Shelf
set_option linter.unusedVariables false
set_option linter.unusedSimpArgs false
set_option maxRecDepth 100000
set_option maxRecDepth 100000 in
theorem sArLPl1 : type_of% (And.intro (And.intro (And.intro @eBox.eq_1 @exV.eq_1) (And.intro @alL.eq_1 @arL.eq_1)) (And.intro (And.intro @mrL.eq_1 @Nat.mul_one) (And.intro @wrap_in (And.intro @cMp @cM)))) := (And.intro (And.intro (And.intro @eBox.eq_1 @exV.eq_1) (And.intro @alL.eq_1 @arL.eq_1)) (And.intro (And.intro @mrL.eq_1 @Nat.mul_one) (And.intro @wrap_in (And.intro @cMp @cM))))
set_option maxHeartbeats 4000000 in
theorem arPlays_walk (W : World) (room : Int) (hr : 0 ≤ room ∧ room ≤ 255) (A : Option Addr) (n c : Nat) (l : List S6) (hE : Sl W W.heap.size 6 A n c (cl s6V l)) (hb : ∀ s ∈ l, s.ok) :
    Calls Try.prog 6 #[.int .u8 room, .slice A n c] W fun e w' => e = .returned (.bool true) ∧ Below W.heap.size W w' := by
  obtain ⟨r, rfl⟩ : ∃ r : Nat, room = (r : Int) := ⟨room.toNat, by omega⟩
  refine calls_cv (M := []) (n := 24) [.tmp 4] rfl Try.func6 rfl rfl (Nat.le_of_ble_eq_true rfl) (St.nil _ _) ?_
  refine cv_seq_k fun K hK => ?_
  refine cv_region_then rfl ?_
  simp -implicitDefEqProofs (disch := first | omega | decide) only [seval, -Int.reducePow, -Nat.reducePow, cC, pv, binv, sArLPl1, undef, List.cons_append, List.nil_append]
  refine hK _ _ ?_
  clear hK K
  refine cv_seq_k fun K hK => ?_
  refine cv_region_then rfl ?_
  simp -implicitDefEqProofs (disch := first | omega | decide) only [seval, -Int.reducePow, -Nat.reducePow, cC, pv, binv, sArLPl1, undef, List.cons_append, List.nil_append]
  refine callV_grp [] [] (by decide) (fun i : ArR × MrR => .tuple #[.pointer (some ⟨i.1.bR, 0, none⟩), .pointer (some ⟨i.2.ml.bM, 0, none⟩), .bool true]) (fun i => arL i.1 ++ mrL i.2) (fun i => Pr i.1 i.2 ∧ i.2.ml.us.length ≤ 30) (fun w hw hq => built_any r (by omega) A n c l w (hE.at hw) hb) ?_
  rintro ⟨x, y⟩ ⟨hP, hl⟩
  dsimp only at hP hl
  simp only [pickL, nth]
  simp -implicitDefEqProofs (disch := first | omega | decide) only [seval, -Int.reducePow, -Nat.reducePow, cC, pv, binv, sArLPl1, undef, List.cons_append, List.nil_append]
  refine hK _ _ ?_
  clear hK K
  refine cv_seq_k fun K hK => ?_
  refine cv_region_then rfl ?_
  simp -implicitDefEqProofs (disch := first | omega | decide) only [seval, -Int.reducePow, -Nat.reducePow, cC, pv, binv, sArLPl1, undef, List.cons_append, List.nil_append]
  refine callV_ret (fun w hw => arAwake_any w) ?_
  try simp -implicitDefEqProofs (disch := first | omega | decide) only [seval, -Int.reducePow, -Nat.reducePow, cC, pv, binv, sArLPl1, undef, List.cons_append, List.nil_append]
  refine callV_ret (fun w hw => alike_any x y w hP (by omega) (hP.arW hw 0 1 2 3 4 rfl rfl rfl rfl rfl (by omega)) (hP.mrW hw 5 6 7 rfl rfl rfl (by omega))) ?_
  try simp -implicitDefEqProofs (disch := first | omega | decide) only [seval, -Int.reducePow, -Nat.reducePow, cC, pv, binv, sArLPl1, undef, List.cons_append, List.nil_append]
  refine hK _ _ ?_
  clear hK K
  refine cv_ret ⟨_, (by simp -implicitDefEqProofs (disch := first | omega | decide) only [seval, -Int.reducePow, -Nat.reducePow, cC, pv, binv, sArLPl1, undef, List.cons_append, List.nil_append]; rfl), fun w hw => ?_⟩
  exact ⟨rfl, hw.below⟩
end Go.Proofs.Ytfaanphjaghbpaa
