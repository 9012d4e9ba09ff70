/- few, set, and the chapter's example. -/
import Derived.Test.YtabjbghmldiokaaFRow
import Derived.Test.YtabjbghmldiokaaExMake
namespace Go.Proofs.Ytabjbghmldiokaa
open Go.RowKit Go.Shelf
set_option linter.unusedVariables false
set_option linter.unusedSimpArgs false
set_option maxRecDepth 100000

theorem few_any (A : Option Addr) (n c : Nat) (w : World) : Calls Try.prog 12 #[.slice A n c] w fun e w' => e = .returned (.bool (decide (n ≤ 20))) ∧ Below w.heap.size w w' := by
  go_enter Try.func12, Try.ntmps12
  go_wp2
  go_ret
  refine ⟨?_, Below.refl _ _⟩
  first | rfl | (congr 2; simp; omega)

theorem ex_awake : Ex.insF [⟨0, 4⟩, ⟨10, 2⟩] ⟨4, 4⟩ = ([⟨0, 8⟩, ⟨10, 2⟩], 0) := by
  have hv : Ex.vld [⟨0, 4⟩, ⟨10, 2⟩] := fun i hi => by
    match i, hi with
    | 0, _ => exact ⟨by unfold Ext.prop; simp [Ex.get], fun h => absurd h (by omega)⟩
    | 1, _ => exact ⟨by unfold Ext.prop; simp [Ex.get], fun _ => by simp [Ex.get, Ext.end_]⟩
  have hp : (⟨4, 4⟩ : Ext).prop := by unfold Ext.prop; simp
  have ha : Ex.aft [⟨0, 4⟩, ⟨10, 2⟩] 4 = 1 := Ex.aft_eq (by simp) (fun k hk => by obtain rfl : k = 0 := by omega
                                                                                  simp [Ex.get, Ext.end_]) (fun _ => by simp [Ex.get, Ext.end_])
  unfold Ex.insF
  rw [if_neg (by rintro (h | h); exact h hv; exact h hp), show (⟨4, 4⟩ : Ext).off = 4 from rfl, ha]
  simp [Ex.get, Ext.end_, Ex.insL, Ex.insR]

set_option maxHeartbeats 1000000 in
theorem set_row (A : Option Addr) (n c : Nat) (L : List Int) (w : World) (h : U16s w w.heap.size A n c L) :
    Calls Try.prog 16 #[.slice A n c] w (rowPost 24 2 (fun v => v) (exCells (exList (L.take 40) 12)) w) := by
  have HO := Lib.hid (of_any A n c 40 L w h (by omega))
  clear h
  go_enter Try.func16, Try.ntmps16
  go_wp2_with fail
  refine HO.out.mono ?_
  rintro e w1 ⟨⟨T, g, cap, rfl, hT⟩, hb⟩
  have HT := Lib.hid hT
  clear hT
  go_wp2_with fail
  refine (extents_any _ T g cap _ 12 w1 HT.out (by omega)).mono ?_
  rintro e w2 ⟨A2, c2, rfl, hown, hg⟩
  have hfin := ownsRow_base hown hb.size
  have hB : Below w.heap.size w w2 := hb.grown hg hb.size (fun k hk => by cases hk; exact HT.out.lo)
  have HF := Lib.hid (And.intro hfin hB)
  clear hown hg hfin hB hb
  go_wp2
  go_ret
  exact ⟨A2, _, c2, rfl, HF.out.1, HF.out.2⟩

theorem awake4_any (W : World) : Calls Try.prog 13 #[] W fun e w' => e = .returned (.bool true) ∧ Below W.heap.size W w' := by
  refine calls_cv (M := []) (n := 32) [.tmp 0] rfl Try.func13 rfl rfl (Nat.le_of_ble_eq_true rfl) (St.nil _ _) ?_
  refine cv_seq_k fun K hK => ?_
  refine cv_region_then rfl ?_
  simp -implicitDefEqProofs (disch := first | omega | decide) only [seval, -Int.reducePow, -Nat.reducePow, cC, pv, binv]
  refine hK _ _ ?_
  clear hK K
  refine cv_seq_k fun K hK => ?_
  refine cv_region_then rfl ?_
  simp -implicitDefEqProofs (disch := first | omega | decide) only [seval, -Int.reducePow, -Nat.reducePow, cC, pv, binv]
  intro b hb
  refine callV_row (fun A n c => .tuple #[.slice A n c, .int .i64 0]) (fun w hw => (by have := insert_good (some ⟨b, 0, none⟩) 2 2 [⟨0, 4⟩, ⟨10, 2⟩] ⟨4, 4⟩ w (Exts.of_blkL hw (.head _) rfl (by omega)) (by omega); rw [ex_awake] at this; exact this)) ?_
  intro A n c hl hA
  obtain rfl : n = 2 := by simp [exCells] at hl; omega
  simp -implicitDefEqProofs (disch := first | omega | decide) only [seval, -Int.reducePow, -Nat.reducePow, cC, pv, binv]
  refine hK _ _ ?_
  clear hK K
  obtain ⟨g, rfl, hg, hne⟩ : ∃ g, A = some ⟨g, 0, none⟩ ∧ (W.heap.size ≤ g ∨ g ∈ ([] : List Nat)) ∧ neB [Res.blk b 24 [.int .i64 0, .int .i64 4, .int .i64 10, .int .i64 2]] g := by
    rcases hA with ⟨_, h⟩ | h
    · omega
    · exact h
  have hne := hne.1
  refine cv_gen fun G1 hG => ?_
  have g1_1 := congrFun hG 1
  have g1_2 := congrFun hG 2
  clear hG
  try simp -implicitDefEqProofs (disch := first | omega | decide) only [seval, -Int.reducePow, -Nat.reducePow, cC, pv, binv] at g1_1 g1_2
  have g1 := And.intro g1_1 g1_2
  refine cv_seq_k fun K hK => ?_
  refine cv_region_then rfl ?_
  simp -implicitDefEqProofs (disch := first | omega | decide) only [seval, -Int.reducePow, -Nat.reducePow, cC, pv, binv, g1]
  refine ⟨_, ld_row (i := 0) (vs := [.int .i64 0, .int .i64 8]) (.head _) rfl rfl, fun tok htok => ?_⟩
  subst htok
  simp -implicitDefEqProofs (disch := first | omega | decide) only [seval, -Int.reducePow, -Nat.reducePow, cC, pv, binv, g1]
  refine ⟨_, ld_row (i := 2) (vs := [.int .i64 10, .int .i64 2]) (.head _) rfl rfl, fun tok htok => ?_⟩
  subst htok
  simp -implicitDefEqProofs (disch := first | omega | decide) only [seval, -Int.reducePow, -Nat.reducePow, cC, pv, binv, g1]
  refine hK _ _ ?_
  clear hK K
  refine cv_ret ⟨_, (by simp -implicitDefEqProofs (disch := first | omega | decide) only [seval, -Int.reducePow, -Nat.reducePow, cC, pv, binv, g1]; rfl), fun w hw => ?_⟩
  exact ⟨rfl, hw.below⟩
end Go.Proofs.Ytabjbghmldiokaa
