/- The arena laws' awake, and what a new arena gives out first. -/
import Derived.Test.YtfaanphjaghbpaaArNew
namespace Go.Proofs.Ytfaanphjaghbpaa
open Go.RowKit Go.Shelf
set_option linter.unusedVariables false
set_option linter.unusedSimpArgs false
set_option maxRecDepth 100000
namespace Ex
theorem comp_new {N : Nat} (h0 : 0 < N) (h1 : N ≤ 1048576) : (compF [] (N : Int)).1 = [⟨0, (N : Int)⟩] := by
  have hF := compF_eq (xs := []) (s := (N : Int)) (fun i hi => by simp at hi) (by omega) (by omega) (fun i hi => by simp at hi)
  rw [hF]
  have := comp_split [] (N : Int) 0 (Nat.le_refl _)
  simp only [List.length_nil, List.drop_nil] at this ⊢
  have h2 : compL 0 [] (N : Int) = [⟨0, (N : Int)⟩] := by unfold compL; rw [if_pos (by omega)]; simp
  rw [← h2, ← this]
  rfl
theorem find_new {N : Nat} {n : Int} (he : Sz.err n = 0) (hr : Sz.rnd n ≤ (N : Int)) (h0 : 0 < N) : findF [⟨0, (N : Int)⟩] n = (⟨0, Sz.rnd n⟩, 0) := by
  have hb : best (Sz.rnd n) [⟨0, (N : Int)⟩] = ⟨0, (N : Int)⟩ := by
    show bstep (Sz.rnd n) ⟨0, 0⟩ ⟨0, (N : Int)⟩ = _
    unfold bstep
    rw [if_pos ⟨hr, .inl rfl⟩]
  unfold findF
  rw [if_pos he, hb, if_neg (by dsimp only; omega)]
end Ex
theorem Inv_fr {N : Nat} {fr : List Ext} {tk : List (Int × Int)} (h : Ex.Inv (N : Int) [] fr tk) (h0 : 0 < N) : fr = [⟨0, (N : Int)⟩] := by
  rw [h.fr]
  exact Ex.comp_new h0 (by have := h.N1; omega)
set_option maxRecDepth 100000 in
theorem sArAw1 : type_of% (And.intro (And.intro (And.intro @eBox.eq_1 @exV.eq_1) (And.intro @alL.eq_1 @arL.eq_1)) (And.intro (And.intro @Nat.mul_one @wrap_in) (And.intro @cMp @cM))) := (And.intro (And.intro (And.intro @eBox.eq_1 @exV.eq_1) (And.intro @alL.eq_1 @arL.eq_1)) (And.intro (And.intro @Nat.mul_one @wrap_in) (And.intro @cMp @cM)))
theorem aw_find : Ex.findF [⟨0, 64⟩] 8 = (⟨0, 16⟩, 0) := by kernel_rfl
theorem arAwake_any (W : World) : Calls Try.prog 13 #[] W fun e w' => e = .returned (.bool true) ∧ Below W.heap.size W w' := by
  refine calls_cv (M := []) (n := 42) [.tmp 0] rfl Try.func13 rfl rfl (Nat.le_of_ble_eq_true rfl) (St.nil _ _) ?_
  refine cv_seq_k fun K hK => ?_
  refine cv_region_then rfl ?_
  simp -implicitDefEqProofs (disch := first | omega | decide) only [seval, -Int.reducePow, -Nat.reducePow, cC, pv, binv, sArAw1, undef]
  refine hK _ _ ?_
  clear hK K
  refine cv_seq_k fun K hK => ?_
  refine cv_region_then rfl ?_
  simp -implicitDefEqProofs (disch := first | omega | decide) only [seval, -Int.reducePow, -Nat.reducePow, cC, pv, binv, sArAw1, undef]
  refine callV_grp [] [] (by decide) (fun x : ArR => .tuple #[.pointer (some ⟨x.bR, 0, none⟩), .int .i64 0]) (fun x => arL x) (fun x => x.N = 64 ∧ x.bs = List.replicate 64 0 ∧ Ex.Inv (64 : Int) [] x.al.fr x.al.tk) (fun w hw hs => arNew_ok 64 w (by omega)) ?_
  rintro ⟨al, bR, bB, N, bs⟩ ⟨rfl, hbs, hI⟩
  dsimp only at hbs
  have hbl : bs.length = 64 := by rw [hbs]; rfl
  simp only [pickL, nth]
  simp -implicitDefEqProofs (disch := first | omega | decide) only [seval, -Int.reducePow, -Nat.reducePow, cC, pv, binv, sArAw1, undef]
  refine hK _ _ ?_
  clear hK K
  have hfr := Inv_fr (N := 64) hI (by omega)
  dsimp only at hI hfr
  refine cv_seq_k fun K hK => ?_
  refine cv_seq_k fun K hK => ?_
  refine cv_region_then rfl ?_
  simp -implicitDefEqProofs (disch := first | omega | decide) only [seval, -Int.reducePow, -Nat.reducePow, cC, pv, binv, sArAw1, undef]
  refine hK _ _ ?_
  clear hK K
  refine cv_cond ?_
  simp -implicitDefEqProofs (disch := first | omega | decide) only [seval, -Int.reducePow, -Nat.reducePow, cC, pv, binv, sArAw1, undef]
  refine cv_skip ?_
  try simp only [blockQ, thenQ]
  refine hK _ _ ?_
  clear hK K
  refine cv_seq_k fun K hK => ?_
  refine cv_region_then rfl ?_
  simp -implicitDefEqProofs (disch := first | omega | decide) only [seval, -Int.reducePow, -Nat.reducePow, cC, pv, binv, sArAw1, undef]
  refine callV_grp [0, 1, 2, 3, 4] [] (by decide) (fun _ : AlR => .tuple #[.agg #[.int .i64 0, .int .i64 16], .int .i64 0]) (fun y => arL ⟨y, bR, bB, 64, bs⟩) (fun y => y.bA = al.bA ∧ Ex.Inv (64 : Int) [⟨0, 16⟩] y.fr y.tk) (fun w hw hs => by
    refine (arAlloc_any ⟨al, bR, bB, 64, bs⟩ [] 8 w hs hI (by simp) hbl).mono ?_
    dsimp only
    rw [hfr]
    rintro e w' ⟨y, rfl, ⟨h1, -, h3⟩, h4⟩
    exact ⟨y, rfl, ⟨h1, h3 rfl⟩, h4⟩) ?_
  intro y hy
  simp only [pickL, nth]
  simp -implicitDefEqProofs (disch := first | omega | decide) only [seval, -Int.reducePow, -Nat.reducePow, cC, pv, binv, sArAw1, undef]
  intro b3 hb3 hf3
  refine hK _ _ ?_
  clear hK K
  refine cv_seq_k fun K hK => ?_
  refine cv_region_then rfl ?_
  simp -implicitDefEqProofs (disch := first | omega | decide) only [seval, -Int.reducePow, -Nat.reducePow, cC, pv, binv, sArAw1, undef]
  refine callV_grp [1, 2, 3, 4, 5] [0] (by decide) (fun _ : Unit => .int .i64 0) (fun _ => arL ⟨y, bR, bB, 64, splice bs 3 [2, 1]⟩) (fun _ => True) (fun w hw hs => by
    have := arStore_any ⟨y, bR, bB, 64, bs⟩ [⟨0, 16⟩] ⟨0, 16⟩ 3 2 258 w hs hy.2 (by simp) hbl (by omega)
    rw [show stErr [⟨0, 16⟩] ⟨0, 16⟩ 3 2 258 = 0 by decide] at this
    exact this) ?_
  intro _ _
  simp only [pickL, nth]
  simp -implicitDefEqProofs (disch := first | omega | decide) only [seval, -Int.reducePow, -Nat.reducePow, cC, pv, binv, sArAw1, undef]
  refine hK _ _ ?_
  clear hK K
  have hld : loadF (splice bs 3 [2, 1]) ⟨0, 16⟩ 4 1 0 = 1 := by subst hbs; decide
  refine cv_seq_k fun K hK => ?_
  refine cv_region_then rfl ?_
  simp -implicitDefEqProofs (disch := first | omega | decide) only [seval, -Int.reducePow, -Nat.reducePow, cC, pv, binv, sArAw1, undef]
  refine callV_ret (fun w hw => (by have := arLoad_any ⟨y, bR, bB, 64, splice bs 3 [2, 1]⟩ [⟨0, 16⟩] w ⟨0, 16⟩ 4 1 (ArW.of hw 0 1 2 3 4 rfl rfl rfl rfl rfl (by have := hy.2.frLen; simp at this; dsimp only; omega) (by rw [splice_len (by simp; omega)]; exact hbl) (by dsimp only; omega)) hy.2 (splice_lt (by subst hbs; decide) (by decide)); rw [show fErr [⟨0, 16⟩] ⟨0, 16⟩ 4 1 = 0 by decide, hld] at this; exact this)) ?_
  try simp -implicitDefEqProofs (disch := first | omega | decide) only [seval, -Int.reducePow, -Nat.reducePow, cC, pv, binv, sArAw1, undef]
  refine hK _ _ ?_
  clear hK K
  refine cv_seq_k fun K hK => ?_
  refine cv_region_then rfl ?_
  simp -implicitDefEqProofs (disch := first | omega | decide) only [seval, -Int.reducePow, -Nat.reducePow, cC, pv, binv, sArAw1, undef]
  refine hK _ _ ?_
  clear hK K
  refine cv_ret ⟨_, (by simp -implicitDefEqProofs (disch := first | omega | decide) only [seval, -Int.reducePow, -Nat.reducePow, cC, pv, binv, sArAw1, undef]; rfl), fun w hw => ?_⟩
  exact ⟨rfl, hw.below⟩
end Go.Proofs.Ytfaanphjaghbpaa
