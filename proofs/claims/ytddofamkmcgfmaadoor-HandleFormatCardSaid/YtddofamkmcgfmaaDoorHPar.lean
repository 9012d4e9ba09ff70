/- The word that a text is: the code's and the definition's. -/
import Derived.Test.YtddofamkmcgfmaaDoorHRPr
import Derived.Test.YtddofamkmcgfmaaDoorMore
namespace Go.Proofs.YtddofamkmcgfmaaDoor
open Go.RowKit Go.Shelf Go.Sort
set_option linter.unusedVariables false
set_option linter.unusedSimpArgs false
set_option maxRecDepth 100000
section
variable {P : Program} {M : List Nat} {W : World} {L L0 : List Res} {F : Fr}
theorem callV_bx {g : FuncId} {args : Array Value} {K : Bool → Value → List Res → Prop} (f : Nat → Value) (t : TypeId) (cs : List Value) (h : ∀ w, St M W L w → Calls P g args w fun e w' => e = .returned (f w.heap.size) ∧ w' = w.alloc (.cells cs.toArray t))
    (hk : ∀ b, W.heap.size ≤ b → fresh L b → K true (f b) (.blk b t cs :: L)) : CallV P M W g args L K := fun w hw => by
  refine (h w hw).mono ?_
  rintro e w' ⟨rfl, rfl⟩
  exact ⟨_, _, rfl, hw.alloc t cs, hk _ hw.pres.size (fresh_of hw)⟩
theorem xv_idx {d0 : Option Nat} {t e ty : TypeId} {n : Nat} (i : Nat) {x y : Operand} {pos : String} {af : Array Edge} {gd : Option (Nat × Bool)} {k : IntKind} (cs : Array Value) (v : Value) {K : Bool → Value → List Res → Prop} (ht : P.underlying t = some (.array n e)) (hz : ∀ w, (Go.sizeOf e).run P w = .ok 1 w) (ha : ∀ w, (isAgg e).run P w = .ok false w)
    (hx : ev F x = .agg cs) (hy : ev F y = .int k (i : Int)) (hi : i < n) (hv : cs[i]? = some v) (hK : K true v L) : XV P M W ⟨d0, .index t x y, ty, pos, af, gd⟩ F L K := fun w hw => ⟨_, _, w, exec_idx rfl ht hz ha hx hy hi hv, hw, hK⟩
theorem rx_neq0 {d0 : Option Nat} {t t' ty : TypeId} {x : Operand} {c : Value} {pos : String} {af : Array Edge} {gd : Option (Nat × Bool)} {K : Bool → Value → Prop} (ht : P.underlying t = some (.interface (P.methodsAt t))) (hx : ev F x = .nilIface) (hc : c = .nilIface)
    (hK : K true (.bool false)) : RX P M W ⟨d0, .binOp .neq t x (.const c) t', ty, pos, af, gd⟩ F L0 K := ⟨_, fun w _ => exec_neq0 rfl ht hx hc, fun tok htok => by subst htok; exact hK⟩
theorem rx_neq1 {d0 : Option Nat} {t t' ty : TypeId} {x : Operand} {c : Value} {u : TypeId} {q : Value} {pos : String} {af : Array Edge} {gd : Option (Nat × Bool)} {K : Bool → Value → Prop} (ht : P.underlying t = some (.interface (P.methodsAt t))) (hx : ev F x = .iface u q) (hc : c = .nilIface)
    (hK : K true (.bool true)) : RX P M W ⟨d0, .binOp .neq t x (.const c) t', ty, pos, af, gd⟩ F L0 K := ⟨_, fun w _ => exec_neq1 rfl ht hx hc, fun tok htok => by subst htok; exact hK⟩
end
theorem atoi_ex (p : List Nat) (hl : p.length ≤ 1000) (W : World) (hv : HV W) : Calls Tryd.prog 27 #[.string (bstr p)] W fun en w' => (∃ i : Int × Value, en = .returned (.tuple #[.int .i64 i.1, i.2]) ∧ AtR p i.1 i.2) ∧ Below W.heap.size W w' :=
  (atoi_any p hl W hv).mono (by rintro e w' ⟨i, h1, h2, h3⟩; exact ⟨⟨i, h1, h2⟩, h3⟩)
def prV : Option (Nat × Nat × Nat) → Value
  | none => .tuple #[.int .u64 0, .int .i64 29]
  | some p => .tuple #[.int .u64 ((p.2.2 : Int) * 72057594037927936 + (p.2.1 : Int) * 16777216 + (p.1 : Int)), .int .i64 0]
theorem bits_comm {a b : Nat} (ha : a < 18446744073709551616) (hb : b < 18446744073709551616) : bits .or .u64 (a : Int) (b : Int) = bits .or .u64 (b : Int) (a : Int) := by
  rw [bits_or_u64_nat _ _ ha hb, bits_or_u64_nat _ _ hb ha, Nat.or_comm]
theorem pk_bits2 {s g t : Nat} (hs : s < 16777216) (hg : g < 4294967296) (ht : t < 256) : ∃ U V R T : Nat, IntKind.u64.wrap ((g : Int) * 2 ^ 24) = (U : Int) ∧ IntKind.u64.wrap ((t : Int) * 2 ^ 56) = (V : Int) ∧
    bits .or .u64 (V : Int) (U : Int) = (R : Int) ∧ bits .or .u64 (R : Int) (s : Int) = (T : Int) ∧ (T : Int) = (t : Int) * 72057594037927936 + (g : Int) * 16777216 + (s : Int) := by
  refine ⟨_, _, g * 16777216 + t * 72057594037927936, s + (g + t * 4294967296) * 16777216, shl24 hg, shl56 ht, ?_, ?_, by omega⟩
  · rw [bits_comm (by omega) (by omega)]
    exact or56 (by omega) (by omega)
  · have e : g * 16777216 + t * 72057594037927936 = (g + t * 4294967296) * 16777216 := by omega
    rw [e, bits_comm (by omega) (by omega)]
    exact or24 hs (by omega)
theorem list3 {α : Type} {l : List α} (h : l.length = 3) : ∃ a b d, l = [a, b, d] := by
  match l, h with
  | [a, b, d], _ => exact ⟨a, b, d, rfl⟩
theorem spl_len (c : Nat) (k : Nat) : ∀ (l : List Nat), l.length ≤ k → ∀ p ∈ spl c l, p.length ≤ l.length := by
  induction k with
  | zero =>
    intro l hl p hp
    obtain rfl := List.length_eq_zero_iff.1 (Nat.le_zero.1 hl)
    simp [spl] at hp
    subst hp
    simp
  | succ k ih =>
    intro l hl p hp
    rcases spl_cut (c := c) l with h | ⟨a, b, rfl, h2⟩
    · rw [spl_none h] at hp
      simp at hp
      rw [hp]
      exact Nat.le_refl _
    · rw [spl_app b h2] at hp
      simp only [List.length_append, List.length_cons] at hl ⊢
      rcases List.mem_cons.1 hp with rfl | hp
      · omega
      · have := ih b (by omega) p hp
        omega
section
variable {l a b d : List Nat} (h : spl 47 l = [a, b, d])
include h
theorem prs_no (hn : (numF a 16777215).2 = false ∨ (numF b 4294967295).2 = false ∨ (numF d 255).2 = false) : prsF l = none := by
  unfold prsF
  rw [h]
  dsimp only
  rw [if_neg]
  rintro ⟨h1, h2, h3⟩
  rcases hn with h | h | h
  · rw [h] at h1; cases h1
  · rw [h] at h2; cases h2
  · rw [h] at h3; cases h3
theorem prs_yes (h1 : (numF a 16777215).2 = true) (h2 : (numF b 4294967295).2 = true) (h3 : (numF d 255).2 = true) : prsF l = some ((numF a 16777215).1, (numF b 4294967295).1, (numF d 255).1) := by
  unfold prsF
  rw [h]
  dsimp only
  rw [if_pos ⟨h1, h2, h3⟩]
end
set_option maxRecDepth 100000 in
theorem sHPar1 : type_of% (And.intro (And.intro (And.intro @slash_eq @bstr_app) (And.intro @u64w @i32w)) (And.intro (And.intro @u8w @empty_eq) (And.intro @bstr_size (And.intro @wrap_in @strs.eq_1)))) := (And.intro (And.intro (And.intro @slash_eq @bstr_app) (And.intro @u64w @i32w)) (And.intro (And.intro @u8w @empty_eq) (And.intro @bstr_size (And.intro @wrap_in @strs.eq_1))))
set_option maxHeartbeats 2000000 in
theorem rparse_any (l : List Nat) (hl : l.length ≤ 1000) (hb : ∀ x ∈ l, x < 256) (W : World) :
    Calls Tryd.prog 23 #[.string (bstr l)] W fun e w' => e = .returned (prV (prsF l)) ∧ Below W.heap.size W w' := by
  refine calls_cv (M := []) (n := 54) [.tmp 2, .tmp 3] rfl Tryd.func23 rfl rfl (Nat.le_of_ble_eq_true rfl) (St.nil _ _) ?_
  refine cv_seq_k fun K hK => ?_
  refine cv_region_then rfl ?_
  simp -implicitDefEqProofs (disch := first | omega | decide) only [seval, -Int.reducePow, -Nat.reducePow, cC, pv, binv, sHPar1, undef, Int.toNat_natCast, List.map_cons, List.map_nil]
  refine hK _ _ ?_
  clear hK K
  refine cv_seq_k fun K hK => ?_
  refine cv_region_then rfl ?_
  simp -implicitDefEqProofs (disch := first | omega | decide) only [seval, -Int.reducePow, -Nat.reducePow, cC, pv, binv, sHPar1, undef, Int.toNat_natCast, List.map_cons, List.map_nil]
  refine callV_row (fun A n c => .slice A n c) (fun w hw => rsplit_any l hl hb w) ?_
  intro A n c hl2 hr2
  have hn : (spl 47 l).length = n := by simpa [strs] using hl2
  clear hl2 hr2
  simp -implicitDefEqProofs (disch := first | omega | decide) only [seval, -Int.reducePow, -Nat.reducePow, cC, pv, binv, sHPar1, undef, Int.toNat_natCast, List.map_cons, List.map_nil]
  refine hK _ _ ?_
  clear hK K
  refine cv_gen fun G1 hG => ?_
  have g1_4 := congrFun hG 4
  clear hG
  try simp -implicitDefEqProofs (disch := first | omega | decide) only [seval, -Int.reducePow, -Nat.reducePow, cC, pv, binv, sHPar1, undef, Int.toNat_natCast, List.map_cons, List.map_nil] at g1_4
  have g1 := g1_4
  refine cv_seq_k fun K hK => ?_
  refine cv_seq_k fun K hK => ?_
  refine cv_region_then rfl ?_
  simp -implicitDefEqProofs (disch := first | omega | decide) only [seval, -Int.reducePow, -Nat.reducePow, cC, pv, binv, sHPar1, undef, Int.toNat_natCast, List.map_cons, List.map_nil, g1]
  refine hK _ _ ?_
  clear hK K
  refine cv_cond ?_
  simp -implicitDefEqProofs (disch := first | omega | decide) only [seval, -Int.reducePow, -Nat.reducePow, cC, pv, binv, sHPar1, undef, Int.toNat_natCast, List.map_cons, List.map_nil, g1]
  refine ⟨fun hc => ?_, fun hc => ?_⟩
  · have h3 : ¬ n = 3 := by
      have : ¬ ((n : Nat) : Int) = 3 := by simpa using hc
      omega
    refine cv_seq_k fun K hK => ?_
    refine cv_region_then rfl ?_
    simp -implicitDefEqProofs (disch := first | omega | decide) only [seval, -Int.reducePow, -Nat.reducePow, cC, pv, binv, sHPar1, undef, Int.toNat_natCast, List.map_cons, List.map_nil, g1]
    refine hK _ _ ?_
    clear hK K
    refine cv_ret ⟨_, (by simp -implicitDefEqProofs (disch := first | omega | decide) only [seval, -Int.reducePow, -Nat.reducePow, cC, pv, binv, sHPar1, undef, Int.toNat_natCast, List.map_cons, List.map_nil, g1]; rfl), fun w hw => ?_⟩
    exact ⟨by rw [prsF_len (by omega)]; rfl, hw.below⟩
  · have h3 : n = 3 := by
      have : ((n : Nat) : Int) = 3 := by simpa using hc
      omega
    subst h3
    obtain ⟨a, b, d, h⟩ := list3 hn
    have hlA := spl_len 47 _ l (Nat.le_refl _)
    have hmA := spl_mem (c := 47) _ l (Nat.le_refl _)
    rw [h] at hlA hmA
    have la := hlA a (by simp)
    have lb := hlA b (by simp)
    have ld := hlA d (by simp)
    have ba : ∀ x ∈ a, x < 256 := fun x hx => hb x (hmA a (by simp) x hx)
    have bb : ∀ x ∈ b, x < 256 := fun x hx => hb x (hmA b (by simp) x hx)
    have bd : ∀ x ∈ d, x < 256 := fun x hx => hb x (hmA d (by simp) x hx)
    clear hlA hmA
    rw [h]
    refine cv_skip ?_
    try simp only [blockQ, thenQ]
    refine hK _ _ ?_
    clear hK K
    refine cv_rowA 0 rfl (by omega) fun g hAA hg hNN => ?_
    subst hAA
    simp only [List.eraseIdx_cons_zero, List.eraseIdx_cons_succ, neB_nil, neB_blk, neB_row, neB_snap, and_true, List.not_mem_nil, or_false, sHPar1, undef, Int.toNat_natCast, List.map_cons, List.map_nil] at hNN hg
    replace hg := And.intro hg hNN
    clear hNN
    refine cv_seq_k fun K hK => ?_
    refine cv_region_then rfl ?_
    simp -implicitDefEqProofs (disch := first | omega | decide) only [seval, -Int.reducePow, -Nat.reducePow, cC, pv, binv, sHPar1, undef, Int.toNat_natCast, List.map_cons, List.map_nil, g1]
    refine ⟨_, ld_row1 (i := 0) (v := .string (bstr a)) (.head _) rfl rfl, fun tok htok => ?_⟩
    subst htok
    simp -implicitDefEqProofs (disch := first | omega | decide) only [seval, -Int.reducePow, -Nat.reducePow, cC, pv, binv, sHPar1, undef, Int.toNat_natCast, List.map_cons, List.map_nil, g1]
    refine callV_ret (fun w hw => rnum_any a (by omega) ba 16777215 (by omega) w) ?_
    try simp -implicitDefEqProofs (disch := first | omega | decide) only [seval, -Int.reducePow, -Nat.reducePow, cC, pv, binv, sHPar1, undef, Int.toNat_natCast, List.map_cons, List.map_nil, g1]
    refine hK _ _ ?_
    clear hK K
    refine cv_seq_k fun K hK => ?_
    refine cv_region_then rfl ?_
    simp -implicitDefEqProofs (disch := first | omega | decide) only [seval, -Int.reducePow, -Nat.reducePow, cC, pv, binv, sHPar1, undef, Int.toNat_natCast, List.map_cons, List.map_nil, g1]
    refine ⟨_, ld_row1 (i := 1) (v := .string (bstr b)) (.head _) rfl rfl, fun tok htok => ?_⟩
    subst htok
    simp -implicitDefEqProofs (disch := first | omega | decide) only [seval, -Int.reducePow, -Nat.reducePow, cC, pv, binv, sHPar1, undef, Int.toNat_natCast, List.map_cons, List.map_nil, g1]
    refine callV_ret (fun w hw => rnum_any b (by omega) bb 4294967295 (by omega) w) ?_
    try simp -implicitDefEqProofs (disch := first | omega | decide) only [seval, -Int.reducePow, -Nat.reducePow, cC, pv, binv, sHPar1, undef, Int.toNat_natCast, List.map_cons, List.map_nil, g1]
    refine hK _ _ ?_
    clear hK K
    refine cv_seq_k fun K hK => ?_
    refine cv_region_then rfl ?_
    simp -implicitDefEqProofs (disch := first | omega | decide) only [seval, -Int.reducePow, -Nat.reducePow, cC, pv, binv, sHPar1, undef, Int.toNat_natCast, List.map_cons, List.map_nil, g1]
    refine ⟨_, ld_row1 (i := 2) (v := .string (bstr d)) (.head _) rfl rfl, fun tok htok => ?_⟩
    subst htok
    simp -implicitDefEqProofs (disch := first | omega | decide) only [seval, -Int.reducePow, -Nat.reducePow, cC, pv, binv, sHPar1, undef, Int.toNat_natCast, List.map_cons, List.map_nil, g1]
    refine callV_ret (fun w hw => rnum_any d (by omega) bd 255 (by omega) w) ?_
    try simp -implicitDefEqProofs (disch := first | omega | decide) only [seval, -Int.reducePow, -Nat.reducePow, cC, pv, binv, sHPar1, undef, Int.toNat_natCast, List.map_cons, List.map_nil, g1]
    refine hK _ _ ?_
    clear hK K
    refine cv_gen fun G2 hG => ?_
    have g2_5 := congrFun hG 5
    have g2_6 := congrFun hG 6
    have g2_7 := congrFun hG 7
    have g2_8 := congrFun hG 8
    have g2_9 := congrFun hG 9
    have g2_10 := congrFun hG 10
    clear hG
    try simp -implicitDefEqProofs (disch := first | omega | decide) only [seval, -Int.reducePow, -Nat.reducePow, cC, pv, binv, sHPar1, undef, Int.toNat_natCast, List.map_cons, List.map_nil, g1] at g2_5 g2_6 g2_7 g2_8 g2_9 g2_10
    have g2 := And.intro g2_5 (And.intro g2_6 (And.intro g2_7 (And.intro g2_8 (And.intro g2_9 g2_10))))
    refine cv_seq_k fun K hK => ?_
    refine cv_seq_k fun K hK => ?_
    refine cv_region_then rfl ?_
    cases ha : (numF a 16777215).2 with
    | false =>
      simp -implicitDefEqProofs (disch := first | omega | decide) only [seval, -Int.reducePow, -Nat.reducePow, cC, pv, binv, sHPar1, undef, Int.toNat_natCast, List.map_cons, List.map_nil, ha, g2]
      refine hK _ _ ?_
      clear hK K
      refine cv_cond ?_
      simp -implicitDefEqProofs (disch := first | omega | decide) only [seval, -Int.reducePow, -Nat.reducePow, cC, pv, binv, sHPar1, undef, Int.toNat_natCast, List.map_cons, List.map_nil, g2]
      refine cv_seq_k fun K hK => ?_
      refine cv_region_then rfl ?_
      simp -implicitDefEqProofs (disch := first | omega | decide) only [seval, -Int.reducePow, -Nat.reducePow, cC, pv, binv, sHPar1, undef, Int.toNat_natCast, List.map_cons, List.map_nil, g2]
      refine hK _ _ ?_
      clear hK K
      refine cv_ret ⟨_, (by simp -implicitDefEqProofs (disch := first | omega | decide) only [seval, -Int.reducePow, -Nat.reducePow, cC, pv, binv, sHPar1, undef, Int.toNat_natCast, List.map_cons, List.map_nil, g2]; rfl), fun w hw => ?_⟩
      exact ⟨by rw [prs_no h (.inl ha)]; rfl, hw.below⟩
    | true =>
      cases hb2 : (numF b 4294967295).2 with
      | false =>
        simp -implicitDefEqProofs (disch := first | omega | decide) only [seval, -Int.reducePow, -Nat.reducePow, cC, pv, binv, sHPar1, undef, Int.toNat_natCast, List.map_cons, List.map_nil, ha, hb2, g2]
        refine hK _ _ ?_
        clear hK K
        refine cv_cond ?_
        simp -implicitDefEqProofs (disch := first | omega | decide) only [seval, -Int.reducePow, -Nat.reducePow, cC, pv, binv, sHPar1, undef, Int.toNat_natCast, List.map_cons, List.map_nil, g2]
        refine cv_seq_k fun K hK => ?_
        refine cv_region_then rfl ?_
        simp -implicitDefEqProofs (disch := first | omega | decide) only [seval, -Int.reducePow, -Nat.reducePow, cC, pv, binv, sHPar1, undef, Int.toNat_natCast, List.map_cons, List.map_nil, g2]
        refine hK _ _ ?_
        clear hK K
        refine cv_ret ⟨_, (by simp -implicitDefEqProofs (disch := first | omega | decide) only [seval, -Int.reducePow, -Nat.reducePow, cC, pv, binv, sHPar1, undef, Int.toNat_natCast, List.map_cons, List.map_nil, g2]; rfl), fun w hw => ?_⟩
        exact ⟨by rw [prs_no h (.inr (.inl hb2))]; rfl, hw.below⟩
      | true =>
        cases hd2 : (numF d 255).2 with
        | false =>
          simp -implicitDefEqProofs (disch := first | omega | decide) only [seval, -Int.reducePow, -Nat.reducePow, cC, pv, binv, sHPar1, undef, Int.toNat_natCast, List.map_cons, List.map_nil, ha, hb2, hd2, g2]
          refine hK _ _ ?_
          clear hK K
          refine cv_cond ?_
          simp -implicitDefEqProofs (disch := first | omega | decide) only [seval, -Int.reducePow, -Nat.reducePow, cC, pv, binv, sHPar1, undef, Int.toNat_natCast, List.map_cons, List.map_nil, g2]
          refine cv_seq_k fun K hK => ?_
          refine cv_region_then rfl ?_
          simp -implicitDefEqProofs (disch := first | omega | decide) only [seval, -Int.reducePow, -Nat.reducePow, cC, pv, binv, sHPar1, undef, Int.toNat_natCast, List.map_cons, List.map_nil, g2]
          refine hK _ _ ?_
          clear hK K
          refine cv_ret ⟨_, (by simp -implicitDefEqProofs (disch := first | omega | decide) only [seval, -Int.reducePow, -Nat.reducePow, cC, pv, binv, sHPar1, undef, Int.toNat_natCast, List.map_cons, List.map_nil, g2]; rfl), fun w hw => ?_⟩
          exact ⟨by rw [prs_no h (.inr (.inr hd2))]; rfl, hw.below⟩
        | true =>
          have q1 := (numF_inv ha).2
          have q2 := (numF_inv hb2).2
          have q3 := (numF_inv hd2).2
          have hp := prs_yes h ha hb2 hd2
          obtain ⟨U, V, R, T, e4, e5, e6, e7, e8⟩ := pk_bits2 (s := (numF a 16777215).1) (g := (numF b 4294967295).1) (t := (numF d 255).1) (by omega) (by omega) (by omega)
          simp -implicitDefEqProofs (disch := first | omega | decide) only [seval, -Int.reducePow, -Nat.reducePow, cC, pv, binv, sHPar1, undef, Int.toNat_natCast, List.map_cons, List.map_nil, ha, hb2, hd2, g2]
          refine hK _ _ ?_
          clear hK K
          refine cv_cond ?_
          simp -implicitDefEqProofs (disch := first | omega | decide) only [seval, -Int.reducePow, -Nat.reducePow, cC, pv, binv, sHPar1, undef, Int.toNat_natCast, List.map_cons, List.map_nil, g2]
          refine cv_skip ?_
          try simp only [blockQ, thenQ]
          refine hK _ _ ?_
          clear hK K
          refine cv_seq_k fun K hK => ?_
          refine cv_region_then rfl ?_
          simp -implicitDefEqProofs (disch := first | omega | decide) only [seval, -Int.reducePow, -Nat.reducePow, cC, pv, binv, sHPar1, undef, Int.toNat_natCast, List.map_cons, List.map_nil, e4, e5, e6, e7, IntKind.bits, g2]
          refine hK _ _ ?_
          clear hK K
          refine cv_ret ⟨_, (by simp -implicitDefEqProofs (disch := first | omega | decide) only [seval, -Int.reducePow, -Nat.reducePow, cC, pv, binv, sHPar1, undef, Int.toNat_natCast, List.map_cons, List.map_nil, g2]; rfl), fun w hw => ?_⟩
          exact ⟨by rw [hp, e8]; rfl, hw.below⟩
set_option maxHeartbeats 4000000 in
theorem parse_any (l : List Nat) (hl : l.length ≤ 1000) (hb : ∀ x ∈ l, x < 256) (W : World) (hv : HV W) :
    Calls Tryd.prog 21 #[.string (bstr l)] W fun e w' => e = .returned (prV (prsF l)) ∧ Below W.heap.size W w' := by
  obtain ⟨N, hN⟩ : ∃ N, (spl 47 l).length = N := ⟨_, rfl⟩
  refine calls_cv (M := []) (n := 59) [.tmp 2, .tmp 3] rfl Tryd.func21 rfl rfl (Nat.le_of_ble_eq_true rfl) (St.nil _ _) ?_
  refine cv_seq_k fun K hK => ?_
  refine cv_region_then rfl ?_
  simp -implicitDefEqProofs (disch := first | omega | decide) only [seval, -Int.reducePow, -Nat.reducePow, cC, pv, binv, sHPar1, undef, Int.toNat_natCast, List.map_cons, List.map_nil]
  refine hK _ _ ?_
  clear hK K
  refine cv_seq_k fun K hK => ?_
  refine cv_region_then rfl ?_
  simp -implicitDefEqProofs (disch := first | omega | decide) only [seval, -Int.reducePow, -Nat.reducePow, cC, pv, binv, sHPar1, undef, Int.toNat_natCast, List.map_cons, List.map_nil]
  refine callV_bx (fun b => .slice (some ⟨b, 0, none⟩) N N) 9 (strs (spl 47 l)) (fun w hw => by have := split_any l hl hb w (hv.at hw); rw [hN] at this; exact this) ?_
  intro b4 hb4 hf4
  simp -implicitDefEqProofs (disch := first | omega | decide) only [seval, -Int.reducePow, -Nat.reducePow, cC, pv, binv, sHPar1, undef, Int.toNat_natCast, List.map_cons, List.map_nil]
  refine hK _ _ ?_
  clear hK K
  refine cv_gen fun G3 hG => ?_
  have g3_4 := congrFun hG 4
  clear hG
  try simp -implicitDefEqProofs (disch := first | omega | decide) only [seval, -Int.reducePow, -Nat.reducePow, cC, pv, binv, sHPar1, undef, Int.toNat_natCast, List.map_cons, List.map_nil] at g3_4
  have g3 := g3_4
  refine cv_seq_k fun K hK => ?_
  refine cv_seq_k fun K hK => ?_
  refine cv_region_then rfl ?_
  simp -implicitDefEqProofs (disch := first | omega | decide) only [seval, -Int.reducePow, -Nat.reducePow, cC, pv, binv, sHPar1, undef, Int.toNat_natCast, List.map_cons, List.map_nil, g3]
  refine hK _ _ ?_
  clear hK K
  refine cv_cond ?_
  simp -implicitDefEqProofs (disch := first | omega | decide) only [seval, -Int.reducePow, -Nat.reducePow, cC, pv, binv, sHPar1, undef, Int.toNat_natCast, List.map_cons, List.map_nil, g3]
  refine ⟨fun hc => ?_, fun hc => ?_⟩
  · have h3 : ¬ N = 3 := by
      have : ¬ ((N : Nat) : Int) = 3 := by simpa using hc
      omega
    refine cv_seq_k fun K hK => ?_
    refine cv_region_then rfl ?_
    simp -implicitDefEqProofs (disch := first | omega | decide) only [seval, -Int.reducePow, -Nat.reducePow, cC, pv, binv, sHPar1, undef, Int.toNat_natCast, List.map_cons, List.map_nil, g3]
    refine hK _ _ ?_
    clear hK K
    refine cv_ret ⟨_, (by simp -implicitDefEqProofs (disch := first | omega | decide) only [seval, -Int.reducePow, -Nat.reducePow, cC, pv, binv, sHPar1, undef, Int.toNat_natCast, List.map_cons, List.map_nil, g3]; rfl), fun w hw => ?_⟩
    exact ⟨by rw [prsF_len (by omega)]; rfl, hw.below⟩
  · have h3 : N = 3 := by
      have : ((N : Nat) : Int) = 3 := by simpa using hc
      omega
    subst h3
    obtain ⟨a, b, d, h⟩ := list3 hN
    have hlA := spl_len 47 _ l (Nat.le_refl _)
    have hmA := spl_mem (c := 47) _ l (Nat.le_refl _)
    rw [h] at hlA hmA
    have la := hlA a (by simp)
    have lb := hlA b (by simp)
    have ld := hlA d (by simp)
    have ba : ∀ x ∈ a, x < 256 := fun x hx => hb x (hmA a (by simp) x hx)
    have bb : ∀ x ∈ b, x < 256 := fun x hx => hb x (hmA b (by simp) x hx)
    have bd : ∀ x ∈ d, x < 256 := fun x hx => hb x (hmA d (by simp) x hx)
    clear hlA hmA
    rw [h]
    refine cv_skip ?_
    try simp only [blockQ, thenQ]
    refine hK _ _ ?_
    clear hK K
    refine cv_seq_k fun K hK => ?_
    refine cv_region_then rfl ?_
    simp -implicitDefEqProofs (disch := first | omega | decide) only [seval, -Int.reducePow, -Nat.reducePow, cC, pv, binv, sHPar1, undef, Int.toNat_natCast, List.map_cons, List.map_nil, g3]
    intro b5 hb5 hf5
    refine hK _ _ ?_
    clear hK K
    refine cv_seq_k fun K hK => ?_
    refine cv_seq_k fun K hK => ?_
    refine cv_region_then rfl ?_
    simp -implicitDefEqProofs (disch := first | omega | decide) only [seval, -Int.reducePow, -Nat.reducePow, cC, pv, binv, sHPar1, undef, Int.toNat_natCast, List.map_cons, List.map_nil, g3]
    refine hK _ _ ?_
    clear hK K
    refine cv_gen fun G4 hG => ?_
    have g4_4 := congrFun hG 4
    have g4_5 := congrFun hG 5
    have g4_15 := congrFun hG 15
    have g4_16 := congrFun hG 16
    clear hG
    try simp -implicitDefEqProofs (disch := first | omega | decide) only [seval, -Int.reducePow, -Nat.reducePow, cC, pv, binv, sHPar1, undef, Int.toNat_natCast, List.map_cons, List.map_nil, g3] at g4_4 g4_5 g4_15 g4_16
    have g4 := And.intro g4_4 (And.intro g4_5 (And.intro g4_15 g4_16))
    refine cv_block ?_
    refine cv_times 4 ?_
    unfold timesV
    refine cv_seq_k fun K hK => ?_
    refine cv_region_then rfl ?_
    simp -implicitDefEqProofs (disch := first | omega | decide) only [seval, -Int.reducePow, -Nat.reducePow, cC, pv, binv, sHPar1, undef, Int.toNat_natCast, List.map_cons, List.map_nil, g4]
    refine hK _ _ ?_
    clear hK K
    refine cv_seq_k fun K hK => ?_
    refine cv_cond ?_
    simp -implicitDefEqProofs (disch := first | omega | decide) only [seval, -Int.reducePow, -Nat.reducePow, cC, pv, binv, sHPar1, undef, Int.toNat_natCast, List.map_cons, List.map_nil, g4]
    refine cv_skip ?_
    try simp only [blockQ, thenQ]
    refine hK _ _ ?_
    clear hK K
    refine cv_seq_k fun K hK => ?_
    refine cv_block ?_
    refine cv_seq_k fun K hK => ?_
    refine cv_region_then rfl ?_
    simp -implicitDefEqProofs (disch := first | omega | decide) only [seval, -Int.reducePow, -Nat.reducePow, cC, pv, binv, sHPar1, undef, Int.toNat_natCast, List.map_cons, List.map_nil, g4]
    refine xv_idx (n := 3) (e := 3) 0 #[.int .i64 16777215, .int .i64 4294967295, .int .i64 255] (.int .i64 16777215) (by kernel_rfl) Tryd.sizeOf3 Tryd.isAgg3 (by simp -implicitDefEqProofs (disch := first | omega | decide) only [seval, -Int.reducePow, -Nat.reducePow, cC, pv, binv, sHPar1, undef, Int.toNat_natCast, List.map_cons, List.map_nil, g4]) (by simp -implicitDefEqProofs (disch := first | omega | decide) only [seval, -Int.reducePow, -Nat.reducePow, cC, pv, binv, sHPar1, undef, Int.toNat_natCast, List.map_cons, List.map_nil, g4]; rfl) (by decide) rfl ?_
    simp -implicitDefEqProofs (disch := first | omega | decide) only [seval, -Int.reducePow, -Nat.reducePow, cC, pv, binv, sHPar1, undef, Int.toNat_natCast, List.map_cons, List.map_nil, g4]
    refine hK _ _ ?_
    clear hK K
    refine cv_seq_k fun K hK => ?_
    refine cv_region_then rfl ?_
    simp -implicitDefEqProofs (disch := first | omega | decide) only [seval, -Int.reducePow, -Nat.reducePow, cC, pv, binv, sHPar1, undef, Int.toNat_natCast, List.map_cons, List.map_nil, g4]
    refine callV_ex (fun i : Int × Value => .tuple #[.int .i64 i.1, i.2]) (fun i => AtR a i.1 i.2) (fun w hw => atoi_ex a (by omega) w (hv.at hw)) ?_
    rintro ⟨x0, er0⟩ hAt0
    dsimp only at hAt0
    simp -implicitDefEqProofs (disch := first | omega | decide) only [seval, -Int.reducePow, -Nat.reducePow, cC, pv, binv, sHPar1, undef, Int.toNat_natCast, List.map_cons, List.map_nil, g4]
    refine hK _ _ ?_
    clear hK K
    refine cv_seq_k fun K hK => ?_
    refine cv_seq_k fun K hK => ?_
    refine cv_draw [(true, 0), (true, 1), (true, 2), (true, 3), (true, 4), (true, 5), (true, 6), (true, 7), (true, 8), (true, 9), (true, 10), (true, 11), (true, 12), (true, 14), (true, 15), (true, 16), (true, 17), (false, 13), (true, 18), (true, 19)] [] mixA rfl (by kernel_rfl) (by kernel_rfl) rfl rfl ?_
    rcases piece_ok (most := 16777215) (by omega) hAt0 with ⟨hn0, rfl, rfl, hd0, hle0⟩ | ⟨hn0, hbad0⟩
    rotate_left
    · rcases hbad0 with ⟨u, q, rfl⟩ | ⟨rfl, hx | hx | ⟨v, rfl, hvm, hdv⟩⟩
      · simp -implicitDefEqProofs (disch := first | omega | decide) only [seval, -Int.reducePow, -Nat.reducePow, cC, pv, binv, sHPar1, undef, Int.toNat_natCast, List.map_cons, List.map_nil, g4]
        refine rx_neq1 (by kernel_rfl) (by simp -implicitDefEqProofs (disch := first | omega | decide) only [seval, -Int.reducePow, -Nat.reducePow, cC, pv, binv, sHPar1, undef, Int.toNat_natCast, List.map_cons, List.map_nil, g4]; rfl) rfl ?_
        simp -implicitDefEqProofs (disch := first | omega | decide) only [seval, -Int.reducePow, -Nat.reducePow, cC, pv, binv, sHPar1, undef, Int.toNat_natCast, List.map_cons, List.map_nil, g4]
        refine hK _ _ ?_
        clear hK K
        refine cv_cond ?_
        simp -implicitDefEqProofs (disch := first | omega | decide) only [seval, -Int.reducePow, -Nat.reducePow, cC, pv, binv, sHPar1, undef, Int.toNat_natCast, List.map_cons, List.map_nil, g4]
        refine cv_seq_k fun K hK => ?_
        refine cv_region_then rfl ?_
        simp -implicitDefEqProofs (disch := first | omega | decide) only [seval, -Int.reducePow, -Nat.reducePow, cC, pv, binv, sHPar1, undef, Int.toNat_natCast, List.map_cons, List.map_nil, g4]
        refine hK _ _ ?_
        clear hK K
        refine cv_ret ⟨_, (by simp -implicitDefEqProofs (disch := first | omega | decide) only [seval, -Int.reducePow, -Nat.reducePow, cC, pv, binv, sHPar1, undef, Int.toNat_natCast, List.map_cons, List.map_nil, g4]; rfl), fun w hw => ?_⟩
        exact ⟨by rw [prs_no h (.inl hn0)]; rfl, hw.below⟩
      · have d1 : decide (x0 < 0) = true := decide_eq_true hx
        simp -implicitDefEqProofs (disch := first | omega | decide) only [seval, -Int.reducePow, -Nat.reducePow, cC, pv, binv, sHPar1, undef, Int.toNat_natCast, List.map_cons, List.map_nil, g4]
        refine rx_neq0 (by kernel_rfl) (by simp -implicitDefEqProofs (disch := first | omega | decide) only [seval, -Int.reducePow, -Nat.reducePow, cC, pv, binv, sHPar1, undef, Int.toNat_natCast, List.map_cons, List.map_nil, g4]) rfl ?_
        simp -implicitDefEqProofs (disch := first | omega | decide) only [seval, -Int.reducePow, -Nat.reducePow, cC, pv, binv, sHPar1, undef, Int.toNat_natCast, List.map_cons, List.map_nil, d1, g4]
        refine hK _ _ ?_
        clear hK K
        refine cv_cond ?_
        simp -implicitDefEqProofs (disch := first | omega | decide) only [seval, -Int.reducePow, -Nat.reducePow, cC, pv, binv, sHPar1, undef, Int.toNat_natCast, List.map_cons, List.map_nil, g4]
        refine cv_seq_k fun K hK => ?_
        refine cv_region_then rfl ?_
        simp -implicitDefEqProofs (disch := first | omega | decide) only [seval, -Int.reducePow, -Nat.reducePow, cC, pv, binv, sHPar1, undef, Int.toNat_natCast, List.map_cons, List.map_nil, g4]
        refine hK _ _ ?_
        clear hK K
        refine cv_ret ⟨_, (by simp -implicitDefEqProofs (disch := first | omega | decide) only [seval, -Int.reducePow, -Nat.reducePow, cC, pv, binv, sHPar1, undef, Int.toNat_natCast, List.map_cons, List.map_nil, g4]; rfl), fun w hw => ?_⟩
        exact ⟨by rw [prs_no h (.inl hn0)]; rfl, hw.below⟩
      · have d1 : decide (x0 < 0) = false := decide_eq_false (by omega)
        have d2 : decide ((16777215 : Int) < x0) = true := decide_eq_true hx
        simp -implicitDefEqProofs (disch := first | omega | decide) only [seval, -Int.reducePow, -Nat.reducePow, cC, pv, binv, sHPar1, undef, Int.toNat_natCast, List.map_cons, List.map_nil, g4]
        refine rx_neq0 (by kernel_rfl) (by simp -implicitDefEqProofs (disch := first | omega | decide) only [seval, -Int.reducePow, -Nat.reducePow, cC, pv, binv, sHPar1, undef, Int.toNat_natCast, List.map_cons, List.map_nil, g4]) rfl ?_
        simp -implicitDefEqProofs (disch := first | omega | decide) only [seval, -Int.reducePow, -Nat.reducePow, cC, pv, binv, sHPar1, undef, Int.toNat_natCast, List.map_cons, List.map_nil, d1, d2, g4]
        refine hK _ _ ?_
        clear hK K
        refine cv_cond ?_
        simp -implicitDefEqProofs (disch := first | omega | decide) only [seval, -Int.reducePow, -Nat.reducePow, cC, pv, binv, sHPar1, undef, Int.toNat_natCast, List.map_cons, List.map_nil, g4]
        refine cv_seq_k fun K hK => ?_
        refine cv_region_then rfl ?_
        simp -implicitDefEqProofs (disch := first | omega | decide) only [seval, -Int.reducePow, -Nat.reducePow, cC, pv, binv, sHPar1, undef, Int.toNat_natCast, List.map_cons, List.map_nil, g4]
        refine hK _ _ ?_
        clear hK K
        refine cv_ret ⟨_, (by simp -implicitDefEqProofs (disch := first | omega | decide) only [seval, -Int.reducePow, -Nat.reducePow, cC, pv, binv, sHPar1, undef, Int.toNat_natCast, List.map_cons, List.map_nil, g4]; rfl), fun w hw => ?_⟩
        exact ⟨by rw [prs_no h (.inl hn0)]; rfl, hw.below⟩
      · have d1 : decide ((v : Int) < 0) = false := decide_eq_false (by omega)
        have d2 : decide ((16777215 : Int) < (v : Int)) = false := decide_eq_false (by omega)
        have e9 : ((bstr (dec v)).toList == (bstr a).toList) = false := by rw [bstr_beq (fun x hx => by have := dec_dig _ _ hx; omega) ba]; exact decide_eq_false hdv
        simp -implicitDefEqProofs (disch := first | omega | decide) only [seval, -Int.reducePow, -Nat.reducePow, cC, pv, binv, sHPar1, undef, Int.toNat_natCast, List.map_cons, List.map_nil, g4]
        refine rx_neq0 (by kernel_rfl) (by simp -implicitDefEqProofs (disch := first | omega | decide) only [seval, -Int.reducePow, -Nat.reducePow, cC, pv, binv, sHPar1, undef, Int.toNat_natCast, List.map_cons, List.map_nil, g4]) rfl ?_
        simp -implicitDefEqProofs (disch := first | omega | decide) only [seval, -Int.reducePow, -Nat.reducePow, cC, pv, binv, sHPar1, undef, Int.toNat_natCast, List.map_cons, List.map_nil, d1, d2, g4]
        refine callV_ret (fun w hw => itoa_any v (by omega) w (hv.at hw)) ?_
        try simp -implicitDefEqProofs (disch := first | omega | decide) only [seval, -Int.reducePow, -Nat.reducePow, cC, pv, binv, sHPar1, undef, Int.toNat_natCast, List.map_cons, List.map_nil, e9, g4]
        refine hK _ _ ?_
        clear hK K
        refine cv_cond ?_
        simp -implicitDefEqProofs (disch := first | omega | decide) only [seval, -Int.reducePow, -Nat.reducePow, cC, pv, binv, sHPar1, undef, Int.toNat_natCast, List.map_cons, List.map_nil, g4]
        refine cv_seq_k fun K hK => ?_
        refine cv_region_then rfl ?_
        simp -implicitDefEqProofs (disch := first | omega | decide) only [seval, -Int.reducePow, -Nat.reducePow, cC, pv, binv, sHPar1, undef, Int.toNat_natCast, List.map_cons, List.map_nil, g4]
        refine hK _ _ ?_
        clear hK K
        refine cv_ret ⟨_, (by simp -implicitDefEqProofs (disch := first | omega | decide) only [seval, -Int.reducePow, -Nat.reducePow, cC, pv, binv, sHPar1, undef, Int.toNat_natCast, List.map_cons, List.map_nil, g4]; rfl), fun w hw => ?_⟩
        exact ⟨by rw [prs_no h (.inl hn0)]; rfl, hw.below⟩
    obtain ⟨v0, hv0⟩ : ∃ v, (numF a 16777215).1 = v := ⟨_, rfl⟩
    rw [hv0] at hd0 hle0
    have d1_0 : decide ((v0 : Int) < 0) = false := decide_eq_false (by omega)
    have d2_0 : decide ((16777215 : Int) < (v0 : Int)) = false := decide_eq_false (by omega)
    have e9_0 : ((bstr (dec v0)).toList == (bstr a).toList) = true := by rw [hd0]; exact beq_self_eq_true _
    simp -implicitDefEqProofs (disch := first | omega | decide) only [seval, -Int.reducePow, -Nat.reducePow, cC, pv, binv, sHPar1, undef, Int.toNat_natCast, List.map_cons, List.map_nil, g4]
    refine rx_neq0 (by kernel_rfl) (by simp -implicitDefEqProofs (disch := first | omega | decide) only [seval, -Int.reducePow, -Nat.reducePow, cC, pv, binv, sHPar1, undef, Int.toNat_natCast, List.map_cons, List.map_nil, g4]) rfl ?_
    simp -implicitDefEqProofs (disch := first | omega | decide) only [seval, -Int.reducePow, -Nat.reducePow, cC, pv, binv, sHPar1, undef, Int.toNat_natCast, List.map_cons, List.map_nil, hv0, d1_0, d2_0, g4]
    refine callV_ret (fun w hw => itoa_any v0 (by omega) w (hv.at hw)) ?_
    try simp -implicitDefEqProofs (disch := first | omega | decide) only [seval, -Int.reducePow, -Nat.reducePow, cC, pv, binv, sHPar1, undef, Int.toNat_natCast, List.map_cons, List.map_nil, hv0, e9_0, g4]
    refine hK _ _ ?_
    clear hK K
    refine cv_cond ?_
    simp -implicitDefEqProofs (disch := first | omega | decide) only [seval, -Int.reducePow, -Nat.reducePow, cC, pv, binv, sHPar1, undef, Int.toNat_natCast, List.map_cons, List.map_nil, g4]
    refine cv_skip ?_
    try simp only [blockQ, thenQ]
    refine hK _ _ ?_
    clear hK K
    refine cv_region_q rfl ?_
    simp -implicitDefEqProofs (disch := first | omega | decide) only [seval, -Int.reducePow, -Nat.reducePow, cC, pv, binv, sHPar1, undef, Int.toNat_natCast, List.map_cons, List.map_nil, g4]
    refine hK _ _ ?_
    clear hK K
    refine cv_region_then rfl ?_
    simp -implicitDefEqProofs (disch := first | omega | decide) only [seval, -Int.reducePow, -Nat.reducePow, cC, pv, binv, sHPar1, undef, Int.toNat_natCast, List.map_cons, List.map_nil, g4]
    unfold timesV
    refine cv_gen fun G5 hG => ?_
    have g5_4 := congrFun hG 4
    have g5_5 := congrFun hG 5
    have g5_15 := congrFun hG 15
    have g5_16 := congrFun hG 16
    clear hG
    try simp -implicitDefEqProofs (disch := first | omega | decide) only [seval, -Int.reducePow, -Nat.reducePow, cC, pv, binv, sHPar1, undef, Int.toNat_natCast, List.map_cons, List.map_nil, g4] at g5_4 g5_5 g5_15 g5_16
    have g5 := And.intro g5_4 (And.intro g5_5 (And.intro g5_15 g5_16))
    refine cv_seq_k fun K hK => ?_
    refine cv_region_then rfl ?_
    simp -implicitDefEqProofs (disch := first | omega | decide) only [seval, -Int.reducePow, -Nat.reducePow, cC, pv, binv, sHPar1, undef, Int.toNat_natCast, List.map_cons, List.map_nil, g5]
    refine hK _ _ ?_
    clear hK K
    refine cv_seq_k fun K hK => ?_
    refine cv_cond ?_
    simp -implicitDefEqProofs (disch := first | omega | decide) only [seval, -Int.reducePow, -Nat.reducePow, cC, pv, binv, sHPar1, undef, Int.toNat_natCast, List.map_cons, List.map_nil, g5]
    refine cv_skip ?_
    try simp only [blockQ, thenQ]
    refine hK _ _ ?_
    clear hK K
    refine cv_seq_k fun K hK => ?_
    refine cv_block ?_
    refine cv_seq_k fun K hK => ?_
    refine cv_region_then rfl ?_
    simp -implicitDefEqProofs (disch := first | omega | decide) only [seval, -Int.reducePow, -Nat.reducePow, cC, pv, binv, sHPar1, undef, Int.toNat_natCast, List.map_cons, List.map_nil, g5]
    refine xv_idx (n := 3) (e := 3) 1 #[.int .i64 16777215, .int .i64 4294967295, .int .i64 255] (.int .i64 4294967295) (by kernel_rfl) Tryd.sizeOf3 Tryd.isAgg3 (by simp -implicitDefEqProofs (disch := first | omega | decide) only [seval, -Int.reducePow, -Nat.reducePow, cC, pv, binv, sHPar1, undef, Int.toNat_natCast, List.map_cons, List.map_nil, g5]) (by simp -implicitDefEqProofs (disch := first | omega | decide) only [seval, -Int.reducePow, -Nat.reducePow, cC, pv, binv, sHPar1, undef, Int.toNat_natCast, List.map_cons, List.map_nil, g5]; rfl) (by decide) rfl ?_
    simp -implicitDefEqProofs (disch := first | omega | decide) only [seval, -Int.reducePow, -Nat.reducePow, cC, pv, binv, sHPar1, undef, Int.toNat_natCast, List.map_cons, List.map_nil, g5]
    refine hK _ _ ?_
    clear hK K
    refine cv_seq_k fun K hK => ?_
    refine cv_region_then rfl ?_
    simp -implicitDefEqProofs (disch := first | omega | decide) only [seval, -Int.reducePow, -Nat.reducePow, cC, pv, binv, sHPar1, undef, Int.toNat_natCast, List.map_cons, List.map_nil, g5]
    refine callV_ex (fun i : Int × Value => .tuple #[.int .i64 i.1, i.2]) (fun i => AtR b i.1 i.2) (fun w hw => atoi_ex b (by omega) w (hv.at hw)) ?_
    rintro ⟨x1, er1⟩ hAt1
    dsimp only at hAt1
    simp -implicitDefEqProofs (disch := first | omega | decide) only [seval, -Int.reducePow, -Nat.reducePow, cC, pv, binv, sHPar1, undef, Int.toNat_natCast, List.map_cons, List.map_nil, g5]
    refine hK _ _ ?_
    clear hK K
    refine cv_seq_k fun K hK => ?_
    refine cv_seq_k fun K hK => ?_
    refine cv_draw [(true, 0), (true, 1), (true, 2), (true, 3), (true, 4), (true, 5), (true, 6), (true, 7), (true, 8), (true, 9), (true, 10), (true, 11), (true, 12), (true, 14), (true, 15), (true, 16), (true, 17), (false, 13), (true, 18), (true, 19)] [] mixA rfl (by kernel_rfl) (by kernel_rfl) rfl rfl ?_
    rcases piece_ok (most := 4294967295) (by omega) hAt1 with ⟨hn1, rfl, rfl, hd1, hle1⟩ | ⟨hn1, hbad1⟩
    rotate_left
    · rcases hbad1 with ⟨u, q, rfl⟩ | ⟨rfl, hx | hx | ⟨v, rfl, hvm, hdv⟩⟩
      · simp -implicitDefEqProofs (disch := first | omega | decide) only [seval, -Int.reducePow, -Nat.reducePow, cC, pv, binv, sHPar1, undef, Int.toNat_natCast, List.map_cons, List.map_nil, g5]
        refine rx_neq1 (by kernel_rfl) (by simp -implicitDefEqProofs (disch := first | omega | decide) only [seval, -Int.reducePow, -Nat.reducePow, cC, pv, binv, sHPar1, undef, Int.toNat_natCast, List.map_cons, List.map_nil, g5]; rfl) rfl ?_
        simp -implicitDefEqProofs (disch := first | omega | decide) only [seval, -Int.reducePow, -Nat.reducePow, cC, pv, binv, sHPar1, undef, Int.toNat_natCast, List.map_cons, List.map_nil, g5]
        refine hK _ _ ?_
        clear hK K
        refine cv_cond ?_
        simp -implicitDefEqProofs (disch := first | omega | decide) only [seval, -Int.reducePow, -Nat.reducePow, cC, pv, binv, sHPar1, undef, Int.toNat_natCast, List.map_cons, List.map_nil, g5]
        refine cv_seq_k fun K hK => ?_
        refine cv_region_then rfl ?_
        simp -implicitDefEqProofs (disch := first | omega | decide) only [seval, -Int.reducePow, -Nat.reducePow, cC, pv, binv, sHPar1, undef, Int.toNat_natCast, List.map_cons, List.map_nil, g5]
        refine hK _ _ ?_
        clear hK K
        refine cv_ret ⟨_, (by simp -implicitDefEqProofs (disch := first | omega | decide) only [seval, -Int.reducePow, -Nat.reducePow, cC, pv, binv, sHPar1, undef, Int.toNat_natCast, List.map_cons, List.map_nil, g5]; rfl), fun w hw => ?_⟩
        exact ⟨by rw [prs_no h (.inr (.inl hn1))]; rfl, hw.below⟩
      · have d1 : decide (x1 < 0) = true := decide_eq_true hx
        simp -implicitDefEqProofs (disch := first | omega | decide) only [seval, -Int.reducePow, -Nat.reducePow, cC, pv, binv, sHPar1, undef, Int.toNat_natCast, List.map_cons, List.map_nil, g5]
        refine rx_neq0 (by kernel_rfl) (by simp -implicitDefEqProofs (disch := first | omega | decide) only [seval, -Int.reducePow, -Nat.reducePow, cC, pv, binv, sHPar1, undef, Int.toNat_natCast, List.map_cons, List.map_nil, g5]) rfl ?_
        simp -implicitDefEqProofs (disch := first | omega | decide) only [seval, -Int.reducePow, -Nat.reducePow, cC, pv, binv, sHPar1, undef, Int.toNat_natCast, List.map_cons, List.map_nil, d1, g5]
        refine hK _ _ ?_
        clear hK K
        refine cv_cond ?_
        simp -implicitDefEqProofs (disch := first | omega | decide) only [seval, -Int.reducePow, -Nat.reducePow, cC, pv, binv, sHPar1, undef, Int.toNat_natCast, List.map_cons, List.map_nil, g5]
        refine cv_seq_k fun K hK => ?_
        refine cv_region_then rfl ?_
        simp -implicitDefEqProofs (disch := first | omega | decide) only [seval, -Int.reducePow, -Nat.reducePow, cC, pv, binv, sHPar1, undef, Int.toNat_natCast, List.map_cons, List.map_nil, g5]
        refine hK _ _ ?_
        clear hK K
        refine cv_ret ⟨_, (by simp -implicitDefEqProofs (disch := first | omega | decide) only [seval, -Int.reducePow, -Nat.reducePow, cC, pv, binv, sHPar1, undef, Int.toNat_natCast, List.map_cons, List.map_nil, g5]; rfl), fun w hw => ?_⟩
        exact ⟨by rw [prs_no h (.inr (.inl hn1))]; rfl, hw.below⟩
      · have d1 : decide (x1 < 0) = false := decide_eq_false (by omega)
        have d2 : decide ((4294967295 : Int) < x1) = true := decide_eq_true hx
        simp -implicitDefEqProofs (disch := first | omega | decide) only [seval, -Int.reducePow, -Nat.reducePow, cC, pv, binv, sHPar1, undef, Int.toNat_natCast, List.map_cons, List.map_nil, g5]
        refine rx_neq0 (by kernel_rfl) (by simp -implicitDefEqProofs (disch := first | omega | decide) only [seval, -Int.reducePow, -Nat.reducePow, cC, pv, binv, sHPar1, undef, Int.toNat_natCast, List.map_cons, List.map_nil, g5]) rfl ?_
        simp -implicitDefEqProofs (disch := first | omega | decide) only [seval, -Int.reducePow, -Nat.reducePow, cC, pv, binv, sHPar1, undef, Int.toNat_natCast, List.map_cons, List.map_nil, d1, d2, g5]
        refine hK _ _ ?_
        clear hK K
        refine cv_cond ?_
        simp -implicitDefEqProofs (disch := first | omega | decide) only [seval, -Int.reducePow, -Nat.reducePow, cC, pv, binv, sHPar1, undef, Int.toNat_natCast, List.map_cons, List.map_nil, g5]
        refine cv_seq_k fun K hK => ?_
        refine cv_region_then rfl ?_
        simp -implicitDefEqProofs (disch := first | omega | decide) only [seval, -Int.reducePow, -Nat.reducePow, cC, pv, binv, sHPar1, undef, Int.toNat_natCast, List.map_cons, List.map_nil, g5]
        refine hK _ _ ?_
        clear hK K
        refine cv_ret ⟨_, (by simp -implicitDefEqProofs (disch := first | omega | decide) only [seval, -Int.reducePow, -Nat.reducePow, cC, pv, binv, sHPar1, undef, Int.toNat_natCast, List.map_cons, List.map_nil, g5]; rfl), fun w hw => ?_⟩
        exact ⟨by rw [prs_no h (.inr (.inl hn1))]; rfl, hw.below⟩
      · have d1 : decide ((v : Int) < 0) = false := decide_eq_false (by omega)
        have d2 : decide ((4294967295 : Int) < (v : Int)) = false := decide_eq_false (by omega)
        have e9 : ((bstr (dec v)).toList == (bstr b).toList) = false := by rw [bstr_beq (fun x hx => by have := dec_dig _ _ hx; omega) bb]; exact decide_eq_false hdv
        simp -implicitDefEqProofs (disch := first | omega | decide) only [seval, -Int.reducePow, -Nat.reducePow, cC, pv, binv, sHPar1, undef, Int.toNat_natCast, List.map_cons, List.map_nil, g5]
        refine rx_neq0 (by kernel_rfl) (by simp -implicitDefEqProofs (disch := first | omega | decide) only [seval, -Int.reducePow, -Nat.reducePow, cC, pv, binv, sHPar1, undef, Int.toNat_natCast, List.map_cons, List.map_nil, g5]) rfl ?_
        simp -implicitDefEqProofs (disch := first | omega | decide) only [seval, -Int.reducePow, -Nat.reducePow, cC, pv, binv, sHPar1, undef, Int.toNat_natCast, List.map_cons, List.map_nil, d1, d2, g5]
        refine callV_ret (fun w hw => itoa_any v (by omega) w (hv.at hw)) ?_
        try simp -implicitDefEqProofs (disch := first | omega | decide) only [seval, -Int.reducePow, -Nat.reducePow, cC, pv, binv, sHPar1, undef, Int.toNat_natCast, List.map_cons, List.map_nil, e9, g5]
        refine hK _ _ ?_
        clear hK K
        refine cv_cond ?_
        simp -implicitDefEqProofs (disch := first | omega | decide) only [seval, -Int.reducePow, -Nat.reducePow, cC, pv, binv, sHPar1, undef, Int.toNat_natCast, List.map_cons, List.map_nil, g5]
        refine cv_seq_k fun K hK => ?_
        refine cv_region_then rfl ?_
        simp -implicitDefEqProofs (disch := first | omega | decide) only [seval, -Int.reducePow, -Nat.reducePow, cC, pv, binv, sHPar1, undef, Int.toNat_natCast, List.map_cons, List.map_nil, g5]
        refine hK _ _ ?_
        clear hK K
        refine cv_ret ⟨_, (by simp -implicitDefEqProofs (disch := first | omega | decide) only [seval, -Int.reducePow, -Nat.reducePow, cC, pv, binv, sHPar1, undef, Int.toNat_natCast, List.map_cons, List.map_nil, g5]; rfl), fun w hw => ?_⟩
        exact ⟨by rw [prs_no h (.inr (.inl hn1))]; rfl, hw.below⟩
    obtain ⟨v1, hv1⟩ : ∃ v, (numF b 4294967295).1 = v := ⟨_, rfl⟩
    rw [hv1] at hd1 hle1
    have d1_1 : decide ((v1 : Int) < 0) = false := decide_eq_false (by omega)
    have d2_1 : decide ((4294967295 : Int) < (v1 : Int)) = false := decide_eq_false (by omega)
    have e9_1 : ((bstr (dec v1)).toList == (bstr b).toList) = true := by rw [hd1]; exact beq_self_eq_true _
    simp -implicitDefEqProofs (disch := first | omega | decide) only [seval, -Int.reducePow, -Nat.reducePow, cC, pv, binv, sHPar1, undef, Int.toNat_natCast, List.map_cons, List.map_nil, g5]
    refine rx_neq0 (by kernel_rfl) (by simp -implicitDefEqProofs (disch := first | omega | decide) only [seval, -Int.reducePow, -Nat.reducePow, cC, pv, binv, sHPar1, undef, Int.toNat_natCast, List.map_cons, List.map_nil, g5]) rfl ?_
    simp -implicitDefEqProofs (disch := first | omega | decide) only [seval, -Int.reducePow, -Nat.reducePow, cC, pv, binv, sHPar1, undef, Int.toNat_natCast, List.map_cons, List.map_nil, hv1, d1_1, d2_1, g5]
    refine callV_ret (fun w hw => itoa_any v1 (by omega) w (hv.at hw)) ?_
    try simp -implicitDefEqProofs (disch := first | omega | decide) only [seval, -Int.reducePow, -Nat.reducePow, cC, pv, binv, sHPar1, undef, Int.toNat_natCast, List.map_cons, List.map_nil, hv1, e9_1, g5]
    refine hK _ _ ?_
    clear hK K
    refine cv_cond ?_
    simp -implicitDefEqProofs (disch := first | omega | decide) only [seval, -Int.reducePow, -Nat.reducePow, cC, pv, binv, sHPar1, undef, Int.toNat_natCast, List.map_cons, List.map_nil, g5]
    refine cv_skip ?_
    try simp only [blockQ, thenQ]
    refine hK _ _ ?_
    clear hK K
    refine cv_region_q rfl ?_
    simp -implicitDefEqProofs (disch := first | omega | decide) only [seval, -Int.reducePow, -Nat.reducePow, cC, pv, binv, sHPar1, undef, Int.toNat_natCast, List.map_cons, List.map_nil, g5]
    refine hK _ _ ?_
    clear hK K
    refine cv_region_then rfl ?_
    simp -implicitDefEqProofs (disch := first | omega | decide) only [seval, -Int.reducePow, -Nat.reducePow, cC, pv, binv, sHPar1, undef, Int.toNat_natCast, List.map_cons, List.map_nil, g5]
    unfold timesV
    refine cv_gen fun G6 hG => ?_
    have g6_4 := congrFun hG 4
    have g6_5 := congrFun hG 5
    have g6_15 := congrFun hG 15
    have g6_16 := congrFun hG 16
    clear hG
    try simp -implicitDefEqProofs (disch := first | omega | decide) only [seval, -Int.reducePow, -Nat.reducePow, cC, pv, binv, sHPar1, undef, Int.toNat_natCast, List.map_cons, List.map_nil, g5] at g6_4 g6_5 g6_15 g6_16
    have g6 := And.intro g6_4 (And.intro g6_5 (And.intro g6_15 g6_16))
    refine cv_seq_k fun K hK => ?_
    refine cv_region_then rfl ?_
    simp -implicitDefEqProofs (disch := first | omega | decide) only [seval, -Int.reducePow, -Nat.reducePow, cC, pv, binv, sHPar1, undef, Int.toNat_natCast, List.map_cons, List.map_nil, g6]
    refine hK _ _ ?_
    clear hK K
    refine cv_seq_k fun K hK => ?_
    refine cv_cond ?_
    simp -implicitDefEqProofs (disch := first | omega | decide) only [seval, -Int.reducePow, -Nat.reducePow, cC, pv, binv, sHPar1, undef, Int.toNat_natCast, List.map_cons, List.map_nil, g6]
    refine cv_skip ?_
    try simp only [blockQ, thenQ]
    refine hK _ _ ?_
    clear hK K
    refine cv_seq_k fun K hK => ?_
    refine cv_block ?_
    refine cv_seq_k fun K hK => ?_
    refine cv_region_then rfl ?_
    simp -implicitDefEqProofs (disch := first | omega | decide) only [seval, -Int.reducePow, -Nat.reducePow, cC, pv, binv, sHPar1, undef, Int.toNat_natCast, List.map_cons, List.map_nil, g6]
    refine xv_idx (n := 3) (e := 3) 2 #[.int .i64 16777215, .int .i64 4294967295, .int .i64 255] (.int .i64 255) (by kernel_rfl) Tryd.sizeOf3 Tryd.isAgg3 (by simp -implicitDefEqProofs (disch := first | omega | decide) only [seval, -Int.reducePow, -Nat.reducePow, cC, pv, binv, sHPar1, undef, Int.toNat_natCast, List.map_cons, List.map_nil, g6]) (by simp -implicitDefEqProofs (disch := first | omega | decide) only [seval, -Int.reducePow, -Nat.reducePow, cC, pv, binv, sHPar1, undef, Int.toNat_natCast, List.map_cons, List.map_nil, g6]; rfl) (by decide) rfl ?_
    simp -implicitDefEqProofs (disch := first | omega | decide) only [seval, -Int.reducePow, -Nat.reducePow, cC, pv, binv, sHPar1, undef, Int.toNat_natCast, List.map_cons, List.map_nil, g6]
    refine hK _ _ ?_
    clear hK K
    refine cv_seq_k fun K hK => ?_
    refine cv_region_then rfl ?_
    simp -implicitDefEqProofs (disch := first | omega | decide) only [seval, -Int.reducePow, -Nat.reducePow, cC, pv, binv, sHPar1, undef, Int.toNat_natCast, List.map_cons, List.map_nil, g6]
    refine callV_ex (fun i : Int × Value => .tuple #[.int .i64 i.1, i.2]) (fun i => AtR d i.1 i.2) (fun w hw => atoi_ex d (by omega) w (hv.at hw)) ?_
    rintro ⟨x2, er2⟩ hAt2
    dsimp only at hAt2
    simp -implicitDefEqProofs (disch := first | omega | decide) only [seval, -Int.reducePow, -Nat.reducePow, cC, pv, binv, sHPar1, undef, Int.toNat_natCast, List.map_cons, List.map_nil, g6]
    refine hK _ _ ?_
    clear hK K
    refine cv_seq_k fun K hK => ?_
    refine cv_seq_k fun K hK => ?_
    refine cv_draw [(true, 0), (true, 1), (true, 2), (true, 3), (true, 4), (true, 5), (true, 6), (true, 7), (true, 8), (true, 9), (true, 10), (true, 11), (true, 12), (true, 14), (true, 15), (true, 16), (true, 17), (false, 13), (true, 18), (true, 19)] [] mixA rfl (by kernel_rfl) (by kernel_rfl) rfl rfl ?_
    rcases piece_ok (most := 255) (by omega) hAt2 with ⟨hn2, rfl, rfl, hd2, hle2⟩ | ⟨hn2, hbad2⟩
    rotate_left
    · rcases hbad2 with ⟨u, q, rfl⟩ | ⟨rfl, hx | hx | ⟨v, rfl, hvm, hdv⟩⟩
      · simp -implicitDefEqProofs (disch := first | omega | decide) only [seval, -Int.reducePow, -Nat.reducePow, cC, pv, binv, sHPar1, undef, Int.toNat_natCast, List.map_cons, List.map_nil, g6]
        refine rx_neq1 (by kernel_rfl) (by simp -implicitDefEqProofs (disch := first | omega | decide) only [seval, -Int.reducePow, -Nat.reducePow, cC, pv, binv, sHPar1, undef, Int.toNat_natCast, List.map_cons, List.map_nil, g6]; rfl) rfl ?_
        simp -implicitDefEqProofs (disch := first | omega | decide) only [seval, -Int.reducePow, -Nat.reducePow, cC, pv, binv, sHPar1, undef, Int.toNat_natCast, List.map_cons, List.map_nil, g6]
        refine hK _ _ ?_
        clear hK K
        refine cv_cond ?_
        simp -implicitDefEqProofs (disch := first | omega | decide) only [seval, -Int.reducePow, -Nat.reducePow, cC, pv, binv, sHPar1, undef, Int.toNat_natCast, List.map_cons, List.map_nil, g6]
        refine cv_seq_k fun K hK => ?_
        refine cv_region_then rfl ?_
        simp -implicitDefEqProofs (disch := first | omega | decide) only [seval, -Int.reducePow, -Nat.reducePow, cC, pv, binv, sHPar1, undef, Int.toNat_natCast, List.map_cons, List.map_nil, g6]
        refine hK _ _ ?_
        clear hK K
        refine cv_ret ⟨_, (by simp -implicitDefEqProofs (disch := first | omega | decide) only [seval, -Int.reducePow, -Nat.reducePow, cC, pv, binv, sHPar1, undef, Int.toNat_natCast, List.map_cons, List.map_nil, g6]; rfl), fun w hw => ?_⟩
        exact ⟨by rw [prs_no h (.inr (.inr hn2))]; rfl, hw.below⟩
      · have d1 : decide (x2 < 0) = true := decide_eq_true hx
        simp -implicitDefEqProofs (disch := first | omega | decide) only [seval, -Int.reducePow, -Nat.reducePow, cC, pv, binv, sHPar1, undef, Int.toNat_natCast, List.map_cons, List.map_nil, g6]
        refine rx_neq0 (by kernel_rfl) (by simp -implicitDefEqProofs (disch := first | omega | decide) only [seval, -Int.reducePow, -Nat.reducePow, cC, pv, binv, sHPar1, undef, Int.toNat_natCast, List.map_cons, List.map_nil, g6]) rfl ?_
        simp -implicitDefEqProofs (disch := first | omega | decide) only [seval, -Int.reducePow, -Nat.reducePow, cC, pv, binv, sHPar1, undef, Int.toNat_natCast, List.map_cons, List.map_nil, d1, g6]
        refine hK _ _ ?_
        clear hK K
        refine cv_cond ?_
        simp -implicitDefEqProofs (disch := first | omega | decide) only [seval, -Int.reducePow, -Nat.reducePow, cC, pv, binv, sHPar1, undef, Int.toNat_natCast, List.map_cons, List.map_nil, g6]
        refine cv_seq_k fun K hK => ?_
        refine cv_region_then rfl ?_
        simp -implicitDefEqProofs (disch := first | omega | decide) only [seval, -Int.reducePow, -Nat.reducePow, cC, pv, binv, sHPar1, undef, Int.toNat_natCast, List.map_cons, List.map_nil, g6]
        refine hK _ _ ?_
        clear hK K
        refine cv_ret ⟨_, (by simp -implicitDefEqProofs (disch := first | omega | decide) only [seval, -Int.reducePow, -Nat.reducePow, cC, pv, binv, sHPar1, undef, Int.toNat_natCast, List.map_cons, List.map_nil, g6]; rfl), fun w hw => ?_⟩
        exact ⟨by rw [prs_no h (.inr (.inr hn2))]; rfl, hw.below⟩
      · have d1 : decide (x2 < 0) = false := decide_eq_false (by omega)
        have d2 : decide ((255 : Int) < x2) = true := decide_eq_true hx
        simp -implicitDefEqProofs (disch := first | omega | decide) only [seval, -Int.reducePow, -Nat.reducePow, cC, pv, binv, sHPar1, undef, Int.toNat_natCast, List.map_cons, List.map_nil, g6]
        refine rx_neq0 (by kernel_rfl) (by simp -implicitDefEqProofs (disch := first | omega | decide) only [seval, -Int.reducePow, -Nat.reducePow, cC, pv, binv, sHPar1, undef, Int.toNat_natCast, List.map_cons, List.map_nil, g6]) rfl ?_
        simp -implicitDefEqProofs (disch := first | omega | decide) only [seval, -Int.reducePow, -Nat.reducePow, cC, pv, binv, sHPar1, undef, Int.toNat_natCast, List.map_cons, List.map_nil, d1, d2, g6]
        refine hK _ _ ?_
        clear hK K
        refine cv_cond ?_
        simp -implicitDefEqProofs (disch := first | omega | decide) only [seval, -Int.reducePow, -Nat.reducePow, cC, pv, binv, sHPar1, undef, Int.toNat_natCast, List.map_cons, List.map_nil, g6]
        refine cv_seq_k fun K hK => ?_
        refine cv_region_then rfl ?_
        simp -implicitDefEqProofs (disch := first | omega | decide) only [seval, -Int.reducePow, -Nat.reducePow, cC, pv, binv, sHPar1, undef, Int.toNat_natCast, List.map_cons, List.map_nil, g6]
        refine hK _ _ ?_
        clear hK K
        refine cv_ret ⟨_, (by simp -implicitDefEqProofs (disch := first | omega | decide) only [seval, -Int.reducePow, -Nat.reducePow, cC, pv, binv, sHPar1, undef, Int.toNat_natCast, List.map_cons, List.map_nil, g6]; rfl), fun w hw => ?_⟩
        exact ⟨by rw [prs_no h (.inr (.inr hn2))]; rfl, hw.below⟩
      · have d1 : decide ((v : Int) < 0) = false := decide_eq_false (by omega)
        have d2 : decide ((255 : Int) < (v : Int)) = false := decide_eq_false (by omega)
        have e9 : ((bstr (dec v)).toList == (bstr d).toList) = false := by rw [bstr_beq (fun x hx => by have := dec_dig _ _ hx; omega) bd]; exact decide_eq_false hdv
        simp -implicitDefEqProofs (disch := first | omega | decide) only [seval, -Int.reducePow, -Nat.reducePow, cC, pv, binv, sHPar1, undef, Int.toNat_natCast, List.map_cons, List.map_nil, g6]
        refine rx_neq0 (by kernel_rfl) (by simp -implicitDefEqProofs (disch := first | omega | decide) only [seval, -Int.reducePow, -Nat.reducePow, cC, pv, binv, sHPar1, undef, Int.toNat_natCast, List.map_cons, List.map_nil, g6]) rfl ?_
        simp -implicitDefEqProofs (disch := first | omega | decide) only [seval, -Int.reducePow, -Nat.reducePow, cC, pv, binv, sHPar1, undef, Int.toNat_natCast, List.map_cons, List.map_nil, d1, d2, g6]
        refine callV_ret (fun w hw => itoa_any v (by omega) w (hv.at hw)) ?_
        try simp -implicitDefEqProofs (disch := first | omega | decide) only [seval, -Int.reducePow, -Nat.reducePow, cC, pv, binv, sHPar1, undef, Int.toNat_natCast, List.map_cons, List.map_nil, e9, g6]
        refine hK _ _ ?_
        clear hK K
        refine cv_cond ?_
        simp -implicitDefEqProofs (disch := first | omega | decide) only [seval, -Int.reducePow, -Nat.reducePow, cC, pv, binv, sHPar1, undef, Int.toNat_natCast, List.map_cons, List.map_nil, g6]
        refine cv_seq_k fun K hK => ?_
        refine cv_region_then rfl ?_
        simp -implicitDefEqProofs (disch := first | omega | decide) only [seval, -Int.reducePow, -Nat.reducePow, cC, pv, binv, sHPar1, undef, Int.toNat_natCast, List.map_cons, List.map_nil, g6]
        refine hK _ _ ?_
        clear hK K
        refine cv_ret ⟨_, (by simp -implicitDefEqProofs (disch := first | omega | decide) only [seval, -Int.reducePow, -Nat.reducePow, cC, pv, binv, sHPar1, undef, Int.toNat_natCast, List.map_cons, List.map_nil, g6]; rfl), fun w hw => ?_⟩
        exact ⟨by rw [prs_no h (.inr (.inr hn2))]; rfl, hw.below⟩
    obtain ⟨v2, hv2⟩ : ∃ v, (numF d 255).1 = v := ⟨_, rfl⟩
    rw [hv2] at hd2 hle2
    have d1_2 : decide ((v2 : Int) < 0) = false := decide_eq_false (by omega)
    have d2_2 : decide ((255 : Int) < (v2 : Int)) = false := decide_eq_false (by omega)
    have e9_2 : ((bstr (dec v2)).toList == (bstr d).toList) = true := by rw [hd2]; exact beq_self_eq_true _
    simp -implicitDefEqProofs (disch := first | omega | decide) only [seval, -Int.reducePow, -Nat.reducePow, cC, pv, binv, sHPar1, undef, Int.toNat_natCast, List.map_cons, List.map_nil, g6]
    refine rx_neq0 (by kernel_rfl) (by simp -implicitDefEqProofs (disch := first | omega | decide) only [seval, -Int.reducePow, -Nat.reducePow, cC, pv, binv, sHPar1, undef, Int.toNat_natCast, List.map_cons, List.map_nil, g6]) rfl ?_
    simp -implicitDefEqProofs (disch := first | omega | decide) only [seval, -Int.reducePow, -Nat.reducePow, cC, pv, binv, sHPar1, undef, Int.toNat_natCast, List.map_cons, List.map_nil, hv2, d1_2, d2_2, g6]
    refine callV_ret (fun w hw => itoa_any v2 (by omega) w (hv.at hw)) ?_
    try simp -implicitDefEqProofs (disch := first | omega | decide) only [seval, -Int.reducePow, -Nat.reducePow, cC, pv, binv, sHPar1, undef, Int.toNat_natCast, List.map_cons, List.map_nil, hv2, e9_2, g6]
    refine hK _ _ ?_
    clear hK K
    refine cv_cond ?_
    simp -implicitDefEqProofs (disch := first | omega | decide) only [seval, -Int.reducePow, -Nat.reducePow, cC, pv, binv, sHPar1, undef, Int.toNat_natCast, List.map_cons, List.map_nil, g6]
    refine cv_skip ?_
    try simp only [blockQ, thenQ]
    refine hK _ _ ?_
    clear hK K
    refine cv_region_q rfl ?_
    simp -implicitDefEqProofs (disch := first | omega | decide) only [seval, -Int.reducePow, -Nat.reducePow, cC, pv, binv, sHPar1, undef, Int.toNat_natCast, List.map_cons, List.map_nil, g6]
    refine hK _ _ ?_
    clear hK K
    refine cv_region_then rfl ?_
    simp -implicitDefEqProofs (disch := first | omega | decide) only [seval, -Int.reducePow, -Nat.reducePow, cC, pv, binv, sHPar1, undef, Int.toNat_natCast, List.map_cons, List.map_nil, g6]
    unfold timesV
    refine cv_gen fun G7 hG => ?_
    have g7_4 := congrFun hG 4
    have g7_5 := congrFun hG 5
    have g7_15 := congrFun hG 15
    have g7_16 := congrFun hG 16
    clear hG
    try simp -implicitDefEqProofs (disch := first | omega | decide) only [seval, -Int.reducePow, -Nat.reducePow, cC, pv, binv, sHPar1, undef, Int.toNat_natCast, List.map_cons, List.map_nil, g6] at g7_4 g7_5 g7_15 g7_16
    have g7 := And.intro g7_4 (And.intro g7_5 (And.intro g7_15 g7_16))
    refine cv_seq_k fun K hK => ?_
    refine cv_region_then rfl ?_
    simp -implicitDefEqProofs (disch := first | omega | decide) only [seval, -Int.reducePow, -Nat.reducePow, cC, pv, binv, sHPar1, undef, Int.toNat_natCast, List.map_cons, List.map_nil, g7]
    refine hK _ _ ?_
    clear hK K
    refine cv_seq_k fun K hK => ?_
    refine cv_cond ?_
    simp -implicitDefEqProofs (disch := first | omega | decide) only [seval, -Int.reducePow, -Nat.reducePow, cC, pv, binv, sHPar1, undef, Int.toNat_natCast, List.map_cons, List.map_nil, g7]
    refine cv_exit ?_
    simp only [blockQ, thenQ, if_true, ite_true]
    clear hK K
    refine hK _ _ ?_
    clear hK K
    refine cv_seq_k fun K hK => ?_
    refine cv_region_then rfl ?_
    simp -implicitDefEqProofs (disch := first | omega | decide) only [seval, -Int.reducePow, -Nat.reducePow, cC, pv, binv, sHPar1, undef, Int.toNat_natCast, List.map_cons, List.map_nil, g7]
    refine callV_ret (fun w hw => pk_any v0 v1 v2 w (by omega) (by omega) (by omega)) ?_
    try simp -implicitDefEqProofs (disch := first | omega | decide) only [seval, -Int.reducePow, -Nat.reducePow, cC, pv, binv, sHPar1, undef, Int.toNat_natCast, List.map_cons, List.map_nil, g7]
    refine hK _ _ ?_
    clear hK K
    refine cv_ret ⟨_, (by simp -implicitDefEqProofs (disch := first | omega | decide) only [seval, -Int.reducePow, -Nat.reducePow, cC, pv, binv, sHPar1, undef, Int.toNat_natCast, List.map_cons, List.map_nil, g7]; rfl), fun w hw => ?_⟩
    exact ⟨by rw [prs_yes h hn0 hn1 hn2, hv0, hv1, hv2]; rfl, hw.below⟩
end Go.Proofs.YtddofamkmcgfmaaDoor
