/- The reference's book: an event on an object. -/
import Derived.Test.YtaifnipgefkemaaZ4
import Derived.Test.YtaifnipgefkemaaZ1
namespace Go.Proofs.Ytaifnipgefkemaa
open Go.RowKit Go.Shelf
set_option linter.unusedVariables false
set_option linter.unusedSimpArgs false
set_option maxRecDepth 100000
def othB (st : List Int) (e : EvR) : Bool := (decide (1 ≤ e.ar) && decide (e.ar ≤ 64) && decide (st[e.ar]? = some 1)) && !decide ((e.ar : Int) = e.pl)
def LendAt (x : BkR) (e : EvR) (o : BO) (m : Int) (r : Bool) (y : BkR) : Prop :=
  if (decide (o.ow = e.pl) && othB x.st e) = true then ∃ rc, r = decide (rc = 0) ∧ LendOk x.E (slotF o.h) e.ar m rc y.E ∧ y.l = x.l else r = false
def ObjAt (x : BkR) (e : EvR) (i : Nat) (o : BO) (r : Bool) (y : BkR) : Prop :=
  if e.op = 11 then ∃ rc, r = decide (rc = 0) ∧ RelOk x.E (slotF o.h) e.pl rc y.E ∧ y.l = x.l
  else if e.op = 2 then (if (decide (o.ow = e.pl) && decide (ofB x.E (slotF o.h) = [])) = true then r = true ∧ y.l = x.l.eraseIdx i ∧ y.E = x.E.filter fun b => !decide (b.ob = (slotF o.h : Int)) else r = false)
  else if e.op = 8 then (if (decide (o.ow = e.pl) && decide (ofB x.E (slotF o.h) = []) && othB x.st e) = true then r = true ∧ y.l = x.l.set i ⟨o.h, e.ar⟩ ∧ y.E = x.E else r = false)
  else if e.op = 9 then LendAt x e o 1 r y
  else if e.op = 10 then LendAt x e o 2 r y
  else r = false
structure ObjOk (x : BkR) (e : EvR) (r : Bool) (y : BkR) : Prop where
  no : x.l.findIdx? (fun o => decide (o.h = e.h)) = none → r = false
  yes : ∀ i o, x.l.findIdx? (fun o => decide (o.h = e.h)) = some i → x.l[i]? = some o → ObjAt x e i o r y
  st : y.st = x.st
theorem ObjOk.ofNo {x : BkR} {e : EvR} {r : Bool} {y : BkR} (h : x.l.findIdx? (fun o => decide (o.h = e.h)) = none) (hr : r = false) (hst : y.st = x.st) : ObjOk x e r y := ⟨fun _ => hr, fun i o hi => (by rw [h] at hi; cases hi), hst⟩
theorem ObjOk.of {x : BkR} {e : EvR} {r : Bool} {y : BkR} {i : Nat} {o : BO} (h : x.l.findIdx? (fun o => decide (o.h = e.h)) = some i) (ho : x.l[i]? = some o) (hr : ObjAt x e i o r y) (hst : y.st = x.st) : ObjOk x e r y := ⟨fun hn => (by rw [h] at hn; cases hn), fun i' o' hi ho' => (by
  rw [h] at hi
  cases hi
  rw [ho] at ho'
  cases ho'
  exact hr), hst⟩
theorem othB_le {st : List Int} {e : EvR} (h : othB st e = true) : e.ar ≤ 64 := by
  unfold othB at h
  simp only [Bool.and_eq_true, decide_eq_true_eq] at h
  exact h.1.1.2
def lgL2 (b : Nat) (s0 s1 : Value) (i : Int × LgR) : List Res := lgL b s0 s1 i.2
theorem bo_set {l : List BO} {i : Nat} {o : BO} (h : l[i]? = some o) (v : Int) : (boCells l).set (i * 6 + 1) (.int .i64 v) = boCells (l.set i ⟨o.h, v⟩) := by
  have hlt := (List.getElem?_eq_some_iff.1 h).1
  have e1 : l = l.take i ++ o :: l.drop (i + 1) := by
    conv => lhs; rw [← List.take_append_drop i l]
    rw [drop_cons h]
  have hl : (l.take i).length = i := by rw [List.length_take]; omega
  have e2 : l.set i ⟨o.h, v⟩ = l.take i ++ ⟨o.h, v⟩ :: l.drop (i + 1) := by
    conv => lhs; rw [e1]
    rw [List.set_append_right _ _ (by omega), hl, Nat.sub_self]
    rfl
  rw [e2]
  conv => lhs; rw [e1]
  rw [boCells_app, boCells_app, List.set_append_right _ _ (by rw [boCells_len, hl]; omega), boCells_len, hl]
  rw [show i * 6 + 1 - i * 6 = 1 by omega]
  rfl
set_option maxRecDepth 100000 in
theorem sHjG1 : type_of% (And.intro (And.intro @Nat.mul_one @wrap_in) (And.intro @cMv (And.intro @cM @evBox.eq_1))) := (And.intro (And.intro @Nat.mul_one @wrap_in) (And.intro @cMv (And.intro @cM @evBox.eq_1)))
set_option maxHeartbeats 4000000 in
theorem bObject_any (x : BkR) (e : EvR) (he : e.ok) (hpl : 1 ≤ e.pl ∧ e.pl ≤ 64) (hs : x.st.length = 65) (h64 : ∀ o ∈ x.l, o.h < 18446744073709551616) (hl : x.l.length ≤ 100000) (hE : x.E.length ≤ 100000) (hc : ∀ c ∈ x.E, 0 ≤ c.co ∧ c.co ≤ 4611686018427387904) (W : World) (hst : St (feet (bkL x)) W (bkL x) W) :
    Calls Try.prog 60 #[.pointer (some ⟨x.b, 0, none⟩), evV e] W
    fun en w' => ∃ i : Bool × BkR, en = .returned (bkV i) ∧ (ObjOk x e i.1 i.2 ∧ Bks x i.2) ∧ St (feet (bkL x)) W (bkL2 i) w' := by
  obtain ⟨M, hM⟩ : ∃ M, feet (bkL x) = M := ⟨_, rfl⟩
  rw [hM] at hst ⊢
  obtain ⟨b, sb, LA, ln, lc, EA, en, ec, st, l, E⟩ := x
  unfold bkL at hst
  dsimp only at hst hl hE hs h64 hc ⊢
  clear hM
  have hlen : l.length = ln := by have := (Sl.of_row hst (nth_mem (k := 2) rfl)).len; rw [boCells_len] at this; omega
  obtain ⟨v, hv⟩ : ∃ v, findI l e.h = v := ⟨_, rfl⟩
  have hwp : IntKind.u64.wrap e.pl = e.pl := wrap_u64 (by omega) (by omega)
  refine calls_cv (M := M) (n := 135) [.tmp 4] rfl Try.func60 rfl rfl (Nat.le_of_ble_eq_true rfl)  hst ?_
  refine cv_seq_k fun K hK => ?_
  refine cv_region_then rfl ?_
  simp -implicitDefEqProofs (disch := first | omega | decide) only [seval, -Int.reducePow, -Nat.reducePow, cC, pv, binv, sHjG1, undef, evV]
  intro b3 hb3 hf3
  refine hK _ _ ?_
  clear hK K
  refine cv_seq_k fun K hK => ?_
  refine cv_region_then rfl ?_
  simp -implicitDefEqProofs (disch := first | omega | decide) only [seval, -Int.reducePow, -Nat.reducePow, cC, pv, binv, sHjG1, undef]
  refine callV_rd (bkL ⟨b, sb, LA, ln, lc, EA, en, ec, st, l, E⟩) (.cons _ (List.Sublist.refl _)) (fun _ : Unit => .int .i64 v) _ (fun w hw => hv ▸ bFind_any ⟨b, sb, LA, ln, lc, EA, en, ec, st, l, E⟩ e.h hl w hw) ?_
  intro _ _
  simp -implicitDefEqProofs (disch := first | omega | decide) only [seval, -Int.reducePow, -Nat.reducePow, cC, pv, binv, sHjG1, undef]
  refine hK _ _ ?_
  clear hK K
  refine cv_gen fun G1 hG => ?_
  have g1_0 := congrFun hG 0
  have g1_3 := congrFun hG 3
  have g1_5 := congrFun hG 5
  clear hG
  try simp -implicitDefEqProofs (disch := first | omega | decide) only [seval, -Int.reducePow, -Nat.reducePow, cC, pv, binv, sHjG1, undef] at g1_0 g1_3 g1_5
  have g1 := And.intro g1_0 (And.intro g1_3 g1_5)
  have hv2 : (l.findIdx? (fun o => decide (o.h = e.h)) = none ∧ v = -1) ∨ ∃ i : Nat, l.findIdx? (fun o => decide (o.h = e.h)) = some i ∧ v = i := by
    rw [← hv]
    unfold findI
    cases l.findIdx? (fun o => decide (o.h = e.h)) with
    | none => exact .inl ⟨rfl, rfl⟩
    | some i => exact .inr ⟨i, rfl, rfl⟩
  rcases hv2 with ⟨hn, rfl⟩ | ⟨i, hi, rfl⟩
  · refine cv_seq_k fun K hK => ?_
    refine cv_seq_k fun K hK => ?_
    refine cv_region_then rfl ?_
    simp -implicitDefEqProofs (disch := first | omega | decide) only [seval, -Int.reducePow, -Nat.reducePow, cC, pv, binv, sHjG1, undef, g1]
    refine hK _ _ ?_
    clear hK K
    refine cv_cond ?_
    simp -implicitDefEqProofs (disch := first | omega | decide) only [seval, -Int.reducePow, -Nat.reducePow, cC, pv, binv, sHjG1, undef, g1]
    refine cv_seq_k fun K hK => ?_
    refine cv_region_then rfl ?_
    simp -implicitDefEqProofs (disch := first | omega | decide) only [seval, -Int.reducePow, -Nat.reducePow, cC, pv, binv, sHjG1, undef, g1]
    refine hK _ _ ?_
    clear hK K
    refine cv_ret ⟨_, (by simp -implicitDefEqProofs (disch := first | omega | decide) only [seval, -Int.reducePow, -Nat.reducePow, cC, pv, binv, sHjG1, undef, g1]; rfl), fun w hw => ?_⟩
    exact ⟨(false, ⟨b, sb, LA, ln, lc, EA, en, ec, st, l, E⟩), rfl, ⟨.ofNo hn rfl rfl, ⟨rfl, rfl⟩⟩, hw.tail⟩
  have hil : i < l.length := (List.findIdx?_eq_some_iff_getElem.1 hi).1
  obtain ⟨o, ho⟩ : ∃ o, l[i]? = some o := ⟨_, List.getElem?_eq_getElem hil⟩
  have ho64 := h64 o (List.mem_of_getElem? ho)
  have hin : ¬ ((i : Int) < 0) := by omega
  refine cv_seq_k fun K hK => ?_
  refine cv_seq_k fun K hK => ?_
  refine cv_region_then rfl ?_
  simp -implicitDefEqProofs (disch := first | omega | decide) only [seval, -Int.reducePow, -Nat.reducePow, cC, pv, binv, sHjG1, undef, g1]
  refine hK _ _ ?_
  clear hK K
  refine cv_cond ?_
  simp -implicitDefEqProofs (disch := first | omega | decide) only [seval, -Int.reducePow, -Nat.reducePow, cC, pv, binv, sHjG1, undef, hin, g1]
  refine cv_skip ?_
  try simp only [blockQ, thenQ]
  refine hK _ _ ?_
  clear hK K
  refine cv_rowA 3 rfl (by omega) fun g hAA hg hNN => ?_
  subst hAA
  simp only [List.eraseIdx_cons_zero, List.eraseIdx_cons_succ, neB_nil, neB_blk, neB_row, neB_snap, and_true, List.not_mem_nil, or_false, sHjG1, undef] at hNN hg
  replace hg := And.intro hg hNN
  clear hNN
  refine cv_seq_k fun K hK => ?_
  refine cv_region_then rfl ?_
  simp -implicitDefEqProofs (disch := first | omega | decide) only [seval, -Int.reducePow, -Nat.reducePow, cC, pv, binv, sHjG1, undef, g1]
  refine ⟨_, ld_row (i := i * 6) (vs := boc o) (nth_mem (k := 3) rfl) (by kernel_rfl) (flAt boc_len ho), fun tok htok => ?_⟩
  subst htok
  simp -implicitDefEqProofs (disch := first | omega | decide) only [seval, -Int.reducePow, -Nat.reducePow, cC, pv, binv, sHjG1, undef, g1]
  simp only [boc, List.length_cons, List.length_nil, true_and]
  simp -implicitDefEqProofs (disch := first | omega | decide) only [seval, -Int.reducePow, -Nat.reducePow, cC, pv, binv, sHjG1, undef, g1]
  intro b6 hb6 hf6
  refine hK _ _ ?_
  clear hK K
  refine cv_seq_k fun K hK => ?_
  refine cv_region_then rfl ?_
  simp -implicitDefEqProofs (disch := first | omega | decide) only [seval, -Int.reducePow, -Nat.reducePow, cC, pv, binv, sHjG1, undef, g1]
  refine callV_ret (fun w hw => rslot_any o.h ho64 w) ?_
  simp -implicitDefEqProofs (disch := first | omega | decide) only [seval, -Int.reducePow, -Nat.reducePow, cC, pv, binv, sHjG1, undef, g1]
  refine hK _ _ ?_
  clear hK K
  obtain ⟨lo, hlo⟩ : ∃ lo, ofB E (slotF o.h) = lo := ⟨_, rfl⟩
  refine cv_seq_k fun K hK => ?_
  refine cv_region_then rfl ?_
  simp -implicitDefEqProofs (disch := first | omega | decide) only [seval, -Int.reducePow, -Nat.reducePow, cC, pv, binv, sHjG1, undef, g1]
  refine callV_row (fun A n c => .slice A n c) (fun w hw => (hlo ▸ rOf_any (LgW.of hw 2 5 rfl rfl hE) (slotF o.h))) ?_
  intro A1 n1 c1 hl1 hr1
  have hn1 : lo.length = n1 := by rw [bwCells_len] at hl1; omega
  simp -implicitDefEqProofs (disch := first | omega | decide) only [seval, -Int.reducePow, -Nat.reducePow, cC, pv, binv, sHjG1, undef, g1]
  refine hK _ _ ?_
  clear hK K
  refine cv_pick [1, 2, 3, 4, 5, 6] (by decide) ?_
  simp only [pickL, nth]
  refine cv_gen fun G2 hG => ?_
  have g2_0 := congrFun hG 0
  have g2_3 := congrFun hG 3
  have g2_5 := congrFun hG 5
  have g2_6 := congrFun hG 6
  have g2_7 := congrFun hG 7
  have g2_8 := congrFun hG 8
  clear hG
  try simp -implicitDefEqProofs (disch := first | omega | decide) only [seval, -Int.reducePow, -Nat.reducePow, cC, pv, binv, sHjG1, undef, g1] at g2_0 g2_3 g2_5 g2_6 g2_7 g2_8
  have g2 := And.intro g2_0 (And.intro g2_3 (And.intro g2_5 (And.intro g2_6 (And.intro g2_7 g2_8))))
  refine cv_seq_k fun K hK => ?_
  refine cv_cut (fun _ _ => True) (fun F' L' => F' 0 = G2 0 ∧ F' 3 = G2 3 ∧ F' 5 = G2 5 ∧ F' 6 = G2 6 ∧ F' 7 = G2 7 ∧ F' 8 = G2 8 ∧ F' 9 = .bool (othB st e) ∧ L' = [.blk b6 43 [.int .u64 (o.h : Int), .int .i64 o.ow, .int .i64 0, .int .i64 0, .slice none 0 0, .slice none 0 0], .blk b3 37 [.int .i64 e.pl, .int .i64 e.op, .int .u64 (e.h : Int), .int .u64 (e.ar : Int), .int .i64 e.er], .blk b 78 [.slice (some ⟨sb, 0, none⟩) 65 65, .slice (some ⟨g, 0, none⟩) ln lc, .slice EA en ec], .row (.slice (some ⟨sb, 0, none⟩) 65 65) 3 1 65 (stCells st), .row (.slice (some ⟨g, 0, none⟩) ln lc) 43 6 ln (boCells l), .row (.slice EA en ec) 82 4 en (bwCells E)]) ?_ ?_
  · unfold othB
    obtain ⟨al, hal⟩ : ∃ al, (decide (1 ≤ e.ar) && decide (e.ar ≤ 64) && decide (st[e.ar]? = some 1)) = al := ⟨_, rfl⟩
    rw [hal]
    cases al with
    | false =>
      refine cv_region_then rfl ?_
      simp -implicitDefEqProofs (disch := first | omega | decide) only [seval, -Int.reducePow, -Nat.reducePow, cC, pv, binv, sHjG1, undef, g2]
      refine callV_rd (bkL ⟨b, sb, some ⟨g, 0, none⟩, ln, lc, EA, en, ec, st, l, E⟩) (.cons _ (.cons _ (List.Sublist.refl _))) (fun _ : Unit => .bool false) _ (fun w hw => hal ▸ bAlive_any ⟨b, sb, some ⟨g, 0, none⟩, ln, lc, EA, en, ec, st, l, E⟩ e.ar w hw hs) ?_
      intro _ _
      simp -implicitDefEqProofs (disch := first | omega | decide) only [seval, -Int.reducePow, -Nat.reducePow, cC, pv, binv, sHjG1, undef, g2]
    | true =>
      refine cv_region_then rfl ?_
      simp -implicitDefEqProofs (disch := first | omega | decide) only [seval, -Int.reducePow, -Nat.reducePow, cC, pv, binv, sHjG1, undef, hwp, g2]
      refine callV_rd (bkL ⟨b, sb, some ⟨g, 0, none⟩, ln, lc, EA, en, ec, st, l, E⟩) (.cons _ (.cons _ (List.Sublist.refl _))) (fun _ : Unit => .bool true) _ (fun w hw => hal ▸ bAlive_any ⟨b, sb, some ⟨g, 0, none⟩, ln, lc, EA, en, ec, st, l, E⟩ e.ar w hw hs) ?_
      intro _ _
      simp -implicitDefEqProofs (disch := first | omega | decide) only [seval, -Int.reducePow, -Nat.reducePow, cC, pv, binv, sHjG1, undef, hwp, g2]
  intro G3 L' _ hF
  obtain ⟨q0, q3, q5, q6, q7, q8, q9, rfl⟩ := hF
  have g3_0 := q0.trans g2_0
  have g3_3 := q3.trans g2_3
  have g3_5 := q5.trans g2_5
  have g3_6 := q6.trans g2_6
  have g3_7 := q7.trans g2_7
  have g3_8 := q8.trans g2_8
  have g3_9 := q9
  clear q0 q3 q5 q6 q7 q8 q9
  have g3 := And.intro g3_0 (And.intro g3_3 (And.intro g3_5 (And.intro g3_6 (And.intro g3_7 (And.intro g3_8 g3_9)))))
  refine hK _ _ ?_
  clear hK K
  refine cv_seq_k fun K hK => ?_
  refine cv_region_then rfl ?_
  simp -implicitDefEqProofs (disch := first | omega | decide) only [seval, -Int.reducePow, -Nat.reducePow, cC, pv, binv, sHjG1, undef, g3]
  refine hK _ _ ?_
  clear hK K
  refine cv_pick [1, 2, 3, 4, 5] (by decide) ?_
  simp only [pickL, nth]
  refine cv_seq_k fun K hK => ?_
  refine cv_seq_k fun K hK => ?_
  refine cv_region_then rfl ?_
  simp -implicitDefEqProofs (disch := first | omega | decide) only [seval, -Int.reducePow, -Nat.reducePow, cC, pv, binv, sHjG1, undef, g3]
  refine hK _ _ ?_
  clear hK K
  refine cv_gen fun G4 hG => ?_
  have g4_0 := congrFun hG 0
  have g4_3 := congrFun hG 3
  have g4_5 := congrFun hG 5
  have g4_7 := congrFun hG 7
  have g4_8 := congrFun hG 8
  have g4_9 := congrFun hG 9
  have g4_10 := congrFun hG 10
  have g4_51 := congrFun hG 51
  clear hG
  try simp -implicitDefEqProofs (disch := first | omega | decide) only [seval, -Int.reducePow, -Nat.reducePow, cC, pv, binv, sHjG1, undef, g3] at g4_0 g4_3 g4_5 g4_7 g4_8 g4_9 g4_10 g4_51
  have g4 := And.intro g4_0 (And.intro g4_3 (And.intro g4_5 (And.intro g4_7 (And.intro g4_8 (And.intro g4_9 (And.intro g4_10 g4_51))))))
  refine cv_block ?_
  by_cases h11 : e.op = 11
  · have d11 : decide (e.op = 11) = true := decide_eq_true h11
    refine cv_seq_k fun K hK => ?_
    refine cv_region_then rfl ?_
    simp -implicitDefEqProofs (disch := first | omega | decide) only [seval, -Int.reducePow, -Nat.reducePow, cC, pv, binv, sHjG1, undef, d11, g4]
    refine hK _ _ ?_
    clear hK K
    refine cv_cond ?_
    simp -implicitDefEqProofs (disch := first | omega | decide) only [seval, -Int.reducePow, -Nat.reducePow, cC, pv, binv, sHjG1, undef, d11, g4]
    refine cv_seq_k fun K hK => ?_
    refine cv_draw_of (pickL [0] _) (fun w hw => hw.pick (by decide)) (by simp only [pickL, nth, suf_cons, suf_nil, List.mem_cons, true_or, or_true, and_true, eq_self]) [(true, 0), (true, 1), (true, 2), (true, 3), (true, 4), (true, 5), (false, 6), (true, 7), (true, 8)] [] mixA rfl (by kernel_rfl) (by kernel_rfl) rfl rfl ?_
    simp -implicitDefEqProofs (disch := first | omega | decide) only [seval, -Int.reducePow, -Nat.reducePow, cC, pv, binv, sHjG1, undef, g4]
    refine callV_sub [.blk b3 37 [.int .i64 e.pl, .int .i64 e.op, .int .u64 (e.h : Int), .int .u64 (e.ar : Int), .int .i64 e.er], .row (.slice (some ⟨sb, 0, none⟩) 65 65) 3 1 65 (stCells st), .row (.slice (some ⟨g, 0, none⟩) ln lc) 43 6 ln (boCells l)] (lgL b (.slice (some ⟨sb, 0, none⟩) 65 65) (.slice (some ⟨g, 0, none⟩) ln lc) ⟨EA, en, ec, E⟩) (.cons _ (perm_bk _ _ _ _)) lgV (lgL2 b (.slice (some ⟨sb, 0, none⟩) 65 65) (.slice (some ⟨g, 0, none⟩) ln lc)) _ (fun w hw => rRelease_any b _ _ ⟨EA, en, ec, E⟩ (slotF o.h) e.pl hE hc w hw) ?_
    rintro ⟨rc, ⟨EA2, en2, ec2, E2⟩⟩ hrc
    dsimp only at hrc
    simp -implicitDefEqProofs (disch := first | omega | decide) only [seval, -Int.reducePow, -Nat.reducePow, cC, pv, binv, sHjG1, undef, lgV, lgL2, lgL, g4]
    refine hK _ _ ?_
    clear hK K
    refine cv_ret ⟨_, (by simp -implicitDefEqProofs (disch := first | omega | decide) only [seval, -Int.reducePow, -Nat.reducePow, cC, pv, binv, sHjG1, undef, g4]; rfl), fun w hw => ?_⟩
    have hr : ObjAt ⟨b, sb, some ⟨g, 0, none⟩, ln, lc, EA, en, ec, st, l, E⟩ e i o (decide (rc = 0)) ⟨b, sb, some ⟨g, 0, none⟩, ln, lc, EA2, en2, ec2, st, l, E2⟩ := by
      unfold ObjAt
      simp only [h11]
      exact ⟨rc, rfl, hrc, trivial⟩
    have h9 := hw.pick (ix := [0, 3, 4, 1]) (by decide)
    simp only [pickL, nth] at h9
    exact ⟨(decide (rc = 0), ⟨b, sb, some ⟨g, 0, none⟩, ln, lc, EA2, en2, ec2, st, l, E2⟩), rfl, ⟨.of hi ho hr rfl, ⟨rfl, rfl⟩⟩, h9⟩
  refine cv_seq_k fun K hK => ?_
  refine cv_region_then rfl ?_
  simp -implicitDefEqProofs (disch := first | omega | decide) only [seval, -Int.reducePow, -Nat.reducePow, cC, pv, binv, sHjG1, undef, h11, g4]
  refine hK _ _ ?_
  clear hK K
  refine cv_cond ?_
  simp -implicitDefEqProofs (disch := first | omega | decide) only [seval, -Int.reducePow, -Nat.reducePow, cC, pv, binv, sHjG1, undef, h11, g4]
  by_cases h2 : e.op = 2
  · have d2 : decide (e.op = 2) = true := decide_eq_true h2
    refine cv_seq_k fun K hK => ?_
    refine cv_region_then rfl ?_
    simp -implicitDefEqProofs (disch := first | omega | decide) only [seval, -Int.reducePow, -Nat.reducePow, cC, pv, binv, sHjG1, undef, d2, g4]
    refine hK _ _ ?_
    clear hK K
    refine cv_cond ?_
    simp -implicitDefEqProofs (disch := first | omega | decide) only [seval, -Int.reducePow, -Nat.reducePow, cC, pv, binv, sHjG1, undef, d2, g4]
    refine cv_seq_k fun K hK => ?_
    refine cv_cut (fun _ _ => True) (fun F' L' => F' 0 = G4 0 ∧ F' 5 = G4 5 ∧ F' 69 = .bool (decide (o.ow = e.pl) && decide (lo = [])) ∧ L' = [.blk b3 37 [.int .i64 e.pl, .int .i64 e.op, .int .u64 (e.h : Int), .int .u64 (e.ar : Int), .int .i64 e.er], .blk b 78 [.slice (some ⟨sb, 0, none⟩) 65 65, .slice (some ⟨g, 0, none⟩) ln lc, .slice EA en ec], .row (.slice (some ⟨sb, 0, none⟩) 65 65) 3 1 65 (stCells st), .row (.slice (some ⟨g, 0, none⟩) ln lc) 43 6 ln (boCells l), .row (.slice EA en ec) 82 4 en (bwCells E)]) ?_ ?_
    · cases hw1 : decide (o.ow = e.pl) with
      | false =>
        rw [hw1] at g4
        refine cv_region_then rfl ?_
        simp -implicitDefEqProofs (disch := first | omega | decide) only [seval, -Int.reducePow, -Nat.reducePow, cC, pv, binv, sHjG1, undef, g4]
      | true =>
        rw [hw1] at g4
        refine cv_region_then rfl ?_
        simp -implicitDefEqProofs (disch := first | omega | decide) only [seval, -Int.reducePow, -Nat.reducePow, cC, pv, binv, sHjG1, undef, g4]
        rcases lo with _ | ⟨c0, lo⟩
        · simp at hn1
          simp [← hn1]
        · simp at hn1
          simp
          omega
    intro G5 L' _ hF
    obtain ⟨q0, q5, q69, rfl⟩ := hF
    have g5_0 := q0.trans g4_0
    have g5_5 := q5.trans g4_5
    have g5_69 := q69
    clear q0 q5 q69
    have g5 := And.intro g5_0 (And.intro g5_5 g5_69)
    refine hK _ _ ?_
    clear hK K
    refine cv_cond ?_
    cases hoo : (decide (o.ow = e.pl) && decide (lo = [])) with
    | true =>
      simp -implicitDefEqProofs (disch := first | omega | decide) only [seval, -Int.reducePow, -Nat.reducePow, cC, pv, binv, sHjG1, undef, hoo, g5]
      refine cv_seq_k fun K hK => ?_
      refine cv_region_then rfl ?_
      simp -implicitDefEqProofs (disch := first | omega | decide) only [seval, -Int.reducePow, -Nat.reducePow, cC, pv, binv, sHjG1, undef, g5]
      refine callV_sub [.blk b3 37 [.int .i64 e.pl, .int .i64 e.op, .int .u64 (e.h : Int), .int .u64 (e.ar : Int), .int .i64 e.er]] (bkL ⟨b, sb, some ⟨g, 0, none⟩, ln, lc, EA, en, ec, st, l, E⟩) (List.Perm.refl _) tupB bkL _ (fun w hw => bDrop_any ⟨b, sb, some ⟨g, 0, none⟩, ln, lc, EA, en, ec, st, l, E⟩ i o ho ho64 hl hE w hw) ?_
      rintro y ⟨⟨hy1, hy2⟩, hy3, hy4, hy5⟩
      simp -implicitDefEqProofs (disch := first | omega | decide) only [seval, -Int.reducePow, -Nat.reducePow, cC, pv, binv, sHjG1, undef, tupB, g5]
      refine hK _ _ ?_
      clear hK K
      refine cv_seq_k fun K hK => ?_
      refine cv_region_then rfl ?_
      simp -implicitDefEqProofs (disch := first | omega | decide) only [seval, -Int.reducePow, -Nat.reducePow, cC, pv, binv, sHjG1, undef, g5]
      refine hK _ _ ?_
      clear hK K
      refine cv_ret ⟨_, (by simp -implicitDefEqProofs (disch := first | omega | decide) only [seval, -Int.reducePow, -Nat.reducePow, cC, pv, binv, sHjG1, undef, g5]; rfl), fun w hw => ?_⟩
      have hr : ObjAt ⟨b, sb, some ⟨g, 0, none⟩, ln, lc, EA, en, ec, st, l, E⟩ e i o true y := by
        unfold ObjAt
        rw [← hlo] at hoo
        simp only [h2, hoo]
        exact ⟨trivial, hy4, hy5⟩
      exact ⟨(true, y), rfl, ⟨.of hi ho hr hy3, ⟨hy1, hy2⟩⟩, hw.sub (List.sublist_append_left _ _)⟩
    | false =>
      have hr : ObjAt ⟨b, sb, some ⟨g, 0, none⟩, ln, lc, EA, en, ec, st, l, E⟩ e i o false ⟨b, sb, some ⟨g, 0, none⟩, ln, lc, EA, en, ec, st, l, E⟩ := by
        unfold ObjAt
        rw [← hlo] at hoo
        simp [h2, hoo]
      simp -implicitDefEqProofs (disch := first | omega | decide) only [seval, -Int.reducePow, -Nat.reducePow, cC, pv, binv, sHjG1, undef, hoo, g5]
      refine cv_skip ?_
      try simp only [blockQ, thenQ]
      refine hK _ _ ?_
      clear hK K
      refine cv_seq_k fun K hK => ?_
      refine cv_region_then rfl ?_
      simp -implicitDefEqProofs (disch := first | omega | decide) only [seval, -Int.reducePow, -Nat.reducePow, cC, pv, binv, sHjG1, undef, g5]
      refine hK _ _ ?_
      clear hK K
      refine cv_ret ⟨_, (by simp -implicitDefEqProofs (disch := first | omega | decide) only [seval, -Int.reducePow, -Nat.reducePow, cC, pv, binv, sHjG1, undef, g5]; rfl), fun w hw => ?_⟩
      exact ⟨(false, ⟨b, sb, some ⟨g, 0, none⟩, ln, lc, EA, en, ec, st, l, E⟩), rfl, ⟨.of hi ho hr rfl, ⟨rfl, rfl⟩⟩, hw.tail⟩
  refine cv_seq_k fun K hK => ?_
  refine cv_region_then rfl ?_
  simp -implicitDefEqProofs (disch := first | omega | decide) only [seval, -Int.reducePow, -Nat.reducePow, cC, pv, binv, sHjG1, undef, h2, g4]
  refine hK _ _ ?_
  clear hK K
  refine cv_cond ?_
  simp -implicitDefEqProofs (disch := first | omega | decide) only [seval, -Int.reducePow, -Nat.reducePow, cC, pv, binv, sHjG1, undef, h2, g4]
  by_cases h8 : e.op = 8
  · have d8 : decide (e.op = 8) = true := decide_eq_true h8
    refine cv_seq_k fun K hK => ?_
    refine cv_region_then rfl ?_
    simp -implicitDefEqProofs (disch := first | omega | decide) only [seval, -Int.reducePow, -Nat.reducePow, cC, pv, binv, sHjG1, undef, d8, g4]
    refine hK _ _ ?_
    clear hK K
    refine cv_cond ?_
    simp -implicitDefEqProofs (disch := first | omega | decide) only [seval, -Int.reducePow, -Nat.reducePow, cC, pv, binv, sHjG1, undef, d8, g4]
    refine cv_seq_k fun K hK => ?_
    refine cv_cut (fun _ _ => True) (fun F' L' => F' 0 = G4 0 ∧ F' 3 = G4 3 ∧ F' 5 = G4 5 ∧ F' 83 = .bool (decide (o.ow = e.pl) && decide (lo = []) && othB st e) ∧ L' = [.blk b3 37 [.int .i64 e.pl, .int .i64 e.op, .int .u64 (e.h : Int), .int .u64 (e.ar : Int), .int .i64 e.er], .blk b 78 [.slice (some ⟨sb, 0, none⟩) 65 65, .slice (some ⟨g, 0, none⟩) ln lc, .slice EA en ec], .row (.slice (some ⟨sb, 0, none⟩) 65 65) 3 1 65 (stCells st), .row (.slice (some ⟨g, 0, none⟩) ln lc) 43 6 ln (boCells l), .row (.slice EA en ec) 82 4 en (bwCells E)]) ?_ ?_
    · cases hw1 : decide (o.ow = e.pl) with
      | false =>
        rw [hw1] at g4
        refine cv_region_then rfl ?_
        simp -implicitDefEqProofs (disch := first | omega | decide) only [seval, -Int.reducePow, -Nat.reducePow, cC, pv, binv, sHjG1, undef, g4]
      | true =>
        rw [hw1] at g4
        rcases lo with _ | ⟨c0, lo⟩
        · simp at hn1
          rw [← hn1] at g4
          refine cv_region_then rfl ?_
          simp -implicitDefEqProofs (disch := first | omega | decide) only [seval, -Int.reducePow, -Nat.reducePow, cC, pv, binv, sHjG1, undef, g4]
        · simp at hn1
          have hn0 : decide ((n1 : Int) = 0) = false := decide_eq_false (by omega)
          refine cv_region_then rfl ?_
          simp -implicitDefEqProofs (disch := first | omega | decide) only [seval, -Int.reducePow, -Nat.reducePow, cC, pv, binv, sHjG1, undef, hn0, g4]
    intro G6 L' _ hF
    obtain ⟨q0, q3, q5, q83, rfl⟩ := hF
    have g6_0 := q0.trans g4_0
    have g6_3 := q3.trans g4_3
    have g6_5 := q5.trans g4_5
    have g6_83 := q83
    clear q0 q3 q5 q83
    have g6 := And.intro g6_0 (And.intro g6_3 (And.intro g6_5 g6_83))
    refine hK _ _ ?_
    clear hK K
    refine cv_cond ?_
    cases hoo : (decide (o.ow = e.pl) && decide (lo = []) && othB st e) with
    | true =>
      have har := othB_le (Bool.and_eq_true_iff.1 hoo).2
      have hwa : IntKind.i64.wrap (e.ar : Int) = (e.ar : Int) := wrap_in (by omega) (by omega)
      have o1 := ones_bo l
      have hput := bo_set ho e.ar
      simp -implicitDefEqProofs (disch := first | omega | decide) only [seval, -Int.reducePow, -Nat.reducePow, cC, pv, binv, sHjG1, undef, hoo, g6]
      refine cv_cap 3 rfl fun hcap hcmx => ?_
      refine cv_seq_k fun K hK => ?_
      refine cv_region_then rfl ?_
      simp -implicitDefEqProofs (disch := first | omega | decide) only [seval, -Int.reducePow, -Nat.reducePow, cC, pv, binv, sHjG1, undef, g6]
      intro bA hbA hfA
      simp -implicitDefEqProofs (disch := first | omega | decide) only [seval, -Int.reducePow, -Nat.reducePow, cC, pv, binv, sHjG1, undef, g6]
      refine appV_lit 0 tap30 rfl rfl (fun w hw => src_row (nth_mem (k := 4) rfl) hw) o1 (by omega) (by omega) ?_
      intro A3 c3 hl3 hr3
      simp -implicitDefEqProofs (disch := first | omega | decide) only [seval, -Int.reducePow, -Nat.reducePow, cC, pv, binv, sHjG1, undef, Nat.zero_add, List.nil_append, g6]
      refine hK _ _ ?_
      clear hK K
      refine cv_gen fun G7 hG => ?_
      have g7_0 := congrFun hG 0
      have g7_3 := congrFun hG 3
      have g7_5 := congrFun hG 5
      have g7_11 := congrFun hG 11
      clear hG
      try simp -implicitDefEqProofs (disch := first | omega | decide) only [seval, -Int.reducePow, -Nat.reducePow, cC, pv, binv, sHjG1, undef, g6] at g7_0 g7_3 g7_5 g7_11
      have g7 := And.intro g7_0 (And.intro g7_3 (And.intro g7_5 g7_11))
      refine cv_rowA 0 rfl (by omega) fun g2 hAA hg2 hNN => ?_
      subst hAA
      simp only [List.eraseIdx_cons_zero, List.eraseIdx_cons_succ, neB_nil, neB_blk, neB_row, neB_snap, and_true, List.not_mem_nil, or_false, sHjG1, undef] at hNN hg2
      replace hg2 := And.intro hg2 hNN
      clear hNN
      refine cv_seq_k fun K hK => ?_
      refine cv_region_then rfl ?_
      simp -implicitDefEqProofs (disch := first | omega | decide) only [seval, -Int.reducePow, -Nat.reducePow, cC, pv, binv, sHjG1, undef, hwa, g7]
      refine ⟨_, sv_row 0 (i := i * 6 + 1) (v := .int .i64 e.ar) rfl (by rw [boCells_len]; omega) (by kernel_rfl) rfl rfl, fun tok htok => ?_⟩
      subst htok
      simp -implicitDefEqProofs (disch := first | omega | decide) only [seval, -Int.reducePow, -Nat.reducePow, cC, pv, binv, sHjG1, undef, hwa, hput, g7]
      refine hK _ _ ?_
      clear hK K
      refine cv_seq_k fun K hK => ?_
      refine cv_region_then rfl ?_
      simp -implicitDefEqProofs (disch := first | omega | decide) only [seval, -Int.reducePow, -Nat.reducePow, cC, pv, binv, sHjG1, undef, g7]
      refine hK _ _ ?_
      clear hK K
      refine cv_seq_k fun K hK => ?_
      refine cv_region_then rfl ?_
      simp -implicitDefEqProofs (disch := first | omega | decide) only [seval, -Int.reducePow, -Nat.reducePow, cC, pv, binv, sHjG1, undef, g7]
      refine hK _ _ ?_
      clear hK K
      refine cv_ret ⟨_, (by simp -implicitDefEqProofs (disch := first | omega | decide) only [seval, -Int.reducePow, -Nat.reducePow, cC, pv, binv, sHjG1, undef, g7]; rfl), fun w hw => ?_⟩
      have hr : ObjAt ⟨b, sb, some ⟨g, 0, none⟩, ln, lc, EA, en, ec, st, l, E⟩ e i o true ⟨b, sb, some ⟨g2, 0, none⟩, ln, c3, EA, en, ec, st, l.set i ⟨o.h, e.ar⟩, E⟩ := by
        unfold ObjAt
        rw [← hlo] at hoo
        simp only [h8, hoo]
        exact ⟨trivial, trivial, trivial⟩
      have h9 := hw.pick (ix := [2, 3, 0, 5]) (by decide)
      simp only [pickL, nth] at h9
      exact ⟨(true, ⟨b, sb, some ⟨g2, 0, none⟩, ln, c3, EA, en, ec, st, l.set i ⟨o.h, e.ar⟩, E⟩), rfl, ⟨.of hi ho hr rfl, ⟨rfl, rfl⟩⟩, h9⟩
    | false =>
      have hr : ObjAt ⟨b, sb, some ⟨g, 0, none⟩, ln, lc, EA, en, ec, st, l, E⟩ e i o false ⟨b, sb, some ⟨g, 0, none⟩, ln, lc, EA, en, ec, st, l, E⟩ := by
        unfold ObjAt
        rw [← hlo] at hoo
        simp [h8, hoo]
      simp -implicitDefEqProofs (disch := first | omega | decide) only [seval, -Int.reducePow, -Nat.reducePow, cC, pv, binv, sHjG1, undef, hoo, g6]
      refine cv_skip ?_
      try simp only [blockQ, thenQ]
      refine hK _ _ ?_
      clear hK K
      refine cv_seq_k fun K hK => ?_
      refine cv_region_then rfl ?_
      simp -implicitDefEqProofs (disch := first | omega | decide) only [seval, -Int.reducePow, -Nat.reducePow, cC, pv, binv, sHjG1, undef, g6]
      refine hK _ _ ?_
      clear hK K
      refine cv_ret ⟨_, (by simp -implicitDefEqProofs (disch := first | omega | decide) only [seval, -Int.reducePow, -Nat.reducePow, cC, pv, binv, sHjG1, undef, g6]; rfl), fun w hw => ?_⟩
      exact ⟨(false, ⟨b, sb, some ⟨g, 0, none⟩, ln, lc, EA, en, ec, st, l, E⟩), rfl, ⟨.of hi ho hr rfl, ⟨rfl, rfl⟩⟩, hw.tail⟩
  refine cv_seq_k fun K hK => ?_
  refine cv_region_then rfl ?_
  simp -implicitDefEqProofs (disch := first | omega | decide) only [seval, -Int.reducePow, -Nat.reducePow, cC, pv, binv, sHjG1, undef, h8, g4]
  refine hK _ _ ?_
  clear hK K
  refine cv_cond ?_
  simp -implicitDefEqProofs (disch := first | omega | decide) only [seval, -Int.reducePow, -Nat.reducePow, cC, pv, binv, sHjG1, undef, h8, g4]
  by_cases h9 : e.op = 9
  · have d9 : decide (e.op = 9) = true := decide_eq_true h9
    refine cv_seq_k fun K hK => ?_
    refine cv_region_then rfl ?_
    simp -implicitDefEqProofs (disch := first | omega | decide) only [seval, -Int.reducePow, -Nat.reducePow, cC, pv, binv, sHjG1, undef, d9, g4]
    refine hK _ _ ?_
    clear hK K
    refine cv_cond ?_
    simp -implicitDefEqProofs (disch := first | omega | decide) only [seval, -Int.reducePow, -Nat.reducePow, cC, pv, binv, sHjG1, undef, d9, g4]
    cases hoo : (decide (o.ow = e.pl) && othB st e) with
    | false =>
      have hr : ObjAt ⟨b, sb, some ⟨g, 0, none⟩, ln, lc, EA, en, ec, st, l, E⟩ e i o false ⟨b, sb, some ⟨g, 0, none⟩, ln, lc, EA, en, ec, st, l, E⟩ := by
        unfold ObjAt LendAt
        simp [h9, hoo]
      refine cv_seq_k fun K hK => ?_
      refine cv_cut (fun _ _ => True) (fun F' L' => F' 4 = .bool false ∧ L' = [.blk b3 37 [.int .i64 e.pl, .int .i64 e.op, .int .u64 (e.h : Int), .int .u64 (e.ar : Int), .int .i64 e.er], .blk b 78 [.slice (some ⟨sb, 0, none⟩) 65 65, .slice (some ⟨g, 0, none⟩) ln lc, .slice EA en ec], .row (.slice (some ⟨sb, 0, none⟩) 65 65) 3 1 65 (stCells st), .row (.slice (some ⟨g, 0, none⟩) ln lc) 43 6 ln (boCells l), .row (.slice EA en ec) 82 4 en (bwCells E)]) ?_ ?_
      · rcases Bool.eq_false_or_eq_true (decide (o.ow = e.pl)) with hw1 | hw1
        · rw [hw1, Bool.true_and] at hoo
          rw [hw1, hoo] at g4
          refine cv_draw [(true, 0), (true, 1), (true, 2), (true, 3), (true, 4), (true, 5), (true, 6), (true, 7), (true, 8), (true, 9), (true, 10), (true, 11), (false, 12), (true, 13), (true, 14), (true, 15)] [] mixA rfl (by kernel_rfl) (by kernel_rfl) rfl rfl ?_
          simp -implicitDefEqProofs (disch := first | omega | decide) only [seval, -Int.reducePow, -Nat.reducePow, cC, pv, binv, sHjG1, undef, g4]
        · rw [hw1] at g4
          refine cv_draw [(true, 0), (true, 1), (true, 2), (true, 3), (true, 4), (true, 5), (true, 6), (true, 7), (true, 8), (true, 9), (true, 10), (true, 11), (false, 12), (true, 13), (true, 14), (true, 15)] [] mixA rfl (by kernel_rfl) (by kernel_rfl) rfl rfl ?_
          simp -implicitDefEqProofs (disch := first | omega | decide) only [seval, -Int.reducePow, -Nat.reducePow, cC, pv, binv, sHjG1, undef, g4]
      intro G8 L' _ hF
      obtain ⟨q4, rfl⟩ := hF
      have g8_4 := q4
      clear q4
      have g8 := g8_4
      refine hK _ _ ?_
      clear hK K
      refine cv_ret ⟨_, (by simp -implicitDefEqProofs (disch := first | omega | decide) only [seval, -Int.reducePow, -Nat.reducePow, cC, pv, binv, sHjG1, undef, g8]; rfl), fun w hw => ?_⟩
      exact ⟨(false, ⟨b, sb, some ⟨g, 0, none⟩, ln, lc, EA, en, ec, st, l, E⟩), rfl, ⟨.of hi ho hr rfl, ⟨rfl, rfl⟩⟩, hw.tail⟩
    | true =>
      obtain ⟨hw1, hw2⟩ := Bool.and_eq_true_iff.1 hoo
      have har := othB_le hw2
      have hwa : IntKind.i64.wrap (e.ar : Int) = (e.ar : Int) := wrap_in (by omega) (by omega)
      rw [hw1, hw2] at g4
      refine cv_seq_k fun K hK => ?_
      refine cv_draw_of (pickL [0] _) (fun w hw => hw.pick (by decide)) (by simp only [pickL, nth, suf_cons, suf_nil, List.mem_cons, true_or, or_true, and_true, eq_self]) [(true, 0), (true, 1), (true, 2), (true, 3), (true, 4), (true, 5), (true, 6), (true, 7), (true, 8), (true, 9), (true, 10), (true, 11), (false, 12), (true, 13), (true, 14), (true, 15)] [] mixA rfl (by kernel_rfl) (by kernel_rfl) rfl rfl ?_
      simp -implicitDefEqProofs (disch := first | omega | decide) only [seval, -Int.reducePow, -Nat.reducePow, cC, pv, binv, sHjG1, undef, hwa, g4]
      refine callV_sub [.blk b3 37 [.int .i64 e.pl, .int .i64 e.op, .int .u64 (e.h : Int), .int .u64 (e.ar : Int), .int .i64 e.er], .row (.slice (some ⟨sb, 0, none⟩) 65 65) 3 1 65 (stCells st), .row (.slice (some ⟨g, 0, none⟩) ln lc) 43 6 ln (boCells l)] (lgL b (.slice (some ⟨sb, 0, none⟩) 65 65) (.slice (some ⟨g, 0, none⟩) ln lc) ⟨EA, en, ec, E⟩) (.cons _ (perm_bk _ _ _ _)) lgV (lgL2 b (.slice (some ⟨sb, 0, none⟩) 65 65) (.slice (some ⟨g, 0, none⟩) ln lc)) _ (fun w hw => rLend_any b _ _ ⟨EA, en, ec, E⟩ (slotF o.h) e.ar 1 (by decide) hE hc w hw) ?_
      rintro ⟨rc, ⟨EA2, en2, ec2, E2⟩⟩ hrc
      dsimp only at hrc
      simp -implicitDefEqProofs (disch := first | omega | decide) only [seval, -Int.reducePow, -Nat.reducePow, cC, pv, binv, sHjG1, undef, lgV, lgL2, lgL, g4]
      refine hK _ _ ?_
      clear hK K
      refine cv_ret ⟨_, (by simp -implicitDefEqProofs (disch := first | omega | decide) only [seval, -Int.reducePow, -Nat.reducePow, cC, pv, binv, sHjG1, undef, g4]; rfl), fun w hw => ?_⟩
      have hr : ObjAt ⟨b, sb, some ⟨g, 0, none⟩, ln, lc, EA, en, ec, st, l, E⟩ e i o (decide (rc = 0)) ⟨b, sb, some ⟨g, 0, none⟩, ln, lc, EA2, en2, ec2, st, l, E2⟩ := by
        unfold ObjAt LendAt
        simp only [h9, hoo]
        exact ⟨rc, rfl, hrc, trivial⟩
      have h9 := hw.pick (ix := [0, 3, 4, 1]) (by decide)
      simp only [pickL, nth] at h9
      exact ⟨(decide (rc = 0), ⟨b, sb, some ⟨g, 0, none⟩, ln, lc, EA2, en2, ec2, st, l, E2⟩), rfl, ⟨.of hi ho hr rfl, ⟨rfl, rfl⟩⟩, h9⟩
  refine cv_seq_k fun K hK => ?_
  refine cv_region_then rfl ?_
  simp -implicitDefEqProofs (disch := first | omega | decide) only [seval, -Int.reducePow, -Nat.reducePow, cC, pv, binv, sHjG1, undef, h9, g4]
  refine hK _ _ ?_
  clear hK K
  refine cv_cond ?_
  simp -implicitDefEqProofs (disch := first | omega | decide) only [seval, -Int.reducePow, -Nat.reducePow, cC, pv, binv, sHjG1, undef, h9, g4]
  by_cases h10 : e.op = 10
  · have d10 : decide (e.op = 10) = true := decide_eq_true h10
    refine cv_seq_k fun K hK => ?_
    refine cv_region_then rfl ?_
    simp -implicitDefEqProofs (disch := first | omega | decide) only [seval, -Int.reducePow, -Nat.reducePow, cC, pv, binv, sHjG1, undef, d10, g4]
    refine hK _ _ ?_
    clear hK K
    refine cv_cond ?_
    simp -implicitDefEqProofs (disch := first | omega | decide) only [seval, -Int.reducePow, -Nat.reducePow, cC, pv, binv, sHjG1, undef, d10, g4]
    cases hoo : (decide (o.ow = e.pl) && othB st e) with
    | false =>
      have hr : ObjAt ⟨b, sb, some ⟨g, 0, none⟩, ln, lc, EA, en, ec, st, l, E⟩ e i o false ⟨b, sb, some ⟨g, 0, none⟩, ln, lc, EA, en, ec, st, l, E⟩ := by
        unfold ObjAt LendAt
        simp [h10, hoo]
      refine cv_seq_k fun K hK => ?_
      refine cv_cut (fun _ _ => True) (fun F' L' => F' 4 = .bool false ∧ L' = [.blk b3 37 [.int .i64 e.pl, .int .i64 e.op, .int .u64 (e.h : Int), .int .u64 (e.ar : Int), .int .i64 e.er], .blk b 78 [.slice (some ⟨sb, 0, none⟩) 65 65, .slice (some ⟨g, 0, none⟩) ln lc, .slice EA en ec], .row (.slice (some ⟨sb, 0, none⟩) 65 65) 3 1 65 (stCells st), .row (.slice (some ⟨g, 0, none⟩) ln lc) 43 6 ln (boCells l), .row (.slice EA en ec) 82 4 en (bwCells E)]) ?_ ?_
      · rcases Bool.eq_false_or_eq_true (decide (o.ow = e.pl)) with hw1 | hw1
        · rw [hw1, Bool.true_and] at hoo
          rw [hw1, hoo] at g4
          refine cv_draw [(true, 0), (true, 1), (true, 2), (true, 3), (true, 4), (true, 5), (true, 6), (true, 7), (true, 8), (true, 9), (true, 10), (true, 11), (false, 12), (true, 13), (true, 14), (true, 15)] [] mixA rfl (by kernel_rfl) (by kernel_rfl) rfl rfl ?_
          simp -implicitDefEqProofs (disch := first | omega | decide) only [seval, -Int.reducePow, -Nat.reducePow, cC, pv, binv, sHjG1, undef, g4]
        · rw [hw1] at g4
          refine cv_draw [(true, 0), (true, 1), (true, 2), (true, 3), (true, 4), (true, 5), (true, 6), (true, 7), (true, 8), (true, 9), (true, 10), (true, 11), (false, 12), (true, 13), (true, 14), (true, 15)] [] mixA rfl (by kernel_rfl) (by kernel_rfl) rfl rfl ?_
          simp -implicitDefEqProofs (disch := first | omega | decide) only [seval, -Int.reducePow, -Nat.reducePow, cC, pv, binv, sHjG1, undef, g4]
      intro G9 L' _ hF
      obtain ⟨q4, rfl⟩ := hF
      have g9_4 := q4
      clear q4
      have g9 := g9_4
      refine hK _ _ ?_
      clear hK K
      refine cv_ret ⟨_, (by simp -implicitDefEqProofs (disch := first | omega | decide) only [seval, -Int.reducePow, -Nat.reducePow, cC, pv, binv, sHjG1, undef, g9]; rfl), fun w hw => ?_⟩
      exact ⟨(false, ⟨b, sb, some ⟨g, 0, none⟩, ln, lc, EA, en, ec, st, l, E⟩), rfl, ⟨.of hi ho hr rfl, ⟨rfl, rfl⟩⟩, hw.tail⟩
    | true =>
      obtain ⟨hw1, hw2⟩ := Bool.and_eq_true_iff.1 hoo
      have har := othB_le hw2
      have hwa : IntKind.i64.wrap (e.ar : Int) = (e.ar : Int) := wrap_in (by omega) (by omega)
      rw [hw1, hw2] at g4
      refine cv_seq_k fun K hK => ?_
      refine cv_draw_of (pickL [0] _) (fun w hw => hw.pick (by decide)) (by simp only [pickL, nth, suf_cons, suf_nil, List.mem_cons, true_or, or_true, and_true, eq_self]) [(true, 0), (true, 1), (true, 2), (true, 3), (true, 4), (true, 5), (true, 6), (true, 7), (true, 8), (true, 9), (true, 10), (true, 11), (false, 12), (true, 13), (true, 14), (true, 15)] [] mixA rfl (by kernel_rfl) (by kernel_rfl) rfl rfl ?_
      simp -implicitDefEqProofs (disch := first | omega | decide) only [seval, -Int.reducePow, -Nat.reducePow, cC, pv, binv, sHjG1, undef, hwa, g4]
      refine callV_sub [.blk b3 37 [.int .i64 e.pl, .int .i64 e.op, .int .u64 (e.h : Int), .int .u64 (e.ar : Int), .int .i64 e.er], .row (.slice (some ⟨sb, 0, none⟩) 65 65) 3 1 65 (stCells st), .row (.slice (some ⟨g, 0, none⟩) ln lc) 43 6 ln (boCells l)] (lgL b (.slice (some ⟨sb, 0, none⟩) 65 65) (.slice (some ⟨g, 0, none⟩) ln lc) ⟨EA, en, ec, E⟩) (.cons _ (perm_bk _ _ _ _)) lgV (lgL2 b (.slice (some ⟨sb, 0, none⟩) 65 65) (.slice (some ⟨g, 0, none⟩) ln lc)) _ (fun w hw => rLend_any b _ _ ⟨EA, en, ec, E⟩ (slotF o.h) e.ar 2 (by decide) hE hc w hw) ?_
      rintro ⟨rc, ⟨EA2, en2, ec2, E2⟩⟩ hrc
      dsimp only at hrc
      simp -implicitDefEqProofs (disch := first | omega | decide) only [seval, -Int.reducePow, -Nat.reducePow, cC, pv, binv, sHjG1, undef, lgV, lgL2, lgL, g4]
      refine hK _ _ ?_
      clear hK K
      refine cv_ret ⟨_, (by simp -implicitDefEqProofs (disch := first | omega | decide) only [seval, -Int.reducePow, -Nat.reducePow, cC, pv, binv, sHjG1, undef, g4]; rfl), fun w hw => ?_⟩
      have hr : ObjAt ⟨b, sb, some ⟨g, 0, none⟩, ln, lc, EA, en, ec, st, l, E⟩ e i o (decide (rc = 0)) ⟨b, sb, some ⟨g, 0, none⟩, ln, lc, EA2, en2, ec2, st, l, E2⟩ := by
        unfold ObjAt LendAt
        simp only [h10, hoo]
        exact ⟨rc, rfl, hrc, trivial⟩
      have h9 := hw.pick (ix := [0, 3, 4, 1]) (by decide)
      simp only [pickL, nth] at h9
      exact ⟨(decide (rc = 0), ⟨b, sb, some ⟨g, 0, none⟩, ln, lc, EA2, en2, ec2, st, l, E2⟩), rfl, ⟨.of hi ho hr rfl, ⟨rfl, rfl⟩⟩, h9⟩
  refine cv_seq_k fun K hK => ?_
  refine cv_region_then rfl ?_
  simp -implicitDefEqProofs (disch := first | omega | decide) only [seval, -Int.reducePow, -Nat.reducePow, cC, pv, binv, sHjG1, undef, h10, g4]
  refine hK _ _ ?_
  clear hK K
  refine cv_cond ?_
  simp -implicitDefEqProofs (disch := first | omega | decide) only [seval, -Int.reducePow, -Nat.reducePow, cC, pv, binv, sHjG1, undef, h10, g4]
  have hr : ObjAt ⟨b, sb, some ⟨g, 0, none⟩, ln, lc, EA, en, ec, st, l, E⟩ e i o false ⟨b, sb, some ⟨g, 0, none⟩, ln, lc, EA, en, ec, st, l, E⟩ := by
    unfold ObjAt
    simp [h11, h2, h8, h9, h10]
  refine cv_skip ?_
  try simp only [blockQ, thenQ]
  refine hK _ _ ?_
  clear hK K
  refine cv_seq_k fun K hK => ?_
  refine cv_region_then rfl ?_
  simp -implicitDefEqProofs (disch := first | omega | decide) only [seval, -Int.reducePow, -Nat.reducePow, cC, pv, binv, sHjG1, undef, g4]
  refine hK _ _ ?_
  clear hK K
  refine cv_ret ⟨_, (by simp -implicitDefEqProofs (disch := first | omega | decide) only [seval, -Int.reducePow, -Nat.reducePow, cC, pv, binv, sHjG1, undef, g4]; rfl), fun w hw => ?_⟩
  exact ⟨(false, ⟨b, sb, some ⟨g, 0, none⟩, ln, lc, EA, en, ec, st, l, E⟩), rfl, ⟨.of hi ho hr rfl, ⟨rfl, rfl⟩⟩, hw.tail⟩
end Go.Proofs.Ytaifnipgefkemaa
/- The reference's book: an event. -/
namespace Go.Proofs.Ytaifnipgefkemaa
open Go.RowKit Go.Shelf
set_option linter.unusedVariables false
set_option linter.unusedSimpArgs false
set_option maxRecDepth 100000
def TakeOk (x : BkR) (e : EvR) (r : Bool) (y : BkR) : Prop :=
  if e.pl < 1 ∨ 64 < e.pl then r = false
  else if e.op = 32 then (if x.st[e.pl.toNat]? = some 0 then r = true ∧ y.st = x.st.set e.pl.toNat 1 ∧ y.l = x.l ∧ y.E = x.E else r = false)
  else if ¬ x.st[e.pl.toNat]? = some 1 then r = false
  else if e.op = 33 then r = decide ((x.l.filter (ownB e.pl)).length = e.ar) ∧ y.st = x.st.set e.pl.toNat 2 ∧ y.l = (x.l.filter fun o => !ownB e.pl o) ∧ y.E = (x.E.filter fun b => !decide (b.ho = e.pl)).filter fun b => !goneB e.pl x.l b
  else if e.op = 1 then (if (decide (0 < genF e.h ∧ 0 < tagF e.h) && !busyB x.l (slotF e.h)) = true then r = true ∧ y.st = x.st ∧ (∃ P Q, AddOk ⟨e.h, e.pl⟩ x.l y.l P Q) ∧ y.E = x.E else r = false)
  else ObjOk x e r y
def boV1 (e : EvR) : Value := boV ⟨e.h, e.pl⟩
set_option maxRecDepth 100000 in
theorem sHjH1 : type_of% (And.intro (And.intro @Nat.mul_one @wrap_in) (And.intro @cMv (And.intro @cM @evBox.eq_1))) := (And.intro (And.intro @Nat.mul_one @wrap_in) (And.intro @cMv (And.intro @cM @evBox.eq_1)))
theorem rQuiet_any (e : EvR) (W : World) : Calls Try.prog 41 #[evV e] W fun en w' => en = .returned (.bool (evSkip e)) ∧ Below W.heap.size W w' := by
  refine calls_cv (M := []) (n := 31) [.tmp 2] rfl Try.func41 rfl rfl (Nat.le_of_ble_eq_true rfl) (St.nil _ _) ?_
  refine cv_seq_k fun K hK => ?_
  refine cv_region_then rfl ?_
  simp -implicitDefEqProofs (disch := first | omega | decide) only [seval, -Int.reducePow, -Nat.reducePow, cC, pv, binv, sHjH1, undef, evV]
  intro b1 hb1
  refine hK _ _ ?_
  clear hK K
  refine cv_seq_k fun K hK => ?_
  refine cv_cut (fun _ _ => True) (fun F' L' => F' 2 = .bool (evSkip e) ∧ L' = [evBox b1 e]) ?_ ?_
  · unfold evSkip
    by_cases h0 : e.er = 0
    · by_cases h3 : e.op = 3
      · refine cv_region_then rfl ?_
        simp -implicitDefEqProofs (disch := first | omega | decide) only [seval, -Int.reducePow, -Nat.reducePow, cC, pv, binv, sHjH1, undef, h0, h3]
      by_cases h4 : e.op = 4
      · refine cv_region_then rfl ?_
        simp -implicitDefEqProofs (disch := first | omega | decide) only [seval, -Int.reducePow, -Nat.reducePow, cC, pv, binv, sHjH1, undef, h0, h4]
      by_cases h5 : e.op = 5
      · refine cv_region_then rfl ?_
        simp -implicitDefEqProofs (disch := first | omega | decide) only [seval, -Int.reducePow, -Nat.reducePow, cC, pv, binv, sHjH1, undef, h0, h5]
      by_cases h6 : e.op = 6
      · refine cv_region_then rfl ?_
        simp -implicitDefEqProofs (disch := first | omega | decide) only [seval, -Int.reducePow, -Nat.reducePow, cC, pv, binv, sHjH1, undef, h0, h6]
      by_cases h7 : e.op = 7
      · refine cv_region_then rfl ?_
        simp -implicitDefEqProofs (disch := first | omega | decide) only [seval, -Int.reducePow, -Nat.reducePow, cC, pv, binv, sHjH1, undef, h0, h7]
      have hd : ¬ (3 ≤ e.op ∧ e.op ≤ 7) := by omega
      refine cv_region_then rfl ?_
      simp -implicitDefEqProofs (disch := first | omega | decide) only [seval, -Int.reducePow, -Nat.reducePow, cC, pv, binv, sHjH1, undef, h0, h3, h4, h5, h6, h7, hd]
      simp
    · refine cv_region_then rfl ?_
      simp -implicitDefEqProofs (disch := first | omega | decide) only [seval, -Int.reducePow, -Nat.reducePow, cC, pv, binv, sHjH1, undef, h0]
  intro G1 L' _ hF
  obtain ⟨q2, rfl⟩ := hF
  have g1_2 := q2
  clear q2
  have g1 := g1_2
  refine hK _ _ ?_
  clear hK K
  refine cv_ret ⟨_, (by simp -implicitDefEqProofs (disch := first | omega | decide) only [seval, -Int.reducePow, -Nat.reducePow, cC, pv, binv, sHjH1, undef, g1]; rfl), fun w hw => ?_⟩
  exact ⟨rfl, hw.below⟩
set_option maxHeartbeats 4000000 in
theorem bTake_any (x : BkR) (e : EvR) (he : e.ok) (hs : x.st.length = 65) (h64 : ∀ o ∈ x.l, o.h < 18446744073709551616) (hl : x.l.length ≤ 100000) (hE : x.E.length ≤ 100000) (hc : ∀ c ∈ x.E, 0 ≤ c.co ∧ c.co ≤ 4611686018427387904) (W : World) (hst : St (feet (bkL x)) W (bkL x) W) :
    Calls Try.prog 42 #[.pointer (some ⟨x.b, 0, none⟩), evV e] W
    fun en w' => ∃ i : Bool × BkR, en = .returned (bkV i) ∧ (TakeOk x e i.1 i.2 ∧ Bks x i.2) ∧ St (feet (bkL x)) W (bkL2 i) w' := by
  obtain ⟨M, hM⟩ : ∃ M, feet (bkL x) = M := ⟨_, rfl⟩
  rw [hM] at hst ⊢
  obtain ⟨b, sb, LA, ln, lc, EA, en, ec, st, l, E⟩ := x
  unfold bkL at hst
  dsimp only at hst hl hE hs h64 hc ⊢
  clear hM
  have hlen : l.length = ln := by have := (Sl.of_row hst (nth_mem (k := 2) rfl)).len; rw [boCells_len] at this; omega
  have he1 := he.1
  have hap := hst.facts
  simp only [factL_blk, factL_row, neR_row, neR_nil] at hap
  have hsb : sb ≠ b := hap.2.2.1.1 sb rfl
  clear hap
  refine calls_cv (M := M) (n := 74) [.tmp 4] rfl Try.func42 rfl rfl (Nat.le_of_ble_eq_true rfl)  hst ?_
  refine cv_seq_k fun K hK => ?_
  refine cv_region_then rfl ?_
  simp -implicitDefEqProofs (disch := first | omega | decide) only [seval, -Int.reducePow, -Nat.reducePow, cC, pv, binv, sHjH1, undef, evV]
  intro b3 hb3 hf3
  refine hK _ _ ?_
  clear hK K
  refine cv_rowA 2 rfl (by omega) fun gN_ hAA hgN_ hN => ?_
  cases hAA
  clear hgN_
  simp only [List.eraseIdx_cons_zero, List.eraseIdx_cons_succ, neB_nil, neB_blk, neB_row, neB_snap, and_true, sHjH1, undef] at hN
  refine cv_gen fun G2 hG => ?_
  have g2_0 := congrFun hG 0
  have g2_3 := congrFun hG 3
  clear hG
  try simp -implicitDefEqProofs (disch := first | omega | decide) only [seval, -Int.reducePow, -Nat.reducePow, cC, pv, binv, sHjH1, undef] at g2_0 g2_3
  have g2 := And.intro g2_0 g2_3
  refine cv_seq_k fun K hK => ?_
  refine cv_seq_k fun K hK => ?_
  by_cases hpl : e.pl < 1 ∨ 64 < e.pl
  · have hr : TakeOk ⟨b, sb, LA, ln, lc, EA, en, ec, st, l, E⟩ e false ⟨b, sb, LA, ln, lc, EA, en, ec, st, l, E⟩ := by unfold TakeOk; rw [if_pos hpl]
    refine cv_cut (fun _ _ => True) (fun F' L' => F' 0 = G2 0 ∧ F' 3 = G2 3 ∧ F' 12 = .bool true ∧ L' = [.blk b3 37 [.int .i64 e.pl, .int .i64 e.op, .int .u64 (e.h : Int), .int .u64 (e.ar : Int), .int .i64 e.er], .blk b 78 [.slice (some ⟨sb, 0, none⟩) 65 65, .slice LA ln lc, .slice EA en ec], .row (.slice (some ⟨sb, 0, none⟩) 65 65) 3 1 65 (stCells st), .row (.slice LA ln lc) 43 6 ln (boCells l), .row (.slice EA en ec) 82 4 en (bwCells E)]) ?_ ?_
    · by_cases hp1 : e.pl < 1
      · refine cv_region_then rfl ?_
        simp -implicitDefEqProofs (disch := first | omega | decide) only [seval, -Int.reducePow, -Nat.reducePow, cC, pv, binv, sHjH1, undef, hp1, g2]
      · have hp2 : 64 < e.pl := hpl.resolve_left hp1
        refine cv_region_then rfl ?_
        simp -implicitDefEqProofs (disch := first | omega | decide) only [seval, -Int.reducePow, -Nat.reducePow, cC, pv, binv, sHjH1, undef, hp1, hp2, g2]
    intro G3 L' _ hF
    obtain ⟨q0, q3, q12, rfl⟩ := hF
    have g3_0 := q0.trans g2_0
    have g3_3 := q3.trans g2_3
    have g3_12 := q12
    clear q0 q3 q12
    have g3 := And.intro g3_0 (And.intro g3_3 g3_12)
    refine hK _ _ ?_
    clear hK K
    refine cv_cond ?_
    simp -implicitDefEqProofs (disch := first | omega | decide) only [seval, -Int.reducePow, -Nat.reducePow, cC, pv, binv, sHjH1, undef, g3]
    refine cv_seq_k fun K hK => ?_
    refine cv_region_then rfl ?_
    simp -implicitDefEqProofs (disch := first | omega | decide) only [seval, -Int.reducePow, -Nat.reducePow, cC, pv, binv, sHjH1, undef, g3]
    refine hK _ _ ?_
    clear hK K
    refine cv_ret ⟨_, (by simp -implicitDefEqProofs (disch := first | omega | decide) only [seval, -Int.reducePow, -Nat.reducePow, cC, pv, binv, sHjH1, undef, g3]; rfl), fun w hw => ?_⟩
    exact ⟨(false, ⟨b, sb, LA, ln, lc, EA, en, ec, st, l, E⟩), rfl, ⟨hr, ⟨rfl, rfl⟩⟩, hw.tail⟩
  have hp1 : ¬ e.pl < 1 := fun h => hpl (.inl h)
  have hp2 : ¬ 64 < e.pl := fun h => hpl (.inr h)
  refine cv_region_then rfl ?_
  simp -implicitDefEqProofs (disch := first | omega | decide) only [seval, -Int.reducePow, -Nat.reducePow, cC, pv, binv, sHjH1, undef, hp1, hp2, g2]
  refine hK _ _ ?_
  clear hK K
  refine cv_cond ?_
  simp -implicitDefEqProofs (disch := first | omega | decide) only [seval, -Int.reducePow, -Nat.reducePow, cC, pv, binv, sHjH1, undef, hp1, hp2, g2]
  refine cv_skip ?_
  try simp only [blockQ, thenQ]
  refine hK _ _ ?_
  clear hK K
  obtain ⟨v, hv⟩ : ∃ v, st[e.pl.toNat]? = some v := ⟨_, List.getElem?_eq_getElem (by omega)⟩
  have hvc : (stCells st)[e.pl.toNat]? = some (.int .i64 v) := by unfold stCells; rw [List.getElem?_map, hv]; rfl
  have hput : (stCells st).set e.pl.toNat (Value.int .i64 1) = stCells (st.set e.pl.toNat 1) := by
    unfold stCells
    rw [List.map_set]
  refine cv_gen fun G4 hG => ?_
  have g4_0 := congrFun hG 0
  have g4_3 := congrFun hG 3
  clear hG
  try simp -implicitDefEqProofs (disch := first | omega | decide) only [seval, -Int.reducePow, -Nat.reducePow, cC, pv, binv, sHjH1, undef, g2] at g4_0 g4_3
  have g4 := And.intro g4_0 g4_3
  refine cv_seq_k fun K hK => ?_
  refine cv_seq_k fun K hK => ?_
  refine cv_region_then rfl ?_
  simp -implicitDefEqProofs (disch := first | omega | decide) only [seval, -Int.reducePow, -Nat.reducePow, cC, pv, binv, sHjH1, undef, g4]
  refine hK _ _ ?_
  clear hK K
  refine cv_cond ?_
  by_cases h32 : e.op = 32
  · have d32 : decide (e.op = 32) = true := decide_eq_true h32
    simp -implicitDefEqProofs (disch := first | omega | decide) only [seval, -Int.reducePow, -Nat.reducePow, cC, pv, binv, sHjH1, undef, d32, g4]
    refine cv_seq_k fun K hK => ?_
    refine cv_seq_k fun K hK => ?_
    refine cv_draw [(true, 0), (true, 1), (true, 2), (true, 3), (true, 4), (true, 5), (true, 6), (true, 7), (true, 8)] [] mixA rfl (by kernel_rfl) (by kernel_rfl) rfl rfl ?_
    simp -implicitDefEqProofs (disch := first | omega | decide) only [seval, -Int.reducePow, -Nat.reducePow, cC, pv, binv, sHjH1, undef, g4]
    refine ⟨_, ld_row1 (m := 1) (i := e.pl.toNat) (v := .int .i64 v) (nth_mem (k := 2) rfl) rfl hvc, fun tok htok => ?_⟩
    subst htok
    simp -implicitDefEqProofs (disch := first | omega | decide) only [seval, -Int.reducePow, -Nat.reducePow, cC, pv, binv, sHjH1, undef, g4]
    refine hK _ _ ?_
    clear hK K
    refine cv_cond ?_
    by_cases hv0 : v = 0
    · subst hv0
      simp -implicitDefEqProofs (disch := first | omega | decide) only [seval, -Int.reducePow, -Nat.reducePow, cC, pv, binv, sHjH1, undef, g4]
      refine cv_skip ?_
      try simp only [blockQ, thenQ]
      refine hK _ _ ?_
      clear hK K
      refine cv_seq_k fun K hK => ?_
      refine cv_draw [(true, 0), (true, 1), (true, 2), (true, 3), (true, 4), (true, 5), (true, 6), (false, 7)] [7] mixA rfl (by kernel_rfl) (by kernel_rfl) rfl rfl ?_
      simp -implicitDefEqProofs (disch := first | omega | decide) only [seval, -Int.reducePow, -Nat.reducePow, cC, pv, binv, sHjH1, undef, g4]
      refine ⟨_, sv_row 2 (i := e.pl.toNat) (v := .int .i64 1) rfl (by unfold stCells; rw [List.length_map, hs]; omega) (by kernel_rfl) rfl rfl, fun tok htok => ?_⟩
      subst htok
      simp -implicitDefEqProofs (disch := first | omega | decide) only [seval, -Int.reducePow, -Nat.reducePow, cC, pv, binv, sHjH1, undef, hput, g4]
      refine hK _ _ ?_
      clear hK K
      refine cv_seq_k fun K hK => ?_
      refine cv_region_then rfl ?_
      simp -implicitDefEqProofs (disch := first | omega | decide) only [seval, -Int.reducePow, -Nat.reducePow, cC, pv, binv, sHjH1, undef, g4]
      refine hK _ _ ?_
      clear hK K
      refine cv_ret ⟨_, (by simp -implicitDefEqProofs (disch := first | omega | decide) only [seval, -Int.reducePow, -Nat.reducePow, cC, pv, binv, sHjH1, undef, g4]; rfl), fun w hw => ?_⟩
      have hr : TakeOk ⟨b, sb, LA, ln, lc, EA, en, ec, st, l, E⟩ e true ⟨b, sb, LA, ln, lc, EA, en, ec, st.set e.pl.toNat 1, l, E⟩ := by
        unfold TakeOk
        rw [if_neg hpl, if_pos h32, if_pos hv]
        exact ⟨rfl, rfl, rfl, rfl⟩
      exact ⟨(true, ⟨b, sb, LA, ln, lc, EA, en, ec, st.set e.pl.toNat 1, l, E⟩), rfl, ⟨hr, ⟨rfl, rfl⟩⟩, hw.tail⟩
    · have hr : TakeOk ⟨b, sb, LA, ln, lc, EA, en, ec, st, l, E⟩ e false ⟨b, sb, LA, ln, lc, EA, en, ec, st, l, E⟩ := by
        unfold TakeOk
        rw [if_neg hpl, if_pos h32, if_neg (fun h => hv0 (by rw [hv] at h; exact Option.some.inj h))]
      simp -implicitDefEqProofs (disch := first | omega | decide) only [seval, -Int.reducePow, -Nat.reducePow, cC, pv, binv, sHjH1, undef, hv0, g4]
      refine cv_seq_k fun K hK => ?_
      refine cv_region_then rfl ?_
      simp -implicitDefEqProofs (disch := first | omega | decide) only [seval, -Int.reducePow, -Nat.reducePow, cC, pv, binv, sHjH1, undef, g4]
      refine hK _ _ ?_
      clear hK K
      refine cv_ret ⟨_, (by simp -implicitDefEqProofs (disch := first | omega | decide) only [seval, -Int.reducePow, -Nat.reducePow, cC, pv, binv, sHjH1, undef, g4]; rfl), fun w hw => ?_⟩
      exact ⟨(false, ⟨b, sb, LA, ln, lc, EA, en, ec, st, l, E⟩), rfl, ⟨hr, ⟨rfl, rfl⟩⟩, hw.tail⟩
  simp -implicitDefEqProofs (disch := first | omega | decide) only [seval, -Int.reducePow, -Nat.reducePow, cC, pv, binv, sHjH1, undef, h32, g4]
  refine cv_skip ?_
  try simp only [blockQ, thenQ]
  refine hK _ _ ?_
  clear hK K
  refine cv_seq_k fun K hK => ?_
  refine cv_seq_k fun K hK => ?_
  refine cv_draw [(true, 0), (true, 1), (true, 2), (true, 3), (true, 4), (true, 5), (true, 6), (true, 7), (true, 8)] [] mixA rfl (by kernel_rfl) (by kernel_rfl) rfl rfl ?_
  simp -implicitDefEqProofs (disch := first | omega | decide) only [seval, -Int.reducePow, -Nat.reducePow, cC, pv, binv, sHjH1, undef, g4]
  refine ⟨_, ld_row1 (m := 1) (i := e.pl.toNat) (v := .int .i64 v) (nth_mem (k := 2) rfl) rfl hvc, fun tok htok => ?_⟩
  subst htok
  simp -implicitDefEqProofs (disch := first | omega | decide) only [seval, -Int.reducePow, -Nat.reducePow, cC, pv, binv, sHjH1, undef, g4]
  refine hK _ _ ?_
  clear hK K
  refine cv_cond ?_
  by_cases hv1 : v = 1
  case neg =>
    have hr : TakeOk ⟨b, sb, LA, ln, lc, EA, en, ec, st, l, E⟩ e false ⟨b, sb, LA, ln, lc, EA, en, ec, st, l, E⟩ := by
      unfold TakeOk
      rw [if_neg hpl, if_neg h32, if_pos (fun h => hv1 (by rw [hv] at h; exact Option.some.inj h))]
    simp -implicitDefEqProofs (disch := first | omega | decide) only [seval, -Int.reducePow, -Nat.reducePow, cC, pv, binv, sHjH1, undef, hv1, g4]
    refine cv_seq_k fun K hK => ?_
    refine cv_region_then rfl ?_
    simp -implicitDefEqProofs (disch := first | omega | decide) only [seval, -Int.reducePow, -Nat.reducePow, cC, pv, binv, sHjH1, undef, g4]
    refine hK _ _ ?_
    clear hK K
    refine cv_ret ⟨_, (by simp -implicitDefEqProofs (disch := first | omega | decide) only [seval, -Int.reducePow, -Nat.reducePow, cC, pv, binv, sHjH1, undef, g4]; rfl), fun w hw => ?_⟩
    exact ⟨(false, ⟨b, sb, LA, ln, lc, EA, en, ec, st, l, E⟩), rfl, ⟨hr, ⟨rfl, rfl⟩⟩, hw.tail⟩
  subst hv1
  simp -implicitDefEqProofs (disch := first | omega | decide) only [seval, -Int.reducePow, -Nat.reducePow, cC, pv, binv, sHjH1, undef, g4]
  refine cv_skip ?_
  try simp only [blockQ, thenQ]
  refine hK _ _ ?_
  clear hK K
  refine cv_seq_k fun K hK => ?_
  refine cv_seq_k fun K hK => ?_
  refine cv_region_then rfl ?_
  simp -implicitDefEqProofs (disch := first | omega | decide) only [seval, -Int.reducePow, -Nat.reducePow, cC, pv, binv, sHjH1, undef, g4]
  refine hK _ _ ?_
  clear hK K
  refine cv_gen fun G5 hG => ?_
  have g5_0 := congrFun hG 0
  have g5_3 := congrFun hG 3
  have g5_42 := congrFun hG 42
  clear hG
  try simp -implicitDefEqProofs (disch := first | omega | decide) only [seval, -Int.reducePow, -Nat.reducePow, cC, pv, binv, sHjH1, undef, g4] at g5_0 g5_3 g5_42
  have g5 := And.intro g5_0 (And.intro g5_3 g5_42)
  refine cv_block ?_
  by_cases h33 : e.op = 33
  · have d33 : decide (e.op = 33) = true := decide_eq_true h33
    refine cv_seq_k fun K hK => ?_
    refine cv_region_then rfl ?_
    simp -implicitDefEqProofs (disch := first | omega | decide) only [seval, -Int.reducePow, -Nat.reducePow, cC, pv, binv, sHjH1, undef, d33, g5]
    refine hK _ _ ?_
    clear hK K
    refine cv_cond ?_
    simp -implicitDefEqProofs (disch := first | omega | decide) only [seval, -Int.reducePow, -Nat.reducePow, cC, pv, binv, sHjH1, undef, d33, g5]
    refine cv_seq_k fun K hK => ?_
    refine cv_region_then rfl ?_
    simp -implicitDefEqProofs (disch := first | omega | decide) only [seval, -Int.reducePow, -Nat.reducePow, cC, pv, binv, sHjH1, undef, g5]
    refine callV_sub [.blk b3 37 [.int .i64 e.pl, .int .i64 e.op, .int .u64 (e.h : Int), .int .u64 (e.ar : Int), .int .i64 e.er]] (bkL ⟨b, sb, LA, ln, lc, EA, en, ec, st, l, E⟩) (List.Perm.refl _) bkV bkL2 _ (fun w hw => bEnd_any ⟨b, sb, LA, ln, lc, EA, en, ec, st, l, E⟩ e.pl e.ar (by omega) hs h64 hl hE w hw) ?_
    rintro ⟨r, y⟩ ⟨hy1, hy2, hy3, hy4, hy5⟩
    simp -implicitDefEqProofs (disch := first | omega | decide) only [seval, -Int.reducePow, -Nat.reducePow, cC, pv, binv, sHjH1, undef, bkV, g5]
    refine hK _ _ ?_
    clear hK K
    refine cv_ret ⟨_, (by simp -implicitDefEqProofs (disch := first | omega | decide) only [seval, -Int.reducePow, -Nat.reducePow, cC, pv, binv, sHjH1, undef, g5]; rfl), fun w hw => ?_⟩
    have hr : TakeOk ⟨b, sb, LA, ln, lc, EA, en, ec, st, l, E⟩ e r y := by
      unfold TakeOk
      rw [if_neg hpl, if_neg h32, if_neg (fun h => h hv), if_pos h33]
      exact ⟨hy1, hy3, hy4, hy5⟩
    exact ⟨(r, y), rfl, ⟨hr, hy2⟩, hw.sub (List.sublist_append_left _ _)⟩
  refine cv_seq_k fun K hK => ?_
  refine cv_region_then rfl ?_
  simp -implicitDefEqProofs (disch := first | omega | decide) only [seval, -Int.reducePow, -Nat.reducePow, cC, pv, binv, sHjH1, undef, h33, g5]
  refine hK _ _ ?_
  clear hK K
  refine cv_cond ?_
  simp -implicitDefEqProofs (disch := first | omega | decide) only [seval, -Int.reducePow, -Nat.reducePow, cC, pv, binv, sHjH1, undef, h33, g5]
  by_cases h1 : e.op = 1
  · have d1 : decide (e.op = 1) = true := decide_eq_true h1
    refine cv_seq_k fun K hK => ?_
    refine cv_region_then rfl ?_
    simp -implicitDefEqProofs (disch := first | omega | decide) only [seval, -Int.reducePow, -Nat.reducePow, cC, pv, binv, sHjH1, undef, d1, g5]
    refine hK _ _ ?_
    clear hK K
    refine cv_cond ?_
    simp -implicitDefEqProofs (disch := first | omega | decide) only [seval, -Int.reducePow, -Nat.reducePow, cC, pv, binv, sHjH1, undef, d1, g5]
    refine cv_seq_k fun K hK => ?_
    refine cv_seq_k fun K hK => ?_
    refine cv_cut (fun _ _ => True) (fun F' L' => F' 0 = G5 0 ∧ F' 3 = G5 3 ∧ F' 63 = .bool (!(decide (0 < genF e.h ∧ 0 < tagF e.h) && !busyB l (slotF e.h))) ∧ L' = [.blk b3 37 [.int .i64 e.pl, .int .i64 e.op, .int .u64 (e.h : Int), .int .u64 (e.ar : Int), .int .i64 e.er], .blk b 78 [.slice (some ⟨sb, 0, none⟩) 65 65, .slice LA ln lc, .slice EA en ec], .row (.slice (some ⟨sb, 0, none⟩) 65 65) 3 1 65 (stCells st), .row (.slice LA ln lc) 43 6 ln (boCells l), .row (.slice EA en ec) 82 4 en (bwCells E)]) ?_ ?_
    · cases hva : decide (0 < genF e.h ∧ 0 < tagF e.h) with
      | false =>
        refine cv_region_then rfl ?_
        simp -implicitDefEqProofs (disch := first | omega | decide) only [seval, -Int.reducePow, -Nat.reducePow, cC, pv, binv, sHjH1, undef, g5]
        refine callV_ret (fun w hw => hva ▸ rvalid_any e.h he1 w) ?_
        simp -implicitDefEqProofs (disch := first | omega | decide) only [seval, -Int.reducePow, -Nat.reducePow, cC, pv, binv, sHjH1, undef, g5]
      | true =>
        refine cv_region_then rfl ?_
        simp -implicitDefEqProofs (disch := first | omega | decide) only [seval, -Int.reducePow, -Nat.reducePow, cC, pv, binv, sHjH1, undef, g5]
        refine callV_ret (fun w hw => hva ▸ rvalid_any e.h he1 w) ?_
        simp -implicitDefEqProofs (disch := first | omega | decide) only [seval, -Int.reducePow, -Nat.reducePow, cC, pv, binv, sHjH1, undef, g5]
        refine callV_ret (fun w hw => rslot_any e.h he1 w) ?_
        simp -implicitDefEqProofs (disch := first | omega | decide) only [seval, -Int.reducePow, -Nat.reducePow, cC, pv, binv, sHjH1, undef, g5]
        refine callV_rd (bkL ⟨b, sb, LA, ln, lc, EA, en, ec, st, l, E⟩) (.cons _ (List.Sublist.refl _)) (fun _ : Unit => .bool (busyB l (slotF e.h))) _ (fun w hw => bBusy_any ⟨b, sb, LA, ln, lc, EA, en, ec, st, l, E⟩ (slotF e.h) h64 hl w hw) ?_
        intro _ _
        simp -implicitDefEqProofs (disch := first | omega | decide) only [seval, -Int.reducePow, -Nat.reducePow, cC, pv, binv, sHjH1, undef, g5]
    intro G6 L' _ hF
    obtain ⟨q0, q3, q63, rfl⟩ := hF
    have g6_0 := q0.trans g5_0
    have g6_3 := q3.trans g5_3
    have g6_63 := q63
    clear q0 q3 q63
    have g6 := And.intro g6_0 (And.intro g6_3 g6_63)
    refine hK _ _ ?_
    clear hK K
    refine cv_cond ?_
    cases hok : (decide (0 < genF e.h ∧ 0 < tagF e.h) && !busyB l (slotF e.h)) with
    | true =>
      simp -implicitDefEqProofs (disch := first | omega | decide) only [seval, -Int.reducePow, -Nat.reducePow, cC, pv, binv, sHjH1, undef, hok, g6]
      refine cv_skip ?_
      try simp only [blockQ, thenQ]
      refine hK _ _ ?_
      clear hK K
      refine cv_seq_k fun K hK => ?_
      refine cv_region_then rfl ?_
      simp -implicitDefEqProofs (disch := first | omega | decide) only [seval, -Int.reducePow, -Nat.reducePow, cC, pv, binv, sHjH1, undef, g6]
      refine callV_sub [.blk b3 37 [.int .i64 e.pl, .int .i64 e.op, .int .u64 (e.h : Int), .int .u64 (e.ar : Int), .int .i64 e.er]] (bkL ⟨b, sb, LA, ln, lc, EA, en, ec, st, l, E⟩) (List.Perm.refl _) tupB bkL _ (fun w hw => bAdd_any ⟨b, sb, LA, ln, lc, EA, en, ec, st, l, E⟩ ⟨e.h, e.pl⟩ he1 h64 hl w hw) ?_
      rintro y ⟨hy1, hy2, hy3, hy4⟩
      simp -implicitDefEqProofs (disch := first | omega | decide) only [seval, -Int.reducePow, -Nat.reducePow, cC, pv, binv, sHjH1, undef, tupB, g6]
      refine hK _ _ ?_
      clear hK K
      refine cv_seq_k fun K hK => ?_
      refine cv_region_then rfl ?_
      simp -implicitDefEqProofs (disch := first | omega | decide) only [seval, -Int.reducePow, -Nat.reducePow, cC, pv, binv, sHjH1, undef, g6]
      refine hK _ _ ?_
      clear hK K
      refine cv_ret ⟨_, (by simp -implicitDefEqProofs (disch := first | omega | decide) only [seval, -Int.reducePow, -Nat.reducePow, cC, pv, binv, sHjH1, undef, g6]; rfl), fun w hw => ?_⟩
      have hr : TakeOk ⟨b, sb, LA, ln, lc, EA, en, ec, st, l, E⟩ e true y := by
        unfold TakeOk
        rw [if_neg hpl, if_neg h32, if_neg (fun h => h hv), if_neg h33, if_pos h1, if_pos hok]
        exact ⟨rfl, hy2, hy3, hy4⟩
      exact ⟨(true, y), rfl, ⟨hr, hy1⟩, hw.sub (List.sublist_append_left _ _)⟩
    | false =>
      have hr : TakeOk ⟨b, sb, LA, ln, lc, EA, en, ec, st, l, E⟩ e false ⟨b, sb, LA, ln, lc, EA, en, ec, st, l, E⟩ := by
        unfold TakeOk
        rw [if_neg hpl, if_neg h32, if_neg (fun h => h hv), if_neg h33, if_pos h1, if_neg (by rw [hok]; decide)]
      simp -implicitDefEqProofs (disch := first | omega | decide) only [seval, -Int.reducePow, -Nat.reducePow, cC, pv, binv, sHjH1, undef, hok, g6]
      refine cv_seq_k fun K hK => ?_
      refine cv_region_then rfl ?_
      simp -implicitDefEqProofs (disch := first | omega | decide) only [seval, -Int.reducePow, -Nat.reducePow, cC, pv, binv, sHjH1, undef, g6]
      refine hK _ _ ?_
      clear hK K
      refine cv_ret ⟨_, (by simp -implicitDefEqProofs (disch := first | omega | decide) only [seval, -Int.reducePow, -Nat.reducePow, cC, pv, binv, sHjH1, undef, g6]; rfl), fun w hw => ?_⟩
      exact ⟨(false, ⟨b, sb, LA, ln, lc, EA, en, ec, st, l, E⟩), rfl, ⟨hr, ⟨rfl, rfl⟩⟩, hw.tail⟩
  refine cv_seq_k fun K hK => ?_
  refine cv_region_then rfl ?_
  simp -implicitDefEqProofs (disch := first | omega | decide) only [seval, -Int.reducePow, -Nat.reducePow, cC, pv, binv, sHjH1, undef, h1, g5]
  refine hK _ _ ?_
  clear hK K
  refine cv_cond ?_
  simp -implicitDefEqProofs (disch := first | omega | decide) only [seval, -Int.reducePow, -Nat.reducePow, cC, pv, binv, sHjH1, undef, h1, g5]
  refine cv_skip ?_
  try simp only [blockQ, thenQ]
  refine hK _ _ ?_
  clear hK K
  refine cv_seq_k fun K hK => ?_
  refine cv_region_then rfl ?_
  simp -implicitDefEqProofs (disch := first | omega | decide) only [seval, -Int.reducePow, -Nat.reducePow, cC, pv, binv, sHjH1, undef, g5]
  refine callV_sub [.blk b3 37 [.int .i64 e.pl, .int .i64 e.op, .int .u64 (e.h : Int), .int .u64 (e.ar : Int), .int .i64 e.er]] (bkL ⟨b, sb, LA, ln, lc, EA, en, ec, st, l, E⟩) (List.Perm.refl _) bkV bkL2 _ (fun w hw => bObject_any ⟨b, sb, LA, ln, lc, EA, en, ec, st, l, E⟩ e he (by omega) hs h64 hl hE hc w hw) ?_
  rintro ⟨r, y⟩ ⟨hy1, hy2⟩
  simp -implicitDefEqProofs (disch := first | omega | decide) only [seval, -Int.reducePow, -Nat.reducePow, cC, pv, binv, sHjH1, undef, bkV, g5]
  refine hK _ _ ?_
  clear hK K
  refine cv_ret ⟨_, (by simp -implicitDefEqProofs (disch := first | omega | decide) only [seval, -Int.reducePow, -Nat.reducePow, cC, pv, binv, sHjH1, undef, g5]; rfl), fun w hw => ?_⟩
  have hr : TakeOk ⟨b, sb, LA, ln, lc, EA, en, ec, st, l, E⟩ e r y := by
    unfold TakeOk
    rw [if_neg hpl, if_neg h32, if_neg (fun h => h hv), if_neg h33, if_neg h1]
    exact hy1
  exact ⟨(r, y), rfl, ⟨hr, hy2⟩, hw.sub (List.sublist_append_left _ _)⟩
end Go.Proofs.Ytaifnipgefkemaa
/- The code's state and the reference's book go together: plain. -/
namespace Go.Proofs.Ytaifnipgefkemaa
open Go.RowKit Go.Shelf
set_option linter.unusedVariables false
set_option linter.unusedSimpArgs false
theorem pw_ext {α : Type} {R : α → α → Prop} (has : ∀ a b, R a b → ¬ R b a) : ∀ {a b : List α}, a.Pairwise R → b.Pairwise R → (∀ x, x ∈ a ↔ x ∈ b) → a = b
  | [], [], _, _, _ => rfl
  | [], y :: b, _, _, h => absurd ((h y).2 (.head _)) (by simp)
  | x :: a, [], _, _, h => absurd ((h x).1 (.head _)) (by simp)
  | x :: a, y :: b, ha, hb, h => by
    obtain ⟨a1, a2⟩ := List.pairwise_cons.1 ha
    obtain ⟨b1, b2⟩ := List.pairwise_cons.1 hb
    have irr : ∀ z, ¬ R z z := fun z hz => has z z hz hz
    have e : x = y := by
      rcases List.mem_cons.1 ((h x).1 (.head _)) with e | hx
      · exact e
      rcases List.mem_cons.1 ((h y).2 (.head _)) with e | hy
      · exact e.symm
      exact absurd (b1 x hx) (has _ _ (a1 y hy))
    subst e
    have e2 : a = b := pw_ext has a2 b2 fun z => by
      constructor
      · intro hz
        rcases List.mem_cons.1 ((h z).1 (List.mem_cons_of_mem _ hz)) with e | hz'
        · exact absurd (a1 z hz) (e ▸ irr z)
        · exact hz'
      · intro hz
        rcases List.mem_cons.1 ((h z).2 (List.mem_cons_of_mem _ hz)) with e | hz'
        · exact absurd (b1 z hz) (e ▸ irr z)
        · exact hz'
    rw [e2]
theorem ltB_iff {a b : Bw} : ltB a b = true ↔ a.ob < b.ob ∨ (a.ob = b.ob ∧ a.ho < b.ho) := by unfold ltB; simp
theorem ltB_as (a b : Bw) (h : ltB a b = true) : ¬ ltB b a = true := by
  rw [ltB_iff] at h ⊢
  omega
theorem ltB_tr {a b c : Bw} (h : ltB a b = true) (h2 : ltB b c = true) : ltB a c = true := by
  rw [ltB_iff] at h h2 ⊢
  omega
theorem ltB_tot {a b : Bw} (h : ltB a b = false) (hne : ¬ (a.ob = b.ob ∧ a.ho = b.ho)) : ltB b a = true := by
  have h1 : ¬ ltB a b = true := by rw [h]; decide
  rw [ltB_iff] at h1 ⊢
  omega
theorem pw_last {α : Type} {R : α → α → Prop} (htr : ∀ a b c, R a b → R b c → R a c) {P : List α} (hP : P.Pairwise R) {e : α} (h : ∀ p, P.getLast? = some p → R p e) : ∀ p ∈ P, R p e := by
  rcases nil_snoc P with rfl | ⟨P', q, rfl⟩
  · intro p hp; cases hp
  intro p hp
  have hq : R q e := h q (by simp)
  rcases List.mem_append.1 hp with hp | hp
  · exact htr _ _ _ ((List.pairwise_append.1 hP).2.2 p hp q (by simp)) hq
  · have : p = q := by simpa using hp
    exact this ▸ hq
theorem PutOk.mem {e : Bw} {rest out P Q : List Bw} (h : PutOk e rest out P Q) (b : Bw) : b ∈ out ↔ b = e ∨ b ∈ rest := by
  rw [h.out, h.rest]
  simp only [List.mem_append, List.mem_cons]
  constructor
  · rintro (h | h | h)
    · exact .inr (.inl h)
    · exact .inl h
    · exact .inr (.inr h)
  · rintro (h | h | h)
    · exact .inr (.inl h)
    · exact .inl h
    · exact .inr (.inr h)
theorem PutOk.len {e : Bw} {rest out P Q : List Bw} (h : PutOk e rest out P Q) : out.length = rest.length + 1 := by
  rw [h.out, h.rest]
  simp
  omega
theorem PutOk.srt {e : Bw} {rest out P Q : List Bw} (h : PutOk e rest out P Q) (hs : rest.Pairwise fun a b => ltB a b = true) (hne : ∀ b ∈ rest, ¬ (b.ob = e.ob ∧ b.ho = e.ho)) : out.Pairwise fun a b => ltB a b = true := by
  have h1 := h.rest
  rw [h1] at hs hne
  obtain ⟨s1, s2, s3⟩ := List.pairwise_append.1 hs
  have hp : ∀ p ∈ P, ltB p e = true := pw_last (R := fun a b => ltB a b = true) (fun a b c => ltB_tr) s1 h.lt
  have hq : ∀ q ∈ Q, ltB e q = true := fun q hq => ltB_tot (h.gt q hq) (hne q (List.mem_append_right _ hq))
  rw [h.out]
  refine List.pairwise_append.2 ⟨s1, List.pairwise_cons.2 ⟨hq, s2⟩, fun a ha b hb => ?_⟩
  rcases List.mem_cons.1 hb with rfl | hb
  · exact hp a ha
  · exact s3 a ha b hb
theorem wtoB_mem {l : List Bw} {ob ho : Int} {b : Bw} : b ∈ wtoB l ob ho ↔ b ∈ l ∧ ¬ (b.ob = ob ∧ b.ho = ho) := by
  unfold wtoB isB
  rw [List.mem_filter, Bool.not_eq_true', ← Bool.not_eq_true, Bool.and_eq_true, decide_eq_true_eq, decide_eq_true_eq]
theorem AddOk.mem {o : BO} {l out P Q : List BO} (h : AddOk o l out P Q) (b : BO) : b ∈ out ↔ b = o ∨ b ∈ l := by
  rw [h.out, h.rest]
  simp only [List.mem_append, List.mem_cons]
  constructor
  · rintro (h | h | h)
    · exact .inr (.inl h)
    · exact .inl h
    · exact .inr (.inr h)
  · rintro (h | h | h)
    · exact .inr (.inl h)
    · exact .inl h
    · exact .inr (.inr h)
theorem AddOk.srt {o : BO} {l out P Q : List BO} (h : AddOk o l out P Q) (hs : l.Pairwise fun a b => slotF a.h < slotF b.h) (hne : ∀ b ∈ l, slotF b.h ≠ slotF o.h) : out.Pairwise fun a b => slotF a.h < slotF b.h := by
  have h1 := h.rest
  rw [h1] at hs hne
  obtain ⟨s1, s2, s3⟩ := List.pairwise_append.1 hs
  have hp : ∀ p ∈ P, slotF p.h < slotF o.h := pw_last (R := fun a b => slotF a.h < slotF b.h) (fun a b c => Nat.lt_trans) s1 fun p hp => Nat.lt_of_le_of_ne (h.le p hp) (hne p (List.mem_append_left _ (List.mem_of_getLast? hp)))
  rw [h.out]
  refine List.pairwise_append.2 ⟨s1, List.pairwise_cons.2 ⟨h.gt, s2⟩, fun a ha b hb => ?_⟩
  rcases List.mem_cons.1 hb with rfl | hb
  · exact hp a ha
  · exact s3 a ha b hb
/-! ## The relation -/
def stI : Option Bool → Int
  | none => 0
  | some true => 1
  | some false => 2
structure RelB (k : Nat) (s : HS) (x : BkR) : Prop where
  sl : x.st.length = 65
  st : ∀ p : Int, 1 ≤ p → p ≤ 64 → x.st[p.toNat]? = some (stI (kget s.sd p))
  lS : x.l.Pairwise fun a b => slotF a.h < slotF b.h
  lM : ∀ b, b ∈ x.l ↔ ∃ o, kget s.os (slotF b.h) = some o ∧ o.h = b.h ∧ o.ow = b.ow
  eS : x.E.Pairwise fun a b => ltB a b = true
  eM : ∀ b, b ∈ x.E ↔ ∃ o, kget s.os b.ob = some o ∧ kget o.cs b.ho = some b.co ∧ b.mo = o.mo
  eL : x.E.length ≤ k
section
variable {k : Nat} {s : HS} {x : BkR}
theorem RelB.up (h : RelB k s x) : RelB (k + 1) s x := ⟨h.sl, h.st, h.lS, h.lM, h.eS, h.eM, Nat.le_succ_of_le h.eL⟩
theorem RelB.hold (h : RelB k s x) (ob ho : Int) : holdB x.E ob ho = (kget s.os ob).bind fun o => (kget o.cs ho).map fun c => ⟨ob, ho, o.mo, c⟩ := by
  cases hh : holdB x.E ob ho with
  | some b =>
    obtain ⟨h1, h2, h3⟩ := hold_mem hh
    obtain ⟨o, g1, g2, g3⟩ := (h.eM b).1 h1
    rw [h2] at g1
    rw [h3] at g2
    obtain ⟨b1, b2, b3, b4⟩ := b
    dsimp only at h2 h3 g2 g3
    subst h2 h3 g3
    rw [g1]
    simp [g2]
  | none =>
    cases g1 : kget s.os ob with
    | none => rfl
    | some o =>
      cases g2 : kget o.cs ho with
      | none => simp [g2]
      | some c =>
        have := (h.eM ⟨ob, ho, o.mo, c⟩).2 ⟨o, g1, g2, rfl⟩
        unfold holdB at hh
        rw [List.find?_eq_none] at hh
        exact absurd (hh _ this) (by simp [isB])
theorem RelB.of_nil (h : RelB k s x) {ob : Int} {o : Ob} (ho : kget s.os ob = some o) : ofB x.E ob = [] ↔ o.cs = [] := by
  constructor
  · intro he
    cases hc : o.cs with
    | nil => rfl
    | cons c cs =>
      have : (⟨ob, c.1, o.mo, c.2⟩ : Bw) ∈ ofB x.E ob := List.mem_filter.2 ⟨(h.eM _).2 ⟨o, ho, by rw [hc]; simp [kget], rfl⟩, by simp⟩
      rw [he] at this
      cases this
  · intro he
    cases hE : ofB x.E ob with
    | nil => rfl
    | cons b l =>
      have hb : b ∈ ofB x.E ob := by rw [hE]; exact .head _
      obtain ⟨b1, b2⟩ := List.mem_filter.1 hb
      obtain ⟨o', g1, g2, -⟩ := (h.eM b).1 b1
      have : b.ob = ob := by simpa using b2
      rw [this, ho] at g1
      cases g1
      rw [he] at g2
      cases g2
theorem RelB.of_head (h : RelB k s x) {ob : Int} {o : Ob} (ho : kget s.os ob = some o) (hne : ofB x.E ob ≠ []) : (ofB x.E ob).head?.map Bw.mo = some o.mo := by
  cases hE : ofB x.E ob with
  | nil => exact absurd hE hne
  | cons b l =>
    have hb : b ∈ ofB x.E ob := by rw [hE]; exact .head _
    obtain ⟨b1, b2⟩ := List.mem_filter.1 hb
    obtain ⟨o', g1, g2, g3⟩ := (h.eM b).1 b1
    have : b.ob = ob := by simpa using b2
    rw [this, ho] at g1
    cases g1
    simp [g3]
theorem RelB.find (h : RelB k s x) (hI : HInv k s) (e : EvR) : (x.l.findIdx? (fun o => decide (o.h = e.h)) = none ∧ findO s e.h = none) ∨
    ∃ i b o, x.l.findIdx? (fun o => decide (o.h = e.h)) = some i ∧ x.l[i]? = some b ∧ b.h = e.h ∧ findO s e.h = some o ∧ kget s.os (slotF e.h) = some o ∧ o.h = e.h ∧ o.ow = b.ow := by
  cases hf : x.l.findIdx? (fun o => decide (o.h = e.h)) with
  | none =>
    refine .inl ⟨rfl, ?_⟩
    rw [List.findIdx?_eq_none_iff] at hf
    cases ho : findO s e.h with
    | none => rfl
    | some o =>
      obtain ⟨g1, g2⟩ := findO_get ho
      have := hf ⟨o.h, o.ow⟩ ((h.lM _).2 ⟨o, by rw [g2]; exact g1, rfl, rfl⟩)
      simp [g2] at this
  | some i =>
    obtain ⟨h1, h2, -⟩ := List.findIdx?_eq_some_iff_getElem.1 hf
    have h3 : (x.l[i]).h = e.h := by simpa using h2
    obtain ⟨o, g1, g2, g3⟩ := (h.lM x.l[i]).1 (List.getElem_mem h1)
    rw [h3] at g1 g2
    exact .inr ⟨i, x.l[i], o, rfl, List.getElem?_eq_getElem h1, h3, by unfold findO; rw [g1]; simp [g2], g1, g2, g3⟩
end
end Go.Proofs.Ytaifnipgefkemaa
/- The code's state and the reference's book go together, event by event: plain. -/
namespace Go.Proofs.Ytaifnipgefkemaa
open Go.RowKit Go.Shelf
set_option linter.unusedVariables false
set_option linter.unusedSimpArgs false
def EMof (os : List (Int × Ob)) (E : List Bw) : Prop := ∀ b, b ∈ E ↔ ∃ o, kget os b.ob = some o ∧ kget o.cs b.ho = some b.co ∧ b.mo = o.mo
def LMof (os : List (Int × Ob)) (l : List BO) : Prop := ∀ b, b ∈ l ↔ ∃ o, kget os (slotF b.h) = some o ∧ o.h = b.h ∧ o.ow = b.ow
theorem LMof.set {os : List (Int × Ob)} {l : List BO} {sl : Int} {o o' : Ob} (hM : LMof os l) (hg : kget os sl = some o) (hh : o'.h = o.h) (hw : o'.ow = o.ow) : LMof (kset os sl o') l := fun b => by
  rw [hM b, kget_kset]
  by_cases e : (slotF b.h : Int) = sl
  · rw [if_pos e, e, hg]
    simp [hh, hw]
  · rw [if_neg e]
theorem EMof.put {os : List (Int × Ob)} {E E' : List Bw} {sl q m c' : Int} {o o' : Ob} (hM : EMof os E) (hg : kget os sl = some o) (hcs : o'.cs = kset o.cs q c') (hm : o'.mo = m) (hmo : m = o.mo ∨ o.cs = [])
    (hE : ∀ b, b ∈ E' ↔ b = ⟨sl, q, m, c'⟩ ∨ (b ∈ E ∧ ¬ (b.ob = sl ∧ b.ho = q))) : EMof (kset os sl o') E' := fun b => by
  rw [hE b, hM b, kget_kset]
  by_cases e1 : b.ob = sl
  · rw [if_pos e1, e1, hg]
    simp only [Option.some.injEq, exists_eq_left', true_and]
    rw [hcs, kget_kset, hm]
    by_cases e2 : b.ho = q
    · rw [if_pos e2]
      constructor
      · rintro (rfl | ⟨-, h⟩)
        · exact ⟨rfl, rfl⟩
        · exact absurd e2 h
      · rintro ⟨h1, h2⟩
        refine .inl ?_
        obtain ⟨b1, b2, b3, b4⟩ := b
        dsimp only at e1 e2 h1 h2
        cases h1
        rw [e1, e2, h2]
    · rw [if_neg e2]
      constructor
      · rintro (rfl | ⟨⟨h1, h2⟩, -⟩)
        · exact absurd rfl e2
        · rcases hmo with hmo | hmo
          · exact ⟨h1, hmo ▸ h2⟩
          · rw [hmo] at h1
            cases h1
      · rintro ⟨h1, h2⟩
        rcases hmo with hmo | hmo
        · exact .inr ⟨⟨h1, hmo ▸ h2⟩, e2⟩
        · rw [hmo] at h1
          cases h1
  · rw [if_neg e1]
    constructor
    · rintro (rfl | ⟨h, -⟩)
      · exact absurd rfl e1
      · exact h
    · exact fun h => .inr ⟨h, fun h' => e1 h'.1⟩
theorem EMof.del {os : List (Int × Ob)} {E E' : List Bw} {sl q : Int} {o o' : Ob} (hM : EMof os E) (hg : kget os sl = some o) (hn : (keys o.cs).Nodup) (hcs : o'.cs = kdel o.cs q) (hm : o'.mo = o.mo)
    (hE : ∀ b, b ∈ E' ↔ (b ∈ E ∧ ¬ (b.ob = sl ∧ b.ho = q))) : EMof (kset os sl o') E' := fun b => by
  rw [hE b, hM b, kget_kset]
  by_cases e1 : b.ob = sl
  · rw [if_pos e1, e1, hg]
    simp only [Option.some.injEq, exists_eq_left', true_and]
    rw [hcs, kget_kdel hn, hm]
    by_cases e2 : b.ho = q
    · rw [if_pos e2]
      constructor
      · rintro ⟨-, h⟩
        exact absurd e2 h
      · rintro ⟨h, -⟩
        cases h
    · rw [if_neg e2]
      exact ⟨fun h => h.1, fun h => ⟨h, e2⟩⟩
  · rw [if_neg e1]
    exact ⟨fun h => h.1, fun h => ⟨h, fun h' => e1 h'.1⟩⟩
/-- The same loans: an object whose loans stay. -/
theorem EMof.same {os : List (Int × Ob)} {E : List Bw} {sl : Int} {o o' : Ob} (hM : EMof os E) (hg : kget os sl = some o) (hcs : o'.cs = o.cs) (hm : o'.mo = o.mo) : EMof (kset os sl o') E := fun b => by
  rw [hM b, kget_kset]
  by_cases e1 : b.ob = sl
  · rw [if_pos e1, e1, hg]
    simp [hcs, hm]
  · rw [if_neg e1]
section
variable {k : Nat} {s : HS} {x : BkR} {e : EvR}
theorem stI_one (o : Option Bool) : stI o = 1 ↔ o = some true := by
  cases o with
  | none => simp [stI]
  | some b => cases b <;> simp [stI]
theorem RelB.alv (h : RelB k s x) {p : Int} (h1 : 1 ≤ p) (h2 : p ≤ 64) : x.st[p.toNat]? = some 1 ↔ alive s p = true := by
  rw [h.st p h1 h2, Option.some.injEq, stI_one]
  unfold alive
  cases kget s.sd p with
  | none => simp
  | some b => simp
theorem RelB.oth (h : RelB k s x) (hI : HInv k s) : othB x.st e = othP s e := by
  rw [Bool.eq_iff_iff]
  unfold othB othP
  simp only [Bool.and_eq_true, decide_eq_true_eq, Bool.not_eq_true', decide_eq_false_iff_not]
  constructor
  · rintro ⟨⟨⟨h1, h2⟩, h3⟩, h4⟩
    exact ⟨⟨h2, h4⟩, (h.alv (p := e.ar) (by omega) (by omega)).1 h3⟩
  · rintro ⟨⟨h2, h4⟩, h5⟩
    have h1 := (hI.alv _ h5).1
    exact ⟨⟨⟨by omega, h2⟩, (h.alv (p := e.ar) (by omega) (by omega)).2 h5⟩, h4⟩
theorem RelB.holdCo (h : RelB k s x) {ob ho : Int} {o : Ob} (hg : kget s.os ob = some o) : ((holdB x.E ob ho).getD bw0).co = (kget o.cs ho).getD 0 := by
  rw [h.hold, hg]
  cases hc : kget o.cs ho with
  | none => simp [hc]; rfl
  | some c => simp [hc]
theorem RelB.rel {b : BO} {o : Ob} {rc : Int} {y : BkR} (h : RelB k s x) (hI : HInv k s) (hh : b.h = e.h) (hg : kget s.os (slotF e.h) = some o)
    (hst : y.st = x.st) (hl : y.l = x.l) (hT : RelOk x.E (slotF b.h) e.pl rc y.E) :
    decide (rc = 0) = (relS s e o).isSome ∧ ∀ s', relS s e o = some s' → RelB (k + 1) s' y := by
  have hob := hI.get hg
  rw [hh] at hT
  unfold RelOk at hT
  rw [h.hold, hg] at hT
  unfold relS
  cases hc : kget o.cs e.pl with
  | none =>
    simp [hc] at hT
    subst hT
    simp
  | some c =>
    have hc1 := hob.cnt _ (kget_mem hc)
    simp only at hc1
    simp only [Option.bind_some, hc, Option.map_some] at hT
    obtain ⟨rfl, hT⟩ := hT
    have hc0 : ¬ c = 0 := by omega
    simp only [Option.getD_some, hc0, if_false]
    refine ⟨rfl, fun s' hs => ?_⟩
    injection hs with hs
    subst hs
    have hlen : y.E.length ≤ k + 1 := by
      have h1 : (wtoB x.E (slotF e.h) e.pl).length ≤ x.E.length := List.length_filter_le _ _
      have h2 := h.eL
      split at hT
      · rw [hT]; omega
      · obtain ⟨P, Q, hP⟩ := hT
        rw [hP.len]; omega
    have hsrt : y.E.Pairwise fun a b => ltB a b = true := by
      split at hT
      · rw [hT]; exact h.eS.sublist List.filter_sublist
      · obtain ⟨P, Q, hP⟩ := hT
        exact hP.srt (h.eS.sublist List.filter_sublist) fun b hb => (wtoB_mem.1 hb).2
    refine ⟨by rw [hst]; exact h.sl, by rw [hst]; exact h.st, by rw [hl]; exact h.lS, by rw [hl]; exact LMof.set h.lM hg rfl rfl, hsrt, ?_, hlen⟩
    split at hT
    · rename_i h0
      refine EMof.del (o' := relO o e.pl) h.eM hg hob.nd ?_ rfl fun b => by rw [hT]; exact wtoB_mem
      unfold relO
      rw [hc]
      simp [h0]
    · rename_i h0
      obtain ⟨P, Q, hP⟩ := hT
      refine EMof.put (o' := relO o e.pl) (m := o.mo) (c' := c - 1) h.eM hg ?_ rfl (.inl rfl) fun b => by rw [hP.mem]; rw [wtoB_mem]
      unfold relO
      rw [hc]
      simp [h0]
theorem RelB.lend {b : BO} {o : Ob} {m : Int} {r : Bool} {y : BkR} (h : RelB k s x) (hI : HInv k s) (hm : m = 1 ∨ m = 2) (hh : b.h = e.h) (hw : o.ow = b.ow) (hg : kget s.os (slotF e.h) = some o)
    (hst : y.st = x.st) (hT : LendAt x e b m r y) :
    r = (lendS s e o m).isSome ∧ ∀ s', lendS s e o m = some s' → RelB (k + 1) s' y := by
  have hob := hI.get hg
  unfold LendAt at hT
  rw [h.oth hI, hh] at hT
  unfold lendS
  rw [hw.symm] at hT
  cases hoo : (decide (o.ow = e.pl) && othP s e) with
  | false =>
    rw [hoo, if_neg (by decide)] at hT
    have hb : lendB s e o m = false := by
      unfold lendB
      rw [Bool.and_comm (othP s e), hoo]
      rfl
    rw [hb, hT]
    simp
  | true =>
    rw [hoo, if_pos rfl] at hT
    obtain ⟨rc, rfl, hT, hl⟩ := hT
    have hb : lendB s e o m = (decide (o.cs = []) || (!decide (m = 2) && !decide (o.mo = 2))) := by
      unfold lendB
      rw [Bool.and_comm (othP s e), hoo]
      rfl
    unfold LendOk at hT
    have hco := h.holdCo (ho := e.ar) hg
    rw [hco] at hT
    have hcond : (ofB x.E (slotF e.h) ≠ [] ∧ (m = 2 ∨ (ofB x.E (slotF e.h)).head?.map Bw.mo = some 2)) ↔ lendB s e o m = false := by
      rw [hb]
      constructor
      · rintro ⟨h1, h2⟩
        have hcs : ¬ o.cs = [] := fun h0 => h1 ((h.of_nil hg).2 h0)
        rw [h.of_head hg h1, Option.some.injEq] at h2
        rcases h2 with h2 | h2 <;> simp [hcs, h2]
      · intro h2
        simp only [Bool.or_eq_false_iff, decide_eq_false_iff_not] at h2
        have h1 : ofB x.E (slotF e.h) ≠ [] := fun h0 => h2.1 ((h.of_nil hg).1 h0)
        refine ⟨h1, ?_⟩
        rw [h.of_head hg h1, Option.some.injEq]
        by_cases hm2 : m = 2
        · exact .inl hm2
        · refine .inr ?_
          simpa [hm2] using h2.2
    cases hlb : lendB s e o m with
    | false =>
      rw [if_pos (hcond.2 hlb)] at hT
      subst hT
      simp
    | true =>
      rw [if_neg (fun hc => by rw [hcond.1 hc] at hlb; cases hlb)] at hT
      obtain ⟨rfl, P, Q, hP⟩ := hT
      simp only [if_true]
      refine ⟨rfl, fun s' hs => ?_⟩
      injection hs with hs
      subst hs
      have hlen : y.E.length ≤ k + 1 := by
        have h1 : (wtoB x.E (slotF e.h) e.ar).length ≤ x.E.length := List.length_filter_le _ _
        have h2 := h.eL
        rw [hP.len]; omega
      refine ⟨by rw [hst]; exact h.sl, by rw [hst]; exact h.st, by rw [hl]; exact h.lS, by rw [hl]; exact LMof.set h.lM hg rfl rfl, hP.srt (h.eS.sublist List.filter_sublist) fun b hb => (wtoB_mem.1 hb).2, ?_, hlen⟩
      refine EMof.put (o' := lendO o e.ar m) (m := m) (c' := (kget o.cs e.ar).getD 0 + 1) h.eM hg rfl rfl ?_ fun b => by rw [hP.mem]; rw [wtoB_mem]
      by_cases hcs : o.cs = []
      · exact .inr hcs
      · refine .inl ?_
        rw [hb] at hlb
        simp only [hcs, decide_false, Bool.false_or, Bool.and_eq_true, Bool.not_eq_true', decide_eq_false_iff_not] at hlb
        rcases hob.mode hcs with h1 | h1
        · simp only at h1
          omega
        · exact absurd h1 hlb.2
end
end Go.Proofs.Ytaifnipgefkemaa
/- The code's state and the reference's book go together: every event. -/
namespace Go.Proofs.Ytaifnipgefkemaa
open Go.RowKit Go.Shelf
set_option linter.unusedVariables false
set_option linter.unusedSimpArgs false
theorem at_split {α : Type} {l : List α} {i : Nat} {o : α} (h : l[i]? = some o) : l = l.take i ++ o :: l.drop (i + 1) := by
  conv => lhs; rw [← List.take_append_drop i l]
  rw [drop_cons h]
theorem erase_split {α : Type} {l : List α} {i : Nat} : l.eraseIdx i = l.take i ++ l.drop (i + 1) := List.eraseIdx_eq_take_drop_succ ..
theorem set_split {α : Type} {l : List α} {i : Nat} {o : α} (h : l[i]? = some o) (v : α) : l.set i v = l.take i ++ v :: l.drop (i + 1) := by
  have := (List.getElem?_eq_some_iff.1 h).1
  rw [List.set_eq_take_append_cons_drop, if_pos this]
abbrev SlSrt (l : List BO) : Prop := l.Pairwise fun a b => slotF a.h < slotF b.h
theorem srt_apart {A B : List BO} {o : BO} (h : SlSrt (A ++ o :: B)) : ∀ b, b ∈ A ∨ b ∈ B → slotF b.h ≠ slotF o.h := by
  obtain ⟨h1, h2, h3⟩ := List.pairwise_append.1 h
  obtain ⟨h4, -⟩ := List.pairwise_cons.1 h2
  rintro b (hb | hb)
  · exact Nat.ne_of_lt (h3 b hb o (.head _))
  · exact Nat.ne_of_gt (h4 b hb)
theorem erase_mem {l : List BO} {i : Nat} {o : BO} (h : l[i]? = some o) (hs : SlSrt l) (b : BO) : b ∈ l.eraseIdx i ↔ b ∈ l ∧ slotF b.h ≠ slotF o.h := by
  have e := at_split h
  have hs' := hs
  rw [e] at hs'
  have ha := srt_apart hs'
  rw [erase_split]
  conv => rhs; rw [e]
  simp only [List.mem_append, List.mem_cons]
  constructor
  · intro hb
    exact ⟨hb.imp id .inr, ha b hb⟩
  · rintro ⟨hb | rfl | hb, hn⟩
    · exact .inl hb
    · exact absurd rfl hn
    · exact .inr hb
theorem set_mem {l : List BO} {i : Nat} {o v : BO} (h : l[i]? = some o) (hs : SlSrt l) (b : BO) : b ∈ l.set i v ↔ b = v ∨ (b ∈ l ∧ slotF b.h ≠ slotF o.h) := by
  have e := at_split h
  have hs' := hs
  rw [e] at hs'
  have ha := srt_apart hs'
  rw [set_split h]
  conv => rhs; rw [e]
  simp only [List.mem_append, List.mem_cons]
  constructor
  · rintro (hb | rfl | hb)
    · exact .inr ⟨.inl hb, ha b (.inl hb)⟩
    · exact .inl rfl
    · exact .inr ⟨.inr (.inr hb), ha b (.inr hb)⟩
  · rintro (rfl | ⟨hb | rfl | hb, hn⟩)
    · exact .inr (.inl rfl)
    · exact .inl hb
    · exact absurd rfl hn
    · exact .inr (.inr hb)
theorem set_srt {l : List BO} {i : Nat} {o v : BO} (h : l[i]? = some o) (hs : SlSrt l) (hv : slotF v.h = slotF o.h) : SlSrt (l.set i v) := by
  have e := at_split h
  rw [set_split h]
  rw [e] at hs
  obtain ⟨h1, h2, h3⟩ := List.pairwise_append.1 hs
  obtain ⟨h4, h5⟩ := List.pairwise_cons.1 h2
  refine List.pairwise_append.2 ⟨h1, List.pairwise_cons.2 ⟨fun b hb => by rw [hv]; exact h4 b hb, h5⟩, fun a ha b hb => ?_⟩
  rcases List.mem_cons.1 hb with rfl | hb
  · rw [hv]; exact h3 a ha o (.head _)
  · exact h3 a ha b (List.mem_cons_of_mem _ hb)
section
variable {k : Nat} {s : HS} {x : BkR} {e : EvR}
theorem RelB.free {b : BO} {o : Ob} {i : Nat} {y : BkR} (h : RelB k s x) (hI : HInv k s) (hb : x.l[i]? = some b) (hh : b.h = e.h) (hg : kget s.os (slotF e.h) = some o)
    (hst : y.st = x.st) (hl : y.l = x.l.eraseIdx i) (hE : y.E = x.E.filter fun c => !decide (c.ob = (slotF b.h : Int))) : RelB (k + 1) { s with os := kdel s.os (slotF e.h) } y := by
  refine ⟨by rw [hst]; exact h.sl, by rw [hst]; exact h.st, by rw [hl]; exact h.lS.sublist (List.eraseIdx_sublist ..), fun c => ?_, by rw [hE]; exact h.eS.sublist List.filter_sublist, fun c => ?_, by rw [hE]; exact Nat.le_trans (List.length_filter_le _ _) (Nat.le_succ_of_le h.eL)⟩
  · rw [hl, erase_mem hb h.lS, h.lM c, kget_kdel hI.nd, hh]
    by_cases e1 : slotF c.h = slotF e.h
    · rw [if_pos (by rw [e1])]
      simp [e1]
    · rw [if_neg (fun h' => e1 (Int.ofNat_inj.1 h'))]
      simp [e1]
  · rw [hE, List.mem_filter, h.eM c, kget_kdel hI.nd, hh]
    by_cases e1 : c.ob = slotF e.h
    · rw [if_pos e1]
      simp [e1]
    · rw [if_neg e1]
      simp [e1]
theorem RelB.trans {b : BO} {o : Ob} {i : Nat} {y : BkR} (h : RelB k s x) (hI : HInv k s) (hb : x.l[i]? = some b) (hh : b.h = e.h) (hg : kget s.os (slotF e.h) = some o) (hoh : o.h = e.h)
    (hst : y.st = x.st) (hl : y.l = x.l.set i ⟨b.h, e.ar⟩) (hE : y.E = x.E) : RelB (k + 1) { s with os := kset s.os (slotF e.h) { o with ow := e.ar } } y := by
  refine ⟨by rw [hst]; exact h.sl, by rw [hst]; exact h.st, by rw [hl]; exact set_srt hb h.lS rfl, fun c => ?_, by rw [hE]; exact h.eS, by rw [hE]; exact EMof.same h.eM hg rfl rfl, by rw [hE]; exact Nat.le_succ_of_le h.eL⟩
  rw [hl, set_mem hb h.lS, h.lM c, kget_kset, hh]
  by_cases e1 : slotF c.h = slotF e.h
  · rw [if_pos (by rw [e1])]
    obtain ⟨c1, c2⟩ := c
    simp only [BO.mk.injEq, Option.some.injEq, exists_eq_left', hoh, e1, ne_eq, not_true_eq_false, and_false, or_false]
    exact ⟨fun h => ⟨h.1.symm, h.2.symm⟩, fun h => ⟨h.1.symm, h.2.symm⟩⟩
  · rw [if_neg (fun h' => e1 (Int.ofNat_inj.1 h'))]
    simp only [ne_eq, e1, not_false_eq_true, and_true, or_iff_right_iff_imp]
    rintro rfl
    exact absurd rfl e1
theorem RelB.busy (h : RelB k s x) (hI : HInv k s) (sl : Int) : busyB x.l sl = false ↔ kget s.os sl = none := by
  unfold busyB
  rw [List.any_eq_false]
  constructor
  · intro h1
    cases hg : kget s.os sl with
    | none => rfl
    | some o =>
      have hsl := (hI.get hg).slot
      simp only at hsl
      refine absurd ?_ (h1 ⟨o.h, o.ow⟩ ((h.lM _).2 ⟨o, ?_, rfl, rfl⟩))
      · simpa using hsl.symm
      · rw [← hsl]; exact hg
  · intro h1 b hb
    obtain ⟨o, g1, -⟩ := (h.lM b).1 hb
    simp only [decide_eq_true_eq]
    intro e1
    rw [e1, h1] at g1
    cases g1
theorem RelB.alloc {y : BkR} {P Q : List BO} (h : RelB k s x) (hI : HInv k s) (hg : kget s.os (slotF e.h) = none)
    (hst : y.st = x.st) (hl : AddOk ⟨e.h, e.pl⟩ x.l y.l P Q) (hE : y.E = x.E) : RelB (k + 1) { s with os := kset s.os (slotF e.h) ⟨e.h, e.pl, 0, []⟩ } y := by
  have hbz := (h.busy hI _).2 hg
  unfold busyB at hbz
  rw [List.any_eq_false] at hbz
  refine ⟨by rw [hst]; exact h.sl, by rw [hst]; exact h.st, hl.srt h.lS fun b hb hs => hbz b hb (decide_eq_true (Int.ofNat_inj.2 hs)), fun c => ?_, by rw [hE]; exact h.eS, fun c => ?_, by rw [hE]; exact Nat.le_succ_of_le h.eL⟩
  · rw [hl.mem, h.lM c, kget_kset]
    by_cases e1 : slotF c.h = slotF e.h
    · rw [if_pos (by rw [e1]), e1, hg]
      obtain ⟨c1, c2⟩ := c
      simp only [BO.mk.injEq, Option.some.injEq, exists_eq_left', reduceCtorEq, false_and, exists_false, or_false]
      exact ⟨fun h => ⟨h.1.symm, h.2.symm⟩, fun h => ⟨h.1.symm, h.2.symm⟩⟩
    · rw [if_neg (fun h' => e1 (Int.ofNat_inj.1 h'))]
      refine or_iff_right ?_
      rintro rfl
      exact e1 rfl
  · rw [hE, h.eM c, kget_kset]
    by_cases e1 : c.ob = slotF e.h
    · rw [if_pos e1, e1, hg]
      simp [kget]
    · rw [if_neg e1]
theorem kget_endO {os : List (Int × Ob)} (hn : (keys os).Nodup) (p j : Int) : kget (endO p os) j = (kget os j).bind fun o => if o.ow = p then none else some { o with cs := kdel o.cs p } := by
  have e : endO p os = kmap (fun o => { o with cs := kdel o.cs p }) (os.filter fun q => decide (¬ q.2.ow = p)) := rfl
  rw [e, kget_kmap, kget_filter hn]
  cases kget os j with
  | none => rfl
  | some o => by_cases h : o.ow = p <;> simp [h]
theorem srtL_perm {α : Type} {l : List (Int × α)} (hn : (keys l).Nodup) : (srtL l).Perm l := by
  have nd : ∀ {l : List (Int × α)}, (keys l).Nodup → l.Nodup := fun {l} h => (List.pairwise_map.1 h).imp fun {a b} hne he => hne (congrArg _ he)
  refine (List.perm_ext_iff_of_nodup (nd (srtL_srt hn).nodup) (nd hn)).2 fun q => ?_
  constructor
  · intro hq
    have := kget_of (srtL_srt hn).nodup hq
    rw [srtL_get hn] at this
    exact kget_mem this
  · intro hq
    have := kget_of hn hq
    rw [← srtL_get hn] at this
    exact kget_mem this
def toBO (q : Int × Ob) : BO := ⟨q.2.h, q.2.ow⟩
theorem mem_srtL {α : Type} {l : List (Int × α)} (hn : (keys l).Nodup) {q : Int × α} : q ∈ srtL l ↔ kget l q.1 = some q.2 := by
  rw [(srtL_perm hn).mem_iff]
  exact ⟨fun h => kget_of hn h, fun h => kget_mem h⟩
theorem RelB.l_eq (h : RelB k s x) (hI : HInv k s) : x.l = (srtL s.os).map toBO := by
  refine pw_ext (R := fun a b => slotF a.h < slotF b.h) (fun a b h1 h2 => by omega) h.lS ?_ fun b => ?_
  · rw [List.pairwise_map]
    have h1 := srtL_srt hI.nd
    unfold Srt keys at h1
    rw [List.pairwise_map] at h1
    refine h1.imp_of_mem fun {a b} ha hb hab => ?_
    have h2 := (hI.obj a ((srtL_perm hI.nd).mem_iff.1 ha)).slot
    have h3 := (hI.obj b ((srtL_perm hI.nd).mem_iff.1 hb)).slot
    unfold toBO
    simp only
    omega
  · rw [h.lM, List.mem_map]
    constructor
    · rintro ⟨o, h1, h2, h3⟩
      exact ⟨(slotF b.h, o), (mem_srtL hI.nd).2 h1, by unfold toBO; simp only [h2, h3]⟩
    · rintro ⟨q, h1, rfl⟩
      have h2 := (hI.obj q ((srtL_perm hI.nd).mem_iff.1 h1)).slot
      exact ⟨q.2, by unfold toBO; simp only; rw [← h2]; exact (mem_srtL hI.nd).1 h1, rfl, rfl⟩
theorem RelB.len (h : RelB k s x) (hI : HInv k s) : x.l.length ≤ k := by
  rw [h.l_eq hI, List.length_map, (srtL_perm hI.nd).length_eq]
  exact hI.len
theorem RelB.count (h : RelB k s x) (hI : HInv k s) (p : Int) : (x.l.filter (ownB p)).length = endN p s.os := by
  rw [h.l_eq hI, List.filter_map, List.length_map]
  exact ((srtL_perm hI.nd).filter _).length_eq
theorem RelB.end {y : BkR} (h : RelB k s x) (hI : HInv k s) (hp : 1 ≤ e.pl ∧ e.pl ≤ 64) (hst : y.st = x.st.set e.pl.toNat 2) (hl : y.l = x.l.filter fun o => !ownB e.pl o)
    (hE : y.E = (x.E.filter fun b => !decide (b.ho = e.pl)).filter fun b => !goneB e.pl x.l b) : RelB (k + 1) { sd := kset s.sd e.pl false, os := endO e.pl s.os } y := by
  refine ⟨by rw [hst, List.length_set]; exact h.sl, fun p h1 h2 => ?_, by rw [hl]; exact h.lS.sublist List.filter_sublist, fun c => ?_, by rw [hE]; exact (h.eS.sublist List.filter_sublist).sublist List.filter_sublist, fun c => ?_, by rw [hE]; exact Nat.le_trans (List.length_filter_le _ _) (Nat.le_trans (List.length_filter_le _ _) (Nat.le_succ_of_le h.eL))⟩
  · rw [hst, kget_kset]
    by_cases e1 : p = e.pl
    · rw [if_pos e1, e1, List.getElem?_set_self (by have := h.sl; omega)]
      rfl
    · rw [if_neg e1, List.getElem?_set_ne (by omega)]
      exact h.st p h1 h2
  · rw [hl, List.mem_filter, h.lM c, kget_endO hI.nd]
    constructor
    · rintro ⟨⟨o, g1, g2, g3⟩, g4⟩
      have hn : ¬ o.ow = e.pl := by rw [g3]; unfold ownB at g4; simpa using g4
      exact ⟨{ o with cs := kdel o.cs e.pl }, by rw [g1]; simp [hn], g2, g3⟩
    · rintro ⟨o', g1, g2, g3⟩
      cases g0 : kget s.os (slotF c.h) with
      | none => rw [g0] at g1; cases g1
      | some o =>
        rw [g0] at g1
        simp only [Option.bind_some] at g1
        split at g1
        · cases g1
        · rename_i hn
          injection g1 with g1
          subst g1
          exact ⟨⟨o, rfl, g2, g3⟩, by unfold ownB; simp only at g3; rw [g3] at hn; simpa using hn⟩
  · have hgone : ∀ o, kget s.os c.ob = some o → (goneB e.pl x.l c = true ↔ o.ow = e.pl) := fun o ho => by
      unfold goneB
      rw [List.any_eq_true]
      constructor
      · rintro ⟨b, hb, hb2⟩
        simp only [ownB, Bool.and_eq_true, decide_eq_true_eq] at hb2
        obtain ⟨o', g1, g2, g3⟩ := (h.lM b).1 hb
        rw [hb2.2, ho] at g1
        cases g1
        rw [g3]; exact hb2.1
      · intro how
        have hsl := (hI.get ho).slot
        simp only at hsl
        exact ⟨⟨o.h, o.ow⟩, (h.lM _).2 ⟨o, by rw [← hsl]; exact ho, rfl, rfl⟩, by simp [ownB, how, hsl]⟩
    rw [hE, List.mem_filter, List.mem_filter, h.eM c, kget_endO hI.nd]
    constructor
    · rintro ⟨⟨⟨o, g1, g2, g3⟩, g4⟩, g5⟩
      have hn : ¬ o.ow = e.pl := fun hw => by rw [(hgone o g1).2 hw] at g5; cases g5
      have hho : ¬ c.ho = e.pl := by simpa using g4
      exact ⟨{ o with cs := kdel o.cs e.pl }, by rw [g1]; simp [hn], by rw [kget_kdel (hI.get g1).nd, if_neg hho]; exact g2, g3⟩
    · rintro ⟨o', g1, g2, g3⟩
      cases g0 : kget s.os c.ob with
      | none => rw [g0] at g1; cases g1
      | some o =>
        rw [g0] at g1
        simp only [Option.bind_some] at g1
        split at g1
        · cases g1
        · rename_i hn
          injection g1 with g1
          subst g1
          simp only at g2 g3
          rw [kget_kdel (hI.get g0).nd] at g2
          split at g2
          · cases g2
          · rename_i hho
            refine ⟨⟨⟨o, rfl, g2, g3⟩, by simpa using hho⟩, ?_⟩
            cases hgb : goneB e.pl x.l c with
            | false => rfl
            | true => exact absurd ((hgone o g0).1 hgb) hn
theorem RelB.start {y : BkR} (h : RelB k s x) (hp : 1 ≤ e.pl ∧ e.pl ≤ 64) (hst : y.st = x.st.set e.pl.toNat 1) (hl : y.l = x.l) (hE : y.E = x.E) : RelB (k + 1) { s with sd := kset s.sd e.pl true } y := by
  refine ⟨by rw [hst, List.length_set]; exact h.sl, fun p h1 h2 => ?_, by rw [hl]; exact h.lS, by rw [hl]; exact h.lM, by rw [hE]; exact h.eS, by rw [hE]; exact h.eM, by rw [hE]; exact Nat.le_succ_of_le h.eL⟩
  rw [hst, kget_kset]
  by_cases e1 : p = e.pl
  · rw [if_pos e1, e1, List.getElem?_set_self (by have := h.sl; omega)]
    rfl
  · rw [if_neg e1, List.getElem?_set_ne (by omega)]
    exact h.st p h1 h2
theorem RelB.step {r : Bool} {y : BkR} (h : RelB k s x) (hI : HInv k s) (hsk : evSkip e = false) (hT : TakeOk x e r y) :
    r = (stepS s e).isSome ∧ ∀ s', stepS s e = some s' → RelB (k + 1) s' y := by
  have no : ∀ {o : Option HS}, o = none → r = false → r = o.isSome ∧ ∀ s', o = some s' → RelB (k + 1) s' y := fun ho hr => by rw [ho, hr]; exact ⟨rfl, fun s' hs => by cases hs⟩
  have yes : ∀ {o : Option HS} {s1 : HS}, o = some s1 → r = true → RelB (k + 1) s1 y → r = o.isSome ∧ ∀ s', o = some s' → RelB (k + 1) s' y := fun ho hr hrel => by
    rw [ho, hr]
    exact ⟨rfl, fun s' hs => by cases hs; exact hrel⟩
  unfold stepS
  unfold TakeOk at hT
  rw [hsk, if_neg Bool.false_ne_true]
  by_cases hpl : e.pl < 1 ∨ 64 < e.pl
  · rw [if_pos hpl] at hT ⊢
    exact no rfl hT
  rw [if_neg hpl] at hT ⊢
  have hp : 1 ≤ e.pl ∧ e.pl ≤ 64 := by omega
  by_cases h32 : e.op = 32
  · rw [if_pos h32] at hT ⊢
    have hs := h.st e.pl hp.1 hp.2
    unfold startS
    cases hk : kget s.sd e.pl with
    | none =>
      rw [hk] at hs
      rw [if_pos (show x.st[e.pl.toNat]? = some 0 from hs)] at hT
      exact yes rfl hT.1 (h.start hp hT.2.1 hT.2.2.1 hT.2.2.2)
    | some b =>
      rw [hk] at hs
      rw [if_neg (fun h0 => by rw [hs] at h0; cases b <;> simp [stI] at h0)] at hT
      exact no rfl hT
  rw [if_neg h32] at hT ⊢
  have hal := h.alv hp.1 hp.2
  cases hav : alive s e.pl with
  | false =>
    rw [if_pos (fun h0 => by rw [hal.1 h0] at hav; cases hav)] at hT
    rw [if_pos rfl]
    exact no rfl hT
  | true =>
  rw [if_neg (fun h0 => h0 (hal.2 hav))] at hT
  rw [if_neg (by decide)]
  by_cases h33 : e.op = 33
  · rw [if_pos h33] at hT ⊢
    obtain ⟨hr, h1, h2, h3⟩ := hT
    rw [h.count hI] at hr
    unfold endS
    by_cases hc : endN e.pl s.os = e.ar
    · rw [if_pos hc]
      exact yes rfl (by rw [hr]; exact decide_eq_true hc) (h.end hI hp h1 h2 h3)
    · rw [if_neg hc]
      exact no rfl (by rw [hr]; exact decide_eq_false hc)
  rw [if_neg h33] at hT ⊢
  by_cases h1 : e.op = 1
  · rw [if_pos h1] at hT ⊢
    unfold allocS
    by_cases hc : (0 < genF e.h ∧ 0 < tagF e.h) ∧ kget s.os (slotF e.h) = none
    · rw [if_pos hc]
      rw [if_pos (by rw [decide_eq_true hc.1, (h.busy hI _).2 hc.2]; rfl)] at hT
      obtain ⟨hr, hst, ⟨P, Q, hl⟩, hE⟩ := hT
      exact yes rfl hr (h.alloc hI hc.2 hst hl hE)
    · rw [if_neg hc]
      rw [if_neg (fun h0 => hc (by
        simp only [Bool.and_eq_true, decide_eq_true_eq, Bool.not_eq_true'] at h0
        exact ⟨h0.1, (h.busy hI _).1 h0.2⟩))] at hT
      exact no rfl hT
  rw [if_neg h1] at hT ⊢
  rcases h.find (e := e) hI with ⟨hn, hf⟩ | ⟨i, b, o, hi, hb, hbh, hf, hg, hoh, how⟩
  · have hr := hT.no hn
    split
    · refine no ?_ hr
      unfold useS
      rw [hf]
    · exact no rfl hr
  have hA := hT.yes i b hi hb
  have hst := hT.st
  unfold ObjAt at hA
  by_cases h11 : e.op = 11
  · rw [if_pos h11] at hA
    obtain ⟨rc, rfl, hR, hl⟩ := hA
    rw [if_pos (by omega), useS_of hf]
    simp only [h11, Int.reduceEq, if_false]
    exact h.rel hI hbh hg hst hl hR
  rw [if_neg h11] at hA
  by_cases h2 : e.op = 2
  · rw [if_pos h2] at hA
    rw [if_pos (by omega), useS_of hf, if_pos h2]
    have hfb : (decide (b.ow = e.pl) && decide (ofB x.E (slotF b.h) = [])) = freeB e o := by
      unfold freeB
      rw [how, hbh, show decide (ofB x.E (slotF e.h) = []) = decide (o.cs = []) from decide_eq_decide.2 (h.of_nil hg)]
    rw [hfb] at hA
    split at hA
    · rename_i hfr
      rw [if_pos hfr]
      exact yes rfl hA.1 (h.free hI hb hbh hg hst hA.2.1 hA.2.2)
    · rename_i hfr
      rw [if_neg hfr]
      exact no rfl hA
  rw [if_neg h2] at hA
  by_cases h8 : e.op = 8
  · rw [if_pos h8] at hA
    rw [if_pos (by omega), useS_of hf, if_neg h2, if_pos h8]
    have hfb : (decide (b.ow = e.pl) && decide (ofB x.E (slotF b.h) = []) && othB x.st e) = (freeB e o && othP s e) := by
      unfold freeB
      rw [how, hbh, show decide (ofB x.E (slotF e.h) = []) = decide (o.cs = []) from decide_eq_decide.2 (h.of_nil hg), h.oth hI]
    rw [hfb] at hA
    split at hA
    · rename_i hfr
      rw [if_pos hfr]
      exact yes rfl hA.1 (h.trans hI hb hbh hg hoh hst hA.2.1 hA.2.2)
    · rename_i hfr
      rw [if_neg hfr]
      exact no rfl hA
  rw [if_neg h8] at hA
  by_cases h9 : e.op = 9
  · rw [if_pos h9] at hA
    rw [if_pos (by omega), useS_of hf, if_neg h2, if_neg h8, if_pos h9]
    exact h.lend hI (.inl rfl) hbh how hg hst hA
  rw [if_neg h9] at hA
  by_cases h10 : e.op = 10
  · rw [if_pos h10] at hA
    rw [if_pos (by omega), useS_of hf, if_neg h2, if_neg h8, if_neg h9, if_pos h10]
    exact h.lend hI (.inr rfl) hbh how hg hst hA
  rw [if_neg h10] at hA
  rw [if_neg (by omega)]
  exact no rfl hA
end
end Go.Proofs.Ytaifnipgefkemaa
/- The reference reads a history: read, Replay. -/
namespace Go.Proofs.Ytaifnipgefkemaa
open Go.RowKit Go.Shelf
set_option linter.unusedVariables false
set_option linter.unusedSimpArgs false
set_option maxRecDepth 100000
theorem RelB.ofEq {k : Nat} {s : HS} {x : BkR} (h : RelB k s x) (hI : HInv k s) {ob : Int} {o : Ob} (hg : kget s.os ob = some o) : ofB x.E ob = (srtL o.cs).map (bwO o) := by
  have hob := hI.get hg
  have hsl := hob.slot
  simp only at hsl
  refine pw_ext (R := fun a b => ltB a b = true) ltB_as (h.eS.sublist List.filter_sublist) ?_ fun b => ?_
  · rw [List.pairwise_map]
    have h1 := srtL_srt hob.nd
    unfold Srt keys at h1
    rw [List.pairwise_map] at h1
    refine List.Pairwise.imp ?_ h1
    intro a b hab
    exact ltB_iff.2 (.inr ⟨rfl, hab⟩)
  · unfold ofB
    rw [List.mem_filter, h.eM b, List.mem_map]
    constructor
    · rintro ⟨⟨o', g1, g2, g3⟩, g4⟩
      have g4' : b.ob = ob := by simpa using g4
      rw [g4', hg] at g1
      cases g1
      refine ⟨(b.ho, b.co), (mem_srtL hob.nd).2 g2, ?_⟩
      obtain ⟨b1, b2, b3, b4⟩ := b
      dsimp only at g2 g3 g4'
      unfold bwO
      simp only [← hsl, g3, g4']
    · rintro ⟨c, hc, rfl⟩
      have := (mem_srtL hob.nd).1 hc
      unfold bwO
      simp only [← hsl, decide_true, and_true]
      exact ⟨o, hg, this, rfl⟩
structure FbR where
  b : Nat
  sb : Nat
  LA : Option Addr
  ln : Nat
  lc : Nat
  EA : Option Addr
  en : Nat
  ec : Nat
  st : List Int
  ros : List RO
  E : List Bw
def rdV : Option FbR → Value
  | none => .tuple #[.pointer none, .int .i64 28]
  | some y => .tuple #[.pointer (some ⟨y.b, 0, none⟩), .int .i64 0]
def fbL (y : FbR) : List Res := .blk y.b 78 [.slice (some ⟨y.sb, 0, none⟩) 65 65, .slice y.LA y.ln y.lc, .slice y.EA y.en y.ec] :: .row (.slice (some ⟨y.sb, 0, none⟩) 65 65) 3 1 65 (stCells y.st) :: .row (.slice y.LA y.ln y.lc) 43 6 y.ln (roCells y.ros) :: .row (.slice y.EA y.en y.ec) 82 4 y.en (bwCells y.E) :: y.ros.map roRow
def rdL : Option FbR → List Res
  | none => []
  | some y => fbL y
def RdOk (es : List EvR) : Option FbR → Prop
  | none => runS hs0 es = none
  | some y => ∃ s x, runS hs0 es = some s ∧ y.ros.map RO.pl = outL s ∧ RelB es.length s x ∧ HInv es.length s ∧ y.E = x.E
theorem rel0 {b sb : Nat} {LA EA : Option Addr} {ln lc en ec : Nat} : RelB 0 hs0 ⟨b, sb, LA, ln, lc, EA, en, ec, List.replicate 65 0, [], []⟩ := by
  refine ⟨by simp, fun p h1 h2 => ?_, .nil, fun c => ?_, .nil, fun c => ?_, Nat.le_refl _⟩
  · simp only [hs0, kget, stI]
    rw [List.getElem?_replicate, if_pos (by omega)]
  · simp [hs0, kget]
  · simp [hs0, kget]
theorem st0 : List.replicate 65 (Value.int .i64 0) = stCells (List.replicate 65 0) := by unfold stCells; rw [List.map_replicate]
theorem robo_get {ros : List RO} {l : List BO} {j : Nat} {o : BO} (hj : ros.length = j) (ho : l[j]? = some o) : (roCells ros ++ boCells (l.drop j))[j * 6 + 0]? = some (.int .u64 (o.h : Int)) := by
  have hr : (roCells ros).length = j * 6 := by unfold roCells; rw [flLen roc_len, hj]
  rw [List.getElem?_append_right (by omega), hr, drop_cons ho]
  rw [show j * 6 + 0 - j * 6 = 0 by omega]
  rfl
theorem robo_set {ros : List RO} {l : List BO} {j : Nat} {o : BO} {A : Option Addr} {n c : Nat} {bs : List Bw} (hj : ros.length = j) (ho : l[j]? = some o) :
    (roCells ros ++ boCells (l.drop j)).set (j * 6 + 5) (.slice A n c) = roCells (ros ++ [⟨o.h, o.ow, A, n, c, bs⟩]) ++ boCells (l.drop (j + 1)) := by
  have hr : (roCells ros).length = j * 6 := by unfold roCells; rw [flLen roc_len, hj]
  rw [List.set_append_right _ _ (by omega), hr, drop_cons ho]
  rw [show j * 6 + 5 - j * 6 = 5 by omega, roCells_snoc, List.append_assoc]
  rfl
theorem robo_len {ros : List RO} {l : List BO} {j : Nat} (hj : ros.length = j) (hl : j ≤ l.length) : (roCells ros ++ boCells (l.drop j)).length = l.length * 6 := by
  have hr : (roCells ros).length = j * 6 := by unfold roCells; rw [flLen roc_len, hj]
  rw [List.length_append, hr, boCells_len, List.length_drop]
  omega
theorem look_ros : ∀ (ros : List RO) (g : Nat), look (ros.map roRow) g = none
  | [], g => rfl
  | r :: ros, g => look_ros ros g
set_option maxRecDepth 100000 in
theorem sHjS1 : type_of% (And.intro (And.intro (And.intro @Nat.mul_one @wrap_in) (And.intro @cMv (And.intro @cM @suf_o3))) (And.intro (And.intro @suf_o4 @suf_o5) (And.intro @suf_o6 (And.intro @suf_o7 @look_ros)))) := (And.intro (And.intro (And.intro @Nat.mul_one @wrap_in) (And.intro @cMv (And.intro @cM @suf_o3))) (And.intro (And.intro @suf_o4 @suf_o5) (And.intro @suf_o6 (And.intro @suf_o7 @look_ros))))
set_option maxHeartbeats 4000000 in
theorem rRead_any (A : Option Addr) (n c : Nat) (es : List EvR) (W : World) (hE : Sl W W.heap.size 5 A n c (evCells es)) (hok : ∀ e ∈ es, e.ok) (hn : n ≤ 900) :
    Calls Try.prog 22 #[.slice A n c] W
    fun en w' => ∃ i : Option FbR, en = .returned (rdV i) ∧ RdOk es i ∧ St [] W (rdL i) w' := by
  have hlen : es.length = n := by
    have := hE.len
    unfold evCells at this
    rw [flLen evc_len] at this
    omega
  refine calls_cv (M := []) (n := 61) [.tmp 2, .tmp 3] rfl Try.func22 rfl rfl (Nat.le_of_ble_eq_true rfl) (St.nil _ _) ?_
  refine cv_seq_k fun K hK => ?_
  refine cv_region_then rfl ?_
  simp -implicitDefEqProofs (disch := first | omega | decide) only [seval, -Int.reducePow, -Nat.reducePow, cC, pv, binv, sHjS1, undef]
  refine hK _ _ ?_
  clear hK K
  refine cv_seq_k fun K hK => ?_
  refine cv_region_then rfl ?_
  simp -implicitDefEqProofs (disch := first | omega | decide) only [seval, -Int.reducePow, -Nat.reducePow, cC, pv, binv, sHjS1, undef]
  refine xv_make (n := 65) (u := .int .i64 0) tap65 rfl rfl rfl (by decide) (by decide) ?_
  intro sb hsb hsf
  simp -implicitDefEqProofs (disch := first | omega | decide) only [seval, -Int.reducePow, -Nat.reducePow, cC, pv, binv, sHjS1, undef]
  intro b hb hf
  refine hK _ _ ?_
  clear hK K
  refine cv_seq_k fun K hK => ?_
  refine cv_seq_k fun K hK => ?_
  refine cv_region_then rfl ?_
  simp -implicitDefEqProofs (disch := first | omega | decide) only [seval, -Int.reducePow, -Nat.reducePow, cC, pv, binv, sHjS1, undef]
  refine hK _ _ ?_
  clear hK K
  refine cv_gen fun G1 hG => ?_
  have g1_0 := congrFun hG 0
  have g1_4 := congrFun hG 4
  have g1_5 := congrFun hG 5
  clear hG
  try simp -implicitDefEqProofs (disch := first | omega | decide) only [seval, -Int.reducePow, -Nat.reducePow, cC, pv, binv, sHjS1, undef] at g1_0 g1_4 g1_5
  have g1 := And.intro g1_0 (And.intro g1_4 g1_5)
  refine cv_nil 43 6 ?_
  refine cv_nil 82 4 ?_
  refine cv_sub (bkL ⟨b, sb, none, 0, 0, none, 0, 0, List.replicate 65 0, [], []⟩) (fun w hw => ?_) ?_
  · have h1 : St [] W (.blk sb 3 (List.replicate 65 (.int .i64 0)) :: .blk b 78 [.slice (some ⟨sb, 0, none⟩) 65 65, .slice none 0 0, .slice none 0 0] :: .row (.slice none 0 0) 82 4 0 [] :: .row (.slice none 0 0) 43 6 0 [] :: []) w := hw.pick (ix := [3, 2, 0, 1]) (by decide)
    have h2 := h1.blk_row (size := 1) (n := 65) (by rw [List.length_replicate]) (by decide)
    rw [st0] at h2
    exact h2.pick (ix := [1, 0, 3, 2]) (by decide)
  refine cv_block ?_
  refine cv_loop (fun F' L' => ∃ (i : Nat) (s : HS) (x : BkR), F' 0 = G1 0 ∧ F' 4 = .pointer (some ⟨x.b, 0, none⟩) ∧ F' 5 = .int .i64 (i : Int) ∧ L' = bkL x ∧ i ≤ n ∧ runS hs0 (es.take i) = some s ∧ RelB i s x ∧ HInv i s) (fun F' L' => 2000 - (intOf (F' 5)).toNat) ?_ ?_
  · refine ⟨0, hs0, ⟨b, sb, none, 0, 0, none, 0, 0, List.replicate 65 0, [], []⟩, ?_⟩
    simp -implicitDefEqProofs (disch := first | omega | decide) only [seval, -Int.reducePow, -Nat.reducePow, cC, pv, binv, sHjS1, undef, g1]
    exact ⟨by omega, rfl, rel0, hs0_inv⟩
  intro G2 L' hI
  obtain ⟨i, s, x, q0, q4, q5, rfl, ⟨hi, hrun, hR, hI⟩⟩ := hI
  have g2_0 := q0.trans g1_0
  have g2_4 := q4
  have g2_5 := q5
  clear q0 q4 q5
  have g2 := And.intro g2_0 (And.intro g2_4 g2_5)
  refine cv_seq_k fun K hK => ?_
  refine cv_seq_k fun K hK => ?_
  refine cv_region_then rfl ?_
  simp -implicitDefEqProofs (disch := first | omega | decide) only [seval, -Int.reducePow, -Nat.reducePow, cC, pv, binv, sHjS1, undef, g1, g2]
  refine hK _ _ ?_
  clear hK K
  refine cv_cond ?_
  simp -implicitDefEqProofs (disch := first | omega | decide) only [seval, -Int.reducePow, -Nat.reducePow, cC, pv, binv, sHjS1, undef, g1, g2]
  refine ⟨fun hc => ?_, fun hc => ?_⟩
  · refine cv_skip ?_
    try simp only [blockQ, thenQ]
    have hit : i < n := by have := of_decide_eq_true ‹decide ((i : Int) < (n : Int)) = true›; omega
    obtain ⟨e, he⟩ : ∃ e, es[i]? = some e := ⟨_, List.getElem?_eq_getElem (by omega)⟩
    have heo := hok e (List.mem_of_getElem? he)
    obtain ⟨bA, oA, rfl, hbA, -⟩ := hE.cells (by omega)
    have hld := flAt evc_len he
    have htk : es.take (i + 1) = es.take i ++ [e] := by rw [List.take_add_one, he]; rfl
    have hrs : runS hs0 (es.take (i + 1)) = stepS s e := by rw [htk, runS_snoc, hrun]; rfl
    have hxl := hR.len hI
    have hxE := hR.eL
    have h64 : ∀ o ∈ x.l, o.h < 18446744073709551616 := fun o ho => by
      obtain ⟨q, h1, h2, -⟩ := (hR.lM o).1 ho
      rw [← h2]
      exact (hI.get h1).h64
    have hco : ∀ c ∈ x.E, 0 ≤ c.co ∧ c.co ≤ 4611686018427387904 := fun c hc => by
      obtain ⟨q, h1, h2, -⟩ := (hR.eM c).1 hc
      have := (hI.get h1).cnt _ (kget_mem h2)
      simp only at this
      omega
    refine hK _ _ ?_
    clear hK K
    refine cv_fact (look (bkL x) bA = none) (fun w hw => hw.lookW hbA) fun hlk => ?_
    refine cv_seq_k fun K hK => ?_
    refine cv_block ?_
    refine cv_seq_k fun K hK => ?_
    cases hsk : evSkip e with
    | true =>
      refine cv_region_then rfl ?_
      simp -implicitDefEqProofs (disch := first | omega | decide) only [seval, -Int.reducePow, -Nat.reducePow, cC, pv, binv, sHjS1, undef, hlk, g1, g2]
      refine ⟨_, hE.ld (i := i * 5) (vs := evc e) (by omega) (by kernel_rfl) hld, fun tok htok => ?_⟩
      subst htok
      simp -implicitDefEqProofs (disch := first | omega | decide) only [seval, -Int.reducePow, -Nat.reducePow, cC, pv, binv, sHjS1, undef, hld, g1, g2]
      refine callV_ret (fun w hw => hsk ▸ rQuiet_any e w) ?_
      simp -implicitDefEqProofs (disch := first | omega | decide) only [seval, -Int.reducePow, -Nat.reducePow, cC, pv, binv, sHjS1, undef, g1, g2]
      refine hK _ _ ?_
      clear hK K
      refine cv_cond ?_
      simp -implicitDefEqProofs (disch := first | omega | decide) only [seval, -Int.reducePow, -Nat.reducePow, cC, pv, binv, sHjS1, undef, g1, g2]
      refine cv_skip ?_
      try simp only [blockQ, thenQ]
      refine hK _ _ ?_
      clear hK K
      refine cv_region_then rfl ?_
      simp -implicitDefEqProofs (disch := first | omega | decide) only [seval, -Int.reducePow, -Nat.reducePow, cC, pv, binv, sHjS1, undef, g1, g2]
      have hst : stepS s e = some s := by unfold stepS; rw [hsk, if_pos rfl]
      refine ⟨⟨i + 1, s, x, ?_⟩, ?_⟩
      · simp -implicitDefEqProofs (disch := first | omega | decide) only [seval, -Int.reducePow, -Nat.reducePow, cC, pv, binv, sHjS1, undef, Int.natCast_add, g1, g2]
        exact ⟨by omega, hrs.trans hst, hR.up, hI.up⟩
      · simp only [intOf]; omega
    | false =>
      refine cv_region_then rfl ?_
      simp -implicitDefEqProofs (disch := first | omega | decide) only [seval, -Int.reducePow, -Nat.reducePow, cC, pv, binv, sHjS1, undef, hlk, g1, g2]
      refine ⟨_, hE.ld (i := i * 5) (vs := evc e) (by omega) (by kernel_rfl) hld, fun tok htok => ?_⟩
      subst htok
      simp -implicitDefEqProofs (disch := first | omega | decide) only [seval, -Int.reducePow, -Nat.reducePow, cC, pv, binv, sHjS1, undef, hld, g1, g2]
      refine callV_ret (fun w hw => hsk ▸ rQuiet_any e w) ?_
      simp -implicitDefEqProofs (disch := first | omega | decide) only [seval, -Int.reducePow, -Nat.reducePow, cC, pv, binv, sHjS1, undef, hlk, g1, g2]
      refine ⟨_, hE.ld (i := i * 5) (vs := evc e) (by omega) (by kernel_rfl) hld, fun tok htok => ?_⟩
      subst htok
      simp -implicitDefEqProofs (disch := first | omega | decide) only [seval, -Int.reducePow, -Nat.reducePow, cC, pv, binv, sHjS1, undef, hld, g1, g2]
      refine callV_sub [] (bkL x) (List.Perm.refl _) bkV bkL2 _ (fun w hw => bTake_any x e heo hR.sl h64 (by omega) (by omega) hco w hw) ?_
      rintro ⟨r, y⟩ ⟨hT, hy⟩
      obtain ⟨hr, hst⟩ := hR.step hI hsk hT
      dsimp only at hr hst hy
      unfold bkV bkL2
      cases hs : stepS s e with
      | none =>
        rw [hs] at hr
        subst hr
        simp -implicitDefEqProofs (disch := first | omega | decide) only [seval, -Int.reducePow, -Nat.reducePow, cC, pv, binv, sHjS1, undef, g1, g2]
        refine hK _ _ ?_
        clear hK K
        refine cv_cond ?_
        simp -implicitDefEqProofs (disch := first | omega | decide) only [seval, -Int.reducePow, -Nat.reducePow, cC, pv, binv, sHjS1, undef, g1, g2]
        refine cv_seq_k fun K hK => ?_
        refine cv_region_then rfl ?_
        simp -implicitDefEqProofs (disch := first | omega | decide) only [seval, -Int.reducePow, -Nat.reducePow, cC, pv, binv, sHjS1, undef, g1, g2]
        refine hK _ _ ?_
        clear hK K
        refine cv_ret ⟨_, (by simp -implicitDefEqProofs (disch := first | omega | decide) only [seval, -Int.reducePow, -Nat.reducePow, cC, pv, binv, sHjS1, undef, g1, g2]; rfl), fun w hw => ?_⟩
        refine ⟨none, rfl, ?_, hw.sub (List.nil_sublist _)⟩
        show runS hs0 es = none
        rw [← List.take_append_drop (i + 1) es]
        exact runS_none _ _ _ (hrs.trans hs)
      | some s' =>
        rw [hs] at hr
        subst hr
        simp -implicitDefEqProofs (disch := first | omega | decide) only [seval, -Int.reducePow, -Nat.reducePow, cC, pv, binv, sHjS1, undef, g1, g2]
        refine hK _ _ ?_
        clear hK K
        refine cv_cond ?_
        simp -implicitDefEqProofs (disch := first | omega | decide) only [seval, -Int.reducePow, -Nat.reducePow, cC, pv, binv, sHjS1, undef, g1, g2]
        refine cv_skip ?_
        try simp only [blockQ, thenQ]
        refine hK _ _ ?_
        clear hK K
        refine cv_region_then rfl ?_
        simp -implicitDefEqProofs (disch := first | omega | decide) only [seval, -Int.reducePow, -Nat.reducePow, cC, pv, binv, sHjS1, undef, g1, g2]
        refine ⟨⟨i + 1, s', y, ?_⟩, ?_⟩
        · simp -implicitDefEqProofs (disch := first | omega | decide) only [seval, -Int.reducePow, -Nat.reducePow, cC, pv, binv, sHjS1, undef, Int.natCast_add, List.append_nil, g1, g2]
          exact ⟨by rw [hy.b], by omega, hrs.trans hs, hst s' hs, hI.step heo hs⟩
        · simp only [intOf]; omega
  refine cv_exit ?_
  simp only [blockQ, thenQ, if_true, ite_true]
  clear hK K
  refine hK _ _ ?_
  clear hK K
  have hin : i = n := by have := of_decide_eq_false ‹decide ((i : Int) < (n : Int)) = false›; omega
  subst hin
  rw [List.take_of_length_le (by omega)] at hrun
  clear hE hi
  have hleq := hR.l_eq hI
  have hxl := hR.len hI
  have hxE := hR.eL
  have h64 : ∀ o ∈ x.l, o.h < 18446744073709551616 := fun o ho => by
    obtain ⟨q, h1, h2, -⟩ := (hR.lM o).1 ho
    rw [← h2]
    exact (hI.get h1).h64
  obtain ⟨b', sb', LA, ln, lc, EA, en, ec, st, l, E⟩ := x
  dsimp only at hleq hxl hxE h64 g2_4 g2
  unfold bkL
  dsimp only
  refine cv_len 2 rfl fun hlL => ?_
  rw [boCells_len] at hlL
  refine cv_seq_k fun K hK => ?_
  refine cv_seq_k fun K hK => ?_
  refine cv_region_then rfl ?_
  simp -implicitDefEqProofs (disch := first | omega | decide) only [seval, -Int.reducePow, -Nat.reducePow, cC, pv, binv, sHjS1, undef, g1, g2]
  refine hK _ _ ?_
  clear hK K
  refine cv_gen fun G3 hG => ?_
  have g3_4 := congrFun hG 4
  have g3_6 := congrFun hG 6
  clear hG
  try simp -implicitDefEqProofs (disch := first | omega | decide) only [seval, -Int.reducePow, -Nat.reducePow, cC, pv, binv, sHjS1, undef, g1, g2] at g3_4 g3_6
  have g3 := And.intro g3_4 g3_6
  refine cv_block ?_
  refine cv_loop (fun F' L' => ∃ (j : Nat) (ros : List RO), F' 4 = G3 4 ∧ F' 6 = .int .i64 (j : Int) ∧ L' = .blk b' 78 [.slice (some ⟨sb', 0, none⟩) 65 65, .slice LA ln lc, .slice EA en ec] :: .row (.slice (some ⟨sb', 0, none⟩) 65 65) 3 1 65 (stCells st) :: .row (.slice LA ln lc) 43 6 ln (roCells ros ++ boCells (l.drop j)) :: .row (.slice EA en ec) 82 4 en (bwCells E) :: ros.map roRow ∧ j ≤ ln ∧ ros.map RO.pl = ((srtL s.os).take j).map fun q => outO q.2) (fun F' L' => 2000 - (intOf (F' 6)).toNat) ?_ ?_
  · refine ⟨0, [], ?_⟩
    simp -implicitDefEqProofs (disch := first | omega | decide) only [seval, -Int.reducePow, -Nat.reducePow, cC, pv, binv, sHjS1, undef, g1, g2, g3]
    exact ⟨rfl, Nat.zero_le _⟩
  intro G4 L' hI
  obtain ⟨j, ros, q4, q6, rfl, ⟨hj, hros⟩⟩ := hI
  have g4_4 := q4.trans g3_4
  have g4_6 := q6
  clear q4 q6
  have g4 := And.intro g4_4 g4_6
  have hrl : ros.length = j := by
    have h1 := congrArg List.length hros
    rw [List.length_map, List.length_map, List.length_take] at h1
    have h2 := congrArg List.length hleq
    rw [List.length_map] at h2
    omega
  refine cv_seq_k fun K hK => ?_
  refine cv_seq_k fun K hK => ?_
  refine cv_region_then rfl ?_
  simp -implicitDefEqProofs (disch := first | omega | decide) only [seval, -Int.reducePow, -Nat.reducePow, cC, pv, binv, sHjS1, undef, g1, g2, g3, g4]
  refine hK _ _ ?_
  clear hK K
  refine cv_cond ?_
  simp -implicitDefEqProofs (disch := first | omega | decide) only [seval, -Int.reducePow, -Nat.reducePow, cC, pv, binv, sHjS1, undef, g1, g2, g3, g4]
  refine ⟨fun hc => ?_, fun hc => ?_⟩
  · refine cv_skip ?_
    try simp only [blockQ, thenQ]
    have hit : j < ln := by have := of_decide_eq_true ‹decide ((j : Int) < (ln : Int)) = true›; omega
    obtain ⟨q, hq⟩ : ∃ q, (srtL s.os)[j]? = some q := ⟨_, List.getElem?_eq_getElem (by have h2 := congrArg List.length hleq; rw [List.length_map] at h2; omega)⟩
    have hlj : l[j]? = some (toBO q) := by rw [hleq, List.getElem?_map, hq]; rfl
    have hqg := (mem_srtL hI.nd).1 (List.mem_of_getElem? hq)
    have hqs := (hI.get hqg).slot
    simp only at hqs
    have ho64 := h64 _ (List.mem_of_getElem? hlj)
    have hof : ofB E (slotF (toBO q).h) = (outO q.2).bs := by
      have := hR.ofEq hI hqg
      rw [hqs] at this
      exact this
    have hgetc := robo_get hrl hlj
    obtain ⟨bo, hbo⟩ : ∃ bo, toBO q = bo := ⟨_, rfl⟩
    have hbh : bo.h = q.2.h := by rw [← hbo]; rfl
    have hbw : bo.ow = q.2.ow := by rw [← hbo]; rfl
    rw [hbo] at hlj ho64 hof hgetc
    have htk : (srtL s.os).take (j + 1) = (srtL s.os).take j ++ [q] := by rw [List.take_add_one, hq]; rfl
    have hlnl := robo_len (l := l) hrl (by omega)
    refine hK _ _ ?_
    clear hK K
    refine cv_rowA 2 rfl (by omega) fun g hAA hg hNN => ?_
    subst hAA
    simp only [List.eraseIdx_cons_zero, List.eraseIdx_cons_succ, neB_nil, neB_blk, neB_row, neB_snap, and_true, List.not_mem_nil, or_false, sHjS1, undef] at hNN hg
    replace hg := And.intro hg hNN
    clear hNN
    refine cv_seq_k fun K hK => ?_
    refine cv_block ?_
    refine cv_q ?_
    refine cv_draw [(true, 0), (true, 1), (true, 2), (true, 3), (true, 4), (true, 5), (true, 6), (true, 7), (true, 8), (true, 9), (true, 10), (true, 11), (true, 12), (true, 13), (true, 14), (true, 15), (false, 16), (false, 17), (true, 18), (true, 19), (false, 20)] [20] mixA rfl (by kernel_rfl) (by kernel_rfl) rfl rfl ?_
    simp -implicitDefEqProofs (disch := first | omega | decide) only [seval, -Int.reducePow, -Nat.reducePow, cC, pv, binv, sHjS1, undef, g1, g2, g3, g4]
    refine ⟨_, ld_row1 (m := 1) (i := j * 6 + 0) (v := .int .u64 (bo.h : Int)) (nth_mem (k := 2) rfl) rfl hgetc, fun tok htok => ?_⟩
    subst htok
    simp -implicitDefEqProofs (disch := first | omega | decide) only [seval, -Int.reducePow, -Nat.reducePow, cC, pv, binv, sHjS1, undef, g1, g2, g3, g4]
    refine callV_ret (fun w hw => rslot_any bo.h ho64 w) ?_
    simp -implicitDefEqProofs (disch := first | omega | decide) only [seval, -Int.reducePow, -Nat.reducePow, cC, pv, binv, sHjS1, undef, g1, g2, g3, g4]
    refine callV_row (fun A n c => .slice A n c) (fun w hw => (rOf_any (LgW.of hw 0 3 rfl rfl (by omega)) (slotF bo.h))) ?_
    intro A1 n1 c1 hl1 hr1
    have hput := robo_set (A := A1) (n := n1) (c := c1) (bs := ofB E (slotF bo.h)) hrl hlj
    simp -implicitDefEqProofs (disch := first | omega | decide) only [seval, -Int.reducePow, -Nat.reducePow, cC, pv, binv, sHjS1, undef, g1, g2, g3, g4]
    refine ⟨_, sv_row 3 (i := j * 6 + 5) (v := .slice A1 n1 c1) rfl (by omega) (by kernel_rfl) rfl rfl, fun tok htok => ?_⟩
    subst htok
    simp -implicitDefEqProofs (disch := first | omega | decide) only [seval, -Int.reducePow, -Nat.reducePow, cC, pv, binv, sHjS1, undef, hput, g1, g2, g3, g4]
    refine hK _ _ ?_
    clear hK K
    refine cv_sub (.blk b' 78 [.slice (some ⟨sb', 0, none⟩) 65 65, .slice (some ⟨g, 0, none⟩) ln lc, .slice EA en ec] :: .row (.slice (some ⟨sb', 0, none⟩) 65 65) 3 1 65 (stCells st) :: .row (.slice (some ⟨g, 0, none⟩) ln lc) 43 6 ln (roCells (ros ++ [(⟨bo.h, bo.ow, A1, n1, c1, ofB E (slotF bo.h)⟩ : RO)]) ++ boCells (l.drop (j + 1))) :: .row (.slice EA en ec) 82 4 en (bwCells E) :: (ros ++ [(⟨bo.h, bo.ow, A1, n1, c1, ofB E (slotF bo.h)⟩ : RO)]).map roRow) (fun w hw => hw.perm ?_) ?_
    · rw [List.map_append]
      exact List.perm_append_singleton _ (_ :: _ :: _ :: _ :: ros.map roRow)
    refine cv_region_then rfl ?_
    simp -implicitDefEqProofs (disch := first | omega | decide) only [seval, -Int.reducePow, -Nat.reducePow, cC, pv, binv, sHjS1, undef, g1, g2, g3, g4]
    refine ⟨⟨j + 1, ros ++ [⟨bo.h, bo.ow, A1, n1, c1, ofB E (slotF bo.h)⟩], ?_⟩, ?_⟩
    · simp -implicitDefEqProofs (disch := first | omega | decide) only [seval, -Int.reducePow, -Nat.reducePow, cC, pv, binv, sHjS1, undef, Int.natCast_add, g1, g2, g3, g4]
      refine ⟨by omega, ?_⟩
      rw [List.map_append, hros, htk, List.map_append, hof, hbh, hbw]
      rfl
    · simp only [intOf]; omega
  refine cv_exit ?_
  simp only [blockQ, thenQ, if_true, ite_true]
  clear hK K
  refine hK _ _ ?_
  clear hK K
  have hjn : j = ln := by have := of_decide_eq_false ‹decide ((j : Int) < (ln : Int)) = false›; omega
  subst hjn
  refine cv_seq_k fun K hK => ?_
  refine cv_region_then rfl ?_
  simp -implicitDefEqProofs (disch := first | omega | decide) only [seval, -Int.reducePow, -Nat.reducePow, cC, pv, binv, sHjS1, undef, g1, g2, g3, g4]
  refine hK _ _ ?_
  clear hK K
  refine cv_ret ⟨_, (by simp -implicitDefEqProofs (disch := first | omega | decide) only [seval, -Int.reducePow, -Nat.reducePow, cC, pv, binv, sHjS1, undef, g1, g2, g3, g4]; rfl), fun w hw => ?_⟩
  rw [List.drop_of_length_le (by omega)] at hw
  have hfull : (srtL s.os).take j = srtL s.os := List.take_of_length_le (by have h2 := congrArg List.length hleq; rw [List.length_map] at h2; omega)
  rw [hfull] at hros
  have hap : roCells ros ++ boCells [] = roCells ros := List.append_nil _
  rw [hap] at hw
  refine ⟨some ⟨b', sb', LA, j, lc, EA, en, ec, st, ros, E⟩, rfl, ⟨s, _, hrun, hros, hlen ▸ hR, hlen ▸ hI, rfl⟩, hw⟩
end Go.Proofs.Ytaifnipgefkemaa
