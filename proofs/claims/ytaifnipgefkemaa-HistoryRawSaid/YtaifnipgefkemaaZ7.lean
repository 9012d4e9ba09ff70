/- The reference's Replay; equal lists of objects are found equal. -/
import Derived.Test.YtaifnipgefkemaaZ5
import Derived.Test.YtaifnipgefkemaaZ3
import Derived.Test.YtaifnipgefkemaaZ6
namespace Go.Proofs.Ytaifnipgefkemaa
open Go.RowKit Go.Shelf
set_option linter.unusedVariables false
set_option linter.unusedSimpArgs false
set_option maxRecDepth 100000
theorem reads_nil (w : World) (B : Nat) : Reads w B 1 none 0 [] := Reads.none_
theorem callV_new {P : Program} {M : List Nat} {W : World} {L : List Res} {ι : Sort _} {g : FuncId} {args : Array Value} {K : Bool → Value → List Res → Prop} (f : ι → Value) (Lf : ι → List Res) (φ : ι → Prop)
    (h : ∀ w, St M W L w → Calls P g args w (fun e w' => ∃ i, e = .returned (f i) ∧ φ i ∧ St [] w (Lf i) w'))
    (hK : ∀ i, φ i → K true (f i) (Lf i ++ L)) : CallV P M W g args L K := fun w hw =>
  callV_grpT L [] f Lf φ (fun w h1 _ => h w (by simpa using h1)) hK w (by simpa using hw)
set_option maxRecDepth 100000 in
theorem sHjT1 : type_of% (And.intro (And.intro (And.intro @Nat.mul_one @wrap_in) (And.intro @cMv (And.intro @cM @suf_o3))) (And.intro (And.intro @suf_o4 @suf_o5) (And.intro @suf_o6 (And.intro @suf_o7 @look_ros)))) := (And.intro (And.intro (And.intro @Nat.mul_one @wrap_in) (And.intro @cMv (And.intro @cM @suf_o3))) (And.intro (And.intro @suf_o4 @suf_o5) (And.intro @suf_o6 (And.intro @suf_o7 @look_ros))))
set_option maxHeartbeats 4000000 in
theorem rReplay_any (A : Option Addr) (n c : Nat) (es : List EvR) (W : World) (hE : Sl W W.heap.size 5 A n c (evCells es)) (hok : ∀ e ∈ es, e.ok) (hn : n ≤ 900) :
    Calls Try.prog 9 #[.slice A n c] W
    fun en w' => ∃ i : RepR, en = .returned (repV i) ∧ RepOk es i ∧ St [] W (repL i) w' := by
  refine calls_cv (M := []) (n := 18) [.tmp 2, .tmp 3] rfl Try.func9 rfl rfl (Nat.le_of_ble_eq_true rfl) (St.nil _ _) ?_
  refine cv_seq_k fun K hK => ?_
  refine cv_region_then rfl ?_
  simp -implicitDefEqProofs (disch := first | omega | decide) only [seval, -Int.reducePow, -Nat.reducePow, cC, pv, binv, sHjT1, undef]
  refine hK _ _ ?_
  clear hK K
  refine cv_seq_k fun K hK => ?_
  refine cv_region_then rfl ?_
  simp -implicitDefEqProofs (disch := first | omega | decide) only [seval, -Int.reducePow, -Nat.reducePow, cC, pv, binv, sHjT1, undef]
  refine callV_new rdV rdL _ (fun w hw => rRead_any A n c es w (hE.at hw) hok hn) ?_
  rintro (_ | ⟨b, sb, LA, ln, lc, EA, en, ec, st, ros, E⟩) hr
  · have hr' : runS hs0 es = none := hr
    simp -implicitDefEqProofs (disch := first | omega | decide) only [seval, -Int.reducePow, -Nat.reducePow, cC, pv, binv, sHjT1, undef, rdV, rdL]
    refine hK _ _ ?_
    clear hK K
    refine cv_seq_k fun K hK => ?_
    refine cv_seq_k fun K hK => ?_
    refine cv_region_then rfl ?_
    simp -implicitDefEqProofs (disch := first | omega | decide) only [seval, -Int.reducePow, -Nat.reducePow, cC, pv, binv, sHjT1, undef]
    refine hK _ _ ?_
    clear hK K
    refine cv_cond ?_
    simp -implicitDefEqProofs (disch := first | omega | decide) only [seval, -Int.reducePow, -Nat.reducePow, cC, pv, binv, sHjT1, undef]
    refine cv_seq_k fun K hK => ?_
    refine cv_region_then rfl ?_
    simp -implicitDefEqProofs (disch := first | omega | decide) only [seval, -Int.reducePow, -Nat.reducePow, cC, pv, binv, sHjT1, undef]
    refine hK _ _ ?_
    clear hK K
    refine cv_nil 43 6 ?_
    refine cv_ret ⟨_, (by simp -implicitDefEqProofs (disch := first | omega | decide) only [seval, -Int.reducePow, -Nat.reducePow, cC, pv, binv, sHjT1, undef]; rfl), fun w hw => ?_⟩
    exact ⟨⟨none, 0, 0, [], 28⟩, rfl, ⟨by rw [hr']; rfl, by rw [hr']; rfl⟩, hw⟩
  · obtain ⟨s, x, h1, h2, -, -, -⟩ := hr
    dsimp only at h2
    unfold rdV rdL fbL
    dsimp only [List.cons_append]
    simp -implicitDefEqProofs (disch := first | omega | decide) only [seval, -Int.reducePow, -Nat.reducePow, cC, pv, binv, sHjT1, undef]
    refine hK _ _ ?_
    clear hK K
    refine cv_seq_k fun K hK => ?_
    refine cv_seq_k fun K hK => ?_
    refine cv_region_then rfl ?_
    simp -implicitDefEqProofs (disch := first | omega | decide) only [seval, -Int.reducePow, -Nat.reducePow, cC, pv, binv, sHjT1, undef]
    refine hK _ _ ?_
    clear hK K
    refine cv_cond ?_
    simp -implicitDefEqProofs (disch := first | omega | decide) only [seval, -Int.reducePow, -Nat.reducePow, cC, pv, binv, sHjT1, undef]
    refine cv_skip ?_
    try simp only [blockQ, thenQ]
    refine hK _ _ ?_
    clear hK K
    refine cv_seq_k fun K hK => ?_
    refine cv_region_then rfl ?_
    simp -implicitDefEqProofs (disch := first | omega | decide) only [seval, -Int.reducePow, -Nat.reducePow, cC, pv, binv, sHjT1, undef]
    refine hK _ _ ?_
    clear hK K
    refine cv_ret ⟨_, (by simp -implicitDefEqProofs (disch := first | omega | decide) only [seval, -Int.reducePow, -Nat.reducePow, cC, pv, binv, sHjT1, undef]; rfl), fun w hw => ?_⟩
    exact ⟨⟨LA, ln, lc, ros, 0⟩, rfl, ⟨by rw [h1]; exact h2, by rw [h1]; rfl⟩, hw.sub (.cons _ (.cons _ (.cons_cons _ (.cons _ (List.Sublist.refl _)))))⟩
set_option maxHeartbeats 4000000 in
theorem rSameB_any {W : World} {A A' : Option Addr} {n n' c c' : Nat} {bs : List Bw} (h : Sl W W.heap.size 4 A n c (bwCells bs)) (h' : Sl W W.heap.size 4 A' n' c' (bwCells bs)) (hn : n ≤ 100000) :
    Calls Try.prog 45 #[.slice A n c, .slice A' n' c'] W fun e w' => e = .returned (.bool true) ∧ Below W.heap.size W w' := by
  have hlen := h.len
  have hlen' := h'.len
  rw [bwCells_len] at hlen hlen'
  have hnn : n' = n := by omega
  subst hnn
  refine calls_cv (M := []) (n := 26) [.tmp 4] rfl Try.func45 rfl rfl (Nat.le_of_ble_eq_true rfl) (St.nil _ _) ?_
  refine cv_seq_k fun K hK => ?_
  refine cv_region_then rfl ?_
  simp -implicitDefEqProofs (disch := first | omega | decide) only [seval, -Int.reducePow, -Nat.reducePow, cC, pv, binv, sHjT1, undef]
  refine hK _ _ ?_
  clear hK K
  refine cv_seq_k fun K hK => ?_
  refine cv_seq_k fun K hK => ?_
  refine cv_region_then rfl ?_
  simp -implicitDefEqProofs (disch := first | omega | decide) only [seval, -Int.reducePow, -Nat.reducePow, cC, pv, binv, sHjT1, undef]
  refine hK _ _ ?_
  clear hK K
  refine cv_cond ?_
  simp -implicitDefEqProofs (disch := first | omega | decide) only [seval, -Int.reducePow, -Nat.reducePow, cC, pv, binv, sHjT1, undef]
  refine cv_skip ?_
  try simp only [blockQ, thenQ]
  refine hK _ _ ?_
  clear hK K
  refine cv_seq_k fun K hK => ?_
  refine cv_seq_k fun K hK => ?_
  refine cv_region_then rfl ?_
  simp -implicitDefEqProofs (disch := first | omega | decide) only [seval, -Int.reducePow, -Nat.reducePow, cC, pv, binv, sHjT1, undef]
  refine hK _ _ ?_
  clear hK K
  refine cv_gen fun G1 hG => ?_
  have g1_0 := congrFun hG 0
  have g1_1 := congrFun hG 1
  have g1_5 := congrFun hG 5
  clear hG
  try simp -implicitDefEqProofs (disch := first | omega | decide) only [seval, -Int.reducePow, -Nat.reducePow, cC, pv, binv, sHjT1, undef] at g1_0 g1_1 g1_5
  have g1 := And.intro g1_0 (And.intro g1_1 g1_5)
  refine cv_block ?_
  refine cv_loop (fun F' L' => ∃ (i : Nat), F' 0 = G1 0 ∧ F' 1 = G1 1 ∧ F' 5 = .int .i64 (i : Int) ∧ L' = [] ∧ i ≤ n') (fun F' L' => 200000 - (intOf (F' 5)).toNat) ?_ ?_
  · refine ⟨0, ?_⟩
    simp -implicitDefEqProofs (disch := first | omega | decide) only [seval, -Int.reducePow, -Nat.reducePow, cC, pv, binv, sHjT1, undef, g1]
    exact Nat.zero_le _
  intro G2 L' hI
  obtain ⟨i, q0, q1, q5, rfl, hi⟩ := hI
  have g2_0 := q0.trans g1_0
  have g2_1 := q1.trans g1_1
  have g2_5 := q5
  clear q0 q1 q5
  have g2 := And.intro g2_0 (And.intro g2_1 g2_5)
  refine cv_seq_k fun K hK => ?_
  refine cv_seq_k fun K hK => ?_
  refine cv_region_then rfl ?_
  simp -implicitDefEqProofs (disch := first | omega | decide) only [seval, -Int.reducePow, -Nat.reducePow, cC, pv, binv, sHjT1, undef, g1, g2]
  refine hK _ _ ?_
  clear hK K
  refine cv_cond ?_
  simp -implicitDefEqProofs (disch := first | omega | decide) only [seval, -Int.reducePow, -Nat.reducePow, cC, pv, binv, sHjT1, undef, g1, g2]
  refine ⟨fun hc => ?_, fun hc => ?_⟩
  · refine cv_skip ?_
    try simp only [blockQ, thenQ]
    have hit : i < n' := by have := of_decide_eq_true ‹decide ((i : Int) < (n' : Int)) = true›; omega
    obtain ⟨e, he⟩ : ∃ e, bs[i]? = some e := ⟨_, List.getElem?_eq_getElem (by omega)⟩
    have hld := flAt bwc_len he
    obtain ⟨bA, oA, rfl, hbA, -⟩ := h.cells (by omega)
    obtain ⟨bA', oA', rfl, hbA', -⟩ := h'.cells (by omega)
    refine hK _ _ ?_
    clear hK K
    refine cv_seq_k fun K hK => ?_
    refine cv_block ?_
    refine cv_seq_k fun K hK => ?_
    refine cv_draw [(true, 0), (true, 1), (true, 2), (true, 3), (true, 4), (true, 5), (true, 6), (true, 7), (true, 8)] [] mixA rfl (by kernel_rfl) (by kernel_rfl) rfl rfl ?_
    simp -implicitDefEqProofs (disch := first | omega | decide) only [seval, -Int.reducePow, -Nat.reducePow, cC, pv, binv, sHjT1, undef, g1, g2]
    refine ⟨_, h.ld (i := i * 4) (vs := bwc e) (by omega) (by kernel_rfl) hld, fun tok htok => ?_⟩
    subst htok
    simp -implicitDefEqProofs (disch := first | omega | decide) only [seval, -Int.reducePow, -Nat.reducePow, cC, pv, binv, sHjT1, undef, g1, g2]
    refine ⟨_, h'.ld (i := i * 4) (vs := bwc e) (by omega) (by kernel_rfl) hld, fun tok htok => ?_⟩
    subst htok
    simp -implicitDefEqProofs (disch := first | omega | decide) only [seval, -Int.reducePow, -Nat.reducePow, cC, pv, binv, sHjT1, undef, g1, g2]
    simp -implicitDefEqProofs (disch := first | omega | decide) only [seval, -Int.reducePow, -Nat.reducePow, cC, pv, binv, sHjT1, undef, bwc, g1, g2]
    refine hK _ _ ?_
    clear hK K
    refine cv_cond ?_
    simp -implicitDefEqProofs (disch := first | omega | decide) only [seval, -Int.reducePow, -Nat.reducePow, cC, pv, binv, sHjT1, undef, g1, g2]
    refine cv_skip ?_
    try simp only [blockQ, thenQ]
    refine hK _ _ ?_
    clear hK K
    refine cv_region_then rfl ?_
    simp -implicitDefEqProofs (disch := first | omega | decide) only [seval, -Int.reducePow, -Nat.reducePow, cC, pv, binv, sHjT1, undef, g1, g2]
    refine ⟨⟨i + 1, ?_⟩, ?_⟩
    · simp -implicitDefEqProofs (disch := first | omega | decide) only [seval, -Int.reducePow, -Nat.reducePow, cC, pv, binv, sHjT1, undef, Int.natCast_add, g1, g2]
      omega
    · simp only [intOf]; omega
  refine cv_exit ?_
  simp only [blockQ, thenQ, if_true, ite_true]
  clear hK K
  refine hK _ _ ?_
  clear hK K
  refine cv_seq_k fun K hK => ?_
  refine cv_region_then rfl ?_
  simp -implicitDefEqProofs (disch := first | omega | decide) only [seval, -Int.reducePow, -Nat.reducePow, cC, pv, binv, sHjT1, undef, g1, g2]
  refine hK _ _ ?_
  clear hK K
  refine cv_ret ⟨_, (by simp -implicitDefEqProofs (disch := first | omega | decide) only [seval, -Int.reducePow, -Nat.reducePow, cC, pv, binv, sHjT1, undef, g1, g2]; rfl), fun w hw => ?_⟩
  exact ⟨rfl, hw.below⟩
set_option maxHeartbeats 4000000 in
theorem rSameO_any {W : World} {a b : RO} (he : a.pl = b.pl) (h : Sl W W.heap.size 4 a.A a.n a.c (bwCells a.bs)) (h' : Sl W W.heap.size 4 b.A b.n b.c (bwCells b.bs)) (hn : a.n ≤ 100000) :
    Calls Try.prog 23 #[roV a, roV b] W fun e w' => e = .returned (.bool true) ∧ Below W.heap.size W w' := by
  obtain ⟨ah, aw, aA, an, ac, abs⟩ := a
  obtain ⟨bh, bw, bA, bn, bc, bbs⟩ := b
  unfold RO.pl at he
  simp only [RP.mk.injEq] at he
  obtain ⟨rfl, rfl, rfl⟩ := he
  dsimp only at h h' hn
  refine calls_cv (M := []) (n := 40) [.tmp 4] rfl Try.func23 rfl rfl (Nat.le_of_ble_eq_true rfl) (St.nil _ _) ?_
  refine cv_seq_k fun K hK => ?_
  refine cv_region_then rfl ?_
  simp -implicitDefEqProofs (disch := first | omega | decide) only [seval, -Int.reducePow, -Nat.reducePow, cC, pv, binv, sHjT1, undef, roV]
  intro b2 hb2 b3 hb3 hf3
  refine hK _ _ ?_
  clear hK K
  refine cv_seq_k fun K hK => ?_
  refine cv_region_then rfl ?_
  simp -implicitDefEqProofs (disch := first | omega | decide) only [seval, -Int.reducePow, -Nat.reducePow, cC, pv, binv, sHjT1, undef]
  refine ⟨[], fun w hw => reads_nil w _, fun tok htok => ?_⟩
  subst htok
  simp -implicitDefEqProofs (disch := first | omega | decide) only [seval, -Int.reducePow, -Nat.reducePow, cC, pv, binv, sHjT1, undef]
  refine ⟨[], fun w hw => reads_nil w _, fun tok htok => ?_⟩
  subst htok
  simp -implicitDefEqProofs (disch := first | omega | decide) only [seval, -Int.reducePow, -Nat.reducePow, cC, pv, binv, sHjT1, undef]
  refine callV_ret (fun w hw => rSameB_any (h.at hw) (h'.at hw) hn) ?_
  try simp -implicitDefEqProofs (disch := first | omega | decide) only [seval, -Int.reducePow, -Nat.reducePow, cC, pv, binv, sHjT1, undef]
  refine hK _ _ ?_
  clear hK K
  refine cv_ret ⟨_, (by simp -implicitDefEqProofs (disch := first | omega | decide) only [seval, -Int.reducePow, -Nat.reducePow, cC, pv, binv, sHjT1, undef]; rfl), fun w hw => ?_⟩
  exact ⟨rfl, hw.below⟩
structure RosW (w : World) (B : Nat) (A : Option Addr) (n c : Nat) (ros : List RO) : Prop where
  row : Sl w B 6 A n c (roCells ros)
  bs : ∀ r ∈ ros, Sl w B 4 r.A r.n r.c (bwCells r.bs)
theorem RosW.at {W w : World} {L : List Res} {A : Option Addr} {n c : Nat} {ros : List RO} (h : RosW W W.heap.size A n c ros) (hw : St [] W L w) : RosW w w.heap.size A n c ros := ⟨h.row.at hw, fun r hr => (h.bs r hr).at hw⟩
theorem RosW.len {w : World} {B : Nat} {A : Option Addr} {n c : Nat} {ros : List RO} (h : RosW w B A n c ros) : ros.length = n := by
  have := h.row.len
  unfold roCells at this
  rw [flLen roc_len] at this
  omega
theorem RosW.rn {w : World} {B : Nat} {A : Option Addr} {n c : Nat} {ros : List RO} (h : RosW w B A n c ros) {r : RO} (hr : r ∈ ros) : r.bs.length = r.n := by
  have := (h.bs r hr).len
  rw [bwCells_len] at this
  omega
set_option maxHeartbeats 4000000 in
theorem rSameL_any {W : World} {A A' : Option Addr} {n n' c c' : Nat} {a b : List RO} (h : RosW W W.heap.size A n c a) (h' : RosW W W.heap.size A' n' c' b) (he : a.map RO.pl = b.map RO.pl) (hn : n ≤ 100000) (hb : ∀ r ∈ a, r.bs.length ≤ 100000) :
    Calls Try.prog 10 #[.slice A n c, .slice A' n' c'] W fun e w' => e = .returned (.bool true) ∧ Below W.heap.size W w' := by
  have hlen := h.len
  have hlen' := h'.len
  have hab := congrArg List.length he
  rw [List.length_map, List.length_map] at hab
  have hnn : n' = n := by omega
  subst hnn
  refine calls_cv (M := []) (n := 27) [.tmp 4] rfl Try.func10 rfl rfl (Nat.le_of_ble_eq_true rfl) (St.nil _ _) ?_
  refine cv_seq_k fun K hK => ?_
  refine cv_region_then rfl ?_
  simp -implicitDefEqProofs (disch := first | omega | decide) only [seval, -Int.reducePow, -Nat.reducePow, cC, pv, binv, sHjT1, undef]
  refine hK _ _ ?_
  clear hK K
  refine cv_seq_k fun K hK => ?_
  refine cv_seq_k fun K hK => ?_
  refine cv_region_then rfl ?_
  simp -implicitDefEqProofs (disch := first | omega | decide) only [seval, -Int.reducePow, -Nat.reducePow, cC, pv, binv, sHjT1, undef]
  refine hK _ _ ?_
  clear hK K
  refine cv_cond ?_
  simp -implicitDefEqProofs (disch := first | omega | decide) only [seval, -Int.reducePow, -Nat.reducePow, cC, pv, binv, sHjT1, undef]
  refine cv_skip ?_
  try simp only [blockQ, thenQ]
  refine hK _ _ ?_
  clear hK K
  refine cv_seq_k fun K hK => ?_
  refine cv_seq_k fun K hK => ?_
  refine cv_region_then rfl ?_
  simp -implicitDefEqProofs (disch := first | omega | decide) only [seval, -Int.reducePow, -Nat.reducePow, cC, pv, binv, sHjT1, undef]
  refine hK _ _ ?_
  clear hK K
  refine cv_gen fun G3 hG => ?_
  have g3_0 := congrFun hG 0
  have g3_1 := congrFun hG 1
  have g3_5 := congrFun hG 5
  clear hG
  try simp -implicitDefEqProofs (disch := first | omega | decide) only [seval, -Int.reducePow, -Nat.reducePow, cC, pv, binv, sHjT1, undef] at g3_0 g3_1 g3_5
  have g3 := And.intro g3_0 (And.intro g3_1 g3_5)
  refine cv_block ?_
  refine cv_loop (fun F' L' => ∃ (i : Nat), F' 0 = G3 0 ∧ F' 1 = G3 1 ∧ F' 5 = .int .i64 (i : Int) ∧ L' = [] ∧ i ≤ n') (fun F' L' => 200000 - (intOf (F' 5)).toNat) ?_ ?_
  · refine ⟨0, ?_⟩
    simp -implicitDefEqProofs (disch := first | omega | decide) only [seval, -Int.reducePow, -Nat.reducePow, cC, pv, binv, sHjT1, undef, g3]
    exact Nat.zero_le _
  intro G4 L' hI
  obtain ⟨i, q0, q1, q5, rfl, hi⟩ := hI
  have g4_0 := q0.trans g3_0
  have g4_1 := q1.trans g3_1
  have g4_5 := q5
  clear q0 q1 q5
  have g4 := And.intro g4_0 (And.intro g4_1 g4_5)
  refine cv_seq_k fun K hK => ?_
  refine cv_seq_k fun K hK => ?_
  refine cv_region_then rfl ?_
  simp -implicitDefEqProofs (disch := first | omega | decide) only [seval, -Int.reducePow, -Nat.reducePow, cC, pv, binv, sHjT1, undef, g3, g4]
  refine hK _ _ ?_
  clear hK K
  refine cv_cond ?_
  simp -implicitDefEqProofs (disch := first | omega | decide) only [seval, -Int.reducePow, -Nat.reducePow, cC, pv, binv, sHjT1, undef, g3, g4]
  refine ⟨fun hc => ?_, fun hc => ?_⟩
  · refine cv_skip ?_
    try simp only [blockQ, thenQ]
    have hit : i < n' := by have := of_decide_eq_true ‹decide ((i : Int) < (n' : Int)) = true›; omega
    obtain ⟨e, he1⟩ : ∃ e, a[i]? = some e := ⟨_, List.getElem?_eq_getElem (by omega)⟩
    obtain ⟨e', he2⟩ : ∃ e, b[i]? = some e := ⟨_, List.getElem?_eq_getElem (by omega)⟩
    have hee : e.pl = e'.pl := by
      have := congrArg (fun l => l[i]?) he
      simpa [he1, he2] using this
    have hld := flAt roc_len he1
    have hld' := flAt roc_len he2
    have hm1 := List.mem_of_getElem? he1
    have hm2 := List.mem_of_getElem? he2
    have hen := h.rn hm1
    have heb := hb e hm1
    obtain ⟨bA, oA, rfl, hbA, -⟩ := h.row.cells (by omega)
    obtain ⟨bA', oA', rfl, hbA', -⟩ := h'.row.cells (by omega)
    refine hK _ _ ?_
    clear hK K
    refine cv_seq_k fun K hK => ?_
    refine cv_block ?_
    refine cv_seq_k fun K hK => ?_
    refine cv_draw [(true, 0), (true, 1), (true, 2), (true, 3), (true, 4), (true, 5), (true, 6), (true, 7), (false, 8), (true, 9)] [] mixA rfl (by kernel_rfl) (by kernel_rfl) rfl rfl ?_
    simp -implicitDefEqProofs (disch := first | omega | decide) only [seval, -Int.reducePow, -Nat.reducePow, cC, pv, binv, sHjT1, undef, g3, g4]
    refine ⟨_, h.row.ld (i := i * 6) (vs := roc e) (by omega) (by kernel_rfl) hld, fun tok htok => ?_⟩
    subst htok
    simp -implicitDefEqProofs (disch := first | omega | decide) only [seval, -Int.reducePow, -Nat.reducePow, cC, pv, binv, sHjT1, undef, g3, g4]
    refine ⟨_, h'.row.ld (i := i * 6) (vs := roc e') (by omega) (by kernel_rfl) hld', fun tok htok => ?_⟩
    subst htok
    simp -implicitDefEqProofs (disch := first | omega | decide) only [seval, -Int.reducePow, -Nat.reducePow, cC, pv, binv, sHjT1, undef, g3, g4]
    refine callV_ret (fun w hw => rSameO_any hee ((h.bs e hm1).at hw) ((h'.bs e' hm2).at hw) (by omega)) ?_
    simp -implicitDefEqProofs (disch := first | omega | decide) only [seval, -Int.reducePow, -Nat.reducePow, cC, pv, binv, sHjT1, undef, g3, g4]
    refine hK _ _ ?_
    clear hK K
    refine cv_cond ?_
    simp -implicitDefEqProofs (disch := first | omega | decide) only [seval, -Int.reducePow, -Nat.reducePow, cC, pv, binv, sHjT1, undef, g3, g4]
    refine cv_skip ?_
    try simp only [blockQ, thenQ]
    refine hK _ _ ?_
    clear hK K
    refine cv_region_then rfl ?_
    simp -implicitDefEqProofs (disch := first | omega | decide) only [seval, -Int.reducePow, -Nat.reducePow, cC, pv, binv, sHjT1, undef, g3, g4]
    refine ⟨⟨i + 1, ?_⟩, ?_⟩
    · simp -implicitDefEqProofs (disch := first | omega | decide) only [seval, -Int.reducePow, -Nat.reducePow, cC, pv, binv, sHjT1, undef, Int.natCast_add, g3, g4]
      omega
    · simp only [intOf]; omega
  refine cv_exit ?_
  simp only [blockQ, thenQ, if_true, ite_true]
  clear hK K
  refine hK _ _ ?_
  clear hK K
  refine cv_seq_k fun K hK => ?_
  refine cv_region_then rfl ?_
  simp -implicitDefEqProofs (disch := first | omega | decide) only [seval, -Int.reducePow, -Nat.reducePow, cC, pv, binv, sHjT1, undef, g3, g4]
  refine hK _ _ ?_
  clear hK K
  refine cv_ret ⟨_, (by simp -implicitDefEqProofs (disch := first | omega | decide) only [seval, -Int.reducePow, -Nat.reducePow, cC, pv, binv, sHjT1, undef, g3, g4]; rfl), fun w hw => ?_⟩
  exact ⟨rfl, hw.below⟩
end Go.Proofs.Ytaifnipgefkemaa
/- pluginhostmake: Events. -/
namespace Go.Proofs.Ytaifnipgefkemaa
open Go.RowKit Go.Shelf
set_option linter.unusedVariables false
set_option linter.unusedSimpArgs false
set_option maxRecDepth 100000
section
variable {M : List Nat} {W w : World} {L : List Res}
theorem St.aptR (hw : St M W L w) (i j : Nat) {A : Option Addr} {n c size m b : Nat} {t t' : TypeId} {xs cs : List Value} (hi : nth L i = some (.row (.slice A n c) t size m xs)) (hj : nth L j = some (.blk b t' cs)) (hne : i ≠ j) : Apt A [b] := fun b' o e hb => by
  have hb' : b' = b := by simpa using hb
  subst e hb'
  exact nth_apart hw.apart hi hj hne b' (by simp [Res.foot, Value.ownBlock]) (by simp [Res.foot])
end
structure EvsR where
  A : Option Addr
  n : Nat
  c : Nat
  es : List EvR
  j : Nat
def evsV (i : EvsR) : Value := .slice i.A i.n i.c
def evsL (b : Nat) (TA : Option Addr) (tn tc : Nat) (l : List Nat) (i : EvsR) : List Res := [.row (.slice i.A i.n i.c) 37 5 i.n (evCells i.es), tpBox b TA tn tc i.j, .row (.slice TA tn tc) 100 1 tn (u16c l)]
theorem evCells_snoc (l : List EvR) (e : EvR) : evCells (l ++ [e]) = evCells l ++ [.int .i64 e.pl, .int .i64 e.op, .int .u64 (e.h : Int), .int .u64 (e.ar : Int), .int .i64 e.er] := by simp [evCells, evc]
set_option maxRecDepth 100000 in
theorem sHkU1 : type_of% (And.intro (And.intro @evBox.eq_1 (And.intro @tape.eq_1 @tpBox.eq_1)) (And.intro (And.intro @Nat.mul_one @wrap_in) (And.intro @cMv @cM))) := (And.intro (And.intro @evBox.eq_1 (And.intro @tape.eq_1 @tpBox.eq_1)) (And.intro (And.intro @Nat.mul_one @wrap_in) (And.intro @cMv @cM)))
set_option maxHeartbeats 4000000 in
theorem hEvents_any (b : Nat) (TA : Option Addr) (tn tc : Nat) (l : List Nat) (m : Nat) (hl : ∀ x ∈ l, x < 65536) (hm : m ≤ 1000) (W : World) (hst : St (feet [tpBox b TA tn tc 0, .row (.slice TA tn tc) 100 1 tn (u16c l)]) W [tpBox b TA tn tc 0, .row (.slice TA tn tc) 100 1 tn (u16c l)] W) :
    Calls Try.prog 6 #[.pointer (some ⟨b, 0, none⟩), .int .i64 (m : Int)] W
    fun en w' => ∃ i : EvsR, en = .returned (evsV i) ∧ ((∀ e ∈ i.es, e.ok) ∧ i.es.length ≤ m) ∧ St (feet [tpBox b TA tn tc 0, .row (.slice TA tn tc) 100 1 tn (u16c l)]) W (evsL b TA tn tc l i) w' := by
  obtain ⟨M, hM⟩ : ∃ M, feet [tpBox b TA tn tc 0, .row (.slice TA tn tc) 100 1 tn (u16c l)] = M := ⟨_, rfl⟩
  rw [hM] at hst ⊢
  clear hM
  refine calls_cv (M := M) (n := 20) [.tmp 4] rfl Try.func6 rfl rfl (Nat.le_of_ble_eq_true rfl)  hst ?_
  refine cv_seq_k fun K hK => ?_
  refine cv_region_then rfl ?_
  simp -implicitDefEqProofs (disch := first | omega | decide) only [seval, -Int.reducePow, -Nat.reducePow, cC, pv, binv, sHkU1, undef]
  refine hK _ _ ?_
  clear hK K
  refine cv_seq_k fun K hK => ?_
  refine cv_region_then rfl ?_
  simp -implicitDefEqProofs (disch := first | omega | decide) only [seval, -Int.reducePow, -Nat.reducePow, cC, pv, binv, sHkU1, undef]
  refine hK _ _ ?_
  clear hK K
  refine cv_gen fun G1 hG => ?_
  have g1_0 := congrFun hG 0
  have g1_1 := congrFun hG 1
  have g1_5 := congrFun hG 5
  clear hG
  try simp -implicitDefEqProofs (disch := first | omega | decide) only [seval, -Int.reducePow, -Nat.reducePow, cC, pv, binv, sHkU1, undef] at g1_0 g1_1 g1_5
  have g1 := And.intro g1_0 (And.intro g1_1 g1_5)
  refine cv_nil 37 5 ?_
  refine cv_seq_k fun K hK => ?_
  refine cv_block ?_
  refine cv_loop (fun F' L' => ∃ (A : Option Addr) (n c : Nat) (es : List EvR) (j : Nat), F' 0 = G1 0 ∧ F' 1 = G1 1 ∧ F' 5 = .slice A n c ∧ L' = [.row (.slice A n c) 37 5 n (evCells es), tpBox b TA tn tc j, .row (.slice TA tn tc) 100 1 tn (u16c l)] ∧ (∀ e ∈ es, e.ok) ∧ n = es.length ∧ n ≤ m ∧ j ≤ n * 30) (fun F' L' => 2000 - (match F' 5 with | .slice _ n _ => n | _ => 0)) ?_ ?_
  · refine ⟨none, 0, 0, [], 0, ?_⟩
    simp -implicitDefEqProofs (disch := first | omega | decide) only [seval, -Int.reducePow, -Nat.reducePow, cC, pv, binv, sHkU1, undef, g1]
    exact ⟨rfl, fun e he => (by cases he), Nat.zero_le _⟩
  intro G2 L' hI
  obtain ⟨A, n, c, es, j, q0, q1, q5, rfl, ⟨hok, hn, hnm, hj⟩⟩ := hI
  have g2_0 := q0.trans g1_0
  have g2_1 := q1.trans g1_1
  have g2_5 := q5
  clear q0 q1 q5
  have g2 := And.intro g2_0 (And.intro g2_1 g2_5)
  refine cv_seq_k fun K hK => ?_
  refine cv_seq_k fun K hK => ?_
  refine cv_cut (fun _ _ => True) (fun F' L' => ∃ (r : Bool), F' 0 = G2 0 ∧ F' 1 = G2 1 ∧ F' 5 = G2 5 ∧ F' 13 = .bool r ∧ L' = [.row (.slice A n c) 37 5 n (evCells es), tpBox b TA tn tc j, .row (.slice TA tn tc) 100 1 tn (u16c l)] ∧ (r = true → n < m)) ?_ ?_
  · refine cv_region_then rfl ?_
    simp -implicitDefEqProofs (disch := first | omega | decide) only [seval, -Int.reducePow, -Nat.reducePow, cC, pv, binv, sHkU1, undef, g1, g2]
    refine callV_ex (fun r : Bool => .bool r) (fun _ => True) (fun w hw => hMore_any b TA tn tc j w (hw.hold 1 rfl)) ?_
    intro r _
    cases r with
    | false =>
      simp -implicitDefEqProofs (disch := first | omega | decide) only [seval, -Int.reducePow, -Nat.reducePow, cC, pv, binv, sHkU1, undef, g1, g2]
      exact ⟨false, rfl, fun h => by cases h⟩
    | true =>
      simp -implicitDefEqProofs (disch := first | omega | decide) only [seval, -Int.reducePow, -Nat.reducePow, cC, pv, binv, sHkU1, undef, g1, g2]
      exact ⟨decide ((n : Int) < (m : Int)), rfl, fun h => by have := of_decide_eq_true h; omega⟩
  intro G3 L' _ hF
  obtain ⟨r, q0, q1, q5, q13, rfl, hr⟩ := hF
  have g3_0 := q0.trans g2_0
  have g3_1 := q1.trans g2_1
  have g3_5 := q5.trans g2_5
  have g3_13 := q13
  clear q0 q1 q5 q13
  have g3 := And.intro g3_0 (And.intro g3_1 (And.intro g3_5 g3_13))
  refine hK _ _ ?_
  clear hK K
  refine cv_cond ?_
  cases r with
  | false =>
    simp -implicitDefEqProofs (disch := first | omega | decide) only [seval, -Int.reducePow, -Nat.reducePow, cC, pv, binv, sHkU1, undef, g1, g2, g3]
    refine cv_exit ?_
    simp only [blockQ, thenQ, if_true, ite_true]
    clear hK K
    refine hK _ _ ?_
    clear hK K
    refine cv_seq_k fun K hK => ?_
    refine cv_region_then rfl ?_
    simp -implicitDefEqProofs (disch := first | omega | decide) only [seval, -Int.reducePow, -Nat.reducePow, cC, pv, binv, sHkU1, undef, g1, g2, g3]
    refine hK _ _ ?_
    clear hK K
    refine cv_ret ⟨_, (by simp -implicitDefEqProofs (disch := first | omega | decide) only [seval, -Int.reducePow, -Nat.reducePow, cC, pv, binv, sHkU1, undef, g1, g2, g3]; rfl), fun w hw => ?_⟩
    exact ⟨⟨A, n, c, es, j⟩, rfl, ⟨hok, by show es.length ≤ m; omega⟩, hw⟩
  | true =>
    have hlt := hr rfl
    simp -implicitDefEqProofs (disch := first | omega | decide) only [seval, -Int.reducePow, -Nat.reducePow, cC, pv, binv, sHkU1, undef, g1, g2, g3]
    refine cv_skip ?_
    try simp only [blockQ, thenQ]
    refine hK _ _ ?_
    clear hK K
    refine cv_block ?_
    refine cv_pick_post [0, 2, 3] (by decide) ?_
    refine cv_region_q rfl ?_
    simp -implicitDefEqProofs (disch := first | omega | decide) only [seval, -Int.reducePow, -Nat.reducePow, cC, pv, binv, sHkU1, undef, g1, g2, g3]
    refine callV_mod 1 (fun p : EvR × Nat => evV p.1) (fun p => tape TA tn tc p.2) (fun p => p.1.ok ∧ p.2 ≤ j + 30) rfl (fun w hw => hEvent_any b TA tn tc l j w (hw.hold 1 rfl) (Sl.of_row hw (nth_mem (k := 2) rfl)) (fun _ => hw.aptR 2 1 rfl rfl (by decide)) hl (by omega)) ?_
    rintro ⟨e, j2⟩ ⟨heo, hj2⟩
    dsimp only at heo hj2
    simp -implicitDefEqProofs (disch := first | omega | decide) only [seval, -Int.reducePow, -Nat.reducePow, cC, pv, binv, sHkU1, undef, evV, g1, g2, g3]
    intro bE hbE hfE
    refine appV_at 1 tap22 rfl (fun w hw => src_blk (size := 5) (.head _) rfl hw) rfl (by omega) (by omega) ?_
    intro A2 c2 hl2 hr2
    simp -implicitDefEqProofs (disch := first | omega | decide) only [seval, -Int.reducePow, -Nat.reducePow, cC, pv, binv, sHkU1, undef, g1, g2, g3]
    refine ⟨⟨A2, n + 1, c2, es ++ [e], j2, ?_⟩, by omega⟩
    rw [evCells_snoc]
    refine ⟨rfl, rfl, fun e' he' => ?_, by rw [List.length_append, hn]; rfl, by omega, by omega⟩
    rcases List.mem_append.1 he' with h | h
    · exact hok e' h
    · have : e' = e := by simpa using h
      exact this ▸ heo
end Go.Proofs.Ytaifnipgefkemaa
/- The history laws' parameter: a list of events. -/
namespace Go.Proofs.Ytaifnipgefkemaa
open Go.RowKit Go.Shelf Go.ChangeShapes Go.WideShapes Go.Joins Go.ChangeAt Go.Deep
set_option linter.unusedVariables false
set_option linter.unusedSimpArgs false
set_option maxRecDepth 100000
section
variable {H : Type} {enc : TypeId × Value → H} {w : World} {base b0 : Nat} {held : Bool} {v : Value} {d : DataW H} {p : List MemPlace}
def evOf (R : Nat → Nat → Value) (i : Nat) : EvR := ⟨intOfV (R i 0), intOfV (R i 1), (intOfV (R i 2)).toNat, (intOfV (R i 3)).toNat, intOfV (R i 4)⟩
theorem open_events (hval : Value.okWide Try.prog w .any b0 22 v) (h : DataW.Trod enc Try.prog w base (fun _ => true) held 22 v d p) :
    ∃ (A : Option Addr) (n c : Nat) (es : List EvR), v = .slice A n c ∧ Sl w w.heap.size 5 A n c (evCells es) ∧ ∀ e ∈ es, e.ok := by
  obtain ⟨fuel, hf⟩ := h
  obtain ⟨A, n, c, R, hcs, hE, hR⟩ := open_rows Try.underlying22 Try.underlying37 (by kernel_rfl) (by kernel_rfl) (by decide) hf
  have key : ∀ i, i < n → ((List.range 5).map (R i)) = evc (evOf R i) ∧ (evOf R i).ok := fun i hi => by
    obtain ⟨y0, m0, h0⟩ := hR i hi 0 _ rfl
    obtain ⟨y1, m1, h1⟩ := hR i hi 1 _ rfl
    obtain ⟨y2, m2, h2⟩ := hR i hi 2 _ rfl
    obtain ⟨y3, m3, h3⟩ := hR i hi 3 _ rfl
    obtain ⟨y4, m4, h4⟩ := hR i hi 4 _ rfl
    obtain ⟨a0, e0, -, -⟩ := DataW.trod_int Try.underlying3 h0
    obtain ⟨a1, e1, -, -⟩ := DataW.trod_int Try.underlying3 h1
    obtain ⟨a2, e2, -, w2⟩ := DataW.trod_int Try.underlying35 h2
    obtain ⟨a3, e3, -, w3⟩ := DataW.trod_int Try.underlying34 h3
    obtain ⟨a4, e4, -, -⟩ := DataW.trod_int Try.underlying31 h4
    have g2 := wfu64 w2
    have g3 := wfu64 w3
    simp at e0 e1 e2 e3 e4
    refine ⟨?_, ?_, ?_⟩
    · simp [List.range_succ, e0, e1, e2, e3, e4, evc, evOf, intOfV, Int.toNat_of_nonneg g2.1, Int.toNat_of_nonneg g3.1]
    · simp only [evOf, e2, intOfV]; omega
    · simp only [evOf, e3, intOfV]; omega
  refine ⟨A, n, c, (List.range n).map (evOf R), top_slice (Q := fun _ => True) Try.underlying22 hval trivial hcs, ?_, fun e he => ?_⟩
  · have e : ((List.range n).flatMap fun i => (List.range 5).map (R i)) = evCells ((List.range n).map (evOf R)) := by
      unfold evCells
      rw [List.flatMap_map]
      have : ∀ l : List Nat, (∀ i ∈ l, i < n) → (l.flatMap fun i => (List.range 5).map (R i)) = l.flatMap fun a => evc (evOf R a) := by
        intro l
        induction l with
        | nil => intro _; rfl
        | cons i l ih =>
          intro hl
          rw [List.flatMap_cons, List.flatMap_cons, ih fun j hj => hl j (by simp [hj]), (key i (hl i (by simp))).1]
      exact this _ fun i hi => List.mem_range.1 hi
    rw [← e]
    exact hE
  · obtain ⟨i, hi, rfl⟩ := List.mem_map.1 he
    exact (key i (List.mem_range.1 hi)).2
end
end Go.Proofs.Ytaifnipgefkemaa
