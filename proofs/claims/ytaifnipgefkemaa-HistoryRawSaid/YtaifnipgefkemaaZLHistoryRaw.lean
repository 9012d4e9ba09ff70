/- How often each error occurs: the code's map and the reference's count. -/
import Derived.Test.YtaifnipgefkemaaZ7
import Derived.Test.YtaifnipgefkemaaZ1
namespace Go.Proofs.Ytaifnipgefkemaa
open Go.RowKit Go.Shelf
set_option linter.unusedVariables false
set_option linter.unusedSimpArgs false
set_option maxRecDepth 100000
def refStep (m : List (Int × Int)) (e : EvR) : List (Int × Int) := if e.er = 0 then m else kset m e.er ((kget m e.er).getD 0 + 1)
def refM (es : List EvR) : List (Int × Int) := es.foldl refStep []
def refN (es : List EvR) (x : Int) : Nat := (es.filter fun e => decide (e.er = x)).length
theorem refM_snoc (es : List EvR) (e : EvR) : refM (es ++ [e]) = refStep (refM es) e := by unfold refM; rw [List.foldl_append]; rfl
theorem refN_snoc (es : List EvR) (e : EvR) (x : Int) : refN (es ++ [e]) x = refN es x + (if e.er = x then 1 else 0) := by
  unfold refN
  rw [List.filter_append, List.length_append]
  by_cases h : e.er = x <;> simp [h]
theorem refN_le (es : List EvR) (x : Int) : refN es x ≤ es.length := List.length_filter_le _ _
theorem snoc_ind {α : Type} {p : List α → Prop} (h0 : p []) (h1 : ∀ l a, p l → p (l ++ [a])) (l : List α) : p l := by
  have : ∀ n (l : List α), l.length = n → p l := by
    intro n
    induction n with
    | zero => intro l hl; rw [List.eq_nil_of_length_eq_zero hl]; exact h0
    | succ n ih =>
      intro l hl
      rcases nil_snoc l with rfl | ⟨l', a, rfl⟩
      · simp at hl
      · exact h1 l' a (ih l' (by simpa using hl))
  exact this _ l rfl
theorem refM_get (es : List EvR) : ∀ x : Int, x ≠ 0 → kget (refM es) x = if refN es x = 0 then none else some (refN es x : Int) := by
  refine snoc_ind (p := fun es => ∀ x : Int, x ≠ 0 → kget (refM es) x = if refN es x = 0 then none else some (refN es x : Int)) ?_ ?_ es
  · intro x hx
    rfl
  · intro es e ih x hx
    rw [refM_snoc, refN_snoc]
    unfold refStep
    by_cases h0 : e.er = 0
    · have hne : ¬ e.er = x := fun h => hx (by rw [← h, h0])
      simp only [h0, if_true, hne, if_false, Nat.add_zero]
      have hne0 : ¬ (0 : Int) = x := fun h => hx h.symm
      simp only [hne0, if_false, Nat.add_zero]
      exact ih x hx
    · rw [if_neg h0, kget_kset, ih _ h0]
      by_cases h1 : x = e.er
      · subst h1
        have hne : ¬ refN es e.er + (if e.er = e.er then 1 else 0) = 0 := by simp
        rw [if_pos rfl, if_neg hne]
        by_cases h2 : refN es e.er = 0
        · simp [h2]
        · simp [h2]
      · have hne : ¬ e.er = x := fun h => h1 h.symm
        simp only [h1, hne, if_false, Nat.add_zero]
        exact ih x hx
theorem refM_has (es : List EvR) {x : Int} (hx : x ≠ 0) : kget (refM es) x = none ↔ ∀ e ∈ es, ¬ e.er = x := by
  rw [refM_get es x hx]
  have h : refN es x = 0 ↔ ∀ e ∈ es, ¬ e.er = x := by
    unfold refN
    rw [List.length_eq_zero_iff, List.filter_eq_nil_iff]
    simp
  by_cases h0 : refN es x = 0
  · rw [if_pos h0]
    exact ⟨fun _ => h.1 h0, fun _ => rfl⟩
  · rw [if_neg h0]
    exact ⟨fun hn => (by cases hn), fun hn => absurd (h.2 hn) h0⟩
theorem kset_length {α : Type} (l : List (Int × α)) (k : Int) (v : α) : (kset l k v).length = l.length + if kget l k = none then 1 else 0 := by
  induction l with
  | nil => simp [kset, kget]
  | cons p l ih =>
    unfold kset kget
    by_cases h : p.1 = k
    · rw [if_pos h, if_pos h]; simp
    · rw [if_neg h, if_neg h, List.length_cons, ih]; simp; omega
theorem refM_len (es : List EvR) (e : EvR) : (refM (es ++ [e])).length = (refM es).length + if e.er ≠ 0 ∧ (∀ f ∈ es, ¬ f.er = e.er) then 1 else 0 := by
  rw [refM_snoc]
  unfold refStep
  by_cases h0 : e.er = 0
  · rw [if_pos h0, if_neg (fun h => h.1 h0)]; rfl
  · rw [if_neg h0, kset_length]
    by_cases h1 : ∀ f ∈ es, ¬ f.er = e.er
    · rw [if_pos ((refM_has es h0).2 h1), if_pos ⟨h0, h1⟩]
    · rw [if_neg (fun h => h1 ((refM_has es h0).1 h)), if_neg (fun h => h1 h.2)]
theorem mvEr : mvT Try.prog 53 (.int .i64 0) := mvT_of (by kernel_rfl)
def mapV (b : Nat) : Value := .map (some b)
set_option maxRecDepth 100000 in
theorem sHjU1 : type_of% (And.intro (And.intro (And.intro @Nat.mul_one @wrap_in) (And.intro @cMv (And.intro @cM @suf_o3))) (And.intro (And.intro @suf_o4 @suf_o5) (And.intro @suf_o6 (And.intro @suf_o7 @look_ros)))) := (And.intro (And.intro (And.intro @Nat.mul_one @wrap_in) (And.intro @cMv (And.intro @cM @suf_o3))) (And.intro (And.intro @suf_o4 @suf_o5) (And.intro @suf_o6 (And.intro @suf_o7 @look_ros))))
set_option maxHeartbeats 4000000 in
theorem rRefused_any {W : World} {A : Option Addr} {n c : Nat} {es : List EvR} (hE : Sl W W.heap.size 5 A n c (evCells es)) (hn : n ≤ 100000) (x : Int) :
    Calls Try.prog 15 #[.slice A n c, .int .i64 x] W fun e w' => e = .returned (.int .i64 (refN es x : Int)) ∧ Below W.heap.size W w' := by
  have hlen : es.length = n := by
    have := hE.len
    unfold evCells at this
    rw [flLen evc_len] at this
    omega
  refine calls_cv (M := []) (n := 23) [.tmp 4] rfl Try.func15 rfl rfl (Nat.le_of_ble_eq_true rfl) (St.nil _ _) ?_
  refine cv_seq_k fun K hK => ?_
  refine cv_region_then rfl ?_
  simp -implicitDefEqProofs (disch := first | omega | decide) only [seval, -Int.reducePow, -Nat.reducePow, cC, pv, binv, sHjU1, undef]
  refine hK _ _ ?_
  clear hK K
  refine cv_seq_k fun K hK => ?_
  refine cv_region_then rfl ?_
  simp -implicitDefEqProofs (disch := first | omega | decide) only [seval, -Int.reducePow, -Nat.reducePow, cC, pv, binv, sHjU1, undef]
  refine hK _ _ ?_
  clear hK K
  refine cv_seq_k fun K hK => ?_
  refine cv_seq_k fun K hK => ?_
  refine cv_region_then rfl ?_
  simp -implicitDefEqProofs (disch := first | omega | decide) only [seval, -Int.reducePow, -Nat.reducePow, cC, pv, binv, sHjU1, undef]
  refine hK _ _ ?_
  clear hK K
  refine cv_gen fun G1 hG => ?_
  have g1_0 := congrFun hG 0
  have g1_1 := congrFun hG 1
  have g1_5 := congrFun hG 5
  have g1_6 := congrFun hG 6
  clear hG
  try simp -implicitDefEqProofs (disch := first | omega | decide) only [seval, -Int.reducePow, -Nat.reducePow, cC, pv, binv, sHjU1, undef] at g1_0 g1_1 g1_5 g1_6
  have g1 := And.intro g1_0 (And.intro g1_1 (And.intro g1_5 g1_6))
  refine cv_block ?_
  refine cv_loop (fun F' L' => ∃ (i : Nat), F' 0 = G1 0 ∧ F' 1 = G1 1 ∧ F' 5 = .int .i64 (refN (es.take i) x : Int) ∧ F' 6 = .int .i64 (i : Int) ∧ L' = [] ∧ i ≤ n) (fun F' L' => 200000 - (intOf (F' 6)).toNat) ?_ ?_
  · refine ⟨0, ?_⟩
    simp -implicitDefEqProofs (disch := first | omega | decide) only [seval, -Int.reducePow, -Nat.reducePow, cC, pv, binv, sHjU1, undef, g1]
    exact ⟨rfl, Nat.zero_le _⟩
  intro G2 L' hI
  obtain ⟨i, q0, q1, q5, q6, rfl, hi⟩ := hI
  have g2_0 := q0.trans g1_0
  have g2_1 := q1.trans g1_1
  have g2_5 := q5
  have g2_6 := q6
  clear q0 q1 q5 q6
  have g2 := And.intro g2_0 (And.intro g2_1 (And.intro g2_5 g2_6))
  refine cv_seq_k fun K hK => ?_
  refine cv_seq_k fun K hK => ?_
  refine cv_region_then rfl ?_
  simp -implicitDefEqProofs (disch := first | omega | decide) only [seval, -Int.reducePow, -Nat.reducePow, cC, pv, binv, sHjU1, undef, g1, g2]
  refine hK _ _ ?_
  clear hK K
  refine cv_cond ?_
  simp -implicitDefEqProofs (disch := first | omega | decide) only [seval, -Int.reducePow, -Nat.reducePow, cC, pv, binv, sHjU1, undef, g1, g2]
  refine ⟨fun hc => ?_, fun hc => ?_⟩
  · refine cv_skip ?_
    try simp only [blockQ, thenQ]
    have hit : i < n := by have := of_decide_eq_true ‹decide ((i : Int) < (n : Int)) = true›; omega
    obtain ⟨e, he⟩ : ∃ e, es[i]? = some e := ⟨_, List.getElem?_eq_getElem (by omega)⟩
    have htk : es.take (i + 1) = es.take i ++ [e] := by rw [List.take_add_one, he]; rfl
    have hle := refN_le (es.take i) x
    rw [List.length_take] at hle
    obtain ⟨bA, oA, rfl, hbA, -⟩ := hE.cells (by omega)
    refine hK _ _ ?_
    clear hK K
    refine cv_seq_k fun K hK => ?_
    refine cv_block ?_
    refine cv_seq_k fun K hK => ?_
    refine cv_region_then rfl ?_
    simp -implicitDefEqProofs (disch := first | omega | decide) only [seval, -Int.reducePow, -Nat.reducePow, cC, pv, binv, sHjU1, undef, g1, g2]
    refine ⟨_, hE.ld1 (m := 1) (i := i * 5 + 4) (by kernel_rfl) (flGet evc_len he (by omega)), fun tok htok => ?_⟩
    subst htok
    simp -implicitDefEqProofs (disch := first | omega | decide) only [seval, -Int.reducePow, -Nat.reducePow, cC, pv, binv, sHjU1, undef, g1, g2]
    refine hK _ _ ?_
    clear hK K
    refine cv_cond ?_
    by_cases h1 : e.er = x
    · simp -implicitDefEqProofs (disch := first | omega | decide) only [seval, -Int.reducePow, -Nat.reducePow, cC, pv, binv, sHjU1, undef, h1, g1, g2]
      refine cv_region_q rfl ?_
      simp -implicitDefEqProofs (disch := first | omega | decide) only [seval, -Int.reducePow, -Nat.reducePow, cC, pv, binv, sHjU1, undef, g1, g2]
      refine hK _ _ ?_
      clear hK K
      refine cv_region_then rfl ?_
      simp -implicitDefEqProofs (disch := first | omega | decide) only [seval, -Int.reducePow, -Nat.reducePow, cC, pv, binv, sHjU1, undef, g1, g2]
      refine ⟨⟨i + 1, ?_⟩, ?_⟩
      · rw [htk, refN_snoc, if_pos h1]
        simp -implicitDefEqProofs (disch := first | omega | decide) only [seval, -Int.reducePow, -Nat.reducePow, cC, pv, binv, sHjU1, undef, Int.natCast_add, g1, g2]
        omega
      · simp only [intOf]; omega
    · simp -implicitDefEqProofs (disch := first | omega | decide) only [seval, -Int.reducePow, -Nat.reducePow, cC, pv, binv, sHjU1, undef, h1, g1, g2]
      refine cv_skip ?_
      try simp only [blockQ, thenQ]
      refine hK _ _ ?_
      clear hK K
      refine cv_region_then rfl ?_
      simp -implicitDefEqProofs (disch := first | omega | decide) only [seval, -Int.reducePow, -Nat.reducePow, cC, pv, binv, sHjU1, undef, g1, g2]
      refine ⟨⟨i + 1, ?_⟩, ?_⟩
      · rw [htk, refN_snoc, if_neg h1]
        simp -implicitDefEqProofs (disch := first | omega | decide) only [seval, -Int.reducePow, -Nat.reducePow, cC, pv, binv, sHjU1, undef, Int.natCast_add, g1, g2]
        omega
      · simp only [intOf]; omega
  refine cv_exit ?_
  simp only [blockQ, thenQ, if_true, ite_true]
  clear hK K
  refine hK _ _ ?_
  clear hK K
  have hin : i = n := by have := of_decide_eq_false ‹decide ((i : Int) < (n : Int)) = false›; omega
  subst hin
  have hfull : es.take i = es := List.take_of_length_le (by omega)
  refine cv_seq_k fun K hK => ?_
  refine cv_region_then rfl ?_
  simp -implicitDefEqProofs (disch := first | omega | decide) only [seval, -Int.reducePow, -Nat.reducePow, cC, pv, binv, sHjU1, undef, hfull, g1, g2]
  refine hK _ _ ?_
  clear hK K
  refine cv_ret ⟨_, (by simp -implicitDefEqProofs (disch := first | omega | decide) only [seval, -Int.reducePow, -Nat.reducePow, cC, pv, binv, sHjU1, undef, g1, g2]; rfl), fun w hw => ?_⟩
  exact ⟨rfl, hw.below⟩
set_option maxHeartbeats 4000000 in
theorem hRefused_any {W : World} {A : Option Addr} {n c : Nat} {es : List EvR} (hE : Sl W W.heap.size 5 A n c (evCells es)) (hn : n ≤ 100000) :
    Calls Try.prog 14 #[.slice A n c] W fun e w' => ∃ b : Nat, e = .returned (mapV b) ∧ True ∧ St [] W [mvR b (kmap (Value.int .i64) (refM es))] w' := by
  have hlen : es.length = n := by
    have := hE.len
    unfold evCells at this
    rw [flLen evc_len] at this
    omega
  refine calls_cv (M := []) (n := 23) [.tmp 2] rfl Try.func14 rfl rfl (Nat.le_of_ble_eq_true rfl) (St.nil _ _) ?_
  refine cv_seq_k fun K hK => ?_
  refine cv_region_then rfl ?_
  simp -implicitDefEqProofs (disch := first | omega | decide) only [seval, -Int.reducePow, -Nat.reducePow, cC, pv, binv, sHjU1, undef]
  refine hK _ _ ?_
  clear hK K
  refine cv_seq_k fun K hK => ?_
  refine cv_region_then rfl ?_
  simp -implicitDefEqProofs (disch := first | omega | decide) only [seval, -Int.reducePow, -Nat.reducePow, cC, pv, binv, sHjU1, undef]
  refine xv_vmk fun b hb1 hf1 => ?_
  simp -implicitDefEqProofs (disch := first | omega | decide) only [seval, -Int.reducePow, -Nat.reducePow, cC, pv, binv, sHjU1, undef]
  refine hK _ _ ?_
  clear hK K
  refine cv_seq_k fun K hK => ?_
  refine cv_seq_k fun K hK => ?_
  refine cv_region_then rfl ?_
  simp -implicitDefEqProofs (disch := first | omega | decide) only [seval, -Int.reducePow, -Nat.reducePow, cC, pv, binv, sHjU1, undef]
  refine hK _ _ ?_
  clear hK K
  refine cv_gen fun G3 hG => ?_
  have g3_3 := congrFun hG 3
  have g3_7 := congrFun hG 7
  have g3_8 := congrFun hG 8
  have g3_9 := congrFun hG 9
  clear hG
  try simp -implicitDefEqProofs (disch := first | omega | decide) only [seval, -Int.reducePow, -Nat.reducePow, cC, pv, binv, sHjU1, undef] at g3_3 g3_7 g3_8 g3_9
  have g3 := And.intro g3_3 (And.intro g3_7 (And.intro g3_8 g3_9))
  refine cv_block ?_
  refine cv_loop (fun F' L' => ∃ (i : Nat), F' 3 = G3 3 ∧ F' 7 = G3 7 ∧ F' 8 = G3 8 ∧ F' 9 = .int .i64 (i : Int) ∧ L' = [mvR b (kmap (Value.int .i64) (refM (es.take i)))] ∧ i ≤ n) (fun F' L' => 200000 - (intOf (F' 9)).toNat) ?_ ?_
  · refine ⟨0, ?_⟩
    simp -implicitDefEqProofs (disch := first | omega | decide) only [seval, -Int.reducePow, -Nat.reducePow, cC, pv, binv, sHjU1, undef, g3]
    exact ⟨rfl, Nat.zero_le _⟩
  intro G4 L' hI
  obtain ⟨i, q3, q7, q8, q9, rfl, hi⟩ := hI
  have g4_3 := q3.trans g3_3
  have g4_7 := q7.trans g3_7
  have g4_8 := q8.trans g3_8
  have g4_9 := q9
  clear q3 q7 q8 q9
  have g4 := And.intro g4_3 (And.intro g4_7 (And.intro g4_8 g4_9))
  refine cv_seq_k fun K hK => ?_
  refine cv_region_then rfl ?_
  simp -implicitDefEqProofs (disch := first | omega | decide) only [seval, -Int.reducePow, -Nat.reducePow, cC, pv, binv, sHjU1, undef, g3, g4]
  refine hK _ _ ?_
  clear hK K
  refine cv_seq_k fun K hK => ?_
  refine cv_cond ?_
  simp -implicitDefEqProofs (disch := first | omega | decide) only [seval, -Int.reducePow, -Nat.reducePow, cC, pv, binv, sHjU1, undef, g3, g4]
  refine ⟨fun hc => ?_, fun hc => ?_⟩
  · refine cv_skip ?_
    try simp only [blockQ, thenQ]
    have hit : i < n := by have := of_decide_eq_true ‹decide ((i : Int) < (n : Int)) = true›; omega
    obtain ⟨e, he⟩ : ∃ e, es[i]? = some e := ⟨_, List.getElem?_eq_getElem (by omega)⟩
    have htk : es.take (i + 1) = es.take i ++ [e] := by rw [List.take_add_one, he]; rfl
    have hld := flAt evc_len he
    obtain ⟨bA, oA, rfl, hbA, -⟩ := hE.cells (by omega)
    refine hK _ _ ?_
    clear hK K
    refine cv_seq_k fun K hK => ?_
    refine cv_block ?_
    refine cv_seq_k fun K hK => ?_
    refine cv_region_then rfl ?_
    simp -implicitDefEqProofs (disch := first | omega | decide) only [seval, -Int.reducePow, -Nat.reducePow, cC, pv, binv, sHjU1, undef, g3, g4]
    refine ⟨_, hE.ld (i := i * 5) (vs := evc e) (by omega) (by kernel_rfl) hld, fun tok htok => ?_⟩
    subst htok
    simp -implicitDefEqProofs (disch := first | omega | decide) only [seval, -Int.reducePow, -Nat.reducePow, cC, pv, binv, sHjU1, undef, g3, g4]
    simp only [evc, List.length_cons, List.length_nil, true_and]
    simp -implicitDefEqProofs (disch := first | omega | decide) only [seval, -Int.reducePow, -Nat.reducePow, cC, pv, binv, sHjU1, undef, g3, g4]
    intro b5 hb5
    refine hK _ _ ?_
    clear hK K
    refine cv_seq_k fun K hK => ?_
    refine cv_region_then rfl ?_
    simp -implicitDefEqProofs (disch := first | omega | decide) only [seval, -Int.reducePow, -Nat.reducePow, cC, pv, binv, sHjU1, undef, g3, g4]
    refine hK _ _ ?_
    clear hK K
    refine cv_cond ?_
    by_cases h1 : e.er = 0
    · have hr : refM (es.take (i + 1)) = refM (es.take i) := by rw [htk, refM_snoc]; unfold refStep; rw [if_pos h1]
      simp -implicitDefEqProofs (disch := first | omega | decide) only [seval, -Int.reducePow, -Nat.reducePow, cC, pv, binv, sHjU1, undef, h1, g3, g4]
      refine cv_skip ?_
      try simp only [blockQ, thenQ]
      refine hK _ _ ?_
      clear hK K
      refine cv_pick [1] (by decide) ?_
      simp only [pickL, nth]
      refine cv_region_then rfl ?_
      simp -implicitDefEqProofs (disch := first | omega | decide) only [seval, -Int.reducePow, -Nat.reducePow, cC, pv, binv, sHjU1, undef, g3, g4]
      refine ⟨⟨i + 1, ?_⟩, ?_⟩
      · rw [hr]
        simp -implicitDefEqProofs (disch := first | omega | decide) only [seval, -Int.reducePow, -Nat.reducePow, cC, pv, binv, sHjU1, undef, Int.natCast_add, g3, g4]
        omega
      · simp only [intOf]; omega
    · have hr : refM (es.take (i + 1)) = kset (refM (es.take i)) e.er ((kget (refM (es.take i)) e.er).getD 0 + 1) := by rw [htk, refM_snoc]; unfold refStep; rw [if_neg h1]
      have hle := refN_le (es.take i) e.er
      rw [List.length_take] at hle
      have hgd : (kget (refM (es.take i)) e.er).getD 0 = (refN (es.take i) e.er : Int) := by
        rw [refM_get _ _ h1]
        by_cases h0 : refN (es.take i) e.er = 0 <;> simp [h0]
      have hwr : IntKind.i64.wrap ((refN (es.take i) e.er : Int) + 1) = (refN (es.take i) e.er : Int) + 1 := wrap_in (by omega) (by omega)
      rw [hgd] at hr
      simp -implicitDefEqProofs (disch := first | omega | decide) only [seval, -Int.reducePow, -Nat.reducePow, cC, pv, binv, sHjU1, undef, h1, g3, g4]
      refine cv_region_q rfl ?_
      simp -implicitDefEqProofs (disch := first | omega | decide) only [seval, -Int.reducePow, -Nat.reducePow, cC, pv, binv, sHjU1, undef, g3, g4]
      refine xv_vlook1 mvEr rfl rfl (fun w hw => hw.mvH 1 rfl) ?_
      rw [vget_kmap, vint_get, hgd]
      simp -implicitDefEqProofs (disch := first | omega | decide) only [seval, -Int.reducePow, -Nat.reducePow, cC, pv, binv, sHjU1, undef, hwr, g3, g4]
      refine xu_vset 1 (y := .int .i64 ((refN (es.take i) e.er : Int) + 1)) mvEr rfl rfl rfl rfl ?_
      rw [vset_kmap, ← hr]
      simp -implicitDefEqProofs (disch := first | omega | decide) only [seval, -Int.reducePow, -Nat.reducePow, cC, pv, binv, sHjU1, undef, g3, g4]
      refine hK _ _ ?_
      clear hK K
      refine cv_pick [1] (by decide) ?_
      simp only [pickL, nth]
      refine cv_region_then rfl ?_
      simp -implicitDefEqProofs (disch := first | omega | decide) only [seval, -Int.reducePow, -Nat.reducePow, cC, pv, binv, sHjU1, undef, g3, g4]
      refine ⟨⟨i + 1, ?_⟩, ?_⟩
      · simp -implicitDefEqProofs (disch := first | omega | decide) only [seval, -Int.reducePow, -Nat.reducePow, cC, pv, binv, sHjU1, undef, Int.natCast_add, g3, g4]
        omega
      · simp only [intOf]; omega
  refine cv_exit ?_
  simp only [blockQ, thenQ, if_true, ite_true]
  clear hK K
  refine hK _ _ ?_
  clear hK K
  have hin : i = n := by have := of_decide_eq_false ‹decide ((i : Int) < (n : Int)) = false›; omega
  subst hin
  have hfull : es.take i = es := List.take_of_length_le (by omega)
  refine cv_seq_k fun K hK => ?_
  refine cv_region_then rfl ?_
  simp -implicitDefEqProofs (disch := first | omega | decide) only [seval, -Int.reducePow, -Nat.reducePow, cC, pv, binv, sHjU1, undef, g3, g4]
  refine hK _ _ ?_
  clear hK K
  refine cv_ret ⟨_, (by simp -implicitDefEqProofs (disch := first | omega | decide) only [seval, -Int.reducePow, -Nat.reducePow, cC, pv, binv, sHjU1, undef, g3, g4]; rfl), fun w hw => ?_⟩
  rw [hfull] at hw
  exact ⟨b, rfl, trivial, hw⟩
end Go.Proofs.Ytaifnipgefkemaa
/- What a plugin has: the code's Activity and the reference's. -/
namespace Go.Proofs.Ytaifnipgefkemaa
open Go.RowKit Go.Shelf
set_option linter.unusedVariables false
set_option linter.unusedSimpArgs false
set_option maxRecDepth 100000
def cntO (l : List RP) (p : Int) : Nat := (l.filter fun r => decide (r.ow = p)).length
def hasHo (p : Int) (r : RP) : Bool := r.bs.any fun b => decide (b.ho = p)
def cntB (l : List RP) (p : Int) : Nat := (l.filter (hasHo p)).length
def recP (p : Int) (e : EvR) : Bool := decide (e.pl = p) && !decide (e.op = 32) && !decide (e.op = 33)
def cntR (es : List EvR) (p : Int) : Nat := (es.filter (recP p)).length
def actV (es : List EvR) (p : Int) : Value := .agg #[.int .i64 0, .int .i64 (cntO (repS (runS hs0 es)).1 p : Int), .int .i64 (cntB (repS (runS hs0 es)).1 p : Int), .int .i64 (cntR es p : Int), .int .i64 0]
section
variable {P : Program} {M : List Nat} {W : World} {L : List Res}
theorem xv_funcH {F : Fr} {d : Option Nat} {f : FuncId} {caps : Array Operand} {ty : TypeId} {pos : String} {af : Array Edge} {gd : Option (Nat × Bool)} {K : Bool → Value → List Res → Prop} (hK : K true (.func (.func f) #[] (caps.map (ev F))) L) :
    XV P M W ⟨d, .makeFunc (.func f) #[] caps, ty, pos, af, gd⟩ F L K := fun w hw => ⟨_, _, w, by simp [execOp, Instr.makeFunc], hw, hK⟩
end
set_option maxRecDepth 100000 in
theorem sHjV1 : type_of% (And.intro (And.intro (And.intro @Nat.mul_one @wrap_in) (And.intro @cMv (And.intro @cM @suf_o3))) (And.intro (And.intro @suf_o4 @suf_o5) (And.intro @suf_o6 (And.intro @suf_o7 @look_ros)))) := (And.intro (And.intro (And.intro @Nat.mul_one @wrap_in) (And.intro @cMv (And.intro @cM @suf_o3))) (And.intro (And.intro @suf_o4 @suf_o5) (And.intro @suf_o6 (And.intro @suf_o7 @look_ros))))
theorem hHolder_any {W : World} {b3 : Nat} {p : Int} (hP : Sl W W.heap.size 1 (some ⟨b3, 0, none⟩) 1 1 [.int .i64 p]) (b : Bw) :
    Calls Try.prog 25 #[bwV b, .pointer (some ⟨b3, 0, none⟩)] W fun e w' => e = .returned (.bool (decide (b.ho = p))) ∧ Below W.heap.size W w' := by
  refine calls_cv (M := []) (n := 8) [.tmp 3] rfl Try.func25 rfl rfl (Nat.le_of_ble_eq_true rfl) (St.nil _ _) ?_
  refine cv_seq_k fun K hK => ?_
  refine cv_region_then rfl ?_
  simp -implicitDefEqProofs (disch := first | omega | decide) only [seval, -Int.reducePow, -Nat.reducePow, cC, pv, binv, sHjV1, undef, bwV]
  intro b2 hb2
  refine hK _ _ ?_
  clear hK K
  have hlt : b3 < W.heap.size := by
    obtain ⟨b', off', e, hb, -⟩ := hP.cells (by omega)
    cases e
    exact hb
  refine cv_seq_k fun K hK => ?_
  refine cv_region_then rfl ?_
  simp -implicitDefEqProofs (disch := first | omega | decide) only [seval, -Int.reducePow, -Nat.reducePow, cC, pv, binv, sHjV1, undef]
  refine ⟨_, hP.ld1 (m := 1) (i := 0) (by kernel_rfl) rfl, fun tok htok => ?_⟩
  subst htok
  simp -implicitDefEqProofs (disch := first | omega | decide) only [seval, -Int.reducePow, -Nat.reducePow, cC, pv, binv, sHjV1, undef]
  refine hK _ _ ?_
  clear hK K
  refine cv_ret ⟨_, (by simp -implicitDefEqProofs (disch := first | omega | decide) only [seval, -Int.reducePow, -Nat.reducePow, cC, pv, binv, sHjV1, undef]; rfl), fun w hw => ?_⟩
  exact ⟨rfl, hw.below⟩
def ixH (bs : List Bw) (p : Int) : Int := match bs.findIdx? (fun b => decide (b.ho = p)) with
  | some i => i
  | none => -1
theorem findIdxB_take {l : List Bw} {p : Bw → Bool} {i : Nat} {e : Bw} (he : l[i]? = some e) (hp : (l.take i).findIdx? p = none) (h : p e = true) : l.findIdx? p = some i := by
  have hlt := (List.getElem?_eq_some_iff.1 he).1
  have hge := (List.getElem?_eq_some_iff.1 he).2
  rw [List.findIdx?_eq_some_iff_getElem]
  refine ⟨hlt, by rw [hge]; exact h, fun j hj => ?_⟩
  rw [List.findIdx?_eq_none_iff] at hp
  have := hp (l[j]'(by omega)) (by rw [List.mem_take_iff_getElem]; exact ⟨j, by omega, rfl⟩)
  simpa using this
theorem findIdxB_step {l : List Bw} {p : Bw → Bool} {i : Nat} {e : Bw} (he : l[i]? = some e) (hp : (l.take i).findIdx? p = none) (h : p e = false) : (l.take (i + 1)).findIdx? p = none := by
  rw [List.findIdx?_eq_none_iff] at hp ⊢
  intro x hx
  rw [List.take_add_one, he] at hx
  rcases List.mem_append.1 hx with hx | hx
  · exact hp x hx
  · have : x = e := by simpa using hx
    rw [this, h]
set_option maxHeartbeats 4000000 in
theorem hIndex_any {W : World} {A : Option Addr} {n c b3 : Nat} {bs : List Bw} {p : Int} (h : Sl W W.heap.size 4 A n c (bwCells bs)) (hn : n ≤ 100000) (hP : Sl W W.heap.size 1 (some ⟨b3, 0, none⟩) 1 1 [.int .i64 p]) :
    Calls Try.prog 46 #[.slice A n c, .func (.func 25) #[] #[.pointer (some ⟨b3, 0, none⟩)]] W fun e w' => e = .returned (.int .i64 (ixH bs p)) ∧ Below W.heap.size W w' := by
  have hlen := h.len
  rw [bwCells_len] at hlen
  refine calls_cv (M := []) (n := 19) [.tmp 4] rfl Try.func46 rfl rfl (Nat.le_of_ble_eq_true rfl) (St.nil _ _) ?_
  refine cv_seq_k fun K hK => ?_
  refine cv_region_then rfl ?_
  simp -implicitDefEqProofs (disch := first | omega | decide) only [seval, -Int.reducePow, -Nat.reducePow, cC, pv, binv, sHjV1, undef]
  refine hK _ _ ?_
  clear hK K
  refine cv_seq_k fun K hK => ?_
  refine cv_seq_k fun K hK => ?_
  refine cv_region_then rfl ?_
  simp -implicitDefEqProofs (disch := first | omega | decide) only [seval, -Int.reducePow, -Nat.reducePow, cC, pv, binv, sHjV1, undef]
  refine hK _ _ ?_
  clear hK K
  refine cv_gen fun G1 hG => ?_
  have g1_0 := congrFun hG 0
  have g1_1 := congrFun hG 1
  have g1_7 := congrFun hG 7
  have g1_8 := congrFun hG 8
  clear hG
  try simp -implicitDefEqProofs (disch := first | omega | decide) only [seval, -Int.reducePow, -Nat.reducePow, cC, pv, binv, sHjV1, undef] at g1_0 g1_1 g1_7 g1_8
  have g1 := And.intro g1_0 (And.intro g1_1 (And.intro g1_7 g1_8))
  refine cv_block ?_
  refine cv_loop (fun F' L' => ∃ (i : Nat), F' 0 = G1 0 ∧ F' 1 = G1 1 ∧ F' 7 = G1 7 ∧ F' 8 = .int .i64 (i : Int) ∧ L' = [] ∧ i ≤ n ∧ (bs.take i).findIdx? (fun b => decide (b.ho = p)) = none) (fun F' L' => 200000 - (intOf (F' 8)).toNat) ?_ ?_
  · refine ⟨0, ?_⟩
    simp -implicitDefEqProofs (disch := first | omega | decide) only [seval, -Int.reducePow, -Nat.reducePow, cC, pv, binv, sHjV1, undef, g1]
    exact ⟨Nat.zero_le _, rfl⟩
  intro G2 L' hI
  obtain ⟨i, q0, q1, q7, q8, rfl, ⟨hi, hfn⟩⟩ := hI
  have g2_0 := q0.trans g1_0
  have g2_1 := q1.trans g1_1
  have g2_7 := q7.trans g1_7
  have g2_8 := q8
  clear q0 q1 q7 q8
  have g2 := And.intro g2_0 (And.intro g2_1 (And.intro g2_7 g2_8))
  refine cv_seq_k fun K hK => ?_
  refine cv_region_then rfl ?_
  simp -implicitDefEqProofs (disch := first | omega | decide) only [seval, -Int.reducePow, -Nat.reducePow, cC, pv, binv, sHjV1, undef, g1, g2]
  refine hK _ _ ?_
  clear hK K
  refine cv_seq_k fun K hK => ?_
  refine cv_cond ?_
  simp -implicitDefEqProofs (disch := first | omega | decide) only [seval, -Int.reducePow, -Nat.reducePow, cC, pv, binv, sHjV1, undef, g1, g2]
  refine ⟨fun hc => ?_, fun hc => ?_⟩
  · refine cv_skip ?_
    try simp only [blockQ, thenQ]
    have hit : i < n := by have := of_decide_eq_true ‹decide ((i : Int) < (n : Int)) = true›; omega
    obtain ⟨e, he⟩ : ∃ e, bs[i]? = some e := ⟨_, List.getElem?_eq_getElem (by omega)⟩
    have hld := flAt bwc_len he
    obtain ⟨bA, oA, rfl, hbA, -⟩ := h.cells (by omega)
    refine hK _ _ ?_
    clear hK K
    refine cv_seq_k fun K hK => ?_
    refine cv_block ?_
    refine cv_seq_k fun K hK => ?_
    refine cv_region_then rfl ?_
    simp -implicitDefEqProofs (disch := first | omega | decide) only [seval, -Int.reducePow, -Nat.reducePow, cC, pv, binv, sHjV1, undef, g1, g2]
    refine hK _ _ ?_
    clear hK K
    refine cv_seq_k fun K hK => ?_
    refine cv_region_then rfl ?_
    simp -implicitDefEqProofs (disch := first | omega | decide) only [seval, -Int.reducePow, -Nat.reducePow, cC, pv, binv, sHjV1, undef, g1, g2]
    refine ⟨_, h.ld (i := i * 4) (vs := bwc e) (by omega) (by kernel_rfl) hld, fun tok htok => ?_⟩
    subst htok
    simp -implicitDefEqProofs (disch := first | omega | decide) only [seval, -Int.reducePow, -Nat.reducePow, cC, pv, binv, sHjV1, undef, g1, g2]
    refine callV_ret (fun w hw => hHolder_any (hP.at hw) e) ?_
    try simp -implicitDefEqProofs (disch := first | omega | decide) only [seval, -Int.reducePow, -Nat.reducePow, cC, pv, binv, sHjV1, undef, g1, g2]
    refine hK _ _ ?_
    clear hK K
    refine cv_cond ?_
    by_cases h1 : e.ho = p
    · simp -implicitDefEqProofs (disch := first | omega | decide) only [seval, -Int.reducePow, -Nat.reducePow, cC, pv, binv, sHjV1, undef, h1, g1, g2]
      refine cv_seq_k fun K hK => ?_
      refine cv_region_then rfl ?_
      simp -implicitDefEqProofs (disch := first | omega | decide) only [seval, -Int.reducePow, -Nat.reducePow, cC, pv, binv, sHjV1, undef, g1, g2]
      refine hK _ _ ?_
      clear hK K
      refine cv_ret ⟨_, (by simp -implicitDefEqProofs (disch := first | omega | decide) only [seval, -Int.reducePow, -Nat.reducePow, cC, pv, binv, sHjV1, undef, g1, g2]; rfl), fun w hw => ?_⟩
      have hx : ixH bs p = i := by unfold ixH; rw [findIdxB_take he hfn (by simpa using h1)]
      rw [hx]
      exact ⟨rfl, hw.below⟩
    · simp -implicitDefEqProofs (disch := first | omega | decide) only [seval, -Int.reducePow, -Nat.reducePow, cC, pv, binv, sHjV1, undef, h1, g1, g2]
      refine cv_skip ?_
      try simp only [blockQ, thenQ]
      refine hK _ _ ?_
      clear hK K
      refine cv_region_then rfl ?_
      simp -implicitDefEqProofs (disch := first | omega | decide) only [seval, -Int.reducePow, -Nat.reducePow, cC, pv, binv, sHjV1, undef, g1, g2]
      refine ⟨⟨i + 1, ?_⟩, ?_⟩
      · simp -implicitDefEqProofs (disch := first | omega | decide) only [seval, -Int.reducePow, -Nat.reducePow, cC, pv, binv, sHjV1, undef, Int.natCast_add, g1, g2]
        exact ⟨by omega, findIdxB_step he hfn (by simpa using h1)⟩
      · simp only [intOf]; omega
  refine cv_exit ?_
  simp only [blockQ, thenQ, if_true, ite_true]
  clear hK K
  refine hK _ _ ?_
  clear hK K
  have hin : i = n := by have := of_decide_eq_false ‹decide ((i : Int) < (n : Int)) = false›; omega
  subst hin
  rw [List.take_of_length_le (by omega)] at hfn
  refine cv_seq_k fun K hK => ?_
  refine cv_region_then rfl ?_
  simp -implicitDefEqProofs (disch := first | omega | decide) only [seval, -Int.reducePow, -Nat.reducePow, cC, pv, binv, sHjV1, undef, g1, g2]
  refine hK _ _ ?_
  clear hK K
  refine cv_ret ⟨_, (by simp -implicitDefEqProofs (disch := first | omega | decide) only [seval, -Int.reducePow, -Nat.reducePow, cC, pv, binv, sHjV1, undef, g1, g2]; rfl), fun w hw => ?_⟩
  have hx : ixH bs p = -1 := by unfold ixH; rw [hfn]
  rw [hx]
  exact ⟨rfl, hw.below⟩
theorem ixH_ge (bs : List Bw) (p : Int) : decide (0 ≤ ixH bs p) = bs.any fun b => decide (b.ho = p) := by
  unfold ixH
  cases h : bs.findIdx? (fun b => decide (b.ho = p)) with
  | some i =>
    obtain ⟨h1, h2, -⟩ := List.findIdx?_eq_some_iff_getElem.1 h
    have : (bs.any fun b => decide (b.ho = p)) = true := List.any_eq_true.2 ⟨_, List.getElem_mem h1, h2⟩
    rw [this]
    simp
  | none =>
    rw [List.findIdx?_eq_none_iff] at h
    have : (bs.any fun b => decide (b.ho = p)) = false := List.any_eq_false.2 fun b hb => by simpa using h b hb
    rw [this]
    rfl
theorem hContains_any {W : World} {A : Option Addr} {n c b3 : Nat} {bs : List Bw} {p : Int} (h : Sl W W.heap.size 4 A n c (bwCells bs)) (hn : n ≤ 100000) (hP : Sl W W.heap.size 1 (some ⟨b3, 0, none⟩) 1 1 [.int .i64 p]) :
    Calls Try.prog 24 #[.slice A n c, .func (.func 25) #[] #[.pointer (some ⟨b3, 0, none⟩)]] W fun e w' => e = .returned (.bool (bs.any fun b => decide (b.ho = p))) ∧ Below W.heap.size W w' := by
  refine calls_cv (M := []) (n := 9) [.tmp 4] rfl Try.func24 rfl rfl (Nat.le_of_ble_eq_true rfl) (St.nil _ _) ?_
  refine cv_seq_k fun K hK => ?_
  refine cv_region_then rfl ?_
  simp -implicitDefEqProofs (disch := first | omega | decide) only [seval, -Int.reducePow, -Nat.reducePow, cC, pv, binv, sHjV1, undef]
  refine hK _ _ ?_
  clear hK K
  refine cv_seq_k fun K hK => ?_
  refine cv_region_then rfl ?_
  simp -implicitDefEqProofs (disch := first | omega | decide) only [seval, -Int.reducePow, -Nat.reducePow, cC, pv, binv, sHjV1, undef]
  refine callV_ret (fun w hw => hIndex_any (h.at hw) hn (hP.at hw)) ?_
  try simp -implicitDefEqProofs (disch := first | omega | decide) only [seval, -Int.reducePow, -Nat.reducePow, cC, pv, binv, sHjV1, undef]
  refine hK _ _ ?_
  clear hK K
  refine cv_ret ⟨_, (by simp -implicitDefEqProofs (disch := first | omega | decide) only [seval, -Int.reducePow, -Nat.reducePow, cC, pv, binv, sHjV1, undef, ixH_ge]; rfl), fun w hw => ?_⟩
  exact ⟨rfl, hw.below⟩
theorem filter_snoc_len {α : Type} {l : List α} {i : Nat} {a : α} (h : l[i]? = some a) (p : α → Bool) : ((l.take (i + 1)).filter p).length = ((l.take i).filter p).length + if p a = true then 1 else 0 := by
  rw [filter_step h, List.length_append]
  split <;> rfl
theorem filter_take_le {α : Type} (l : List α) (i : Nat) (p : α → Bool) : ((l.take i).filter p).length ≤ i := by
  have h1 := List.length_filter_le p (l.take i)
  have h2 := List.length_take_le i l
  omega
theorem runS_inv : ∀ (es : List EvR) (s0 s : HS) (k : Nat), HInv k s0 → (∀ e ∈ es, e.ok) → runS s0 es = some s → HInv (k + es.length) s
  | [], s0, s, k, h, _, hs => by
    cases hs
    exact h
  | e :: es, s0, s, k, h, hok, hs => by
    simp only [runS] at hs
    split at hs
    · cases hs
    · rename_i s1 h1
      have := runS_inv es s1 s (k + 1) (h.step (hok e (.head _)) h1) (fun e he => hok e (.tail _ he)) hs
      rw [List.length_cons, show k + (es.length + 1) = k + 1 + es.length by omega]
      exact this
theorem srtL_len {α : Type} (l : List (Int × α)) : (srtL l).length = l.length := by
  have := congrArg List.length (srtL_keys (l := l))
  rw [List.length_mergeSort] at this
  unfold keys at this
  rw [List.length_map, List.length_map] at this
  exact this
theorem repS_bd {es : List EvR} {rps : List RP} (hok : ∀ e ∈ es, e.ok) (h : (repS (runS hs0 es)).1 = rps) : rps.length ≤ es.length ∧ ∀ r ∈ rps, r.bs.length ≤ es.length := by
  subst h
  cases hs : runS hs0 es with
  | none => exact ⟨Nat.zero_le _, fun r hr => by cases hr⟩
  | some s =>
    have hI := runS_inv es hs0 s 0 hs0_inv hok hs
    rw [Nat.zero_add] at hI
    show (outL s).length ≤ _ ∧ _
    refine ⟨?_, fun r hr => ?_⟩
    · unfold outL
      rw [List.length_map, srtL_len]
      exact hI.len
    · obtain ⟨q, hq, rfl⟩ := List.mem_map.1 hr
      unfold outO
      simp only [List.length_map, srtL_len]
      exact (hI.obj q ((srtL_perm hI.nd).mem_iff.1 hq)).cl
set_option maxHeartbeats 4000000 in
theorem hActivity_any (A : Option Addr) (n c : Nat) (es : List EvR) (p : Int) (W : World) (hE : Sl W W.heap.size 5 A n c (evCells es)) (hok : ∀ e ∈ es, e.ok) (hn : n ≤ 900) :
    Calls Try.prog 11 #[.slice A n c, .int .i64 p] W fun e w' => e = .returned (actV es p) ∧ Below W.heap.size W w' := by
  have hlen : es.length = n := by
    have := hE.len
    unfold evCells at this
    rw [flLen evc_len] at this
    omega
  refine calls_cv2 (M := []) (n := 66) [.cell 4 48] rfl Try.func11 rfl rfl (Nat.le_of_ble_eq_true rfl) (St.nil _ _) ?_
  refine cv_seq_k fun K hK => ?_
  refine cv_region_then rfl ?_
  simp -implicitDefEqProofs (disch := first | omega | decide) only [seval, -Int.reducePow, -Nat.reducePow, cC, pv, binv, sHjV1, undef]
  intro b3 hb3 b4 hb4 hf4
  refine hK _ _ ?_
  clear hK K
  refine cv_seq_k fun K hK => ?_
  refine cv_region_then rfl ?_
  simp -implicitDefEqProofs (disch := first | omega | decide) only [seval, -Int.reducePow, -Nat.reducePow, cC, pv, binv, sHjV1, undef]
  intro b5 hb5 hf5
  refine hK _ _ ?_
  clear hK K
  refine cv_seq_k fun K hK => ?_
  refine cv_region_then rfl ?_
  simp -implicitDefEqProofs (disch := first | omega | decide) only [seval, -Int.reducePow, -Nat.reducePow, cC, pv, binv, sHjV1, undef]
  refine callV_new repV repL _ (fun w hw => hReplay_any A n c es w (hE.at hw) hok hn) ?_
  rintro ⟨LA, ln, lc, ros, er⟩ hr
  have hros := hr.ros
  dsimp only at hros
  obtain ⟨rps, hrps⟩ : ∃ rps, (repS (runS hs0 es)).1 = rps := ⟨_, rfl⟩
  have hav : actV es p = .agg #[.int .i64 0, .int .i64 (cntO rps p : Int), .int .i64 (cntB rps p : Int), .int .i64 (cntR es p : Int), .int .i64 0] := by unfold actV; rw [hrps]
  rw [hrps] at hros
  unfold repV repL
  dsimp only
  simp -implicitDefEqProofs (disch := first | omega | decide) only [seval, -Int.reducePow, -Nat.reducePow, cC, pv, binv, sHjV1, undef]
  refine hK _ _ ?_
  clear hK K
  obtain ⟨hbd1, hbd2⟩ := repS_bd hok hrps
  refine cv_sub (.blk b5 48 [.int .i64 0, .int .i64 0, .int .i64 0, .int .i64 0, .int .i64 0] :: .blk b4 48 [.int .i64 0, .int .i64 0, .int .i64 0, .int .i64 0, .int .i64 0] :: .blk b3 3 [.int .i64 p] :: .row (.slice LA ln lc) 43 6 ln (roCells ros) :: ros.map roRow) (fun w hw => hw.perm (List.perm_append_comm (l₁ := [_, _, _]) (l₂ := _ :: _))) ?_
  have hrl : ros.length = rps.length := by rw [← hros, List.length_map]
  refine cv_len 3 rfl fun hlA => ?_
  have hln : ros.length = ln := by unfold roCells at hlA; rw [flLen roc_len] at hlA; omega
  refine cv_seq_k fun K hK => ?_
  refine cv_seq_k fun K hK => ?_
  refine cv_region_then rfl ?_
  simp -implicitDefEqProofs (disch := first | omega | decide) only [seval, -Int.reducePow, -Nat.reducePow, cC, pv, binv, sHjV1, undef]
  refine hK _ _ ?_
  clear hK K
  refine cv_gen fun G3 hG => ?_
  have g3_0 := congrFun hG 0
  have g3_3 := congrFun hG 3
  have g3_4 := congrFun hG 4
  have g3_5 := congrFun hG 5
  have g3_17 := congrFun hG 17
  have g3_18 := congrFun hG 18
  have g3_19 := congrFun hG 19
  clear hG
  try simp -implicitDefEqProofs (disch := first | omega | decide) only [seval, -Int.reducePow, -Nat.reducePow, cC, pv, binv, sHjV1, undef] at g3_0 g3_3 g3_4 g3_5 g3_17 g3_18 g3_19
  have g3 := And.intro g3_0 (And.intro g3_3 (And.intro g3_4 (And.intro g3_5 (And.intro g3_17 (And.intro g3_18 g3_19)))))
  refine cv_block ?_
  refine cv_loop (fun F' L' => ∃ (j : Nat), F' 0 = G3 0 ∧ F' 3 = G3 3 ∧ F' 4 = G3 4 ∧ F' 5 = G3 5 ∧ F' 17 = G3 17 ∧ F' 18 = G3 18 ∧ F' 19 = .int .i64 (j : Int) ∧ L' = .blk b5 48 [.int .i64 0, .int .i64 (cntO (rps.take j) p : Int), .int .i64 (cntB (rps.take j) p : Int), .int .i64 0, .int .i64 0] :: .blk b4 48 [.int .i64 0, .int .i64 0, .int .i64 0, .int .i64 0, .int .i64 0] :: .blk b3 3 [.int .i64 p] :: .row (.slice LA ln lc) 43 6 ln (roCells ros) :: ros.map roRow ∧ j ≤ ln) (fun F' L' => 2000 - (intOf (F' 19)).toNat) ?_ ?_
  · refine ⟨0, ?_⟩
    simp -implicitDefEqProofs (disch := first | omega | decide) only [seval, -Int.reducePow, -Nat.reducePow, cC, pv, binv, sHjV1, undef, g3]
    exact ⟨rfl, Nat.zero_le _⟩
  intro G4 L' hI
  obtain ⟨j, q0, q3, q4, q5, q17, q18, q19, rfl, hj⟩ := hI
  have g4_0 := q0.trans g3_0
  have g4_3 := q3.trans g3_3
  have g4_4 := q4.trans g3_4
  have g4_5 := q5.trans g3_5
  have g4_17 := q17.trans g3_17
  have g4_18 := q18.trans g3_18
  have g4_19 := q19
  clear q0 q3 q4 q5 q17 q18 q19
  have g4 := And.intro g4_0 (And.intro g4_3 (And.intro g4_4 (And.intro g4_5 (And.intro g4_17 (And.intro g4_18 g4_19)))))
  refine cv_seq_k fun K hK => ?_
  refine cv_region_then rfl ?_
  simp -implicitDefEqProofs (disch := first | omega | decide) only [seval, -Int.reducePow, -Nat.reducePow, cC, pv, binv, sHjV1, undef, g3, g4]
  refine hK _ _ ?_
  clear hK K
  refine cv_seq_k fun K hK => ?_
  refine cv_cond ?_
  simp -implicitDefEqProofs (disch := first | omega | decide) only [seval, -Int.reducePow, -Nat.reducePow, cC, pv, binv, sHjV1, undef, g3, g4]
  refine ⟨fun hc => ?_, fun hc => ?_⟩
  · refine cv_skip ?_
    try simp only [blockQ, thenQ]
    have hit : j < ln := by have := of_decide_eq_true ‹decide ((j : Int) < (ln : Int)) = true›; omega
    obtain ⟨r, hr1⟩ : ∃ r, ros[j]? = some r := ⟨_, List.getElem?_eq_getElem (by omega)⟩
    have hm1 := List.mem_of_getElem? hr1
    have hrp : rps[j]? = some r.pl := by rw [← hros, List.getElem?_map, hr1]; rfl
    have hld := flAt roc_len hr1
    have ho1 : cntO (rps.take (j + 1)) p = cntO (rps.take j) p + if r.ow = p then 1 else 0 := by
      have := filter_snoc_len hrp (fun r => decide (r.ow = p))
      simp only [decide_eq_true_eq] at this
      exact this
    have hb1 : cntB (rps.take (j + 1)) p = cntB (rps.take j) p + if hasHo p r.pl = true then 1 else 0 := filter_snoc_len hrp (hasHo p)
    have hcO : cntO (rps.take j) p ≤ j := filter_take_le ..
    have hcB : cntB (rps.take j) p ≤ j := filter_take_le ..
    have hrn := hbd2 r.pl (List.mem_of_getElem? hrp)
    refine hK _ _ ?_
    clear hK K
    refine cv_rowA 3 rfl (by omega) fun g hAA hg hNN => ?_
    subst hAA
    simp only [List.eraseIdx_cons_zero, List.eraseIdx_cons_succ, neB_nil, neB_blk, neB_row, neB_snap, and_true, List.not_mem_nil, or_false, sHjV1, undef] at hNN hg
    replace hg := And.intro hg hNN
    clear hNN
    refine cv_seq_k fun K hK => ?_
    refine cv_block ?_
    refine cv_seq_k fun K hK => ?_
    refine cv_region_then rfl ?_
    simp -implicitDefEqProofs (disch := first | omega | decide) only [seval, -Int.reducePow, -Nat.reducePow, cC, pv, binv, sHjV1, undef, g3, g4]
    refine ⟨_, ld_row (i := j * 6) (vs := roc r) (nth_mem (k := 3) rfl) (by kernel_rfl) hld, fun tok htok => ?_⟩
    subst htok
    simp -implicitDefEqProofs (disch := first | omega | decide) only [seval, -Int.reducePow, -Nat.reducePow, cC, pv, binv, sHjV1, undef, g3, g4]
    simp only [roc, List.length_cons, List.length_nil, true_and]
    simp -implicitDefEqProofs (disch := first | omega | decide) only [seval, -Int.reducePow, -Nat.reducePow, cC, pv, binv, sHjV1, undef, g3, g4]
    intro b9 hb9 hf9
    refine hK _ _ ?_
    clear hK K
    refine cv_gen fun G5 hG => ?_
    have g5_0 := congrFun hG 0
    have g5_3 := congrFun hG 3
    have g5_4 := congrFun hG 4
    have g5_5 := congrFun hG 5
    have g5_9 := congrFun hG 9
    have g5_17 := congrFun hG 17
    have g5_18 := congrFun hG 18
    have g5_19 := congrFun hG 19
    clear hG
    try simp -implicitDefEqProofs (disch := first | omega | decide) only [seval, -Int.reducePow, -Nat.reducePow, cC, pv, binv, sHjV1, undef, g3, g4] at g5_0 g5_3 g5_4 g5_5 g5_9 g5_17 g5_18 g5_19
    have g5 := And.intro g5_0 (And.intro g5_3 (And.intro g5_4 (And.intro g5_5 (And.intro g5_9 (And.intro g5_17 (And.intro g5_18 g5_19))))))
    refine cv_seq_k fun K hK => ?_
    refine cv_cut (fun _ _ => True) (fun F' L' => F' 0 = G5 0 ∧ F' 3 = G5 3 ∧ F' 4 = G5 4 ∧ F' 5 = G5 5 ∧ F' 9 = G5 9 ∧ F' 17 = G5 17 ∧ F' 18 = G5 18 ∧ F' 19 = G5 19 ∧ L' = .blk b9 43 [.int .u64 (r.h : Int), .int .i64 r.ow, .int .i64 0, .int .i64 0, .slice none 0 0, .slice r.A r.n r.c] :: .blk b5 48 [.int .i64 0, .int .i64 (cntO (rps.take (j + 1)) p : Int), .int .i64 (cntB (rps.take j) p : Int), .int .i64 0, .int .i64 0] :: .blk b4 48 [.int .i64 0, .int .i64 0, .int .i64 0, .int .i64 0, .int .i64 0] :: .blk b3 3 [.int .i64 p] :: .row (.slice (some ⟨g, 0, none⟩) ln lc) 43 6 ln (roCells ros) :: ros.map roRow) ?_ ?_
    · refine cv_seq_k fun K hK => ?_
      refine cv_region_then rfl ?_
      simp -implicitDefEqProofs (disch := first | omega | decide) only [seval, -Int.reducePow, -Nat.reducePow, cC, pv, binv, sHjV1, undef, g3, g4, g5]
      refine hK _ _ ?_
      clear hK K
      refine cv_cond ?_
      by_cases h1 : r.ow = p
      · have d1 : decide (r.ow = p) = true := decide_eq_true h1
        rw [if_pos h1] at ho1
        simp -implicitDefEqProofs (disch := first | omega | decide) only [seval, -Int.reducePow, -Nat.reducePow, cC, pv, binv, sHjV1, undef, d1, g3, g4, g5]
        refine cv_region_q rfl ?_
        simp -implicitDefEqProofs (disch := first | omega | decide) only [seval, -Int.reducePow, -Nat.reducePow, cC, pv, binv, sHjV1, undef, ho1, Int.natCast_add, g3, g4, g5]
      · rw [if_neg h1] at ho1
        simp -implicitDefEqProofs (disch := first | omega | decide) only [seval, -Int.reducePow, -Nat.reducePow, cC, pv, binv, sHjV1, undef, h1, g3, g4, g5]
        refine cv_skip ?_
        try simp only [blockQ, thenQ]
        simp -implicitDefEqProofs (disch := first | omega | decide) only [seval, -Int.reducePow, -Nat.reducePow, cC, pv, binv, sHjV1, undef, ho1, Nat.add_zero, g3, g4, g5]
    intro G6 L' _ hF
    obtain ⟨q0, q3, q4, q5, q9, q17, q18, q19, rfl⟩ := hF
    have g6_0 := q0.trans g5_0
    have g6_3 := q3.trans g5_3
    have g6_4 := q4.trans g5_4
    have g6_5 := q5.trans g5_5
    have g6_9 := q9.trans g5_9
    have g6_17 := q17.trans g5_17
    have g6_18 := q18.trans g5_18
    have g6_19 := q19.trans g5_19
    clear q0 q3 q4 q5 q9 q17 q18 q19
    have g6 := And.intro g6_0 (And.intro g6_3 (And.intro g6_4 (And.intro g6_5 (And.intro g6_9 (And.intro g6_17 (And.intro g6_18 g6_19))))))
    refine hK _ _ ?_
    clear hK K
    refine cv_seq_k fun K hK => ?_
    refine cv_region_then rfl ?_
    simp -implicitDefEqProofs (disch := first | omega | decide) only [seval, -Int.reducePow, -Nat.reducePow, cC, pv, binv, sHjV1, undef, g3, g4, g6]
    refine xv_funcH ?_
    simp -implicitDefEqProofs (disch := first | omega | decide) only [seval, -Int.reducePow, -Nat.reducePow, cC, pv, binv, sHjV1, undef, g3, g4, g6]
    refine callV_ret (fun w hw => hContains_any (Sl.of_row hw (.tail _ (.tail _ (.tail _ (.tail _ (.tail _ (List.mem_map.2 ⟨r, hm1, rfl⟩))))))) (by have := (Sl.of_row hw (.tail _ (.tail _ (.tail _ (.tail _ (.tail _ (List.mem_map.2 ⟨r, hm1, rfl⟩))))))).len; rw [bwCells_len] at this; have h8 : r.bs.length = r.pl.bs.length := rfl; omega) (Sl.cell1 (by rw [hw.blk_cell (nth_mem (k := 3) rfl)]; rfl) (hw.own _ (nth_mem (k := 3) rfl) b3 (by simp [Res.foot])).2)) ?_
    simp -implicitDefEqProofs (disch := first | omega | decide) only [seval, -Int.reducePow, -Nat.reducePow, cC, pv, binv, sHjV1, undef, g3, g4, g6]
    refine hK _ _ ?_
    clear hK K
    refine cv_cond ?_
    have hany : (r.bs.any fun b => decide (b.ho = p)) = hasHo p r.pl := rfl
    rw [hany]
    cases hh : hasHo p r.pl with
    | true =>
      rw [hh, if_pos rfl] at hb1
      simp -implicitDefEqProofs (disch := first | omega | decide) only [seval, -Int.reducePow, -Nat.reducePow, cC, pv, binv, sHjV1, undef, g3, g4, g6]
      refine cv_region_q rfl ?_
      simp -implicitDefEqProofs (disch := first | omega | decide) only [seval, -Int.reducePow, -Nat.reducePow, cC, pv, binv, sHjV1, undef, g3, g4, g6]
      refine hK _ _ ?_
      clear hK K
      refine cv_sub (.blk b5 48 [.int .i64 0, .int .i64 (cntO (rps.take (j + 1)) p : Int), .int .i64 ((cntB (rps.take j) p : Int) + 1), .int .i64 0, .int .i64 0] :: .blk b4 48 [.int .i64 0, .int .i64 0, .int .i64 0, .int .i64 0, .int .i64 0] :: .blk b3 3 [.int .i64 p] :: .row (.slice (some ⟨g, 0, none⟩) ln lc) 43 6 ln (roCells ros) :: ros.map roRow) (fun w hw => hw.tail) ?_
      refine cv_region_then rfl ?_
      simp -implicitDefEqProofs (disch := first | omega | decide) only [seval, -Int.reducePow, -Nat.reducePow, cC, pv, binv, sHjV1, undef, g3, g4, g6]
      refine ⟨⟨j + 1, ?_⟩, ?_⟩
      · simp -implicitDefEqProofs (disch := first | omega | decide) only [seval, -Int.reducePow, -Nat.reducePow, cC, pv, binv, sHjV1, undef, hb1, Int.natCast_add, g3, g4, g6]
        omega
      · simp only [intOf]; omega
    | false =>
      rw [hh, if_neg (by decide)] at hb1
      simp -implicitDefEqProofs (disch := first | omega | decide) only [seval, -Int.reducePow, -Nat.reducePow, cC, pv, binv, sHjV1, undef, g3, g4, g6]
      refine cv_skip ?_
      try simp only [blockQ, thenQ]
      refine hK _ _ ?_
      clear hK K
      refine cv_sub (.blk b5 48 [.int .i64 0, .int .i64 (cntO (rps.take (j + 1)) p : Int), .int .i64 (cntB (rps.take j) p : Int), .int .i64 0, .int .i64 0] :: .blk b4 48 [.int .i64 0, .int .i64 0, .int .i64 0, .int .i64 0, .int .i64 0] :: .blk b3 3 [.int .i64 p] :: .row (.slice (some ⟨g, 0, none⟩) ln lc) 43 6 ln (roCells ros) :: ros.map roRow) (fun w hw => hw.tail) ?_
      refine cv_region_then rfl ?_
      simp -implicitDefEqProofs (disch := first | omega | decide) only [seval, -Int.reducePow, -Nat.reducePow, cC, pv, binv, sHjV1, undef, g3, g4, g6]
      refine ⟨⟨j + 1, ?_⟩, ?_⟩
      · simp -implicitDefEqProofs (disch := first | omega | decide) only [seval, -Int.reducePow, -Nat.reducePow, cC, pv, binv, sHjV1, undef, hb1, Int.natCast_add, Nat.add_zero, g3, g4, g6]
        omega
      · simp only [intOf]; omega
  refine cv_exit ?_
  simp only [blockQ, thenQ, if_true, ite_true]
  clear hK K
  refine hK _ _ ?_
  clear hK K
  have hjn : j = ln := by have := of_decide_eq_false ‹decide ((j : Int) < (ln : Int)) = false›; omega
  subst hjn
  have hfull : rps.take j = rps := List.take_of_length_le (by omega)
  rw [hfull]
  refine cv_sub [.blk b5 48 [.int .i64 0, .int .i64 (cntO rps p : Int), .int .i64 (cntB rps p : Int), .int .i64 0, .int .i64 0], .blk b4 48 [.int .i64 0, .int .i64 0, .int .i64 0, .int .i64 0, .int .i64 0], .blk b3 3 [.int .i64 p]] (fun w hw => hw.sub (.cons_cons _ (.cons_cons _ (.cons_cons _ (List.nil_sublist _))))) ?_
  refine cv_seq_k fun K hK => ?_
  refine cv_seq_k fun K hK => ?_
  refine cv_region_then rfl ?_
  simp -implicitDefEqProofs (disch := first | omega | decide) only [seval, -Int.reducePow, -Nat.reducePow, cC, pv, binv, sHjV1, undef, g3, g4]
  refine hK _ _ ?_
  clear hK K
  refine cv_gen fun G7 hG => ?_
  have g7_3 := congrFun hG 3
  have g7_4 := congrFun hG 4
  have g7_5 := congrFun hG 5
  have g7_40 := congrFun hG 40
  have g7_41 := congrFun hG 41
  have g7_42 := congrFun hG 42
  clear hG
  try simp -implicitDefEqProofs (disch := first | omega | decide) only [seval, -Int.reducePow, -Nat.reducePow, cC, pv, binv, sHjV1, undef, g3, g4] at g7_3 g7_4 g7_5 g7_40 g7_41 g7_42
  have g7 := And.intro g7_3 (And.intro g7_4 (And.intro g7_5 (And.intro g7_40 (And.intro g7_41 g7_42))))
  refine cv_block ?_
  refine cv_loop (fun F' L' => ∃ (i : Nat), F' 3 = G7 3 ∧ F' 4 = G7 4 ∧ F' 5 = G7 5 ∧ F' 40 = G7 40 ∧ F' 41 = G7 41 ∧ F' 42 = .int .i64 (i : Int) ∧ L' = [.blk b5 48 [.int .i64 0, .int .i64 (cntO rps p : Int), .int .i64 (cntB rps p : Int), .int .i64 (cntR (es.take i) p : Int), .int .i64 0], .blk b4 48 [.int .i64 0, .int .i64 0, .int .i64 0, .int .i64 0, .int .i64 0], .blk b3 3 [.int .i64 p]] ∧ i ≤ n) (fun F' L' => 2000 - (intOf (F' 42)).toNat) ?_ ?_
  · refine ⟨0, ?_⟩
    simp -implicitDefEqProofs (disch := first | omega | decide) only [seval, -Int.reducePow, -Nat.reducePow, cC, pv, binv, sHjV1, undef, g3, g4, g7]
    exact ⟨rfl, Nat.zero_le _⟩
  intro G8 L' hI
  obtain ⟨i, q3, q4, q5, q40, q41, q42, rfl, hi⟩ := hI
  have g8_3 := q3.trans g7_3
  have g8_4 := q4.trans g7_4
  have g8_5 := q5.trans g7_5
  have g8_40 := q40.trans g7_40
  have g8_41 := q41.trans g7_41
  have g8_42 := q42
  clear q3 q4 q5 q40 q41 q42
  have g8 := And.intro g8_3 (And.intro g8_4 (And.intro g8_5 (And.intro g8_40 (And.intro g8_41 g8_42))))
  refine cv_seq_k fun K hK => ?_
  refine cv_region_then rfl ?_
  simp -implicitDefEqProofs (disch := first | omega | decide) only [seval, -Int.reducePow, -Nat.reducePow, cC, pv, binv, sHjV1, undef, g3, g4, g7, g8]
  refine hK _ _ ?_
  clear hK K
  refine cv_seq_k fun K hK => ?_
  refine cv_cond ?_
  simp -implicitDefEqProofs (disch := first | omega | decide) only [seval, -Int.reducePow, -Nat.reducePow, cC, pv, binv, sHjV1, undef, g3, g4, g7, g8]
  refine ⟨fun hc => ?_, fun hc => ?_⟩
  · refine cv_skip ?_
    try simp only [blockQ, thenQ]
    have hit : i < n := by have := of_decide_eq_true ‹decide ((i : Int) < (n : Int)) = true›; omega
    obtain ⟨e, he⟩ : ∃ e, es[i]? = some e := ⟨_, List.getElem?_eq_getElem (by omega)⟩
    have hld := flAt evc_len he
    have hr1 : cntR (es.take (i + 1)) p = cntR (es.take i) p + if recP p e = true then 1 else 0 := filter_snoc_len he (recP p)
    have hcR : cntR (es.take i) p ≤ i := filter_take_le ..
    obtain ⟨bA, oA, rfl, hbA, -⟩ := hE.cells (by omega)
    refine hK _ _ ?_
    clear hK K
    refine cv_seq_k fun K hK => ?_
    refine cv_block ?_
    refine cv_seq_k fun K hK => ?_
    refine cv_region_then rfl ?_
    simp -implicitDefEqProofs (disch := first | omega | decide) only [seval, -Int.reducePow, -Nat.reducePow, cC, pv, binv, sHjV1, undef, g3, g4, g7, g8]
    refine ⟨_, hE.ld (i := i * 5) (vs := evc e) (by omega) (by kernel_rfl) hld, fun tok htok => ?_⟩
    subst htok
    simp -implicitDefEqProofs (disch := first | omega | decide) only [seval, -Int.reducePow, -Nat.reducePow, cC, pv, binv, sHjV1, undef, g3, g4, g7, g8]
    simp only [evc, List.length_cons, List.length_nil, true_and]
    simp -implicitDefEqProofs (disch := first | omega | decide) only [seval, -Int.reducePow, -Nat.reducePow, cC, pv, binv, sHjV1, undef, g3, g4, g7, g8]
    intro b11 hb11 hf11
    refine hK _ _ ?_
    clear hK K
    refine cv_gen fun G9 hG => ?_
    have g9_3 := congrFun hG 3
    have g9_4 := congrFun hG 4
    have g9_5 := congrFun hG 5
    have g9_11 := congrFun hG 11
    have g9_40 := congrFun hG 40
    have g9_41 := congrFun hG 41
    have g9_42 := congrFun hG 42
    clear hG
    try simp -implicitDefEqProofs (disch := first | omega | decide) only [seval, -Int.reducePow, -Nat.reducePow, cC, pv, binv, sHjV1, undef, g3, g4, g7, g8] at g9_3 g9_4 g9_5 g9_11 g9_40 g9_41 g9_42
    have g9 := And.intro g9_3 (And.intro g9_4 (And.intro g9_5 (And.intro g9_11 (And.intro g9_40 (And.intro g9_41 g9_42)))))
    refine cv_seq_k fun K hK => ?_
    refine cv_cut (fun _ _ => True) (fun F' L' => F' 3 = G9 3 ∧ F' 4 = G9 4 ∧ F' 5 = G9 5 ∧ F' 40 = G9 40 ∧ F' 41 = G9 41 ∧ F' 42 = G9 42 ∧ F' 59 = .bool (recP p e) ∧ L' = [.blk b11 37 [.int .i64 e.pl, .int .i64 e.op, .int .u64 (e.h : Int), .int .u64 (e.ar : Int), .int .i64 e.er], .blk b5 48 [.int .i64 0, .int .i64 (cntO rps p : Int), .int .i64 (cntB rps p : Int), .int .i64 (cntR (es.take i) p : Int), .int .i64 0], .blk b4 48 [.int .i64 0, .int .i64 0, .int .i64 0, .int .i64 0, .int .i64 0], .blk b3 3 [.int .i64 p]]) ?_ ?_
    · unfold recP
      by_cases h1 : e.pl = p
      · have d1 : decide (e.pl = p) = true := decide_eq_true h1
        by_cases h2 : e.op = 32
        · have d2 : decide (e.op = 32) = true := decide_eq_true h2
          refine cv_region_then rfl ?_
          simp -implicitDefEqProofs (disch := first | omega | decide) only [seval, -Int.reducePow, -Nat.reducePow, cC, pv, binv, sHjV1, undef, d1, d2, g3, g4, g7, g8, g9]
        · by_cases h3 : e.op = 33
          · have d3 : decide (e.op = 33) = true := decide_eq_true h3
            refine cv_region_then rfl ?_
            simp -implicitDefEqProofs (disch := first | omega | decide) only [seval, -Int.reducePow, -Nat.reducePow, cC, pv, binv, sHjV1, undef, d1, h2, d3, g3, g4, g7, g8, g9]
          · refine cv_region_then rfl ?_
            simp -implicitDefEqProofs (disch := first | omega | decide) only [seval, -Int.reducePow, -Nat.reducePow, cC, pv, binv, sHjV1, undef, d1, h2, h3, g3, g4, g7, g8, g9]
      · refine cv_region_then rfl ?_
        simp -implicitDefEqProofs (disch := first | omega | decide) only [seval, -Int.reducePow, -Nat.reducePow, cC, pv, binv, sHjV1, undef, h1, g3, g4, g7, g8, g9]
    intro G10 L' _ hF
    obtain ⟨q3, q4, q5, q40, q41, q42, q59, rfl⟩ := hF
    have g10_3 := q3.trans g9_3
    have g10_4 := q4.trans g9_4
    have g10_5 := q5.trans g9_5
    have g10_40 := q40.trans g9_40
    have g10_41 := q41.trans g9_41
    have g10_42 := q42.trans g9_42
    have g10_59 := q59
    clear q3 q4 q5 q40 q41 q42 q59
    have g10 := And.intro g10_3 (And.intro g10_4 (And.intro g10_5 (And.intro g10_40 (And.intro g10_41 (And.intro g10_42 g10_59)))))
    refine hK _ _ ?_
    clear hK K
    refine cv_cond ?_
    cases hh : recP p e with
    | true =>
      rw [hh, if_pos rfl] at hr1
      simp -implicitDefEqProofs (disch := first | omega | decide) only [seval, -Int.reducePow, -Nat.reducePow, cC, pv, binv, sHjV1, undef, hh, g3, g4, g7, g8, g10]
      refine cv_region_q rfl ?_
      simp -implicitDefEqProofs (disch := first | omega | decide) only [seval, -Int.reducePow, -Nat.reducePow, cC, pv, binv, sHjV1, undef, g3, g4, g7, g8, g10]
      refine hK _ _ ?_
      clear hK K
      refine cv_pick [1, 2, 3] (by decide) ?_
      simp only [pickL, nth]
      refine cv_region_then rfl ?_
      simp -implicitDefEqProofs (disch := first | omega | decide) only [seval, -Int.reducePow, -Nat.reducePow, cC, pv, binv, sHjV1, undef, g3, g4, g7, g8, g10]
      refine ⟨⟨i + 1, ?_⟩, ?_⟩
      · simp -implicitDefEqProofs (disch := first | omega | decide) only [seval, -Int.reducePow, -Nat.reducePow, cC, pv, binv, sHjV1, undef, hr1, Int.natCast_add, g3, g4, g7, g8, g10]
        omega
      · simp only [intOf]; omega
    | false =>
      rw [hh, if_neg (by decide)] at hr1
      simp -implicitDefEqProofs (disch := first | omega | decide) only [seval, -Int.reducePow, -Nat.reducePow, cC, pv, binv, sHjV1, undef, hh, g3, g4, g7, g8, g10]
      refine cv_skip ?_
      try simp only [blockQ, thenQ]
      refine hK _ _ ?_
      clear hK K
      refine cv_pick [1, 2, 3] (by decide) ?_
      simp only [pickL, nth]
      refine cv_region_then rfl ?_
      simp -implicitDefEqProofs (disch := first | omega | decide) only [seval, -Int.reducePow, -Nat.reducePow, cC, pv, binv, sHjV1, undef, g3, g4, g7, g8, g10]
      refine ⟨⟨i + 1, ?_⟩, ?_⟩
      · simp -implicitDefEqProofs (disch := first | omega | decide) only [seval, -Int.reducePow, -Nat.reducePow, cC, pv, binv, sHjV1, undef, hr1, Int.natCast_add, Nat.add_zero, g3, g4, g7, g8, g10]
        omega
      · simp only [intOf]; omega
  refine cv_exit ?_
  simp only [blockQ, thenQ, if_true, ite_true]
  clear hK K
  refine hK _ _ ?_
  clear hK K
  have hin : i = n := by have := of_decide_eq_false ‹decide ((i : Int) < (n : Int)) = false›; omega
  subst hin
  have hfull2 : es.take i = es := List.take_of_length_le (by omega)
  rw [hfull2]
  refine cv_seq_k fun K hK => ?_
  refine cv_region_then rfl ?_
  simp -implicitDefEqProofs (disch := first | omega | decide) only [seval, -Int.reducePow, -Nat.reducePow, cC, pv, binv, sHjV1, undef, g3, g4, g7, g8]
  refine hK _ _ ?_
  clear hK K
  refine cv_ret ?_
  simp -implicitDefEqProofs (disch := first | omega | decide) only [seval, -Int.reducePow, -Nat.reducePow, cC, pv, binv, sHjV1, undef, retQ2, ressV, packV, g3, g4, g7, g8]
  intro w hw
  exact ⟨by rw [hav], hw.below⟩
end Go.Proofs.Ytaifnipgefkemaa
/- What a plugin has: the reference's Activity. -/
namespace Go.Proofs.Ytaifnipgefkemaa
open Go.RowKit Go.Shelf
set_option linter.unusedVariables false
set_option linter.unusedSimpArgs false
set_option maxRecDepth 100000
theorem srt_bs {o : Ob} (hn : (keys o.cs).Nodup) : ((srtL o.cs).map (bwO o)).Pairwise fun a b => a.ho < b.ho := by
  rw [List.pairwise_map]
  have h1 := srtL_srt hn
  unfold Srt keys at h1
  rw [List.pairwise_map] at h1
  exact h1
theorem filter_one {l : List Bw} (h : l.Pairwise fun a b => a.ho < b.ho) (p : Int) : (l.filter fun b => decide (b.ho = p)).length = if (l.any fun b => decide (b.ho = p)) = true then 1 else 0 := by
  have h1 := h.sublist (List.filter_sublist (p := fun b => decide (b.ho = p)))
  cases hf : l.filter (fun b => decide (b.ho = p)) with
  | nil =>
    have : ¬ (l.any fun b => decide (b.ho = p)) = true := fun ha => by
      obtain ⟨b, hb, hb2⟩ := List.any_eq_true.1 ha
      have : b ∈ l.filter (fun b => decide (b.ho = p)) := List.mem_filter.2 ⟨hb, hb2⟩
      rw [hf] at this
      cases this
    rw [if_neg this]
    rfl
  | cons a t =>
    have ha := List.mem_filter.1 (show a ∈ l.filter (fun b => decide (b.ho = p)) by rw [hf]; exact .head _)
    have : (l.any fun b => decide (b.ho = p)) = true := List.any_eq_true.2 ⟨a, ha⟩
    rw [if_pos this]
    cases t with
    | nil => rfl
    | cons b t =>
      have hb := List.mem_filter.1 (show b ∈ l.filter (fun b => decide (b.ho = p)) by rw [hf]; exact .tail _ (.head _))
      rw [hf] at h1
      have hab := (List.pairwise_cons.1 h1).1 b (.head _)
      have e1 : a.ho = p := by simpa using ha.2
      have e2 : b.ho = p := by simpa using hb.2
      omega
theorem held_cnt (p : Int) : ∀ l : List RP, (∀ r ∈ l, r.bs.Pairwise fun a b => a.ho < b.ho) → heldB (l.flatMap RP.bs) p = cntB l p
  | [], _ => rfl
  | r :: l, h => by
    have ih := held_cnt p l fun r hr => h r (.tail _ hr)
    have h1 := filter_one (h r (.head _)) p
    unfold heldB at ih ⊢
    unfold cntB at ih ⊢
    rw [List.flatMap_cons, List.filter_append, List.length_append, ih, h1, List.filter_cons]
    have e : hasHo p r = r.bs.any fun b => decide (b.ho = p) := rfl
    rw [← e]
    by_cases hh : hasHo p r = true
    · rw [if_pos hh, if_pos hh, List.length_cons]; omega
    · rw [if_neg hh, if_neg hh]; omega
theorem RelB.held {k : Nat} {s : HS} {x : BkR} (h : RelB k s x) (hI : HInv k s) (p : Int) : heldB x.E p = cntB (outL s) p := by
  have hob : ∀ q ∈ srtL s.os, ObOk k q := fun q hq => hI.obj q ((srtL_perm hI.nd).mem_iff.1 hq)
  have hE : x.E = (outL s).flatMap RP.bs := by
    refine pw_ext (R := fun a b => ltB a b = true) ltB_as h.eS ?_ fun b => ?_
    · unfold outL
      rw [List.flatMap_map, List.pairwise_flatMap]
      refine ⟨fun q hq => List.Pairwise.imp ?_ (List.Pairwise.and (srt_bs (hob q hq).nd) (show ((srtL q.2.cs).map (bwO q.2)).Pairwise fun a b => a.ob = b.ob from by rw [List.pairwise_map]; exact List.pairwise_of_forall fun _ _ => rfl)), ?_⟩
      · intro a b hab
        exact ltB_iff.2 (.inr ⟨hab.2, hab.1⟩)
      · have h1 := srtL_srt hI.nd
        unfold Srt keys at h1
        rw [List.pairwise_map] at h1
        refine h1.imp_of_mem fun {a b} ha hb hab x hx y hy => ?_
        obtain ⟨c, -, rfl⟩ := List.mem_map.1 hx
        obtain ⟨d, -, rfl⟩ := List.mem_map.1 hy
        have h2 := (hob a ha).slot
        have h3 := (hob b hb).slot
        refine ltB_iff.2 (.inl ?_)
        unfold bwO
        simp only
        omega
    · rw [h.eM b, List.mem_flatMap]
      constructor
      · rintro ⟨o, g1, g2, g3⟩
        have hq := (mem_srtL hI.nd (q := (b.ob, o))).2 g1
        refine ⟨outO o, List.mem_map.2 ⟨(b.ob, o), hq, rfl⟩, List.mem_map.2 ⟨(b.ho, b.co), (mem_srtL (hob _ hq).nd).2 g2, ?_⟩⟩
        have h2 := (hob _ hq).slot
        simp only at h2
        unfold bwO
        rw [← h2]
        simp only [← g3]
      · rintro ⟨r, hr, hb⟩
        obtain ⟨q, hq, rfl⟩ := List.mem_map.1 hr
        obtain ⟨c, hc, rfl⟩ := List.mem_map.1 hb
        have h2 := (hob q hq).slot
        refine ⟨q.2, ?_, (mem_srtL (hob q hq).nd).1 hc, rfl⟩
        unfold bwO
        simp only
        rw [← h2]
        exact (mem_srtL hI.nd).1 hq
  rw [hE]
  refine held_cnt p _ fun r hr => ?_
  obtain ⟨q, hq, rfl⟩ := List.mem_map.1 hr
  exact srt_bs (hob q hq).nd
set_option maxRecDepth 100000 in
theorem sHjW1 : type_of% (And.intro (And.intro (And.intro @Nat.mul_one @wrap_in) (And.intro @cMv (And.intro @cM @suf_o3))) (And.intro (And.intro @suf_o4 @suf_o5) (And.intro @suf_o6 (And.intro @suf_o7 @look_ros)))) := (And.intro (And.intro (And.intro @Nat.mul_one @wrap_in) (And.intro @cMv (And.intro @cM @suf_o3))) (And.intro (And.intro @suf_o4 @suf_o5) (And.intro @suf_o6 (And.intro @suf_o7 @look_ros))))
set_option maxHeartbeats 4000000 in
theorem rActivity_any (A : Option Addr) (n c : Nat) (es : List EvR) (p : Int) (W : World) (hE : Sl W W.heap.size 5 A n c (evCells es)) (hok : ∀ e ∈ es, e.ok) (hn : n ≤ 900) :
    Calls Try.prog 12 #[.slice A n c, .int .i64 p] W fun e w' => e = .returned (actV es p) ∧ Below W.heap.size W w' := by
  have hlen : es.length = n := by
    have := hE.len
    unfold evCells at this
    rw [flLen evc_len] at this
    omega
  refine calls_cv2 (M := []) (n := 81) [.cell 4 48] rfl Try.func12 rfl rfl (Nat.le_of_ble_eq_true rfl) (St.nil _ _) ?_
  refine cv_seq_k fun K hK => ?_
  refine cv_region_then rfl ?_
  simp -implicitDefEqProofs (disch := first | omega | decide) only [seval, -Int.reducePow, -Nat.reducePow, cC, pv, binv, sHjW1, undef]
  intro b4 hb4
  refine hK _ _ ?_
  clear hK K
  refine cv_seq_k fun K hK => ?_
  refine cv_region_then rfl ?_
  simp -implicitDefEqProofs (disch := first | omega | decide) only [seval, -Int.reducePow, -Nat.reducePow, cC, pv, binv, sHjW1, undef]
  intro b5 hb5 hf5
  refine hK _ _ ?_
  clear hK K
  refine cv_seq_k fun K hK => ?_
  refine cv_seq_k fun K hK => ?_
  refine cv_region_then rfl ?_
  simp -implicitDefEqProofs (disch := first | omega | decide) only [seval, -Int.reducePow, -Nat.reducePow, cC, pv, binv, sHjW1, undef]
  refine hK _ _ ?_
  clear hK K
  refine cv_gen fun G1 hG => ?_
  have g1_0 := congrFun hG 0
  have g1_1 := congrFun hG 1
  have g1_4 := congrFun hG 4
  have g1_5 := congrFun hG 5
  have g1_6 := congrFun hG 6
  clear hG
  try simp -implicitDefEqProofs (disch := first | omega | decide) only [seval, -Int.reducePow, -Nat.reducePow, cC, pv, binv, sHjW1, undef] at g1_0 g1_1 g1_4 g1_5 g1_6
  have g1 := And.intro g1_0 (And.intro g1_1 (And.intro g1_4 (And.intro g1_5 g1_6)))
  refine cv_block ?_
  refine cv_loop (fun F' L' => ∃ (i : Nat), F' 0 = G1 0 ∧ F' 1 = G1 1 ∧ F' 4 = G1 4 ∧ F' 5 = G1 5 ∧ F' 6 = .int .i64 (i : Int) ∧ L' = [.blk b5 48 [.int .i64 0, .int .i64 0, .int .i64 0, .int .i64 (cntR (es.take i) p : Int), .int .i64 0], .blk b4 48 [.int .i64 0, .int .i64 0, .int .i64 0, .int .i64 0, .int .i64 0]] ∧ i ≤ n) (fun F' L' => 2000 - (intOf (F' 6)).toNat) ?_ ?_
  · refine ⟨0, ?_⟩
    simp -implicitDefEqProofs (disch := first | omega | decide) only [seval, -Int.reducePow, -Nat.reducePow, cC, pv, binv, sHjW1, undef, g1]
    exact ⟨rfl, Nat.zero_le _⟩
  intro G2 L' hI
  obtain ⟨i, q0, q1, q4, q5, q6, rfl, hi⟩ := hI
  have g2_0 := q0.trans g1_0
  have g2_1 := q1.trans g1_1
  have g2_4 := q4.trans g1_4
  have g2_5 := q5.trans g1_5
  have g2_6 := q6
  clear q0 q1 q4 q5 q6
  have g2 := And.intro g2_0 (And.intro g2_1 (And.intro g2_4 (And.intro g2_5 g2_6)))
  refine cv_seq_k fun K hK => ?_
  refine cv_seq_k fun K hK => ?_
  refine cv_region_then rfl ?_
  simp -implicitDefEqProofs (disch := first | omega | decide) only [seval, -Int.reducePow, -Nat.reducePow, cC, pv, binv, sHjW1, undef, g1, g2]
  refine hK _ _ ?_
  clear hK K
  refine cv_cond ?_
  simp -implicitDefEqProofs (disch := first | omega | decide) only [seval, -Int.reducePow, -Nat.reducePow, cC, pv, binv, sHjW1, undef, g1, g2]
  refine ⟨fun hc => ?_, fun hc => ?_⟩
  · refine cv_skip ?_
    try simp only [blockQ, thenQ]
    have hit : i < n := by have := of_decide_eq_true ‹decide ((i : Int) < (n : Int)) = true›; omega
    obtain ⟨e, he⟩ : ∃ e, es[i]? = some e := ⟨_, List.getElem?_eq_getElem (by omega)⟩
    have hr1 : cntR (es.take (i + 1)) p = cntR (es.take i) p + if recP p e = true then 1 else 0 := filter_snoc_len he (recP p)
    have hcR : cntR (es.take i) p ≤ i := filter_take_le ..
    obtain ⟨bA, oA, rfl, hbA, -⟩ := hE.cells (by omega)
    refine hK _ _ ?_
    clear hK K
    refine cv_seq_k fun K hK => ?_
    refine cv_block ?_
    refine cv_seq_k fun K hK => ?_
    refine cv_cut (fun _ _ => True) (fun F' L' => F' 0 = G2 0 ∧ F' 1 = G2 1 ∧ F' 4 = G2 4 ∧ F' 5 = G2 5 ∧ F' 6 = G2 6 ∧ F' 38 = .bool (recP p e) ∧ L' = [.blk b5 48 [.int .i64 0, .int .i64 0, .int .i64 0, .int .i64 (cntR (es.take i) p : Int), .int .i64 0], .blk b4 48 [.int .i64 0, .int .i64 0, .int .i64 0, .int .i64 0, .int .i64 0]]) ?_ ?_
    · unfold recP
      refine cv_region_then rfl ?_
      simp -implicitDefEqProofs (disch := first | omega | decide) only [seval, -Int.reducePow, -Nat.reducePow, cC, pv, binv, sHjW1, undef, g1, g2]
      refine ⟨_, hE.ld1 (m := 1) (i := i * 5 + 0) (by kernel_rfl) (flGet evc_len he (by omega)), fun tok htok => ?_⟩
      subst htok
      simp -implicitDefEqProofs (disch := first | omega | decide) only [seval, -Int.reducePow, -Nat.reducePow, cC, pv, binv, sHjW1, undef, g1, g2]
      by_cases h1 : e.pl = p
      · have d1 : decide (e.pl = p) = true := decide_eq_true h1
        simp -implicitDefEqProofs (disch := first | omega | decide) only [seval, -Int.reducePow, -Nat.reducePow, cC, pv, binv, sHjW1, undef, d1, g1, g2]
        refine ⟨_, hE.ld1 (m := 1) (i := i * 5 + 1) (by kernel_rfl) (flGet evc_len he (by omega)), fun tok htok => ?_⟩
        subst htok
        simp -implicitDefEqProofs (disch := first | omega | decide) only [seval, -Int.reducePow, -Nat.reducePow, cC, pv, binv, sHjW1, undef, d1, g1, g2]
        by_cases h2 : e.op = 32
        · have d2 : decide (e.op = 32) = true := decide_eq_true h2
          simp -implicitDefEqProofs (disch := first | omega | decide) only [seval, -Int.reducePow, -Nat.reducePow, cC, pv, binv, sHjW1, undef, d1, d2, g1, g2]
        · simp -implicitDefEqProofs (disch := first | omega | decide) only [seval, -Int.reducePow, -Nat.reducePow, cC, pv, binv, sHjW1, undef, d1, h2, g1, g2]
          refine ⟨_, hE.ld1 (m := 1) (i := i * 5 + 1) (by kernel_rfl) (flGet evc_len he (by omega)), fun tok htok => ?_⟩
          subst htok
          simp -implicitDefEqProofs (disch := first | omega | decide) only [seval, -Int.reducePow, -Nat.reducePow, cC, pv, binv, sHjW1, undef, d1, h2, g1, g2]
      · simp -implicitDefEqProofs (disch := first | omega | decide) only [seval, -Int.reducePow, -Nat.reducePow, cC, pv, binv, sHjW1, undef, h1, g1, g2]
    intro G3 L' _ hF
    obtain ⟨q0, q1, q4, q5, q6, q38, rfl⟩ := hF
    have g3_0 := q0.trans g2_0
    have g3_1 := q1.trans g2_1
    have g3_4 := q4.trans g2_4
    have g3_5 := q5.trans g2_5
    have g3_6 := q6.trans g2_6
    have g3_38 := q38
    clear q0 q1 q4 q5 q6 q38
    have g3 := And.intro g3_0 (And.intro g3_1 (And.intro g3_4 (And.intro g3_5 (And.intro g3_6 g3_38))))
    refine hK _ _ ?_
    clear hK K
    refine cv_cond ?_
    cases hh : recP p e with
    | true =>
      rw [hh, if_pos rfl] at hr1
      simp -implicitDefEqProofs (disch := first | omega | decide) only [seval, -Int.reducePow, -Nat.reducePow, cC, pv, binv, sHjW1, undef, hh, g1, g2, g3]
      refine cv_region_q rfl ?_
      simp -implicitDefEqProofs (disch := first | omega | decide) only [seval, -Int.reducePow, -Nat.reducePow, cC, pv, binv, sHjW1, undef, g1, g2, g3]
      refine hK _ _ ?_
      clear hK K
      refine cv_region_then rfl ?_
      simp -implicitDefEqProofs (disch := first | omega | decide) only [seval, -Int.reducePow, -Nat.reducePow, cC, pv, binv, sHjW1, undef, g1, g2, g3]
      refine ⟨⟨i + 1, ?_⟩, ?_⟩
      · simp -implicitDefEqProofs (disch := first | omega | decide) only [seval, -Int.reducePow, -Nat.reducePow, cC, pv, binv, sHjW1, undef, hr1, Int.natCast_add, g1, g2, g3]
        omega
      · simp only [intOf]; omega
    | false =>
      rw [hh, if_neg (by decide)] at hr1
      simp -implicitDefEqProofs (disch := first | omega | decide) only [seval, -Int.reducePow, -Nat.reducePow, cC, pv, binv, sHjW1, undef, hh, g1, g2, g3]
      refine cv_skip ?_
      try simp only [blockQ, thenQ]
      refine hK _ _ ?_
      clear hK K
      refine cv_region_then rfl ?_
      simp -implicitDefEqProofs (disch := first | omega | decide) only [seval, -Int.reducePow, -Nat.reducePow, cC, pv, binv, sHjW1, undef, g1, g2, g3]
      refine ⟨⟨i + 1, ?_⟩, ?_⟩
      · simp -implicitDefEqProofs (disch := first | omega | decide) only [seval, -Int.reducePow, -Nat.reducePow, cC, pv, binv, sHjW1, undef, hr1, Int.natCast_add, Nat.add_zero, g1, g2, g3]
        omega
      · simp only [intOf]; omega
  refine cv_exit ?_
  simp only [blockQ, thenQ, if_true, ite_true]
  clear hK K
  refine hK _ _ ?_
  clear hK K
  have hin : i = n := by have := of_decide_eq_false ‹decide ((i : Int) < (n : Int)) = false›; omega
  subst hin
  have hfull2 : es.take i = es := List.take_of_length_le (by omega)
  rw [hfull2]
  refine cv_seq_k fun K hK => ?_
  refine cv_region_then rfl ?_
  simp -implicitDefEqProofs (disch := first | omega | decide) only [seval, -Int.reducePow, -Nat.reducePow, cC, pv, binv, sHjW1, undef, g1, g2]
  refine callV_new rdV rdL _ (fun w hw => rRead_any A i c es w (hE.at hw) hok hn) ?_
  rintro (_ | ⟨bb, sb, LA, ln, lc, EA, en, ec, st, ros, E⟩) hr
  · have hr' : runS hs0 es = none := hr
    have hav : actV es p = .agg #[.int .i64 0, .int .i64 0, .int .i64 0, .int .i64 (cntR es p : Int), .int .i64 0] := by unfold actV; rw [hr']; rfl
    unfold rdV rdL
    dsimp only [List.nil_append]
    simp -implicitDefEqProofs (disch := first | omega | decide) only [seval, -Int.reducePow, -Nat.reducePow, cC, pv, binv, sHjW1, undef, g1, g2]
    refine hK _ _ ?_
    clear hK K
    refine cv_seq_k fun K hK => ?_
    refine cv_seq_k fun K hK => ?_
    refine cv_region_then rfl ?_
    simp -implicitDefEqProofs (disch := first | omega | decide) only [seval, -Int.reducePow, -Nat.reducePow, cC, pv, binv, sHjW1, undef, g1, g2]
    refine hK _ _ ?_
    clear hK K
    refine cv_cond ?_
    simp -implicitDefEqProofs (disch := first | omega | decide) only [seval, -Int.reducePow, -Nat.reducePow, cC, pv, binv, sHjW1, undef, g1, g2]
    refine cv_seq_k fun K hK => ?_
    refine cv_region_then rfl ?_
    simp -implicitDefEqProofs (disch := first | omega | decide) only [seval, -Int.reducePow, -Nat.reducePow, cC, pv, binv, sHjW1, undef, g1, g2]
    refine hK _ _ ?_
    clear hK K
    refine cv_ret ?_
    simp -implicitDefEqProofs (disch := first | omega | decide) only [seval, -Int.reducePow, -Nat.reducePow, cC, pv, binv, sHjW1, undef, retQ2, ressV, packV, g1, g2]
    intro w hw
    exact ⟨by rw [hav], hw.below⟩
  obtain ⟨s, x, h1, hros, h3, h4, h5⟩ := hr
  dsimp only at hros h5
  subst h5
  have hrps : (repS (runS hs0 es)).1 = outL s := by rw [h1]; rfl
  obtain ⟨hbd1, hbd2⟩ := repS_bd hok hrps
  have hav : actV es p = .agg #[.int .i64 0, .int .i64 (cntO (outL s) p : Int), .int .i64 (cntB (outL s) p : Int), .int .i64 (cntR es p : Int), .int .i64 0] := by unfold actV; rw [hrps]
  have hheld := h3.held h4 p
  have hEl := h3.eL
  obtain ⟨E, hEE⟩ : ∃ E, x.E = E := ⟨_, rfl⟩
  rw [hEE] at hheld hEl
  obtain ⟨rps, hrr⟩ : ∃ rps, outL s = rps := ⟨_, rfl⟩
  rw [hrr] at hros hrps hbd1 hbd2 hav hheld
  unfold rdV rdL fbL
  dsimp only
  rw [hEE]
  simp -implicitDefEqProofs (disch := first | omega | decide) only [seval, -Int.reducePow, -Nat.reducePow, cC, pv, binv, sHjW1, undef, g1, g2]
  refine hK _ _ ?_
  clear hK K
  refine cv_sub (.blk b5 48 [.int .i64 0, .int .i64 0, .int .i64 0, .int .i64 (cntR es p : Int), .int .i64 0] :: .blk b4 48 [.int .i64 0, .int .i64 0, .int .i64 0, .int .i64 0, .int .i64 0] :: .blk bb 78 [.slice (some ⟨sb, 0, none⟩) 65 65, .slice LA ln lc, .slice EA en ec] :: .row (.slice (some ⟨sb, 0, none⟩) 65 65) 3 1 65 (stCells st) :: .row (.slice LA ln lc) 43 6 ln (roCells ros) :: .row (.slice EA en ec) 82 4 en (bwCells E) :: ros.map roRow) (fun w hw => hw.perm (List.perm_append_comm (l₁ := [_, _]) (l₂ := _ :: _))) ?_
  have hrl : ros.length = rps.length := by rw [← hros, List.length_map]
  refine cv_len 4 rfl fun hlA => ?_
  have hln : ros.length = ln := by unfold roCells at hlA; rw [flLen roc_len] at hlA; omega
  refine cv_seq_k fun K hK => ?_
  refine cv_seq_k fun K hK => ?_
  refine cv_region_then rfl ?_
  simp -implicitDefEqProofs (disch := first | omega | decide) only [seval, -Int.reducePow, -Nat.reducePow, cC, pv, binv, sHjW1, undef, g1, g2]
  refine hK _ _ ?_
  clear hK K
  refine cv_cond ?_
  simp -implicitDefEqProofs (disch := first | omega | decide) only [seval, -Int.reducePow, -Nat.reducePow, cC, pv, binv, sHjW1, undef, g1, g2]
  refine cv_skip ?_
  try simp only [blockQ, thenQ]
  refine hK _ _ ?_
  clear hK K
  refine cv_seq_k fun K hK => ?_
  refine cv_seq_k fun K hK => ?_
  refine cv_region_then rfl ?_
  simp -implicitDefEqProofs (disch := first | omega | decide) only [seval, -Int.reducePow, -Nat.reducePow, cC, pv, binv, sHjW1, undef, g1, g2]
  refine hK _ _ ?_
  clear hK K
  refine cv_gen fun G4 hG => ?_
  have g4_1 := congrFun hG 1
  have g4_4 := congrFun hG 4
  have g4_5 := congrFun hG 5
  have g4_7 := congrFun hG 7
  have g4_9 := congrFun hG 9
  clear hG
  try simp -implicitDefEqProofs (disch := first | omega | decide) only [seval, -Int.reducePow, -Nat.reducePow, cC, pv, binv, sHjW1, undef, g1, g2] at g4_1 g4_4 g4_5 g4_7 g4_9
  have g4 := And.intro g4_1 (And.intro g4_4 (And.intro g4_5 (And.intro g4_7 g4_9)))
  refine cv_block ?_
  refine cv_loop (fun F' L' => ∃ (j : Nat), F' 1 = G4 1 ∧ F' 4 = G4 4 ∧ F' 5 = G4 5 ∧ F' 7 = G4 7 ∧ F' 9 = .int .i64 (j : Int) ∧ L' = .blk b5 48 [.int .i64 0, .int .i64 (cntO (rps.take j) p : Int), .int .i64 0, .int .i64 (cntR es p : Int), .int .i64 0] :: .blk b4 48 [.int .i64 0, .int .i64 0, .int .i64 0, .int .i64 0, .int .i64 0] :: .blk bb 78 [.slice (some ⟨sb, 0, none⟩) 65 65, .slice LA ln lc, .slice EA en ec] :: .row (.slice (some ⟨sb, 0, none⟩) 65 65) 3 1 65 (stCells st) :: .row (.slice LA ln lc) 43 6 ln (roCells ros) :: .row (.slice EA en ec) 82 4 en (bwCells E) :: ros.map roRow ∧ j ≤ ln) (fun F' L' => 2000 - (intOf (F' 9)).toNat) ?_ ?_
  · refine ⟨0, ?_⟩
    simp -implicitDefEqProofs (disch := first | omega | decide) only [seval, -Int.reducePow, -Nat.reducePow, cC, pv, binv, sHjW1, undef, g1, g2, g4]
    exact ⟨rfl, Nat.zero_le _⟩
  intro G5 L' hI
  obtain ⟨j, q1, q4, q5, q7, q9, rfl, hj⟩ := hI
  have g5_1 := q1.trans g4_1
  have g5_4 := q4.trans g4_4
  have g5_5 := q5.trans g4_5
  have g5_7 := q7.trans g4_7
  have g5_9 := q9
  clear q1 q4 q5 q7 q9
  have g5 := And.intro g5_1 (And.intro g5_4 (And.intro g5_5 (And.intro g5_7 g5_9)))
  refine cv_fact (bb ≠ b5) (fun w hw => hw.bNe 2 0 rfl rfl (by decide)) fun hn5 => ?_
  refine cv_fact (bb ≠ b4) (fun w hw => hw.bNe 2 1 rfl rfl (by decide)) fun hn4 => ?_
  refine cv_seq_k fun K hK => ?_
  refine cv_seq_k fun K hK => ?_
  refine cv_region_then rfl ?_
  simp -implicitDefEqProofs (disch := first | omega | decide) only [seval, -Int.reducePow, -Nat.reducePow, cC, pv, binv, sHjW1, undef, g1, g2, g4, g5]
  refine hK _ _ ?_
  clear hK K
  refine cv_cond ?_
  simp -implicitDefEqProofs (disch := first | omega | decide) only [seval, -Int.reducePow, -Nat.reducePow, cC, pv, binv, sHjW1, undef, g1, g2, g4, g5]
  refine ⟨fun hc => ?_, fun hc => ?_⟩
  · refine cv_skip ?_
    try simp only [blockQ, thenQ]
    have hit : j < ln := by have := of_decide_eq_true ‹decide ((j : Int) < (ln : Int)) = true›; omega
    obtain ⟨r, hr1⟩ : ∃ r, ros[j]? = some r := ⟨_, List.getElem?_eq_getElem (by omega)⟩
    have hrp : rps[j]? = some r.pl := by rw [← hros, List.getElem?_map, hr1]; rfl
    have ho1 : cntO (rps.take (j + 1)) p = cntO (rps.take j) p + if r.ow = p then 1 else 0 := by
      have := filter_snoc_len hrp (fun r => decide (r.ow = p))
      simp only [decide_eq_true_eq] at this
      exact this
    have hcO : cntO (rps.take j) p ≤ j := filter_take_le ..
    refine hK _ _ ?_
    clear hK K
    refine cv_rowA 4 rfl (by omega) fun g hAA hg hNN => ?_
    subst hAA
    simp only [List.eraseIdx_cons_zero, List.eraseIdx_cons_succ, neB_nil, neB_blk, neB_row, neB_snap, and_true, List.not_mem_nil, or_false, sHjW1, undef] at hNN hg
    replace hg := And.intro hg hNN
    clear hNN
    refine cv_seq_k fun K hK => ?_
    refine cv_block ?_
    refine cv_seq_k fun K hK => ?_
    refine cv_region_then rfl ?_
    simp -implicitDefEqProofs (disch := first | omega | decide) only [seval, -Int.reducePow, -Nat.reducePow, cC, pv, binv, sHjW1, undef, g1, g2, g4, g5]
    refine ⟨_, ld_row1 (m := 1) (i := j * 6 + 1) (v := .int .i64 r.ow) (nth_mem (k := 4) rfl) rfl (flGet roc_len hr1 (by omega)), fun tok htok => ?_⟩
    subst htok
    simp -implicitDefEqProofs (disch := first | omega | decide) only [seval, -Int.reducePow, -Nat.reducePow, cC, pv, binv, sHjW1, undef, g1, g2, g4, g5]
    refine hK _ _ ?_
    clear hK K
    refine cv_cond ?_
    by_cases h1 : r.ow = p
    · have d1 : decide (r.ow = p) = true := decide_eq_true h1
      rw [if_pos h1] at ho1
      simp -implicitDefEqProofs (disch := first | omega | decide) only [seval, -Int.reducePow, -Nat.reducePow, cC, pv, binv, sHjW1, undef, d1, g1, g2, g4, g5]
      refine cv_region_q rfl ?_
      simp -implicitDefEqProofs (disch := first | omega | decide) only [seval, -Int.reducePow, -Nat.reducePow, cC, pv, binv, sHjW1, undef, g1, g2, g4, g5]
      refine hK _ _ ?_
      clear hK K
      refine cv_region_then rfl ?_
      simp -implicitDefEqProofs (disch := first | omega | decide) only [seval, -Int.reducePow, -Nat.reducePow, cC, pv, binv, sHjW1, undef, g1, g2, g4, g5]
      refine ⟨⟨j + 1, ?_⟩, ?_⟩
      · simp -implicitDefEqProofs (disch := first | omega | decide) only [seval, -Int.reducePow, -Nat.reducePow, cC, pv, binv, sHjW1, undef, ho1, Int.natCast_add, g1, g2, g4, g5]
        omega
      · simp only [intOf]; omega
    · rw [if_neg h1] at ho1
      simp -implicitDefEqProofs (disch := first | omega | decide) only [seval, -Int.reducePow, -Nat.reducePow, cC, pv, binv, sHjW1, undef, h1, g1, g2, g4, g5]
      refine cv_skip ?_
      try simp only [blockQ, thenQ]
      refine hK _ _ ?_
      clear hK K
      refine cv_region_then rfl ?_
      simp -implicitDefEqProofs (disch := first | omega | decide) only [seval, -Int.reducePow, -Nat.reducePow, cC, pv, binv, sHjW1, undef, g1, g2, g4, g5]
      refine ⟨⟨j + 1, ?_⟩, ?_⟩
      · simp -implicitDefEqProofs (disch := first | omega | decide) only [seval, -Int.reducePow, -Nat.reducePow, cC, pv, binv, sHjW1, undef, ho1, Int.natCast_add, Nat.add_zero, g1, g2, g4, g5]
        omega
      · simp only [intOf]; omega
  refine cv_exit ?_
  simp only [blockQ, thenQ, if_true, ite_true]
  clear hK K
  refine hK _ _ ?_
  clear hK K
  have hjn : j = ln := by have := of_decide_eq_false ‹decide ((j : Int) < (ln : Int)) = false›; omega
  subst hjn
  have hfull : rps.take j = rps := List.take_of_length_le (by omega)
  rw [hfull]
  refine cv_seq_k fun K hK => ?_
  refine cv_region_then rfl ?_
  simp -implicitDefEqProofs (disch := first | omega | decide) only [seval, -Int.reducePow, -Nat.reducePow, cC, pv, binv, sHjW1, undef, g1, g2, g4, g5]
  refine callV_ret (fun w hw => rHeld_any (LgW.of hw 2 5 rfl rfl (by omega)) p) ?_
  rw [hheld]
  simp -implicitDefEqProofs (disch := first | omega | decide) only [seval, -Int.reducePow, -Nat.reducePow, cC, pv, binv, sHjW1, undef, g1, g2, g4, g5]
  refine hK _ _ ?_
  clear hK K
  refine cv_seq_k fun K hK => ?_
  refine cv_region_then rfl ?_
  simp -implicitDefEqProofs (disch := first | omega | decide) only [seval, -Int.reducePow, -Nat.reducePow, cC, pv, binv, sHjW1, undef, g1, g2, g4, g5]
  refine hK _ _ ?_
  clear hK K
  refine cv_ret ?_
  simp -implicitDefEqProofs (disch := first | omega | decide) only [seval, -Int.reducePow, -Nat.reducePow, cC, pv, binv, sHjW1, undef, retQ2, ressV, packV, g1, g2, g4, g5]
  intro w hw
  exact ⟨by rw [hav], hw.below⟩
end Go.Proofs.Ytaifnipgefkemaa
/- The owners of the live objects, one after the other. -/
namespace Go.Proofs.Ytaifnipgefkemaa
open Go.RowKit Go.Shelf
set_option linter.unusedVariables false
set_option linter.unusedSimpArgs false
set_option maxRecDepth 100000
def tfun (P : Program) (t : TypeId) : Bool := match P.underlying t with
  | some (.func ..) => true
  | _ => false
theorem xv_eqnf {P : Program} {M : List Nat} {W : World} {L : List Res} {F : Fr} {d : Option Nat} {t u ty : TypeId} {pos : String} {af : Array Edge} {gd : Option (Nat × Bool)} {x y : Operand} {f : Fn} {first cap : Array Value} {K : Bool → Value → List Res → Prop}
    (ht : tfun P t = true) (hx : ev F x = .func f first cap) (hy : ev F y = .nilFunc) (hK : K true (.bool false) L) : XV P M W ⟨d, .binOp .eql t x y u, ty, pos, af, gd⟩ F L K := fun w hw => by
  unfold tfun at ht
  split at ht
  · rename_i a b c hu
    refine ⟨_, _, w, ?_, hw, hK⟩
    have key : ∀ d, (Op.equalIn (d + 1) t (.func f first cap) .nilFunc).run P w = .ok false w := fun d => by simp [Op.equalIn, run_underlying hu]
    have hq : (Op.equalIn Op.maxDepth t (.func f first cap) .nilFunc).run P w = .ok false w := key 9999
    simp [execOp, hx, hy, eqGuard, binOp, Op.equal, hq]
  · cases ht
theorem cvf_more {P : Program} {ro : Option Nat} {M : List Nat} {W : World} {n : Nat} {D : List Nat} {F : Fr} {L : List Res} {Q : Exit → List Nat → Fr → List Res → Prop} {id : Nat} {l : List Oper} (ix : List Nat) (hnd : ix.Nodup) (hsub : Suf (pickL ix L) L) (p : PM) (fin : List Nat) (hm : P.follows .mixedOrders = true) (hd : l.all (fun o => dstV n o.dst) = true) (hs : Region.noSelect l.toArray = true)
    (hp : p.ok .any l.toArray fin 0 (Array.replicate l.toArray.size false) = true) (hz : p.lenOk l.toArray.size = true) (hf : p.finOk fin = true) (hu : undefer l = true) {K : List Nat → Fr → List Res → Prop}
    (h : vcm P M W n l (pickL ix L) fin true p F L (fun F' L' => ∃ jx : List Nat, jx.Nodup ∧ K D F' (pickL jx L'))) : CVF P ro M W n (.region id l.toArray true) D F L (thenF K Q) := fun a w ha hw => by
  have h1 : wpM P l.toArray (endV M W n (K D)) (St M W (pickL ix L)) fin p { a with defers := [] } w.drew :=
    vcm_sound (ops := l.toArray) (slots_of (by simpa using hd)) (hw.pick hnd).apart p (by simpa using h) ha.ok hw.drew hf (.inr hsub) fun F' L' a' w' hK h1 h2 => by
      obtain ⟨jx, hj, hk⟩ := hK
      exact ⟨F', _, h1, h2.pick hj, hk⟩
  have h2 := wpAny_of_need _ _ _ _ ((more_sound hs (Q := endV M W n (K D)) (by intro c d v a w hh; exact hh) p).1 _ _ _ _ hp hz h1)
  have h3 := any_in (ro := ro) (k := 0) (ds := D.map col) endV_calm (by simpa using hu) _ _ _ _ h2
  rw [ha.eta] at h3
  exact wpIn_mono (wpIn_region_any hm h3) (endV_out fun _ _ h => h)
structure OwR where
  bx : Nat
  rep : RepR
def owV (i : OwR) : Value := .func (.func 27) #[] #[.pointer (some ⟨i.bx, 0, none⟩)]
def owL (i : OwR) : List Res := .blk i.bx 30 [.slice i.rep.A i.rep.n i.rep.c] :: repL i.rep
set_option maxRecDepth 100000 in
theorem sHkV1 : type_of% (And.intro (And.intro (And.intro @Nat.mul_one @wrap_in) (And.intro @cMv (And.intro @cM @suf_o3))) (And.intro (And.intro @suf_o4 @suf_o5) (And.intro @suf_o6 (And.intro @suf_o7 @look_ros)))) := (And.intro (And.intro (And.intro @Nat.mul_one @wrap_in) (And.intro @cMv (And.intro @cM @suf_o3))) (And.intro (And.intro @suf_o4 @suf_o5) (And.intro @suf_o6 (And.intro @suf_o7 @look_ros))))
theorem hOwners_any (A : Option Addr) (n c : Nat) (es : List EvR) (W : World) (hE : Sl W W.heap.size 5 A n c (evCells es)) (hok : ∀ e ∈ es, e.ok) (hn : n ≤ 900) :
    Calls Try.prog 13 #[.slice A n c] W fun en w' => ∃ i : OwR, en = .returned (owV i) ∧ RepOk es i.rep ∧ St [] W (owL i) w' := by
  refine calls_cv (M := []) (n := 11) [.tmp 2] rfl Try.func13 rfl rfl (Nat.le_of_ble_eq_true rfl) (St.nil _ _) ?_
  refine cv_seq_k fun K hK => ?_
  refine cv_region_then rfl ?_
  simp -implicitDefEqProofs (disch := first | omega | decide) only [seval, -Int.reducePow, -Nat.reducePow, cC, pv, binv, sHkV1, undef]
  refine hK _ _ ?_
  clear hK K
  refine cv_seq_k fun K hK => ?_
  refine cv_region_then rfl ?_
  simp -implicitDefEqProofs (disch := first | omega | decide) only [seval, -Int.reducePow, -Nat.reducePow, cC, pv, binv, sHkV1, undef]
  refine callV_new repV repL _ (fun w hw => hReplay_any A n c es w (hE.at hw) hok hn) ?_
  rintro ⟨LA, ln, lc, ros, er⟩ hr
  unfold repV repL
  dsimp only
  simp -implicitDefEqProofs (disch := first | omega | decide) only [seval, -Int.reducePow, -Nat.reducePow, cC, pv, binv, sHkV1, undef]
  intro bx hbx hfx
  refine hK _ _ ?_
  clear hK K
  refine cv_seq_k fun K hK => ?_
  refine cv_region_then rfl ?_
  simp -implicitDefEqProofs (disch := first | omega | decide) only [seval, -Int.reducePow, -Nat.reducePow, cC, pv, binv, sHkV1, undef]
  refine xv_funcH ?_
  simp -implicitDefEqProofs (disch := first | omega | decide) only [seval, -Int.reducePow, -Nat.reducePow, cC, pv, binv, sHkV1, undef]
  refine hK _ _ ?_
  clear hK K
  refine cv_ret ⟨_, (by simp -implicitDefEqProofs (disch := first | omega | decide) only [seval, -Int.reducePow, -Nat.reducePow, cC, pv, binv, sHkV1, undef]; rfl), fun w hw => ?_⟩
  exact ⟨⟨bx, ⟨LA, ln, lc, ros, er⟩⟩, rfl, hr, hw⟩
def encRO (r : RO) : Array Value := #[.int .u64 (r.h : Int), .int .i64 r.ow]
set_option maxRecDepth 100000 in
theorem sHkV2 : type_of% (And.intro (And.intro @Nat.mul_one @wrap_in) (And.intro @cM @cF)) := (And.intro (And.intro @Nat.mul_one @wrap_in) (And.intro @cM @cF))
set_option maxHeartbeats 4000000 in
theorem own_iter {W : World} (LA : Option Addr) (ln lc : Nat) (ros : List RO) (bx : Nat) (hn : ln ≤ 1000) (hl : ros.length = ln) :
    IterP Try.prog [] W 27 #[.pointer (some ⟨bx, 0, none⟩)] encRO (fun pre x => pre ++ [x] <+: ros) (fun l => l = ros) (fun pre => pre <+: ros) [.blk bx 30 [.slice LA ln lc], .row (.slice LA ln lc) 43 6 ln (roCells ros)] := by
  intro l I Ix hdt hY R w hI hw
  obtain ⟨fR, pR, lR, rfl⟩ := hdt _ _ hI
  show Calls Try.prog 27 #[.func (.yield l) #[] #[], .pointer (some ⟨bx, 0, none⟩)] w _
  refine calls_cvf (n := 19) [] rfl Try.func27 rfl rfl (Nat.le_of_ble_eq_true rfl)  hw ?_
  refine cvf_seq_k fun K hK => ?_
  refine cvf_region_then rfl rfl ?_
  simp -implicitDefEqProofs (disch := first | omega | decide) only [seval, -Int.reducePow, -Nat.reducePow, cC, pv, binv, sHkV2, undef]
  refine hK _ _ _ ?_
  clear hK K
  refine cvf_gen fun G1 hG => ?_
  have g1_0 := congrFun hG 0
  have g1_5 := congrFun hG 5
  have g1_6 := congrFun hG 6
  have g1_7 := congrFun hG 7
  clear hG
  try simp -implicitDefEqProofs (disch := first | omega | decide) only [seval, -Int.reducePow, -Nat.reducePow, cC, pv, binv, sHkV2, undef] at g1_0 g1_5 g1_6 g1_7
  have g1 := And.intro g1_0 (And.intro g1_5 (And.intro g1_6 g1_7))
  refine cvf_block ?_
  refine cvf_loop (fun F' L' => ∃ (i : Nat) (R : Res), F' 0 = G1 0 ∧ F' 5 = G1 5 ∧ F' 6 = G1 6 ∧ F' 7 = .int .i64 (i : Int) ∧ L' = [.blk bx 30 [.slice LA ln lc], .row (.slice LA ln lc) 43 6 ln (roCells ros), R] ∧ I (ros.take i) R ∧ i ≤ ln) (fun F' L' => 2000 - (intOf (F' 7)).toNat) ?_ ?_
  · refine ⟨0, .dat fR pR lR, ?_⟩
    simp -implicitDefEqProofs (disch := first | omega | decide) only [seval, -Int.reducePow, -Nat.reducePow, cC, pv, binv, sHkV2, undef, g1]
    exact ⟨hI, by omega⟩
  intro G2 L' hI
  obtain ⟨i, R, q0, q5, q6, q7, rfl, ⟨hIR, hi⟩⟩ := hI
  have g2_0 := q0.trans g1_0
  have g2_5 := q5.trans g1_5
  have g2_6 := q6.trans g1_6
  have g2_7 := q7
  clear q0 q5 q6 q7
  have g2 := And.intro g2_0 (And.intro g2_5 (And.intro g2_6 g2_7))
  obtain ⟨fR2, pR2, lR2, rfl⟩ := hdt _ _ hIR
  refine cvf_seq_k fun K hK => ?_
  refine cvf_region_then rfl rfl ?_
  simp -implicitDefEqProofs (disch := first | omega | decide) only [seval, -Int.reducePow, -Nat.reducePow, cC, pv, binv, sHkV2, undef, g1, g2]
  refine hK _ _ _ ?_
  clear hK K
  refine cvf_seq_k fun K hK => ?_
  refine cvf_cond ?_
  simp -implicitDefEqProofs (disch := first | omega | decide) only [seval, -Int.reducePow, -Nat.reducePow, cC, pv, binv, sHkV2, undef, g1, g2]
  refine ⟨fun hc => ?_, fun hc => ?_⟩
  · refine cvf_skip ?_
    try simp only [blockF, thenF]
    have hit : i < ln := by have := of_decide_eq_true ‹decide ((i : Int) < (ln : Int)) = true›; omega
    obtain ⟨r, hr1⟩ : ∃ r, ros[i]? = some r := ⟨_, List.getElem?_eq_getElem (by omega)⟩
    have hld := flAt roc_len hr1
    have htk : ros.take (i + 1) = ros.take i ++ [r] := by rw [List.take_add_one, hr1]; rfl
    have hpre : ros.take i ++ [r] <+: ros := by rw [← htk]; exact List.take_prefix _ _
    refine hK _ _ _ ?_
    clear hK K
    refine cvf_rowA 1 rfl (by omega) fun g hAA hg hNN => ?_
    subst hAA
    simp only [List.eraseIdx_cons_zero, List.eraseIdx_cons_succ, neB_nil, neB_blk, neB_row, neB_snap, and_true, List.not_mem_nil, or_false, sHkV2, undef] at hNN hg
    replace hg := And.intro hg hNN
    clear hNN
    refine cvf_seq_k fun K hK => ?_
    refine cvf_block ?_
    refine cvf_seq_k fun K hK => ?_
    refine cvf_region_then rfl rfl ?_
    simp -implicitDefEqProofs (disch := first | omega | decide) only [seval, -Int.reducePow, -Nat.reducePow, cC, pv, binv, sHkV2, undef, g1, g2]
    refine ⟨_, ld_row (i := i * 6) (vs := roc r) (nth_mem (k := 1) rfl) (by kernel_rfl) hld, fun tok htok => ?_⟩
    subst htok
    simp -implicitDefEqProofs (disch := first | omega | decide) only [seval, -Int.reducePow, -Nat.reducePow, cC, pv, binv, sHkV2, undef, g1, g2]
    simp only [roc, List.length_cons, List.length_nil, true_and]
    simp -implicitDefEqProofs (disch := first | omega | decide) only [seval, -Int.reducePow, -Nat.reducePow, cC, pv, binv, sHkV2, undef, g1, g2]
    intro b4 hb4 hf4
    refine hK _ _ _ ?_
    clear hK K
    refine cvf_seq_k fun K hK => ?_
    refine cvf_yield (l1 := [_, _, _, _, _]) (l2 := [_]) rfl rfl rfl ?_
    simp -implicitDefEqProofs (disch := first | omega | decide) only [seval, -Int.reducePow, -Nat.reducePow, cC, pv, binv, sHkV2, undef, g1, g2]
    refine ⟨l, encRO r, by simp [yOf, ev, upd_apply, encRO], ?_⟩
    refine YV.mono (hY (ros.take i) r [_, _, _] (.dat fR2 pR2 lR2) hpre hIR) ?_
    rw [← htk]
    rintro v L' (⟨rfl, R', hI', rfl⟩ | ⟨rfl, R', hI', rfl⟩)
    · obtain ⟨fR4, pR4, lR4, rfl⟩ := hdt _ _ hI'
      simp only [List.cons_append, List.nil_append]
      simp -implicitDefEqProofs (disch := first | omega | decide) only [seval, -Int.reducePow, -Nat.reducePow, cC, pv, binv, sHkV2, undef, g1, g2]
      refine hK _ _ _ ?_
      clear hK K
      refine cvf_cond ?_
      simp -implicitDefEqProofs (disch := first | omega | decide) only [seval, -Int.reducePow, -Nat.reducePow, cC, pv, binv, sHkV2, undef, g1, g2]
      refine cvf_skip ?_
      try simp only [blockF, thenF]
      refine hK _ _ _ ?_
      clear hK K
      refine cvf_pick [1, 2, 3] (by decide) ?_
      simp only [pickL, nth]
      refine cvf_region_then rfl rfl ?_
      simp -implicitDefEqProofs (disch := first | omega | decide) only [seval, -Int.reducePow, -Nat.reducePow, cC, pv, binv, sHkV2, undef, g1, g2]
      refine ⟨⟨i + 1, .dat fR4 pR4 lR4, ?_⟩, ?_⟩
      · simp -implicitDefEqProofs (disch := first | omega | decide) only [seval, -Int.reducePow, -Nat.reducePow, cC, pv, binv, sHkV2, undef, Int.natCast_add, g1, g2]
        exact ⟨hI', by omega⟩
      · simp only [intOf]; omega
    · simp only [List.cons_append, List.nil_append]
      simp -implicitDefEqProofs (disch := first | omega | decide) only [seval, -Int.reducePow, -Nat.reducePow, cC, pv, binv, sHkV2, undef, g1, g2]
      refine hK _ _ _ ?_
      clear hK K
      refine cvf_cond ?_
      simp -implicitDefEqProofs (disch := first | omega | decide) only [seval, -Int.reducePow, -Nat.reducePow, cC, pv, binv, sHkV2, undef, g1, g2]
      refine cvf_ret ?_
      simp only [retF, thenF, blockF]
      refine ⟨_, rfl, ?_⟩
      simp -implicitDefEqProofs (disch := first | omega | decide) only [seval, -Int.reducePow, -Nat.reducePow, cC, pv, binv, sHkV2, undef, ressV, packV, g1, g2]
      intro w hw
      exact ⟨⟨_, rfl⟩, .inr ⟨_, _, List.take_prefix _ _, hI', hw.pick (ix := [1, 2, 3]) (by decide)⟩⟩
  refine cvf_exit ?_
  simp only [blockF, thenF, if_true, ite_true]
  have hit : ¬ i < ln := by have := of_decide_eq_false ‹decide ((i : Int) < (ln : Int)) = false›; omega
  rw [List.take_of_length_le (by omega)] at hIR
  simp only [retF, thenF, blockF]
  refine ⟨_, rfl, ?_⟩
  simp -implicitDefEqProofs (disch := first | omega | decide) only [seval, -Int.reducePow, -Nat.reducePow, cC, pv, binv, sHkV2, undef, ressV, packV, g1, g2]
  intro w hw
  exact ⟨⟨_, rfl⟩, .inl ⟨_, _, rfl, hIR, hw.pick (ix := [0, 1, 2]) (by decide)⟩⟩
end Go.Proofs.Ytaifnipgefkemaa
/- awake and same: the code's functions agree with the reference's. -/
namespace Go.Proofs.Ytaifnipgefkemaa
open Go.RowKit Go.Shelf
set_option linter.unusedVariables false
set_option linter.unusedSimpArgs false
set_option maxRecDepth 100000
theorem cvf_sub {P : Program} {ro : Option Nat} {M : List Nat} {W : World} {n : Nat} {c : Code} {D : List Nat} {F : Fr} {L : List Res} {Q : Exit → List Nat → Fr → List Res → Prop} (L' : List Res) (h : ∀ w, St M W L w → St M W L' w) (hc : CVF P ro M W n c D F L' Q) : CVF P ro M W n c D F L Q := fun a w ha hw => hc a w ha (h w hw)
theorem RosW.of {M : List Nat} {W w : World} {L : List Res} {A : Option Addr} {n c : Nat} {ros : List RO} (hw : St M W L w) (h1 : Res.row (.slice A n c) 43 6 n (roCells ros) ∈ L) (h2 : ∀ r ∈ ros, roRow r ∈ L) : RosW w w.heap.size A n c ros := ⟨Sl.of_row hw h1, fun r hr => Sl.of_row hw (h2 r hr)⟩
def ev2 : List EvR := [⟨1, 32, 0, 0, 0⟩, ⟨1, 1, 72057594054705152, 1, 0⟩]
theorem ev2_ok : ∀ e ∈ ev2, e.ok := fun e he => by
  simp only [ev2, List.mem_cons, List.not_mem_nil, or_false] at he
  rcases he with rfl | rfl <;> exact ⟨by decide, by decide⟩
theorem run2 : runS hs0 ev2 = some ⟨[(1, true)], [(0, ⟨72057594054705152, 1, 0, []⟩)]⟩ := by rfl
theorem rep2 : repS (runS hs0 ev2) = ([⟨72057594054705152, 1, []⟩], 0) := by
  rw [run2]
  simp [repS, outL, srtL, keys, kget, outO]
set_option maxRecDepth 100000 in
theorem sHkW1 : type_of% (And.intro (And.intro (And.intro @Nat.mul_one @wrap_in) (And.intro @cMv (And.intro @cM @suf_o3))) (And.intro (And.intro @suf_o4 @suf_o5) (And.intro @suf_o6 (And.intro @suf_o7 @look_ros)))) := (And.intro (And.intro (And.intro @Nat.mul_one @wrap_in) (And.intro @cMv (And.intro @cM @suf_o3))) (And.intro (And.intro @suf_o4 @suf_o5) (And.intro @suf_o6 (And.intro @suf_o7 @look_ros))))
set_option maxHeartbeats 4000000 in
theorem awake30_any (W : World) : Calls Try.prog 4 #[] W fun en w' => en = .returned (.bool true) ∧ Below W.heap.size W w' := by
  refine calls_cv (M := []) (n := 24) [.tmp 0] rfl Try.func4 rfl rfl (Nat.le_of_ble_eq_true rfl) (St.nil _ _) ?_
  refine cv_seq_k fun K hK => ?_
  refine cv_region_then rfl ?_
  simp -implicitDefEqProofs (disch := first | omega | decide) only [seval, -Int.reducePow, -Nat.reducePow, cC, pv, binv, sHkW1, undef]
  refine hK _ _ ?_
  clear hK K
  refine cv_seq_k fun K hK => ?_
  refine cv_region_then rfl ?_
  simp -implicitDefEqProofs (disch := first | omega | decide) only [seval, -Int.reducePow, -Nat.reducePow, cC, pv, binv, sHkW1, undef]
  intro b6 hb6
  refine callV_new repV repL _ (fun w hw => hReplay_any (some ⟨b6, 0, none⟩) 2 2 ev2 w (Sl.of_row (hw.blk_row (size := 5) (n := 2) rfl (by decide)) (.head _)) ev2_ok (by decide)) ?_
  rintro ⟨LA, ln, lc, ros, er⟩ ⟨h1, h2⟩
  rw [rep2] at h1 h2
  dsimp only at h1 h2
  subst h2
  obtain ⟨r, rfl⟩ : ∃ r, ros = [r] := by
    have := congrArg List.length h1
    rw [List.length_map] at this
    exact List.length_eq_one_iff.1 this
  have how : r.ow = 1 := by
    have h3 : r.pl = ⟨72057594054705152, 1, []⟩ := by simpa using h1
    exact congrArg RP.ow h3
  unfold repV repL
  dsimp only [List.map_cons, List.map_nil, List.cons_append, List.nil_append]
  unfold roRow
  simp -implicitDefEqProofs (disch := first | omega | decide) only [seval, -Int.reducePow, -Nat.reducePow, cC, pv, binv, sHkW1, undef]
  refine hK _ _ ?_
  clear hK K
  refine cv_len 0 rfl fun hlA => ?_
  have hln : ln = 1 := by
    unfold roCells at hlA
    rw [flLen roc_len] at hlA
    simp at hlA
    omega
  subst hln
  refine cv_rowA 0 rfl (by omega) fun g hAA hg hNN => ?_
  subst hAA
  simp only [List.eraseIdx_cons_zero, List.eraseIdx_cons_succ, neB_nil, neB_blk, neB_row, neB_snap, and_true, List.not_mem_nil, or_false, sHkW1, undef] at hNN hg
  replace hg := And.intro hg hNN
  clear hNN
  refine cv_seq_k fun K hK => ?_
  refine cv_region_then rfl ?_
  simp -implicitDefEqProofs (disch := first | omega | decide) only [seval, -Int.reducePow, -Nat.reducePow, cC, pv, binv, sHkW1, undef]
  refine ⟨_, ld_row1 (m := 1) (i := 0 * 6 + 1) (v := .int .i64 r.ow) (nth_mem (k := 0) rfl) rfl (flGet roc_len (l := [r]) (i := 0) rfl (by omega)), fun tok htok => ?_⟩
  subst htok
  simp -implicitDefEqProofs (disch := first | omega | decide) only [seval, -Int.reducePow, -Nat.reducePow, cC, pv, binv, sHkW1, undef]
  rw [how]
  simp -implicitDefEqProofs (disch := first | omega | decide) only [seval, -Int.reducePow, -Nat.reducePow, cC, pv, binv, sHkW1, undef]
  refine hK _ _ ?_
  clear hK K
  refine cv_ret ⟨_, (by simp -implicitDefEqProofs (disch := first | omega | decide) only [seval, -Int.reducePow, -Nat.reducePow, cC, pv, binv, sHkW1, undef]; rfl), fun w hw => ?_⟩
  exact ⟨rfl, hw.below⟩
theorem St.look4 {M : List Nat} {W w : World} {a b c r : Res} {T : List Res} (hw : St M W (a :: b :: c :: r :: T) w) {g : Nat} (hg : g ∈ r.foot) : look T g = none := by
  cases h : look T g with
  | none => rfl
  | some cs =>
    obtain ⟨t, ht⟩ := look_mem h
    have h1 := (List.pairwise_cons.1 (List.pairwise_cons.1 (List.pairwise_cons.1 hw.apart).2).2).2
    exact absurd (show g ∈ (Res.blk g t cs).foot by simp [Res.foot]) ((List.pairwise_cons.1 h1).1 _ (by simp [ht]) g hg)
def fstB (es : List EvR) (j : Nat) (x : Int) : Bool := (es.take j).all fun f => !decide (f.er = x)
theorem fstB_snoc {es : List EvR} {j : Nat} {f : EvR} (h : es[j]? = some f) (x : Int) : fstB es (j + 1) x = (fstB es j x && !decide (f.er = x)) := by
  unfold fstB
  rw [List.take_add_one, h]
  simp
theorem fstB_iff {es : List EvR} {j : Nat} {x : Int} : fstB es j x = true ↔ ∀ f ∈ es.take j, ¬ f.er = x := by
  unfold fstB
  rw [List.all_eq_true]
  simp
theorem refM_le (es : List EvR) : (refM es).length ≤ es.length := by
  refine snoc_ind (p := fun es => (refM es).length ≤ es.length) (Nat.le_refl _) (fun l a ih => ?_) es
  rw [refM_len, List.length_append, List.length_singleton]
  split <;> omega
theorem perm_s (x y u v : Res) (P Q : List Res) : (x :: u :: y :: v :: (P ++ Q)).Perm (x :: y :: (P ++ (u :: v :: Q))) := by
  have h1 : (P ++ u :: v :: Q).Perm (u :: v :: (P ++ Q)) := List.perm_middle.trans (List.Perm.cons _ List.perm_middle)
  exact List.Perm.cons _ ((List.Perm.swap y u _).trans (h1.symm.cons y))
theorem look_ros2 : ∀ (ros ros' : List RO) (g : Nat), look (ros.map roRow ++ ros'.map roRow) g = none
  | [], ros', g => look_ros ros' g
  | r :: ros, ros', g => look_ros2 ros ros' g
set_option maxRecDepth 100000 in
theorem sHkW2 : type_of% (And.intro (And.intro (And.intro @Nat.mul_one (And.intro @wrap_in @cMv)) (And.intro @cM (And.intro @cF @suf_o3))) (And.intro (And.intro @suf_o4 (And.intro @suf_o5 @suf_o6)) (And.intro @suf_o7 (And.intro @look_ros @look_ros2)))) := (And.intro (And.intro (And.intro @Nat.mul_one (And.intro @wrap_in @cMv)) (And.intro @cM (And.intro @cF @suf_o3))) (And.intro (And.intro @suf_o4 (And.intro @suf_o5 @suf_o6)) (And.intro @suf_o7 (And.intro @look_ros @look_ros2))))
set_option maxHeartbeats 8000000 in
theorem same30_any (A : Option Addr) (n c : Nat) (es : List EvR) (p : Int) (W : World) (hE : Sl W W.heap.size 5 A n c (evCells es)) (hok : ∀ e ∈ es, e.ok) (hn : n ≤ 900) :
    Calls Try.prog 5 #[.slice A n c, .int .i64 p] W fun en w' => en = .returned (.bool true) ∧ Below W.heap.size W w' := by
  have hlen : es.length = n := by
    have := hE.len
    unfold evCells at this
    rw [flLen evc_len] at this
    omega
  have hw : St [] W [] W := St.nil [] W
  refine calls_cvf (n := 134) [.cell 4 4] rfl Try.func5 rfl rfl (Nat.le_of_ble_eq_true rfl)  hw ?_
  refine cvf_seq_k fun K hK => ?_
  refine cvf_region_then rfl rfl ?_
  simp -implicitDefEqProofs (disch := first | omega | decide) only [seval, -Int.reducePow, -Nat.reducePow, cC, pv, binv, sHkW2, undef]
  intro b4 hb4
  refine hK _ _ _ ?_
  clear hK K
  refine cvf_seq_k fun K hK => ?_
  refine cvf_region_then rfl rfl ?_
  simp -implicitDefEqProofs (disch := first | omega | decide) only [seval, -Int.reducePow, -Nat.reducePow, cC, pv, binv, sHkW2, undef]
  refine callV_new repV repL _ (fun w hw => hReplay_any A n c es w (hE.at hw) hok hn) ?_
  rintro ⟨AA, an, ac, rA, erA⟩ ⟨hA1, hA2⟩
  dsimp only at hA1 hA2
  subst hA2
  unfold repV repL
  dsimp only
  simp -implicitDefEqProofs (disch := first | omega | decide) only [seval, -Int.reducePow, -Nat.reducePow, cC, pv, binv, sHkW2, undef]
  refine hK _ _ _ ?_
  clear hK K
  refine cvf_sub (.blk b4 4 [.bool false] :: .row (.slice AA an ac) 43 6 an (roCells rA) :: rA.map roRow) (fun w hw => hw.perm (List.perm_append_singleton _ (_ :: _)).symm) ?_
  refine cvf_seq_k fun K hK => ?_
  refine cvf_region_then rfl rfl ?_
  simp -implicitDefEqProofs (disch := first | omega | decide) only [seval, -Int.reducePow, -Nat.reducePow, cC, pv, binv, sHkW2, undef]
  refine callV_new repV repL _ (fun w hw => rReplay_any A n c es w (hE.at hw) hok hn) ?_
  rintro ⟨BA, bn, bc, rB, erB⟩ ⟨hB1, hB2⟩
  dsimp only at hB1 hB2
  subst hB2
  unfold repV repL
  dsimp only
  simp -implicitDefEqProofs (disch := first | omega | decide) only [seval, -Int.reducePow, -Nat.reducePow, cC, pv, binv, sHkW2, undef]
  intro b7 hb7 hf7
  refine hK _ _ _ ?_
  clear hK K
  refine cvf_sub (.blk b7 30 [.slice BA bn bc] :: .blk b4 4 [.bool false] :: .row (.slice BA bn bc) 43 6 bn (roCells rB) :: .row (.slice AA an ac) 43 6 an (roCells rA) :: (rB.map roRow ++ rA.map roRow)) (fun w hw => hw.perm (perm_s _ _ _ _ _ _)) ?_
  obtain ⟨hbd1, hbd2⟩ := repS_bd hok rfl
  have hlrA : rA.length ≤ es.length := by rw [← hA1, List.length_map] at hbd1; exact hbd1
  have hAB : rA.map RO.pl = rB.map RO.pl := hA1.trans hB1.symm
  have hlrB : rB.length ≤ es.length := by have := congrArg List.length hAB; rw [List.length_map, List.length_map] at this; omega
  refine cvf_len 2 rfl fun hlB => ?_
  refine cvf_len 3 rfl fun hlA => ?_
  have hbn : rB.length = bn := by unfold roCells at hlB; rw [flLen roc_len] at hlB; omega
  have han : rA.length = an := by unfold roCells at hlA; rw [flLen roc_len] at hlA; omega
  have hbsA : ∀ r ∈ rA, r.bs.length ≤ 100000 := fun r hr => by
    have := hbd2 r.pl (by rw [← hA1]; exact List.mem_map.2 ⟨r, hr, rfl⟩)
    have h8 : r.bs.length = r.pl.bs.length := rfl
    omega
  refine cvf_seq_k fun K hK => ?_
  refine cvf_seq_k fun K hK => ?_
  refine cvf_region_then rfl rfl ?_
  simp -implicitDefEqProofs (disch := first | omega | decide) only [seval, -Int.reducePow, -Nat.reducePow, cC, pv, binv, sHkW2, undef]
  refine callV_ret (fun w hw => rSameL_any (RosW.of hw (.tail _ (.tail _ (.tail _ (.head _)))) fun r hr => .tail _ (.tail _ (.tail _ (.tail _ (List.mem_append_right _ (List.mem_map.2 ⟨r, hr, rfl⟩)))))) (RosW.of hw (.tail _ (.tail _ (.head _))) fun r hr => .tail _ (.tail _ (.tail _ (.tail _ (List.mem_append_left _ (List.mem_map.2 ⟨r, hr, rfl⟩)))))) hAB (by omega) hbsA) ?_
  simp -implicitDefEqProofs (disch := first | omega | decide) only [seval, -Int.reducePow, -Nat.reducePow, cC, pv, binv, sHkW2, undef]
  refine callV_ret (fun w hw => hActivity_any A n c es p w (hE.at hw) hok hn) ?_
  simp -implicitDefEqProofs (disch := first | omega | decide) only [seval, -Int.reducePow, -Nat.reducePow, cC, pv, binv, sHkW2, undef]
  refine callV_ret (fun w hw => rActivity_any A n c es p w (hE.at hw) hok hn) ?_
  simp -implicitDefEqProofs (disch := first | omega | decide) only [seval, -Int.reducePow, -Nat.reducePow, cC, pv, binv, sHkW2, undef, actV]
  refine hK _ _ _ ?_
  clear hK K
  refine cvf_cond ?_
  simp -implicitDefEqProofs (disch := first | omega | decide) only [seval, -Int.reducePow, -Nat.reducePow, cC, pv, binv, sHkW2, undef]
  refine cvf_skip ?_
  try simp only [blockF, thenF]
  refine hK _ _ _ ?_
  clear hK K
  refine cvf_sub [.blk b7 30 [.slice BA bn bc], .blk b4 4 [.bool false], .row (.slice BA bn bc) 43 6 bn (roCells rB)] (fun w hw => hw.sub (.cons_cons _ (.cons_cons _ (.cons_cons _ (List.nil_sublist _))))) ?_
  refine cvf_seq_k fun K hK => ?_
  refine cvf_region_then rfl rfl ?_
  simp -implicitDefEqProofs (disch := first | omega | decide) only [seval, -Int.reducePow, -Nat.reducePow, cC, pv, binv, sHkW2, undef]
  refine callV_new owV owL _ (fun w hw => hOwners_any A n c es w (hE.at hw) hok hn) ?_
  rintro ⟨bx, ⟨OA, on_, oc, rO, erO⟩⟩ ⟨hO1, -⟩
  dsimp only at hO1
  unfold owV owL repL
  dsimp only
  simp -implicitDefEqProofs (disch := first | omega | decide) only [seval, -Int.reducePow, -Nat.reducePow, cC, pv, binv, sHkW2, undef]
  refine hK _ _ _ ?_
  clear hK K
  refine cvf_sub [.blk bx 30 [.slice OA on_ oc], .row (.slice OA on_ oc) 43 6 on_ (roCells rO), .blk b7 30 [.slice BA bn bc], .blk b4 4 [.bool false], .row (.slice BA bn bc) 43 6 bn (roCells rB)] (fun w hw => hw.sub (.cons_cons _ (.cons_cons _ (List.sublist_append_right _ _)))) ?_
  refine cvf_seq_k fun K hK => ?_
  refine cvf_seq_k fun K hK => ?_
  refine cvf_region_then rfl rfl ?_
  simp -implicitDefEqProofs (disch := first | omega | decide) only [seval, -Int.reducePow, -Nat.reducePow, cC, pv, binv, sHkW2, undef]
  refine xv_eqnf (by kernel_rfl) rfl rfl ?_
  simp -implicitDefEqProofs (disch := first | omega | decide) only [seval, -Int.reducePow, -Nat.reducePow, cC, pv, binv, sHkW2, undef]
  refine hK _ _ _ ?_
  clear hK K
  refine cvf_cond ?_
  simp -implicitDefEqProofs (disch := first | omega | decide) only [seval, -Int.reducePow, -Nat.reducePow, cC, pv, binv, sHkW2, undef]
  refine cvf_skip ?_
  try simp only [blockF, thenF]
  refine hK _ _ _ ?_
  clear hK K
  refine cvf_seq_k fun K hK => ?_
  refine cvf_region_then rfl rfl ?_
  simp -implicitDefEqProofs (disch := first | omega | decide) only [seval, -Int.reducePow, -Nat.reducePow, cC, pv, binv, sHkW2, undef]
  intro b10 hb10 hf10
  refine hK _ _ _ ?_
  clear hK K
  have hOB : rO.map RO.pl = rB.map RO.pl := hO1.trans hB1.symm
  have hlO : rO.length = rB.length := by have := congrArg List.length hOB; rw [List.length_map, List.length_map] at this; exact this
  refine cvf_len 2 rfl fun hlOc => ?_
  have hon : rO.length = on_ := by unfold roCells at hlOc; rw [flLen roc_len] at hlOc; omega
  refine cvf_pick [1, 2, 0, 3, 4, 5] (by decide) ?_
  simp only [pickL, nth]
  refine cvf_gen fun G1 hG => ?_
  have g1_0 := congrFun hG 0
  have g1_4 := congrFun hG 4
  have g1_7 := congrFun hG 7
  have g1_9 := congrFun hG 9
  have g1_10 := congrFun hG 10
  clear hG
  try simp -implicitDefEqProofs (disch := first | omega | decide) only [seval, -Int.reducePow, -Nat.reducePow, cC, pv, binv, sHkW2, undef] at g1_0 g1_4 g1_7 g1_9 g1_10
  have g1 := And.intro g1_0 (And.intro g1_4 (And.intro g1_7 (And.intro g1_9 g1_10)))
  refine cvf_seq_k fun K hK => ?_
  refine cvf_seq_k fun K hK => ?_
  refine cvf_region_then rfl rfl ?_
  simp -implicitDefEqProofs (disch := first | omega | decide) only [seval, -Int.reducePow, -Nat.reducePow, cC, pv, binv, sHkW2, undef, g1]
  refine hK _ _ _ ?_
  clear hK K
  refine cvf_block ?_
  refine cvf_rangeP (α := RO) (gf := 27) (lb := #[.pointer (some ⟨bx, 0, none⟩)]) (encs := encRO) (Pn := fun pre x => pre ++ [x] <+: rO) (S := fun l => l = rO) (Sp := fun pre => pre <+: rO) (A := [.blk bx 30 [.slice OA on_ oc], .row (.slice OA on_ oc) 43 6 on_ (roCells rO)]) [.blk b10 3 [.int .i64 0], .blk b7 30 [.slice BA bn bc], .blk b4 4 [.bool false], .row (.slice BA bn bc) 43 6 bn (roCells rB)] ?g ?gb ?it ?ps ?pn ?L
    (fun pre B => ∃ (k : Int), k = (pre.length : Int) ∧ B = [.blk b10 3 [.int .i64 k], .blk b7 30 [.slice BA bn bc], .blk b4 4 [.bool false], .row (.slice BA bn bc) 43 6 bn (roCells rB)]) (fun _ _ _ => False) ?h0 ?body ?done ?stop
  case g => simp -implicitDefEqProofs (disch := first | omega | decide) only [seval, -Int.reducePow, -Nat.reducePow, cC, pv, binv, sHkW2, undef, g1]
  case gb => kernel_rfl
  case it => exact own_iter OA on_ oc rO bx (by omega) (by omega)
  case ps => exact fun _ => rfl
  case pn => rfl
  case L => rfl
  case h0 => exact ⟨_, rfl, rfl⟩
  case stop => exact fun _ _ _ _ _ h => h.elim
  case body =>
    rintro l pre r R B' hpre ⟨k, hk, rfl⟩
    have hpl := hpre.length_le
    rw [List.length_append] at hpl
    simp only [List.length_singleton] at hpl
    have hrO : rO[pre.length]? = some r := by
      obtain ⟨t, ht⟩ := hpre
      rw [← ht, List.append_assoc]
      simp
    obtain ⟨r', hr'⟩ : ∃ r', rB[pre.length]? = some r' := ⟨_, List.getElem?_eq_getElem (by omega)⟩
    have hpp : r.pl = r'.pl := by
      have := congrArg (fun l => l[pre.length]?) hOB
      simpa [hrO, hr'] using this
    have hph : r.h = r'.h := congrArg RP.h hpp
    have hpw : r.ow = r'.ow := congrArg RP.ow hpp
    subst hk
    simp only [encRO, List.toList_toArray, List.zip_cons_cons, List.zip_nil_right, setF]
    refine cvf_seq_k fun K hK => ?_
    refine cvf_region_then rfl rfl ?_
    simp -implicitDefEqProofs (disch := first | omega | decide) only [seval, -Int.reducePow, -Nat.reducePow, cC, pv, binv, sHkW2, undef, g1]
    refine hK _ _ _ ?_
    clear hK K
    refine cvf_region_q rfl rfl ?_
    simp -implicitDefEqProofs (disch := first | omega | decide) only [seval, -Int.reducePow, -Nat.reducePow, cC, pv, binv, sHkW2, undef, g1]
    refine ⟨rfl, [.blk b10 3 [.int .i64 (pre.length : Int)], .blk b7 30 [.slice BA bn bc], .blk b4 4 [.bool false], .row (.slice BA bn bc) 43 6 bn (roCells rB)], rfl, fun R' => ?_⟩
    simp only [List.cons_append, List.nil_append]
    refine cvf_rowA 3 rfl (by omega) fun g hAA hg hNN => ?_
    subst hAA
    simp only [List.eraseIdx_cons_zero, List.eraseIdx_cons_succ, neB_nil, neB_blk, neB_row, neB_snap, and_true, List.not_mem_nil, or_false, sHkW2, undef] at hNN hg
    replace hg := And.intro hg hNN
    clear hNN
    refine cvf_fact (look [R'] g = none) (fun w hw => hw.look4 (by simp [Res.foot, Value.ownBlock])) fun hlk => ?_
    have hge : decide ((bn : Int) ≤ (pre.length : Int)) = false := decide_eq_false (by omega)
    refine cvf_block ?_
    refine cvf_seq_k fun K hK => ?_
    refine cvf_seq_k fun K hK => ?_
    refine cvf_region_then rfl rfl ?_
    simp -implicitDefEqProofs (disch := first | omega | decide) only [seval, -Int.reducePow, -Nat.reducePow, cC, pv, binv, sHkW2, undef, hge, hlk, g1]
    refine ⟨_, ld_row1 (m := 1) (i := pre.length * 6 + 0) (v := .int .u64 (r'.h : Int)) (nth_mem (k := 3) rfl) rfl (flGet roc_len hr' (by omega)), fun tok htok => ?_⟩
    subst htok
    simp -implicitDefEqProofs (disch := first | omega | decide) only [seval, -Int.reducePow, -Nat.reducePow, cC, pv, binv, sHkW2, undef, hlk, g1]
    rw [hph]
    simp -implicitDefEqProofs (disch := first | omega | decide) only [seval, -Int.reducePow, -Nat.reducePow, cC, pv, binv, sHkW2, undef, hlk, g1]
    refine ⟨_, ld_row1 (m := 1) (i := pre.length * 6 + 1) (v := .int .i64 r'.ow) (nth_mem (k := 3) rfl) rfl (flGet roc_len hr' (by omega)), fun tok htok => ?_⟩
    subst htok
    simp -implicitDefEqProofs (disch := first | omega | decide) only [seval, -Int.reducePow, -Nat.reducePow, cC, pv, binv, sHkW2, undef, hlk, g1]
    rw [hpw]
    simp -implicitDefEqProofs (disch := first | omega | decide) only [seval, -Int.reducePow, -Nat.reducePow, cC, pv, binv, sHkW2, undef, hlk, g1]
    refine hK _ _ _ ?_
    clear hK K
    refine cvf_cond ?_
    simp -implicitDefEqProofs (disch := first | omega | decide) only [seval, -Int.reducePow, -Nat.reducePow, cC, pv, binv, sHkW2, undef, g1]
    refine cvf_skip ?_
    try simp only [blockF, thenF]
    refine hK _ _ _ ?_
    clear hK K
    refine cvf_region_q rfl rfl ?_
    simp -implicitDefEqProofs (disch := first | omega | decide) only [seval, -Int.reducePow, -Nat.reducePow, cC, pv, binv, sHkW2, undef, g1]
    refine ⟨_, rfl, _, ?_, rfl⟩
    rw [List.length_append]
    rfl
  case done =>
    rintro d xs' B' rfl ⟨k, hk, rfl⟩
    rw [hlO] at hk
    subst hk
    simp only [List.cons_append, List.nil_append]
    simp -implicitDefEqProofs (disch := first | omega | decide) only [seval, -Int.reducePow, -Nat.reducePow, cC, pv, binv, sHkW2, undef, g1]
    refine hK _ _ _ ?_
    clear hK K
    refine cvf_pick [3, 4, 5, 6, 0] (by decide) ?_
    simp only [pickL, nth]
    refine cvf_seq_k fun K hK => ?_
    refine cvf_region_then rfl rfl ?_
    simp -implicitDefEqProofs (disch := first | omega | decide) only [seval, -Int.reducePow, -Nat.reducePow, cC, pv, binv, sHkW2, undef, g1]
    refine callV_new mapV (fun b => [mvR b (kmap (Value.int .i64) (refM es))]) _ (fun w hw => hRefused_any (hE.at hw) (by omega)) ?_
    intro bm _
    unfold mapV
    dsimp only [List.cons_append, List.nil_append]
    simp -implicitDefEqProofs (disch := first | omega | decide) only [seval, -Int.reducePow, -Nat.reducePow, cC, pv, binv, sHkW2, undef, g1]
    refine hK _ _ _ ?_
    clear hK K
    refine cvf_seq_k fun K hK => ?_
    refine cvf_region_then rfl rfl ?_
    simp -implicitDefEqProofs (disch := first | omega | decide) only [seval, -Int.reducePow, -Nat.reducePow, cC, pv, binv, sHkW2, undef, g1]
    refine hK _ _ _ ?_
    clear hK K
    refine cvf_seq_k fun K hK => ?_
    refine cvf_seq_k fun K hK => ?_
    refine cvf_region_then rfl rfl ?_
    simp -implicitDefEqProofs (disch := first | omega | decide) only [seval, -Int.reducePow, -Nat.reducePow, cC, pv, binv, sHkW2, undef, g1]
    refine hK _ _ _ ?_
    clear hK K
    refine cvf_gen fun G2 hG => ?_
    have g2_0 := congrFun hG 0
    have g2_4 := congrFun hG 4
    have g2_7 := congrFun hG 7
    have g2_10 := congrFun hG 10
    have g2_13 := congrFun hG 13
    have g2_14 := congrFun hG 14
    have g2_81 := congrFun hG 81
    have g2_82 := congrFun hG 82
    clear hG
    try simp -implicitDefEqProofs (disch := first | omega | decide) only [seval, -Int.reducePow, -Nat.reducePow, cC, pv, binv, sHkW2, undef, g1] at g2_0 g2_4 g2_7 g2_10 g2_13 g2_14 g2_81 g2_82
    have g2 := And.intro g2_0 (And.intro g2_4 (And.intro g2_7 (And.intro g2_10 (And.intro g2_13 (And.intro g2_14 (And.intro g2_81 g2_82))))))
    refine cvf_block ?_
    refine cvf_loop (fun F' L' => ∃ (i : Nat), F' 0 = G2 0 ∧ F' 4 = G2 4 ∧ F' 7 = G2 7 ∧ F' 10 = G2 10 ∧ F' 13 = G2 13 ∧ F' 14 = .int .i64 ((refM (es.take i)).length : Int) ∧ F' 81 = G2 81 ∧ F' 82 = .int .i64 (i : Int) ∧ L' = [mvR bm (kmap (Value.int .i64) (refM es)), .blk b10 3 [.int .i64 (rB.length : Int)], .blk b7 30 [.slice BA bn bc], .blk b4 4 [.bool false], .row (.slice BA bn bc) 43 6 bn (roCells rB), dfr d] ∧ i ≤ n) (fun F' L' => 2000 - (intOf (F' 82)).toNat) ?_ ?_
    · refine ⟨0, ?_⟩
      simp -implicitDefEqProofs (disch := first | omega | decide) only [seval, -Int.reducePow, -Nat.reducePow, cC, pv, binv, sHkW2, undef, g2]
      exact ⟨rfl, Nat.zero_le _⟩
    intro G3 L' hI
    obtain ⟨i, q0, q4, q7, q10, q13, q14, q81, q82, rfl, hi⟩ := hI
    have g3_0 := q0.trans g2_0
    have g3_4 := q4.trans g2_4
    have g3_7 := q7.trans g2_7
    have g3_10 := q10.trans g2_10
    have g3_13 := q13.trans g2_13
    have g3_14 := q14
    have g3_81 := q81.trans g2_81
    have g3_82 := q82
    clear q0 q4 q7 q10 q13 q14 q81 q82
    have g3 := And.intro g3_0 (And.intro g3_4 (And.intro g3_7 (And.intro g3_10 (And.intro g3_13 (And.intro g3_14 (And.intro g3_81 g3_82))))))
    refine cvf_seq_k fun K hK => ?_
    refine cvf_region_then rfl rfl ?_
    simp -implicitDefEqProofs (disch := first | omega | decide) only [seval, -Int.reducePow, -Nat.reducePow, cC, pv, binv, sHkW2, undef, g2, g3]
    refine hK _ _ _ ?_
    clear hK K
    refine cvf_seq_k fun K hK => ?_
    refine cvf_cond ?_
    simp -implicitDefEqProofs (disch := first | omega | decide) only [seval, -Int.reducePow, -Nat.reducePow, cC, pv, binv, sHkW2, undef, g2, g3]
    refine ⟨fun hc => ?_, fun hc => ?_⟩
    · refine cvf_skip ?_
      try simp only [blockF, thenF]
      have hit : i < n := by have := of_decide_eq_true ‹decide ((i : Int) < (n : Int)) = true›; omega
      obtain ⟨e, he⟩ : ∃ e, es[i]? = some e := ⟨_, List.getElem?_eq_getElem (by omega)⟩
      have htk : es.take (i + 1) = es.take i ++ [e] := by rw [List.take_add_one, he]; rfl
      have hrl := refM_len (es.take i) e
      rw [← htk] at hrl
      have hrle := refM_le (es.take i)
      rw [List.length_take] at hrle
      have hgd : ¬ e.er = 0 → (kget (refM es) e.er).getD 0 = (refN es e.er : Int) := fun h1 => by
        rw [refM_get _ _ h1]
        by_cases h0 : refN es e.er = 0 <;> simp [h0]
      have hEA := hE
      obtain ⟨bA, oA, rfl, hbA, -⟩ := hE.cells (by omega)
      refine hK _ _ _ ?_
      clear hK K
      refine cvf_seq_k fun K hK => ?_
      refine cvf_block ?_
      refine cvf_seq_k fun K hK => ?_
      refine cvf_region_then rfl rfl ?_
      simp -implicitDefEqProofs (disch := first | omega | decide) only [seval, -Int.reducePow, -Nat.reducePow, cC, pv, binv, sHkW2, undef, g2, g3]
      refine hK _ _ _ ?_
      clear hK K
      refine cvf_seq_k fun K hK => ?_
      refine cvf_region_then rfl rfl ?_
      simp -implicitDefEqProofs (disch := first | omega | decide) only [seval, -Int.reducePow, -Nat.reducePow, cC, pv, binv, sHkW2, undef, g2, g3]
      refine ⟨_, hE.ld1 (m := 1) (i := i * 5 + 4) (v := .int .i64 e.er) (by kernel_rfl) (flGet evc_len he (by omega)), fun tok htok => ?_⟩
      subst htok
      simp -implicitDefEqProofs (disch := first | omega | decide) only [seval, -Int.reducePow, -Nat.reducePow, cC, pv, binv, sHkW2, undef, g2, g3]
      refine hK _ _ _ ?_
      clear hK K
      refine cvf_gen fun G4 hG => ?_
      have g4_0 := congrFun hG 0
      have g4_4 := congrFun hG 4
      have g4_7 := congrFun hG 7
      have g4_10 := congrFun hG 10
      have g4_13 := congrFun hG 13
      have g4_14 := congrFun hG 14
      have g4_15 := congrFun hG 15
      have g4_16 := congrFun hG 16
      have g4_81 := congrFun hG 81
      have g4_82 := congrFun hG 82
      clear hG
      try simp -implicitDefEqProofs (disch := first | omega | decide) only [seval, -Int.reducePow, -Nat.reducePow, cC, pv, binv, sHkW2, undef, g2, g3] at g4_0 g4_4 g4_7 g4_10 g4_13 g4_14 g4_15 g4_16 g4_81 g4_82
      have g4 := And.intro g4_0 (And.intro g4_4 (And.intro g4_7 (And.intro g4_10 (And.intro g4_13 (And.intro g4_14 (And.intro g4_15 (And.intro g4_16 (And.intro g4_81 g4_82))))))))
      refine cvf_seq_k fun K hK => ?_
      refine cvf_seq_k fun K hK => ?_
      refine cvf_cut (fun _ _ => True) (fun F' L' => F' 0 = G4 0 ∧ F' 4 = G4 4 ∧ F' 7 = G4 7 ∧ F' 10 = G4 10 ∧ F' 13 = G4 13 ∧ F' 14 = G4 14 ∧ F' 15 = G4 15 ∧ F' 16 = G4 16 ∧ F' 81 = G4 81 ∧ F' 82 = G4 82 ∧ F' 100 = .bool false ∧ L' = [mvR bm (kmap (Value.int .i64) (refM es)), .blk b10 3 [.int .i64 (rB.length : Int)], .blk b7 30 [.slice BA bn bc], .blk b4 4 [.bool false], .row (.slice BA bn bc) 43 6 bn (roCells rB), dfr d]) ?_ ?_
      · by_cases h0 : e.er = 0
        · refine cvf_more [] (by decide) (by simp only [pickL, nth, suf_cons, suf_nil, List.mem_cons, true_or, or_true, and_true, eq_self]) (.rd 0 (.rd 1 (.rd 2 (.rd 3 (.rd 4 (.rd 6 (.rd 7 (.more 5 (.act 8 (.rd 9 (.rd 10 (.done)))) (.act 8 (.act 5 (.rd 9 (.rd 10 (.done))))))))))))) [] mixA rfl (by kernel_rfl) (by kernel_rfl) (by kernel_rfl) (by kernel_rfl) rfl ?_
          simp only [pickL, nth]
          simp -implicitDefEqProofs (disch := first | omega | decide) only [seval, -Int.reducePow, -Nat.reducePow, cC, pv, binv, sHkW2, undef, h0, g2, g3, g4]
          exact ⟨⟨[0, 1, 2, 3, 4, 5], by decide, rfl⟩, [0, 1, 2, 3, 4, 5], by decide, rfl⟩
        · refine cvf_more [] (by decide) (by simp only [pickL, nth, suf_cons, suf_nil, List.mem_cons, true_or, or_true, and_true, eq_self]) (.rd 0 (.rd 1 (.rd 2 (.rd 3 (.rd 4 (.rd 6 (.rd 7 (.more 5 (.act 8 (.rd 9 (.rd 10 (.done)))) (.act 8 (.act 5 (.rd 9 (.rd 10 (.done))))))))))))) [] mixA rfl (by kernel_rfl) (by kernel_rfl) (by kernel_rfl) (by kernel_rfl) rfl ?_
          simp only [pickL, nth]
          simp -implicitDefEqProofs (disch := first | omega | decide) only [seval, -Int.reducePow, -Nat.reducePow, cC, pv, binv, sHkW2, undef, h0, g2, g3, g4]
          refine And.intro ?_ ?_
          · refine xv_vlook1 mvEr rfl rfl (fun w hw => hw.mvH 0 rfl) ?_
            rw [vget_kmap, vint_get, hgd h0]
            simp -implicitDefEqProofs (disch := first | omega | decide) only [seval, -Int.reducePow, -Nat.reducePow, cC, pv, binv, sHkW2, undef, h0, g2, g3, g4]
            refine callV_ret (fun w hw => rRefused_any (hE.at hw) (by omega) e.er) ?_
            simp -implicitDefEqProofs (disch := first | omega | decide) only [seval, -Int.reducePow, -Nat.reducePow, cC, pv, binv, sHkW2, undef, h0, g2, g3, g4]
            refine ⟨[0, 1, 2, 3, 4, 5], by decide, ?_⟩
            simp only [pickL, nth]
          · refine callV_ret (fun w hw => rRefused_any (hE.at hw) (by omega) e.er) ?_
            simp -implicitDefEqProofs (disch := first | omega | decide) only [seval, -Int.reducePow, -Nat.reducePow, cC, pv, binv, sHkW2, undef, h0, g2, g3, g4]
            refine xv_vlook1 mvEr rfl rfl (fun w hw => hw.mvH 0 rfl) ?_
            rw [vget_kmap, vint_get, hgd h0]
            simp -implicitDefEqProofs (disch := first | omega | decide) only [seval, -Int.reducePow, -Nat.reducePow, cC, pv, binv, sHkW2, undef, h0, g2, g3, g4]
            refine ⟨[0, 1, 2, 3, 4, 5], by decide, ?_⟩
            simp only [pickL, nth]
      intro G5 L' _ hF
      obtain ⟨q0, q4, q7, q10, q13, q14, q15, q16, q81, q82, q100, rfl⟩ := hF
      have g5_0 := q0.trans g4_0
      have g5_4 := q4.trans g4_4
      have g5_7 := q7.trans g4_7
      have g5_10 := q10.trans g4_10
      have g5_13 := q13.trans g4_13
      have g5_14 := q14.trans g4_14
      have g5_15 := q15.trans g4_15
      have g5_16 := q16.trans g4_16
      have g5_81 := q81.trans g4_81
      have g5_82 := q82.trans g4_82
      have g5_100 := q100
      clear q0 q4 q7 q10 q13 q14 q15 q16 q81 q82 q100
      have g5 := And.intro g5_0 (And.intro g5_4 (And.intro g5_7 (And.intro g5_10 (And.intro g5_13 (And.intro g5_14 (And.intro g5_15 (And.intro g5_16 (And.intro g5_81 (And.intro g5_82 g5_100)))))))))
      refine hK _ _ _ ?_
      clear hK K
      refine cvf_cond ?_
      simp -implicitDefEqProofs (disch := first | omega | decide) only [seval, -Int.reducePow, -Nat.reducePow, cC, pv, binv, sHkW2, undef, g2, g3, g5]
      refine cvf_skip ?_
      try simp only [blockF, thenF]
      refine hK _ _ _ ?_
      clear hK K
      refine cvf_seq_k fun K hK => ?_
      refine cvf_region_then rfl rfl ?_
      simp -implicitDefEqProofs (disch := first | omega | decide) only [seval, -Int.reducePow, -Nat.reducePow, cC, pv, binv, sHkW2, undef, g2, g3, g5]
      refine hK _ _ _ ?_
      clear hK K
      refine cvf_seq_k fun K hK => ?_
      refine cvf_seq_k fun K hK => ?_
      refine cvf_region_then rfl rfl ?_
      simp -implicitDefEqProofs (disch := first | omega | decide) only [seval, -Int.reducePow, -Nat.reducePow, cC, pv, binv, sHkW2, undef, g2, g3, g5]
      refine hK _ _ _ ?_
      clear hK K
      refine cvf_gen fun G6 hG => ?_
      have g6_0 := congrFun hG 0
      have g6_4 := congrFun hG 4
      have g6_7 := congrFun hG 7
      have g6_10 := congrFun hG 10
      have g6_13 := congrFun hG 13
      have g6_14 := congrFun hG 14
      have g6_15 := congrFun hG 15
      have g6_16 := congrFun hG 16
      have g6_17 := congrFun hG 17
      have g6_18 := congrFun hG 18
      have g6_81 := congrFun hG 81
      have g6_82 := congrFun hG 82
      clear hG
      try simp -implicitDefEqProofs (disch := first | omega | decide) only [seval, -Int.reducePow, -Nat.reducePow, cC, pv, binv, sHkW2, undef, g2, g3, g5] at g6_0 g6_4 g6_7 g6_10 g6_13 g6_14 g6_15 g6_16 g6_17 g6_18 g6_81 g6_82
      have g6 := And.intro g6_0 (And.intro g6_4 (And.intro g6_7 (And.intro g6_10 (And.intro g6_13 (And.intro g6_14 (And.intro g6_15 (And.intro g6_16 (And.intro g6_17 (And.intro g6_18 (And.intro g6_81 g6_82))))))))))
      refine cvf_block ?_
      refine cvf_loop (fun F' L' => ∃ (j : Nat), F' 0 = G6 0 ∧ F' 4 = G6 4 ∧ F' 7 = G6 7 ∧ F' 10 = G6 10 ∧ F' 13 = G6 13 ∧ F' 14 = G6 14 ∧ F' 15 = G6 15 ∧ F' 16 = G6 16 ∧ F' 17 = .bool (fstB es j e.er) ∧ F' 18 = .int .i64 (j : Int) ∧ F' 81 = G6 81 ∧ F' 82 = G6 82 ∧ L' = [mvR bm (kmap (Value.int .i64) (refM es)), .blk b10 3 [.int .i64 (rB.length : Int)], .blk b7 30 [.slice BA bn bc], .blk b4 4 [.bool false], .row (.slice BA bn bc) 43 6 bn (roCells rB), dfr d] ∧ j ≤ i) (fun F' L' => 2000 - (intOf (F' 18)).toNat) ?_ ?_
      · refine ⟨0, ?_⟩
        simp -implicitDefEqProofs (disch := first | omega | decide) only [seval, -Int.reducePow, -Nat.reducePow, cC, pv, binv, sHkW2, undef, g2, g3, g6]
        exact ⟨rfl, Nat.zero_le _⟩
      intro G7 L' hI
      obtain ⟨j, q0, q4, q7, q10, q13, q14, q15, q16, q17, q18, q81, q82, rfl, hj⟩ := hI
      have g7_0 := q0.trans g6_0
      have g7_4 := q4.trans g6_4
      have g7_7 := q7.trans g6_7
      have g7_10 := q10.trans g6_10
      have g7_13 := q13.trans g6_13
      have g7_14 := q14.trans g6_14
      have g7_15 := q15.trans g6_15
      have g7_16 := q16.trans g6_16
      have g7_17 := q17
      have g7_18 := q18
      have g7_81 := q81.trans g6_81
      have g7_82 := q82.trans g6_82
      clear q0 q4 q7 q10 q13 q14 q15 q16 q17 q18 q81 q82
      have g7 := And.intro g7_0 (And.intro g7_4 (And.intro g7_7 (And.intro g7_10 (And.intro g7_13 (And.intro g7_14 (And.intro g7_15 (And.intro g7_16 (And.intro g7_17 (And.intro g7_18 (And.intro g7_81 g7_82))))))))))
      refine cvf_seq_k fun K hK => ?_
      refine cvf_seq_k fun K hK => ?_
      refine cvf_region_then rfl rfl ?_
      simp -implicitDefEqProofs (disch := first | omega | decide) only [seval, -Int.reducePow, -Nat.reducePow, cC, pv, binv, sHkW2, undef, g2, g3, g6, g7]
      refine hK _ _ _ ?_
      clear hK K
      refine cvf_cond ?_
      simp -implicitDefEqProofs (disch := first | omega | decide) only [seval, -Int.reducePow, -Nat.reducePow, cC, pv, binv, sHkW2, undef, g2, g3, g6, g7]
      refine ⟨fun hc => ?_, fun hc => ?_⟩
      · have hjt : j < i := by have := of_decide_eq_true hc; omega
        obtain ⟨f, hf⟩ : ∃ f, es[j]? = some f := ⟨_, List.getElem?_eq_getElem (by omega)⟩
        have hfs := fstB_snoc hf e.er
        refine cvf_skip ?_
        try simp only [blockF, thenF]
        refine hK _ _ _ ?_
        clear hK K
        refine cvf_seq_k fun K hK => ?_
        refine cvf_block ?_
        refine cvf_region_q rfl rfl ?_
        cases hff : fstB es j e.er with
        | false =>
          rw [hff] at hfs
          simp -implicitDefEqProofs (disch := first | omega | decide) only [seval, -Int.reducePow, -Nat.reducePow, cC, pv, binv, sHkW2, undef, hff, g2, g3, g6, g7]
          refine hK _ _ _ ?_
          clear hK K
          refine cvf_region_then rfl rfl ?_
          simp -implicitDefEqProofs (disch := first | omega | decide) only [seval, -Int.reducePow, -Nat.reducePow, cC, pv, binv, sHkW2, undef, g2, g3, g6, g7]
          refine ⟨⟨j + 1, ?_⟩, ?_⟩
          · simp -implicitDefEqProofs (disch := first | omega | decide) only [seval, -Int.reducePow, -Nat.reducePow, cC, pv, binv, sHkW2, undef, hfs, Int.natCast_add, g2, g3, g6, g7]
            omega
          · simp only [intOf]; omega
        | true =>
          rw [hff] at hfs
          simp -implicitDefEqProofs (disch := first | omega | decide) only [seval, -Int.reducePow, -Nat.reducePow, cC, pv, binv, sHkW2, undef, hff, g2, g3, g6, g7]
          refine ⟨_, hE.ld1 (m := 1) (i := j * 5 + 4) (v := .int .i64 f.er) (by kernel_rfl) (flGet evc_len hf (by omega)), fun tok htok => ?_⟩
          subst htok
          simp -implicitDefEqProofs (disch := first | omega | decide) only [seval, -Int.reducePow, -Nat.reducePow, cC, pv, binv, sHkW2, undef, g2, g3, g6, g7]
          refine hK _ _ _ ?_
          clear hK K
          refine cvf_region_then rfl rfl ?_
          simp -implicitDefEqProofs (disch := first | omega | decide) only [seval, -Int.reducePow, -Nat.reducePow, cC, pv, binv, sHkW2, undef, g2, g3, g6, g7]
          refine ⟨⟨j + 1, ?_⟩, ?_⟩
          · simp -implicitDefEqProofs (disch := first | omega | decide) only [seval, -Int.reducePow, -Nat.reducePow, cC, pv, binv, sHkW2, undef, hfs, Int.natCast_add, g2, g3, g6, g7]
            omega
          · simp only [intOf]; omega
      refine cvf_exit ?_
      simp only [blockF, thenF, if_true, ite_true]
      clear hK K
      refine hK _ _ _ ?_
      clear hK K
      have hji : j = i := by have := of_decide_eq_false hc; omega
      subst hji
      refine cvf_seq_k fun K hK => ?_
      refine cvf_cut (fun _ _ => True) (fun F' L' => F' 0 = G7 0 ∧ F' 4 = G7 4 ∧ F' 7 = G7 7 ∧ F' 10 = G7 10 ∧ F' 13 = G7 13 ∧ F' 14 = G7 14 ∧ F' 81 = G7 81 ∧ F' 82 = G7 82 ∧ F' 120 = .bool (!decide (e.er = 0) && fstB es j e.er) ∧ L' = [mvR bm (kmap (Value.int .i64) (refM es)), .blk b10 3 [.int .i64 (rB.length : Int)], .blk b7 30 [.slice BA bn bc], .blk b4 4 [.bool false], .row (.slice BA bn bc) 43 6 bn (roCells rB), dfr d]) ?_ ?_
      · by_cases h0 : e.er = 0
        · refine cvf_region_then rfl rfl ?_
          simp -implicitDefEqProofs (disch := first | omega | decide) only [seval, -Int.reducePow, -Nat.reducePow, cC, pv, binv, sHkW2, undef, h0, g2, g3, g6, g7]
        · refine cvf_region_then rfl rfl ?_
          simp -implicitDefEqProofs (disch := first | omega | decide) only [seval, -Int.reducePow, -Nat.reducePow, cC, pv, binv, sHkW2, undef, h0, g2, g3, g6, g7]
      intro G8 L' _ hF
      obtain ⟨q0, q4, q7, q10, q13, q14, q81, q82, q120, rfl⟩ := hF
      have g8_0 := q0.trans g7_0
      have g8_4 := q4.trans g7_4
      have g8_7 := q7.trans g7_7
      have g8_10 := q10.trans g7_10
      have g8_13 := q13.trans g7_13
      have g8_14 := q14.trans g7_14
      have g8_81 := q81.trans g7_81
      have g8_82 := q82.trans g7_82
      have g8_120 := q120
      clear q0 q4 q7 q10 q13 q14 q81 q82 q120
      have g8 := And.intro g8_0 (And.intro g8_4 (And.intro g8_7 (And.intro g8_10 (And.intro g8_13 (And.intro g8_14 (And.intro g8_81 (And.intro g8_82 g8_120)))))))
      refine hK _ _ _ ?_
      clear hK K
      refine cvf_cond ?_
      cases hb : (!decide (e.er = 0) && fstB es j e.er) with
      | true =>
        obtain ⟨hb1, hb2⟩ := Bool.and_eq_true_iff.1 hb
        rw [if_pos ⟨fun h0 => (by rw [h0] at hb1; cases hb1), fstB_iff.1 hb2⟩] at hrl
        simp -implicitDefEqProofs (disch := first | omega | decide) only [seval, -Int.reducePow, -Nat.reducePow, cC, pv, binv, sHkW2, undef, hb, g2, g3, g6, g7, g8]
        refine cvf_region_q rfl rfl ?_
        simp -implicitDefEqProofs (disch := first | omega | decide) only [seval, -Int.reducePow, -Nat.reducePow, cC, pv, binv, sHkW2, undef, g2, g3, g6, g7, g8]
        refine hK _ _ _ ?_
        clear hK K
        refine cvf_region_then rfl rfl ?_
        simp -implicitDefEqProofs (disch := first | omega | decide) only [seval, -Int.reducePow, -Nat.reducePow, cC, pv, binv, sHkW2, undef, g2, g3, g6, g7, g8]
        refine ⟨⟨j + 1, ?_⟩, ?_⟩
        · simp -implicitDefEqProofs (disch := first | omega | decide) only [seval, -Int.reducePow, -Nat.reducePow, cC, pv, binv, sHkW2, undef, hrl, Int.natCast_add, g2, g3, g6, g7, g8]
          omega
        · simp only [intOf]; omega
      | false =>
        rw [if_neg (fun h0 => by
          have h1 : (!decide (e.er = 0) && fstB es j e.er) = true := Bool.and_eq_true_iff.2 ⟨by rw [decide_eq_false h0.1]; rfl, fstB_iff.2 h0.2⟩
          rw [hb] at h1
          cases h1)] at hrl
        simp -implicitDefEqProofs (disch := first | omega | decide) only [seval, -Int.reducePow, -Nat.reducePow, cC, pv, binv, sHkW2, undef, hb, g2, g3, g6, g7, g8]
        refine cvf_skip ?_
        try simp only [blockF, thenF]
        refine hK _ _ _ ?_
        clear hK K
        refine cvf_region_then rfl rfl ?_
        simp -implicitDefEqProofs (disch := first | omega | decide) only [seval, -Int.reducePow, -Nat.reducePow, cC, pv, binv, sHkW2, undef, g2, g3, g6, g7, g8]
        refine ⟨⟨j + 1, ?_⟩, ?_⟩
        · simp -implicitDefEqProofs (disch := first | omega | decide) only [seval, -Int.reducePow, -Nat.reducePow, cC, pv, binv, sHkW2, undef, hrl, Int.natCast_add, Nat.add_zero, g2, g3, g6, g7, g8]
          omega
        · simp only [intOf]; omega
    refine cvf_exit ?_
    simp only [blockF, thenF, if_true, ite_true]
    clear hK K
    refine hK _ _ _ ?_
    clear hK K
    have hin : i = n := by have := of_decide_eq_false ‹decide ((i : Int) < (n : Int)) = false›; omega
    subst hin
    have hfull : es.take i = es := List.take_of_length_le (by omega)
    refine cvf_fact (b7 ≠ b4) (fun w hw => hw.bNe 2 3 rfl rfl (by decide)) fun hn74 => ?_
    refine cvf_seq_k fun K hK => ?_
    refine cvf_region_then rfl rfl ?_
    simp -implicitDefEqProofs (disch := first | omega | decide) only [seval, -Int.reducePow, -Nat.reducePow, cC, pv, binv, sHkW2, undef, hfull, hbn, g2, g3]
    refine xv_vlen mvEr rfl (fun w hw => hw.mvH 0 rfl) ?_
    rw [len_kmap]
    simp -implicitDefEqProofs (disch := first | omega | decide) only [seval, -Int.reducePow, -Nat.reducePow, cC, pv, binv, sHkW2, undef, hfull, g2, g3]
    refine hK _ _ _ ?_
    clear hK K
    refine cvf_pick [5, 0, 1, 2, 3, 4] (by decide) ?_
    simp only [pickL, nth]
    refine cvf_ret ?_
    simp only [retF, thenF, blockF]
    refine ⟨_, rfl, ?_⟩
    simp -implicitDefEqProofs (disch := first | omega | decide) only [seval, -Int.reducePow, -Nat.reducePow, cC, pv, binv, sHkW2, undef, ressV, packV, g2, g3]
    intro w hw
    exact hw.below
end Go.Proofs.Ytaifnipgefkemaa
/- The law HistoryRaw, walked. -/
namespace Go.Proofs.Ytaifnipgefkemaa
open Go.RowKit Go.Shelf
set_option linter.unusedVariables false
set_option linter.unusedSimpArgs false
set_option maxRecDepth 100000
set_option maxRecDepth 100000 in
theorem sHkL1 : type_of% (And.intro (And.intro @Nat.mul_one @wrap_in) (And.intro @cMv @cM)) := (And.intro (And.intro @Nat.mul_one @wrap_in) (And.intro @cMv @cM))
theorem evs_n {w : World} {B : Nat} {A : Option Addr} {n c : Nat} {es : List EvR} (h : Sl w B 5 A n c (evCells es)) {k : Nat} (hk : es.length ≤ k) : n ≤ k := by
  have := h.len
  unfold evCells at this
  rw [flLen evc_len] at this
  omega
set_option maxHeartbeats 4000000 in
theorem hRaw_walk (W : World) (A : Option Addr) (n c : Nat) (es : List EvR) (hE : Sl W W.heap.size 5 A n c (evCells es)) (hok : ∀ e ∈ es, e.ok) (B : Option Addr) (m k : Nat) (l : List Nat) (hU : Sl W W.heap.size 1 B m k (u16c l)) (hl : ∀ x ∈ l, x < 65536) (p : Int) (hp : -9223372036854775808 ≤ p ∧ p ≤ 9223372036854775807) :
    Calls Try.prog 3 #[.slice A n c, .slice B m k, .int .i64 p] W fun e w' => e = .returned (.bool true) ∧ Below W.heap.size W w' := by
  refine calls_cv (M := []) (n := 30) [.tmp 6] rfl Try.func3 rfl rfl (Nat.le_of_ble_eq_true rfl) (St.nil _ _) ?_
  refine cv_seq_k fun K hK => ?_
  refine cv_region_then rfl ?_
  simp -implicitDefEqProofs (disch := first | omega | decide) only [seval, -Int.reducePow, -Nat.reducePow, cC, pv, binv, sHkL1, undef]
  refine hK _ _ ?_
  clear hK K
  refine cv_seq_k fun K hK => ?_
  refine cv_seq_k fun K hK => ?_
  refine cv_region_then rfl ?_
  simp -implicitDefEqProofs (disch := first | omega | decide) only [seval, -Int.reducePow, -Nat.reducePow, cC, pv, binv, sHkL1, undef]
  refine hK _ _ ?_
  clear hK K
  refine cv_cond ?_
  simp -implicitDefEqProofs (disch := first | omega | decide) only [seval, -Int.reducePow, -Nat.reducePow, cC, pv, binv, sHkL1, undef]
  refine ⟨fun hc => ?_, fun hc => ?_⟩
  · refine cv_seq_k fun K hK => ?_
    refine cv_region_then rfl ?_
    simp -implicitDefEqProofs (disch := first | omega | decide) only [seval, -Int.reducePow, -Nat.reducePow, cC, pv, binv, sHkL1, undef]
    refine callV_ret (fun w hw => awake30_any w) ?_
    try simp -implicitDefEqProofs (disch := first | omega | decide) only [seval, -Int.reducePow, -Nat.reducePow, cC, pv, binv, sHkL1, undef]
    refine hK _ _ ?_
    clear hK K
    refine cv_ret ⟨_, (by simp -implicitDefEqProofs (disch := first | omega | decide) only [seval, -Int.reducePow, -Nat.reducePow, cC, pv, binv, sHkL1, undef]; rfl), fun w hw => ?_⟩
    exact ⟨rfl, hw.below⟩
  refine cv_skip ?_
  try simp only [blockQ, thenQ]
  have hn : n ≤ 24 := by have := of_decide_eq_false hc; omega
  refine hK _ _ ?_
  clear hK K
  refine cv_seq_k fun K hK => ?_
  refine cv_region_then rfl ?_
  simp -implicitDefEqProofs (disch := first | omega | decide) only [seval, -Int.reducePow, -Nat.reducePow, cC, pv, binv, sHkL1, undef]
  refine callV_ret (fun w hw => awake30_any w) ?_
  try simp -implicitDefEqProofs (disch := first | omega | decide) only [seval, -Int.reducePow, -Nat.reducePow, cC, pv, binv, sHkL1, undef]
  refine callV_ret (fun w hw => same30_any A n c es p w (hE.at hw) hok (by omega)) ?_
  try simp -implicitDefEqProofs (disch := first | omega | decide) only [seval, -Int.reducePow, -Nat.reducePow, cC, pv, binv, sHkL1, undef]
  refine callV_boxRow (fun w hw => of_any B m k l 200 w (hU.at hw) (by omega)) ?_
  intro b1 A1 n1 c1 hl1 hb1 hf1 hr1
  have hl2 : ∀ x ∈ l.take 200, x < 65536 := fun x hx => hl x (List.mem_of_mem_take hx)
  simp -implicitDefEqProofs (disch := first | omega | decide) only [seval, -Int.reducePow, -Nat.reducePow, cC, pv, binv, sHkL1, undef]
  refine callV_sub [] [tpBox b1 A1 n1 c1 0, .row (.slice A1 n1 c1) 100 1 n1 (u16c (l.take 200))] (List.Perm.swap _ _ _) evsV (evsL b1 A1 n1 c1 (l.take 200)) _ (fun w hw => hEvents_any b1 A1 n1 c1 (l.take 200) 24 hl2 (by omega) w hw) ?_
  rintro ⟨EA, en, ec, es1, j1⟩ ⟨hk1, hk2⟩
  dsimp only at hk1 hk2
  unfold evsV evsL
  dsimp only [List.append_nil]
  simp -implicitDefEqProofs (disch := first | omega | decide) only [seval, -Int.reducePow, -Nat.reducePow, cC, pv, binv, sHkL1, undef]
  refine callV_ret (fun w hw => same30_any EA en ec es1 p w (Sl.of_row hw (.head _)) hk1 (evs_n (Sl.of_row hw (.head _)) (by omega))) ?_
  try simp -implicitDefEqProofs (disch := first | omega | decide) only [seval, -Int.reducePow, -Nat.reducePow, cC, pv, binv, sHkL1, undef]
  refine callV_boxRow (fun w hw => of_any B m k l 200 w (hU.at hw) (by omega)) ?_
  intro b2 A2 n2 c2 hl4 hb2 hf2 hr2
  simp -implicitDefEqProofs (disch := first | omega | decide) only [seval, -Int.reducePow, -Nat.reducePow, cC, pv, binv, sHkL1, undef]
  refine callV_sub [.row (.slice EA en ec) 37 5 en (evCells es1), tpBox b1 A1 n1 c1 j1, .row (.slice A1 n1 c1) 100 1 n1 (u16c (l.take 200))] [tpBox b2 A2 n2 c2 0, .row (.slice A2 n2 c2) 100 1 n2 (u16c (l.take 200))] ((List.perm_append_comm (l₁ := [_, _, _]) (l₂ := [_, _])).trans (List.Perm.swap _ _ _)) evsV (evsL b2 A2 n2 c2 (l.take 200)) _ (fun w hw => hEvents_any b2 A2 n2 c2 (l.take 200) 24 hl2 (by omega) w hw) ?_
  rintro ⟨EA2, en2, ec2, es2, j2⟩ ⟨hk3, hk4⟩
  dsimp only at hk3 hk4
  unfold evsV evsL
  dsimp only [List.cons_append, List.nil_append]
  simp -implicitDefEqProofs (disch := first | omega | decide) only [seval, -Int.reducePow, -Nat.reducePow, cC, pv, binv, sHkL1, undef]
  refine callV_ret (fun w hw => same30_any EA2 en2 ec2 es2 1 w (Sl.of_row hw (.head _)) hk3 (evs_n (Sl.of_row hw (.head _)) (by omega))) ?_
  try simp -implicitDefEqProofs (disch := first | omega | decide) only [seval, -Int.reducePow, -Nat.reducePow, cC, pv, binv, sHkL1, undef]
  refine hK _ _ ?_
  clear hK K
  refine cv_ret ⟨_, (by simp -implicitDefEqProofs (disch := first | omega | decide) only [seval, -Int.reducePow, -Nat.reducePow, cC, pv, binv, sHkL1, undef]; rfl), fun w hw => ?_⟩
  exact ⟨rfl, hw.below⟩
end Go.Proofs.Ytaifnipgefkemaa
