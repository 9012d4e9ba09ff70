/- Reading a function. -/
import Derived.Test.YtehfnjaompkikaaMRd
namespace Go.Proofs.Ytehfnjaompkikaa
open Go.RowKit Go.Shelf
set_option linter.unusedVariables false
set_option linter.unusedSimpArgs false
set_option maxRecDepth 100000
/-- What is left to be read: it lies apart from the reader r. -/
structure Lt (W : World) (r : Nat) (A : Option Addr) (n c : Nat) (l : List Nat) : Prop where
  sl : Sl W W.heap.size 1 A n c (byt l)
  ap : 0 < n → Apt A [r]
  bt : ∀ x ∈ l, x < 256
  sz : n ≤ 4611686018427387904
/-- A number is read: its value, and what is left. -/
structure NumS (A : Option Addr) (n c : Nat) (l : List Nat) (e : Int) (most v : Nat) (A' : Option Addr) (n' c' : Nat) (l' : List Nat) (e' : Int) : Prop where
  ex : ∃ k, numE e l most = (v, k, e') ∧ A' = sbase c k 1 A ∧ n' = n - k ∧ c' = c - k ∧ l' = l.drop k
  le : v ≤ most
  err : ¬ e' = 0 → v = 0
  mo : most ≤ 1000000
section
variable {W w : World} {r n c n' c' most v : Nat} {A A' : Option Addr} {l l' : List Nat} {e e' : Int} {L : List Res} {α β : Type} {a : α} {R : Rs α} {g : List Nat → Rs β}
theorem Lt.len (h : Lt W r A n c l) : l.length = n := byt_row h.sl.len
theorem Lt.drop (h : Lt W r A n c l) {k : Nat} (hk : k ≤ n) : Lt W r (sbase c k 1 A) (n - k) (c - k) (l.drop k) := by
  have hsz := h.sz
  refine ⟨h.sl.bdrop hk, fun hn => ?_, drop_byte h.bt k, by omega⟩
  obtain ⟨b0, off, e, -, -⟩ := h.sl.cells (by omega)
  exact (h.ap (by omega)).sbase (.inr ⟨b0, off, e⟩) _ _ _
theorem Lt.at (h : Lt W r A n c l) (hw : St [r] W L w) : Lt w r A n c l := ⟨h.sl.atM' hw h.ap, h.ap, h.bt, h.sz⟩
/-- What is left, in every world. -/
def Sub (r : Nat) (A : Option Addr) (n c : Nat) (l : List Nat) (A' : Option Addr) (n' c' : Nat) (l' : List Nat) : Prop := ∀ V, Lt V r A n c l → Lt V r A' n' c' l'
theorem Sub.drop {A0 : Option Addr} {n0 c0 : Nat} {l0 : List Nat} (h : Sub r A0 n0 c0 l0 A n c l) {k : Nat} (hk : k ≤ n) : Sub r A0 n0 c0 l0 (sbase c k 1 A) (n - k) (c - k) (l.drop k) := fun V hV => (h V hV).drop hk
theorem NumS.sub {A0 : Option Addr} {n0 c0 : Nat} {l0 : List Nat} (h : NumS A n c l e most v A' n' c' l' e') (hs : Sub r A0 n0 c0 l0 A n c l) : Sub r A0 n0 c0 l0 A' n' c' l' := fun V hV => by
  obtain ⟨k, h1, rfl, rfl, rfl, rfl⟩ := h.ex
  have hL := hs V hV
  have hq := numE_le (e := e) hL.bt most
  rw [h1] at hq
  have hl := hL.len
  have hq2 : k ≤ l.length := hq.2.1
  exact hL.drop (k := k) (by omega)
theorem Sub.refl : Sub r A n c l A n c l := fun _ h => h
theorem Lt.num (h : Lt W r A n c l) (e : Int) (most : Nat) (hm : most ≤ 1000000) : ∃ v A' n' c' l' e', NumS A n c l e most v A' n' c' l' e' ∧ Lt W r A' n' c' l' := by
  have hq := numE_le (e := e) h.bt most
  have hl := h.len
  exact ⟨(numE e l most).1, _, _, _, _, (numE e l most).2.2, ⟨⟨(numE e l most).2.1, rfl, rfl, rfl, rfl, rfl⟩, hq.1, fun h => (hq.2.2 h).1, hm⟩, h.drop (k := (numE e l most).2.1) (by omega)⟩
theorem NumS.out (h : NumS A n c l e most v A' n' c' l' e') (ho : Out R a l e) : Out (thenX R (numX most)) (a, v) l' e' := by
  obtain ⟨k, h1, -, -, -, rfl⟩ := h.ex
  exact ho.num h1
theorem NumS.start (h : NumS A n c l e most v A' n' c' l' e') (ho : Out R a l e) : Lc g (thenX R (cntX g most)) a v 0 [] l' e' := by
  obtain ⟨k, h1, -, -, -, rfl⟩ := h.ex
  have := Lc.start (g := g) ho h1
  exact this
theorem mnum_any (h : NumS A n c l e most v A' n' c' l' e') (hW : W.heap[r]? = some (.cells (mrC A n c e).toArray 84 (0, 0))) (hL : Lt W r A n c l) :
    Calls Try.prog 55 #[.pointer (some ⟨r, 0, none⟩), .int .i64 (most : Int)] W (modP r 84 (.int .i64 (v : Int)) (mrC A' n' c' e') W) := by
  obtain ⟨k, h1, rfl, rfl, rfl, rfl⟩ := h.ex
  have := mnumber_any r A n c l most e W hW hL.sl hL.ap hL.bt h.mo
  rw [h1] at this
  exact this
theorem decI_le (hb : ∀ x ∈ l, x < 256) : (decI l).1.arg < 18446744073709551616 ∧ (decI l).2.1 ≤ l.length ∧ (¬ (decI l).2.2 = 0 → (decI l).2.1 = 0) := by
  cases l with
  | nil => exact ⟨by decide, by decide, fun _ => rfl⟩
  | cons x l =>
    have hlt := uD_lt (l := l) fun y hy => hb y (by simp [hy])
    rw [decI_cons]
    split
    · exact ⟨by decide, by simp, fun _ => rfl⟩
    · split
      · exact ⟨by simp, by simp, fun h => absurd rfl h⟩
      · split
        · refine ⟨hlt.1, ?_, fun h => absurd rfl h⟩
          have := hlt.2.1
          rw [List.length_cons]
          dsimp only
          omega
        · exact ⟨by simp, by simp, fun _ => rfl⟩
end
/-- A function that was read. -/
def fnΦ (r : Nat) (A : Option Addr) (n c : Nat) (l : List Nat) (i : FnR × Option Addr × Nat × Nat × List Nat × Int) (w w' : World) : Prop :=
  Sub r A n c l i.2.1 i.2.2.1 i.2.2.2.1 i.2.2.2.2.1 ∧ ((i.2.2.2.2.2 = 0 ∧ (∃ q, fnX l = .ok (q, i.2.2.2.2.1) ∧ fnD i.1 = qD q) ∧ Sd w' (Nw w w') 2 i.1.A i.1.n i.1.c (cl insc i.1.code) ∧ ∀ x ∈ i.1.code, x.arg < 18446744073709551616) ∨ (¬ i.2.2.2.2.2 = 0 ∧ fnX l = .error i.2.2.2.2.2))
def zFn : FnR := ⟨0, 0, 0, none, 0, 0, []⟩
set_option maxHeartbeats 4000000 in
theorem mfunc_any (r : Nat) (A : Option Addr) (n c : Nat) (l : List Nat) (W : World) (hW : W.heap[r]? = some (.cells (mrC A n c 0).toArray 84 (0, 0))) (hL : Lt W r A n c l) :
    Calls Try.prog 58 #[.pointer (some ⟨r, 0, none⟩)] W fun e w' => ∃ i, e = .returned (fnV i.1) ∧ fnΦ r A n c l i W w' ∧ w'.heap[r]? = some (.cells (mrC i.2.1 i.2.2.1 i.2.2.2.1 i.2.2.2.2.2).toArray 84 (0, 0)) ∧ Pres [r] W w' := by
  obtain ⟨v1, A1, n1, c1, l1, e1, s1, L1⟩ := hL.num 0 1024 (by omega)
  obtain ⟨v2, A2, n2, c2, l2, e2, s2, L2⟩ := L1.num e1 1024 (by omega)
  obtain ⟨v3, A3, n3, c3, l3, e3, s3, L3⟩ := L2.num e2 1024 (by omega)
  obtain ⟨v4, A4, n4, c4, l4, e4, s4, L4⟩ := L3.num e3 1024 (by omega)
  have hS : Lc inX (fnX l) ((((), v1), v2), v3) v4 0 [] l4 e4 := s4.start (s3.out (s2.out (s1.out (.start () l))))
  have hv4 := s4.le
  refine calls_cv2 (M := [r]) (n := 41) [.cell 2 43] rfl Try.func58 rfl rfl (Nat.le_of_ble_eq_true rfl)  (St.one hW) ?_
  refine cv_seq_k fun K hK => ?_
  refine cv_region_then rfl ?_
  simp -implicitDefEqProofs (disch := first | omega | decide) only [seval, -Int.reducePow, -Nat.reducePow, cA, cB, pv, binv, fresh, thenQ, blockQ, retQ, Value.oneCell', Value.cells, undef, Nat.mul_one, mrC, mrB, diV, gBox, fnV]
  intro b2 hb2 h2
  refine hK _ _ ?_
  clear hK K
  refine cv_seq_k fun K hK => ?_
  refine cv_region_then rfl ?_
  simp -implicitDefEqProofs (disch := first | omega | decide) only [seval, -Int.reducePow, -Nat.reducePow, cA, cB, pv, binv, fresh, thenQ, blockQ, retQ, Value.oneCell', Value.cells, undef, Nat.mul_one, mrC, mrB, diV, gBox, fnV]
  refine callV_mod1 1 (fun w hw => mnum_any s1 (hw.hold 1 rfl) (hL.at hw)) rfl ?_
  try simp -implicitDefEqProofs (disch := first | omega | decide) only [seval, -Int.reducePow, -Nat.reducePow, cA, cB, pv, binv, fresh, thenQ, blockQ, retQ, Value.oneCell', Value.cells, undef, Nat.mul_one, mrC, mrB, diV, gBox, fnV]
  refine callV_mod1 1 (fun w hw => mnum_any s2 (hw.hold 1 rfl) (L1.at hw)) rfl ?_
  try simp -implicitDefEqProofs (disch := first | omega | decide) only [seval, -Int.reducePow, -Nat.reducePow, cA, cB, pv, binv, fresh, thenQ, blockQ, retQ, Value.oneCell', Value.cells, undef, Nat.mul_one, mrC, mrB, diV, gBox, fnV]
  refine callV_mod1 1 (fun w hw => mnum_any s3 (hw.hold 1 rfl) (L2.at hw)) rfl ?_
  try simp -implicitDefEqProofs (disch := first | omega | decide) only [seval, -Int.reducePow, -Nat.reducePow, cA, cB, pv, binv, fresh, thenQ, blockQ, retQ, Value.oneCell', Value.cells, undef, Nat.mul_one, mrC, mrB, diV, gBox, fnV]
  intro b3 hb3 h3
  refine hK _ _ ?_
  clear hK K
  refine cv_seq_k fun K hK => ?_
  refine cv_seq_k fun K hK => ?_
  refine cv_region_then rfl ?_
  simp -implicitDefEqProofs (disch := first | omega | decide) only [seval, -Int.reducePow, -Nat.reducePow, cA, cB, pv, binv, fresh, thenQ, blockQ, retQ, Value.oneCell', Value.cells, undef, Nat.mul_one, mrC, mrB, diV, gBox, fnV]
  refine callV_mod1 2 (fun w hw => mnum_any s4 (hw.hold 2 rfl) (L3.at hw)) rfl ?_
  try simp -implicitDefEqProofs (disch := first | omega | decide) only [seval, -Int.reducePow, -Nat.reducePow, cA, cB, pv, binv, fresh, thenQ, blockQ, retQ, Value.oneCell', Value.cells, undef, Nat.mul_one, mrC, mrB, diV, gBox, fnV]
  refine hK _ _ ?_
  clear hK K
  refine cv_gen fun G1 hG => ?_
  have g1_0 := congrFun hG 0
  have g1_2 := congrFun hG 2
  have g1_3 := congrFun hG 3
  have g1_15 := congrFun hG 15
  have g1_16 := congrFun hG 16
  clear hG
  try simp -implicitDefEqProofs (disch := first | omega | decide) only [seval, -Int.reducePow, -Nat.reducePow, cA, cB, pv, binv, fresh, thenQ, blockQ, retQ, Value.oneCell', Value.cells, undef, Nat.mul_one, mrC, mrB, diV, gBox, fnV] at g1_0 g1_2 g1_3 g1_15 g1_16
  refine cv_block ?_
  refine cv_nil 46 2 ?_
  refine cv_loop (fun F' L' => ∃ (j : Nat) (A6 : Option Addr) (c6 : Nat) (cs : List Ins) (A' : Option Addr) (n' c' : Nat) (l' : List Nat) (e' : Int), F' 0 = G1 0 ∧ F' 2 = G1 2 ∧ F' 3 = G1 3 ∧ F' 15 = G1 15 ∧ F' 16 = .int .i64 (j : Int) ∧ L' = [.row (.slice A6 j c6) 46 2 j (cl insc cs), .blk b3 43 [.int .i64 (v1 : Int), .int .i64 (v2 : Int), .int .i64 (v3 : Int), .slice A6 j c6], .blk b2 43 [.int .i64 0, .int .i64 0, .int .i64 0, .slice none 0 0], mrB r A' n' c' e'] ∧ Sub r A n c l A' n' c' l' ∧ Lc inX (fnX l) ((((), v1), v2), v3) v4 j cs l' e' ∧ (∀ x ∈ cs, x.arg < 18446744073709551616) ∧ (j < v4 → e' = 0)) (fun F' L' => 2000 - (intOf (F' 16)).toNat) ?_ ?_
  · refine ⟨0, none, 0, [], A4, n4, c4, l4, e4, ?_⟩
    simp -implicitDefEqProofs (disch := first | omega | decide) only [seval, -Int.reducePow, -Nat.reducePow, cA, cB, pv, binv, fresh, thenQ, blockQ, retQ, Value.oneCell', Value.cells, undef, Nat.mul_one, mrC, mrB, diV, gBox, fnV, g1_0, g1_2, g1_3, g1_15, g1_16]
    refine ⟨rfl, s4.sub (s3.sub (s2.sub (s1.sub .refl))), hS, by simp, fun h => ?_⟩
    by_cases h0 : e4 = 0
    · exact h0
    · have := s4.err h0
      omega
  intro G2 L' hI
  obtain ⟨j, A6, c6, cs, A', n', c', l', e', q0, q2, q3, q15, q16, rfl, ⟨hsub, hS', harg, he'⟩⟩ := hI
  have g2_0 := q0.trans g1_0
  have g2_2 := q2.trans g1_2
  have g2_3 := q3.trans g1_3
  have g2_15 := q15.trans g1_15
  have g2_16 := q16
  clear q0 q2 q3 q15 q16
  have hL' := hsub W hL
  refine cv_seq_k fun K hK => ?_
  refine cv_region_then rfl ?_
  simp -implicitDefEqProofs (disch := first | omega | decide) only [seval, -Int.reducePow, -Nat.reducePow, cA, cB, pv, binv, fresh, thenQ, blockQ, retQ, Value.oneCell', Value.cells, undef, Nat.mul_one, mrC, mrB, diV, gBox, fnV, g1_0, g1_2, g1_3, g1_15, g1_16, g2_0, g2_2, g2_3, g2_15, g2_16]
  refine hK _ _ ?_
  clear hK K
  refine cv_seq_k fun K hK => ?_
  refine cv_cond ?_
  simp -implicitDefEqProofs (disch := first | omega | decide) only [seval, -Int.reducePow, -Nat.reducePow, cA, cB, pv, binv, fresh, thenQ, blockQ, retQ, Value.oneCell', Value.cells, undef, Nat.mul_one, mrC, mrB, diV, gBox, fnV, g1_0, g1_2, g1_3, g1_15, g1_16, g2_0, g2_2, g2_3, g2_15, g2_16]
  refine ⟨fun hc => ?_, fun hc => ?_⟩
  · refine cv_skip ?_
    try simp only [blockQ, thenQ]
    have hj : j < v4 := by have := of_decide_eq_true hc; omega
    have h0 := he' hj
    subst h0
    obtain ⟨d, hd⟩ : ∃ d, decI l' = d := ⟨_, rfl⟩
    have hdl := decI_le hL'.bt
    have ho := inX_out l'
    rw [hd] at hdl ho
    have hst := hS'.step hj ho
    rw [hL'.len] at hdl
    have hk' : d.2.1 = if d.2.2 = 0 then d.2.1 else 0 := by
      split
      · rfl
      · exact hdl.2.2 ‹_›
    have hcap := hL'.sl.cap
    have hmax := hL'.sl.max
    refine hK _ _ ?_
    clear hK K
    refine cv_seq_k fun K hK => ?_
    refine cv_block ?_
    refine cv_seq_k fun K hK => ?_
    refine cv_region_then rfl ?_
    simp -implicitDefEqProofs (disch := first | omega | decide) only [seval, -Int.reducePow, -Nat.reducePow, cA, cB, pv, binv, fresh, thenQ, blockQ, retQ, Value.oneCell', Value.cells, undef, Nat.mul_one, mrC, mrB, diV, gBox, fnV, g1_0, g1_2, g1_3, g1_15, g1_16, g2_0, g2_2, g2_3, g2_15, g2_16]
    refine callV_ret (fun w hw => i_dec_any A' n' c' l' w (hL'.at hw).sl hL'.bt) ?_
    try simp -implicitDefEqProofs (disch := first | omega | decide) only [seval, -Int.reducePow, -Nat.reducePow, cA, cB, pv, binv, fresh, thenQ, blockQ, retQ, Value.oneCell', Value.cells, undef, Nat.mul_one, mrC, mrB, diV, gBox, fnV, hd, g1_0, g1_2, g1_3, g1_15, g1_16, g2_0, g2_2, g2_3, g2_15, g2_16]
    intro b4 hb4 h4
    refine hK _ _ ?_
    clear hK K
    refine cv_seq_k fun K hK => ?_
    refine cv_seq_k fun K hK => ?_
    refine cv_region_then rfl ?_
    simp -implicitDefEqProofs (disch := first | omega | decide) only [seval, -Int.reducePow, -Nat.reducePow, cA, cB, pv, binv, fresh, thenQ, blockQ, retQ, Value.oneCell', Value.cells, undef, Nat.mul_one, mrC, mrB, diV, gBox, fnV, g1_0, g1_2, g1_3, g1_15, g1_16, g2_0, g2_2, g2_3, g2_15, g2_16]
    refine callV_mod1 4 (fun w hw => took_any r A' n' c' d.2.1 d.2.1 d.2.2 w (hw.hold 4 rfl) (fun _ => hdl.2.1) hcap hmax hk') rfl ?_
    try simp -implicitDefEqProofs (disch := first | omega | decide) only [seval, -Int.reducePow, -Nat.reducePow, cA, cB, pv, binv, fresh, thenQ, blockQ, retQ, Value.oneCell', Value.cells, undef, Nat.mul_one, mrC, mrB, diV, gBox, fnV, g1_0, g1_2, g1_3, g1_15, g1_16, g2_0, g2_2, g2_3, g2_15, g2_16]
    refine hK _ _ ?_
    clear hK K
    refine cv_cond ?_
    simp -implicitDefEqProofs (disch := first | omega | decide) only [seval, -Int.reducePow, -Nat.reducePow, cA, cB, pv, binv, fresh, thenQ, blockQ, retQ, Value.oneCell', Value.cells, undef, Nat.mul_one, mrC, mrB, diV, gBox, fnV, g1_0, g1_2, g1_3, g1_15, g1_16, g2_0, g2_2, g2_3, g2_15, g2_16]
    refine ⟨fun hc => ?_, fun hc => ?_⟩
    · have hne : ¬ d.2.2 = 0 := by simpa using ‹(!decide (d.2.2 = 0)) = true›
      refine cv_seq_k fun K hK => ?_
      refine cv_region_then rfl ?_
      simp -implicitDefEqProofs (disch := first | omega | decide) only [seval, -Int.reducePow, -Nat.reducePow, cA, cB, pv, binv, fresh, thenQ, blockQ, retQ, Value.oneCell', Value.cells, undef, Nat.mul_one, mrC, mrB, diV, gBox, fnV, g1_0, g1_2, g1_3, g1_15, g1_16, g2_0, g2_2, g2_3, g2_15, g2_16]
      refine hK _ _ ?_
      clear hK K
      refine cv_ret ?_
      simp -implicitDefEqProofs (disch := first | omega | decide) only [seval, -Int.reducePow, -Nat.reducePow, cA, cB, pv, binv, fresh, thenQ, blockQ, retQ, Value.oneCell', Value.cells, undef, Nat.mul_one, mrC, mrB, diV, gBox, fnV, retQ2, ressV, packV, g1_0, g1_2, g1_3, g1_15, g1_16, g2_0, g2_2, g2_3, g2_15, g2_16]
      intro w hw
      exact ⟨(zFn, _, _, _, _, _), rfl, ⟨hsub.drop hdl.2.1, .inr ⟨hne, hst.err hne⟩⟩, hw.hold 4 rfl, hw.pres⟩
    have hze : d.2.2 = 0 := by simpa using ‹(!decide (d.2.2 = 0)) = false›
    rw [hze] at hst
    refine cv_skip ?_
    try simp only [blockQ, thenQ]
    refine hK _ _ ?_
    clear hK K
    refine cv_region_q rfl ?_
    simp -implicitDefEqProofs (disch := first | omega | decide) only [seval, -Int.reducePow, -Nat.reducePow, cA, cB, pv, binv, fresh, thenQ, blockQ, retQ, Value.oneCell', Value.cells, undef, Nat.mul_one, mrC, mrB, diV, gBox, fnV, g1_0, g1_2, g1_3, g1_15, g1_16, g2_0, g2_2, g2_3, g2_15, g2_16]
    intro b36 hb36 h36
    refine appV_at 2 tap41 rfl (fun w hw => src_blk (size := 2) (.head _) rfl hw) rfl (by omega) (by omega) ?_
    intro A7 c7 hl7 hr7
    simp -implicitDefEqProofs (disch := first | omega | decide) only [seval, -Int.reducePow, -Nat.reducePow, cA, cB, pv, binv, fresh, thenQ, blockQ, retQ, Value.oneCell', Value.cells, undef, Nat.mul_one, mrC, mrB, diV, gBox, fnV, g1_0, g1_2, g1_3, g1_15, g1_16, g2_0, g2_2, g2_3, g2_15, g2_16]
    refine hK _ _ ?_
    clear hK K
    refine cv_pick [0, 3, 4, 5] (by decide) ?_
    simp only [pickL, nth]
    refine cv_region_then rfl ?_
    simp -implicitDefEqProofs (disch := first | omega | decide) only [seval, -Int.reducePow, -Nat.reducePow, cA, cB, pv, binv, fresh, thenQ, blockQ, retQ, Value.oneCell', Value.cells, undef, Nat.mul_one, mrC, mrB, diV, gBox, fnV, wrap_in, g1_0, g1_2, g1_3, g1_15, g1_16, g2_0, g2_2, g2_3, g2_15, g2_16]
    refine ⟨⟨j + 1, A7, c7, cs ++ [d.1], sbase c' d.2.1 1 A', n' - d.2.1, c' - d.2.1, l'.drop d.2.1, 0, ?_⟩, ?_⟩
    · simp -implicitDefEqProofs (disch := first | omega | decide) only [seval, -Int.reducePow, -Nat.reducePow, cA, cB, pv, binv, fresh, thenQ, blockQ, retQ, Value.oneCell', Value.cells, undef, Nat.mul_one, mrC, mrB, diV, gBox, fnV, Int.natCast_add, cl_snoc, insc, hze, g1_0, g1_2, g1_3, g1_15, g1_16, g2_0, g2_2, g2_3, g2_15, g2_16]
      repeat' (first | with_reducible exact trivial | with_reducible rfl | omega | refine And.intro ?_ ?_)
      · exact hsub.drop hdl.2.1
      · intro x hx
        rcases List.mem_append.1 hx with hx | hx
        · exact harg x hx
        · obtain rfl : x = d.1 := by simpa using hx
          exact hdl.1
    · simp only [intOf]; omega
  refine cv_exit ?_
  simp only [blockQ, thenQ, if_true, ite_true]
  clear hK K
  refine hK _ _ ?_
  clear hK K
  have hj : ¬ j < v4 := by have := of_decide_eq_false hc; omega
  have ho := hS'.fin (.inl hj)
  refine cv_seq_k fun K hK => ?_
  refine cv_region_then rfl ?_
  simp -implicitDefEqProofs (disch := first | omega | decide) only [seval, -Int.reducePow, -Nat.reducePow, cA, cB, pv, binv, fresh, thenQ, blockQ, retQ, Value.oneCell', Value.cells, undef, Nat.mul_one, mrC, mrB, diV, gBox, fnV, g1_0, g1_2, g1_3, g1_15, g1_16, g2_0, g2_2, g2_3, g2_15, g2_16]
  refine hK _ _ ?_
  clear hK K
  refine cv_ret ?_
  simp -implicitDefEqProofs (disch := first | omega | decide) only [seval, -Int.reducePow, -Nat.reducePow, cA, cB, pv, binv, fresh, thenQ, blockQ, retQ, Value.oneCell', Value.cells, undef, Nat.mul_one, mrC, mrB, diV, gBox, fnV, retQ2, ressV, packV, g1_0, g1_2, g1_3, g1_15, g1_16, g2_0, g2_2, g2_3, g2_15, g2_16]
  intro w hw
  refine ⟨(⟨v1, v2, v3, A6, j, c6, cs⟩, A', n', c', l', e'), rfl, ⟨hsub, ?_⟩, hw.hold 3 rfl, hw.pres⟩
  rcases ho with ⟨h0, ho⟩ | ⟨h0, ho⟩
  · exact .inl ⟨h0, ⟨_, ho, rfl⟩, Sd.ownNew (hw.rowNew (by simp [Res.foot])), harg⟩
  · exact .inr ⟨h0, ho⟩
end Go.Proofs.Ytehfnjaompkikaa
