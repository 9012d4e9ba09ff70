/- The law's spoiled modules. -/
import Derived.Test.YtehfnjaompkikaaMk
import Derived.Test.YtehfnjaompkikaaMore
namespace Go.Proofs.Ytehfnjaompkikaa
open Go.RowKit Go.Shelf
set_option linter.unusedVariables false
set_option linter.unusedSimpArgs false
set_option maxRecDepth 100000
theorem cl_set_op : ∀ {l : List Ins} {k : Nat} {x : Ins}, l[k]? = some x → ∀ z : Int, (cl insc l).set (k * 2) (.int .i64 z) = cl insc (l.set k ⟨z, x.arg⟩)
  | [], k, x, h, z => by simp at h
  | a :: l, 0, x, h, z => by
    obtain rfl : a = x := by simpa using h
    rfl
  | a :: l, k + 1, x, h, z => by
    have ih := cl_set_op (l := l) (k := k) (by simpa using h) z
    show (.int .i64 a.op :: .int .u64 (a.arg : Int) :: cl insc l).set ((k + 1) * 2) _ = .int .i64 a.op :: .int .u64 (a.arg : Int) :: cl insc (l.set k ⟨z, x.arg⟩)
    rw [show (k + 1) * 2 = k * 2 + 1 + 1 by omega, List.set_cons_succ, List.set_cons_succ, ih]
theorem cl_set_arg : ∀ {l : List Ins} {k : Nat} {x : Ins}, l[k]? = some x → ∀ z : Nat, (cl insc l).set (k * 2 + 1) (.int .u64 (z : Int)) = cl insc (l.set k ⟨x.op, z⟩)
  | [], k, x, h, z => by simp at h
  | a :: l, 0, x, h, z => by
    obtain rfl : a = x := by simpa using h
    rfl
  | a :: l, k + 1, x, h, z => by
    have ih := cl_set_arg (l := l) (k := k) (by simpa using h) z
    show (.int .i64 a.op :: .int .u64 (a.arg : Int) :: cl insc l).set ((k + 1) * 2 + 1) _ = .int .i64 a.op :: .int .u64 (a.arg : Int) :: cl insc (l.set k ⟨x.op, z⟩)
    rw [show (k + 1) * 2 + 1 = k * 2 + 1 + 1 + 1 by omega, List.set_cons_succ, List.set_cons_succ, ih]
/-- What a module is made of while it is spoiled: types, functions; the first function's code, and the code that is kept. -/
structure SpOk (W : World) (D : Nat → Prop) (us : List TyR) (hs : List FnR) (Af : Option Addr) (nf cf : Nat) (ds : List Ins) (A8 : Option Addr) (n8 c8 : Nat) (cs : List Ins) : Prop where
  len : 1 ≤ hs.length ∧ hs.length ≤ 100 ∧ us.length ≤ 100 ∧ cs.length ≤ 2000
  ty : ∀ t ∈ us, Sd W D 2 t.A t.n t.c (cl fdc t.fs)
  code : (Af = A8 ∧ nf = n8 ∧ cf = c8 ∧ ds = cs) ∨ (Af = none ∧ nf = 0 ∧ cf = 0 ∧ ds = [])
  fn : ∀ g ∈ hs, (Sd W D 2 g.A g.n g.c (cl insc g.code) ∧ ∀ i ∈ g.code, i.arg < 18446744073709551616) ∨ (g.A = A8 ∧ g.n = n8 ∧ g.c = c8 ∧ g.code = cs)
  arg : ∀ i ∈ cs, i.arg < 18446744073709551616
theorem arg_set {l : List Ins} (h : ∀ i ∈ l, i.arg < 18446744073709551616) (k : Nat) {y : Ins} (hy : y.arg < 18446744073709551616) : ∀ i ∈ l.set k y, i.arg < 18446744073709551616 := fun i hi => by
  rcases List.mem_or_eq_of_mem_set hi with hi | rfl
  · exact h i hi
  · exact hy
theorem cl_head {ts : List TyR} {t : TyR} (h : ts.length = 3) : tyc t ++ List.drop (tyc t).length (cl tyc ts) = cl tyc (t :: ts.tail) := by
  cases ts with
  | nil => cases h
  | cons a r => rfl
theorem cl_headF {hs : List FnR} {f : FnR} (h : 1 ≤ hs.length) : fnc f ++ List.drop (fnc f).length (cl fnc hs) = cl fnc (f :: hs.tail) := by
  cases hs with
  | nil => simp at h
  | cons a r => rfl
def rowN : List Res → Nat
  | .row (.slice _ n _) _ _ _ _ :: _ => n
  | _ => 0
/-- The spoiled module. -/
theorem sp_mod {W w : World} {D : Nat → Prop} {us : List TyR} {gs : List FnR} {A6 A7 A8 : Option Addr} {n6 c6 n7 c7 n8 c8 : Nat} {cs : List Ins} {r : Res} {R : List Res}
    (hw : St [] W (.row (.slice A6 n6 c6) 63 2 n6 (cl tyc us) :: .row (.slice A7 n7 c7) 43 4 n7 (cl fnc gs) :: r :: .row (.slice A8 n8 c8) 46 2 n8 (cl insc cs) :: R) w) (hD : ∀ y, D y → y < W.heap.size)
    (hty : ∀ t ∈ us, Sd W D 2 t.A t.n t.c (cl fdc t.fs)) (hfn : ∀ g ∈ gs, (Sd W D 2 g.A g.n g.c (cl insc g.code) ∧ ∀ i ∈ g.code, i.arg < 18446744073709551616) ∨ (g.A = A8 ∧ g.n = n8 ∧ g.c = c8 ∧ g.code = cs) ∨ (g.A = none ∧ g.n = 0 ∧ g.c = 0 ∧ g.code = [])) (ha : ∀ i ∈ cs, i.arg < 18446744073709551616) :
    ModD w (fun y => D y ∨ Nw W w y) ⟨A6, n6, c6, us, A7, n7, c7, gs⟩ := by
  have hb : ∀ y, D y → w.heap[y]? = W.heap[y]? := fun y hy => hw.pres.block y (hD y hy) (by simp)
  have hC : Sd w (Nw W w) 2 A8 n8 c8 (cl insc cs) := Sd.ownNew (hw.tail.tail.tail.rowNew (by simp))
  refine ⟨(Sd.ownNew (hw.rowNew (by simp))).mono fun y hy => .inr hy, fun t ht => (hty t ht).same hb fun y hy => .inl hy, (Sd.ownNew (hw.tail.rowNew (by simp))).mono fun y hy => .inr hy, fun g hg => ?_, fun g hg => ?_⟩
  · rcases hfn g hg with h | ⟨h1, h2, h3, h4⟩ | ⟨h1, h2, h3, h4⟩
    · exact h.1.same hb fun y hy => .inl hy
    · rw [h1, h2, h3, h4]
      exact hC.mono fun y hy => .inr hy
    · rw [h1, h2, h3, h4]
      exact Sd.nil
  · rcases hfn g hg with h | ⟨h1, h2, h3, h4⟩ | ⟨h1, h2, h3, h4⟩
    · exact h.2
    · rw [h4]
      exact ha
    · rw [h4]
      simp
set_option maxHeartbeats 8000000 in
theorem spoil_any (m : ModR) (D : Nat → Prop) (what pos : Nat) (nn : Int) (W : World) (hM : ModD W D m) (hD : ∀ y, D y → y < W.heap.size) (hg : Good m) (hwh : what ≤ 255) (hpos : pos ≤ 255) (hnn : -9223372036854775808 ≤ nn ∧ nn ≤ 9223372036854775807) :
    Calls Try.prog 12 #[modV m, .int .u8 (what : Int), .int .u8 (pos : Int), .int .i64 nn] W fun e w' => ∃ k : ModR, e = .returned (modV k) ∧ ModD w' (fun y => D y ∨ Nw W w' y) k ∧ Below W.heap.size W w' := by
  have hMm := hM.mod hD
  have hlt := hMm.tlen
  have hlg := hMm.glen
  have hE := hMm.ts
  have hG := hMm.gs
  have h3 := hg.ts
  have hg1 := hg.g1
  have hg2 := hg.g2
  obtain ⟨TA, tn, tc, ts, FA, fn, fc, gs⟩ := m
  dsimp only at hlt hlg hE hG h3 hg1 hg2
  obtain ⟨g0, gr, rfl⟩ : ∃ g r, gs = g :: r := by
    cases gs with
    | nil => simp at hg1
    | cons g r => exact ⟨g, r, rfl⟩
  obtain ⟨-, -, hc1, hc2, hok⟩ := hg.gs 0 g0 rfl
  have hC := hMm.fn g0 (by simp)
  have hcn : g0.code.length = g0.n := cl_row insc_len (by omega) hC.len
  obtain ⟨bF, oF, rfl, hbF, -⟩ := hG.cells (by simp at hlg; omega)
  obtain ⟨bT, oT, rfl, hbT, -⟩ := hE.cells (by omega)
  refine calls_cv2 (M := []) (n := 178) [.cell 8 25] rfl Try.func12 rfl rfl (Nat.le_of_ble_eq_true rfl) (St.nil _ _) ?_
  refine cv_seq_k fun K hK => ?_
  refine cv_region_then rfl ?_
  simp -implicitDefEqProofs (disch := first | omega | decide) only [seval, -Int.reducePow, -Nat.reducePow, cA, cB, pv, binv, fresh, thenQ, blockQ, retQ, Value.oneCell', Value.cells, undef, Nat.mul_one, mBox, modV, cS, cM]
  intro b4 hb4 b8 hb8 h8
  refine hK _ _ ?_
  clear hK K
  refine cv_gen fun G1 hG => ?_
  have g1_1 := congrFun hG 1
  have g1_2 := congrFun hG 2
  have g1_3 := congrFun hG 3
  have g1_4 := congrFun hG 4
  have g1_8 := congrFun hG 8
  clear hG
  try simp -implicitDefEqProofs (disch := first | omega | decide) only [seval, -Int.reducePow, -Nat.reducePow, cA, cB, pv, binv, fresh, thenQ, blockQ, retQ, Value.oneCell', Value.cells, undef, Nat.mul_one, mBox, modV, cS, cM] at g1_1 g1_2 g1_3 g1_4 g1_8
  have hgn : g0.n ≤ 200 := by omega
  refine cv_seq_k fun K hK => ?_
  refine cv_cut (fun _ _ => True) (fun F' L' => ∃ (A9 : Option Addr) (c9 b9 : Nat), F' 1 = G1 1 ∧ F' 2 = G1 2 ∧ F' 3 = G1 3 ∧ F' 4 = G1 4 ∧ F' 8 = G1 8 ∧ F' 9 = .pointer (some ⟨b9, 0, none⟩) ∧ L' = [.row (.slice A9 g0.n c9) 46 2 g0.n (cl insc g0.code), .blk b9 43 [.int .i64 g0.p, .int .i64 g0.r, .int .i64 g0.l, .slice A9 g0.n c9], .blk b8 25 [.slice none 0 0, .slice none 0 0], .blk b4 25 [.slice (some ⟨bT, oT, none⟩) tn tc, .slice (some ⟨bF, oF, none⟩) fn fc]] ∧ W.heap.size ≤ b9 ∧ b8 < b9 ∧ b4 < b9) ?_ ?_
  · refine cv_more [1] (by decide) (by simp only [pickL, nth, suf_cons, suf_nil, List.mem_cons, true_or, or_true, and_true, eq_self]) (.rd 0 (.rd 1 (.rd 2 (.rd 3 (.rd 4 (.rd 5 (.rd 6 (.rd 7 (.rd 8 (.rd 9 (.rd 10 (.rd 11 (.rd 12 (.rd 13 (.rd 14 (.rd 16 (.rd 17 (.rd 18 (.rd 19 (.rd 20 (.more 15 (.more 21 (.rd 22 (.act 23 (.act 24 (.done)))) (.act 23 (.act 21 (.rd 22 (.act 24 (.done)))))) (.act 23 (.act 15 (.act 21 (.rd 22 (.act 24 (.done))))))))))))))))))))))))))) [24] mixA rfl (by kernel_rfl) (by kernel_rfl) (by kernel_rfl) (by kernel_rfl) ?_
    simp only [pickL, nth]
    simp -implicitDefEqProofs (disch := first | omega | decide) only [seval, -Int.reducePow, -Nat.reducePow, cA, cB, pv, binv, fresh, thenQ, blockQ, retQ, Value.oneCell', Value.cells, undef, Nat.mul_one, mBox, modV, cS, cM, g1_1, g1_2, g1_3, g1_4, g1_8]
    refine ⟨_, hG.ld1 (m := 1) (i := 0) (by kernel_rfl) rfl, fun tok htok => ?_⟩
    subst htok
    simp -implicitDefEqProofs (disch := first | omega | decide) only [seval, -Int.reducePow, -Nat.reducePow, cA, cB, pv, binv, fresh, thenQ, blockQ, retQ, Value.oneCell', Value.cells, undef, Nat.mul_one, mBox, modV, cS, cM, g1_1, g1_2, g1_3, g1_4, g1_8]
    refine ⟨_, hG.ld1 (m := 1) (i := 1) (by kernel_rfl) rfl, fun tok htok => ?_⟩
    subst htok
    simp -implicitDefEqProofs (disch := first | omega | decide) only [seval, -Int.reducePow, -Nat.reducePow, cA, cB, pv, binv, fresh, thenQ, blockQ, retQ, Value.oneCell', Value.cells, undef, Nat.mul_one, mBox, modV, cS, cM, g1_1, g1_2, g1_3, g1_4, g1_8]
    refine ⟨_, hG.ld1 (m := 1) (i := 2) (by kernel_rfl) rfl, fun tok htok => ?_⟩
    subst htok
    simp -implicitDefEqProofs (disch := first | omega | decide) only [seval, -Int.reducePow, -Nat.reducePow, cA, cB, pv, binv, fresh, thenQ, blockQ, retQ, Value.oneCell', Value.cells, undef, Nat.mul_one, mBox, modV, cS, cM, g1_1, g1_2, g1_3, g1_4, g1_8]
    refine ⟨_, hG.ld1 (m := 1) (i := 3) (by kernel_rfl) rfl, fun tok htok => ?_⟩
    subst htok
    simp -implicitDefEqProofs (disch := first | omega | decide) only [seval, -Int.reducePow, -Nat.reducePow, cA, cB, pv, binv, fresh, thenQ, blockQ, retQ, Value.oneCell', Value.cells, undef, Nat.mul_one, mBox, modV, cS, cM, g1_1, g1_2, g1_3, g1_4, g1_8]
    refine ⟨?_, ?_⟩
    · intro b27 hb27 h27
      refine ⟨?_, ?_⟩
      · refine appV_lit 0 tap41 rfl rfl (fun w hw => (hC.at hw).reads) (cl_ones insc_ones _) (by omega) (by omega) ?_
        intro A9 c9 hl9 hr9
        simp -implicitDefEqProofs (disch := first | omega | decide) only [seval, -Int.reducePow, -Nat.reducePow, cA, cB, pv, binv, fresh, thenQ, blockQ, retQ, Value.oneCell', Value.cells, undef, Nat.mul_one, mBox, modV, cS, cM, g1_1, g1_2, g1_3, g1_4, g1_8]
        intro b9 hb9 h9
        refine ⟨[1, 0, 2, 3], by decide, ?_⟩
        simp only [pickL, nth]
        refine ⟨A9, c9, b9, ?_⟩
        simp -implicitDefEqProofs (disch := first | omega | decide) only [seval, -Int.reducePow, -Nat.reducePow, cA, cB, pv, binv, fresh, thenQ, blockQ, retQ, Value.oneCell', Value.cells, undef, Nat.mul_one, mBox, modV, cS, cM, g1_1, g1_2, g1_3, g1_4, g1_8]
        omega
      · intro b9 hb9 h9
        refine appV_lit 1 tap41 rfl rfl (fun w hw => (hC.at hw).reads) (cl_ones insc_ones _) (by omega) (by omega) ?_
        intro A9 c9 hl9 hr9
        simp -implicitDefEqProofs (disch := first | omega | decide) only [seval, -Int.reducePow, -Nat.reducePow, cA, cB, pv, binv, fresh, thenQ, blockQ, retQ, Value.oneCell', Value.cells, undef, Nat.mul_one, mBox, modV, cS, cM, g1_1, g1_2, g1_3, g1_4, g1_8]
        refine ⟨[0, 1, 2, 3], by decide, ?_⟩
        simp only [pickL, nth]
        refine ⟨A9, c9, b9, ?_⟩
        simp -implicitDefEqProofs (disch := first | omega | decide) only [seval, -Int.reducePow, -Nat.reducePow, cA, cB, pv, binv, fresh, thenQ, blockQ, retQ, Value.oneCell', Value.cells, undef, Nat.mul_one, mBox, modV, cS, cM, g1_1, g1_2, g1_3, g1_4, g1_8]
        omega
    · intro b9 hb9 h9 b27 hb27 h27
      refine appV_lit 0 tap41 rfl rfl (fun w hw => (hC.at hw).reads) (cl_ones insc_ones _) (by omega) (by omega) ?_
      intro A9 c9 hl9 hr9
      simp -implicitDefEqProofs (disch := first | omega | decide) only [seval, -Int.reducePow, -Nat.reducePow, cA, cB, pv, binv, fresh, thenQ, blockQ, retQ, Value.oneCell', Value.cells, undef, Nat.mul_one, mBox, modV, cS, cM, g1_1, g1_2, g1_3, g1_4, g1_8]
      refine ⟨[0, 1, 2, 3], by decide, ?_⟩
      simp only [pickL, nth]
      refine ⟨A9, c9, b9, ?_⟩
      simp -implicitDefEqProofs (disch := first | omega | decide) only [seval, -Int.reducePow, -Nat.reducePow, cA, cB, pv, binv, fresh, thenQ, blockQ, retQ, Value.oneCell', Value.cells, undef, Nat.mul_one, mBox, modV, cS, cM, g1_1, g1_2, g1_3, g1_4, g1_8]
      omega
  intro G2 L' _ hF
  obtain ⟨A9, c9, b9, q1, q2, q3, q4, q8, q9, rfl, ⟨hb9, h89, h49⟩⟩ := hF
  have g2_1 := q1.trans g1_1
  have g2_2 := q2.trans g1_2
  have g2_3 := q3.trans g1_3
  have g2_4 := q4.trans g1_4
  have g2_8 := q8.trans g1_8
  have g2_9 := q9
  clear q1 q2 q3 q4 q8 q9
  refine hK _ _ ?_
  clear hK K
  refine cv_seq_k fun K hK => ?_
  refine cv_region_then rfl ?_
  simp -implicitDefEqProofs (disch := first | omega | decide) only [seval, -Int.reducePow, -Nat.reducePow, cA, cB, pv, binv, fresh, thenQ, blockQ, retQ, Value.oneCell', Value.cells, undef, Nat.mul_one, mBox, modV, cS, cM, wrap_in, g2_1, g2_2, g2_3, g2_4, g2_8, g2_9]
  refine hK _ _ ?_
  clear hK K
  obtain ⟨k, hk⟩ : ∃ k : Nat, (pos : Int) % (g0.n : Int) = (k : Int) := ⟨pos % g0.n, by rw [Int.natCast_emod]⟩
  have hkn : k < g0.n := by
    have := Int.emod_lt_of_pos (pos : Int) (show (0 : Int) < g0.n by omega)
    omega
  refine cv_gen fun G3 hG => ?_
  have g3_1 := congrFun hG 1
  have g3_2 := congrFun hG 2
  have g3_3 := congrFun hG 3
  have g3_4 := congrFun hG 4
  have g3_8 := congrFun hG 8
  have g3_9 := congrFun hG 9
  have g3_10 := congrFun hG 10
  clear hG
  try simp -implicitDefEqProofs (disch := first | omega | decide) only [seval, -Int.reducePow, -Nat.reducePow, cA, cB, pv, binv, fresh, thenQ, blockQ, retQ, Value.oneCell', Value.cells, undef, Nat.mul_one, mBox, modV, cS, cM, hk, g2_1, g2_2, g2_3, g2_4, g2_8, g2_9] at g3_1 g3_2 g3_3 g3_4 g3_8 g3_9 g3_10
  refine cv_seq_k fun K hK => ?_
  refine cv_cut (fun _ _ => True) (fun F' L' => ∃ (A10 : Option Addr) (c10 : Nat) (A11 : Option Addr) (c11 b11 : Nat), F' 1 = G3 1 ∧ F' 2 = G3 2 ∧ F' 3 = G3 3 ∧ F' 4 = G3 4 ∧ F' 8 = G3 8 ∧ F' 9 = G3 9 ∧ F' 10 = G3 10 ∧ F' 11 = .pointer (some ⟨b11, 0, none⟩) ∧ L' = [.row (.slice A10 tn c10) 63 2 tn (cl tyc ts), .row (.slice A11 fn c11) 43 4 fn (cl fnc (g0 :: gr)), .blk b11 25 [.slice A10 tn c10, .slice A11 fn c11], .row (.slice A9 g0.n c9) 46 2 g0.n (cl insc g0.code), .blk b9 43 [.int .i64 g0.p, .int .i64 g0.r, .int .i64 g0.l, .slice A9 g0.n c9], .blk b8 25 [.slice none 0 0, .slice none 0 0], .blk b4 25 [.slice (some ⟨bT, oT, none⟩) tn tc, .slice (some ⟨bF, oF, none⟩) fn fc]] ∧ W.heap.size ≤ b11 ∧ b9 < b11 ∧ b8 < b11 ∧ b4 < b11) ?_ ?_
  · refine cv_more [3] (by decide) (by simp only [pickL, nth, suf_cons, suf_nil, List.mem_cons, true_or, or_true, and_true, eq_self]) (.rd 1 (.rd 2 (.rd 5 (.rd 6 (.more 0 (.more 3 (.more 4 (.more 7 (.rd 8 (.act 9 (.act 10 (.done)))) (.act 9 (.act 7 (.rd 8 (.act 10 (.done)))))) (.act 9 (.act 4 (.act 7 (.rd 8 (.act 10 (.done))))))) (.more 4 (.more 3 (.more 7 (.rd 8 (.act 9 (.act 10 (.done)))) (.act 9 (.act 7 (.rd 8 (.act 10 (.done)))))) (.act 9 (.act 3 (.act 7 (.rd 8 (.act 10 (.done))))))) (.act 9 (.more 3 (.act 4 (.act 7 (.rd 8 (.act 10 (.done))))) (.act 4 (.act 3 (.act 7 (.rd 8 (.act 10 (.done)))))))))) (.more 4 (.more 0 (.more 3 (.more 7 (.rd 8 (.act 9 (.act 10 (.done)))) (.act 9 (.act 7 (.rd 8 (.act 10 (.done)))))) (.act 9 (.act 3 (.act 7 (.rd 8 (.act 10 (.done))))))) (.act 9 (.act 0 (.act 3 (.act 7 (.rd 8 (.act 10 (.done)))))))) (.act 9 (.more 0 (.more 3 (.act 4 (.act 7 (.rd 8 (.act 10 (.done))))) (.act 4 (.act 3 (.act 7 (.rd 8 (.act 10 (.done))))))) (.act 4 (.act 0 (.act 3 (.act 7 (.rd 8 (.act 10 (.done))))))))))))))) [10] mixA rfl (by kernel_rfl) (by kernel_rfl) (by kernel_rfl) (by kernel_rfl) ?_
    simp only [pickL, nth]
    simp -implicitDefEqProofs (disch := first | omega | decide) only [seval, -Int.reducePow, -Nat.reducePow, cA, cB, pv, binv, fresh, thenQ, blockQ, retQ, Value.oneCell', Value.cells, undef, Nat.mul_one, mBox, modV, cS, cM, g3_1, g3_2, g3_3, g3_4, g3_8, g3_9, g3_10]
    repeat' (first
      | refine And.intro ?_ ?_
      | (intro b hb hf; skip)
      | (refine appV_lit 0 tap22 rfl rfl (fun w hw => (hE.at hw).reads) (cl_ones tyc_ones _) (by omega) (by omega) ?_
         intro A c hl hr
         simp -implicitDefEqProofs (disch := first | omega | decide) only [seval, -Int.reducePow, -Nat.reducePow, cA, cB, pv, binv, fresh, thenQ, blockQ, retQ, Value.oneCell', Value.cells, undef, Nat.mul_one, mBox, modV, cS, cM, g3_1, g3_2, g3_3, g3_4, g3_8, g3_9, g3_10])
      | (refine appV_lit 1 tap22 rfl rfl (fun w hw => (hE.at hw).reads) (cl_ones tyc_ones _) (by omega) (by omega) ?_
         intro A c hl hr
         simp -implicitDefEqProofs (disch := first | omega | decide) only [seval, -Int.reducePow, -Nat.reducePow, cA, cB, pv, binv, fresh, thenQ, blockQ, retQ, Value.oneCell', Value.cells, undef, Nat.mul_one, mBox, modV, cS, cM, g3_1, g3_2, g3_3, g3_4, g3_8, g3_9, g3_10])
      | (refine appV_lit 2 tap22 rfl rfl (fun w hw => (hE.at hw).reads) (cl_ones tyc_ones _) (by omega) (by omega) ?_
         intro A c hl hr
         simp -implicitDefEqProofs (disch := first | omega | decide) only [seval, -Int.reducePow, -Nat.reducePow, cA, cB, pv, binv, fresh, thenQ, blockQ, retQ, Value.oneCell', Value.cells, undef, Nat.mul_one, mBox, modV, cS, cM, g3_1, g3_2, g3_3, g3_4, g3_8, g3_9, g3_10])
      | (refine appV_lit 0 tap23 rfl rfl (fun w hw => (hG.at hw).reads) (cl_ones fnc_ones _) (by omega) (by omega) ?_
         intro A c hl hr
         simp -implicitDefEqProofs (disch := first | omega | decide) only [seval, -Int.reducePow, -Nat.reducePow, cA, cB, pv, binv, fresh, thenQ, blockQ, retQ, Value.oneCell', Value.cells, undef, Nat.mul_one, mBox, modV, cS, cM, g3_1, g3_2, g3_3, g3_4, g3_8, g3_9, g3_10])
      | (refine appV_lit 1 tap23 rfl rfl (fun w hw => (hG.at hw).reads) (cl_ones fnc_ones _) (by omega) (by omega) ?_
         intro A c hl hr
         simp -implicitDefEqProofs (disch := first | omega | decide) only [seval, -Int.reducePow, -Nat.reducePow, cA, cB, pv, binv, fresh, thenQ, blockQ, retQ, Value.oneCell', Value.cells, undef, Nat.mul_one, mBox, modV, cS, cM, g3_1, g3_2, g3_3, g3_4, g3_8, g3_9, g3_10])
      | (refine appV_lit 2 tap23 rfl rfl (fun w hw => (hG.at hw).reads) (cl_ones fnc_ones _) (by omega) (by omega) ?_
         intro A c hl hr
         simp -implicitDefEqProofs (disch := first | omega | decide) only [seval, -Int.reducePow, -Nat.reducePow, cA, cB, pv, binv, fresh, thenQ, blockQ, retQ, Value.oneCell', Value.cells, undef, Nat.mul_one, mBox, modV, cS, cM, g3_1, g3_2, g3_3, g3_4, g3_8, g3_9, g3_10]))
    all_goals (first
      | (refine ⟨[1, 0, 2, 3, 4, 5, 6], by decide, _, _, _, _, _, rfl, rfl, ?_⟩; omega)
      | (refine ⟨[2, 0, 1, 3, 4, 5, 6], by decide, _, _, _, _, _, rfl, rfl, ?_⟩; omega)
      | (refine ⟨[2, 1, 0, 3, 4, 5, 6], by decide, _, _, _, _, _, rfl, rfl, ?_⟩; omega))
  intro G4 L' _ hF
  obtain ⟨A10, c10, A11, c11, b11, q1, q2, q3, q4, q8, q9, q10, q11, rfl, ⟨hb11, h911, h811, h411⟩⟩ := hF
  have g4_1 := q1.trans g3_1
  have g4_2 := q2.trans g3_2
  have g4_3 := q3.trans g3_3
  have g4_4 := q4.trans g3_4
  have g4_8 := q8.trans g3_8
  have g4_9 := q9.trans g3_9
  have g4_10 := q10.trans g3_10
  have g4_11 := q11
  clear q1 q2 q3 q4 q8 q9 q10 q11
  refine hK _ _ ?_
  clear hK K
  have h1fn : 1 ≤ fn ∧ fn ≤ 2 := by omega
  have htn : tn = 3 := by omega
  refine cv_rowA 0 rfl (by omega) fun gT hAA hgT hNN => ?_
  subst hAA
  simp only [List.eraseIdx_cons_zero, List.eraseIdx_cons_succ, neB_nil, neB_blk, neB_row, neB_snap, and_true, List.not_mem_nil, or_false] at hNN hgT
  replace hgT := And.intro hgT hNN
  clear hNN
  refine cv_rowA 1 rfl (by omega) fun gF hAA hgF hNN => ?_
  subst hAA
  simp only [List.eraseIdx_cons_zero, List.eraseIdx_cons_succ, neB_nil, neB_blk, neB_row, neB_snap, and_true, List.not_mem_nil, or_false] at hNN hgF
  replace hgF := And.intro hgF hNN
  clear hNN
  refine cv_rowA 3 rfl (by omega) fun gC hAA hgC hNN => ?_
  subst hAA
  simp only [List.eraseIdx_cons_zero, List.eraseIdx_cons_succ, neB_nil, neB_blk, neB_row, neB_snap, and_true, List.not_mem_nil, or_false] at hNN hgC
  replace hgC := And.intro hgC hNN
  clear hNN
  obtain ⟨x, hx⟩ := some_of (l := g0.code) (i := k) (by omega)
  have hxa := (hok x (List.mem_of_getElem? hx)).2
  have hS0 : SpOk W D ts (g0 :: gr) (some ⟨gC, 0, none⟩) g0.n c9 g0.code (some ⟨gC, 0, none⟩) g0.n c9 g0.code := ⟨by omega, hM.ty, .inl ⟨rfl, rfl, rfl, rfl⟩, fun g hg => .inl ⟨hM.fn g hg, hM.arg g hg⟩, hM.arg g0 (by simp)⟩
  have e4 : IntKind.i64.wrap ((pos : Int) % 4) = ((pos % 4 : Nat) : Int) := by rw [wrap_in (by omega) (by omega)]; omega
  have e1023 : IntKind.i64.wrap (1023 + ((pos % 4 : Nat) : Int)) = ((1023 + pos % 4 : Nat) : Int) := by rw [wrap_in (by omega) (by omega)]; omega
  have e31 : IntKind.i64.wrap (31 + ((pos % 4 : Nat) : Int)) = ((31 + pos % 4 : Nat) : Int) := by rw [wrap_in (by omega) (by omega)]; omega
  obtain ⟨t0, hx0⟩ := some_of (l := ts) (i := 0) (by omega)
  have ht0 := hM.ty t0 (List.mem_of_getElem? hx0)
  have hset : ∀ y : Ins, y.arg < 18446744073709551616 → SpOk W D ts (g0 :: gr) (some ⟨gC, 0, none⟩) g0.n c9 (g0.code.set k y) (some ⟨gC, 0, none⟩) g0.n c9 (g0.code.set k y) := fun y hy => ⟨by rw [List.length_set]; omega, hM.ty, .inl ⟨rfl, rfl, rfl, rfl⟩, fun g hg => .inl ⟨hM.fn g hg, hM.arg g hg⟩, arg_set (hM.arg g0 (by simp)) k hy⟩
  have hS8 : SpOk W D (⟨nn, none, 0, 0, []⟩ :: ts.tail) (g0 :: gr) (some ⟨gC, 0, none⟩) g0.n c9 g0.code (some ⟨gC, 0, none⟩) g0.n c9 g0.code := ⟨⟨by omega, by omega, by rw [List.length_cons, List.length_tail]; omega, by omega⟩, fun t ht => by
    rcases List.mem_cons.1 ht with rfl | ht
    · exact Sd.nil
    · exact hM.ty t (List.mem_of_mem_tail ht), .inl ⟨rfl, rfl, rfl, rfl⟩, fun g hg => .inl ⟨hM.fn g hg, hM.arg g hg⟩, hM.arg g0 (by simp)⟩
  have hS6 : SpOk W D ts (g0 :: gr) none 0 0 [] (some ⟨gC, 0, none⟩) g0.n c9 g0.code := ⟨by omega, hM.ty, .inr ⟨rfl, rfl, rfl, rfl⟩, fun g hg => .inl ⟨hM.fn g hg, hM.arg g hg⟩, hM.arg g0 (by simp)⟩
  have hcl2 : (cl insc g0.code).length = g0.n * 2 := by rw [cl_len insc_len, hcn]
  refine cv_gen fun G5 hG => ?_
  have g5_1 := congrFun hG 1
  have g5_2 := congrFun hG 2
  have g5_3 := congrFun hG 3
  have g5_4 := congrFun hG 4
  have g5_8 := congrFun hG 8
  have g5_9 := congrFun hG 9
  have g5_10 := congrFun hG 10
  have g5_11 := congrFun hG 11
  clear hG
  try simp -implicitDefEqProofs (disch := first | omega | decide) only [seval, -Int.reducePow, -Nat.reducePow, cA, cB, pv, binv, fresh, thenQ, blockQ, retQ, Value.oneCell', Value.cells, undef, Nat.mul_one, mBox, modV, cS, cM, g4_1, g4_2, g4_3, g4_4, g4_8, g4_9, g4_10, g4_11] at g5_1 g5_2 g5_3 g5_4 g5_8 g5_9 g5_10 g5_11
  refine cv_seq_k fun K hK => ?_
  refine cv_cut (fun _ _ => True) (fun F' L' => ∃ (us : List TyR) (hs : List FnR) (p r lo : Int) (Af : Option Addr) (nf cf : Nat) (ds cs : List Ins) (A6 A7 A8 : Option Addr) (n6 c6 n7 c7 n8 c8 : Nat), F' 8 = G5 8 ∧ F' 9 = G5 9 ∧ F' 11 = G5 11 ∧ L' = [.row (.slice A6 n6 c6) 63 2 n6 (cl tyc us), .row (.slice A7 n7 c7) 43 4 n7 (cl fnc hs), .blk b11 25 [.slice A6 n6 c6, .slice A7 n7 c7], .row (.slice A8 n8 c8) 46 2 n8 (cl insc cs), .blk b9 43 [.int .i64 p, .int .i64 r, .int .i64 lo, .slice Af nf cf], .blk b8 25 [.slice none 0 0, .slice none 0 0], .blk b4 25 [.slice (some ⟨bT, oT, none⟩) tn tc, .slice (some ⟨bF, oF, none⟩) fn fc]] ∧ SpOk W D us hs Af nf cf ds A8 n8 c8 cs) ?_ ?_
  · refine cv_seq_k fun K hK => ?_
    refine cv_region_then rfl ?_
    simp -implicitDefEqProofs (disch := first | omega | decide) only [seval, -Int.reducePow, -Nat.reducePow, cA, cB, pv, binv, fresh, thenQ, blockQ, retQ, Value.oneCell', Value.cells, undef, Nat.mul_one, mBox, modV, cS, cM, g5_1, g5_2, g5_3, g5_4, g5_8, g5_9, g5_10, g5_11]
    refine hK _ _ ?_
    clear hK K
    refine cv_block ?_
    refine cv_gen fun G6 hG => ?_
    have g6_2 := congrFun hG 2
    have g6_3 := congrFun hG 3
    have g6_4 := congrFun hG 4
    have g6_8 := congrFun hG 8
    have g6_9 := congrFun hG 9
    have g6_10 := congrFun hG 10
    have g6_11 := congrFun hG 11
    have g6_51 := congrFun hG 51
    clear hG
    try simp -implicitDefEqProofs (disch := first | omega | decide) only [seval, -Int.reducePow, -Nat.reducePow, cA, cB, pv, binv, fresh, thenQ, blockQ, retQ, Value.oneCell', Value.cells, undef, Nat.mul_one, mBox, modV, cS, cM, g5_1, g5_2, g5_3, g5_4, g5_8, g5_9, g5_10, g5_11] at g6_2 g6_3 g6_4 g6_8 g6_9 g6_10 g6_11 g6_51
    refine cv_seq_k fun K hK => ?_
    refine cv_region_then rfl ?_
    simp -implicitDefEqProofs (disch := first | omega | decide) only [seval, -Int.reducePow, -Nat.reducePow, cA, cB, pv, binv, fresh, thenQ, blockQ, retQ, Value.oneCell', Value.cells, undef, Nat.mul_one, mBox, modV, cS, cM, g5_1, g5_2, g5_3, g5_4, g5_8, g5_9, g5_10, g5_11, g6_2, g6_3, g6_4, g6_8, g6_9, g6_10, g6_11, g6_51]
    refine hK _ _ ?_
    clear hK K
    refine cv_cond ?_
    simp -implicitDefEqProofs (disch := first | omega | decide) only [seval, -Int.reducePow, -Nat.reducePow, cA, cB, pv, binv, fresh, thenQ, blockQ, retQ, Value.oneCell', Value.cells, undef, Nat.mul_one, mBox, modV, cS, cM, g5_1, g5_2, g5_3, g5_4, g5_8, g5_9, g5_10, g5_11, g6_2, g6_3, g6_4, g6_8, g6_9, g6_10, g6_11, g6_51]
    refine ⟨fun hc => ?_, fun hc => ?_⟩
    · refine cv_region_q rfl ?_
      simp -implicitDefEqProofs (disch := first | omega | decide) only [seval, -Int.reducePow, -Nat.reducePow, cA, cB, pv, binv, fresh, thenQ, blockQ, retQ, Value.oneCell', Value.cells, undef, Nat.mul_one, mBox, modV, cS, cM, g5_1, g5_2, g5_3, g5_4, g5_8, g5_9, g5_10, g5_11, g6_2, g6_3, g6_4, g6_8, g6_9, g6_10, g6_11, g6_51]
      refine ⟨_, sv_row 3 rfl (by rw [hcl2]; omega) (by kernel_rfl) rfl rfl, fun tok htok => ?_⟩
      subst htok
      simp -implicitDefEqProofs (disch := first | omega | decide) only [seval, -Int.reducePow, -Nat.reducePow, cA, cB, pv, binv, fresh, thenQ, blockQ, retQ, Value.oneCell', Value.cells, undef, Nat.mul_one, mBox, modV, cS, cM, g5_1, g5_2, g5_3, g5_4, g5_8, g5_9, g5_10, g5_11, g6_2, g6_3, g6_4, g6_8, g6_9, g6_10, g6_11, g6_51]
      exact ⟨ts, g0 :: gr, g0.p, g0.r, g0.l, some ⟨gC, 0, none⟩, g0.n, c9, g0.code.set k ⟨nn.tmod 30, x.arg⟩, g0.code.set k ⟨nn.tmod 30, x.arg⟩, some ⟨gT, 0, none⟩, some ⟨gF, 0, none⟩, some ⟨gC, 0, none⟩, tn, c10, fn, c11, g0.n, c9, by rw [← cl_set_op hx], hset _ hxa⟩
    refine cv_seq_k fun K hK => ?_
    refine cv_region_then rfl ?_
    simp -implicitDefEqProofs (disch := first | omega | decide) only [seval, -Int.reducePow, -Nat.reducePow, cA, cB, pv, binv, fresh, thenQ, blockQ, retQ, Value.oneCell', Value.cells, undef, Nat.mul_one, mBox, modV, cS, cM, g5_1, g5_2, g5_3, g5_4, g5_8, g5_9, g5_10, g5_11, g6_2, g6_3, g6_4, g6_8, g6_9, g6_10, g6_11, g6_51]
    refine hK _ _ ?_
    clear hK K
    refine cv_cond ?_
    simp -implicitDefEqProofs (disch := first | omega | decide) only [seval, -Int.reducePow, -Nat.reducePow, cA, cB, pv, binv, fresh, thenQ, blockQ, retQ, Value.oneCell', Value.cells, undef, Nat.mul_one, mBox, modV, cS, cM, g5_1, g5_2, g5_3, g5_4, g5_8, g5_9, g5_10, g5_11, g6_2, g6_3, g6_4, g6_8, g6_9, g6_10, g6_11, g6_51]
    refine ⟨fun hc => ?_, fun hc => ?_⟩
    · obtain ⟨z, hz⟩ : ∃ z : Nat, IntKind.u64.wrap nn = (z : Int) := ⟨_, (Int.toNat_of_nonneg (u64w nn).1).symm⟩
      have hz64 : z < 18446744073709551616 := by have := (u64w nn).2; omega
      refine cv_region_q rfl ?_
      simp -implicitDefEqProofs (disch := first | omega | decide) only [seval, -Int.reducePow, -Nat.reducePow, cA, cB, pv, binv, fresh, thenQ, blockQ, retQ, Value.oneCell', Value.cells, undef, Nat.mul_one, mBox, modV, cS, cM, hz, g5_1, g5_2, g5_3, g5_4, g5_8, g5_9, g5_10, g5_11, g6_2, g6_3, g6_4, g6_8, g6_9, g6_10, g6_11, g6_51]
      refine ⟨_, sv_row 3 rfl (by rw [hcl2]; omega) (by kernel_rfl) rfl rfl, fun tok htok => ?_⟩
      subst htok
      simp -implicitDefEqProofs (disch := first | omega | decide) only [seval, -Int.reducePow, -Nat.reducePow, cA, cB, pv, binv, fresh, thenQ, blockQ, retQ, Value.oneCell', Value.cells, undef, Nat.mul_one, mBox, modV, cS, cM, g5_1, g5_2, g5_3, g5_4, g5_8, g5_9, g5_10, g5_11, g6_2, g6_3, g6_4, g6_8, g6_9, g6_10, g6_11, g6_51]
      exact ⟨ts, g0 :: gr, g0.p, g0.r, g0.l, some ⟨gC, 0, none⟩, g0.n, c9, g0.code.set k ⟨x.op, z⟩, g0.code.set k ⟨x.op, z⟩, some ⟨gT, 0, none⟩, some ⟨gF, 0, none⟩, some ⟨gC, 0, none⟩, tn, c10, fn, c11, g0.n, c9, by rw [← cl_set_arg hx], hset _ hz64⟩
    refine cv_seq_k fun K hK => ?_
    refine cv_region_then rfl ?_
    simp -implicitDefEqProofs (disch := first | omega | decide) only [seval, -Int.reducePow, -Nat.reducePow, cA, cB, pv, binv, fresh, thenQ, blockQ, retQ, Value.oneCell', Value.cells, undef, Nat.mul_one, mBox, modV, cS, cM, g5_1, g5_2, g5_3, g5_4, g5_8, g5_9, g5_10, g5_11, g6_2, g6_3, g6_4, g6_8, g6_9, g6_10, g6_11, g6_51]
    refine hK _ _ ?_
    clear hK K
    refine cv_cond ?_
    simp -implicitDefEqProofs (disch := first | omega | decide) only [seval, -Int.reducePow, -Nat.reducePow, cA, cB, pv, binv, fresh, thenQ, blockQ, retQ, Value.oneCell', Value.cells, undef, Nat.mul_one, mBox, modV, cS, cM, g5_1, g5_2, g5_3, g5_4, g5_8, g5_9, g5_10, g5_11, g6_2, g6_3, g6_4, g6_8, g6_9, g6_10, g6_11, g6_51]
    refine ⟨fun hc => ?_, fun hc => ?_⟩
    · refine cv_region_q rfl ?_
      simp -implicitDefEqProofs (disch := first | omega | decide) only [seval, -Int.reducePow, -Nat.reducePow, cA, cB, pv, binv, fresh, thenQ, blockQ, retQ, Value.oneCell', Value.cells, undef, Nat.mul_one, mBox, modV, cS, cM, g5_1, g5_2, g5_3, g5_4, g5_8, g5_9, g5_10, g5_11, g6_2, g6_3, g6_4, g6_8, g6_9, g6_10, g6_11, g6_51]
      exact ⟨_, _, _, _, _, _, _, _, _, _, _, _, _, _, _, _, _, _, _, rfl, hS0⟩
    refine cv_seq_k fun K hK => ?_
    refine cv_region_then rfl ?_
    simp -implicitDefEqProofs (disch := first | omega | decide) only [seval, -Int.reducePow, -Nat.reducePow, cA, cB, pv, binv, fresh, thenQ, blockQ, retQ, Value.oneCell', Value.cells, undef, Nat.mul_one, mBox, modV, cS, cM, g5_1, g5_2, g5_3, g5_4, g5_8, g5_9, g5_10, g5_11, g6_2, g6_3, g6_4, g6_8, g6_9, g6_10, g6_11, g6_51]
    refine hK _ _ ?_
    clear hK K
    refine cv_cond ?_
    simp -implicitDefEqProofs (disch := first | omega | decide) only [seval, -Int.reducePow, -Nat.reducePow, cA, cB, pv, binv, fresh, thenQ, blockQ, retQ, Value.oneCell', Value.cells, undef, Nat.mul_one, mBox, modV, cS, cM, g5_1, g5_2, g5_3, g5_4, g5_8, g5_9, g5_10, g5_11, g6_2, g6_3, g6_4, g6_8, g6_9, g6_10, g6_11, g6_51]
    refine ⟨fun hc => ?_, fun hc => ?_⟩
    · refine cv_region_q rfl ?_
      simp -implicitDefEqProofs (disch := first | omega | decide) only [seval, -Int.reducePow, -Nat.reducePow, cA, cB, pv, binv, fresh, thenQ, blockQ, retQ, Value.oneCell', Value.cells, undef, Nat.mul_one, mBox, modV, cS, cM, g5_1, g5_2, g5_3, g5_4, g5_8, g5_9, g5_10, g5_11, g6_2, g6_3, g6_4, g6_8, g6_9, g6_10, g6_11, g6_51]
      exact ⟨_, _, _, _, _, _, _, _, _, _, _, _, _, _, _, _, _, _, _, rfl, hS0⟩
    refine cv_seq_k fun K hK => ?_
    refine cv_region_then rfl ?_
    simp -implicitDefEqProofs (disch := first | omega | decide) only [seval, -Int.reducePow, -Nat.reducePow, cA, cB, pv, binv, fresh, thenQ, blockQ, retQ, Value.oneCell', Value.cells, undef, Nat.mul_one, mBox, modV, cS, cM, g5_1, g5_2, g5_3, g5_4, g5_8, g5_9, g5_10, g5_11, g6_2, g6_3, g6_4, g6_8, g6_9, g6_10, g6_11, g6_51]
    refine hK _ _ ?_
    clear hK K
    refine cv_cond ?_
    simp -implicitDefEqProofs (disch := first | omega | decide) only [seval, -Int.reducePow, -Nat.reducePow, cA, cB, pv, binv, fresh, thenQ, blockQ, retQ, Value.oneCell', Value.cells, undef, Nat.mul_one, mBox, modV, cS, cM, g5_1, g5_2, g5_3, g5_4, g5_8, g5_9, g5_10, g5_11, g6_2, g6_3, g6_4, g6_8, g6_9, g6_10, g6_11, g6_51]
    refine ⟨fun hc => ?_, fun hc => ?_⟩
    · refine cv_region_q rfl ?_
      simp -implicitDefEqProofs (disch := first | omega | decide) only [seval, -Int.reducePow, -Nat.reducePow, cA, cB, pv, binv, fresh, thenQ, blockQ, retQ, Value.oneCell', Value.cells, undef, Nat.mul_one, mBox, modV, cS, cM, g5_1, g5_2, g5_3, g5_4, g5_8, g5_9, g5_10, g5_11, g6_2, g6_3, g6_4, g6_8, g6_9, g6_10, g6_11, g6_51]
      exact ⟨_, _, _, _, _, _, _, _, _, _, _, _, _, _, _, _, _, _, _, rfl, hS0⟩
    refine cv_seq_k fun K hK => ?_
    refine cv_region_then rfl ?_
    simp -implicitDefEqProofs (disch := first | omega | decide) only [seval, -Int.reducePow, -Nat.reducePow, cA, cB, pv, binv, fresh, thenQ, blockQ, retQ, Value.oneCell', Value.cells, undef, Nat.mul_one, mBox, modV, cS, cM, g5_1, g5_2, g5_3, g5_4, g5_8, g5_9, g5_10, g5_11, g6_2, g6_3, g6_4, g6_8, g6_9, g6_10, g6_11, g6_51]
    refine hK _ _ ?_
    clear hK K
    refine cv_cond ?_
    simp -implicitDefEqProofs (disch := first | omega | decide) only [seval, -Int.reducePow, -Nat.reducePow, cA, cB, pv, binv, fresh, thenQ, blockQ, retQ, Value.oneCell', Value.cells, undef, Nat.mul_one, mBox, modV, cS, cM, g5_1, g5_2, g5_3, g5_4, g5_8, g5_9, g5_10, g5_11, g6_2, g6_3, g6_4, g6_8, g6_9, g6_10, g6_11, g6_51]
    refine ⟨fun hc => ?_, fun hc => ?_⟩
    · refine cv_region_q rfl ?_
      simp -implicitDefEqProofs (disch := first | omega | decide) only [seval, -Int.reducePow, -Nat.reducePow, cA, cB, pv, binv, fresh, thenQ, blockQ, retQ, Value.oneCell', Value.cells, undef, Nat.mul_one, mBox, modV, cS, cM, g5_1, g5_2, g5_3, g5_4, g5_8, g5_9, g5_10, g5_11, g6_2, g6_3, g6_4, g6_8, g6_9, g6_10, g6_11, g6_51]
      exact ⟨_, _, _, _, _, _, _, _, _, _, _, _, _, _, _, _, _, _, _, rfl, hS0⟩
    refine cv_seq_k fun K hK => ?_
    refine cv_region_then rfl ?_
    simp -implicitDefEqProofs (disch := first | omega | decide) only [seval, -Int.reducePow, -Nat.reducePow, cA, cB, pv, binv, fresh, thenQ, blockQ, retQ, Value.oneCell', Value.cells, undef, Nat.mul_one, mBox, modV, cS, cM, g5_1, g5_2, g5_3, g5_4, g5_8, g5_9, g5_10, g5_11, g6_2, g6_3, g6_4, g6_8, g6_9, g6_10, g6_11, g6_51]
    refine hK _ _ ?_
    clear hK K
    refine cv_cond ?_
    simp -implicitDefEqProofs (disch := first | omega | decide) only [seval, -Int.reducePow, -Nat.reducePow, cA, cB, pv, binv, fresh, thenQ, blockQ, retQ, Value.oneCell', Value.cells, undef, Nat.mul_one, mBox, modV, cS, cM, g5_1, g5_2, g5_3, g5_4, g5_8, g5_9, g5_10, g5_11, g6_2, g6_3, g6_4, g6_8, g6_9, g6_10, g6_11, g6_51]
    refine ⟨fun hc => ?_, fun hc => ?_⟩
    · refine cv_region_q rfl ?_
      simp -implicitDefEqProofs (disch := first | omega | decide) only [seval, -Int.reducePow, -Nat.reducePow, cA, cB, pv, binv, fresh, thenQ, blockQ, retQ, Value.oneCell', Value.cells, undef, Nat.mul_one, mBox, modV, cS, cM, g5_1, g5_2, g5_3, g5_4, g5_8, g5_9, g5_10, g5_11, g6_2, g6_3, g6_4, g6_8, g6_9, g6_10, g6_11, g6_51]
      exact ⟨_, _, _, _, _, _, _, _, _, _, _, _, _, _, _, _, _, _, _, rfl, hS6⟩
    refine cv_seq_k fun K hK => ?_
    refine cv_region_then rfl ?_
    simp -implicitDefEqProofs (disch := first | omega | decide) only [seval, -Int.reducePow, -Nat.reducePow, cA, cB, pv, binv, fresh, thenQ, blockQ, retQ, Value.oneCell', Value.cells, undef, Nat.mul_one, mBox, modV, cS, cM, g5_1, g5_2, g5_3, g5_4, g5_8, g5_9, g5_10, g5_11, g6_2, g6_3, g6_4, g6_8, g6_9, g6_10, g6_11, g6_51]
    refine hK _ _ ?_
    clear hK K
    refine cv_cond ?_
    simp -implicitDefEqProofs (disch := first | omega | decide) only [seval, -Int.reducePow, -Nat.reducePow, cA, cB, pv, binv, fresh, thenQ, blockQ, retQ, Value.oneCell', Value.cells, undef, Nat.mul_one, mBox, modV, cS, cM, g5_1, g5_2, g5_3, g5_4, g5_8, g5_9, g5_10, g5_11, g6_2, g6_3, g6_4, g6_8, g6_9, g6_10, g6_11, g6_51]
    refine ⟨fun hc => ?_, fun hc => ?_⟩
    · refine cv_seq_k fun K hK => ?_
      refine cv_region_then rfl ?_
      simp -implicitDefEqProofs (disch := first | omega | decide) only [seval, -Int.reducePow, -Nat.reducePow, cA, cB, pv, binv, fresh, thenQ, blockQ, retQ, Value.oneCell', Value.cells, undef, Nat.mul_one, mBox, modV, cS, cM, g5_1, g5_2, g5_3, g5_4, g5_8, g5_9, g5_10, g5_11, g6_2, g6_3, g6_4, g6_8, g6_9, g6_10, g6_11, g6_51]
      refine hK _ _ ?_
      clear hK K
      refine cv_seq_k fun K hK => ?_
      refine cv_region_then rfl ?_
      simp -implicitDefEqProofs (disch := first | omega | decide) only [seval, -Int.reducePow, -Nat.reducePow, cA, cB, pv, binv, fresh, thenQ, blockQ, retQ, Value.oneCell', Value.cells, undef, Nat.mul_one, mBox, modV, cS, cM, g5_1, g5_2, g5_3, g5_4, g5_8, g5_9, g5_10, g5_11, g6_2, g6_3, g6_4, g6_8, g6_9, g6_10, g6_11, g6_51]
      refine hK _ _ ?_
      clear hK K
      refine cv_ret ?_
      simp -implicitDefEqProofs (disch := first | omega | decide) only [seval, -Int.reducePow, -Nat.reducePow, cA, cB, pv, binv, fresh, thenQ, blockQ, retQ, Value.oneCell', Value.cells, undef, Nat.mul_one, mBox, modV, cS, cM, retQ2, ressV, packV, g5_1, g5_2, g5_3, g5_4, g5_8, g5_9, g5_10, g5_11, g6_2, g6_3, g6_4, g6_8, g6_9, g6_10, g6_11, g6_51]
      intro w hw
      refine ⟨⟨some ⟨gT, 0, none⟩, tn, c10, ts, none, 0, 0, []⟩, rfl, ?_, hw.below⟩
      have := sp_mod hw hD hM.ty (gs := g0 :: gr) (fun g hg => (hS0.fn g hg).imp id .inl) hS0.arg
      exact ⟨this.ts, this.ty, Sd.nil, by simp, by simp⟩
    refine cv_seq_k fun K hK => ?_
    refine cv_region_then rfl ?_
    simp -implicitDefEqProofs (disch := first | omega | decide) only [seval, -Int.reducePow, -Nat.reducePow, cA, cB, pv, binv, fresh, thenQ, blockQ, retQ, Value.oneCell', Value.cells, undef, Nat.mul_one, mBox, modV, cS, cM, g5_1, g5_2, g5_3, g5_4, g5_8, g5_9, g5_10, g5_11, g6_2, g6_3, g6_4, g6_8, g6_9, g6_10, g6_11, g6_51]
    refine hK _ _ ?_
    clear hK K
    refine cv_cond ?_
    simp -implicitDefEqProofs (disch := first | omega | decide) only [seval, -Int.reducePow, -Nat.reducePow, cA, cB, pv, binv, fresh, thenQ, blockQ, retQ, Value.oneCell', Value.cells, undef, Nat.mul_one, mBox, modV, cS, cM, g5_1, g5_2, g5_3, g5_4, g5_8, g5_9, g5_10, g5_11, g6_2, g6_3, g6_4, g6_8, g6_9, g6_10, g6_11, g6_51]
    refine ⟨fun hc => ?_, fun hc => ?_⟩
    · refine cv_region_q rfl ?_
      simp -implicitDefEqProofs (disch := first | omega | decide) only [seval, -Int.reducePow, -Nat.reducePow, cA, cB, pv, binv, fresh, thenQ, blockQ, retQ, Value.oneCell', Value.cells, undef, Nat.mul_one, mBox, modV, cS, cM, g5_1, g5_2, g5_3, g5_4, g5_8, g5_9, g5_10, g5_11, g6_2, g6_3, g6_4, g6_8, g6_9, g6_10, g6_11, g6_51]
      refine ⟨_, sv_rows 0 (i := 0) (vs := tyc ⟨nn, none, 0, 0, []⟩) rfl (by rw [cl_len tyc_len]; simp [tyc_len]; omega) (by kernel_rfl) rfl, fun tok htok => ?_⟩
      subst htok
      simp -implicitDefEqProofs (disch := first | omega | decide) only [seval, -Int.reducePow, -Nat.reducePow, cA, cB, pv, binv, fresh, thenQ, blockQ, retQ, Value.oneCell', Value.cells, undef, Nat.mul_one, mBox, modV, cS, cM, g5_1, g5_2, g5_3, g5_4, g5_8, g5_9, g5_10, g5_11, g6_2, g6_3, g6_4, g6_8, g6_9, g6_10, g6_11, g6_51]
      exact ⟨⟨nn, none, 0, 0, []⟩ :: ts.tail, g0 :: gr, g0.p, g0.r, g0.l, some ⟨gC, 0, none⟩, g0.n, c9, g0.code, g0.code, some ⟨gT, 0, none⟩, some ⟨gF, 0, none⟩, some ⟨gC, 0, none⟩, tn, c10, fn, c11, g0.n, c9, by rw [cl_head h3], hS8⟩
    refine cv_seq_k fun K hK => ?_
    refine cv_region_then rfl ?_
    simp -implicitDefEqProofs (disch := first | omega | decide) only [seval, -Int.reducePow, -Nat.reducePow, cA, cB, pv, binv, fresh, thenQ, blockQ, retQ, Value.oneCell', Value.cells, undef, Nat.mul_one, mBox, modV, cS, cM, g5_1, g5_2, g5_3, g5_4, g5_8, g5_9, g5_10, g5_11, g6_2, g6_3, g6_4, g6_8, g6_9, g6_10, g6_11, g6_51]
    refine hK _ _ ?_
    clear hK K
    refine cv_cond ?_
    simp -implicitDefEqProofs (disch := first | omega | decide) only [seval, -Int.reducePow, -Nat.reducePow, cA, cB, pv, binv, fresh, thenQ, blockQ, retQ, Value.oneCell', Value.cells, undef, Nat.mul_one, mBox, modV, cS, cM, g5_1, g5_2, g5_3, g5_4, g5_8, g5_9, g5_10, g5_11, g6_2, g6_3, g6_4, g6_8, g6_9, g6_10, g6_11, g6_51]
    refine ⟨fun hc => ?_, fun hc => ?_⟩
    · have e70 : IntKind.i64.wrap ((pos : Int) % 70) = ((pos % 70 : Nat) : Int) := by rw [wrap_in (by omega) (by omega)]; omega
      obtain ⟨z1, hz1⟩ : ∃ z, nn.tmod 70 = z := ⟨_, rfl⟩
      obtain ⟨z2, hz2⟩ : ∃ z, nn.tmod 10 = z := ⟨_, rfl⟩
      refine cv_pick_post [2, 0, 3, 4, 5, 6, 7] (by decide) ?_
      refine cv_region_q rfl ?_
      simp -implicitDefEqProofs (maxSteps := 1000000) (disch := first | omega | decide) only [seval, -Int.reducePow, -Nat.reducePow, cA, cB, pv, binv, fresh, thenQ, blockQ, retQ, Value.oneCell', Value.cells, undef, Nat.mul_one, mBox, modV, cS, cM, e70, hz1, hz2, g5_1, g5_2, g5_3, g5_4, g5_8, g5_9, g5_10, g5_11, g6_2, g6_3, g6_4, g6_8, g6_9, g6_10, g6_11, g6_51]
      intro b117 hb117 h117
      refine appV_at 2 tap23 rfl (fun w hw => src_blk (size := 4) (.head _) rfl hw) rfl (by omega) (by omega) ?_
      intro A7 c7 hl7 hr7
      simp -implicitDefEqProofs (disch := first | omega | decide) only [seval, -Int.reducePow, -Nat.reducePow, cA, cB, pv, binv, fresh, thenQ, blockQ, retQ, Value.oneCell', Value.cells, undef, Nat.mul_one, mBox, modV, cS, cM, g5_1, g5_2, g5_3, g5_4, g5_8, g5_9, g5_10, g5_11, g6_2, g6_3, g6_4, g6_8, g6_9, g6_10, g6_11, g6_51]
      refine ⟨ts, (g0 :: gr) ++ [⟨z1, z2, (pos % 70 : Nat), some ⟨gC, 0, none⟩, g0.n, c9, g0.code⟩], g0.p, g0.r, g0.l, some ⟨gC, 0, none⟩, g0.n, c9, g0.code, g0.code, some ⟨gT, 0, none⟩, A7, some ⟨gC, 0, none⟩, tn, c10, fn + 1, c7, g0.n, c9, by rw [cl_snoc]; rfl, ⟨by rw [List.length_append, List.length_singleton]; omega, hM.ty, .inl ⟨rfl, rfl, rfl, rfl⟩, fun g hg => ?_, hM.arg g0 (by simp)⟩⟩
      rcases List.mem_append.1 hg with hg | hg
      · exact .inl ⟨hM.fn g hg, hM.arg g hg⟩
      · obtain rfl : g = ⟨z1, z2, (pos % 70 : Nat), some ⟨gC, 0, none⟩, g0.n, c9, g0.code⟩ := by simpa using hg
        exact .inr ⟨rfl, rfl, rfl, rfl⟩
    refine cv_seq_k fun K hK => ?_
    refine cv_region_then rfl ?_
    simp -implicitDefEqProofs (disch := first | omega | decide) only [seval, -Int.reducePow, -Nat.reducePow, cA, cB, pv, binv, fresh, thenQ, blockQ, retQ, Value.oneCell', Value.cells, undef, Nat.mul_one, mBox, modV, cS, cM, g5_1, g5_2, g5_3, g5_4, g5_8, g5_9, g5_10, g5_11, g6_2, g6_3, g6_4, g6_8, g6_9, g6_10, g6_11, g6_51]
    refine hK _ _ ?_
    clear hK K
    refine cv_cond ?_
    simp -implicitDefEqProofs (disch := first | omega | decide) only [seval, -Int.reducePow, -Nat.reducePow, cA, cB, pv, binv, fresh, thenQ, blockQ, retQ, Value.oneCell', Value.cells, undef, Nat.mul_one, mBox, modV, cS, cM, g5_1, g5_2, g5_3, g5_4, g5_8, g5_9, g5_10, g5_11, g6_2, g6_3, g6_4, g6_8, g6_9, g6_10, g6_11, g6_51]
    refine ⟨fun hc => ?_, fun hc => ?_⟩
    · refine cv_block ?_
      refine cv_loop (fun F' L' => ∃ (us : List TyR) (A6 : Option Addr) (n6 c6 : Nat), F' 2 = G6 2 ∧ F' 4 = G6 4 ∧ F' 8 = G6 8 ∧ F' 9 = G6 9 ∧ F' 11 = G6 11 ∧ L' = [.row (.slice A6 n6 c6) 63 2 n6 (cl tyc us), .row (.slice (some ⟨gF, 0, none⟩) fn c11) 43 4 fn (cl fnc (g0 :: gr)), .blk b11 25 [.slice A6 n6 c6, .slice (some ⟨gF, 0, none⟩) fn c11], .row (.slice (some ⟨gC, 0, none⟩) g0.n c9) 46 2 g0.n (cl insc g0.code), .blk b9 43 [.int .i64 g0.p, .int .i64 g0.r, .int .i64 g0.l, .slice (some ⟨gC, 0, none⟩) g0.n c9], .blk b8 25 [.slice none 0 0, .slice none 0 0], .blk b4 25 [.slice (some ⟨bT, oT, none⟩) tn tc, .slice (some ⟨bF, oF, none⟩) fn fc]] ∧ (∀ t ∈ us, Sd W D 2 t.A t.n t.c (cl fdc t.fs)) ∧ us.length = n6 ∧ n6 ≤ 40) (fun F' L' => 60 - rowN L') ?_ ?_
      · refine ⟨ts, some ⟨gT, 0, none⟩, tn, c10, ?_⟩
        simp -implicitDefEqProofs (disch := first | omega | decide) only [seval, -Int.reducePow, -Nat.reducePow, cA, cB, pv, binv, fresh, thenQ, blockQ, retQ, Value.oneCell', Value.cells, undef, Nat.mul_one, mBox, modV, cS, cM, g5_1, g5_2, g5_3, g5_4, g5_8, g5_9, g5_10, g5_11, g6_2, g6_3, g6_4, g6_8, g6_9, g6_10, g6_11, g6_51]
        exact ⟨hM.ty, by omega, by omega⟩
      intro G7 L' hI
      obtain ⟨us, A6, n6, c6, q2, q4, q8, q9, q11, rfl, ⟨hus, hul, hu40⟩⟩ := hI
      have g7_2 := q2.trans g6_2
      have g7_4 := q4.trans g6_4
      have g7_8 := q8.trans g6_8
      have g7_9 := q9.trans g6_9
      have g7_11 := q11.trans g6_11
      clear q2 q4 q8 q9 q11
      refine cv_seq_k fun K hK => ?_
      refine cv_seq_k fun K hK => ?_
      refine cv_region_then rfl ?_
      simp -implicitDefEqProofs (disch := first | omega | decide) only [seval, -Int.reducePow, -Nat.reducePow, cA, cB, pv, binv, fresh, thenQ, blockQ, retQ, Value.oneCell', Value.cells, undef, Nat.mul_one, mBox, modV, cS, cM, e4, e31, g5_1, g5_2, g5_3, g5_4, g5_8, g5_9, g5_10, g5_11, g6_2, g6_3, g6_4, g6_8, g6_9, g6_10, g6_11, g6_51, g7_2, g7_4, g7_8, g7_9, g7_11]
      refine hK _ _ ?_
      clear hK K
      refine cv_cond ?_
      simp -implicitDefEqProofs (disch := first | omega | decide) only [seval, -Int.reducePow, -Nat.reducePow, cA, cB, pv, binv, fresh, thenQ, blockQ, retQ, Value.oneCell', Value.cells, undef, Nat.mul_one, mBox, modV, cS, cM, g5_1, g5_2, g5_3, g5_4, g5_8, g5_9, g5_10, g5_11, g6_2, g6_3, g6_4, g6_8, g6_9, g6_10, g6_11, g6_51, g7_2, g7_4, g7_8, g7_9, g7_11]
      refine ⟨fun hc => ?_, fun hc => ?_⟩
      · have hlt' : n6 < 31 + pos % 4 := by have := of_decide_eq_true hc; omega
        refine cv_skip ?_
        try simp only [blockQ, thenQ]
        refine hK _ _ ?_
        clear hK K
        refine cv_block ?_
        refine cv_pick_post [0, 2, 3, 4, 5, 6, 7] (by decide) ?_
        refine cv_q ?_
        refine cv_draw_of (pickL [2, 6] _) (fun w hw => hw.pick (by decide)) (by simp only [pickL, nth, suf_cons, suf_nil, List.mem_cons, true_or, or_true, and_true, eq_self]) [(true, 0), (true, 1), (true, 2), (true, 3), (true, 4), (true, 5), (false, 6), (false, 7), (true, 8), (false, 9)] [9] mixA rfl (by kernel_rfl) (by kernel_rfl) rfl rfl ?_
        simp -implicitDefEqProofs (disch := first | omega | decide) only [seval, -Int.reducePow, -Nat.reducePow, cA, cB, pv, binv, fresh, thenQ, blockQ, retQ, Value.oneCell', Value.cells, undef, Nat.mul_one, mBox, modV, cS, cM, g5_1, g5_2, g5_3, g5_4, g5_8, g5_9, g5_10, g5_11, g6_2, g6_3, g6_4, g6_8, g6_9, g6_10, g6_11, g6_51, g7_2, g7_4, g7_8, g7_9, g7_11]
        refine ⟨_, hE.tyl hx0, fun tok htok => ?_⟩
        subst htok
        simp -implicitDefEqProofs (disch := first | omega | decide) only [seval, -Int.reducePow, -Nat.reducePow, cA, cB, pv, binv, fresh, thenQ, blockQ, retQ, Value.oneCell', Value.cells, undef, Nat.mul_one, mBox, modV, cS, cM, g5_1, g5_2, g5_3, g5_4, g5_8, g5_9, g5_10, g5_11, g6_2, g6_3, g6_4, g6_8, g6_9, g6_10, g6_11, g6_51, g7_2, g7_4, g7_8, g7_9, g7_11]
        intro b136 hb136 h136
        refine appV_at 1 tap22 rfl (fun w hw => src_blk (size := 2) (.head _) rfl hw) rfl (by omega) (by omega) ?_
        intro A5 c5 hl5 hr5
        simp -implicitDefEqProofs (disch := first | omega | decide) only [seval, -Int.reducePow, -Nat.reducePow, cA, cB, pv, binv, fresh, thenQ, blockQ, retQ, Value.oneCell', Value.cells, undef, Nat.mul_one, mBox, modV, cS, cM, g5_1, g5_2, g5_3, g5_4, g5_8, g5_9, g5_10, g5_11, g6_2, g6_3, g6_4, g6_8, g6_9, g6_10, g6_11, g6_51, g7_2, g7_4, g7_8, g7_9, g7_11]
        refine ⟨⟨us ++ [t0], A5, n6 + 1, c5, by rw [cl_snoc]; rfl, fun t ht => ?_, by simp [hul], by omega⟩, by simp only [rowN]; omega⟩
        rcases List.mem_append.1 ht with ht | ht
        · exact hus t ht
        · obtain rfl : t = t0 := by simpa using ht
          exact ht0
      · refine cv_exit ?_
        simp -implicitDefEqProofs (disch := first | omega | decide) only [seval, -Int.reducePow, -Nat.reducePow, cA, cB, pv, binv, fresh, thenQ, blockQ, retQ, Value.oneCell', Value.cells, undef, Nat.mul_one, mBox, modV, cS, cM, g5_1, g5_2, g5_3, g5_4, g5_8, g5_9, g5_10, g5_11, g6_2, g6_3, g6_4, g6_8, g6_9, g6_10, g6_11, g6_51, g7_2, g7_4, g7_8, g7_9, g7_11]
        exact ⟨us, g0 :: gr, g0.p, g0.r, g0.l, some ⟨gC, 0, none⟩, g0.n, c9, g0.code, g0.code, A6, some ⟨gF, 0, none⟩, some ⟨gC, 0, none⟩, n6, c6, fn, c11, g0.n, c9, rfl, ⟨by omega, hus, .inl ⟨rfl, rfl, rfl, rfl⟩, fun g hg => .inl ⟨hM.fn g hg, hM.arg g hg⟩, hM.arg g0 (by simp)⟩⟩
    refine cv_seq_k fun K hK => ?_
    refine cv_region_then rfl ?_
    simp -implicitDefEqProofs (disch := first | omega | decide) only [seval, -Int.reducePow, -Nat.reducePow, cA, cB, pv, binv, fresh, thenQ, blockQ, retQ, Value.oneCell', Value.cells, undef, Nat.mul_one, mBox, modV, cS, cM, g5_1, g5_2, g5_3, g5_4, g5_8, g5_9, g5_10, g5_11, g6_2, g6_3, g6_4, g6_8, g6_9, g6_10, g6_11, g6_51]
    refine hK _ _ ?_
    clear hK K
    refine cv_cond ?_
    simp -implicitDefEqProofs (disch := first | omega | decide) only [seval, -Int.reducePow, -Nat.reducePow, cA, cB, pv, binv, fresh, thenQ, blockQ, retQ, Value.oneCell', Value.cells, undef, Nat.mul_one, mBox, modV, cS, cM, g5_1, g5_2, g5_3, g5_4, g5_8, g5_9, g5_10, g5_11, g6_2, g6_3, g6_4, g6_8, g6_9, g6_10, g6_11, g6_51]
    refine ⟨fun hc => ?_, fun hc => ?_⟩
    · refine cv_pick_post [1, 0, 2, 3, 4, 5, 6] (by decide) ?_
      refine cv_pick [1, 0, 2, 3, 4, 5, 6] (by decide) ?_
      simp only [pickL, nth]
      refine cv_block ?_
      refine cv_loop (fun F' L' => ∃ (hs : List FnR) (A7 : Option Addr) (n7 c7 : Nat), F' 2 = G6 2 ∧ F' 8 = G6 8 ∧ F' 9 = G6 9 ∧ F' 11 = G6 11 ∧ L' = [.row (.slice A7 n7 c7) 43 4 n7 (cl fnc hs), .row (.slice (some ⟨gT, 0, none⟩) tn c10) 63 2 tn (cl tyc ts), .blk b11 25 [.slice (some ⟨gT, 0, none⟩) tn c10, .slice A7 n7 c7], .row (.slice (some ⟨gC, 0, none⟩) g0.n c9) 46 2 g0.n (cl insc g0.code), .blk b9 43 [.int .i64 g0.p, .int .i64 g0.r, .int .i64 g0.l, .slice (some ⟨gC, 0, none⟩) g0.n c9], .blk b8 25 [.slice none 0 0, .slice none 0 0], .blk b4 25 [.slice (some ⟨bT, oT, none⟩) tn tc, .slice (some ⟨bF, oF, none⟩) fn fc]] ∧ (∀ g ∈ hs, (Sd W D 2 g.A g.n g.c (cl insc g.code) ∧ ∀ i ∈ g.code, i.arg < 18446744073709551616) ∨ (g.A = some ⟨gC, 0, none⟩ ∧ g.n = g0.n ∧ g.c = c9 ∧ g.code = g0.code)) ∧ hs.length = n7 ∧ 1 ≤ n7 ∧ n7 ≤ 40) (fun F' L' => 60 - rowN L') ?_ ?_
      · refine ⟨g0 :: gr, some ⟨gF, 0, none⟩, fn, c11, ?_⟩
        simp -implicitDefEqProofs (disch := first | omega | decide) only [seval, -Int.reducePow, -Nat.reducePow, cA, cB, pv, binv, fresh, thenQ, blockQ, retQ, Value.oneCell', Value.cells, undef, Nat.mul_one, mBox, modV, cS, cM, g5_1, g5_2, g5_3, g5_4, g5_8, g5_9, g5_10, g5_11, g6_2, g6_3, g6_4, g6_8, g6_9, g6_10, g6_11, g6_51]
        have hlg' : gr.length + 1 = fn := by simpa using hlg
        exact ⟨fun g hg => .inl ⟨hM.fn g (by simpa using hg), hM.arg g (by simpa using hg)⟩, by omega⟩
      intro G8 L' hI
      obtain ⟨hs, A7, n7, c7, q2, q8, q9, q11, rfl, ⟨hus, hul, hu1, hu40⟩⟩ := hI
      have g8_2 := q2.trans g6_2
      have g8_8 := q8.trans g6_8
      have g8_9 := q9.trans g6_9
      have g8_11 := q11.trans g6_11
      clear q2 q8 q9 q11
      refine cv_seq_k fun K hK => ?_
      refine cv_seq_k fun K hK => ?_
      refine cv_region_then rfl ?_
      simp -implicitDefEqProofs (disch := first | omega | decide) only [seval, -Int.reducePow, -Nat.reducePow, cA, cB, pv, binv, fresh, thenQ, blockQ, retQ, Value.oneCell', Value.cells, undef, Nat.mul_one, mBox, modV, cS, cM, e4, e31, g5_1, g5_2, g5_3, g5_4, g5_8, g5_9, g5_10, g5_11, g6_2, g6_3, g6_4, g6_8, g6_9, g6_10, g6_11, g6_51, g8_2, g8_8, g8_9, g8_11]
      refine hK _ _ ?_
      clear hK K
      refine cv_cond ?_
      simp -implicitDefEqProofs (disch := first | omega | decide) only [seval, -Int.reducePow, -Nat.reducePow, cA, cB, pv, binv, fresh, thenQ, blockQ, retQ, Value.oneCell', Value.cells, undef, Nat.mul_one, mBox, modV, cS, cM, g5_1, g5_2, g5_3, g5_4, g5_8, g5_9, g5_10, g5_11, g6_2, g6_3, g6_4, g6_8, g6_9, g6_10, g6_11, g6_51, g8_2, g8_8, g8_9, g8_11]
      refine ⟨fun hc => ?_, fun hc => ?_⟩
      · have hlt' : n7 < 31 + pos % 4 := by have := of_decide_eq_true hc; omega
        refine cv_skip ?_
        try simp only [blockQ, thenQ]
        refine hK _ _ ?_
        clear hK K
        refine cv_block ?_
        refine cv_pick_post [0, 2, 3, 4, 5, 6, 7] (by decide) ?_
        refine cv_region_q rfl ?_
        simp -implicitDefEqProofs (maxSteps := 1000000) (disch := first | omega | decide) only [seval, -Int.reducePow, -Nat.reducePow, cA, cB, pv, binv, fresh, thenQ, blockQ, retQ, Value.oneCell', Value.cells, undef, Nat.mul_one, mBox, modV, cS, cM, g5_1, g5_2, g5_3, g5_4, g5_8, g5_9, g5_10, g5_11, g6_2, g6_3, g6_4, g6_8, g6_9, g6_10, g6_11, g6_51, g8_2, g8_8, g8_9, g8_11]
        intro b154 hb154 h154
        refine appV_at 1 tap23 rfl (fun w hw => src_blk (size := 4) (.head _) rfl hw) rfl (by omega) (by omega) ?_
        intro A5 c5 hl5 hr5
        simp -implicitDefEqProofs (disch := first | omega | decide) only [seval, -Int.reducePow, -Nat.reducePow, cA, cB, pv, binv, fresh, thenQ, blockQ, retQ, Value.oneCell', Value.cells, undef, Nat.mul_one, mBox, modV, cS, cM, g5_1, g5_2, g5_3, g5_4, g5_8, g5_9, g5_10, g5_11, g6_2, g6_3, g6_4, g6_8, g6_9, g6_10, g6_11, g6_51, g8_2, g8_8, g8_9, g8_11]
        refine ⟨⟨hs ++ [⟨0, 0, 0, some ⟨gC, 0, none⟩, g0.n, c9, g0.code⟩], A5, n7 + 1, c5, by rw [cl_snoc]; rfl, fun g hg => ?_, by simp [hul], by omega, by omega⟩, by simp only [rowN]; omega⟩
        rcases List.mem_append.1 hg with hg | hg
        · exact hus g hg
        · obtain rfl : g = ⟨0, 0, 0, some ⟨gC, 0, none⟩, g0.n, c9, g0.code⟩ := by simpa using hg
          exact .inr ⟨rfl, rfl, rfl, rfl⟩
      · refine cv_exit ?_
        simp -implicitDefEqProofs (disch := first | omega | decide) only [seval, -Int.reducePow, -Nat.reducePow, cA, cB, pv, binv, fresh, thenQ, blockQ, retQ, Value.oneCell', Value.cells, undef, Nat.mul_one, mBox, modV, cS, cM, g5_1, g5_2, g5_3, g5_4, g5_8, g5_9, g5_10, g5_11, g6_2, g6_3, g6_4, g6_8, g6_9, g6_10, g6_11, g6_51, g8_2, g8_8, g8_9, g8_11]
        exact ⟨ts, hs, g0.p, g0.r, g0.l, some ⟨gC, 0, none⟩, g0.n, c9, g0.code, g0.code, some ⟨gT, 0, none⟩, A7, some ⟨gC, 0, none⟩, tn, c10, n7, c7, g0.n, c9, rfl, ⟨by omega, hM.ty, .inl ⟨rfl, rfl, rfl, rfl⟩, hus, hM.arg g0 (by simp)⟩⟩
    refine cv_seq_k fun K hK => ?_
    refine cv_region_then rfl ?_
    simp -implicitDefEqProofs (disch := first | omega | decide) only [seval, -Int.reducePow, -Nat.reducePow, cA, cB, pv, binv, fresh, thenQ, blockQ, retQ, Value.oneCell', Value.cells, undef, Nat.mul_one, mBox, modV, cS, cM, g5_1, g5_2, g5_3, g5_4, g5_8, g5_9, g5_10, g5_11, g6_2, g6_3, g6_4, g6_8, g6_9, g6_10, g6_11, g6_51]
    refine hK _ _ ?_
    clear hK K
    refine cv_cond ?_
    simp -implicitDefEqProofs (disch := first | omega | decide) only [seval, -Int.reducePow, -Nat.reducePow, cA, cB, pv, binv, fresh, thenQ, blockQ, retQ, Value.oneCell', Value.cells, undef, Nat.mul_one, mBox, modV, cS, cM, g5_1, g5_2, g5_3, g5_4, g5_8, g5_9, g5_10, g5_11, g6_2, g6_3, g6_4, g6_8, g6_9, g6_10, g6_11, g6_51]
    refine ⟨fun hc => ?_, fun hc => ?_⟩
    · refine cv_pick_post [1, 2, 3, 0, 4, 5, 6] (by decide) ?_
      refine cv_pick [3, 0, 1, 2, 4, 5, 6] (by decide) ?_
      simp only [pickL, nth]
      refine cv_block ?_
      refine cv_loop (fun F' L' => ∃ (cs : List Ins) (A8 : Option Addr) (n8 c8 : Nat), F' 2 = G6 2 ∧ F' 8 = G6 8 ∧ F' 9 = G6 9 ∧ F' 11 = G6 11 ∧ L' = [.row (.slice A8 n8 c8) 46 2 n8 (cl insc cs), .row (.slice (some ⟨gT, 0, none⟩) tn c10) 63 2 tn (cl tyc ts), .row (.slice (some ⟨gF, 0, none⟩) fn c11) 43 4 fn (cl fnc (g0 :: gr)), .blk b11 25 [.slice (some ⟨gT, 0, none⟩) tn c10, .slice (some ⟨gF, 0, none⟩) fn c11], .blk b9 43 [.int .i64 g0.p, .int .i64 g0.r, .int .i64 g0.l, .slice A8 n8 c8], .blk b8 25 [.slice none 0 0, .slice none 0 0], .blk b4 25 [.slice (some ⟨bT, oT, none⟩) tn tc, .slice (some ⟨bF, oF, none⟩) fn fc]] ∧ (∀ i ∈ cs, i.arg < 18446744073709551616) ∧ cs.length = n8 ∧ n8 ≤ 1100) (fun F' L' => 1200 - rowN L') ?_ ?_
      · refine ⟨g0.code, some ⟨gC, 0, none⟩, g0.n, c9, ?_⟩
        simp -implicitDefEqProofs (disch := first | omega | decide) only [seval, -Int.reducePow, -Nat.reducePow, cA, cB, pv, binv, fresh, thenQ, blockQ, retQ, Value.oneCell', Value.cells, undef, Nat.mul_one, mBox, modV, cS, cM, g5_1, g5_2, g5_3, g5_4, g5_8, g5_9, g5_10, g5_11, g6_2, g6_3, g6_4, g6_8, g6_9, g6_10, g6_11, g6_51]
        exact ⟨hM.arg g0 (by simp), by omega, by omega⟩
      intro G9 L' hI
      obtain ⟨cs, A8, n8, c8, q2, q8, q9, q11, rfl, ⟨hus, hul, hu40⟩⟩ := hI
      have g9_2 := q2.trans g6_2
      have g9_8 := q8.trans g6_8
      have g9_9 := q9.trans g6_9
      have g9_11 := q11.trans g6_11
      clear q2 q8 q9 q11
      refine cv_seq_k fun K hK => ?_
      refine cv_seq_k fun K hK => ?_
      refine cv_region_then rfl ?_
      simp -implicitDefEqProofs (disch := first | omega | decide) only [seval, -Int.reducePow, -Nat.reducePow, cA, cB, pv, binv, fresh, thenQ, blockQ, retQ, Value.oneCell', Value.cells, undef, Nat.mul_one, mBox, modV, cS, cM, e4, e1023, g5_1, g5_2, g5_3, g5_4, g5_8, g5_9, g5_10, g5_11, g6_2, g6_3, g6_4, g6_8, g6_9, g6_10, g6_11, g6_51, g9_2, g9_8, g9_9, g9_11]
      refine hK _ _ ?_
      clear hK K
      refine cv_cond ?_
      simp -implicitDefEqProofs (disch := first | omega | decide) only [seval, -Int.reducePow, -Nat.reducePow, cA, cB, pv, binv, fresh, thenQ, blockQ, retQ, Value.oneCell', Value.cells, undef, Nat.mul_one, mBox, modV, cS, cM, g5_1, g5_2, g5_3, g5_4, g5_8, g5_9, g5_10, g5_11, g6_2, g6_3, g6_4, g6_8, g6_9, g6_10, g6_11, g6_51, g9_2, g9_8, g9_9, g9_11]
      refine ⟨fun hc => ?_, fun hc => ?_⟩
      · have hlt' : n8 < 1023 + pos % 4 := by have := of_decide_eq_true hc; omega
        refine cv_skip ?_
        try simp only [blockQ, thenQ]
        refine hK _ _ ?_
        clear hK K
        refine cv_block ?_
        refine cv_pick_post [0, 2, 3, 4, 5, 6, 7] (by decide) ?_
        refine cv_region_q rfl ?_
        simp -implicitDefEqProofs (maxSteps := 1000000) (disch := first | omega | decide) only [seval, -Int.reducePow, -Nat.reducePow, cA, cB, pv, binv, fresh, thenQ, blockQ, retQ, Value.oneCell', Value.cells, undef, Nat.mul_one, mBox, modV, cS, cM, g5_1, g5_2, g5_3, g5_4, g5_8, g5_9, g5_10, g5_11, g6_2, g6_3, g6_4, g6_8, g6_9, g6_10, g6_11, g6_51, g9_2, g9_8, g9_9, g9_11]
        intro b170 hb170 h170
        refine appV_at 1 tap41 rfl (fun w hw => src_blk (size := 2) (.head _) rfl hw) rfl (by omega) (by omega) ?_
        intro A5 c5 hl5 hr5
        simp -implicitDefEqProofs (disch := first | omega | decide) only [seval, -Int.reducePow, -Nat.reducePow, cA, cB, pv, binv, fresh, thenQ, blockQ, retQ, Value.oneCell', Value.cells, undef, Nat.mul_one, mBox, modV, cS, cM, g5_1, g5_2, g5_3, g5_4, g5_8, g5_9, g5_10, g5_11, g6_2, g6_3, g6_4, g6_8, g6_9, g6_10, g6_11, g6_51, g9_2, g9_8, g9_9, g9_11]
        refine ⟨⟨cs ++ [⟨5, 0⟩], A5, n8 + 1, c5, by rw [cl_snoc]; rfl, fun i hi => ?_, by simp [hul], by omega⟩, by simp only [rowN]; omega⟩
        rcases List.mem_append.1 hi with hi | hi
        · exact hus i hi
        · obtain rfl : i = ⟨5, 0⟩ := by simpa using hi
          decide
      · refine cv_exit ?_
        simp -implicitDefEqProofs (disch := first | omega | decide) only [seval, -Int.reducePow, -Nat.reducePow, cA, cB, pv, binv, fresh, thenQ, blockQ, retQ, Value.oneCell', Value.cells, undef, Nat.mul_one, mBox, modV, cS, cM, g5_1, g5_2, g5_3, g5_4, g5_8, g5_9, g5_10, g5_11, g6_2, g6_3, g6_4, g6_8, g6_9, g6_10, g6_11, g6_51, g9_2, g9_8, g9_9, g9_11]
        exact ⟨ts, g0 :: gr, g0.p, g0.r, g0.l, A8, n8, c8, cs, cs, some ⟨gT, 0, none⟩, some ⟨gF, 0, none⟩, A8, tn, c10, fn, c11, n8, c8, rfl, ⟨by omega, hM.ty, .inl ⟨rfl, rfl, rfl, rfl⟩, fun g hg => .inl ⟨hM.fn g hg, hM.arg g hg⟩, hus⟩⟩
    refine cv_skip ?_
    try simp only [blockQ, thenQ]
    simp -implicitDefEqProofs (disch := first | omega | decide) only [seval, -Int.reducePow, -Nat.reducePow, cA, cB, pv, binv, fresh, thenQ, blockQ, retQ, Value.oneCell', Value.cells, undef, Nat.mul_one, mBox, modV, cS, cM, g5_1, g5_2, g5_3, g5_4, g5_8, g5_9, g5_10, g5_11, g6_2, g6_3, g6_4, g6_8, g6_9, g6_10, g6_11, g6_51]
    exact ⟨_, _, _, _, _, _, _, _, _, _, _, _, _, _, _, _, _, _, _, rfl, hS0⟩
  intro G10 L' _ hF
  obtain ⟨us, hs, p, r, lo, Af, nf, cf, ds, cs, A6, A7, A8, n6, c6, n7, c7, n8, c8, q8, q9, q11, rfl, hS⟩ := hF
  have g10_8 := q8.trans g5_8
  have g10_9 := q9.trans g5_9
  have g10_11 := q11.trans g5_11
  clear q8 q9 q11
  refine hK _ _ ?_
  clear hK K
  clear hS0 hS6 hS8 hset
  have hl1 := hS.len
  refine cv_len 1 rfl fun hl7 => ?_
  have hn7 : hs.length = n7 := cl_row fnc_len (by omega) hl7
  refine cv_rowA 1 rfl (by omega) fun gF2 hAA hgF2 hNN => ?_
  subst hAA
  simp only [List.eraseIdx_cons_zero, List.eraseIdx_cons_succ, neB_nil, neB_blk, neB_row, neB_snap, and_true, List.not_mem_nil, or_false] at hNN hgF2
  replace hgF2 := And.intro hgF2 hNN
  clear hNN
  refine cv_gen fun G11 hG => ?_
  have g11_8 := congrFun hG 8
  have g11_9 := congrFun hG 9
  have g11_11 := congrFun hG 11
  clear hG
  try simp -implicitDefEqProofs (disch := first | omega | decide) only [seval, -Int.reducePow, -Nat.reducePow, cA, cB, pv, binv, fresh, thenQ, blockQ, retQ, Value.oneCell', Value.cells, undef, Nat.mul_one, mBox, modV, cS, cM, g10_8, g10_9, g10_11] at g11_8 g11_9 g11_11
  refine cv_seq_k fun K hK => ?_
  refine cv_region_then rfl ?_
  simp -implicitDefEqProofs (disch := first | omega | decide) only [seval, -Int.reducePow, -Nat.reducePow, cA, cB, pv, binv, fresh, thenQ, blockQ, retQ, Value.oneCell', Value.cells, undef, Nat.mul_one, mBox, modV, cS, cM, g11_8, g11_9, g11_11]
  refine ⟨_, sv_rows 1 (i := 0) (vs := fnc ⟨p, r, lo, Af, nf, cf, ds⟩) rfl (by rw [cl_len fnc_len]; simp [fnc_len]; omega) (by kernel_rfl) rfl, fun tok htok => ?_⟩
  subst htok
  simp -implicitDefEqProofs (disch := first | omega | decide) only [seval, -Int.reducePow, -Nat.reducePow, cA, cB, pv, binv, fresh, thenQ, blockQ, retQ, Value.oneCell', Value.cells, undef, Nat.mul_one, mBox, modV, cS, cM, g11_8, g11_9, g11_11]
  rw [cl_headF hl1.1]
  refine hK _ _ ?_
  clear hK K
  refine cv_seq_k fun K hK => ?_
  refine cv_region_then rfl ?_
  simp -implicitDefEqProofs (disch := first | omega | decide) only [seval, -Int.reducePow, -Nat.reducePow, cA, cB, pv, binv, fresh, thenQ, blockQ, retQ, Value.oneCell', Value.cells, undef, Nat.mul_one, mBox, modV, cS, cM, g11_8, g11_9, g11_11]
  refine hK _ _ ?_
  clear hK K
  refine cv_ret ?_
  simp -implicitDefEqProofs (disch := first | omega | decide) only [seval, -Int.reducePow, -Nat.reducePow, cA, cB, pv, binv, fresh, thenQ, blockQ, retQ, Value.oneCell', Value.cells, undef, Nat.mul_one, mBox, modV, cS, cM, retQ2, ressV, packV, g11_8, g11_9, g11_11]
  intro w hw
  refine ⟨⟨A6, n6, c6, us, some ⟨gF2, 0, none⟩, n7, c7, ⟨p, r, lo, Af, nf, cf, ds⟩ :: hs.tail⟩, rfl, sp_mod hw hD hS.ty (fun g hg => ?_) hS.arg, hw.below⟩
  rcases List.mem_cons.1 hg with rfl | hg
  · rcases hS.code with ⟨rfl, rfl, rfl, rfl⟩ | ⟨rfl, rfl, rfl, rfl⟩
    · exact .inr (.inl ⟨rfl, rfl, rfl, rfl⟩)
    · exact .inr (.inr ⟨rfl, rfl, rfl, rfl⟩)
  · exact (hS.fn g (List.mem_of_mem_tail hg)).imp id .inl
end Go.Proofs.Ytehfnjaompkikaa
