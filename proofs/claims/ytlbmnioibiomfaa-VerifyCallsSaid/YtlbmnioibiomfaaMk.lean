/- pluginhostmake: Types, More, Module. -/
import Derived.Test.YtlbmnioibiomfaaCoS
namespace Go.Proofs.Ytlbmnioibiomfaa
open Go.RowKit Go.Shelf
set_option linter.unusedVariables false
set_option linter.unusedSimpArgs false
set_option maxRecDepth 100000
/-- A module within a set of blocks. -/
structure ModD (w : World) (D : Nat → Prop) (m : ModR) : Prop where
  ts : Sd w D 2 m.TA m.tn m.tc (cl tyc m.ts)
  ty : ∀ t ∈ m.ts, Sd w D 2 t.A t.n t.c (cl fdc t.fs)
  gs : Sd w D 4 m.FA m.fn m.fc (cl fnc m.gs)
  fn : ∀ g ∈ m.gs, Sd w D 2 g.A g.n g.c (cl insc g.code)
  arg : ∀ g ∈ m.gs, ∀ i ∈ g.code, i.arg < 18446744073709551616
/-- A made module's data. -/
structure Good (m : ModR) : Prop where
  ts : m.ts.length = 3
  ty : ∀ t ∈ m.ts, chk t.len t.fs = 0
  g1 : 1 ≤ m.gs.length
  g2 : m.gs.length ≤ 2
  gs : ∀ (j : Nat) (g : FnR), m.gs[j]? = some g → (0 ≤ g.p ∧ g.p ≤ 1 ∧ 0 ≤ g.r ∧ g.r ≤ 1 ∧ 0 ≤ g.l ∧ g.l ≤ 3) ∧ (j = 0 → g.p = 0 ∧ g.r = 0) ∧ 1 ≤ g.code.length ∧ g.code.length ≤ 200 ∧ ∀ i ∈ g.code, insOk i
section
variable {w w' W v : World} {D D' : Nat → Prop} {m : ModR} {M : List Nat} {L : List Res} {foot : List Nat}
theorem ModD.same (h : ModD w D m) (hs : ∀ y, D y → w'.heap[y]? = w.heap[y]?) (hD : ∀ y, D y → D' y) : ModD w' D' m :=
  ⟨h.ts.same hs hD, fun t ht => (h.ty t ht).same hs hD, h.gs.same hs hD, fun g hg => (h.fn g hg).same hs hD, h.arg⟩
theorem ModD.mono (h : ModD w D m) (hD : ∀ y, D y → D' y) : ModD w D' m := h.same (fun _ _ => rfl) hD
theorem ModD.mod {B : Nat} (h : ModD w D m) (hD : ∀ y, D y → y < B) : Mod w B m :=
  ⟨h.ts.sl hD, fun t ht => (h.ty t ht).sl hD, h.gs.sl hD, fun g hg => (h.fn g hg).sl hD, h.arg⟩
theorem ModD.at (h : ModD v (Dm M W foot) m) (hw : St M W L w) (k : Nat) (hk : nth L k = some (snap M W v foot)) : Mod w w.heap.size m :=
  (h.same (hw.snap_same (nth_mem hk)) fun b hb => hw.snap_lt (nth_mem hk) b hb).mod fun _ h => h
end
theorem firstT_zero : ∀ {ts : List TyR}, (∀ t ∈ ts, chk t.len t.fs = 0) → firstT ts = 0
  | [], _ => rfl
  | t :: r, h => by rw [firstT_yes r (h t (by simp)), firstT_zero fun u hu => h u (by simp [hu])]
theorem firstI_zero : ∀ {k : Nat} {l : List Ins}, (∀ x ∈ l, x.err = 0) → (firstI k l).1 = 0
  | _, [], _ => rfl
  | k, x :: r, h => by rw [firstI_yes r (h x (by simp))]; exact firstI_zero fun u hu => h u (by simp [hu])
theorem firstF_zero : ∀ {i : Nat} {l : List FnR}, (∀ (j : Nat) (g : FnR), l[j]? = some g → (fltF (i + j) g).1 = 0) → firstF i l = fineF
  | _, [], _ => rfl
  | i, f :: r, h => by
    rw [firstF_yes r (by have := h 0 f rfl; rwa [Nat.add_zero] at this)]
    exact firstF_zero fun j g hj => by
      have := h (j + 1) g (by simpa using hj)
      rwa [show i + (j + 1) = i + 1 + j by omega] at this
theorem Good.chk {m : ModR} (h : Good m) : chkM m = fineF := by
  have hP : chkP m = 0 := by
    unfold chkP
    rw [if_neg (by have := h.ts; omega), if_pos (firstT_zero h.ty), if_neg (by have := h.g1; omega), if_neg (by have := h.g2; omega)]
  unfold chkM
  rw [if_pos hP]
  refine firstF_zero fun j g hj => ?_
  obtain ⟨⟨p0, p1, r0, r1, l0, l1⟩, hz, c1, c2, hc⟩ := h.gs j g hj
  rw [Nat.zero_add]
  have hf : fnErr (j : Int) g = 0 := by
    unfold fnErr
    rw [if_neg (by omega), if_neg (by omega), if_neg (by rintro ⟨h0, h1⟩; have := hz (by omega); omega), if_neg (by omega), if_neg (by omega)]
  unfold fltF
  rw [if_pos hf, if_pos (firstI_zero fun x hx => (hc x hx).1)]
  rfl
theorem flat_bound {α : Type} (f : α → List Nat) (B : Nat) : ∀ (l : List α), (∀ x ∈ l, (f x).length ≤ B) → (l.flatMap f).length ≤ B * l.length
  | [], _ => by simp
  | x :: l, h => by
    have h1 := h x (by simp)
    have h2 := flat_bound f B l fun y hy => h y (by simp [hy])
    rw [List.flatMap_cons, List.length_append, List.length_cons, Nat.mul_succ]
    omega
theorem Good.len {m : ModR} (h : Good m) : (encM m).length ≤ 65536 := by
  have h1 := flat_bound encTy 198 m.ts fun t ht => (encB_len (h.ty t ht)).1
  have h2 := flat_bound encFn 3000 m.gs fun g hg => by
    obtain ⟨j, hj⟩ := List.mem_iff_getElem?.1 hg
    obtain ⟨⟨p0, p1, r0, r1, l0, l1⟩, hz, c1, c2, hc⟩ := h.gs j g hj
    have h3 := flat_bound encI 11 g.code fun x hx => encI_len (hc x hx).2
    have q1 := putU_len10 (n := g.p.toNat) (by omega)
    have q2 := putU_len10 (n := g.r.toNat) (by omega)
    have q3 := putU_len10 (n := g.l.toNat) (by omega)
    have q4 := putU_len10 (n := g.code.length) (by omega)
    unfold encFn
    simp only [List.flatMap_cons, List.flatMap_nil, List.length_append, List.length_nil]
    omega
  have q1 := putU_len10 (n := m.ts.length) (by have := h.ts; omega)
  have q2 := putU_len10 (n := m.gs.length) (by have := h.g2; omega)
  have h3 := h.ts
  have h4 := h.g2
  unfold encM
  simp only [List.length_append, magicB, List.length_cons, List.length_nil]
  rw [h3] at h1
  omega
theorem Good.err {m : ModR} (h : Good m) : errM m = 0 ∧ encMod m = encM m := errM_ok (by rw [h.chk]; rfl) (by have := h.len; omega)
set_option maxRecDepth 100000 in
theorem sMk1 : type_of% (And.intro (And.intro (And.intro @fBox.eq_1 @tBox.eq_1) (And.intro @pBox.eq_1 @fdV.eq_1)) (And.intro (And.intro @tyV.eq_1 @tpBox.eq_1) (And.intro @tape.eq_1 (And.intro @Nat.mul_one @cS)))) := (And.intro (And.intro (And.intro @fBox.eq_1 @tBox.eq_1) (And.intro @pBox.eq_1 @fdV.eq_1)) (And.intro (And.intro @tyV.eq_1 @tpBox.eq_1) (And.intro @tape.eq_1 (And.intro @Nat.mul_one @cS))))
set_option maxHeartbeats 2000000 in
theorem types_any (b : Nat) (A : Option Addr) (n c : Nat) (l : List Nat) (i : Nat) (W : World) (hW : W.heap[b]? = some (.cells (tape A n c i).toArray 67 (0, 0))) (hE : Sl W W.heap.size 1 A n c (u16c l)) (ha : 0 < n → Apt A [b]) (hl : ∀ x ∈ l, x < 65536) (hi : i ≤ 700000) :
    Calls Try.prog 20 #[.pointer (some ⟨b, 0, none⟩)] W (fun e w' => ∃ p : (Nat × List TyR) × Nat, e = .returned (.slice (some ⟨p.1.1, 0, none⟩) 3 3) ∧
      (Sd w' (Nw W w') 2 (some ⟨p.1.1, 0, none⟩) 3 3 (cl tyc p.1.2) ∧ (∀ t ∈ p.1.2, Sd w' (Nw W w') 2 t.A t.n t.c (cl fdc t.fs) ∧ chk t.len t.fs = 0) ∧ p.1.2.length = 3 ∧ p.2 ≤ i + 40) ∧ w'.heap[b]? = some (.cells (tape A n c p.2).toArray 67 (0, 0)) ∧ Pres [b] W w') := by
  have t1 := typeF_ok l i
  obtain ⟨i1, hi1⟩ : ∃ j, (typeF l i).2.2 = j := ⟨_, rfl⟩
  have t2 := typeF_ok l i1
  obtain ⟨i2, hi2⟩ : ∃ j, (typeF l i1).2.2 = j := ⟨_, rfl⟩
  have t3 := typeF_ok l i2
  obtain ⟨i3, hi3⟩ : ∃ j, (typeF l i2).2.2 = j := ⟨_, rfl⟩
  rw [hi1] at t1
  rw [hi2] at t2
  rw [hi3] at t3
  refine calls_cv (M := [b]) (n := 10) [.tmp 2] rfl Try.func20 rfl rfl (Nat.le_of_ble_eq_true rfl)  (St.one hW) ?_
  refine cv_seq_k fun K hK => ?_
  refine cv_region_then rfl ?_
  simp -implicitDefEqProofs (disch := first | omega | decide) only [seval, -Int.reducePow, -Nat.reducePow, cC, pv, binv, sMk1, undef]
  refine hK _ _ ?_
  clear hK K
  refine cv_seq_k fun K hK => ?_
  refine cv_region_then rfl ?_
  simp -implicitDefEqProofs (disch := first | omega | decide) only [seval, -Int.reducePow, -Nat.reducePow, cC, pv, binv, sMk1, undef]
  refine callV_modRow 0 (fun w hw => type_anyN b A n c l i w (hw.hold 0 rfl) (hE.atM' hw ha) ha hl (by omega)) rfl ?_
  rw [hi1]
  intro A1 n1 c1 hl1 hr1
  simp -implicitDefEqProofs (disch := first | omega | decide) only [seval, -Int.reducePow, -Nat.reducePow, cC, pv, binv, sMk1, undef]
  refine callV_modRow 1 (fun w hw => type_anyN b A n c l i1 w (hw.hold 1 rfl) (hE.atM' hw ha) ha hl (by omega)) rfl ?_
  rw [hi2]
  intro A2 n2 c2 hl2 hr2
  simp -implicitDefEqProofs (disch := first | omega | decide) only [seval, -Int.reducePow, -Nat.reducePow, cC, pv, binv, sMk1, undef]
  refine callV_modRow 2 (fun w hw => type_anyN b A n c l i2 w (hw.hold 2 rfl) (hE.atM' hw ha) ha hl (by omega)) rfl ?_
  rw [hi3]
  intro A3 n3 c3 hl3 hr3
  simp -implicitDefEqProofs (disch := first | omega | decide) only [seval, -Int.reducePow, -Nat.reducePow, cC, pv, binv, sMk1, undef]
  intro b9 hb9 h9
  refine hK _ _ ?_
  clear hK K
  refine cv_ret ⟨_, (by simp -implicitDefEqProofs (disch := first | omega | decide) only [seval, -Int.reducePow, -Nat.reducePow, cC, pv, binv, sMk1, undef]; rfl), fun w hw => ?_⟩
  refine ⟨((b9, [⟨(typeF l i).1, A1, n1, c1, (typeF l i).2.1⟩, ⟨(typeF l i1).1, A2, n2, c2, (typeF l i1).2.1⟩, ⟨(typeF l i2).1, A3, n3, c3, (typeF l i2).2.1⟩]), i3), rfl, ⟨?_, ?_, rfl, by dsimp only; omega⟩, hw.hold 4 rfl, hw.pres⟩
  · exact ⟨rfl, by omega, by omega, fun _ => ⟨_, _, rfl, ⟨hb9, (hw.own _ (.head _) b9 (by simp [Res.foot])).2⟩, fun j v hv => by rw [Nat.zero_add, hw.blk_cell (.head _)]; exact hv⟩⟩
  · intro t ht
    simp only [List.mem_cons, List.not_mem_nil, or_false] at ht
    rcases ht with rfl | rfl | rfl
    · exact ⟨Sd.ownNew (hw.tail.tail.tail.rowNew (by simp [Res.foot])), t1.1⟩
    · exact ⟨Sd.ownNew (hw.tail.tail.rowNew (by simp [Res.foot])), t2.1⟩
    · exact ⟨Sd.ownNew (hw.tail.rowNew (by simp [Res.foot])), t3.1⟩
/-- A call that may write a block but leaves it as it was. -/
theorem pres_below {W w : World} {b : Nat} (h : Pres [b] W w) (hb : w.heap[b]? = W.heap[b]?) : Below W.heap.size W w :=
  ⟨h.os, h.tape, h.output, h.size, fun k hk => by
    by_cases e : k = b
    · subst e; exact hb
    · exact h.block k hk (by simpa using e)⟩
theorem more_any (b : Nat) (A : Option Addr) (n c i : Nat) (W : World) (hW : W.heap[b]? = some (.cells (tape A n c i).toArray 67 (0, 0))) :
    Calls Try.prog 22 #[.pointer (some ⟨b, 0, none⟩)] W (fun e w' => (∃ r : Bool, e = .returned (.bool r) ∧ True) ∧ Below W.heap.size W w') := by
  refine calls_cv (M := [b]) (n := 13) [.tmp 2] rfl Try.func22 rfl rfl (Nat.le_of_ble_eq_true rfl)  (St.one hW) ?_
  refine cv_seq_k fun K hK => ?_
  refine cv_region_then rfl ?_
  simp -implicitDefEqProofs (disch := first | omega | decide) only [seval, -Int.reducePow, -Nat.reducePow, cC, pv, binv, sMk1, undef]
  refine hK _ _ ?_
  clear hK K
  refine cv_seq_k fun K hK => ?_
  refine cv_draw [(true, 0), (true, 1), (true, 2), (true, 3), (true, 4), (true, 5), (true, 6), (true, 7), (true, 8), (true, 9), (true, 10)] [] mixA rfl (by kernel_rfl) (by kernel_rfl) rfl rfl ?_
  simp -implicitDefEqProofs (disch := first | omega | decide) only [seval, -Int.reducePow, -Nat.reducePow, cC, pv, binv, sMk1, undef]
  refine hK _ _ ?_
  clear hK K
  refine cv_ret ⟨_, (by simp -implicitDefEqProofs (disch := first | omega | decide) only [seval, -Int.reducePow, -Nat.reducePow, cC, pv, binv, sMk1, undef]; rfl), fun w hw => ?_⟩
  have := pres_below hw.pres ((hw.hold 0 rfl).trans hW.symm)
  exact ⟨⟨_, rfl, trivial⟩, this⟩
theorem ends_get {q : Nat} (h : q < 6) : ∃ op : Int, ([.int .i64 24, .int .i64 22, .int .i64 19, .int .i64 25, .int .i64 25, .int .i64 25] : List Value)[q]? = some (.int .i64 op) ∧ knownP op := by
  have : q = 0 ∨ q = 1 ∨ q = 2 ∨ q = 3 ∨ q = 4 ∨ q = 5 := by omega
  rcases this with rfl | rfl | rfl | rfl | rfl | rfl
  · exact ⟨24, rfl, by decide⟩
  · exact ⟨22, rfl, by decide⟩
  · exact ⟨19, rfl, by decide⟩
  · exact ⟨25, rfl, by decide⟩
  · exact ⟨25, rfl, by decide⟩
  · exact ⟨25, rfl, by decide⟩
theorem insOk3 {n : Nat} (h : n < 18446744073709551616) : ∀ i ∈ ([⟨2, 0⟩, ⟨1, n⟩, ⟨6, 0⟩] : List Ins), insOk i := by
  intro i hi
  simp only [List.mem_cons, List.not_mem_nil, or_false] at hi
  rcases hi with rfl | rfl | rfl
  · exact ⟨rfl, by decide⟩
  · exact ⟨rfl, h⟩
  · exact ⟨rfl, by decide⟩
theorem insOk4 {n : Nat} (h : n < 18446744073709551616) : ∀ i ∈ ([⟨2, 0⟩, ⟨1, n⟩, ⟨6, 0⟩, ⟨21, 1⟩] : List Ins), insOk i := by
  intro i hi
  have : i ∈ ([⟨2, 0⟩, ⟨1, n⟩, ⟨6, 0⟩] : List Ins) ∨ i = ⟨21, 1⟩ := by
    simp only [List.mem_cons, List.not_mem_nil, or_false] at hi ⊢
    rcases hi with h | h | h | h <;> simp [h]
  rcases this with h2 | rfl
  · exact insOk3 h i h2
  · exact ⟨rfl, by decide⟩
/-- A made module at its end. -/
theorem module_end {W v w : World} {f : List Nat} {x : Cx} {j : Nat} {A : Option Addr} {c tb : Nat} {ts : List TyR} {gs : List FnR} {R : List Res} {n : Nat}
    (hw : St [x.tb] W (snap [x.tb] W v f :: .row (.slice A n c) 58 4 n (cl fnc gs) :: coT x j :: R) w)
    (hT : Sd v (fun y => y ∈ f) 2 (some ⟨tb, 0, none⟩) 3 3 (cl tyc ts)) (hTy : ∀ t ∈ ts, Sd v (fun y => y ∈ f) 2 t.A t.n t.c (cl fdc t.fs)) (hC : ∀ g ∈ gs, Sd v (fun y => y ∈ f) 2 g.A g.n g.c (cl insc g.code)) (hok : ∀ g ∈ gs, ∀ i ∈ g.code, insOk i) :
    ModD w (Nw W w) ⟨some ⟨tb, 0, none⟩, 3, 3, ts, A, n, c, gs⟩ := by
  have hnew := hw.snapNew 0 rfl fun m hm => ⟨2, _, rfl, by simpa [coT, Res.foot] using hm, by omega⟩
  have hs := hw.snap_same (.head _)
  refine ⟨hT.same (fun y hy => hs y (.inl hy)) hnew, fun t ht => (hTy t ht).same (fun y hy => hs y (.inl hy)) hnew, Sd.ownNew (hw.tail.rowNew fun m hm => ⟨_, .head _, by simpa [coT, Res.foot] using hm⟩), fun g hg => (hC g hg).same (fun y hy => hs y (.inl hy)) hnew, fun g hg i hi => (hok g hg i hi).2⟩
/-- .. with two functions. -/
theorem made_two {W v w : World} {f : List Nat} {x : Cx} {j : Nat} {A A7 : Option Addr} {c c7 tb q3 : Nat} {ts : List TyR} {s2 : CoS} {cs : List Ins} {R : List Res}
    (hw : St [x.tb] W (snap [x.tb] W v f :: .row (.slice A 2 c) 58 4 2 [Value.int IntKind.i64 0, Value.int IntKind.i64 0, Value.int IntKind.i64 x.loc, Value.slice s2.A s2.n s2.c, Value.int IntKind.i64 1, Value.int IntKind.i64 1, Value.int IntKind.i64 q3, Value.slice A7 (cs.length + 1) c7] :: coT x j :: R) w)
    (hT : Sd v (fun y => y ∈ f) 2 (some ⟨tb, 0, none⟩) 3 3 (cl tyc ts)) (hTy : ∀ t ∈ ts, Sd v (fun y => y ∈ f) 2 t.A t.n t.c (cl fdc t.fs)) (hC : Sd v (fun y => y ∈ f) 2 s2.A s2.n s2.c (cl insc s2.code)) (hB : Sd v (fun y => y ∈ f) 2 A7 (cs.length + 1) c7 (cl insc (cs ++ [⟨22, 0⟩])))
    (hTc : ∀ t ∈ ts, chk t.len t.fs = 0) (ht3 : ts.length = 3) (hok : ∀ i ∈ s2.code, insOk i) (h1 : 1 ≤ s2.code.length) (h2 : s2.code.length ≤ 200) (hl : x.loc ≤ 3) (hcs : ∀ i ∈ cs, insOk i) (h3 : 3 ≤ cs.length) (h4 : cs.length ≤ 4) (hq : q3 < 3) (hll : 1 ≤ x.loc) :
    ∃ p : ModR × Nat, Ending.returned (.agg #[.slice (some ⟨tb, 0, none⟩) 3 3, .slice A 2 c]) = .returned (modV p.1) ∧ (ModD w (Nw W w) p.1 ∧ Good p.1) ∧ w.heap[x.tb]? = some (.cells (tape x.TA x.tn x.tc p.2).toArray 67 (0, 0)) ∧ Pres [x.tb] W w := by
  have hB' : ∀ i ∈ cs ++ [(⟨22, 0⟩ : Ins)], insOk i := fun i hi => by
    rcases List.mem_append.1 hi with hi | hi
    · exact hcs i hi
    · obtain rfl : i = ⟨22, 0⟩ := by simpa using hi
      exact ⟨rfl, by decide⟩
  refine ⟨(⟨some ⟨tb, 0, none⟩, 3, 3, ts, A, 2, c, [⟨0, 0, x.loc, s2.A, s2.n, s2.c, s2.code⟩, ⟨1, 1, q3, A7, cs.length + 1, c7, cs ++ [⟨22, 0⟩]⟩]⟩, j), rfl, ⟨module_end (x := x) (j := j) (gs := [⟨0, 0, x.loc, s2.A, s2.n, s2.c, s2.code⟩, ⟨1, 1, q3, A7, cs.length + 1, c7, cs ++ [⟨22, 0⟩]⟩]) hw hT hTy ?_ ?_, ?_⟩, hw.hold 2 rfl, hw.pres⟩
  · intro g hg
    simp only [List.mem_cons, List.not_mem_nil, or_false] at hg
    rcases hg with rfl | rfl
    · exact hC
    · exact hB
  · intro g hg
    simp only [List.mem_cons, List.not_mem_nil, or_false] at hg
    rcases hg with rfl | rfl
    · exact hok
    · exact hB'
  refine ⟨ht3, hTc, by simp, by simp, fun q g hg => ?_⟩
  rcases q with _ | _ | q
  · obtain rfl : ⟨0, 0, x.loc, s2.A, s2.n, s2.c, s2.code⟩ = g := by simpa using hg
    dsimp only
    exact ⟨by omega, fun _ => ⟨rfl, rfl⟩, by omega, by omega, hok⟩
  · obtain rfl : ⟨1, 1, q3, A7, cs.length + 1, c7, cs ++ [⟨22, 0⟩]⟩ = g := by simpa using hg
    dsimp only
    rw [List.length_append, List.length_singleton]
    exact ⟨by omega, fun h => by omega, by omega, by omega, hB'⟩
  · simp at hg
set_option maxRecDepth 100000 in
theorem sMk2 : type_of% (And.intro (And.intro (And.intro @fBox.eq_1 (And.intro @tBox.eq_1 @pBox.eq_1)) (And.intro @fdV.eq_1 (And.intro @tyV.eq_1 @tpBox.eq_1))) (And.intro (And.intro @tape.eq_1 (And.intro @Nat.mul_one @cS)) (And.intro (And.intro @coB.eq_1 @coT.eq_1) (And.intro @coC.eq_1 @cT)))) := (And.intro (And.intro (And.intro @fBox.eq_1 (And.intro @tBox.eq_1 @pBox.eq_1)) (And.intro @fdV.eq_1 (And.intro @tyV.eq_1 @tpBox.eq_1))) (And.intro (And.intro @tape.eq_1 (And.intro @Nat.mul_one @cS)) (And.intro (And.intro @coB.eq_1 @coT.eq_1) (And.intro @coC.eq_1 @cT))))
set_option maxHeartbeats 8000000 in
theorem module_any (b : Nat) (A : Option Addr) (n c : Nat) (l : List Nat) (i most : Nat) (W : World) (hW : W.heap[b]? = some (.cells (tape A n c i).toArray 67 (0, 0))) (hE : Sl W W.heap.size 1 A n c (u16c l)) (ha : 0 < n → Apt A [b]) (hl : ∀ x ∈ l, x < 65536) (hi : i ≤ 500000) (hm : most ≤ 10) :
    Calls Try.prog 9 #[.pointer (some ⟨b, 0, none⟩), .int .u32 1, .int .i64 (most : Int)] W (fun e w' => ∃ p : ModR × Nat, e = .returned (modV p.1) ∧ (ModD w' (Nw W w') p.1 ∧ Good p.1) ∧ w'.heap[b]? = some (.cells (tape A n c p.2).toArray 67 (0, 0)) ∧ Pres [b] W w') := by
  obtain ⟨E, hEe⟩ : ∃ E : Nat → Prop, E = fun y => y < W.heap.size ∧ y ≠ b := ⟨_, rfl⟩
  have hDE : ∀ y, (fun _ : Nat => False) y ∨ E y → y < W.heap.size ∧ y ∉ [b] := fun y hy => by
    subst hEe
    rcases hy with hy | hy
    · exact hy.elim
    · exact ⟨hy.1, by simpa using hy.2⟩
  have htp : Sd W E 1 A n c (u16c l) := by
    subst hEe
    refine ⟨hE.len, hE.cap, hE.max, fun hn => ?_⟩
    obtain ⟨b0, off, e, hb, hc⟩ := hE.cells hn
    exact ⟨b0, off, e, ⟨hb, by simpa using ha hn b0 off e⟩, hc⟩
  have hEb : ∀ y, E y → y ≠ b := fun y hy => by subst hEe; exact hy.2
  refine calls_cv2 (M := [b]) (n := 89) [.cell 6 29] rfl Try.func9 rfl rfl (Nat.le_of_ble_eq_true rfl)  (St.one hW) ?_
  refine cv_seq_k fun K hK => ?_
  refine cv_region_then rfl ?_
  simp -implicitDefEqProofs (disch := first | omega | decide) only [seval, -Int.reducePow, -Nat.reducePow, cC, pv, binv, sMk2, undef]
  intro b6 hb6 h6
  refine hK _ _ ?_
  clear hK K
  refine cv_seq_k fun K hK => ?_
  refine cv_region_then rfl ?_
  simp -implicitDefEqProofs (disch := first | omega | decide) only [seval, -Int.reducePow, -Nat.reducePow, cC, pv, binv, sMk2, undef]
  refine callV_nestM 1 (fun p : (Nat × List TyR) × Nat => .slice (some ⟨p.1.1, 0, none⟩) 3 3) (fun p w w' => Sd w' (Nw w w') 2 (some ⟨p.1.1, 0, none⟩) 3 3 (cl tyc p.1.2) ∧ (∀ t ∈ p.1.2, Sd w' (Nw w w') 2 t.A t.n t.c (cl fdc t.fs) ∧ chk t.len t.fs = 0) ∧ p.1.2.length = 3 ∧ p.2 ≤ i + 40) (fun p => tape A n c p.2) rfl (fun w hw => types_any b A n c l i w (hw.hold 1 rfl) (hE.atM' hw ha) ha hl (by omega)) ?_
  rintro ⟨⟨tb, ts⟩, i1⟩ w0 w1 f1 hw0 hw1 ⟨ht1, ht2, ht3, ht4⟩ hNw
  dsimp only at *
  have hT : Sd w1 (fun y => y ∈ f1) 2 (some ⟨tb, 0, none⟩) 3 3 (cl tyc ts) := ht1.mono hNw
  have hTy : ∀ t ∈ ts, Sd w1 (fun y => y ∈ f1) 2 t.A t.n t.c (cl fdc t.fs) := fun t ht => (ht2 t ht).1.mono hNw
  have hTc : ∀ t ∈ ts, chk t.len t.fs = 0 := fun t ht => (ht2 t ht).2
  clear ht1 ht2 hNw hw0 hw1 w0
  try simp -implicitDefEqProofs (disch := first | omega | decide) only [seval, -Int.reducePow, -Nat.reducePow, cC, pv, binv, sMk2, undef]
  intro b7 hb7 h7
  try simp -implicitDefEqProofs (disch := first | omega | decide) only [seval, -Int.reducePow, -Nat.reducePow, cC, pv, binv, sMk2, undef]
  refine hK _ _ ?_
  clear hK K
  have q2 := nextF_lt (l := l) (i := i1) (m := 2) (by omega)
  have q3 := nextF_lt (l := l) (i := i1 + 1) (m := 3) (by omega)
  have e2 : IntKind.i64.wrap (1 + ((nextF l i1 2 : Nat) : Int)) = ((1 + nextF l i1 2 : Nat) : Int) := by rw [wrap_in (by omega) (by omega)]; omega
  have e3 : IntKind.i64.wrap (1 + ((nextF l (i1 + 1) 3 : Nat) : Int)) = ((1 + nextF l (i1 + 1) 3 : Nat) : Int) := by rw [wrap_in (by omega) (by omega)]; omega
  obtain ⟨fns, hfns⟩ : ∃ q, 1 + nextF l i1 2 = q := ⟨_, rfl⟩
  obtain ⟨loc, hloc⟩ : ∃ q, 1 + nextF l (i1 + 1) 3 = q := ⟨_, rfl⟩
  rw [hfns] at e2
  rw [hloc] at e3
  refine cv_seq_k fun K hK => ?_
  refine cv_region_then rfl ?_
  simp -implicitDefEqProofs (disch := first | omega | decide) only [seval, -Int.reducePow, -Nat.reducePow, cC, pv, binv, sMk2, undef]
  refine callV_mod1 3 (fun w hw => next_anyN b A n c l i1 2 w (hw.hold 3 rfl) (hE.atM' hw ha) ha hl (by omega) (by omega)) rfl ?_
  try simp -implicitDefEqProofs (disch := first | omega | decide) only [seval, -Int.reducePow, -Nat.reducePow, cC, pv, binv, sMk2, undef, e2]
  refine hK _ _ ?_
  clear hK K
  refine cv_seq_k fun K hK => ?_
  refine cv_region_then rfl ?_
  simp -implicitDefEqProofs (disch := first | omega | decide) only [seval, -Int.reducePow, -Nat.reducePow, cC, pv, binv, sMk2, undef]
  refine callV_mod1 3 (fun w hw => next_anyN b A n c l (i1 + 1) 3 w (hw.hold 3 rfl) (hE.atM' hw ha) ha hl (by omega) (by omega)) rfl ?_
  try simp -implicitDefEqProofs (disch := first | omega | decide) only [seval, -Int.reducePow, -Nat.reducePow, cC, pv, binv, sMk2, undef, e3]
  refine hK _ _ ?_
  clear hK K
  refine cv_seq_k fun K hK => ?_
  refine cv_region_then rfl ?_
  simp -implicitDefEqProofs (disch := first | omega | decide) only [seval, -Int.reducePow, -Nat.reducePow, cC, pv, binv, sMk2, undef]
  intro b28 hb28 h28
  refine hK _ _ ?_
  clear hK K
  refine cv_gen fun G1 hG => ?_
  have g1_0 := congrFun hG 0
  have g1_2 := congrFun hG 2
  have g1_6 := congrFun hG 6
  have g1_7 := congrFun hG 7
  have g1_8 := congrFun hG 8
  have g1_9 := congrFun hG 9
  have g1_10 := congrFun hG 10
  clear hG
  try simp -implicitDefEqProofs (disch := first | omega | decide) only [seval, -Int.reducePow, -Nat.reducePow, cC, pv, binv, sMk2, undef] at g1_0 g1_2 g1_6 g1_7 g1_8 g1_9 g1_10
  have g1 := And.intro g1_0 (And.intro g1_2 (And.intro g1_6 (And.intro g1_7 (And.intro g1_8 (And.intro g1_9 g1_10)))))
  refine cv_snap [0, 4, 1, 2, 3] (by decide) fun v2 f2 hv2 hf2 => ?_
  simp only [pickL, nth]
  have htp2 : Sd v2 E 1 A n c (u16c l) := htp.same (fun y hy => hv2.pres.block y (hDE y (.inr hy)).1 (hDE y (.inr hy)).2) fun _ h => h
  obtain ⟨x, hx⟩ : ∃ x : Cx, x = ⟨b28, b, A, n, c, l, loc, fns, 1⟩ := ⟨_, rfl⟩
  have x1 : b28 = x.b := by rw [hx]
  have x2 : b = x.tb := by rw [hx]
  have x3 : A = x.TA := by rw [hx]
  have x4 : n = x.tn := by rw [hx]
  have x5 : c = x.tc := by rw [hx]
  have x6 : l = x.l := by rw [hx]
  have x7 : loc = x.loc := by rw [hx]
  have x8 : fns = x.fns := by rw [hx]
  have x9 : x.first = 1 := by rw [hx]
  clear hx
  subst x1 x2 x3 x4 x5 x6 x7 x8
  obtain ⟨s0, hs0⟩ : ∃ s : CoS, s = ⟨none, 0, 0, [], none, 0, 0, []⟩ := ⟨_, rfl⟩
  have hD0 : CoD v2 (Dn (fun _ => False) f2) E x s0 := by subst hs0; exact ⟨Sd.nil, Sd.nil, htp2, by simp, by simp⟩
  have hl16 := hl
  have hlc : 1 ≤ x.loc ∧ x.loc ≤ 100 := by omega
  have hfi : x.first < 4294967296 := by omega
  have hs0c : s0.code.length = 0 ∧ s0.st.length = 0 := by rw [hs0]; exact ⟨rfl, rfl⟩
  refine cv_eq (L' := [snap [x.tb] W v2 f2, coB x s0, coT x (i1 + 1 + 1), .blk b7 29 [.slice (some ⟨tb, 0, none⟩) 3 3, .slice none 0 0], snap [x.tb] W w1 f1, .blk b6 29 [.slice none 0 0, .slice none 0 0]]) (by rw [hs0]; simp only [coB, coC, x9]; rfl) ?_
  clear hs0
  refine cv_seq_k fun K hK => ?_
  refine cv_seq_k fun K hK => ?_
  refine cv_region_then rfl ?_
  simp -implicitDefEqProofs (disch := first | omega | decide) only [seval, -Int.reducePow, -Nat.reducePow, cC, pv, binv, sMk2, undef, g1]
  refine hK _ _ ?_
  clear hK K
  refine cv_gen fun G2 hG => ?_
  have g2_0 := congrFun hG 0
  have g2_2 := congrFun hG 2
  have g2_6 := congrFun hG 6
  have g2_7 := congrFun hG 7
  have g2_8 := congrFun hG 8
  have g2_9 := congrFun hG 9
  have g2_10 := congrFun hG 10
  have g2_11 := congrFun hG 11
  clear hG
  try simp -implicitDefEqProofs (disch := first | omega | decide) only [seval, -Int.reducePow, -Nat.reducePow, cC, pv, binv, sMk2, undef, g1] at g2_0 g2_2 g2_6 g2_7 g2_8 g2_9 g2_10 g2_11
  have g2 := And.intro g2_0 (And.intro g2_2 (And.intro g2_6 (And.intro g2_7 (And.intro g2_8 (And.intro g2_9 (And.intro g2_10 g2_11))))))
  refine cv_block ?_
  refine cv_loop (fun F' L' => ∃ (k : Nat) (s : CoS) (j : Nat) (v : World) (f : List Nat), F' 0 = G2 0 ∧ F' 2 = G2 2 ∧ F' 6 = G2 6 ∧ F' 7 = G2 7 ∧ F' 8 = G2 8 ∧ F' 9 = G2 9 ∧ F' 10 = G2 10 ∧ F' 11 = .int .i64 (k : Int) ∧ L' = [snap [x.tb] W v f, coB x s, coT x j, .blk b7 29 [.slice (some ⟨tb, 0, none⟩) 3 3, .slice none 0 0], snap [x.tb] W w1 f1, .blk b6 29 [.slice none 0 0, .slice none 0 0]] ∧ CoD v (Dn (fun _ => False) f) E x s ∧ s.code.length ≤ 12 * k ∧ s.st.length ≤ k ∧ j ≤ i1 + 2 + 50 * k ∧ k ≤ most) (fun F' L' => 20 - (intOf (F' 11)).toNat) ?_ ?_
  · refine ⟨0, s0, i1 + 1 + 1, v2, f2, ?_⟩
    simp -implicitDefEqProofs (disch := first | omega | decide) only [seval, -Int.reducePow, -Nat.reducePow, cC, pv, binv, sMk2, undef, g2]
    repeat' (first | with_reducible exact trivial | with_reducible rfl | omega | refine And.intro ?_ ?_)
    all_goals first | exact hD0 | omega | skip
  intro G3 L' hI
  obtain ⟨k, s, j, v, f, q0, q2, q6, q7, q8, q9, q10, q11, rfl, ⟨hD, hc1, hs1, hj1, hk1⟩⟩ := hI
  have g3_0 := q0.trans g2_0
  have g3_2 := q2.trans g2_2
  have g3_6 := q6.trans g2_6
  have g3_7 := q7.trans g2_7
  have g3_8 := q8.trans g2_8
  have g3_9 := q9.trans g2_9
  have g3_10 := q10.trans g2_10
  have g3_11 := q11
  clear q0 q2 q6 q7 q8 q9 q10 q11
  have g3 := And.intro g3_0 (And.intro g3_2 (And.intro g3_6 (And.intro g3_7 (And.intro g3_8 (And.intro g3_9 (And.intro g3_10 g3_11))))))
  refine cv_seq_k fun K hK => ?_
  refine cv_seq_k fun K hK => ?_
  refine cv_cut (fun _ _ => True) (fun F' L' => ∃ (r : Bool), F' 0 = G3 0 ∧ F' 2 = G3 2 ∧ F' 6 = G3 6 ∧ F' 7 = G3 7 ∧ F' 8 = G3 8 ∧ F' 9 = G3 9 ∧ F' 10 = G3 10 ∧ F' 11 = G3 11 ∧ F' 39 = .bool r ∧ L' = [snap [x.tb] W v f, coB x s, coT x j, .blk b7 29 [.slice (some ⟨tb, 0, none⟩) 3 3, .slice none 0 0], snap [x.tb] W w1 f1, .blk b6 29 [.slice none 0 0, .slice none 0 0]] ∧ (r = true → k < most)) ?_ ?_
  · by_cases hkm : k < most
    · have hkd : decide ((k : Int) < (most : Int)) = true := decide_eq_true (by omega)
      refine cv_region_then rfl ?_
      simp -implicitDefEqProofs (disch := first | omega | decide) only [seval, -Int.reducePow, -Nat.reducePow, cC, pv, binv, sMk2, undef, hkd, g2, g3]
      refine callV_ex (fun r : Bool => .bool r) (fun _ => True) (fun w hw => more_any x.tb x.TA x.tn x.tc j w (hw.hold 2 rfl)) ?_
      intro r _
      cases r
      · simp -implicitDefEqProofs (disch := first | omega | decide) only [seval, -Int.reducePow, -Nat.reducePow, cC, pv, binv, sMk2, undef, hkd, g2, g3]
        exact ⟨_, rfl, fun _ => hkm⟩
      · simp -implicitDefEqProofs (disch := first | omega | decide) only [seval, -Int.reducePow, -Nat.reducePow, cC, pv, binv, sMk2, undef, hkd, g2, g3]
        exact ⟨_, rfl, fun _ => hkm⟩
    · have hkd : decide ((k : Int) < (most : Int)) = false := decide_eq_false (by omega)
      refine cv_region_then rfl ?_
      simp -implicitDefEqProofs (disch := first | omega | decide) only [seval, -Int.reducePow, -Nat.reducePow, cC, pv, binv, sMk2, undef, hkd, g2, g3]
      exact ⟨_, rfl, fun h => by cases h⟩
  intro G4 L' _ hF
  obtain ⟨r, q0, q2, q6, q7, q8, q9, q10, q11, q39, rfl, hr⟩ := hF
  have g4_0 := q0.trans g3_0
  have g4_2 := q2.trans g3_2
  have g4_6 := q6.trans g3_6
  have g4_7 := q7.trans g3_7
  have g4_8 := q8.trans g3_8
  have g4_9 := q9.trans g3_9
  have g4_10 := q10.trans g3_10
  have g4_11 := q11.trans g3_11
  have g4_39 := q39
  clear q0 q2 q6 q7 q8 q9 q10 q11 q39
  have g4 := And.intro g4_0 (And.intro g4_2 (And.intro g4_6 (And.intro g4_7 (And.intro g4_8 (And.intro g4_9 (And.intro g4_10 (And.intro g4_11 g4_39)))))))
  refine hK _ _ ?_
  clear hK K
  refine cv_cond ?_
  simp -implicitDefEqProofs (disch := first | omega | decide) only [seval, -Int.reducePow, -Nat.reducePow, cC, pv, binv, sMk2, undef, g2, g3, g4]
  refine ⟨fun hc => ?_, fun hc => ?_⟩
  · refine cv_skip ?_
    try simp only [blockQ, thenQ]
    refine hK _ _ ?_
    clear hK K
    refine cv_seq_k fun K hK => ?_
    refine cv_block ?_
    refine cv_region_q rfl ?_
    simp -implicitDefEqProofs (disch := first | omega | decide) only [seval, -Int.reducePow, -Nat.reducePow, cC, pv, binv, sMk2, undef, g2, g3, g4]
    refine callV_co (x := x) (s := s) (i := j) hD hDE hl16 hlc hfi (fun w D hp => statement_co x D E s j w hp (by omega) (by omega) (by omega)) ?_
    intro s' j' v' f' hD' ka kb kc kd ke
    simp -implicitDefEqProofs (disch := first | omega | decide) only [seval, -Int.reducePow, -Nat.reducePow, cC, pv, binv, sMk2, undef, g2, g3, g4]
    refine hK _ _ ?_
    clear hK K
    refine cv_region_then rfl ?_
    simp -implicitDefEqProofs (disch := first | omega | decide) only [seval, -Int.reducePow, -Nat.reducePow, cC, pv, binv, sMk2, undef, wrap_in, g2, g3, g4]
    refine ⟨⟨k + 1, s', j', v', f', ?_⟩, ?_⟩
    · simp -implicitDefEqProofs (disch := first | omega | decide) only [seval, -Int.reducePow, -Nat.reducePow, cC, pv, binv, sMk2, undef, Int.natCast_add, g2, g3, g4]
      repeat' (first | with_reducible exact trivial | with_reducible rfl | omega | refine And.intro ?_ ?_)
      all_goals (have := hr hc; omega)
    · simp only [intOf]; omega
  refine cv_exit ?_
  simp only [blockQ, thenQ, if_true, ite_true]
  clear hK K
  refine hK _ _ ?_
  clear hK K
  refine cv_seq_k fun K hK => ?_
  refine cv_region_then rfl ?_
  simp -implicitDefEqProofs (disch := first | omega | decide) only [seval, -Int.reducePow, -Nat.reducePow, cC, pv, binv, sMk2, undef, g2, g3, g4]
  intro b9 hb9 h9
  refine hK _ _ ?_
  clear hK K
  refine cv_gen fun G5 hG => ?_
  have g5_0 := congrFun hG 0
  have g5_6 := congrFun hG 6
  have g5_7 := congrFun hG 7
  have g5_8 := congrFun hG 8
  have g5_9 := congrFun hG 9
  have g5_10 := congrFun hG 10
  have g5_12 := congrFun hG 12
  clear hG
  try simp -implicitDefEqProofs (disch := first | omega | decide) only [seval, -Int.reducePow, -Nat.reducePow, cC, pv, binv, sMk2, undef, g2, g3, g4] at g5_0 g5_6 g5_7 g5_8 g5_9 g5_10 g5_12
  have g5 := And.intro g5_0 (And.intro g5_6 (And.intro g5_7 (And.intro g5_8 (And.intro g5_9 (And.intro g5_10 g5_12)))))
  have hnx6 := nextF_lt (l := x.l) (i := j) (m := 6) (by omega)
  obtain ⟨op, hop, hkn⟩ := ends_get hnx6
  refine cv_seq_k fun K hK => ?_
  refine cv_region_then rfl ?_
  simp -implicitDefEqProofs (disch := first | omega | decide) only [seval, -Int.reducePow, -Nat.reducePow, cC, pv, binv, sMk2, undef, g2, g3, g5]
  refine callV_mod1 3 (fun w hw => next_anyN x.tb x.TA x.tn x.tc x.l j 6 w (hw.hold 3 rfl) (hD.tp hDE hw 1 rfl) (hD.tapt hEb) hl16 (by omega) (by omega)) rfl ?_
  try simp -implicitDefEqProofs (disch := first | omega | decide) only [seval, -Int.reducePow, -Nat.reducePow, cC, pv, binv, sMk2, undef, g2, g3, g5]
  simp -implicitDefEqProofs (disch := first | omega | decide) only [seval, -Int.reducePow, -Nat.reducePow, cC, pv, binv, sMk2, undef, hop, g2, g3, g5]
  refine callV_pick [1, 2, 3, 4, 5, 6] (by decide) ?_
  simp only [pickL, nth]
  refine callV_co (x := x) (s := s) (i := j + 1) hD hDE hl16 hlc hfi (fun w D hp => put_co x D E s (j + 1) op 0 w hp hkn (.inr rfl) (by omega) (by omega)) ?_
  intro s2 j2 v3 f3 hD2 ka kb kc kd ke
  simp -implicitDefEqProofs (disch := first | omega | decide) only [seval, -Int.reducePow, -Nat.reducePow, cC, pv, binv, sMk2, undef, g2, g3, g5]
  refine hK _ _ ?_
  clear hK K
  refine cv_seq_k fun K hK => ?_
  refine cv_region_then rfl ?_
  simp -implicitDefEqProofs (disch := first | omega | decide) only [seval, -Int.reducePow, -Nat.reducePow, cC, pv, binv, sMk2, undef, g2, g3, g5]
  intro b58 hb58 h58
  simp -implicitDefEqProofs (disch := first | omega | decide) only [seval, -Int.reducePow, -Nat.reducePow, cC, pv, binv, sMk2, undef, g2, g3, g5]
  refine hK _ _ ?_
  clear hK K
  refine cv_gen fun G6 hG => ?_
  have g6_0 := congrFun hG 0
  have g6_6 := congrFun hG 6
  have g6_7 := congrFun hG 7
  have g6_8 := congrFun hG 8
  clear hG
  try simp -implicitDefEqProofs (disch := first | omega | decide) only [seval, -Int.reducePow, -Nat.reducePow, cC, pv, binv, sMk2, undef, g2, g3, g5] at g6_0 g6_6 g6_7 g6_8
  have g6 := And.intro g6_0 (And.intro g6_6 (And.intro g6_7 g6_8))
  refine cv_blkrow 4 1 rfl (by omega) ?_
  refine cv_snap [0, 4, 6, 3] (by decide) fun v4 f4 hv4 hf4 => ?_
  simp only [pickL, nth]
  have hM4 : ∀ m ∈ [x.tb], ∃ r ∈ pickL [0, 4, 6, 3] [Res.row (.slice (some ⟨b58, 0, none⟩) 1 1) 58 4 1 [Value.int IntKind.i64 0, Value.int IntKind.i64 0, Value.int IntKind.i64 x.loc, Value.slice s2.A s2.n s2.c], snap [x.tb] W v3 f3, coB x s2, coT x j2, .blk b7 29 [.slice (some ⟨tb, 0, none⟩) 3 3, .slice (some ⟨b58, 0, none⟩) 1 1], snap [x.tb] W w1 f1, .blk b6 29 [.slice none 0 0, .slice none 0 0]], m ∈ r.foot := by simp [pickL, nth, Res.foot, coT]
  obtain ⟨k1, k2⟩ := hv4.snapK hf4 5 rfl (by decide) hM4
  have k3 := hv4.footK hf4 (k := 5) rfl (by decide) hM4
  obtain ⟨k4, k5⟩ := hv4.snapK hf4 1 rfl (by decide) hM4
  have k6 := hv4.footK hf4 (k := 1) rfl (by decide) hM4
  simp only [snap_foot] at k3 k6
  have hT4 : Sd v4 (fun y => y ∈ f4) 2 (some ⟨tb, 0, none⟩) 3 3 (cl tyc ts) := hT.same (fun y hy => k1 y (.inl hy)) k3
  have hTy4 : ∀ t ∈ ts, Sd v4 (fun y => y ∈ f4) 2 t.A t.n t.c (cl fdc t.fs) := fun t ht => (hTy t ht).same (fun y hy => k1 y (.inl hy)) k3
  have hC4 : Sd v4 (fun y => y ∈ f4) 2 s2.A s2.n s2.c (cl insc s2.code) := hD2.code.same (fun y hy => k4 y (.inl (hy.elim id False.elim))) fun y hy => k6 y (hy.elim id False.elim)
  have hok := hD2.ok
  have hn2 : s2.code.length = s2.n := cl_row insc_len (by omega) hC4.len
  clear hM4 k1 k2 k3 k4 k5 k6 hv4 hf4 hT hTy hD0 hD2 htp2 hop hv2 hf2 hs0c
  refine cv_seq_k fun K hK => ?_
  refine cv_seq_k fun K hK => ?_
  refine cv_region_then rfl ?_
  simp -implicitDefEqProofs (disch := first | omega | decide) only [seval, -Int.reducePow, -Nat.reducePow, cC, pv, binv, sMk2, undef, g2, g3, g6]
  refine hK _ _ ?_
  clear hK K
  refine cv_cond ?_
  simp -implicitDefEqProofs (disch := first | omega | decide) only [seval, -Int.reducePow, -Nat.reducePow, cC, pv, binv, sMk2, undef, g2, g3, g6]
  refine ⟨fun hc => ?_, fun hc => ?_⟩
  · have hn5 := nextF_lt (l := x.l) (i := j2) (m := 5) (by omega)
    have e5 := i64v (nextF x.l j2 5) (by omega)
    refine cv_seq_k fun K hK => ?_
    refine cv_region_then rfl ?_
    simp -implicitDefEqProofs (disch := first | omega | decide) only [seval, -Int.reducePow, -Nat.reducePow, cC, pv, binv, sMk2, undef, g2, g3, g6]
    refine callV_mod1 4 (fun w hw => next_anyN x.tb x.TA x.tn x.tc x.l j2 5 w (hw.hold 4 rfl) (hE.atM' hw ha) ha hl (by omega) (by omega)) rfl ?_
    try simp -implicitDefEqProofs (disch := first | omega | decide) only [seval, -Int.reducePow, -Nat.reducePow, cC, pv, binv, sMk2, undef, e5, g2, g3, g6]
    intro b68 hb68 h68
    refine hK _ _ ?_
    clear hK K
    refine cv_gen fun G7 hG => ?_
    have g7_0 := congrFun hG 0
    have g7_6 := congrFun hG 6
    have g7_7 := congrFun hG 7
    have g7_13 := congrFun hG 13
    clear hG
    try simp -implicitDefEqProofs (disch := first | omega | decide) only [seval, -Int.reducePow, -Nat.reducePow, cC, pv, binv, sMk2, undef, g2, g3, g6] at g7_0 g7_6 g7_7 g7_13
    have g7 := And.intro g7_0 (And.intro g7_6 (And.intro g7_7 g7_13))
    refine cv_blkrow 2 3 rfl (by omega) ?_
    refine cv_seq_k fun K hK => ?_
    refine cv_cut (fun _ _ => True) (fun F' L' => ∃ (cs : List Ins) (A6 : Option Addr) (c6 : Nat), F' 0 = G7 0 ∧ F' 6 = G7 6 ∧ F' 7 = G7 7 ∧ F' 13 = .slice A6 cs.length c6 ∧ L' = [.row (.slice A6 cs.length c6) 55 2 cs.length (cl insc cs), snap [x.tb] W v4 f4, .row (.slice (some ⟨b58, 0, none⟩) 1 1) 58 4 1 [Value.int IntKind.i64 0, Value.int IntKind.i64 0, Value.int IntKind.i64 x.loc, Value.slice s2.A s2.n s2.c], .blk b7 29 [.slice (some ⟨tb, 0, none⟩) 3 3, .slice (some ⟨b58, 0, none⟩) 1 1], .blk b6 29 [.slice none 0 0, .slice none 0 0], coT x (j2 + 1 + 1)] ∧ (∀ i ∈ cs, insOk i) ∧ 3 ≤ cs.length ∧ cs.length ≤ 4) ?_ ?_
    · refine cv_seq_k fun K hK => ?_
      refine cv_region_then rfl ?_
      simp -implicitDefEqProofs (disch := first | omega | decide) only [seval, -Int.reducePow, -Nat.reducePow, cC, pv, binv, sMk2, undef, g2, g3, g7]
      refine callV_mod1 5 (fun w hw => next_anyN x.tb x.TA x.tn x.tc x.l (j2 + 1) 4 w (hw.hold 5 rfl) (hE.atM' hw ha) ha hl (by omega) (by omega)) rfl ?_
      try simp -implicitDefEqProofs (disch := first | omega | decide) only [seval, -Int.reducePow, -Nat.reducePow, cC, pv, binv, sMk2, undef, g2, g3, g7]
      refine hK _ _ ?_
      clear hK K
      refine cv_cond ?_
      simp -implicitDefEqProofs (disch := first | omega | decide) only [seval, -Int.reducePow, -Nat.reducePow, cC, pv, binv, sMk2, undef, g2, g3, g7]
      refine ⟨fun hc => ?_, fun hc => ?_⟩
      · refine cv_pick_post [0, 2, 3, 4, 5, 6] (by decide) ?_
        refine cv_region_q rfl ?_
        simp -implicitDefEqProofs (disch := first | omega | decide) only [seval, -Int.reducePow, -Nat.reducePow, cC, pv, binv, sMk2, undef, g2, g3, g7]
        intro b74 hb74 h74
        refine appV_at 1 tap56 rfl (fun w hw => src_blk (size := 2) (.head _) rfl hw) rfl (by omega) (by omega) ?_
        intro A6 c6 hl6 hr6
        simp -implicitDefEqProofs (disch := first | omega | decide) only [seval, -Int.reducePow, -Nat.reducePow, cC, pv, binv, sMk2, undef, g2, g3, g7]
        refine ⟨[⟨2, 0⟩, ⟨1, nextF x.l j2 5⟩, ⟨6, 0⟩, ⟨21, 1⟩], A6, c6, ?_⟩
        exact ⟨rfl, rfl, insOk4 (by omega), by simp, by simp⟩
      · refine cv_skip ?_
        try simp only [blockQ, thenQ]
        refine ⟨[⟨2, 0⟩, ⟨1, nextF x.l j2 5⟩, ⟨6, 0⟩], some ⟨b68, 0, none⟩, 3, ?_⟩
        simp -implicitDefEqProofs (disch := first | omega | decide) only [seval, -Int.reducePow, -Nat.reducePow, cC, pv, binv, sMk2, undef, g2, g3, g7]
        exact ⟨rfl, by simpa using insOk3 (n := nextF x.l j2 5) (by omega)⟩
    intro G8 L' _ hF
    obtain ⟨cs, A6, c6, q0, q6, q7, q13, rfl, ⟨hcs, hcl3, hcl4⟩⟩ := hF
    have g8_0 := q0.trans g7_0
    have g8_6 := q6.trans g7_6
    have g8_7 := q7.trans g7_7
    have g8_13 := q13
    clear q0 q6 q7 q13
    have g8 := And.intro g8_0 (And.intro g8_6 (And.intro g8_7 g8_13))
    refine hK _ _ ?_
    clear hK K
    refine cv_q ?_
    refine cv_tree [3] (by decide) (by simp only [pickL, nth, suf_cons, suf_nil, List.mem_cons, true_or, or_true, and_true, eq_self]) (.rd 0 (.rd 1 (.rd 2 (.rd 4 (.rd 5 (.alt 3 6 (.act 6 (.act 7 (.rd 8 (.act 9 (.act 10 (.rd 11 (.act 12 (.done)))))))) (.act 3 (.act 7 (.rd 8 (.act 9 (.act 10 (.rd 11 (.act 12 (.done)))))))))))))) [12] mixA rfl (by kernel_rfl) (by kernel_rfl) (by kernel_rfl) (by kernel_rfl) ?_
    simp only [pickL, nth]
    simp -implicitDefEqProofs (disch := first | omega | decide) only [seval, -Int.reducePow, -Nat.reducePow, cC, pv, binv, sMk2, undef, g2, g3, g8]
    have hn3 := nextF_lt (l := x.l) (i := j2 + 1 + 1) (m := 3) (by omega)
    obtain ⟨q3, hq3⟩ : ∃ q, nextF x.l (j2 + 1 + 1) 3 = q := ⟨_, rfl⟩
    rw [hq3] at hn3
    refine ⟨?_, ?_⟩
    · refine callV_mod1 5 (fun w hw => next_anyN x.tb x.TA x.tn x.tc x.l (j2 + 1 + 1) 3 w (hw.hold 5 rfl) (hE.atM' hw ha) ha hl (by omega) (by omega)) rfl ?_
      try simp -implicitDefEqProofs (disch := first | omega | decide) only [seval, -Int.reducePow, -Nat.reducePow, cC, pv, binv, sMk2, undef, hq3, g2, g3, g8]
      intro b82 hb82 h82
      refine appV_at 1 tap56 rfl (fun w hw => src_blk (size := 2) (.head _) rfl hw) rfl (by omega) (by omega) ?_
      intro A7 c7 hl7 hr7
      simp -implicitDefEqProofs (disch := first | omega | decide) only [seval, -Int.reducePow, -Nat.reducePow, cC, pv, binv, sMk2, undef, g2, g3, g8]
      intro b85 hb85 h85
      refine appV_at 4 tap27 rfl (fun w hw => src_blk (size := 4) (.head _) rfl hw) rfl (by omega) (by omega) ?_
      intro A8 c8 hl8 hr8
      simp -implicitDefEqProofs (disch := first | omega | decide) only [seval, -Int.reducePow, -Nat.reducePow, cC, pv, binv, sMk2, undef, g2, g3, g8]
      refine ⟨[0, 4, 2, 5, 6, 7], by decide, ?_⟩
      simp only [pickL, nth]
      refine hK _ _ ?_
      clear hK K
      refine cv_gen fun G9 hG => ?_
      have g9_6 := congrFun hG 6
      have g9_7 := congrFun hG 7
      clear hG
      try simp -implicitDefEqProofs (disch := first | omega | decide) only [seval, -Int.reducePow, -Nat.reducePow, cC, pv, binv, sMk2, undef, g2, g3, g8] at g9_6 g9_7
      have g9 := And.intro g9_6 g9_7
      refine cv_snap [0, 3, 4, 5] (by decide) fun v5 f5 hv5 hf5 => ?_
      simp only [pickL, nth]
      have hM5 : ∀ m ∈ [x.tb], ∃ r ∈ pickL [0, 3, 4, 5] [Res.row (Value.slice A8 2 c8) 58 4 2 [Value.int IntKind.i64 0, Value.int IntKind.i64 0, Value.int IntKind.i64 x.loc, Value.slice s2.A s2.n s2.c, Value.int IntKind.i64 1, Value.int IntKind.i64 1, Value.int IntKind.i64 q3, Value.slice A7 (cs.length + 1) c7], snap [x.tb] W v4 f4, Res.row (Value.slice A7 (cs.length + 1) c7) 55 2 (cs.length + 1) (cl insc cs ++ [Value.int IntKind.i64 22, Value.int IntKind.u64 0]), .blk b7 29 [.slice (some ⟨tb, 0, none⟩) 3 3, Value.slice A8 2 c8], .blk b6 29 [.slice none 0 0, .slice none 0 0], coT x (j2 + 1 + 1 + 1)], m ∈ r.foot := by simp [pickL, nth, Res.foot, coT]
      obtain ⟨k1, k2⟩ := hv5.snapK hf5 1 rfl (by decide) hM5
      have k3 := hv5.footK hf5 (k := 1) rfl (by decide) hM5
      have k4 := hv5.footK hf5 (k := 2) rfl (by decide) hM5
      simp only [snap_foot] at k3
      have hT5 : Sd v5 (fun y => y ∈ f5) 2 (some ⟨tb, 0, none⟩) 3 3 (cl tyc ts) := hT4.same (fun y hy => k1 y (.inl hy)) k3
      have hTy5 : ∀ t ∈ ts, Sd v5 (fun y => y ∈ f5) 2 t.A t.n t.c (cl fdc t.fs) := fun t ht => (hTy4 t ht).same (fun y hy => k1 y (.inl hy)) k3
      have hC5 : Sd v5 (fun y => y ∈ f5) 2 s2.A s2.n s2.c (cl insc s2.code) := hC4.same (fun y hy => k1 y (.inl hy)) k3
      have hB5 : Sd v5 (fun y => y ∈ f5) 2 A7 (cs.length + 1) c7 (cl insc (cs ++ [⟨22, 0⟩])) := by
        rw [cl_snoc]
        exact Sd.of_own (hv5.holds _ (.tail _ (.tail _ (.head _)))) fun g hg => k4 g (by simpa [Res.foot] using hg)
      clear hM5 k1 k2 k3 k4 hv5 hf5
      refine cv_pick [0, 1, 4, 2, 3] (by decide) ?_
      simp only [pickL, nth]
      refine cv_seq_k fun K hK => ?_
      refine cv_region_then rfl ?_
      simp -implicitDefEqProofs (disch := first | omega | decide) only [seval, -Int.reducePow, -Nat.reducePow, cC, pv, binv, sMk2, undef, g2, g3, g9]
      refine hK _ _ ?_
      clear hK K
      refine cv_ret ?_
      simp -implicitDefEqProofs (disch := first | omega | decide) only [seval, -Int.reducePow, -Nat.reducePow, cC, pv, binv, sMk2, undef, retQ2, ressV, packV, g2, g3, g9]
      intro w hw
      exact made_two hw hT5 hTy5 hC5 hB5 hTc ht3 hok (by omega) (by omega) (by omega) hcs (by omega) (by omega) hn3 (by omega)
    · intro b82 hb82 h82
      refine callV_mod1 6 (fun w hw => next_anyN x.tb x.TA x.tn x.tc x.l (j2 + 1 + 1) 3 w (hw.hold 6 rfl) (hE.atM' hw ha) ha hl (by omega) (by omega)) rfl ?_
      try simp -implicitDefEqProofs (disch := first | omega | decide) only [seval, -Int.reducePow, -Nat.reducePow, cC, pv, binv, sMk2, undef, hq3, g2, g3, g8]
      refine appV_at 1 tap56 rfl (fun w hw => src_blk (size := 2) (.head _) rfl hw) rfl (by omega) (by omega) ?_
      intro A7 c7 hl7 hr7
      simp -implicitDefEqProofs (disch := first | omega | decide) only [seval, -Int.reducePow, -Nat.reducePow, cC, pv, binv, sMk2, undef, g2, g3, g8]
      intro b85 hb85 h85
      refine appV_at 4 tap27 rfl (fun w hw => src_blk (size := 4) (.head _) rfl hw) rfl (by omega) (by omega) ?_
      intro A8 c8 hl8 hr8
      simp -implicitDefEqProofs (disch := first | omega | decide) only [seval, -Int.reducePow, -Nat.reducePow, cC, pv, binv, sMk2, undef, g2, g3, g8]
      refine ⟨[0, 4, 2, 5, 6, 7], by decide, ?_⟩
      simp only [pickL, nth]
      refine hK _ _ ?_
      clear hK K
      refine cv_gen fun G10 hG => ?_
      have g10_6 := congrFun hG 6
      have g10_7 := congrFun hG 7
      clear hG
      try simp -implicitDefEqProofs (disch := first | omega | decide) only [seval, -Int.reducePow, -Nat.reducePow, cC, pv, binv, sMk2, undef, g2, g3, g8] at g10_6 g10_7
      have g10 := And.intro g10_6 g10_7
      refine cv_snap [0, 3, 4, 5] (by decide) fun v5 f5 hv5 hf5 => ?_
      simp only [pickL, nth]
      have hM5 : ∀ m ∈ [x.tb], ∃ r ∈ pickL [0, 3, 4, 5] [Res.row (Value.slice A8 2 c8) 58 4 2 [Value.int IntKind.i64 0, Value.int IntKind.i64 0, Value.int IntKind.i64 x.loc, Value.slice s2.A s2.n s2.c, Value.int IntKind.i64 1, Value.int IntKind.i64 1, Value.int IntKind.i64 q3, Value.slice A7 (cs.length + 1) c7], snap [x.tb] W v4 f4, Res.row (Value.slice A7 (cs.length + 1) c7) 55 2 (cs.length + 1) (cl insc cs ++ [Value.int IntKind.i64 22, Value.int IntKind.u64 0]), .blk b7 29 [.slice (some ⟨tb, 0, none⟩) 3 3, Value.slice A8 2 c8], .blk b6 29 [.slice none 0 0, .slice none 0 0], coT x (j2 + 1 + 1 + 1)], m ∈ r.foot := by simp [pickL, nth, Res.foot, coT]
      obtain ⟨k1, k2⟩ := hv5.snapK hf5 1 rfl (by decide) hM5
      have k3 := hv5.footK hf5 (k := 1) rfl (by decide) hM5
      have k4 := hv5.footK hf5 (k := 2) rfl (by decide) hM5
      simp only [snap_foot] at k3
      have hT5 : Sd v5 (fun y => y ∈ f5) 2 (some ⟨tb, 0, none⟩) 3 3 (cl tyc ts) := hT4.same (fun y hy => k1 y (.inl hy)) k3
      have hTy5 : ∀ t ∈ ts, Sd v5 (fun y => y ∈ f5) 2 t.A t.n t.c (cl fdc t.fs) := fun t ht => (hTy4 t ht).same (fun y hy => k1 y (.inl hy)) k3
      have hC5 : Sd v5 (fun y => y ∈ f5) 2 s2.A s2.n s2.c (cl insc s2.code) := hC4.same (fun y hy => k1 y (.inl hy)) k3
      have hB5 : Sd v5 (fun y => y ∈ f5) 2 A7 (cs.length + 1) c7 (cl insc (cs ++ [⟨22, 0⟩])) := by
        rw [cl_snoc]
        exact Sd.of_own (hv5.holds _ (.tail _ (.tail _ (.head _)))) fun g hg => k4 g (by simpa [Res.foot] using hg)
      clear hM5 k1 k2 k3 k4 hv5 hf5
      refine cv_pick [0, 1, 4, 2, 3] (by decide) ?_
      simp only [pickL, nth]
      refine cv_seq_k fun K hK => ?_
      refine cv_region_then rfl ?_
      simp -implicitDefEqProofs (disch := first | omega | decide) only [seval, -Int.reducePow, -Nat.reducePow, cC, pv, binv, sMk2, undef, g2, g3, g10]
      refine hK _ _ ?_
      clear hK K
      refine cv_ret ?_
      simp -implicitDefEqProofs (disch := first | omega | decide) only [seval, -Int.reducePow, -Nat.reducePow, cC, pv, binv, sMk2, undef, retQ2, ressV, packV, g2, g3, g10]
      intro w hw
      exact made_two hw hT5 hTy5 hC5 hB5 hTc ht3 hok (by omega) (by omega) (by omega) hcs (by omega) (by omega) hn3 (by omega)
  refine cv_skip ?_
  try simp only [blockQ, thenQ]
  refine hK _ _ ?_
  clear hK K
  refine cv_gen fun G11 hG => ?_
  have g11_6 := congrFun hG 6
  have g11_7 := congrFun hG 7
  clear hG
  try simp -implicitDefEqProofs (disch := first | omega | decide) only [seval, -Int.reducePow, -Nat.reducePow, cC, pv, binv, sMk2, undef, g2, g3, g6] at g11_6 g11_7
  have g11 := And.intro g11_6 g11_7
  refine cv_pick [0, 1, 4, 2, 3] (by decide) ?_
  simp only [pickL, nth]
  refine cv_seq_k fun K hK => ?_
  refine cv_region_then rfl ?_
  simp -implicitDefEqProofs (disch := first | omega | decide) only [seval, -Int.reducePow, -Nat.reducePow, cC, pv, binv, sMk2, undef, g2, g3, g11]
  refine hK _ _ ?_
  clear hK K
  refine cv_ret ?_
  simp -implicitDefEqProofs (disch := first | omega | decide) only [seval, -Int.reducePow, -Nat.reducePow, cC, pv, binv, sMk2, undef, retQ2, ressV, packV, g2, g3, g11]
  intro w hw
  refine ⟨(⟨some ⟨tb, 0, none⟩, 3, 3, ts, some ⟨b58, 0, none⟩, 1, 1, [⟨0, 0, x.loc, s2.A, s2.n, s2.c, s2.code⟩]⟩, j2), rfl, ⟨module_end (x := x) (j := j2) (gs := [⟨0, 0, x.loc, s2.A, s2.n, s2.c, s2.code⟩]) hw hT4 hTy4 (by simpa using hC4) (by simpa using hok), ?_⟩, hw.hold 2 rfl, hw.pres⟩
  refine ⟨ht3, hTc, by simp, by simp, fun q g hg => ?_⟩
  obtain ⟨rfl, rfl⟩ : q = 0 ∧ g = ⟨0, 0, x.loc, s2.A, s2.n, s2.c, s2.code⟩ := by
    cases q with
    | zero => exact ⟨rfl, by simpa using hg.symm⟩
    | succ q => simp at hg
  dsimp only
  exact ⟨by omega, fun _ => ⟨rfl, rfl⟩, by omega, by omega, hok⟩
end Go.Proofs.Ytlbmnioibiomfaa
