/- The arena's code that writes: Alloc, Free. -/
import Derived.Test.YtfaanphjaghbpaaArRead
namespace Go.Proofs.Ytfaanphjaghbpaa
open Go.RowKit Go.Shelf
set_option linter.unusedVariables false
set_option linter.unusedSimpArgs false
set_option maxRecDepth 100000
def splice (bs : List Nat) (p : Nat) (ns : List Nat) : List Nat := bs.take p ++ ns ++ bs.drop (p + ns.length)
theorem splice_len {bs ns : List Nat} {p : Nat} (h : p + ns.length ≤ bs.length) : (splice bs p ns).length = bs.length := by simp [splice]; omega
theorem byt_splice (bs : List Nat) (p : Nat) (ns : List Nat) : (byt bs).take p ++ byt ns ++ (byt bs).drop (p + ns.length) = byt (splice bs p ns) := by simp [byt, splice]
theorem splice_lt {bs ns : List Nat} {p : Nat} (h1 : ∀ b ∈ bs, b < 256) (h2 : ∀ b ∈ ns, b < 256) : ∀ b ∈ splice bs p ns, b < 256 := fun b hb => by
  unfold splice at hb
  rcases List.mem_append.1 hb with hb | hb
  · rcases List.mem_append.1 hb with hb | hb
    · exact h1 b (List.mem_of_mem_take hb)
    · exact h2 b hb
  · exact h1 b (List.mem_of_mem_drop hb)
set_option maxRecDepth 100000 in
theorem sArMut1 : type_of% (And.intro (And.intro (And.intro @eBox.eq_1 @exV.eq_1) (And.intro @alL.eq_1 @arL.eq_1)) (And.intro (And.intro @Nat.mul_one @wrap_in) (And.intro @cMp @cM))) := (And.intro (And.intro (And.intro @eBox.eq_1 @exV.eq_1) (And.intro @alL.eq_1 @arL.eq_1)) (And.intro (And.intro @Nat.mul_one @wrap_in) (And.intro @cMp @cM)))
set_option maxHeartbeats 2000000 in
theorem arAlloc_any (x : ArR) (us : List Ext) (n : Int) (W : World) (hst : St (feet (arL x)) W (arL x) W) (hI : Ex.Inv (x.N : Int) us x.al.fr x.al.tk) (hl : us.length ≤ 90) (hbs : x.bs.length = x.N) :
    Calls Try.prog 11 #[.pointer (some ⟨x.bR, 0, none⟩), .int .i64 n] W
    fun e w' => ∃ y : AlR, e = .returned (.tuple #[exV (Ex.findF x.al.fr n).1, .int .i64 (Ex.findF x.al.fr n).2]) ∧
      (y.bA = x.al.bA ∧ (¬ (Ex.findF x.al.fr n).2 = 0 → y = x.al) ∧ ((Ex.findF x.al.fr n).2 = 0 → Ex.Inv (x.N : Int) (us ++ [(Ex.findF x.al.fr n).1]) y.fr y.tk)) ∧ St (feet (arL x)) W (arL { x with al := y }) w' := by
  have hfl := hI.frLen
  have hN1 := hI.N1
  obtain ⟨M, hM⟩ : ∃ M, feet (arL x) = M := ⟨_, rfl⟩
  rw [hM] at hst ⊢
  clear hM
  obtain ⟨al, bR, bB, N, bs⟩ := x
  dsimp only at hfl hI hbs hN1
  obtain ⟨q, hq⟩ : ∃ q, Ex.findF al.fr n = q := ⟨_, rfl⟩
  dsimp only
  rw [hq]
  unfold arL alL at hst
  dsimp only at hst
  refine calls_cv2 (M := M) (n := 12) [.cell 4 28, .tmp 5] rfl Try.func11 rfl rfl (Nat.le_of_ble_eq_true rfl)  hst ?_
  refine cv_seq_k fun K hK => ?_
  refine cv_region_then rfl ?_
  simp -implicitDefEqProofs (disch := first | omega | decide) only [seval, -Int.reducePow, -Nat.reducePow, cC, pv, binv, sArMut1, undef]
  intro b4 hb4 hf4
  refine hK _ _ ?_
  clear hK K
  refine cv_seq_k fun K hK => ?_
  refine cv_region_then rfl ?_
  simp -implicitDefEqProofs (disch := first | omega | decide) only [seval, -Int.reducePow, -Nat.reducePow, cC, pv, binv, sArMut1, undef]
  refine callV_ret (fun w hw => parts_any ⟨al, bR, bB, N, bs⟩ w (ArW.of hw 1 2 3 4 5 rfl rfl rfl rfl rfl (by dsimp only; omega) hbs (by dsimp only; omega))) ?_
  try simp -implicitDefEqProofs (disch := first | omega | decide) only [seval, -Int.reducePow, -Nat.reducePow, cC, pv, binv, sArMut1, undef]
  refine callV_grp [3, 4, 5] [0, 1, 2] (by decide) (fun _ : AlR => .tuple #[exV q.1, .int .i64 q.2]) (fun y => alL y) (fun y => y.bA = al.bA ∧ (¬ q.2 = 0 → y = al) ∧ (q.2 = 0 → Ex.Inv (N : Int) (us ++ [q.1]) y.fr y.tk)) (fun w hw hs => by
    have := aAlloc_any al N us n w hs hI (by omega)
    rw [hq] at this
    exact this) ?_
  intro y hy
  simp only [pickL, nth]
  simp -implicitDefEqProofs (disch := first | omega | decide) only [seval, -Int.reducePow, -Nat.reducePow, cC, pv, binv, sArMut1, undef]
  refine hK _ _ ?_
  clear hK K
  refine cv_ret ?_
  simp -implicitDefEqProofs (disch := first | omega | decide) only [seval, -Int.reducePow, -Nat.reducePow, cC, pv, binv, sArMut1, undef, retQ2, ressV, packV]
  intro w hw
  refine ⟨y, hy, ?_⟩
  have h9 := hw.pick (ix := [4, 5, 0, 1, 2]) (by decide)
  simp only [pickL, nth] at h9
  rw [hy.1] at h9 ⊢
  exact h9
set_option maxHeartbeats 2000000 in
theorem arFree_any (x : ArR) (us : List Ext) (e : Ext) (W : World) (hst : St (feet (arL x)) W (arL x) W) (hI : Ex.Inv (x.N : Int) us x.al.fr x.al.tk) (hl : us.length ≤ 90) (hbs : x.bs.length = x.N) :
    Calls Try.prog 28 #[.pointer (some ⟨x.bR, 0, none⟩), exV e] W
    fun en w' => ∃ y : AlR, en = .returned (.int .i64 (if e ∈ us then 0 else 6)) ∧
      (y.bA = x.al.bA ∧ (e ∉ us → y = x.al) ∧ (e ∈ us → Ex.Inv (x.N : Int) (us.filter fun x => decide (x ≠ e)) y.fr y.tk)) ∧ St (feet (arL x)) W (arL { x with al := y, bs := if e ∈ us then splice x.bs e.off.toNat (List.replicate e.len.toNat 0) else x.bs }) w' := by
  have hfl := hI.frLen
  have hN1 := hI.N1
  have hnat := fun h => hI.nat (e := e) h
  obtain ⟨M, hM⟩ : ∃ M, feet (arL x) = M := ⟨_, rfl⟩
  rw [hM] at hst ⊢
  clear hM
  obtain ⟨al, bR, bB, N, bs⟩ := x
  dsimp only at hfl hI hbs hN1 hnat
  dsimp only
  unfold arL alL at hst
  dsimp only at hst
  by_cases he : e ∈ us
  · obtain ⟨o, l, rfl, hl0, hoN⟩ := hnat he
    obtain ⟨l, rfl⟩ : ∃ l', l = l' + 1 := ⟨l - 1, by omega⟩
    have hz : (byt bs).take o ++ List.replicate (l + 1) (Value.int .u8 0) ++ (byt bs).drop (o + (l + 1)) = byt (splice bs o (List.replicate (l + 1) 0)) := by
      have := byt_splice bs o (List.replicate (l + 1) 0)
      rw [List.length_replicate] at this
      rw [← this]
      simp [byt]
    refine calls_cv (M := M) (n := 23) [.tmp 4] rfl Try.func28 rfl rfl (Nat.le_of_ble_eq_true rfl)  hst ?_
    refine cv_seq_k fun K hK => ?_
    refine cv_region_then rfl ?_
    simp -implicitDefEqProofs (disch := first | omega | decide) only [seval, -Int.reducePow, -Nat.reducePow, cC, pv, binv, sArMut1, undef]
    intro b3 hb3 hf3
    refine hK _ _ ?_
    clear hK K
    refine cv_seq_k fun K hK => ?_
    refine cv_region_then rfl ?_
    simp -implicitDefEqProofs (disch := first | omega | decide) only [seval, -Int.reducePow, -Nat.reducePow, cC, pv, binv, sArMut1, undef]
    refine callV_ret (fun w hw => arSlice_yes ⟨al, bR, bB, N, bs⟩ us w o (l + 1) (ArW.of hw 1 2 3 4 5 rfl rfl rfl rfl rfl (by dsimp only; omega) hbs (by dsimp only; omega)) hI he (by omega) hoN) ?_
    try simp -implicitDefEqProofs (disch := first | omega | decide) only [seval, -Int.reducePow, -Nat.reducePow, cC, pv, binv, sArMut1, undef]
    refine hK _ _ ?_
    clear hK K
    refine cv_seq_k fun K hK => ?_
    refine cv_seq_k fun K hK => ?_
    refine cv_region_then rfl ?_
    simp -implicitDefEqProofs (disch := first | omega | decide) only [seval, -Int.reducePow, -Nat.reducePow, cC, pv, binv, sArMut1, undef]
    refine hK _ _ ?_
    clear hK K
    refine cv_cond ?_
    simp -implicitDefEqProofs (disch := first | omega | decide) only [seval, -Int.reducePow, -Nat.reducePow, cC, pv, binv, sArMut1, undef]
    refine cv_skip ?_
    try simp only [blockQ, thenQ]
    refine hK _ _ ?_
    clear hK K
    refine cv_seq_k fun K hK => ?_
    refine cv_region_then rfl ?_
    simp -implicitDefEqProofs (disch := first | omega | decide) only [seval, -Int.reducePow, -Nat.reducePow, cC, pv, binv, sArMut1, undef]
    refine xv_clear 2 (T := 5) (u := .int .u8 0) tap36 (by kernel_rfl) rfl rfl rfl (by rw [byt_len]; omega) ?_
    simp -implicitDefEqProofs (disch := first | omega | decide) only [seval, -Int.reducePow, -Nat.reducePow, cC, pv, binv, sArMut1, undef, hz]
    refine hK _ _ ?_
    clear hK K
    refine cv_seq_k fun K hK => ?_
    refine cv_draw_of (pickL [0, 1, 2] _) (fun w hw => hw.pick (by decide)) (by simp only [pickL, nth, suf_cons, suf_nil, List.mem_cons, true_or, or_true, and_true, eq_self]) [(true, 0), (true, 1), (true, 2), (true, 3), (true, 4), (false, 5), (true, 6)] [] mixA rfl (by kernel_rfl) (by kernel_rfl) rfl rfl ?_
    simp -implicitDefEqProofs (disch := first | omega | decide) only [seval, -Int.reducePow, -Nat.reducePow, cC, pv, binv, sArMut1, undef]
    refine callV_grp [3, 4, 5] [0, 1, 2] (by decide) (fun _ : AlR => .int .i64 0) (fun y => alL y) (fun y => y.bA = al.bA ∧ Ex.Inv (N : Int) (us.filter fun x => decide (x ≠ (⟨(o : Int), ((l + 1 : Nat) : Int)⟩ : Ext))) y.fr y.tk) (fun w hw hs => by
      refine (aFree_any al N us ⟨(o : Int), ((l + 1 : Nat) : Int)⟩ w hs hI (by omega)).mono ?_
      rintro e w' ⟨y, rfl, ⟨h1, -, h3⟩, h4⟩
      exact ⟨y, by rw [if_pos he], ⟨h1, h3 he⟩, h4⟩) ?_
    intro y hy
    simp only [pickL, nth]
    simp -implicitDefEqProofs (disch := first | omega | decide) only [seval, -Int.reducePow, -Nat.reducePow, cC, pv, binv, sArMut1, undef]
    refine hK _ _ ?_
    clear hK K
    refine cv_ret ⟨_, (by simp -implicitDefEqProofs (disch := first | omega | decide) only [seval, -Int.reducePow, -Nat.reducePow, cC, pv, binv, sArMut1, undef]; rfl), fun w hw => ?_⟩
    rw [if_pos he, if_pos he]
    refine ⟨y, rfl, ⟨hy.1, fun h => absurd he h, fun _ => hy.2⟩, ?_⟩
    have h9 := hw.pick (ix := [4, 5, 0, 1, 2]) (by decide)
    simp only [pickL, nth] at h9
    unfold arL alL
    dsimp only
    rw [hy.1] at h9 ⊢
    rw [show ((o : Int)).toNat = o by omega, show (((l + 1 : Nat) : Int)).toNat = l + 1 by omega]
    exact h9
  · refine calls_cv (M := M) (n := 23) [.tmp 4] rfl Try.func28 rfl rfl (Nat.le_of_ble_eq_true rfl)  hst ?_
    refine cv_seq_k fun K hK => ?_
    refine cv_region_then rfl ?_
    simp -implicitDefEqProofs (disch := first | omega | decide) only [seval, -Int.reducePow, -Nat.reducePow, cC, pv, binv, sArMut1, undef]
    intro b3 hb3 hf3
    refine hK _ _ ?_
    clear hK K
    refine cv_seq_k fun K hK => ?_
    refine cv_region_then rfl ?_
    simp -implicitDefEqProofs (disch := first | omega | decide) only [seval, -Int.reducePow, -Nat.reducePow, cC, pv, binv, sArMut1, undef]
    refine callV_ret (fun w hw => arSlice_no ⟨al, bR, bB, N, bs⟩ us w e (ArW.of hw 1 2 3 4 5 rfl rfl rfl rfl rfl (by dsimp only; omega) hbs (by dsimp only; omega)) hI he) ?_
    try simp -implicitDefEqProofs (disch := first | omega | decide) only [seval, -Int.reducePow, -Nat.reducePow, cC, pv, binv, sArMut1, undef]
    refine hK _ _ ?_
    clear hK K
    refine cv_seq_k fun K hK => ?_
    refine cv_seq_k fun K hK => ?_
    refine cv_region_then rfl ?_
    simp -implicitDefEqProofs (disch := first | omega | decide) only [seval, -Int.reducePow, -Nat.reducePow, cC, pv, binv, sArMut1, undef]
    refine hK _ _ ?_
    clear hK K
    refine cv_cond ?_
    simp -implicitDefEqProofs (disch := first | omega | decide) only [seval, -Int.reducePow, -Nat.reducePow, cC, pv, binv, sArMut1, undef]
    refine cv_seq_k fun K hK => ?_
    refine cv_region_then rfl ?_
    simp -implicitDefEqProofs (disch := first | omega | decide) only [seval, -Int.reducePow, -Nat.reducePow, cC, pv, binv, sArMut1, undef]
    refine hK _ _ ?_
    clear hK K
    refine cv_ret ⟨_, (by simp -implicitDefEqProofs (disch := first | omega | decide) only [seval, -Int.reducePow, -Nat.reducePow, cC, pv, binv, sArMut1, undef]; rfl), fun w hw => ?_⟩
    rw [if_neg he, if_neg he]
    exact ⟨al, rfl, ⟨rfl, fun _ => rfl, fun h => absurd h he⟩, hw.tail⟩
end Go.Proofs.Ytfaanphjaghbpaa
